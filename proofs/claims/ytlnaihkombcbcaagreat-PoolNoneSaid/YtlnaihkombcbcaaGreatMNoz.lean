/-
  The law PoolNone is true of every input: the statement of the first form.
  pool.Drop: what is left of items.
  pool.Drop, walked.
  winnowingref18.All: items and all that stand in them.
  All that is left of items is used; and it is as little. Of no program but for its data.
  winnowinglaw18.used, at all but fonts.
  pool.Same of one pool and one that is alike.
  winnowinglaw18.PoolNone, walked.
-/
import Derived.Test.YtlnaihkombcbcaaGreatMNoc
import Derived.Test.YtlnaihkombcbcaaGreatMNob
import Derived.Maps.AppendAt
import Derived.Test.YtlnaihkombcbcaaGreatMNoa
import Derived.Test.YtlnaihkombcbcaaGreatPStrs
import Derived.Test.YtlnaihkombcbcaaGreatPFixed
import Derived.Test.YtlnaihkombcbcaaGreatKRow
import Derived.WalkKit
import Derived.ProofKit
import Derived.OpenShut
import Derived.SizedLaws
import Derived.WideKeyArgs
noncomputable section
namespace Go.Proofs.YtlnaihkombcbcaaGreat
open Go.RowKit Go.Sort Go.Ev
def smallP (s : S3) : Prop := s.c.length ≤ 1000000 ∧ s.f.length ≤ 1000000 ∧ s.g.length ≤ 1000000
section
variable {p : S3} {x : Itm} {z : Nat} {pv : Value} {a1 a2 a3 a6 a7 : Option Addr} {c1 c2 c3 c6 c7 : Nat} {w : World}
theorem keep_any (hp : PlAt w pv p) (hs : smallP p) (hz : z ≤ w.heap.size) (hx : okI x) (hi : ItB z w x a1 c1 a2 c2 a3 c3 a6 c6 a7 c7)
    (hrec : ∀ W, Below w.heap.size w W → Calls Tryz.prog 28 #[pv, .slice a7 x.l.length c7] W (DropPost p x.l z W)) :
    Calls Tryz.prog 80 #[pv, itV x.kind a1 x.sels.length c1 a2 x.decls.length c2 a3 x.names.length c3 x.mn x.mx a6 x.vals.length c6 a7 x.l.length c7] w (KeepPost p x z w) := by
  obtain ⟨va, vb, vc, rfl, p1, p2, p3⟩ := hp
  obtain ⟨s1, s2, s3⟩ := hs
  obtain ⟨⟨hd1, hd2⟩, -⟩ := (okI_eq x).1 hx
  have hn : x.decls.length ≤ 1000000 := by omega
  have hnl : ∀ d ∈ x.decls, d.l.length ≤ 1000000 := fun d hd => by
    have := (hd2 d hd).1
    have h2 := cntVs_len d.l
    omega
  by_cases h1 : x.kind = 1
  · exact keep_rule p1 p2.form p3.form s1 hz h1 hn hi.s hi.d hi.n hi.v hi.l
  by_cases h2 : x.kind = 2
  · exact keep_media p1.form p2.form p3.form hz h2 hi hrec
  by_cases h3 : x.kind = 3
  · exact keep_layer p1.form p2.form p3.form hz h3 hi hrec
  by_cases h5 : x.kind = 5
  · by_cases h51 : x.names.length = 1
    · obtain ⟨n, hn⟩ := List.length_eq_one_iff.1 h51
      exact keep_frames1 p1.form p2 s2 p3.form hz h5 hn hi
    · exact keep_frames0 p1.form p2.form p3.form hz h5 h51 hi
  by_cases h6 : x.kind = 6
  · exact keep_font p1.form p2.form p3 s3 hz h6 hn hnl hi
  · exact keep_other p1.form p2.form p3.form hz h1 h2 h3 h5 h6 hi
end
/-- what the loop holds: the row of what is left so far -/
structure DrSt (z B : Nat) (o : Obj) (w : World) (l : List Itm) (v : Value) (W : World) : Prop where
  below : Below B w W
  box : W.heap[B]? = some o
  row : ∃ news, W.ownsRow (B + 1) 53 8 v l.length news ∧ VRs W ⟨fun _ => none, fun b => (b < z ∨ B + 1 ≤ b) ∧ b < W.heap.size ∧ v.ownBlock ≠ some b⟩ (l.flatMap encI) news
  size : B + 1 ≤ W.heap.size
section
variable {z B : Nat} {o : Obj} {w W W' : World} {l : List Itm} {v : Value}
theorem DrSt.step (h : DrSt z B o w l v W) (hb : Below W.heap.size W W') : DrSt z B o w l v W' := by
  obtain ⟨news, h1, h2⟩ := h.row
  refine ⟨h.below.trans (hb.mono (Nat.le_trans (Nat.le_succ _) h.size)), (hb.block _ (Nat.lt_of_lt_of_le (Nat.lt_succ_self _) h.size)).trans h.box, ⟨news, owns_below h1 hb, ?_⟩, Nat.le_trans h.size hb.size⟩
  exact VRs_keep (I := fun b => (b < z ∨ B + 1 ≤ b) ∧ b < W.heap.size ∧ v.ownBlock ≠ some b) (I' := fun b => (b < z ∨ B + 1 ≤ b) ∧ b < W'.heap.size ∧ v.ownBlock ≠ some b) (fun _ hr => ⟨hr.1, Nat.lt_of_lt_of_le hr.2.1 hb.size, hr.2.2⟩) (fun rb hr => hb.block rb hr.2.1) _ h2
theorem DrSt.new (w : World) (o : Obj) : DrSt z w.heap.size o w [] (.slice none 0 0) (w.alloc o) :=
  ⟨below_alloc _ _, World.alloc_heap_new _ _, ⟨[], World.ownsRow_nil _ _ _ _, by rw [List.flatMap_nil, VRs]⟩, by simp⟩
theorem own_lt {C e sz n : Nat} {xs : List Value} (h : W.ownsRow C e sz v n xs) {g : Nat} (hg : v.ownBlock = some g) : C ≤ g ∧ g < W.heap.size := h.lt g hg
/-- one more -/
theorem DrSt.app {y : Itm} {vs news : List Value} {v' : Value} (h : DrSt z B o w l v W) (h0 : W.ownsRow (B + 1) 53 8 v l.length news) (hv0 : VRs W ⟨fun _ => none, fun b => (b < z ∨ B + 1 ≤ b) ∧ b < W.heap.size ∧ v.ownBlock ≠ some b⟩ (l.flatMap encI) news)
    (hy : VRs W ⟨fun _ => none, fun b => (b < z ∨ B + 1 ≤ b) ∧ b < W.heap.size ∧ v.ownBlock ≠ some b⟩ (encI y) vs)
    (hown : W'.ownsRow (B + 1) 53 8 v' (l.length + 1) (news ++ vs)) (hg : W.grownBy W' v.ownBlock) (hblk : v'.ownBlock = v.ownBlock ∨ v'.ownBlock = some W.heap.size) : DrSt z B o w (l ++ [y]) v' W' := by
  have hb : Below (B + 1) W W' := (Below.refl (B + 1) W).grown hg h.size (fun g e => (own_lt h0 e).1)
  have hsame : ∀ rb, rb < W.heap.size → v.ownBlock ≠ some rb → W'.heap[rb]? = W.heap[rb]? := fun rb h1 h2 => hg.block rb h1 fun e => h2 e.symm
  have hI : ∀ rb, (rb < z ∨ B + 1 ≤ rb) ∧ rb < W.heap.size ∧ v.ownBlock ≠ some rb → (rb < z ∨ B + 1 ≤ rb) ∧ rb < W'.heap.size ∧ v'.ownBlock ≠ some rb := fun rb hr => by
    refine ⟨hr.1, Nat.lt_of_lt_of_le hr.2.1 hb.size, fun e => ?_⟩
    rcases hblk with h9 | h9
    · exact hr.2.2 (h9 ▸ e)
    · rw [h9] at e
      have : W.heap.size = rb := by simpa using e
      omega
  refine ⟨h.below.trans (hb.mono (Nat.le_succ _)), (hb.block _ (Nat.lt_succ_self _)).trans h.box, ⟨news ++ vs, by rw [List.length_append]; exact hown, ?_⟩, Nat.le_trans h.size hb.size⟩
  rw [List.flatMap_append, List.flatMap_cons, List.flatMap_nil, List.append_nil]
  exact (VRs_keep (I' := fun b => (b < z ∨ B + 1 ≤ b) ∧ b < W'.heap.size ∧ v'.ownBlock ≠ some b) hI (fun rb hr => hsame rb hr.2.1 hr.2.2) _ hv0).append (VRs_keep (I' := fun b => (b < z ∨ B + 1 ≤ b) ∧ b < W'.heap.size ∧ v'.ownBlock ≠ some b) hI (fun rb hr => hsame rb hr.2.1 hr.2.2) _ hy)
theorem DrSt.new_item {y : Itm} {vs : List Value} {w2 W4 : World} {C : Nat} (h : DrSt z B o w l v W) (hz : z ≤ B) (hC : W.heap.size ≤ C) (hv : VRs w2 (gNw z C w2) (encI y) vs) (hb : Below w2.heap.size w2 W4) :
    VRs W4 ⟨fun _ => none, fun b => (b < z ∨ B + 1 ≤ b) ∧ b < W4.heap.size ∧ v.ownBlock ≠ some b⟩ (encI y) vs := by
  obtain ⟨news, h1, -⟩ := h.row
  have hs := h.size
  refine VRs_keep (I := (gNw z C w2).I) (I' := fun b => (b < z ∨ B + 1 ≤ b) ∧ b < W4.heap.size ∧ v.ownBlock ≠ some b) (fun rb hr => ⟨hr.1.imp id fun h => by omega, Nat.lt_of_lt_of_le hr.2 hb.size, fun e => ?_⟩) (fun rb hr => hb.block rb hr.2) _ hv
  have := own_lt h1 e
  rcases hr.1 with h | h <;> omega
theorem DrSt.done (h : DrSt z w.heap.size o w l v W) : ∃ a c, v = .slice a l.length c ∧ VR W (gNw z w.heap.size W) (.sl l.length 8 (l.flatMap encI)) (.slice a l.length c) ∧ Below w.heap.size w W := by
  obtain ⟨news, h1, h2⟩ := h.row
  rcases h1.2 with ⟨rfl, h0⟩ | ⟨g, cap, cur, rfl, hgB, hg, hc, -, -, ht⟩
  · refine ⟨none, 0, by rw [h0], ⟨none, 0, rfl, by omega, .inl h0⟩, h.below⟩
  · have hgl := (Array.getElem?_eq_some_iff.1 hg).1
    have hI : (gNw z w.heap.size W).I g := ⟨.inr (by omega), hgl⟩
    refine ⟨_, cap, rfl, ⟨_, cap, rfl, hc, .inr ⟨g, 0, rfl, RowR.mk hI fun i a hi => ?_⟩⟩, h.below⟩
    obtain ⟨u, e1, e2⟩ := VRs.get h2 hi
    refine ⟨u, ?_, VR_keep (I' := (gNw z w.heap.size W).I) (fun _ hr => ⟨hr.1.imp id fun h => by omega, hr.2.1⟩) (fun _ _ => rfl) a e2⟩
    rw [Nat.zero_add, Lib.cell_of_heap hg]
    have hlt : i < l.length * 8 := by rw [← len_flatI]; exact (List.getElem?_eq_some_iff.1 hi).1
    rw [← ht, List.getElem?_take, if_pos hlt] at e1
    simpa using e1
end
end Go.Proofs.YtlnaihkombcbcaaGreat
end
noncomputable section
namespace Go.Proofs.YtlnaihkombcbcaaGreat
open Go.RowKit Go.Sort Go.Ev
theorem plW_cells {W : World} {B : Nat} {va vb vc : Value} (h : W.heap[B]? = some (.cells #[va, vb, vc] 41)) : W.cell? ⟨B, 0, none⟩ = some va ∧ W.cell? ⟨B, 1, none⟩ = some vb ∧ W.cell? ⟨B, 2, none⟩ = some vc := by
  refine ⟨?_, ?_, ?_⟩ <;> (rw [Lib.cell_of_heap h]; rfl)
theorem item8_cells {W : World} {B : Nat} {t : TypeId} {x0 x1 x2 x3 x4 x5 x6 x7 : Value} (h : W.heap[B]? = some (.cells #[x0, x1, x2, x3, x4, x5, x6, x7] t)) :
    W.cell? ⟨B, 0, none⟩ = some x0 ∧ W.cell? ⟨B, 1, none⟩ = some x1 ∧ W.cell? ⟨B, 2, none⟩ = some x2 ∧ W.cell? ⟨B, 3, none⟩ = some x3 ∧ W.cell? ⟨B, 4, none⟩ = some x4 ∧ W.cell? ⟨B, 5, none⟩ = some x5 ∧ W.cell? ⟨B, 6, none⟩ = some x6 ∧ W.cell? ⟨B, 7, none⟩ = some x7 := by
  refine ⟨?_, ?_, ?_, ?_, ?_, ?_, ?_, ?_⟩ <;> (rw [Lib.cell_of_heap h]; rfl)
theorem list8_cells {W : World} {B : Nat} {t : TypeId} {x0 x1 x2 x3 x4 x5 x6 x7 : Value} (h : W.heap[B]? = some (.cells #[x0, x1, x2, x3, x4, x5, x6, x7] t)) : ∀ j u, [x0, x1, x2, x3, x4, x5, x6, x7][j]? = some u → W.cell? ((⟨B, 0, none⟩ : Addr).add j) = some u := by
  intro j u hj
  rw [Addr.add_lit, Nat.zero_add, Lib.cell_of_heap h]
  simpa using hj
set_option maxRecDepth 100000 in
set_option maxHeartbeats 8000000 in
theorem drop_any (p : S3) (hs : smallP p) (z : Nat) (N : Nat) : ∀ (l : List Itm), SizeOf.sizeOf l ≤ N → okIs l → cntIs l ≤ 1000 → ∀ (v pv : Value) (w : World), AtB z w (.sl l.length 8 (l.flatMap encI)) v → z ≤ w.heap.size → PlAt w pv p →
    Calls Tryz.prog 28 #[pv, v] w (DropPost p l z w) := by
  induction N with
  | zero => intro l hl; cases l <;> simp at hl <;> omega
  | succ N ih =>
    intro l hl hok hcn v pv w hv hz hp
    obtain ⟨i0, hi, hz0, hz1, hz2⟩ := info_parts Tryz.infoItem
    have hlen : l.length ≤ 1000 := Nat.le_trans (cntIs_len l) hcn
    have hp' := hp
    obtain ⟨va, vb, vc, rfl, p1, p2, p3⟩ := hp
    have D0 : DrSt z w.heap.size (.cells #[va, vb, vc] 41) w [] (.slice none 0 0) (w.alloc (.cells #[va, vb, vc] 41)) := DrSt.new w _
    obtain ⟨va1, va2, va3, rfl⟩ := p1.form
    obtain ⟨vb1, vb2, vb3, rfl⟩ := p2.form
    obtain ⟨vc1, vc2, vc3, rfl⟩ := p3.form
    have D0H := Lib.hid D0
    rcases slB_cells encI 8 encI_len (by decide) hv with ⟨rfl, ad, cap, rfl⟩ | ⟨b, o, cap, rfl, hcap, hpos, hbz, hc⟩
    · clear ih hl hok hcn hv hz hp' p1 p2 p3 D0
      go_enter Tryz.func28, Tryz.ntmps28
      go_wp2
      go_loopw [5, 7, 8, 9, 12] (fun v5 _ _ _ i wr => i = .int .i64 0 ∧ v5 = .slice none 0 0 ∧ wr = (w.alloc (.cells #[.slice va1 va2 va3, .slice vb1 vb2 vb3, .slice vc1 vc2 vc3] 41))) (fun _ _ _ _ _ _ => 0)
      case atStart => exact ⟨rfl, rfl, rfl⟩
      case round =>
        obtain ⟨rfl, rfl, rfl⟩ := hrel
        go_wp2
        go_ret
        refine ⟨none, 0, by rw [dropIs_nil]; rfl, ?_, D0H.out.below⟩
        rw [dropIs_nil]
        exact ⟨none, 0, rfl, Nat.le_refl _, .inl rfl⟩
    · have IH := Lib.hid fun k (hk : k < l.length) => ih l[k].l (by have := itm_lt (List.getElem_mem hk); omega) ((okI_eq _).1 (okIs_at hok _ (List.getElem_mem hk))).2.2.2.2 (by have := cntIs_at hk; omega)
      have HOK := Lib.hid fun k (hk : k < l.length) => okIs_at hok _ (List.getElem_mem hk)
      have HC := Lib.hid fun k (hk : k < l.length) => itB_cells hc hk
      have HSN := Lib.hid fun k (hk : k < l.length) => dropIs_snoc (p := p) hk
      have HLE := Lib.hid fun k => dropIs_len p (l.take k)
      have HP := Lib.hid hp'
      have HZ := Lib.hid hz
      have HS := Lib.hid hs
      clear ih hl hok hcn hv hz hp' p1 p2 p3 D0 hc
      go_enter Tryz.func28, Tryz.ntmps28
      go_wp2
      go_loopw [5, 7, 8, 9, 12] (fun v5 _ _ _ i wr => ∃ (k : Nat) (oa : Option Addr) (oc : Nat), k ≤ l.length ∧ i = .int .i64 k ∧ v5 = .slice oa (dropIs p (l.take k)).length oc ∧ Hid (DrSt z w.heap.size (.cells #[.slice va1 va2 va3, .slice vb1 vb2 vb3, .slice vc1 vc2 vc3] 41) w (dropIs p (l.take k)) (.slice oa (dropIs p (l.take k)).length oc) wr)) (fun _ _ _ _ i _ => l.length - (intOf i).toNat)
      case atStart => exact ⟨0, none, 0, Nat.zero_le _, rfl, by rw [List.take_zero, dropIs_nil]; rfl, by rw [List.take_zero, dropIs_nil]; exact D0H⟩
      case round =>
        clear D0H
        obtain ⟨k, oa, oc, hk, rfl, rfl, D⟩ := hrel
        by_cases hlt : k < l.length
        · obtain ⟨a1, c1, a2, c2, a3, c3, a6, c6, a7, c7, y0, y1, y2, y3, y4, y5, y6, y7, g1, g2, g3, g6, g7⟩ := HC.out k hlt
          have hB := D.out.below
          have hBz : Below z w wr := hB.mono HZ.out
          have y0' := (hBz.cell (p := ⟨b, o + k * 8, none⟩) hbz).trans y0
          have y1' := (hBz.cell (p := ⟨b, o + k * 8 + 1, none⟩) hbz).trans y1
          have y2' := (hBz.cell (p := ⟨b, o + k * 8 + 2, none⟩) hbz).trans y2
          have y3' := (hBz.cell (p := ⟨b, o + k * 8 + 3, none⟩) hbz).trans y3
          have y4' := (hBz.cell (p := ⟨b, o + k * 8 + 4, none⟩) hbz).trans y4
          have y5' := (hBz.cell (p := ⟨b, o + k * 8 + 5, none⟩) hbz).trans y5
          have y6' := (hBz.cell (p := ⟨b, o + k * 8 + 6, none⟩) hbz).trans y6
          have y7' := (hBz.cell (p := ⟨b, o + k * 8 + 7, none⟩) hbz).trans y7
          clear y0 y1 y2 y3 y4 y5 y6 y7
          have hba := below_alloc wr (itmO l[k].kind a1 l[k].sels.length c1 a2 l[k].decls.length c2 a3 l[k].names.length c3 l[k].mn l[k].mx a6 l[k].vals.length c6 a7 l[k].l.length c7)
          have D1 := D.out.step hba
          have hnew := World.alloc_heap_new wr (itmO l[k].kind a1 l[k].sels.length c1 a2 l[k].decls.length c2 a3 l[k].names.length c3 l[k].mn l[k].mx a6 l[k].vals.length c6 a7 l[k].l.length c7)
          have hz1' : z ≤ (wr.alloc (itmO l[k].kind a1 l[k].sels.length c1 a2 l[k].decls.length c2 a3 l[k].names.length c3 l[k].mn l[k].mx a6 l[k].vals.length c6 a7 l[k].l.length c7)).heap.size := Nat.le_trans HZ.out D1.below.size
          have hIt : ItB z (wr.alloc (itmO l[k].kind a1 l[k].sels.length c1 a2 l[k].decls.length c2 a3 l[k].names.length c3 l[k].mn l[k].mx a6 l[k].vals.length c6 a7 l[k].l.length c7)) l[k] a1 c1 a2 c2 a3 c3 a6 c6 a7 c7 :=
            ItB.below ⟨g1, g2, g3, g6, g7⟩ (D1.below.mono HZ.out)
          have HKP := Lib.hid (keep_any (HP.out.below D1.below) HS.out hz1' (HOK.out k hlt) hIt fun W hW => IH.out k hlt _ _ W (g7.below ((D1.below.mono HZ.out).trans (hW.mono hz1'))) (Nat.le_trans hz1' hW.size) (HP.out.below (D1.below.trans (hW.mono D1.below.size))))
          obtain ⟨x0, x1, x2, x3, x4, x5, x6, x7⟩ := itmO_cells hnew
          obtain ⟨b0, b1, b2⟩ := plW_cells D1.box
          have HD1 := Lib.hid D1
          have HSN' := Lib.hid (HSN.out k hlt)
          clear g1 g2 g3 g6 g7 hB hBz hnew hIt hz1' D1 hba
          unfold itmO at HKP HD1 x0 x1 x2 x3 x4 x5 x6 x7 b0 b1 b2
          unfold itV at HKP
          have HZ1 := Lib.hid (Nat.le_trans (Nat.le_refl wr.heap.size) (by simp : wr.heap.size ≤ (wr.alloc (.cells #[.int .i64 l[k].kind, .slice a1 l[k].sels.length c1, .slice a2 l[k].decls.length c2, .slice a3 l[k].names.length c3, .int .i64 l[k].mn, .int .i64 l[k].mx, .slice a6 l[k].vals.length c6, .slice a7 l[k].l.length c7] 53)).heap.size))
          have HLk := Lib.hid (show (dropIs p (l.take k)).length ≤ 1000 from by have := HLE.out k; rw [List.length_take] at this; omega)
          go_wp2_with fail
          refine HKP.out.mono ?_
          rintro e w2 ⟨kd', a1', n1', c1', a2', n2', c2', a3', n3', c3', mn', mx', a6', n6', c6', a7', n7', c7', rfl, hv2, hB2⟩
          unfold itV
          have hb3 := below_alloc w2 (.cells #[.int .i64 kd', .slice a1' n1' c1', .slice a2' n2' c2', .slice a3' n3' c3', .int .i64 mn', .int .i64 mx', .slice a6' n6' c6', .slice a7' n7' c7'] 53)
          have hY := World.alloc_heap_new w2 (.cells #[.int .i64 kd', .slice a1' n1' c1', .slice a2' n2' c2', .slice a3' n3' c3', .int .i64 mn', .int .i64 mx', .slice a6' n6' c6', .slice a7' n7' c7'] 53)
          have D3 := (HD1.out.step hB2).step hb3
          obtain ⟨t0, t1, t2, t3, t4, t5, t6, t7⟩ := item8_cells hY
          cases hky : keepI p l[k] with
          | none =>
            have HSE : Hid (dropIs p (l.take (k + 1)) = dropIs p (l.take k)) := Lib.hid (by rw [HSN'.out, hky]; simp)
            have HD3 := Lib.hid D3
            clear x0 x1 x2 x3 x4 x5 x6 x7 b0 b1 b2 y0' y1' y2' y3' y4' y5' y6' y7' D3 hv2 hB2 hb3 hY hky HKP HD1 HSN'
            simp only [Option.isSome_none]
            go_wp2
            go_roundw
            case rel => exact ⟨k + 1, oa, oc, by omega, by go_num, by rw [HSE.out], by rw [HSE.out]; exact HD3.out⟩
            case measure => simp [intOf]; omega
          | some y =>
            have HSE : Hid (dropIs p (l.take (k + 1)) = dropIs p (l.take k) ++ [y]) := Lib.hid (by rw [HSN'.out, hky]; rfl)
            have hy4 := D.out.new_item HZ.out HZ1.out (hv2.out y hky) (hb3.trans ((below_alloc (w2.alloc (.cells #[.int .i64 kd', .slice a1' n1' c1', .slice a2' n2' c2', .slice a3' n3' c3', .int .i64 mn', .int .i64 mx', .slice a6' n6' c6', .slice a7' n7' c7'] 53)) (.cells #[.int .i64 kd', .slice a1' n1' c1', .slice a2' n2' c2', .slice a3' n3' c3', .int .i64 mn', .int .i64 mx', .slice a6' n6' c6', .slice a7' n7' c7'] 53)).mono hb3.size))
            have hb4 := below_alloc (w2.alloc (.cells #[.int .i64 kd', .slice a1' n1' c1', .slice a2' n2' c2', .slice a3' n3' c3', .int .i64 mn', .int .i64 mx', .slice a6' n6' c6', .slice a7' n7' c7'] 53)) (.cells #[.int .i64 kd', .slice a1' n1' c1', .slice a2' n2' c2', .slice a3' n3' c3', .int .i64 mn', .int .i64 mx', .slice a6' n6' c6', .slice a7' n7' c7'] 53)
            have hn4 := World.alloc_heap_new (w2.alloc (.cells #[.int .i64 kd', .slice a1' n1' c1', .slice a2' n2' c2', .slice a3' n3' c3', .int .i64 mn', .int .i64 mx', .slice a6' n6' c6', .slice a7' n7' c7'] 53)) (.cells #[.int .i64 kd', .slice a1' n1' c1', .slice a2' n2' c2', .slice a3' n3' c3', .int .i64 mn', .int .i64 mx', .slice a6' n6' c6', .slice a7' n7' c7'] 53)
            rw [World.size_alloc] at hn4
            have D4 := D3.step hb4
            have hs4 := D4.size
            obtain ⟨news, hr4, hv4⟩ := D4.row
            have HAPP := Lib.hid fun v' W' h1 h2 h3 => D4.app (W' := W') (v' := v') hr4 hv4 hy4 h1 h2 h3
            clear x0 x1 x2 x3 x4 x5 x6 x7 b0 b1 b2 y0' y1' y2' y3' y4' y5' y6' y7' D3 hv2 hB2 hb3 hb4 hY hky HKP HD1 HSN' D4 hv4 hy4 D
            simp only [Option.isSome_some]
            have hlk := HLk.out
            go_wp2_with (at_builtin; refine wpList_append_own_at _ rfl _ _ 46 rfl (w.heap.size + 1) 53 i0 _ 8 144 Tryz.underlying46 hi hz0 hz1 hz2 rfl (by decide) _ _ _ rfl hr4 ⟨w2.heap.size + 1, 0, none⟩ 1 1 [.int .i64 kd', .slice a1' n1' c1', .slice a2' n2' c2', .slice a3' n3' c3', .int .i64 mn', .int .i64 mx', .slice a6' n6' c6', .slice a7' n7' c7'] rfl rfl ?c1 ?c2 ?c3 ?c4 ?c5 ?_)
            case c1 => exact list8_cells hn4
            case c2 => simp [Value.oneCell']
            case c3 => unfold maxLen; omega
            case c4 => omega
            case c5 => exact hs4
            intro v' w5 hown' hgrow _ hblk
            have D5 := HAPP.out v' w5 hown' hgrow (by rw [World.size_alloc, World.size_alloc]; exact hblk)
            obtain ⟨oa', oc', e5⟩ := owns_slice hown'
            subst e5
            have HD5 := Lib.hid D5
            clear hown' hgrow hblk D5 hr4 HAPP hn4 t0 t1 t2 t3 t4 t5 t6 t7
            go_wp2
            go_roundw
            case rel => exact ⟨k + 1, oa', oc', by omega, by go_num, by rw [HSE.out, List.length_append]; rfl, by rw [HSE.out, List.length_append]; exact HD5⟩
            case measure => simp [intOf]; omega
        · obtain rfl : k = l.length := by omega
          have hD := D.out
          rw [List.take_length] at hD
          have HE := Lib.hid hD.done
          clear D hD
          rw [List.take_length]
          go_wp2
          go_ret
          obtain ⟨a, c, e, hv, hb⟩ := HE.out
          exact ⟨a, c, congrArg Ending.returned e, hv, hb⟩
end Go.Proofs.YtlnaihkombcbcaaGreat
end
noncomputable section
namespace Go.Proofs.YtlnaihkombcbcaaGreat
open Go.RowKit Go.Sort Go.Ev
theorem owns_src {w : World} {B : Nat} {e : TypeId} {sz n : Nat} {v : Value} {news : List Value} (h : w.ownsRow B e sz v n news) (h1 : ∀ u ∈ news, u.oneCell' = true) : SrcN w v n sz news := by
  have hl := h.1
  rcases h.2 with ⟨rfl, h0⟩ | ⟨g, cap, cur, rfl, -, hg, hc, -, -, ht⟩
  · subst h0
    exact .inl ⟨0, rfl, rfl, List.eq_nil_of_length_eq_zero (by omega)⟩
  · refine .inr ⟨_, _, rfl, hl, fun j u hj => ?_, h1⟩
    rw [Addr.add_lit, Nat.zero_add, Lib.cell_of_heap hg]
    have hlt : j < n * sz := by rw [← hl]; exact (List.getElem?_eq_some_iff.1 hj).1
    rw [← ht, List.getElem?_take, if_pos hlt] at hj
    simpa using hj
def gZ (z : Nat) : Gh := ⟨fun _ => none, fun b => b < z⟩
/-- a row of items of its own, whose insides lie below z -/
def RowZ (z B : Nat) (w : World) (v : Value) (l : List Itm) : Prop := ∃ news, w.ownsRow B 53 8 v l.length news ∧ VRs w (gZ z) (l.flatMap encI) news
theorem RowZ.below {z B : Nat} {w w' : World} {v : Value} {l : List Itm} (h : RowZ z B w v l) (hz : z ≤ w.heap.size) (hb : Below w.heap.size w w') : RowZ z B w' v l := by
  obtain ⟨news, h1, h2⟩ := h
  exact ⟨news, owns_below h1 hb, VRs_keep (I := (gZ z).I) (I' := (gZ z).I) (fun _ h => h) (fun rb hr => hb.block rb (Nat.lt_of_lt_of_le hr hz)) _ h2⟩
theorem RowZ.form {z B : Nat} {w : World} {v : Value} {l : List Itm} (h : RowZ z B w v l) : ∃ a c, v = .slice a l.length c := by
  obtain ⟨news, h1, -⟩ := h
  exact owns_slice h1
/-- an item's cells in such a row -/
theorem RowZ.cells {z B : Nat} {w : World} {v : Value} {l : List Itm} (h : RowZ z B w v l) : (l = [] ∧ ∃ a c, v = .slice a 0 c) ∨ ∃ g cap, v = .slice (some ⟨g, 0, none⟩) l.length cap ∧ l.length ≤ cap ∧ 0 < l.length ∧ B ≤ g ∧ g < w.heap.size ∧
    ∀ k (hk : k < l.length) j a, (encI l[k])[j]? = some a → ∃ x, w.cell? ⟨g, 0 + (k * 8 + j), none⟩ = some x ∧ AtB z w a x := by
  obtain ⟨news, h1, h2⟩ := h
  by_cases hl : l = []
  · subst hl
    obtain ⟨a, c, rfl⟩ := owns_slice h1
    exact .inl ⟨rfl, a, c, rfl⟩
  · have hpos : 0 < l.length := List.length_pos_iff.2 hl
    rcases h1.2 with ⟨rfl, h0⟩ | ⟨g, cap, cur, rfl, hgB, hg, hc, -, -, ht⟩
    · omega
    · refine .inr ⟨g, cap, rfl, hc, hpos, hgB, (Array.getElem?_eq_some_iff.1 hg).1, fun k hk j a hj => ?_⟩
      have hjs : j < 8 := by have := (List.getElem?_eq_some_iff.1 hj).1; rw [encI_len] at this; exact this
      have hfl := flat_get encI 8 encI_len l k hk j hjs
      rw [hj] at hfl
      obtain ⟨v, e1, e2⟩ := VRs.get h2 hfl
      refine ⟨v, ?_, e2⟩
      rw [Nat.zero_add, Lib.cell_of_heap hg]
      have hlt : k * 8 + j < l.length * 8 := by omega
      rw [← ht, List.getElem?_take, if_pos hlt] at e1
      simpa using e1
theorem vrsB_item {z : Nat} {W : World} {x : Itm} {a1 a2 a3 a6 a7 : Option Addr} {c1 c2 c3 c6 c7 : Nat} (h : ItB z W x a1 c1 a2 c2 a3 c3 a6 c6 a7 c7) :
    VRs W (gZ z) (encI x) [.int .i64 x.kind, .slice a1 x.sels.length c1, .slice a2 x.decls.length c2, .slice a3 x.names.length c3, .int .i64 x.mn, .int .i64 x.mx, .slice a6 x.vals.length c6, .slice a7 x.l.length c7] := vrs_item h.s h.d h.n h.v h.l
def AllPost (l : List Itm) (z : Nat) (w : World) (e : Ending) (w' : World) : Prop := ∃ a c, e = .returned (.slice a (flatIs l).length c) ∧ RowZ z w.heap.size w' (.slice a (flatIs l).length c) (flatIs l) ∧ Below w.heap.size w w'
set_option maxRecDepth 100000 in
set_option maxHeartbeats 8000000 in
theorem all_any (z : Nat) (N : Nat) : ∀ (l : List Itm), SizeOf.sizeOf l ≤ N → okIs l → cntIs l ≤ 1000 → ∀ (v : Value) (w : World), AtB z w (.sl l.length 8 (l.flatMap encI)) v → z ≤ w.heap.size →
    Calls Tryz.prog 40 #[v] w (AllPost l z w) := by
  induction N with
  | zero => intro l hl; cases l <;> simp at hl <;> omega
  | succ N ih =>
    intro l hl hok hcn v w hv hz
    obtain ⟨i0, hi, hz0, hz1, hz2⟩ := info_parts Tryz.infoItem
    have hlen : l.length ≤ 1000 := Nat.le_trans (cntIs_len l) hcn
    have hO := World.ownsRow_lit (base := w.heap.size) (e := 53) (size := 8) w #[] 0 (Nat.le_refl _) (by decide) rfl
    have R0 : Hid (RowZ z w.heap.size (w.alloc (.cells #[] 53)) (.slice (some ⟨w.heap.size, 0, none⟩) 0 0) [] ∧ Below w.heap.size w (w.alloc (.cells #[] 53))) := Lib.hid ⟨⟨[], hO, by rw [List.flatMap_nil, VRs]⟩, below_alloc _ _⟩
    have hf0 : flatIs [] = [] := by rw [flatIs]
    clear hO
    rcases slB_cells encI 8 encI_len (by decide) hv with ⟨rfl, ad, cap, rfl⟩ | ⟨b, o, cap, rfl, hcap, hpos, hbz, hc⟩
    · have HF := Lib.hid hf0
      clear ih hl hok hcn hv hz hf0
      go_enter Tryz.func40, Tryz.ntmps40
      go_wp2
      go_loopw [3, 4] (fun v3 i wr => i = .int .i64 0 ∧ v3 = .slice (some ⟨w.heap.size, 0, none⟩) 0 0 ∧ wr = w.alloc (.cells #[] 53)) (fun _ _ _ => 0)
      case atStart => exact ⟨rfl, rfl, rfl⟩
      case round =>
        obtain ⟨rfl, rfl, rfl⟩ := hrel
        go_wp2
        go_ret
        refine ⟨some ⟨w.heap.size, 0, none⟩, 0, by rw [HF.out]; rfl, ?_, R0.out.2⟩
        rw [HF.out]; exact R0.out.1
    · have IH := Lib.hid fun k (hk : k < l.length) => ih l[k].l (by have := itm_lt (List.getElem_mem hk); omega) ((okI_eq _).1 (okIs_at hok _ (List.getElem_mem hk))).2.2.2.2 (by have := cntIs_at hk; omega)
      have HC := Lib.hid fun k (hk : k < l.length) => itB_cells hc hk
      have HSN := Lib.hid fun k (hk : k < l.length) => (flatIs_snoc hk).trans (congrArg _ (flatI_eq l[k]))
      have HLE : Hid (∀ k, (flatIs (l.take k)).length ≤ 1000) := Lib.hid fun k => by
        have h1 := (flatIs_ok l hok).1
        have h2 := flatIs_append (l.take k) (l.drop k)
        rw [List.take_append_drop] at h2
        have h3 := congrArg List.length h2
        rw [List.length_append] at h3
        omega
      have HLI := Lib.hid fun k (hk : k < l.length) => (flatIs_ok l[k].l ((okI_eq _).1 (okIs_at hok _ (List.getElem_mem hk))).2.2.2.2).1
      have HLC := Lib.hid fun k (hk : k < l.length) => show cntIs l[k].l ≤ 1000 from by have := cntIs_at hk; omega
      have HZ := Lib.hid hz
      have HF := Lib.hid hf0
      clear ih hl hok hcn hv hz hc hf0
      go_enter Tryz.func40, Tryz.ntmps40
      go_wp2
      go_loopw [3, 4] (fun v3 i wr => ∃ (k : Nat) (oa : Option Addr) (oc : Nat), k ≤ l.length ∧ i = .int .i64 k ∧ v3 = .slice oa (flatIs (l.take k)).length oc ∧ Hid (RowZ z w.heap.size wr (.slice oa (flatIs (l.take k)).length oc) (flatIs (l.take k)) ∧ Below w.heap.size w wr)) (fun _ i _ => l.length - (intOf i).toNat)
      case atStart => exact ⟨0, _, _, Nat.zero_le _, rfl, by rw [List.take_zero, HF.out]; rfl, by rw [List.take_zero, HF.out]; exact R0⟩
      case round =>
        clear R0
        obtain ⟨k, oa, oc, hk, rfl, rfl, D⟩ := hrel
        by_cases hlt : k < l.length
        · obtain ⟨a1, c1, a2, c2, a3, c3, a6, c6, a7, c7, y0, y1, y2, y3, y4, y5, y6, y7, g1, g2, g3, g6, g7⟩ := HC.out k hlt
          have hB := D.out.2
          have hBz : Below z w wr := hB.mono HZ.out
          have hzr : z ≤ wr.heap.size := Nat.le_trans HZ.out hB.size
          have y0' := (hBz.cell (p := ⟨b, o + k * 8, none⟩) hbz).trans y0
          have y1' := (hBz.cell (p := ⟨b, o + k * 8 + 1, none⟩) hbz).trans y1
          have y2' := (hBz.cell (p := ⟨b, o + k * 8 + 2, none⟩) hbz).trans y2
          have y3' := (hBz.cell (p := ⟨b, o + k * 8 + 3, none⟩) hbz).trans y3
          have y4' := (hBz.cell (p := ⟨b, o + k * 8 + 4, none⟩) hbz).trans y4
          have y5' := (hBz.cell (p := ⟨b, o + k * 8 + 5, none⟩) hbz).trans y5
          have y6' := (hBz.cell (p := ⟨b, o + k * 8 + 6, none⟩) hbz).trans y6
          have y7' := (hBz.cell (p := ⟨b, o + k * 8 + 7, none⟩) hbz).trans y7
          have hba := below_alloc wr (.cells #[.int .i64 l[k].kind, .slice a1 l[k].sels.length c1, .slice a2 l[k].decls.length c2, .slice a3 l[k].names.length c3, .int .i64 l[k].mn, .int .i64 l[k].mx, .slice a6 l[k].vals.length c6, .slice a7 l[k].l.length c7] 53)
          have hn4 := World.alloc_heap_new wr (.cells #[.int .i64 l[k].kind, .slice a1 l[k].sels.length c1, .slice a2 l[k].decls.length c2, .slice a3 l[k].names.length c3, .int .i64 l[k].mn, .int .i64 l[k].mx, .slice a6 l[k].vals.length c6, .slice a7 l[k].l.length c7] 53)
          obtain ⟨news, hr, hv⟩ := D.out.1.below hzr hba
          have hsrc : SrcN (wr.alloc (.cells #[.int .i64 l[k].kind, .slice a1 l[k].sels.length c1, .slice a2 l[k].decls.length c2, .slice a3 l[k].names.length c3, .int .i64 l[k].mn, .int .i64 l[k].mx, .slice a6 l[k].vals.length c6, .slice a7 l[k].l.length c7] 53)) (.slice (some ⟨wr.heap.size, 0, none⟩) 1 1) 1 8 [.int .i64 l[k].kind, .slice a1 l[k].sels.length c1, .slice a2 l[k].decls.length c2, .slice a3 l[k].names.length c3, .int .i64 l[k].mn, .int .i64 l[k].mx, .slice a6 l[k].vals.length c6, .slice a7 l[k].l.length c7] :=
            .inr ⟨_, _, rfl, rfl, list8_cells hn4, by simp [Value.oneCell']⟩
          have hsz1 : w.heap.size ≤ (wr.alloc (.cells #[.int .i64 l[k].kind, .slice a1 l[k].sels.length c1, .slice a2 l[k].decls.length c2, .slice a3 l[k].names.length c3, .int .i64 l[k].mn, .int .i64 l[k].mx, .slice a6 l[k].vals.length c6, .slice a7 l[k].l.length c7] 53)).heap.size := Nat.le_trans hB.size hba.size
          have hC1 : Below w.heap.size w (wr.alloc (.cells #[.int .i64 l[k].kind, .slice a1 l[k].sels.length c1, .slice a2 l[k].decls.length c2, .slice a3 l[k].names.length c3, .int .i64 l[k].mn, .int .i64 l[k].mx, .slice a6 l[k].vals.length c6, .slice a7 l[k].l.length c7] 53)) := bup hB hba
          have hItw : ItB z w l[k] a1 c1 a2 c2 a3 c3 a6 c6 a7 c7 := ⟨g1, g2, g3, g6, g7⟩
          -- behind the first append
          have HN1 := Lib.hid fun (v' : Value) (W : World) (h1 : W.ownsRow w.heap.size 53 8 v' ((flatIs (l.take k)).length + 1) (news ++ [.int .i64 l[k].kind, .slice a1 l[k].sels.length c1, .slice a2 l[k].decls.length c2, .slice a3 l[k].names.length c3, .int .i64 l[k].mn, .int .i64 l[k].mx, .slice a6 l[k].vals.length c6, .slice a7 l[k].l.length c7])) (hW : Below w.heap.size w W) => show RowZ z w.heap.size W v' (flatIs (l.take k) ++ [l[k]]) from by
            refine ⟨_, by rw [List.length_append]; exact h1, ?_⟩
            rw [List.flatMap_append, List.flatMap_cons, List.flatMap_nil, List.append_nil]
            have h2 : VRs w (gZ z) ((flatIs (l.take k)).flatMap encI) news := VRs_keep (I := (gZ z).I) (I' := (gZ z).I) (fun _ h => h) (fun rb h => (hC1.block rb (Nat.lt_of_lt_of_le h HZ.out)).symm) _ hv
            exact (VRs_keep (I := (gZ z).I) (I' := (gZ z).I) (fun _ h => h) (fun rb h => hW.block rb (Nat.lt_of_lt_of_le h HZ.out)) _ h2).append (VRs_keep (I := (gZ z).I) (I' := (gZ z).I) (fun _ h => h) (fun rb h => hW.block rb (Nat.lt_of_lt_of_le h HZ.out)) _ (vrsB_item hItw))
          have HLT := Lib.hid (fun g (e : (Value.slice oa (flatIs (l.take k)).length oc).ownBlock = some g) => (hr.lt g e).1)
          have HREC := Lib.hid fun (W : World) (hW : Below w.heap.size w W) => IH.out k hlt (.slice a7 l[k].l.length c7) W (g7.below (hW.mono HZ.out)) (Nat.le_trans HZ.out hW.size)
          have HSNk := Lib.hid (HSN.out k hlt)
          have HL7 := Lib.hid g7
          have hle1 := HLE.out k
          have hle2 := HLI.out k hlt
          have hle3 := HLC.out k hlt
          have HB := Lib.hid hC1
          clear g1 g2 g3 g6 g7 y1 y2 y3 y4 y5 y6 hba hn4 hItw hv D hB hBz
          go_wp2_with (at_builtin; refine wpList_append_srcN rfl _ _ 46 rfl w.heap.size 53 i0 _ 8 144 Tryz.underlying46 hi hz0 hz1 hz2 rfl (by decide) _ _ _ rfl hr _ 1 _ rfl hsrc (by unfold maxLen; omega) (by omega) hsz1 ?_)
          intro v' w5 hown5 hgrow5
          have hC5 := HB.out.grown hgrow5 hsz1 (fun g e => HLT.out g e)
          have R5 := HN1.out v' w5 hown5 hC5
          obtain ⟨oa', oc', rfl⟩ := owns_slice hown5
          have z0 := ((hC5.mono HZ.out).cell (p := ⟨b, o + k * 8, none⟩) hbz).trans y0
          have z7 := ((hC5.mono HZ.out).cell (p := ⟨b, o + k * 8 + 7, none⟩) hbz).trans y7
          have HC5 := Lib.hid hC5
          have HR5 := Lib.hid R5
          have HQ := Lib.hid (HREC.out w5 hC5)
          have HK : Hid (flatIs (l.take (k + 1)) = flatIs (l.take k) ++ l[k] :: (if l[k].kind = 2 ∨ l[k].kind = 3 then flatIs l[k].l else [])) := HSNk
          clear y0 y7 y0' y1' y2' y3' y4' y5' y6' y7' hown5 hgrow5 hC5 R5 hr hsrc HN1 HLT HREC HB HL7 HSNk
          generalize l[k].kind = kd at *
          by_cases hkk : kd = 2 ∨ kd = 3
          · have HKE : Hid (flatIs (l.take (k + 1)) = (flatIs (l.take k) ++ [l[k]]) ++ flatIs l[k].l) := Lib.hid (by rw [HK.out, if_pos hkk]; simp)
            clear HK
            rcases hkk with rfl | rfl
            all_goals
              go_wp2_with fail
              refine HQ.out.mono ?_
              rintro e w6 ⟨a6', c6', rfl, hR6, hB6⟩
              have hC6 := bup HC5.out hB6
              obtain ⟨news6, hr6, hv6⟩ := hR6
              have hs6 := owns_src hr6 (VRs.oneCells hv6 (cells_flatI _))
              obtain ⟨news5, hr5, hv5⟩ := HR5.out.below (Nat.le_trans HZ.out HC5.out.size) hB6
              have hsz6 := hC6.size
              have HN2 := Lib.hid fun (v' : Value) (W : World) (h1 : W.ownsRow w.heap.size 53 8 v' ((flatIs (l.take k) ++ [l[k]]).length + (flatIs l[k].l).length) (news5 ++ news6)) (hW : Below w.heap.size w6 W) => show RowZ z w.heap.size W v' ((flatIs (l.take k) ++ [l[k]]) ++ flatIs l[k].l) from by
                refine ⟨_, by rw [List.length_append]; exact h1, ?_⟩
                rw [List.flatMap_append]
                exact (VRs_keep (I := (gZ z).I) (I' := (gZ z).I) (fun _ h => h) (fun rb h => hW.block rb (Nat.lt_of_lt_of_le h HZ.out)) _ hv5).append (VRs_keep (I := (gZ z).I) (I' := (gZ z).I) (fun _ h => h) (fun rb h => hW.block rb (Nat.lt_of_lt_of_le h HZ.out)) _ hv6)
              have HLT := Lib.hid (fun g (e : (Value.slice oa' ((flatIs (l.take k)).length + 1) oc').ownBlock = some g) => (hr5.lt g e).1)
              have HC6 := Lib.hid hC6
              have hr5' : w6.ownsRow w.heap.size 53 8 (.slice oa' ((flatIs (l.take k)).length + 1) oc') ((flatIs (l.take k)).length + 1) news5 := by simpa using hr5
              have hle4 : (flatIs l[k].l).length ≤ 1000 := by omega
              clear hv5 hv6 hr6 hr5 HQ hB6 hC6 z0 z7
              go_wp2_with (at_builtin; refine wpList_append_srcN rfl _ _ 46 rfl w.heap.size 53 i0 _ 8 144 Tryz.underlying46 hi hz0 hz1 hz2 rfl (by decide) _ _ _ rfl hr5' _ (flatIs l[k].l).length _ rfl hs6 (by unfold maxLen; omega) (by omega) hsz6 ?_)
              intro v' w7 hown7 hgrow7
              have hD7 : Below w.heap.size w6 w7 := (Below.refl _ _).grown hgrow7 hsz6 (fun g e => HLT.out g e)
              obtain ⟨oa9, oc9, rfl⟩ := owns_slice hown7
              have HE := Lib.hid (And.intro (HN2.out _ w7 (by rw [List.length_append]; exact hown7) hD7) (HC6.out.trans hD7))
              clear hown7 hgrow7 hD7 hs6 hr5' HN2
              go_wp2
              go_roundw
              case rel => exact ⟨k + 1, oa9, oc9, by omega, by go_num, by rw [HKE.out, List.length_append, List.length_append]; rfl, by rw [HKE.out, List.length_append, List.length_append]; exact HE⟩
              case measure => simp [intOf]; omega
          · have HKE : Hid (flatIs (l.take (k + 1)) = flatIs (l.take k) ++ [l[k]]) := Lib.hid (by rw [HK.out, if_neg hkk])
            obtain ⟨hk2, hk3⟩ := not_or.1 hkk
            have e2 : (kd == 2) = false := beq_eq_false_iff_ne.2 hk2
            have e3 : (kd == 3) = false := beq_eq_false_iff_ne.2 hk3
            clear HK hkk HQ hk2 hk3
            go_wp2_with fail
            go_roundw
            case rel => exact ⟨k + 1, oa', oc', by omega, by go_num, by rw [HKE.out, List.length_append]; rfl, by rw [HKE.out, List.length_append]; exact Lib.hid ⟨HR5.out, HC5.out⟩⟩
            case measure => simp [intOf]; omega
        · obtain rfl : k = l.length := by omega
          have hD := D.out
          rw [List.take_length] at hD
          have HE := Lib.hid hD
          clear D hD
          rw [List.take_length]
          go_wp2
          go_ret
          exact ⟨oa, oc, rfl, HE.out.1, HE.out.2⟩
end Go.Proofs.YtlnaihkombcbcaaGreat
end
noncomputable section
namespace Go.Proofs.YtlnaihkombcbcaaGreat
open Go.RowKit Go.Sort Go.Ev
/-- an item that is used -/
def usedP (p : S3) (x : Itm) : Prop := (x.kind = 1 → ∀ d ∈ x.decls, kpD p.c d = true) ∧ (x.kind = 5 → kpF p.f x.names = true) ∧ (x.kind = 6 → kpG p.g x.kind x.decls = true)
theorem kp_used {p : S3} {x y : Itm} (h : Kp p x y) : usedP p y := by
  cases h with
  | same h1 h2 h3 h5 h6 => exact ⟨fun e => absurd e h1, h5, h6⟩
  | rule h1 hne =>
    refine ⟨fun _ d hd => (List.mem_filter.1 hd).2, fun e => ?_, fun e => ?_⟩
    · exact absurd (show x.kind = 5 from e) (by omega)
    · exact absurd (show x.kind = 6 from e) (by omega)
  | block hk hne =>
    refine ⟨fun e => ?_, fun e => ?_, fun e => ?_⟩
    · exact absurd (show x.kind = 1 from e) (by omega)
    · exact absurd (show x.kind = 5 from e) (by omega)
    · exact absurd (show x.kind = 6 from e) (by omega)
  | layer hk he =>
    refine ⟨fun e => ?_, fun e => ?_, fun e => ?_⟩
    · exact absurd (show (4 : Int) = 1 from e) (by omega)
    · exact absurd (show (4 : Int) = 5 from e) (by omega)
    · exact absurd (show (4 : Int) = 6 from e) (by omega)
theorem drop_used (p : S3) (N : Nat) : ∀ (l : List Itm), SizeOf.sizeOf l ≤ N → ∀ x ∈ flatIs (dropIs p l), usedP p x := by
  induction N with
  | zero => intro l hl; cases l <;> simp at hl <;> omega
  | succ N ihN =>
    intro l hl
    have key : ∀ (a : List Itm), (∀ x ∈ a, SizeOf.sizeOf x.l ≤ N) → ∀ x ∈ flatIs (dropIs p a), usedP p x := by
      intro a ha
      induction a with
      | nil => intro x hx; rw [dropIs_nil, flatIs] at hx; simp at hx
      | cons y a ih =>
        intro x hx
        have h2 := ih fun z hz => ha z (List.mem_cons_of_mem _ hz)
        cases h : keepI p y with
        | none => rw [dropIs_none h] at hx; exact h2 x hx
        | some y' =>
          rw [dropIs_some h, flatIs] at hx
          rcases List.mem_append.1 hx with hx | hx
          · have hk := kp_of h
            rw [flatI_eq] at hx
            rcases List.mem_cons.1 hx with rfl | hx
            · exact kp_used hk
            · have h9 := ihN _ (ha y List.mem_cons_self)
              cases hk with
              | same h1 h2 h3 h5 h6 => rw [if_neg (by omega)] at hx; simp at hx
              | rule h1 hne =>
                have hx : x ∈ (if y.kind = 2 ∨ y.kind = 3 then flatIs y.l else []) := hx
                rw [if_neg (by omega)] at hx; simp at hx
              | block hk hne =>
                have hx : x ∈ (if y.kind = 2 ∨ y.kind = 3 then flatIs (dropIs p y.l) else []) := hx
                rw [if_pos hk] at hx; exact h9 x hx
              | layer hk he =>
                have hx : x ∈ (if (4 : Int) = 2 ∨ (4 : Int) = 3 then flatIs [] else []) := hx
                rw [if_neg (by omega)] at hx; simp at hx
          · exact h2 x hx
    exact key l fun x hx => by have := itm_lt hx; omega
theorem left_used (p : S3) (l : List Itm) : ∀ x ∈ flatIs (dropIs p l), usedP p x := drop_used p _ l (Nat.le_refl _)
theorem okDs_filter {l : List Dl} {f : Dl → Bool} (h : okDs l) : okDs (l.filter f) :=
  ⟨Nat.le_trans (List.length_filter_le _ _) h.1, fun d hd => h.2 d (List.mem_filter.1 hd).1⟩
theorem drop_ok (p : S3) (N : Nat) : ∀ (l : List Itm), SizeOf.sizeOf l ≤ N → okIs l → okIs (dropIs p l) ∧ cntIs (dropIs p l) ≤ cntIs l := by
  induction N with
  | zero => intro l hl; cases l <;> simp at hl <;> omega
  | succ N ihN =>
    intro l hl hok
    have key : ∀ (a : List Itm), (∀ x ∈ a, SizeOf.sizeOf x.l ≤ N) → okIs a → okIs (dropIs p a) ∧ cntIs (dropIs p a) ≤ cntIs a := by
      intro a ha hoa
      induction a with
      | nil => rw [dropIs_nil]; exact ⟨hoa, Nat.le_refl _⟩
      | cons y a ih =>
        have hy : okI y := okIs_at hoa y List.mem_cons_self
        have hoa2 : okIs a := ((okIs_append [y] a).1 hoa).2
        obtain ⟨h2, h3⟩ := ih (fun z hz => ha z (List.mem_cons_of_mem _ hz)) hoa2
        cases h : keepI p y with
        | none => rw [dropIs_none h, cntIs]; exact ⟨h2, by omega⟩
        | some y' =>
          have hk := kp_of h
          obtain ⟨g1, g2, g3, g4, g5⟩ := (okI_eq y).1 hy
          obtain ⟨g6, g7⟩ := ihN _ (ha y List.mem_cons_self) g5
          have key2 : okI y' ∧ cntI y' ≤ cntI y := by
            cases hk with
            | same => exact ⟨hy, Nat.le_refl _⟩
            | rule h1 hne => exact ⟨(okI_eq _).2 ⟨okDs_filter g1, g2, g3, g4, g5⟩, by rw [cntI_eq, cntI_eq]; exact Nat.le_refl _⟩
            | block hk hne => exact ⟨(okI_eq _).2 ⟨g1, g2, g3, g4, g6⟩, by rw [cntI_eq, cntI_eq]; exact Nat.add_le_add_left g7 1⟩
            | layer hk he =>
              refine ⟨(okI_eq _).2 ⟨⟨by simp [Itm.decls], by simp [Itm.decls]⟩, g2, by simp [Itm.vals, cntVs], rfl, trivial⟩, ?_⟩
              rw [cntI_eq, cntI_eq]
              show 1 + cntIs [] ≤ _
              rw [cntIs]; omega
          rw [dropIs_some h]
          refine ⟨(okIs_append [y'] _).2 ⟨?_, h2⟩, ?_⟩
          · rw [okIs]; exact ⟨key2.1, by rw [okIs]; trivial⟩
          · rw [cntIs, cntIs]; exact Nat.add_le_add key2.2 h3
    exact key l (fun x hx => by have := itm_lt hx; omega) hok
/-- what is left of little is little -/
theorem left_ok (p : S3) {l : List Itm} (h : okIs l) : okIs (dropIs p l) ∧ cntIs (dropIs p l) ≤ cntIs l := drop_ok p _ l (Nat.le_refl _) h
theorem rules_frames {l : List Itm} (h : ∀ x ∈ flatIs l, x.kind ≠ 1) : ∀ r ∈ rulesOf l, ∃ n v, r = ruF n v := by
  intro r hr
  obtain ⟨x, hx, hr⟩ := List.mem_flatMap.1 hr
  rw [ruI, if_neg (h x hx)] at hr
  split at hr
  · unfold ruN at hr
    split at hr
    · exact ⟨_, _, List.mem_singleton.1 hr⟩
    · simp at hr
  · simp at hr
theorem none_us {l : List Itm} (h : ∀ x ∈ flatIs l, x.kind ≠ 1) (i : Nat) (x : Str) : ¬ Us (rulesOf l) i x := by
  have h1 : ∀ y, ¬ Us (rulesOf l) 1 y := fun y hy => by
    cases hy with
    | free r hr hg _ _ hx => obtain ⟨n, v, rfl⟩ := rules_frames h r hr; cases hg
    | held r hr k y hg _ _ _ hx =>
      obtain ⟨n, v, rfl⟩ := rules_frames h r hr
      exact absurd hx (by show _ ∉ ([] : List Str); simp)
  intro hu
  cases hu with
  | free r hr hg _ _ hx => obtain ⟨n, v, rfl⟩ := rules_frames h r hr; cases hg
  | held r hr k y hg hy _ _ hx =>
    obtain ⟨n, v, rfl⟩ := rules_frames h r hr
    cases hg
    exact h1 _ hy
/-- without rules nothing is used -/
theorem none_fin {l : List Itm} (h : ∀ x ∈ flatIs l, x.kind ≠ 1) {s : S3} (hs : FinU (rulesOf l) s) : s = ⟨[], [], []⟩ := S3.ext_at fun i => by
  have e : s.at i = [] := List.eq_nil_iff_forall_not_mem.2 fun x hx => none_us h i x ((hs.2 i x).1 hx)
  rw [e]
  match i with
  | 0 => rfl
  | 1 => rfl
  | _ + 2 => rfl
/-- what is left by nothing: no fonts, no frames of one name -/
theorem used_none {x : Itm} (h : usedP ⟨[], [], []⟩ x) : x.kind ≠ 6 ∧ (x.kind = 5 → x.names.length ≠ 1) := by
  refine ⟨fun e => ?_, fun e hn => ?_⟩
  · have := h.2.2 e
    simp [kpG] at this
  · have h5 := h.2.1 e
    obtain ⟨n, hn⟩ := List.length_eq_one_iff.1 hn
    rw [hn] at h5
    simp [kpF] at h5
end Go.Proofs.YtlnaihkombcbcaaGreat
end
noncomputable section
namespace Go.Proofs.YtlnaihkombcbcaaGreat
open Go.RowKit Go.Sort Go.Ev
theorem in_sat {w : World} {v : Value} {c : List Str} (h : SAt w v c) (x : ByteArray) (hl : c.length ≤ 1000000) :
    Calls Tryz.prog 22 #[v, .string x] w fun e w' => e = .returned (.bool (c.contains (sOf x))) ∧ w' = w := by
  have h1 := in_strs v (c.map bs) x w h (by rw [List.length_map]; omega)
  have e : ((c.map bs).any fun y => y.toList == x.toList) = c.contains (sOf x) := by
    have hx : x.toList = sOf x := ByteArray.toList_eq _
    rw [Bool.eq_iff_iff, List.any_eq_true, List.contains_iff_mem]
    constructor
    · rintro ⟨y, hy, he⟩
      obtain ⟨s, hs, rfl⟩ := List.mem_map.1 hy
      rw [bs_toList, hx] at he
      rw [← beq_iff_eq.1 he]; exact hs
    · intro hm
      exact ⟨bs (sOf x), List.mem_map.2 ⟨_, hm, rfl⟩, by rw [bs_toList, hx]; exact beq_self_eq_true _⟩
  rw [e] at h1
  exact h1
section
variable {p : S3} {x : Itm} {z : Nat} {va vb vc : Value} {a1 a2 a3 a6 a7 : Option Addr} {n1 n2 n3 n6 n7 c1 c2 c3 c6 c7 : Nat} {w : World}
set_option maxRecDepth 100000 in
theorem fam18_not (kd mn mx : Int) (h6 : kd ≠ 6) :
    Calls Tryz.prog 31 #[.agg #[.int .i64 kd, .slice a1 n1 c1, .slice a2 n2 c2, .slice a3 n3 c3, .int .i64 mn, .int .i64 mx, .slice a6 n6 c6, .slice a7 n7 c7]] w fun e w' => e = .returned (.tuple #[.string ⟨#[]⟩, .bool false]) ∧ Below w.heap.size w w' := by
  go_enter Tryz.func31, Tryz.ntmps31
  go_wp2
  go_ret2
  exact ⟨rfl, below_alloc _ _⟩
/-- the two variables, and what follows -/
structure USt (B : Nat) (o1 o2 : Obj) (w W : World) : Prop where
  below : Below B w W
  p : W.heap[B]? = some o1
  x : W.heap[B + 1]? = some o2
  size : B + 2 ≤ W.heap.size
theorem USt.step {B : Nat} {o1 o2 : Obj} {w W W' : World} (h : USt B o1 o2 w W) (hb : Below (B + 2) W W') : USt B o1 o2 w W' :=
  ⟨h.below.trans (hb.mono (by omega)), (hb.block _ (by omega)).trans h.p, (hb.block _ (by omega)).trans h.x, Nat.le_trans h.size hb.size⟩
theorem USt.new (w : World) (o1 o2 : Obj) : USt w.heap.size o1 o2 w ((w.alloc o1).alloc o2) := by
  have s1 : (w.alloc o1).heap.size = w.heap.size + 1 := by simp
  refine ⟨(((Below.refl _ w).alloc (Nat.le_refl _) _).alloc (by omega) _), ?_, ?_, by simp⟩
  · rw [Below.heap_alloc _ _ _ (by omega)]; exact World.alloc_heap_new _ _
  · have := World.alloc_heap_new (w.alloc o1) o2
    rwa [s1] at this
set_option maxRecDepth 100000 in
set_option maxHeartbeats 4000000 in
theorem used_any {pv : Value} (hp : PlAt w pv p) (hs : smallP p) (hz : z ≤ w.heap.size) (hd : x.decls.length ≤ 1000000) (h6 : x.kind ≠ 6) (hu : usedP p x) (hi : ItB z w x a1 c1 a2 c2 a3 c3 a6 c6 a7 c7) :
    Calls Tryz.prog 41 #[pv, itV x.kind a1 x.sels.length c1 a2 x.decls.length c2 a3 x.names.length c3 x.mn x.mx a6 x.vals.length c6 a7 x.l.length c7] w fun e w' => e = .returned (.bool true) ∧ Below w.heap.size w w' := by
  obtain ⟨va, vb, vc, rfl, p1, p2, p3⟩ := hp
  obtain ⟨W2, hW2⟩ : ∃ W2, W2 = (w.alloc (.cells #[va, vb, vc] 41)).alloc (itmO x.kind a1 x.sels.length c1 a2 x.decls.length c2 a3 x.names.length c3 x.mn x.mx a6 x.vals.length c6 a7 x.l.length c7) := ⟨_, rfl⟩
  have U0 : USt w.heap.size (.cells #[va, vb, vc] 41) (itmO x.kind a1 x.sels.length c1 a2 x.decls.length c2 a3 x.names.length c3 x.mn x.mx a6 x.vals.length c6 a7 x.l.length c7) w W2 := by rw [hW2]; exact USt.new _ _ _
  have HI1 := Lib.hid fun (W : World) (h : Below w.heap.size w W) nm => in_sat (p1.below h) nm hs.1
  have HI2 := Lib.hid fun (W : World) (h : Below w.heap.size w W) nm => in_sat (p2.below h) nm hs.2.1
  have HFM := Lib.hid fun (W : World) => fam18_not (a1 := a1) (n1 := x.sels.length) (c1 := c1) (a2 := a2) (n2 := x.decls.length) (c2 := c2) (a3 := a3) (n3 := x.names.length) (c3 := c3) (a6 := a6) (n6 := x.vals.length) (c6 := c6) (a7 := a7) (n7 := x.l.length) (c7 := c7) (w := W) x.kind x.mn x.mx h6
  obtain ⟨va1, va2, va3, rfl⟩ := p1.form
  obtain ⟨vb1, vb2, vb3, rfl⟩ := p2.form
  obtain ⟨vc1, vc2, vc3, rfl⟩ := p3.form
  obtain ⟨x0, x1, x2, x3, x4, x5, x6, x7⟩ := itmO_cells U0.x
  obtain ⟨b0, b1, b2⟩ := plW_cells U0.p
  rw [hW2] at x0 x1 x2 x3 x4 x5 x6 x7 b0 b1 b2
  have HU0 := Lib.hid U0
  have HW := Lib.hid hW2
  have HB2 := Lib.hid U0.below
  have HSZ := Lib.hid (show W2.heap.size = w.heap.size + 2 from by rw [hW2]; simp)
  obtain ⟨hu1, hu5, -⟩ := hu
  by_cases h1 : x.kind = 1
  · have hall := hu1 h1
    have HAL := Lib.hid fun k (hk : k < x.decls.length) => hall x.decls[k] (List.getElem_mem hk)
    have hd' := hi.d
    rw [h1] at x0 HW HFM HU0 ⊢
    clear hu1 hu5 hall p2 p3 hW2 U0
    rcases slB_cells encD 3 encD_len (by decide) hd' with ⟨h0, ad, cap, e⟩ | ⟨b, o, cap, e, hcap, hpos, hbz, hc⟩
    · have hl0 : x.decls.length = 0 := by rw [h0]; rfl
      rw [hl0] at x2 HW HFM HU0 ⊢
      clear p1 hi hs hd' h0 e HAL HI1 HI2
      unfold itV
      unfold itmO at x0 x1 x2 x3 x4 x5 x6 x7 b0 b1 b2 HW
      generalize x.names.length = n3 at *
      go_enter Tryz.func41, Tryz.ntmps41
      go_wp2
      go_loop [5] (fun i => i = .int .i64 0) (fun _ => 0)
      case atStart => rfl
      case round =>
        subst hrel
        go_wp2_with fail
        rw [← HW.out]
        refine (HFM.out _).mono ?_
        rintro e w3 ⟨rfl, hB3⟩
        have U3 := HU0.out.step (by rw [← HSZ.out]; exact hB3)
        obtain ⟨k0, k1, k2, k3, k4, k5, k6, k7⟩ := itmO_cells U3.x
        have HB3 := Lib.hid U3.below
        clear x0 x1 x2 x3 x4 x5 x6 x7 b0 b1 b2 U3 hB3
        go_wp2
        go_ret
        exact ⟨rfl, HB3.out⟩
    · cases e
      have HC := Lib.hid fun k (hk : k < x.decls.length) => (((HB2.out).mono hz).cell (p := ⟨b, o + k * 3, none⟩) hbz).trans (dlB_cells hc hk).1
      have HI2' := Lib.hid (HI1.out W2 HB2.out)
      have HY := Lib.hid (And.intro (itmO_cells HU0.out.x) (plW_cells HU0.out.p))
      clear p1 hi hs hd' hc HI1 HI2
      unfold itV
      unfold itmO at x0 x1 x2 x3 x4 x5 x6 x7 b0 b1 b2 HW
      generalize x.names.length = n3 at *
      go_enter Tryz.func41, Tryz.ntmps41
      go_wp2_with fail
      rw [← HW.out]
      clear x0 x1 x2 x3 x4 x5 x6 x7 b0 b1 b2
      obtain ⟨⟨x0, x1, x2, x3, x4, x5, x6, x7⟩, ⟨b0, b1, b2⟩⟩ := HY.out
      go_loop [5, 6] (fun i _ => ∃ k : Nat, k ≤ x.decls.length ∧ i = .int .i64 k) (fun i _ => x.decls.length - (intOf i).toNat)
      case atStart => exact ⟨0, Nat.zero_le _, rfl⟩
      case round =>
        obtain ⟨k, hk, rfl⟩ := hrel
        by_cases hlt : k < x.decls.length
        · have c0 := HC.out k hlt
          have hkp := HAL.out k hlt
          have HIN := Lib.hid (HI2'.out x.decls[k].name)
          unfold kpD customB at hkp
          generalize x.decls[k].name = nm at *
          by_cases h1s : 1 < nm.size
          · cases hq : ((nm.extract 0 2).toList == [45, 45])
            · clear hkp
              go_wp2_with fail
              go_round
              case rel => exact ⟨k + 1, by omega, by go_num⟩
              case measure => simp [intOf]; omega
            · have hin : p.c.contains (sOf nm) = true := by
                rw [hq] at hkp
                simp only [Bool.and_true, Bool.not_and, Bool.not_not, Bool.or_eq_true, Bool.not_eq_true', decide_eq_false_iff_not] at hkp
                rcases hkp with h | h
                · omega
                · exact h
              rw [hin] at HIN
              clear hkp hin
              go_wp2_with fail
              refine HIN.out.mono ?_
              rintro e w' ⟨rfl, rfl⟩
              go_wp2_with fail
              go_round
              case rel => exact ⟨k + 1, by omega, by go_num⟩
              case measure => simp [intOf]; omega
          · clear hkp
            go_wp2_with fail
            go_round
            case rel => exact ⟨k + 1, by omega, by go_num⟩
            case measure => simp [intOf]; omega
        · obtain rfl : k = x.decls.length := by omega
          go_wp2_with fail
          refine (HFM.out _).mono ?_
          rintro e w3 ⟨rfl, hB3⟩
          have U3 := HU0.out.step (by rw [← HSZ.out]; exact hB3)
          obtain ⟨k0, k1, k2, k3, k4, k5, k6, k7⟩ := itmO_cells U3.x
          have HB3 := Lib.hid U3.below
          clear x0 x1 x2 x3 x4 x5 x6 x7 b0 b1 b2 U3 hB3
          go_wp2
          go_ret
          exact ⟨rfl, HB3.out⟩
  · by_cases h5 : x.kind = 5 ∧ x.names.length = 1
    · obtain ⟨h5, hn1⟩ := h5
      obtain ⟨nm, hnm⟩ := List.length_eq_one_iff.1 hn1
      have hk5 := hu5 h5
      rw [hnm, kpF] at hk5
      have hn' := hi.n
      obtain ⟨b, o, cap, e, hbz, hcell⟩ : ∃ b o cap, Value.slice a3 x.names.length c3 = .slice (some ⟨b, o, none⟩) x.names.length cap ∧ b < z ∧ w.cell? ⟨b, o, none⟩ = some (.string nm) := by
        rcases slB_cells encN 1 (fun _ => rfl) (by decide) hn' with ⟨h0, -⟩ | ⟨b, o, cap, e, -, -, hbz, hc⟩
        · rw [hnm] at h0; cases h0
        · refine ⟨b, o, cap, e, hbz, ?_⟩
          obtain ⟨u, e0, v0⟩ := hc 0 (by rw [hnm]; simp) 0 _ rfl
          obtain rfl : u = _ := v0
          simp only [Nat.zero_mul, Nat.add_zero] at e0
          rw [e0]
          simp [hnm]
      cases e
      have hcell' := ((U0.below.mono hz).cell (p := ⟨b, o, none⟩) hbz).trans hcell
      have HIN := HI2.out W2 HB2.out nm
      rw [hk5] at HIN
      have HY := Lib.hid (And.intro (itmO_cells U0.x) (And.intro (plW_cells U0.p) hcell'))
      rw [hn1] at HY
      clear hcell'
      have HN := Lib.hid fun n => show Calls Tryz.prog 22 #[.slice vb1 vb2 vb3, .string nm] (W2.drewN n) fun e w' => e = .returned (.bool true) ∧ ∃ m, w' = (W2.drewN n).drewN m from by
        have := HI2.out (W2.drewN n) (below_drewN HB2.out n) nm
        rw [hk5] at this
        exact this.mono fun _ _ ⟨h1, h2⟩ => ⟨h1, 0, h2⟩
      rw [h5] at x0 HW HFM HU0 ⊢
      rw [hn1] at x3 HW HFM HU0 ⊢
      clear hu1 hu5 p1 p2 p3 hi hs U0 hW2 hn' hnm hn1 h5 hcell HIN hk5
      unfold itV
      unfold itmO at x0 x1 x2 x3 x4 x5 x6 x7 b0 b1 b2 HW
      generalize x.decls.length = n2 at *
      go_enter Tryz.func41, Tryz.ntmps41
      go_wp2
      go_loop [5] (fun i => i = .int .i64 0) (fun _ => 0)
      case atStart => rfl
      case round =>
        subst hrel
        go_wp2_with fail
        all_goals
          rw [← HW.out]
          clear x0 x1 x2 x3 x4 x5 x6 x7 b0 b1 b2
          obtain ⟨⟨-, -, -, x3, -, -, -, -⟩, ⟨-, b1, -⟩, hcell'⟩ := HY.out
          go_quiet ((go_at_call 22; exact Calls.quiet_of (HN.out _)))
          go_wp2
          go_ret
          exact ⟨rfl, below_drewN HB2.out _⟩
    · have h5' : x.kind = 5 → ((x.names.length : Int) == 1) = false := fun e => beq_eq_false_iff_ne.2 fun h => h5 ⟨e, by omega⟩
      clear hu1 hu5 p1 p2 p3 hi hs U0 hW2
      unfold itV
      unfold itmO at x0 x1 x2 x3 x4 x5 x6 x7 b0 b1 b2 HW
      generalize x.names.length = n3 at *
      generalize x.decls.length = n2 at *
      generalize x.kind = kd at *
      by_cases h55 : kd = 5
      · subst h55
        have e3 := h5' rfl
        clear h5'
        go_enter Tryz.func41, Tryz.ntmps41
        go_wp2
        go_loop [5] (fun i => i = .int .i64 0) (fun _ => 0)
        case atStart => rfl
        case round =>
          subst hrel
          go_wp2_with fail
          all_goals
            rw [← HW.out]
            refine (HFM.out _).mono ?_
            rintro e w3 ⟨rfl, hB3⟩
            have U3 := HU0.out.step (by rw [← HSZ.out]; exact hB3)
            obtain ⟨k0, k1, k2, k3, k4, k5, k6, k7⟩ := itmO_cells U3.x
            have HB3 := Lib.hid U3.below
            clear x0 x1 x2 x3 x4 x5 x6 x7 b0 b1 b2 U3 hB3
            go_wp2
            go_ret
            exact ⟨rfl, HB3.out⟩
      · clear h5'
        go_enter Tryz.func41, Tryz.ntmps41
        go_wp2
        go_loop [5] (fun i => i = .int .i64 0) (fun _ => 0)
        case atStart => rfl
        case round =>
          subst hrel
          go_wp2_with fail
          all_goals
            rw [← HW.out]
            refine (HFM.out _).mono ?_
            rintro e w3 ⟨rfl, hB3⟩
            have U3 := HU0.out.step (by rw [← HSZ.out]; exact hB3)
            obtain ⟨k0, k1, k2, k3, k4, k5, k6, k7⟩ := itmO_cells U3.x
            have HB3 := Lib.hid U3.below
            clear x0 x1 x2 x3 x4 x5 x6 x7 b0 b1 b2 U3 hB3
            go_wp2
            go_ret
            exact ⟨rfl, HB3.out⟩
end
end Go.Proofs.YtlnaihkombcbcaaGreat
end
noncomputable section
namespace Go.Proofs.YtlnaihkombcbcaaGreat
open Go.RowKit Go.Sort Go.Ev
theorem equal_sat {w : World} {v1 v2 : Value} {ss : List Str} (h1 : SAt w v1 ss) (h2 : SAt w v2 ss) (hl : ss.length ≤ 1000000) :
    Calls Tryz.prog 84 #[v1, v2] w fun e w' => e = .returned (.bool true) ∧ ∃ q, w' = w.drewN q := by
  rcases h1 with ⟨h0, a, c, rfl⟩ | ⟨b, off, cap, rfl, g1, g2, g3⟩
  · rcases h2 with ⟨-, a', c', rfl⟩ | ⟨b', off', cap', rfl, g1', g2', g3'⟩
    · refine (Tryz.slices_Equal_string_empty a a' c 0 c' w (by decide)).mono ?_
      rintro e w' ⟨rfl, rfl⟩
      exact ⟨rfl, 0, rfl⟩
    · rw [h0] at g2'; simp at g2'
  · rcases h2 with ⟨h0, a', c', rfl⟩ | ⟨b', off', cap', rfl, g1', g2', g3'⟩
    · rw [h0] at g2; simp at g2
    · have hln : (ss.map bs).length ≤ 9223372036854775807 := by rw [List.length_map]; omega
      have hc : ∀ (b off : Nat) (_ : ∀ j (hj : j < (ss.map bs).length), w.cell? ⟨b, off + j, none⟩ = some (.string (ss.map bs)[j])) j, j < (ss.map bs).length → w.cell? ⟨b, off + j, none⟩ = some (.string ((ss.map bs).getD j ByteArray.empty)) := fun b off h j hj => by
        rw [h j hj, List.getD_eq_getElem?_getD, List.getElem?_eq_getElem hj]; rfl
      refine (Tryz.slices_Equal_string b off (ss.map bs).length cap b' off' (ss.map bs).length cap' (ss.map bs) (ss.map bs) w (Nat.le_refl _) (Nat.le_refl _) hln hln (hc _ _ g3) (hc _ _ g3')).mono ?_
      rintro e w' ⟨rfl, q, rfl⟩
      exact ⟨by simp, q, rfl⟩
def smallS (s : S3) : Prop := s.c.length ≤ 1000000 ∧ s.f.length ≤ 1000000 ∧ s.g.length ≤ 1000000
theorem plBox_cells {W : World} {B : Nat} {va vb vc : Value} (h : W.heap[B]? = some (.cells #[va, vb, vc] 41)) : W.cell? ⟨B, 0, none⟩ = some va ∧ W.cell? ⟨B, 1, none⟩ = some vb ∧ W.cell? ⟨B, 2, none⟩ = some vc := by
  refine ⟨?_, ?_, ?_⟩ <;> (rw [Lib.cell_of_heap h]; rfl)
set_option maxRecDepth 100000 in
set_option maxHeartbeats 2000000 in
theorem psame_any {s : S3} {v1 v2 : Value} {w : World} (h1 : PlAt w v1 s) (h2 : PlAt w v2 s) (hs : smallS s) :
    Calls Tryz.prog 32 #[v1, v2] w fun e w' => e = .returned (.bool true) ∧ Below w.heap.size w w' := by
  obtain ⟨ua, ub, uc, rfl, g1, g2, g3⟩ := h1
  obtain ⟨va, vb, vc, rfl, k1, k2, k3⟩ := h2
  obtain ⟨s1, s2, s3⟩ := hs
  obtain ⟨W2, hW2⟩ : ∃ W2, W2 = (w.alloc (.cells #[ua, ub, uc] 41)).alloc (.cells #[va, vb, vc] 41) := ⟨_, rfl⟩
  have hB : Below w.heap.size w W2 := by rw [hW2]; exact ((Below.refl _ w).alloc (Nat.le_refl _) _).alloc (by simp) _
  have hx : W2.heap[w.heap.size]? = some (.cells #[ua, ub, uc] 41) := by
    rw [hW2, Below.heap_alloc _ _ _ (by simp)]; exact World.alloc_heap_new _ _
  have hy : W2.heap[w.heap.size + 1]? = some (.cells #[va, vb, vc] 41) := by
    have := World.alloc_heap_new (w.alloc (.cells #[ua, ub, uc] 41)) (.cells #[va, vb, vc] 41)
    rw [hW2]; simpa using this
  have HX := Lib.hid fun (W : World) (h : ∃ q, W = W2.drewN q) => show W.heap[w.heap.size]? = some (.cells #[ua, ub, uc] 41) ∧ W.heap[w.heap.size + 1]? = some (.cells #[va, vb, vc] 41) from by
    obtain ⟨q, rfl⟩ := h
    exact ⟨hx, hy⟩
  have HB := Lib.hid fun (W : World) (h : ∃ q, W = W2.drewN q) => show Below w.heap.size w W from by
    obtain ⟨q, rfl⟩ := h
    exact below_drewN hB q
  have C1 := Lib.hid (equal_sat (g1.below hB) (k1.below hB) s1)
  have C2 := Lib.hid fun (W : World) (h : ∃ q, W = W2.drewN q) => equal_sat (g2.below (HB.out W h)) (k2.below (HB.out W h)) s2
  have C3 := Lib.hid fun (W : World) (h : ∃ q, W = W2.drewN q) => equal_sat (g3.below (HB.out W h)) (k3.below (HB.out W h)) s3
  obtain ⟨p0, p1, p2⟩ := plBox_cells hx
  obtain ⟨q0, q1, q2⟩ := plBox_cells hy
  obtain ⟨ua1, ua2, ua3, rfl⟩ := g1.form
  obtain ⟨ub1, ub2, ub3, rfl⟩ := g2.form
  obtain ⟨uc1, uc2, uc3, rfl⟩ := g3.form
  obtain ⟨va1, va2, va3, rfl⟩ := k1.form
  obtain ⟨vb1, vb2, vb3, rfl⟩ := k2.form
  obtain ⟨vc1, vc2, vc3, rfl⟩ := k3.form
  rw [hW2] at p0 q0
  have HW := Lib.hid hW2
  clear g1 g2 g3 k1 k2 k3 s1 s2 s3 hB hx hy hW2
  go_enter Tryz.func32, Tryz.ntmps32
  go_wp2_with fail
  rw [← HW.out]
  refine C1.out.mono ?_
  rintro e w1 ⟨rfl, hq1⟩
  obtain ⟨b1, b2⟩ := HX.out w1 hq1
  obtain ⟨-, p1', p2'⟩ := plBox_cells b1
  obtain ⟨-, q1', q2'⟩ := plBox_cells b2
  have C2' := Lib.hid (C2.out w1 hq1)
  clear p0 p1 p2 q0 q1 q2 b1 b2
  go_wp2_with fail
  refine C2'.out.mono ?_
  rintro e w2 ⟨rfl, hq2⟩
  have hq3 : ∃ q, w2 = W2.drewN q := by
    obtain ⟨a, rfl⟩ := hq1
    obtain ⟨b, rfl⟩ := hq2
    exact ⟨a + b, by rw [World.drewN_drewN]⟩
  obtain ⟨b1, b2⟩ := HX.out w2 hq3
  obtain ⟨-, p1'', p2''⟩ := plBox_cells b1
  obtain ⟨-, q1'', q2''⟩ := plBox_cells b2
  have C3' := Lib.hid (C3.out w2 hq3)
  have HB3 := Lib.hid (HB.out w2 hq3)
  clear p1' p2' q1' q2' b1 b2 hq1 hq2
  go_wp2_with fail
  refine C3'.out.mono ?_
  rintro e w3 ⟨rfl, q, rfl⟩
  go_wp2
  go_ret
  exact ⟨rfl, below_drewN HB3.out q⟩
end Go.Proofs.YtlnaihkombcbcaaGreat
end
noncomputable section
namespace Go.Proofs.YtlnaihkombcbcaaGreat
open Go.RowKit Go.Sort Go.Ev
/-- an item in a row of its own -/
theorem RowZ.at {z B : Nat} {w : World} {a : Option Addr} {n c : Nat} {l : List Itm} (h : RowZ z B w (.slice a n c) l) {k : Nat} (hk : k < l.length) : ∃ g, a = some ⟨g, 0, none⟩ ∧ g < w.heap.size ∧
    ∃ a1 c1 a2 c2 a3 c3 a6 c6 a7 c7, w.cell? ⟨g, k * 8, none⟩ = some (.int .i64 l[k].kind) ∧ w.cell? ⟨g, k * 8 + 1, none⟩ = some (.slice a1 l[k].sels.length c1) ∧ w.cell? ⟨g, k * 8 + 2, none⟩ = some (.slice a2 l[k].decls.length c2) ∧
      w.cell? ⟨g, k * 8 + 3, none⟩ = some (.slice a3 l[k].names.length c3) ∧ w.cell? ⟨g, k * 8 + 4, none⟩ = some (.int .i64 l[k].mn) ∧ w.cell? ⟨g, k * 8 + 5, none⟩ = some (.int .i64 l[k].mx) ∧
      w.cell? ⟨g, k * 8 + 6, none⟩ = some (.slice a6 l[k].vals.length c6) ∧ w.cell? ⟨g, k * 8 + 7, none⟩ = some (.slice a7 l[k].l.length c7) ∧ ItB z w l[k] a1 c1 a2 c2 a3 c3 a6 c6 a7 c7 := by
  rcases h.cells with ⟨rfl, -⟩ | ⟨g, cap, e, -, -, -, hg, hc⟩
  · simp at hk
  · cases e
    obtain ⟨a1, c1, a2, c2, a3, c3, a6, c6, a7, c7, y0, y1, y2, y3, y4, y5, y6, y7, v1, v2, v3, v6, v7⟩ := itB_cells hc hk
    simp only [Nat.zero_add] at y0 y1 y2 y3 y4 y5 y6 y7
    exact ⟨g, rfl, hg, a1, c1, a2, c2, a3, c3, a6, c6, a7, c7, y0, y1, y2, y3, y4, y5, y6, y7, v1, v2, v3, v6, v7⟩
theorem flat_flatten : ∀ (L : List (List Itm)) (x : Itm), x ∈ flatIs L.flatten → ∃ l ∈ L, x ∈ flatIs l
  | [], x, h => by rw [List.flatten_nil, flatIs] at h; simp at h
  | l :: L, x, h => by
    rw [List.flatten_cons, flatIs_append] at h
    rcases List.mem_append.1 h with h | h
    · exact ⟨l, List.mem_cons_self, h⟩
    · obtain ⟨l', h1, h2⟩ := flat_flatten L x h
      exact ⟨l', List.mem_cons_of_mem _ h1, h2⟩
def nilS : S3 := ⟨[], [], []⟩
theorem none_small : smallP nilS := ⟨by decide, by decide, by decide⟩
set_option maxRecDepth 100000 in
set_option maxHeartbeats 16000000 in
theorem poolNone_any (L : List (List Itm)) (v : Value) (w : World) (hv : At w (.sl L.length 1 (L.flatMap encSh)) v) (hg : ∀ l ∈ L, gsIs l = true) :
    Calls Tryz.prog 8 #[v] w fun e w' => e = .returned (.bool true) ∧ Below w.heap.size w w' := by
  have FX := Lib.hid fixed18_any
  have SA := Lib.hid fun w' (h : Below w.heap.size w w') => small18_any L v w' (hv.below h) hg
  have HV := Lib.hid hv
  have HVB := Lib.hid (slB_cells encSh 1 (fun _ => rfl) (by decide) (At.toB hv))
  obtain ⟨pa, ca, rfl, -⟩ := At.sl_form hv
  clear hv hg
  go_enter Tryz.func8, Tryz.ntmps8
  go_wp2_with fail
  refine (FX.out _).mono ?_
  rintro e w1 ⟨rfl, hB1⟩
  go_wp2_with fail
  refine (SA.out _ hB1).mono ?_
  rintro e w2 ⟨q1, rfl, hq1, hB2⟩
  have hC2 := bup hB1 hB2
  cases q1
  · go_wp2_with fail
    refine (FX.out _).mono ?_
    rintro e w3 ⟨rfl, hB3⟩
    go_wp2
    go_ret
    exact ⟨rfl, bup hC2 hB3⟩
  · obtain ⟨hl4, hok⟩ : L.length ≤ 4 ∧ ∀ l ∈ L, okSh l := hq1.out (by first | rfl | trivial)
    have OA := Lib.hid (of18_any L _ w2 (HV.out.below hC2) hok hl4)
    have SM := Lib.hid fun s (h : FinU (rulesOf L.flatten) s) => show smallS s from by
      have hi : InU (rulesOf L.flatten) s := ⟨h.1, fun i x hx => (h.2 i x).1 hx⟩
      have h0 : s.c.length ≤ 240000 := small_len hok hl4 hi 0
      have h1 : s.f.length ≤ 240000 := small_len hok hl4 hi 1
      have h2 : s.g.length ≤ 240000 := small_len hok hl4 hi 2
      exact ⟨by omega, by omega, by omega⟩
    have HOK := Lib.hid hok
    clear hq1 SA FX hok
    go_wp2_with fail
    refine OA.out.mono ?_
    rintro e w4 ⟨px, s, rfl, hpx, hfx, hB4⟩
    obtain ⟨x1, x2, x3, rfl, gx1, gx2, gx3⟩ := hpx
    obtain ⟨x11, x12, x13, rfl⟩ := gx1.form
    obtain ⟨x21, x22, x23, rfl⟩ := gx2.form
    obtain ⟨x31, x32, x33, rfl⟩ := gx3.form
    have hC4 := bup hC2 hB4
    have hba := below_alloc w4 (.cells #[.slice x11 x12 x13, .slice x21 x22 x23, .slice x31 x32 x33] 41)
    have hX := World.alloc_heap_new w4 (.cells #[.slice x11 x12 x13, .slice x21 x22 x23, .slice x31 x32 x33] 41)
    have hXl := (Array.getElem?_eq_some_iff.1 hX).1
    have PX := Lib.hid (show PlAt (w4.alloc (.cells #[.slice x11 x12 x13, .slice x21 x22 x23, .slice x31 x32 x33] 41)) (.agg #[.slice x11 x12 x13, .slice x21 x22 x23, .slice x31 x32 x33]) s from ⟨_, _, _, rfl, gx1.below hba, gx2.below hba, gx3.below hba⟩)
    have PX1 := Lib.hid (And.intro (gx1.below hba) (And.intro (gx2.below hba) (gx3.below hba)))
    have HFX := Lib.hid hfx
    have HC5 := Lib.hid (bup hC4 hba)
    have HXB := Lib.hid fun (W : World) (h : Below (w4.alloc (.cells #[.slice x11 x12 x13, .slice x21 x22 x23, .slice x31 x32 x33] 41)).heap.size (w4.alloc (.cells #[.slice x11 x12 x13, .slice x21 x22 x23, .slice x31 x32 x33] 41)) W) => plBox_cells ((h.block _ hXl).trans hX)
    clear gx1 gx2 gx3 hC4 hba hX hXl hfx OA
    have HCE := Lib.hid fun i (hi : i < L.length) => show ∃ b o ad cp, pa = some ⟨b, o, none⟩ ∧ b < w.heap.size ∧ w.cell? ⟨b, o + i, none⟩ = some (.slice ad L[i].length cp) ∧ AtB w.heap.size w (.sl L[i].length 8 (L[i].flatMap encI)) (.slice ad L[i].length cp) from by
      rcases HVB.out with ⟨rfl, -⟩ | ⟨b, o, cap, e, -, -, hbz, hc⟩
      · simp at hi
      · cases e
        obtain ⟨x, e0, v0⟩ := hc i hi 0 _ rfl
        have v0' := v0
        obtain ⟨ad, cp, rfl, -⟩ := AtB.sl_form v0
        simp only [Nat.add_zero, Nat.mul_one] at e0
        exact ⟨b, o, ad, cp, rfl, hbz, e0, v0'⟩
    clear HVB HV
    go_wp2_with fail
    generalize hbp : w4.heap.size = Bp at *
    generalize w4.alloc (.cells #[.slice x11 x12 x13, .slice x21 x22 x23, .slice x31 x32 x33] 41) = W5 at *
    clear hbp
    go_loopw [4, 5, 6, 7, 8, 9, 10] (fun v4 v5 _ _ _ _ _ wr => ∃ i r : Nat, i ≤ L.length ∧ v5 = .int .i64 i ∧ v4 = .int .i64 r ∧ r ≤ 1000 * i ∧ Hid (Below W5.heap.size W5 wr ∧ (r = 0 → ∀ l ∈ L.take i, ∀ x ∈ flatIs l, x.kind ≠ 1))) (fun _ i _ _ _ _ _ _ => L.length - (intOf i).toNat)
    case atStart => exact ⟨0, 0, Nat.zero_le _, rfl, rfl, by omega, Lib.hid ⟨Below.refl _ _, fun _ => by simp⟩⟩
    case round =>
      obtain ⟨i, r, hi, rfl, rfl, hr, S⟩ := hrel
      by_cases hlt : i < L.length
      · obtain ⟨b, o, ad, cp, rfl, hbz, e0, ha⟩ := HCE.out i hlt
        have hWw := bup HC5.out S.out.1
        have e0' := (hWw.cell (p := ⟨b, o + i, none⟩) hbz).trans e0
        obtain ⟨ok1, ok2⟩ := HOK.out L[i] (List.getElem_mem hlt)
        have hfl := (flatIs_ok _ ok2).1
        have HA1 := Lib.hid (all_any w.heap.size _ L[i] (Nat.le_refl _) ok2 (by omega) (.slice ad L[i].length cp) wr (ha.below hWw) hWw.size)
        have HDR := Lib.hid fun (W : World) (h : Below w.heap.size w W) => drop_any nilS none_small w.heap.size _ L[i] (Nat.le_refl _) ok2 (by omega) (.slice ad L[i].length cp) (.agg #[.slice none 0 0, .slice none 0 0, .slice none 0 0]) W (ha.below h) h.size (PlAt.nil W)
        have HA2 := Lib.hid fun (v : Value) (W : World) (h : AtB W.heap.size W (.sl (dropIs nilS L[i]).length 8 ((dropIs nilS L[i]).flatMap encI)) v) => all_any W.heap.size _ (dropIs nilS L[i]) (Nat.le_refl _) (left_ok nilS ok2).1 (by have := (left_ok nilS ok2).2; omega) v W h (Nat.le_refl _)
        have HUS := Lib.hid (left_used nilS L[i])
        have HOKL := Lib.hid fun x (hx : x ∈ flatIs (dropIs nilS L[i])) => show x.decls.length ≤ 1000000 from by
          have := ((flatIs_ok _ (left_ok nilS ok2).1).2 _ hx).1.1
          omega
        have hfl2 : (flatIs (dropIs nilS L[i])).length ≤ 1000 := by
          have h1 := (flatIs_ok _ (left_ok nilS ok2).1).1
          have h2 := (left_ok nilS ok2).2
          omega
        have HWw := Lib.hid hWw
        have HLT : Hid (∀ P : List Itm → Prop, (∀ l ∈ L.take i, P l) → P L[i] → ∀ l ∈ L.take (i + 1), P l) := Lib.hid fun P h1 h2 l hl => by
          rw [List.take_succ_eq_append_getElem hlt] at hl
          rcases List.mem_append.1 hl with hl | hl
          · exact h1 l hl
          · rw [List.mem_singleton.1 hl]; exact h2
        have hfl1 : (flatIs L[i]).length ≤ 1000 := by omega
        clear ha e0 ok1 ok2 hWw hfl
        generalize L[i] = li at *
        go_wp2_with fail
        refine HA1.out.mono ?_
        rintro e w6 ⟨a6, c6, rfl, hR6, hB6⟩
        have hW6 := bup HWw.out hB6
        have e0'' := (hB6.cell (p := ⟨b, o + i, none⟩) (by show b < wr.heap.size; have := HWw.out.size; omega)).trans e0'
        have HR6 := Lib.hid hR6
        have HW6 := Lib.hid hW6
        have HB6 := Lib.hid hB6
        clear e0' HA1 hR6 hW6 hB6
        go_wp2_with fail
        generalize hn6 : (flatIs li).length = n6 at *
        go_loop [4, 7] (fun v4 v7 => ∃ k m : Nat, k ≤ n6 ∧ v7 = .int .i64 k ∧ v4 = .int .i64 m ∧ r ≤ m ∧ m ≤ r + k ∧ Hid (m = 0 → ∀ x ∈ (flatIs li).take k, x.kind ≠ 1)) (fun _ k => n6 - (intOf k).toNat)
        case atStart => exact ⟨0, r, Nat.zero_le _, rfl, rfl, Nat.le_refl _, by omega, Lib.hid fun _ => by simp⟩
        case round =>
          obtain ⟨k, m, hk, rfl, rfl, hm1, hm2, hh⟩ := hrel
          by_cases hkl : k < n6
          · have hkl' : k < (flatIs li).length := by omega
            obtain ⟨g, hg6, hgl, a1, c1, a2, c2, a3, c3, a6', c6', a7, c7, y0, y1, y2, y3, y4, y5, y6, y7, -⟩ := HR6.out.at hkl'
            cases hg6
            have HT : Hid (∀ P : Itm → Prop, (∀ x ∈ (flatIs li).take k, P x) → P (flatIs li)[k] → ∀ x ∈ (flatIs li).take (k + 1), P x) := Lib.hid fun P h1 h2 x hx => by
              rw [List.take_succ_eq_append_getElem hkl'] at hx
              rcases List.mem_append.1 hx with hx | hx
              · exact h1 x hx
              · rw [List.mem_singleton.1 hx]; exact h2
            clear y1 y2 y3 y4 y5 y6 y7
            by_cases hk1 : (flatIs li)[k].kind = 1
            · rw [hk1] at y0
              clear hk1
              go_wp2_with fail
              go_round
              case rel => exact ⟨k + 1, m + 1, by omega, by go_num, by go_num, by omega, by omega, Lib.hid fun h => by omega⟩
              case measure => simp [intOf]; omega
            · have HTT := Lib.hid fun (h : m = 0) => HT.out (fun x => x.kind ≠ 1) (hh.out h) hk1
              generalize (flatIs li)[k].kind = kd at *
              have e1 : (kd == 1) = false := beq_eq_false_iff_ne.2 hk1
              clear hk1
              go_wp2_with fail
              go_round
              case rel => exact ⟨k + 1, m, by omega, by go_num, rfl, hm1, by omega, HTT⟩
              case measure => simp [intOf]; omega
          · obtain rfl : k = n6 := by omega
            have hall : m = 0 → ∀ x ∈ flatIs li, x.kind ≠ 1 := by
              have := hh.out
              rwa [← hn6, List.take_length] at this
            have HALL := Lib.hid hall
            have HD7 := Lib.hid (HDR.out w6 HW6.out)
            clear hh hall HDR
            go_wp2_with fail
            refine HD7.out.mono ?_
            rintro e w7 ⟨a7, c7, rfl, hv7, hB7⟩
            have hat7 : AtB w7.heap.size w7 (.sl (dropIs nilS li).length 8 ((dropIs nilS li).flatMap encI)) (.slice a7 (dropIs nilS li).length c7) := VR_keep (fun _ h => h.2) (fun _ _ => rfl) _ hv7
            have HA3 := Lib.hid (HA2.out _ w7 hat7)
            have HW7 := Lib.hid (bup HW6.out hB7)
            have HB7 := Lib.hid (bup HB6.out hB7)
            clear HA2 hv7 hat7 hB7 HD7 e0''
            go_wp2_with fail
            refine HA3.out.mono ?_
            rintro e w8 ⟨a8, c8, rfl, hR8, hB8⟩
            have HR8 := Lib.hid hR8
            have HW8 := Lib.hid (bup HW7.out hB8)
            have HB8 := Lib.hid (bup HB7.out hB8)
            have HZ8 := Lib.hid hB8.size
            clear HA3 hR8 hB8 hn6
            generalize hn8 : (flatIs (dropIs nilS li)).length = n8 at *
            go_wp2_with fail
            go_loopw [9, 10] (fun v9 _ wx => ∃ k : Nat, k ≤ n8 ∧ v9 = .int .i64 k ∧ Hid (Below w8.heap.size w8 wx)) (fun k _ _ => n8 - (intOf k).toNat)
            case atStart => exact ⟨0, Nat.zero_le _, rfl, Lib.hid (Below.refl _ _)⟩
            case round =>
              obtain ⟨k2, hk2, rfl, hX⟩ := hrel
              by_cases hkl : k2 < n8
              · have hkl' : k2 < (flatIs (dropIs nilS li)).length := by omega
                obtain ⟨g, hg8, hgl, a1, c1, a2, c2, a3, c3, a6', c6', a7', c7', y0, y1, y2, y3, y4, y5, y6, y7, hit⟩ := HR8.out.at hkl'
                cases hg8
                have hu := HUS.out _ (List.getElem_mem hkl')
                obtain ⟨hn6', hn5'⟩ := used_none hu
                have hdl := HOKL.out _ (List.getElem_mem hkl')
                have hxb := hX.out
                have y0 := (hxb.cell (p := ⟨g, k2 * 8, none⟩) hgl).trans y0
                have y1 := (hxb.cell (p := ⟨g, k2 * 8 + 1, none⟩) hgl).trans y1
                have y2 := (hxb.cell (p := ⟨g, k2 * 8 + 2, none⟩) hgl).trans y2
                have y3 := (hxb.cell (p := ⟨g, k2 * 8 + 3, none⟩) hgl).trans y3
                have y4 := (hxb.cell (p := ⟨g, k2 * 8 + 4, none⟩) hgl).trans y4
                have y5 := (hxb.cell (p := ⟨g, k2 * 8 + 5, none⟩) hgl).trans y5
                have y6 := (hxb.cell (p := ⟨g, k2 * 8 + 6, none⟩) hgl).trans y6
                have y7 := (hxb.cell (p := ⟨g, k2 * 8 + 7, none⟩) hgl).trans y7
                have hz7 : w7.heap.size ≤ wr.heap.size := Nat.le_trans HZ8.out hxb.size
                have hba := below_alloc wr (itmO (flatIs (dropIs nilS li))[k2].kind a1 (flatIs (dropIs nilS li))[k2].sels.length c1 a2 (flatIs (dropIs nilS li))[k2].decls.length c2 a3 (flatIs (dropIs nilS li))[k2].names.length c3 (flatIs (dropIs nilS li))[k2].mn (flatIs (dropIs nilS li))[k2].mx a6' (flatIs (dropIs nilS li))[k2].vals.length c6' a7' (flatIs (dropIs nilS li))[k2].l.length c7')
                have hnew := World.alloc_heap_new wr (itmO (flatIs (dropIs nilS li))[k2].kind a1 (flatIs (dropIs nilS li))[k2].sels.length c1 a2 (flatIs (dropIs nilS li))[k2].decls.length c2 a3 (flatIs (dropIs nilS li))[k2].names.length c3 (flatIs (dropIs nilS li))[k2].mn (flatIs (dropIs nilS li))[k2].mx a6' (flatIs (dropIs nilS li))[k2].vals.length c6' a7' (flatIs (dropIs nilS li))[k2].l.length c7')
                have HUC := Lib.hid (used_any (p := nilS) (PlAt.nil _) none_small (Nat.le_trans hz7 hba.size) hdl hn6' hu (hit.below ((hxb.mono HZ8.out).trans (hba.mono hz7))))
                obtain ⟨x0, x1, x2, x3, x4, x5, x6, x7⟩ := itmO_cells hnew
                have HBA := Lib.hid (hxb.trans (hba.mono hxb.size))
                clear hu hdl hxb hz7 hba hnew hit
                unfold itmO at HUC x0 x1 x2 x3 x4 x5 x6 x7 HBA
                unfold itV at HUC
                generalize (flatIs (dropIs nilS li))[k2].kind = kd at *
                generalize (flatIs (dropIs nilS li))[k2].sels.length = m1 at *
                generalize (flatIs (dropIs nilS li))[k2].decls.length = m2 at *
                generalize (flatIs (dropIs nilS li))[k2].names.length = m3 at *
                generalize (flatIs (dropIs nilS li))[k2].mn = mn at *
                generalize (flatIs (dropIs nilS li))[k2].mx = mx at *
                generalize (flatIs (dropIs nilS li))[k2].vals.length = m6 at *
                generalize (flatIs (dropIs nilS li))[k2].l.length = m7 at *
                have e6 : (kd == 6) = false := beq_eq_false_iff_ne.2 hn6'
                by_cases h5 : kd = 5
                · subst h5
                  have e3 : ((m3 : Int) == 1) = false := beq_eq_false_iff_ne.2 (by have := hn5' rfl; omega)
                  clear hn6' hn5'
                  go_wp2_with fail
                  refine HUC.out.mono ?_
                  rintro e w9 ⟨rfl, hB9⟩
                  have HB9 := Lib.hid (HBA.out.trans (hB9.mono HBA.out.size))
                  clear x0 x1 x2 x3 x4 x5 x6 x7 y0 y1 y2 y3 y4 y5 y6 y7 hB9 HUC
                  go_wp2_with fail
                  go_roundw
                  case rel => exact ⟨k2 + 1, by omega, by go_num, HB9⟩
                  case measure => simp [intOf]; omega
                · have e5 : (kd == 5) = false := beq_eq_false_iff_ne.2 h5
                  clear hn6' hn5'
                  go_wp2_with fail
                  refine HUC.out.mono ?_
                  rintro e w9 ⟨rfl, hB9⟩
                  have HB9 := Lib.hid (HBA.out.trans (hB9.mono HBA.out.size))
                  clear x0 x1 x2 x3 x4 x5 x6 x7 y0 y1 y2 y3 y4 y5 y6 y7 hB9 HUC
                  go_wp2_with fail
                  go_roundw
                  case rel => exact ⟨k2 + 1, by omega, by go_num, HB9⟩
                  case measure => simp [intOf]; omega
              · obtain rfl : k2 = n8 := by omega
                have HFIN : Hid (Below W5.heap.size W5 wr ∧ (m = 0 → ∀ l ∈ L.take (i + 1), ∀ x ∈ flatIs l, x.kind ≠ 1)) := Lib.hid ⟨S.out.1.trans ((bup HB8.out hX.out).mono S.out.1.size), fun h => HLT.out (fun l => ∀ x ∈ flatIs l, x.kind ≠ 1) (S.out.2 (by omega)) (HALL.out h)⟩
                go_wp2_with fail
                go_roundw
                case rel => exact ⟨i + 1, m, by omega, by go_num, rfl, by omega, HFIN⟩
                case measure => simp [intOf]; omega
      · obtain rfl : i = L.length := by omega
        have hS := S.out
        rw [List.take_length] at hS
        obtain ⟨hBW, hno⟩ := hS
        obtain ⟨b0, b1, b2⟩ := HXB.out wr hBW
        have sm := SM.out s HFX.out
        have RI1 := Lib.hid fun (W : World) (h : Below W5.heap.size W5 W) => rises_any _ s.c W (PX1.out.1.below h) (HFX.out.1 0) sm.1
        have RI2 := Lib.hid fun (W : World) (h : Below W5.heap.size W5 W) => rises_any _ s.f W (PX1.out.2.1.below h) (HFX.out.1 1) sm.2.1
        have RI3 := Lib.hid fun (W : World) (h : Below W5.heap.size W5 W) => rises_any _ s.g W (PX1.out.2.2.below h) (HFX.out.1 2) sm.2.2
        have HBW := Lib.hid hBW
        have SAME := Lib.hid fun (h : r = 0) => psame_any (PX.out.below hBW) (show PlAt wr (.agg #[.slice none 0 0, .slice none 0 0, .slice none 0 0]) s from by
          rw [none_fin (fun x hx => by obtain ⟨l, hl, hx⟩ := flat_flatten L x hx; exact hno h l hl x hx) HFX.out]
          exact PlAt.nil wr) sm
        clear hBW hno S sm SM HOK HCE hi hr
        rcases Nat.eq_zero_or_pos r with hr0 | hr0
        · have SM0 := Lib.hid (SAME.out hr0)
          subst hr0
          clear SAME
          go_wp2_with fail
          refine SM0.out.mono ?_
          rintro e wA ⟨rfl, hBA⟩
          have HBA := Lib.hid (bup HBW.out hBA)
          clear b0 b1 b2 hBA
          obtain ⟨b0, b1, b2⟩ := HXB.out wA HBA.out
          go_wp2_with fail
          refine (RI1.out wA HBA.out).mono ?_
          rintro e wB ⟨rfl, hBB⟩
          have HBB := Lib.hid (bup HBA.out hBB)
          clear b0 b1 b2 hBB
          obtain ⟨b0, b1, b2⟩ := HXB.out wB HBB.out
          go_wp2_with fail
          refine (RI2.out wB HBB.out).mono ?_
          rintro e wC ⟨rfl, hBC⟩
          have HBC := Lib.hid (bup HBB.out hBC)
          clear b0 b1 b2 hBC
          obtain ⟨b0, b1, b2⟩ := HXB.out wC HBC.out
          go_wp2_with fail
          refine (RI3.out wC HBC.out).mono ?_
          rintro e wD ⟨rfl, hBD⟩
          go_wp2
          go_ret
          exact ⟨rfl, bup HC5.out (bup HBC.out hBD)⟩
        · clear SAME
          have hr1 : (0 : Int) < (r : Int) := by omega
          go_wp2_with fail
          refine (RI1.out wr HBW.out).mono ?_
          rintro e wB ⟨rfl, hBB⟩
          have HBB := Lib.hid (bup HBW.out hBB)
          clear b0 b1 b2 hBB
          obtain ⟨b0, b1, b2⟩ := HXB.out wB HBB.out
          go_wp2_with fail
          refine (RI2.out wB HBB.out).mono ?_
          rintro e wC ⟨rfl, hBC⟩
          have HBC := Lib.hid (bup HBB.out hBC)
          clear b0 b1 b2 hBC
          obtain ⟨b0, b1, b2⟩ := HXB.out wC HBC.out
          go_wp2_with fail
          refine (RI3.out wC HBC.out).mono ?_
          rintro e wD ⟨rfl, hBD⟩
          go_wp2
          go_ret
          exact ⟨rfl, bup HC5.out (bup HBC.out hBD)⟩
end Go.Proofs.YtlnaihkombcbcaaGreat
end
namespace Go.Proofs.YtlnaihkombcbcaaGreat
open Go.ChangeShapes Go.WideShapes Go.ChangeAt Go.RowKit Go.Ev
theorem own : ownKnob Tryz.prog.godebug = none := by kernel_rfl
section
variable {H : Type} {enc : TypeId × Value → H} {P : Program}
theorem post_of_below {f : Func} {s : ChangeSpec} {apart fresh handsOn again : Bool} {W W' : World} {args : Array Value} {v : Value} {ds gs : List (DataW H)} {before pa pv : List MemPlace}
    (hW : DataW.Whole enc P f.params.toList s.vars apart W args.toList ds gs before)
    (hres : ∀ (b : Nat) (sp : Nat → Bool) (hd : Bool), DataW.TrodAll enc P W' b sp hd f.resultTypes.toList (v.resultList f.resultTypes.size) (s.fn H (ds ++ gs)).results [])
    (hargs : ∀ sp : Nat → Bool, (∀ p ∈ before, sp p.block = true) → DataW.TrodAll enc P W' 0 sp true f.params.toList args.toList (s.fn H (ds ++ gs)).args pa)
    (hvars : ∀ sp : Nat → Bool, (∀ p ∈ before, sp p.block = true) → DataW.TrodVars enc P W' sp s.vars (s.fn H (ds ++ gs)).vars pv)
    (hps : before = pa ++ pv) (hB : Below W.heap.size W W')
    (hok : ∀ (j : Nat) (t : TypeId) (r : Value), f.resultTypes[j]? = some t → (v.resultList f.resultTypes.size)[j]? = some r → Value.okWide P W' .any 0 t r) :
    s.post enc P f apart fresh handsOn again W args v W' := by
  have hold : ∀ p ∈ before, (fun b => decide (b < W.heap.size)) p.block = true := fun p hp => by simpa using hW.lt p hp
  have hlt := fun p hp => hW.lt p hp
  refine ⟨ds, gs, before, [], pa, pv, hW, hres _ _ _, hargs _ hold, hvars _ hold, World.keptBut_mono (fun p hp => ⟨hp, ?_⟩) (hB.frame (· ∈ before)), fun _ => ?_⟩
  · rw [hps, List.mem_append] at hp
    exact Or.inr hp
  · obtain ⟨_, _, _, _, _, hz, hn⟩ := hW
    refine ⟨hok, _, _, ([] ++ pa) ++ pv, ⟨[] ++ pa, pv, trodAll_append (hargs _ (fun _ _ => rfl)) (hres _ _ _), hvars _ (fun _ _ => rfl), rfl, ?_, ?_⟩, ?_⟩
    · intro b off hp
      have hp' : MemPlace.cell b off ∈ before := by rw [hps]; simpa using hp
      rw [hB.frozen (hlt _ hp')]
      exact hz b off hp'
    · intro ha
      have := hn ha
      rw [hps] at this
      simpa using this
    · intro p hp _
      rw [hps]
      simpa using hp
end
theorem readableSheets : Tryz.prog.readableRec 39 = true := by kernel_rfl
theorem inTableSheets : 39 < Tryz.prog.types.size := of_decide_eq_true (by kernel_rfl)
namespace poolNone
set_option maxRecDepth 1000000 in
theorem contract (H : Type) (enc : TypeId × Value → H) (W : World) (base : Nat) (args : Array Value) (ds gs : List (DataW H)) (before : List MemPlace)
    (hval : ∀ (j : Nat) t v, Tryz.f8.params[j]? = some t → args[j]? = some v → Value.okWide Tryz.prog W .any base t v)
    (hW : DataW.Whole enc Tryz.prog Tryz.f8.params.toList Rows.poolNoneSpec.vars false W args.toList ds gs before)
    (hw : (DataW.weightsEach Tryz.prog (Tryz.f8.params.toList ++ Rows.poolNoneSpec.plain.varTypes Tryz.prog) (ds ++ gs)).all (· ≤ reachBytes) = true) :
    Calls Tryz.prog 8 args W fun e W' => ∃ v, e = .returned v ∧ Rows.poolNoneSpec.post enc Tryz.prog Tryz.f8 false true false false W args v W' := by
  have hW' := hW
  obtain ⟨p, q, hA0, hV, rfl, hfz, hnd⟩ := hW
  have hA : DataW.TrodAll enc Tryz.prog W 0 (fun _ => true) true Tryz.f8.params.toList args.toList ds p := hA0
  rw [show Tryz.f8.params = #[39] by kernel_rfl] at hA hval hw
  obtain ⟨v0, vs0, d0, ds0, p0, q0, hargs, rfl, rfl, h0, r0⟩ := trodAll_cons hA
  obtain ⟨rfl, rfl, rfl⟩ := trodAll_nil r0
  obtain rfl : args = #[v0] := by cases args; simp_all
  obtain ⟨rfl, rfl⟩ := trodVars_none hV
  have hw' := List.all_eq_true.1 hw
  have fit0 : Fits Tryz.prog 39 d0 := fun x hx => by
    simpa using hw' x (mem_weightsEach (i := 0) rfl rfl x hx)
  obtain ⟨a, ha, ga⟩ := open_sheets (hval 0 39 v0 (by simp) (by simp)) h0 fit0
  clear hA0
  have hlt0 : ∀ x ∈ p0, x.block < W.heap.size := fun x hx => by simpa using hW'.lt x (by simp [hx])
  refine (poolNone_any a v0 W ha ga).mono fun e W' ⟨he, hB⟩ => ?_
  subst he
  exact ⟨_, rfl, post_of_below (pa := p0 ++ []) (pv := []) hW' (fun _ _ _ => trodAll_cons_mk (shut_bool Tryz.underlying4 _) trodAll_mk0)
    (fun sp hsp => trodAll_cons_mk (WideElems.Trod_stays p_laid readableSheets inTableSheets h0 (fun x hx => hB.same (hlt0 x hx)) (fun x hx => hsp x (by simp [hx]))) trodAll_mk0)
    (fun _ _ => rfl) rfl hB (ok_one (by kernel_rfl) rfl (okWide_bool_mk Tryz.underlying4 _))⟩
set_option maxRecDepth 100000 in
theorem lifted (os : Os) (started : os.Started) (H : Type) (enc : TypeId × Value → H) :
    ReturnsInHanded {} Tryz.checked os 8 .any (Rows.poolNoneSpec.pre6 enc Tryz.prog Tryz.f8 Rows.poolNoneRow.domain false) (Rows.poolNoneSpec.post enc Tryz.prog Tryz.f8 false true false false) := by
  refine returnsInHanded_of_change_sized (C := Tryz.checked) own started (by kernel_rfl) Tryz.func8
    (ChangeSpec.witness6 (enc := enc) (C := Tryz.checked) false ⟨#[], #[.slice none 0 0], []⟩ 8 (by kernel_rfl) (by kernel_rfl) (by kernel_rfl) (by kernel_rfl)) ?_
  intro W base args ds gs before hval hW _ hw _
  exact contract H enc W base args ds gs before hval hW hw
theorem said : Rows.PoolNoneSaid :=
  OpenClaim.holds_of_wide 8 Tryz.f8 rfl rfl rfl rfl rfl rfl rfl ⟨rfl, rfl, rfl, rfl, rfl⟩ rfl rfl rfl rfl rfl row_named Tryz.func8 closed
    (of_decide_eq_true (by kernel_rfl)) row_wrapper
    (fun os started H enc _ => lifted os started H enc)
end poolNone
end Go.Proofs.YtlnaihkombcbcaaGreat
