/- The law PoolLeft is true of every input: the statement of the first form. -/
import Derived.Test.YtlnaihkombcbcaaGreatLd9
import Derived.Test.YtlnaihkombcbcaaGreatLd7
import Derived.Test.YtlnaihkombcbcaaGreatLd8
import Derived.Test.YtlnaihkombcbcaaGreatLe0
import Derived.WalkKit
import Derived.ProofKit
import Derived.OpenShut
import Derived.SizedLaws
import Derived.WideKeyArgs
noncomputable section
namespace Go.Proofs.YtlnaihkombcbcaaGreat
open Go.RowKit Go.Sort Go.Ev
theorem same8_at {l : List Itm} {v1 v2 : Value} {w : World} (h1 : okIs l) (h2 : cntIs l ≤ 1000) (h3 : wsIs l) (ha : AtB w.heap.size w (.sl l.length 8 (l.flatMap encI)) v1) (hb : AtB w.heap.size w (.sl l.length 8 (l.flatMap encI)) v2) :
 Calls Tryz.prog 27 #[v1, v2] w fun e w' => e = .returned (.bool true) ∧ Below w.heap.size w w' := by
 have hl := cntIs_len l
 refine ((same8_p _ l (Nat.le_refl _) (by omega) (wd_all h1 h2 h3)).pure.at w #[v1, v2] (fun _ _ h => by cases h) (VRs.cons_mk ha (VRs.cons_mk hb (by rw [VRs])))).mono ?_
 rintro e w' ⟨r, rfl, hr, hB⟩
 obtain rfl : r = .bool true := hr
 exact ⟨rfl, hB⟩
theorem len_flatNm : ∀ (l : List ByteArray), (l.flatMap encN).length = l.length
 | [] => rfl
 | x :: l => by rw [List.flatMap_cons, List.length_append, len_flatNm l, List.length_cons]; show 1 + _ = _; omega
theorem sat_at {w : World} {v : Value} {c : List Str} (h : SAt w v c) : At w (stA c) v := by
 rcases h with ⟨h0, a, cp, rfl⟩ | ⟨b, off, cap, rfl, hc, hp, hg⟩
 ·show VR _ _ (.sl (c.map bs).length 1 ((c.map bs).flatMap encN)) _
  rw [h0]
  exact ⟨a, cp, rfl, Nat.zero_le _, .inl rfl⟩
 ·refine ⟨_, cap, rfl, hc, .inr ⟨b, off, rfl, RowR.mk (cell_lt (hg 0 hp)) fun i a hi => ?_⟩⟩
  have hlt : i < (c.map bs).length := by have := (List.getElem?_eq_some_iff.1 hi).1; rwa [len_flatNm] at this
  refine ⟨_, hg i hlt, ?_⟩
  have h2 := flat_get encN 1 (fun _ => rfl) (c.map bs) i hlt 0 (by decide)
  rw [Nat.mul_one, Nat.add_zero] at h2
  rw [h2] at hi
  obtain rfl := Option.some.inj hi
  rfl
theorem used_at {s : S3} {x : Itm} {pv : Value} {w : World} {z : Nat} {a1 a2 a3 a6 a7 : Option Addr} {c1 c2 c3 c6 c7 : Nat} (hp : smallP s) (g1 : okDs x.decls) (hu : usedP s x) (hpv : PlAt w pv s) (hz : z ≤ w.heap.size) (hi : ItB z w x a1 c1 a2 c2 a3 c3 a6 c6 a7 c7) :
 Calls Tryz.prog 41 #[pv, itV x.kind a1 x.sels.length c1 a2 x.decls.length c2 a3 x.names.length c3 x.mn x.mx a6 x.vals.length c6 a7 x.l.length c7] w fun e w' => e = .returned (.bool true) ∧ Below w.heap.size w w' := by
 obtain ⟨va, vb, vc, rfl, p1, p2, p3⟩ := hpv
 have hd : ∀ d ∈ x.decls, d.l.length ≤ 1000 := fun d hd => by have := (g1.2 d hd).1; have := cntVs_len d.l; omega
 have hI := VRs_keep (I := (gZ z).I) (I' := fun b => b < w.heap.size) (fun rb (hr : rb < z) => Nat.lt_of_lt_of_le hr hz) (fun _ _ => rfl) _ (vrsB_item hi)
 refine ((used_p hp (by have := g1.1; omega) hd hu).pure.at w #[.agg #[va, vb, vc], itV x.kind a1 x.sels.length c1 a2 x.decls.length c2 a3 x.names.length c3 x.mn x.mx a6 x.vals.length c6 a7 x.l.length c7] (fun _ _ h => by cases h)
  (VRs.cons_mk ⟨_, rfl, VRs.cons_mk (sat_at p1) (VRs.cons_mk (sat_at p2) (VRs.cons_mk (sat_at p3) (by rw [VRs])))⟩ (VRs.cons_mk ⟨_, rfl, hI⟩ (by rw [VRs])))).mono ?_
 rintro e w' ⟨r, rfl, hr, hB⟩
 obtain rfl : r = .bool true := hr
 exact ⟨rfl, hB⟩
structure LfSt (z B : Nat) (o : Obj) (w : World) (l : List (List Itm)) (v : Value) (W : World) : Prop where
 below : Below B w W
 box : W.heap[B]? = some o
 row : ∃ news, W.ownsRow (B + 1) 46 1 v l.length news ∧ VRs W ⟨fun _ => none, fun b => (b < z ∨ B + 1 ≤ b) ∧ b < W.heap.size ∧ v.ownBlock ≠ some b⟩ (l.flatMap encSh) news
 size : B + 1 ≤ W.heap.size
section
variable {z B : Nat} {o : Obj} {w W W' : World} {l : List (List Itm)} {v : Value}
theorem LfSt.step (h : LfSt z B o w l v W) (hb : Below W.heap.size W W') : LfSt z B o w l v W' := by
 obtain ⟨news, h1, h2⟩ := h.row
 refine ⟨h.below.trans (hb.mono (Nat.le_trans (Nat.le_succ _) h.size)), (hb.block _ (Nat.lt_of_lt_of_le (Nat.lt_succ_self _) h.size)).trans h.box, ⟨news, owns_below h1 hb, ?_⟩, Nat.le_trans h.size hb.size⟩
 exact VRs_keep (I := fun b => (b < z ∨ B + 1 ≤ b) ∧ b < W.heap.size ∧ v.ownBlock ≠ some b) (I' := fun b => (b < z ∨ B + 1 ≤ b) ∧ b < W'.heap.size ∧ v.ownBlock ≠ some b) (fun _ hr => ⟨hr.1, Nat.lt_of_lt_of_le hr.2.1 hb.size, hr.2.2⟩) (fun rb hr => hb.block rb hr.2.1) _ h2
theorem LfSt.new (w : World) (o : Obj) : LfSt z w.heap.size o w [] (.slice (some ⟨w.heap.size + 1, 0, none⟩) 0 0) ((w.alloc o).alloc (.cells #[] 46)) := by
 have hO := World.ownsRow_lit (base := w.heap.size + 1) (e := 46) (size := 1) (w.alloc o) #[] 0 (by simp) (by decide) rfl
 rw [World.size_alloc] at hO
 refine ⟨(below_alloc _ _).trans ((below_alloc _ _).mono (by simp)), ?_, ⟨[], hO, by rw [List.flatMap_nil, VRs]⟩, by simp⟩
 rw [Below.heap_alloc _ _ _ (by simp)]
 exact World.alloc_heap_new _ _
theorem LfSt.app {y : List Itm} {vs news : List Value} {v' : Value} (h : LfSt z B o w l v W) (h0 : W.ownsRow (B + 1) 46 1 v l.length news) (hv0 : VRs W ⟨fun _ => none, fun b => (b < z ∨ B + 1 ≤ b) ∧ b < W.heap.size ∧ v.ownBlock ≠ some b⟩ (l.flatMap encSh) news)
 (hy : VRs W ⟨fun _ => none, fun b => (b < z ∨ B + 1 ≤ b) ∧ b < W.heap.size ∧ v.ownBlock ≠ some b⟩ (encSh y) vs)
 (hown : W'.ownsRow (B + 1) 46 1 v' (l.length + 1) (news ++ vs)) (hg : W.grownBy W' v.ownBlock) (hblk : v'.ownBlock = v.ownBlock ∨ v'.ownBlock = some W.heap.size) : LfSt z B o w (l ++ [y]) v' W' := by
 have hb : Below (B + 1) W W' := (Below.refl (B + 1) W).grown hg h.size (fun g e => (own_lt h0 e).1)
 have hsame : ∀ rb, rb < W.heap.size → v.ownBlock ≠ some rb → W'.heap[rb]? = W.heap[rb]? := fun rb h1 h2 => hg.block rb h1 fun e => h2 e.symm
 have hI : ∀ rb, (rb < z ∨ B + 1 ≤ rb) ∧ rb < W.heap.size ∧ v.ownBlock ≠ some rb → (rb < z ∨ B + 1 ≤ rb) ∧ rb < W'.heap.size ∧ v'.ownBlock ≠ some rb := fun rb hr => by
  refine ⟨hr.1, Nat.lt_of_lt_of_le hr.2.1 hb.size, fun e => ?_⟩
  rcases hblk with h9 | h9
  ·exact hr.2.2 (h9 ▸ e)
  ·rw [h9] at e
   have : W.heap.size = rb := by simpa using e
   omega
 refine ⟨h.below.trans (hb.mono (Nat.le_succ _)), (hb.block _ (Nat.lt_succ_self _)).trans h.box, ⟨news ++ vs, by rw [List.length_append]; exact hown, ?_⟩, Nat.le_trans h.size hb.size⟩
 rw [List.flatMap_append, List.flatMap_cons, List.flatMap_nil, List.append_nil]
 exact (VRs_keep (I' := fun b => (b < z ∨ B + 1 ≤ b) ∧ b < W'.heap.size ∧ v'.ownBlock ≠ some b) hI (fun rb hr => hsame rb hr.2.1 hr.2.2) _ hv0).append (VRs_keep (I' := fun b => (b < z ∨ B + 1 ≤ b) ∧ b < W'.heap.size ∧ v'.ownBlock ≠ some b) hI (fun rb hr => hsame rb hr.2.1 hr.2.2) _ hy)
theorem LfSt.new_item {y : List Itm} {u : Value} {w2 W4 : World} {C : Nat} (h : LfSt z B o w l v W) (hz : z ≤ B) (hC : W.heap.size ≤ C) (hv : VR w2 (gNw z C w2) (.sl y.length 8 (y.flatMap encI)) u) (hb : Below w2.heap.size w2 W4) :
 VRs W4 ⟨fun _ => none, fun b => (b < z ∨ B + 1 ≤ b) ∧ b < W4.heap.size ∧ v.ownBlock ≠ some b⟩ (encSh y) [u] := by
 obtain ⟨news, h1, -⟩ := h.row
 have hs := h.size
 have hv' : VRs w2 (gNw z C w2) (encSh y) [u] := VRs.cons_mk hv (by rw [VRs])
 refine VRs_keep (I := (gNw z C w2).I) (I' := fun b => (b < z ∨ B + 1 ≤ b) ∧ b < W4.heap.size ∧ v.ownBlock ≠ some b) (fun rb hr => ⟨hr.1.imp id fun h => by omega, Nat.lt_of_lt_of_le hr.2 hb.size, fun e => ?_⟩) (fun rb hr => hb.block rb hr.2) _ hv'
 have := own_lt h1 e
 rcases hr.1 with h | h <;> omega
theorem LfSt.done (h : LfSt z B o w l v W) : ∃ a c, v = .slice a l.length c ∧ At W (.sl l.length 1 (l.flatMap encSh)) (.slice a l.length c) := by
 obtain ⟨news, h1, h2⟩ := h.row
 obtain ⟨a, c, rfl⟩ := owns_slice h1
 exact ⟨a, c, rfl, at_gen (len_flatSh l) h1 (VRs_keep (I' := fun b => b < W.heap.size) (fun _ hr => hr.2.1) (fun _ _ => rfl) _ h2)⟩
end
end Go.Proofs.YtlnaihkombcbcaaGreat
end
noncomputable section
namespace Go.Proofs.YtlnaihkombcbcaaGreat
open Go.RowKit Go.Sort Go.Ev
theorem drop_again {s : S3} (hs : smallP s) {l : List Itm} (hok : okIs l) (hcn : cntIs l ≤ 1000) {v pv : Value} {w : World} (hv : AtB w.heap.size w (.sl (dropIs s l).length 8 ((dropIs s l).flatMap encI)) v) (hp : PlAt w pv s) :
 Calls Tryz.prog 28 #[pv, v] w fun e w' => ∃ a c, e = .returned (.slice a (dropIs s l).length c) ∧ AtB w'.heap.size w' (.sl (dropIs s l).length 8 ((dropIs s l).flatMap encI)) (.slice a (dropIs s l).length c) ∧ Below w.heap.size w w' := by
 obtain ⟨h1, h2⟩ := left_ok s hok
 refine (drop_any s hs w.heap.size _ (dropIs s l) (Nat.le_refl _) h1 (Nat.le_trans h2 hcn) v pv w hv (Nat.le_refl _) hp).mono ?_
 rintro e w' ⟨a, c, rfl, hv', hB⟩
 rw [dropIs_again] at hv' ⊢
 exact ⟨a, c, rfl, VR_keep (fun _ h => h.2) (fun _ _ => rfl) _ hv', hB⟩
theorem flat_cnt {l : List Itm} (h : okIs l) (hc : cntIs l ≤ 15) : (flatIs l).length ≤ 1000 := by
 have := (flatIs_ok _ h).1
 omega
def bxS (B : Nat) (x11 : Option Addr) (x12 x13 : Nat) (x21 : Option Addr) (x22 x23 : Nat) (x31 : Option Addr) (x32 x33 : Nat) (w' : World) : Prop := w'.cell? ⟨B, 0, none⟩ = some (.slice x11 x12 x13) ∧ w'.cell? ⟨B, 1, none⟩ = some (.slice x21 x22 x23) ∧ w'.cell? ⟨B, 2, none⟩ = some (.slice x31 x32 x33)
theorem ok_left {s : S3} {L : List (List Itm)} (h : ∀ l ∈ L, okSh l) : ∀ l ∈ L.map (dropIs s), okSh l := by
 intro l hl
 obtain ⟨l0, h0, rfl⟩ := List.mem_map.1 hl
 obtain ⟨h1, h2⟩ := h l0 h0
 obtain ⟨h3, h4⟩ := left_ok s h2
 exact ⟨Nat.le_trans h4 h1, h3⟩
set_option maxRecDepth 100000 in
set_option maxHeartbeats 16000000 in
theorem poolLeft_any (L : List (List Itm)) (v : Value) (w : World) (hv : At w (.sl L.length 1 (L.flatMap encSh)) v) (hg : ∀ l ∈ L, gsIs l = true) (hw : ∀ l ∈ L, wsIs l) :
 Calls Tryz.prog 6 #[v] w fun e w' => e = .returned (.bool true) ∧ Below w.heap.size w w' := by
 obtain ⟨i0, hi, hz0, hz1, hz2⟩ := info_parts Tryz.infoSheet
 have FX := Lib.hid fixed18_any
 have SA := Lib.hid fun w' (h : Below w.heap.size w w') => small18_any L v w' (hv.below h) hg
 have HV := Lib.hid hv
 have HVB := Lib.hid (slB_cells encSh 1 (fun _ => rfl) (by decide) (At.toB hv))
 have HWS := Lib.hid hw
 obtain ⟨pa, ca, rfl, -⟩ := At.sl_form hv
 clear hv hg hw
 go_enter Tryz.func6, Tryz.ntmps6
 go_wp2_with fail
 refine (FX.out _).mono ?_
 rintro e w1 ⟨rfl, hB1⟩
 go_wp2_with fail
 refine (SA.out _ hB1).mono ?_
 rintro e w2 ⟨q1, rfl, hq1, hB2⟩
 have hC2 := bup hB1 hB2
 cases q1
 ·go_wp2_with fail
  refine (FX.out _).mono ?_
  rintro e w3 ⟨rfl, hB3⟩
  go_wp2
  go_ret
  exact ⟨rfl, bup hC2 hB3⟩
 ·obtain ⟨hl4, hok⟩ : L.length ≤ 4 ∧ ∀ l ∈ L, okSh l := hq1.out (by first | rfl | trivial)
  have OA := Lib.hid (of18_any L _ w2 (HV.out.below hC2) hok hl4)
  have HOK := Lib.hid hok
  clear hq1 SA FX hok
  go_wp2_with fail
  refine OA.out.mono ?_
  rintro e w4 ⟨px, s, rfl, hpx, hfx, hB4⟩
  have sm : smallS s := fin_small HOK.out hl4 hfx
  obtain ⟨x1, x2, x3, rfl, gx1, gx2, gx3⟩ := hpx
  obtain ⟨x11, x12, x13, rfl⟩ := gx1.form
  obtain ⟨x21, x22, x23, rfl⟩ := gx2.form
  obtain ⟨x31, x32, x33, rfl⟩ := gx3.form
  have HC4 := Lib.hid (bup hC2 hB4)
  have HPX := Lib.hid fun (W : World) (h : Below w4.heap.size w4 W) => PlAt.below (w := w4) (v := .agg #[.slice x11 x12 x13, .slice x21 x22 x23, .slice x31 x32 x33]) (s := s) ⟨_, _, _, rfl, gx1, gx2, gx3⟩ h
  have HFX := Lib.hid hfx
  have SM := Lib.hid sm
  have HCE := Lib.hid fun i (hi : i < L.length) => show ∃ b o ad cp, pa = some ⟨b, o, none⟩ ∧ b < w.heap.size ∧ w.cell? ⟨b, o + i, none⟩ = some (.slice ad L[i].length cp) ∧ AtB w.heap.size w (.sl L[i].length 8 (L[i].flatMap encI)) (.slice ad L[i].length cp) from by
   rcases HVB.out with ⟨rfl, -⟩ | ⟨b, o, cap, e, -, -, hbz, hc⟩
   ·simp at hi
   ·cases e
    obtain ⟨x, e0, v0⟩ := hc i hi 0 _ rfl
    have v0' := v0
    obtain ⟨ad, cp, rfl, -⟩ := AtB.sl_form v0
    simp only [Nat.add_zero, Nat.mul_one] at e0
    exact ⟨b, o, ad, cp, rfl, hbz, e0, v0'⟩
  have D0 := Lib.hid (LfSt.new (z := w.heap.size) w4 (.cells #[.slice x11 x12 x13, .slice x21 x22 x23, .slice x31 x32 x33] 41))
  clear gx1 gx2 gx3 hfx sm OA HVB HV hC2 hB4
  go_wp2_with fail
  generalize hbp : w4.heap.size = Bp at *
  go_loopw [4, 5, 6, 7, 8] (fun v4 v5 _ _ _ wr => ∃ (i : Nat) (oa : Option Addr) (oc : Nat), i ≤ L.length ∧ v5 = .int .i64 i ∧ v4 = .slice oa i oc ∧ Hid (LfSt w.heap.size Bp (.cells #[.slice x11 x12 x13, .slice x21 x22 x23, .slice x31 x32 x33] 41) w4 ((L.take i).map (dropIs s)) (.slice oa i oc) wr)) (fun _ i _ _ _ _ => L.length - (intOf i).toNat)
  case atStart => exact ⟨0, _, _, Nat.zero_le _, rfl, rfl, D0⟩
  case round =>
   clear D0
   obtain ⟨i, oa, oc, hi', rfl, rfl, D⟩ := hrel
   by_cases hlt : i < L.length
   ·obtain ⟨b, o, ad, cp, rfl, hbz, e0, ha⟩ := HCE.out i hlt
    have hWw := bup HC4.out (hbp ▸ D.out.below)
    have e0' := (hWw.cell (p := ⟨b, o + i, none⟩) hbz).trans e0
    obtain ⟨ok1, ok2⟩ := HOK.out L[i] (List.getElem_mem hlt)
    obtain ⟨k2, k1⟩ := left_ok s ok2
    have hws := left_ws s (HWS.out _ (List.getElem_mem hlt))
    have hn9' := flat_cnt k2 (Nat.le_trans k1 ok1)
    have HK2 := Lib.hid k2
    have HDR := Lib.hid (drop_any s SM.out w.heap.size _ L[i] (Nat.le_refl _) ok2 (by omega) (.slice ad L[i].length cp) (.agg #[.slice x11 x12 x13, .slice x21 x22 x23, .slice x31 x32 x33]) wr.drew (ha.below (hWw.drew)) hWw.size (HPX.out _ D.out.below.drew))
    have HBX := Lib.hid fun (W : World) (h : Below wr.heap.size wr W) => And.intro (plBox_cells (D.out.step h).box) ((h.cell (p := ⟨b, o + i, none⟩) (show b < wr.heap.size from by have := hWw.size; omega)).trans e0')
    have HD2 := Lib.hid fun (v : Value) (W : World) (h : AtB W.heap.size W (.sl (dropIs s L[i]).length 8 ((dropIs s L[i]).flatMap encI)) v) (hp : Below Bp w4 W) => drop_again SM.out ok2 (by omega) h (HPX.out _ hp)
    have HSM := Lib.hid fun (v1 v2 : Value) (W : World) (h1 : AtB W.heap.size W (.sl (dropIs s L[i]).length 8 ((dropIs s L[i]).flatMap encI)) v1) (h2 : AtB W.heap.size W (.sl (dropIs s L[i]).length 8 ((dropIs s L[i]).flatMap encI)) v2) => same8_at k2 (by omega) hws h1 h2
    have HAL := Lib.hid fun (v : Value) (W : World) (h : AtB W.heap.size W (.sl (dropIs s L[i]).length 8 ((dropIs s L[i]).flatMap encI)) v) => all_any W.heap.size _ (dropIs s L[i]) (Nat.le_refl _) k2 (by omega) v W h (Nat.le_refl _)
    have HUS := Lib.hid (left_used s L[i])
    have hle := dropIs_len s L[i]
    have HWw := Lib.hid hWw
    have HTK : Hid ((L.take (i + 1)).map (dropIs s) = (L.take i).map (dropIs s) ++ [dropIs s L[i]]) := Lib.hid (by rw [List.take_succ_eq_append_getElem hlt, List.map_append]; rfl)
    have hli : ((L.take i).map (dropIs s)).length = i := by rw [List.length_map, List.length_take]; omega
    have HLN : Hid (i ≤ 4) := Lib.hid (by omega)
    have HLI := Lib.hid hli
    clear hli
    obtain ⟨b0, b1, b2⟩ := plBox_cells D.out.box
    clear ha e0 ok1 ok2 k1 k2 hws hWw
    generalize L[i] = li at *
    go_wp2_with fail
    have S0d : bxS Bp x11 x12 x13 x21 x22 x23 x31 x32 x33 wr.drew ∧ wr.drew.cell? ⟨b, o + i, none⟩ = some (.slice ad li.length cp) := ⟨⟨b0, b1, b2⟩, e0'⟩
    have S0H := Lib.hid S0d
    unfold bxS at S0d
    go_region_held3 (fun w' => (w'.cell? ⟨Bp, 0, none⟩ = some (.slice x11 x12 x13) ∧ w'.cell? ⟨Bp, 1, none⟩ = some (.slice x21 x22 x23) ∧ w'.cell? ⟨Bp, 2, none⟩ = some (.slice x31 x32 x33)) ∧ w'.cell? ⟨b, o + i, none⟩ = some (.slice ad li.length cp))
     (first | exact S0d | exact S6)
     ((go_at_call 28
       refine HDR.out.mono ?_
       rintro e w6 ⟨a6, c6, rfl, hv6, hB6⟩
       have S6 := HBX.out w6 ((Below.refl _ _).drew.trans hB6)))
    replace hB6 : Below wr.heap.size wr w6 := (Below.refl _ _).drew.trans hB6
    clear S0d S6 S0H
    have D6 := Lib.hid (D.out.step hB6)
    have HV6 := Lib.hid hv6
    have HB6 := Lib.hid hB6
    have hat6 : AtB w6.heap.size w6 (.sl (dropIs s li).length 8 ((dropIs s li).flatMap encI)) (.slice a6 (dropIs s li).length c6) := VR_keep (fun _ h => h.2) (fun _ _ => rfl) _ hv6
    have HAT6 := Lib.hid hat6
    have HNI := Lib.hid fun (W4 : World) (hb : Below w6.heap.size w6 W4) => D.out.new_item (hbp ▸ HC4.out.size) (Nat.le_refl _) HV6.out hb
    have HD3 := Lib.hid (HD2.out _ _ hat6 D6.out.below)
    have e6 := (hB6.cell (p := ⟨b, o + i, none⟩) (by show b < wr.heap.size; have := HWw.out.size; omega)).trans e0'
    clear b0 b1 b2 hv6 hB6 hat6 HDR HD2 e0'
    obtain ⟨b0, b1, b2⟩ := plBox_cells D6.out.box
    generalize hn7 : (dropIs s li).length = n7 at *
    go_wp2_with fail
    refine HD3.out.mono ?_
    rintro e w7 ⟨a7, c7, rfl, hat7, hB7⟩
    have HS7 := Lib.hid (HSM.out _ _ _ hat7 (AtB.toAt (AtB.below HAT6.out hB7) hB7.size))
    have hZ6 := HB6.out.size
    have hZw := HWw.out.size
    have e7 := (hB7.cell (p := ⟨b, o + i, none⟩) (by show b < w6.heap.size; omega)).trans e6
    have HB7 := Lib.hid hB7
    clear b0 b1 b2 hat7 HD3 e6
    go_wp2_with fail
    refine HS7.out.mono ?_
    rintro e w8 ⟨rfl, hB8⟩
    have hZ7 := hB7.size
    have e8 := (hB8.cell (p := ⟨b, o + i, none⟩) (by show b < w7.heap.size; omega)).trans e7
    have HB8 := Lib.hid (bup HB7.out hB8)
    have hA8 := HAL.out _ w8 (AtB.toAt (AtB.below HAT6.out HB8.out) HB8.out.size)
    have HA8 := Lib.hid hA8
    clear hB7 hB8 HS7 e7 hA8 hZ6 hZw hZ7
    go_wp2_with fail
    refine HA8.out.mono ?_
    rintro e w9 ⟨a9, c9, rfl, hR9, hB9⟩
    have HR9 := Lib.hid hR9
    have HB9 := Lib.hid (bup HB8.out hB9)
    have HZ8 := Lib.hid hB9.size
    clear HA8 hR9 hB9 e8
    generalize hn9 : (flatIs (dropIs s li)).length = n9 at *
    go_wp2_with fail
    go_loopw [8] (fun v8 wx => ∃ k : Nat, k ≤ n9 ∧ v8 = .int .i64 k ∧ Hid (Below w9.heap.size w9 wx)) (fun k _ => n9 - (intOf k).toNat)
    case atStart => exact ⟨0, Nat.zero_le _, rfl, Lib.hid (Below.refl _ _)⟩
    case round =>
     obtain ⟨k, hk, rfl, hX⟩ := hrel
     have HB6x := Lib.hid (bup HB9.out hX.out)
     have D10 := Lib.hid (D6.out.step HB6x.out)
     by_cases hkl : k < n9
     ·have hkl' : k < (flatIs (dropIs s li)).length := by omega
      obtain ⟨g, hg9, hgl, a1, c1, a2, c2, a3, c3, a6', c6', a7', c7', y0, y1, y2, y3, y4, y5, y6, y7, hit⟩ := HR9.out.at hkl'
      cases hg9
      have hxb := hX.out
      have y0 := (hxb.cell (p := ⟨g, k * 8, none⟩) hgl).trans y0
      have y1 := (hxb.cell (p := ⟨g, k * 8 + 1, none⟩) hgl).trans y1
      have y2 := (hxb.cell (p := ⟨g, k * 8 + 2, none⟩) hgl).trans y2
      have y3 := (hxb.cell (p := ⟨g, k * 8 + 3, none⟩) hgl).trans y3
      have y4 := (hxb.cell (p := ⟨g, k * 8 + 4, none⟩) hgl).trans y4
      have y5 := (hxb.cell (p := ⟨g, k * 8 + 5, none⟩) hgl).trans y5
      have y6 := (hxb.cell (p := ⟨g, k * 8 + 6, none⟩) hgl).trans y6
      have y7 := (hxb.cell (p := ⟨g, k * 8 + 7, none⟩) hgl).trans y7
      have HUC := Lib.hid (used_at SM.out ((flatIs_ok _ HK2.out).2 _ (List.getElem_mem hkl')).1 (HUS.out _ (List.getElem_mem hkl')) (HPX.out wr.drew D10.out.below.drew) (Nat.le_trans HZ8.out hxb.size) (hit.below (hxb.mono HZ8.out).drew))
      have hglx : g < wr.heap.size := Nat.lt_of_lt_of_le hgl hxb.size
      obtain ⟨b0, b1, b2⟩ := plBox_cells D10.out.box
      clear hit hxb
      unfold itV at HUC
      generalize (flatIs (dropIs s li))[k].kind = kd at *
      generalize (flatIs (dropIs s li))[k].sels.length = m1 at *
      generalize (flatIs (dropIs s li))[k].decls.length = m2 at *
      generalize (flatIs (dropIs s li))[k].names.length = m3 at *
      generalize (flatIs (dropIs s li))[k].mn = mn at *
      generalize (flatIs (dropIs s li))[k].mx = mx at *
      generalize (flatIs (dropIs s li))[k].vals.length = m6 at *
      generalize (flatIs (dropIs s li))[k].l.length = m7 at *
      have HSX := Lib.hid fun (W : World) (h : Below wr.heap.size wr W) => And.intro (plBox_cells (D10.out.step h).box) (And.intro ((h.cell (p := ⟨g, k * 8, none⟩) hglx).trans y0) (And.intro ((h.cell (p := ⟨g, k * 8 + 1, none⟩) hglx).trans y1) (And.intro ((h.cell (p := ⟨g, k * 8 + 2, none⟩) hglx).trans y2) (And.intro ((h.cell (p := ⟨g, k * 8 + 3, none⟩) hglx).trans y3)
       (And.intro ((h.cell (p := ⟨g, k * 8 + 4, none⟩) hglx).trans y4) (And.intro ((h.cell (p := ⟨g, k * 8 + 5, none⟩) hglx).trans y5) (And.intro ((h.cell (p := ⟨g, k * 8 + 6, none⟩) hglx).trans y6) ((h.cell (p := ⟨g, k * 8 + 7, none⟩) hglx).trans y7))))))))
      go_wp2_with fail
      have S0d := HSX.out wr.drew (Below.refl _ _).drew
      clear y0 y1 y2 y3 y4 y5 y6 y7 b0 b1 b2
      go_region_held3 (fun w' => (w'.cell? ⟨Bp, 0, none⟩ = some (.slice x11 x12 x13) ∧ w'.cell? ⟨Bp, 1, none⟩ = some (.slice x21 x22 x23) ∧ w'.cell? ⟨Bp, 2, none⟩ = some (.slice x31 x32 x33)) ∧ w'.cell? ⟨g, k * 8, none⟩ = some (.int .i64 kd) ∧ w'.cell? ⟨g, k * 8 + 1, none⟩ = some (.slice a1 m1 c1) ∧ w'.cell? ⟨g, k * 8 + 2, none⟩ = some (.slice a2 m2 c2) ∧
       w'.cell? ⟨g, k * 8 + 3, none⟩ = some (.slice a3 m3 c3) ∧ w'.cell? ⟨g, k * 8 + 4, none⟩ = some (.int .i64 mn) ∧ w'.cell? ⟨g, k * 8 + 5, none⟩ = some (.int .i64 mx) ∧ w'.cell? ⟨g, k * 8 + 6, none⟩ = some (.slice a6' m6 c6') ∧ w'.cell? ⟨g, k * 8 + 7, none⟩ = some (.slice a7' m7 c7'))
       (first | exact S0d | exact S10)
       ((go_at_call 41
         refine HUC.out.mono ?_
         rintro e w10 ⟨rfl, hB10⟩
         have S10 := HSX.out w10 ((Below.refl _ _).drew.trans hB10)))
      replace hB10 : Below wr.heap.size wr w10 := (Below.refl _ _).drew.trans hB10
      clear S10 S0d HSX
      have HB10 := Lib.hid (bup hX.out hB10)
      clear hB10 HUC
      go_wp2_with fail
      go_roundw
      case rel => exact ⟨k + 1, by omega, by go_num, HB10⟩
      case measure => simp [intOf]; omega
     ·obtain rfl : k = n9 := by omega
      have hba := below_alloc wr (.cells #[.slice a6 n7 c6] 46)
      have D11 := D10.out.step hba
      have hs11 := D11.size
      have hy := HNI.out _ (bup HB6x.out hba)
      obtain ⟨news, hr11, hv11⟩ := D11.row
      have HAPP := Lib.hid fun v' W' h1 h2 h3 => D11.app (W' := W') (v' := v') hr11 hv11 hy h1 h2 h3
      have hln := HLN.out
      rw [HLI.out] at hr11
      clear hba D11 hv11 hy HR9 HB9 HB6x HUS HSM HAL
      go_wp2_with (at_builtin; refine wpList_append_own_at _ rfl _ _ 39 rfl (Bp + 1) 46 i0 _ 1 24 Tryz.underlying39 hi hz0 hz1 hz2 rfl (by decide) _ _ _ rfl hr11 ⟨wr.heap.size, 0, none⟩ 1 1 [.slice a6 n7 c6] rfl rfl (cell_one_new _ _ _) (by simp [Value.oneCell']) (by unfold maxLen; omega) (by omega) hs11 ?_)
      intro v' w12 hown' hgrow _ hblk
      have D12 := HAPP.out v' w12 (by rw [HLI.out]; exact hown') hgrow (by rw [World.size_alloc]; exact hblk)
      obtain ⟨oa', oc', e5⟩ := owns_slice hown'
      subst e5
      have HD12 := Lib.hid D12
      clear hown' hgrow hblk D12 hr11 HAPP
      go_wp2
      go_roundw
      case rel => exact ⟨i + 1, oa', oc', by omega, by go_num, rfl, by rw [HTK.out]; exact HD12⟩
      case measure => simp [intOf]; omega
   ·obtain rfl : i = L.length := by omega
    have hD := D.out
    rw [List.take_length] at hD
    obtain ⟨oa', oc', e, hat⟩ := hD.done
    rw [← e] at hat
    clear e
    have hB := hD.below
    have OF := Lib.hid (of18_any (L.map (dropIs s)) _ wr.drew (hat.below (Below.refl _ _).drew) (ok_left HOK.out) (by rw [List.length_map]; exact hl4))
    have HB := Lib.hid hB
    have HD := Lib.hid hD
    clear D hD hat hB HCE
    have HBX := Lib.hid fun (W : World) (h : Below wr.heap.size wr W) => plBox_cells (HD.out.step h).box
    have HSM := Lib.hid fun (v : Value) (W : World) (t : S3) (h : PlAt W v t) (hf : FinU (rulesOf (L.map (dropIs s)).flatten) t) (hb : Below wr.heap.size wr W) => by
     have hts : t = s := left_same HFX.out hf
     rw [hts] at h
     exact psame_any h (HPX.out W (HD.out.step hb).below) SM.out
    clear HD
    go_wp2_with fail
    have S0d := HBX.out wr.drew (Below.refl _ _).drew
    go_region_held3 (fun w' => w'.cell? ⟨Bp, 0, none⟩ = some (.slice x11 x12 x13) ∧ w'.cell? ⟨Bp, 1, none⟩ = some (.slice x21 x22 x23) ∧ w'.cell? ⟨Bp, 2, none⟩ = some (.slice x31 x32 x33))
     (first | exact S0d | exact SA | exact SB)
     ((first
       | (go_at_call 33
          refine OF.out.mono ?_
          rintro e wA ⟨pA, sA, rfl, hpA, hfA, hBA⟩
          have hBA' : Below wr.heap.size wr wA := (Below.refl _ wr).drew.trans hBA
          have SA := HBX.out wA hBA'
          have PS := HSM.out pA wA sA hpA hfA hBA')
       | (go_at_call 32
          refine PS.mono ?_
          rintro e wB ⟨rfl, hBB⟩
          have hBB' : Below wr.heap.size wr wB := hBA'.trans (hBB.mono hBA'.size)
          have SB := HBX.out wB hBB')))
    have hfin := (bup HC4.out (hbp ▸ HB.out)).trans (hBB'.mono (bup HC4.out (hbp ▸ HB.out)).size)
    go_wp2
    go_ret
    exact ⟨rfl, hfin⟩
end Go.Proofs.YtlnaihkombcbcaaGreat
end
namespace Go.Proofs.YtlnaihkombcbcaaGreat
open Go.ChangeShapes Go.WideShapes Go.ChangeAt Go.RowKit Go.Ev
theorem own : ownKnob Tryz.prog.godebug = none := by kernel_rfl
section
variable {H : Type} {enc : TypeId × Value → H} {P : Program}
theorem post_of_below {f : Func} {s : ChangeSpec} {apart fresh handsOn again : Bool} {W W' : World} {args : Array Value} {v : Value} {ds gs : List (DataW H)} {before pa pv : List MemPlace}
 (hW : DataW.Whole enc P f.params.toList s.vars apart W args.toList ds gs before)
 (hres : ∀ (b : Nat) (sp : Nat → Bool) (hd : Bool), DataW.TrodAll enc P W' b sp hd f.resultTypes.toList (v.resultList f.resultTypes.size) (s.fn H (ds ++ gs)).results [])
 (hargs : ∀ sp : Nat → Bool, (∀ p ∈ before, sp p.block = true) → DataW.TrodAll enc P W' 0 sp true f.params.toList args.toList (s.fn H (ds ++ gs)).args pa)
 (hvars : ∀ sp : Nat → Bool, (∀ p ∈ before, sp p.block = true) → DataW.TrodVars enc P W' sp s.vars (s.fn H (ds ++ gs)).vars pv)
 (hps : before = pa ++ pv) (hB : Below W.heap.size W W')
 (hok : ∀ (j : Nat) (t : TypeId) (r : Value), f.resultTypes[j]? = some t → (v.resultList f.resultTypes.size)[j]? = some r → Value.okWide P W' .any 0 t r) :
 s.post enc P f apart fresh handsOn again W args v W' := by
 have hold : ∀ p ∈ before, (fun b => decide (b < W.heap.size)) p.block = true := fun p hp => by simpa using hW.lt p hp
 have hlt := fun p hp => hW.lt p hp
 refine ⟨ds, gs, before, [], pa, pv, hW, hres _ _ _, hargs _ hold, hvars _ hold, World.keptBut_mono (fun p hp => ⟨hp, ?_⟩) (hB.frame (· ∈ before)), fun _ => ?_⟩
 ·rw [hps, List.mem_append] at hp
  exact Or.inr hp
 ·obtain ⟨_, _, _, _, _, hz, hn⟩ := hW
  refine ⟨hok, _, _, ([] ++ pa) ++ pv, ⟨[] ++ pa, pv, trodAll_append (hargs _ (fun _ _ => rfl)) (hres _ _ _), hvars _ (fun _ _ => rfl), rfl, ?_, ?_⟩, ?_⟩
  ·intro b off hp
   have hp' : MemPlace.cell b off ∈ before := by rw [hps]; simpa using hp
   rw [hB.frozen (hlt _ hp')]
   exact hz b off hp'
  ·intro ha
   have := hn ha
   rw [hps] at this
   simpa using this
  ·intro p hp _
   rw [hps]
   simpa using hp
end
theorem readableSheets : Tryz.prog.readableRec 39 = true := by kernel_rfl
theorem inTableSheets : 39 < Tryz.prog.types.size := of_decide_eq_true (by kernel_rfl)
namespace poolLeft
set_option maxRecDepth 1000000 in
theorem contract (H : Type) (enc : TypeId × Value → H) (W : World) (base : Nat) (args : Array Value) (ds gs : List (DataW H)) (before : List MemPlace)
 (hval : ∀ (j : Nat) t v, Tryz.f6.params[j]? = some t → args[j]? = some v → Value.okWide Tryz.prog W .any base t v)
 (hW : DataW.Whole enc Tryz.prog Tryz.f6.params.toList Rows.poolLeftSpec.vars false W args.toList ds gs before)
 (hw : (DataW.weightsEach Tryz.prog (Tryz.f6.params.toList ++ Rows.poolLeftSpec.plain.varTypes Tryz.prog) (ds ++ gs)).all (· ≤ reachBytes) = true) :
 Calls Tryz.prog 6 args W fun e W' => ∃ v, e = .returned v ∧ Rows.poolLeftSpec.post enc Tryz.prog Tryz.f6 false true false false W args v W' := by
 have hW' := hW
 obtain ⟨p, q, hA0, hV, rfl, hfz, hnd⟩ := hW
 have hA : DataW.TrodAll enc Tryz.prog W 0 (fun _ => true) true Tryz.f6.params.toList args.toList ds p := hA0
 rw [show Tryz.f6.params = #[39] by kernel_rfl] at hA hval hw
 obtain ⟨v0, vs0, d0, ds0, p0, q0, hargs, rfl, rfl, h0, r0⟩ := trodAll_cons hA
 obtain ⟨rfl, rfl, rfl⟩ := trodAll_nil r0
 obtain rfl : args = #[v0] := by cases args; simp_all
 obtain ⟨rfl, rfl⟩ := trodVars_none hV
 have hw' := List.all_eq_true.1 hw
 have fit0 : Fits Tryz.prog 39 d0 := fun x hx => by
  simpa using hw' x (mem_weightsEach (i := 0) rfl rfl x hx)
 obtain ⟨a, ha, ga, gw⟩ := openw_sheets (hval 0 39 v0 (by simp) (by simp)) h0 fit0
 clear hA0
 have hlt0 : ∀ x ∈ p0, x.block < W.heap.size := fun x hx => by simpa using hW'.lt x (by simp [hx])
 refine (poolLeft_any a v0 W ha ga gw).mono fun e W' ⟨he, hB⟩ => ?_
 subst he
 exact ⟨_, rfl, post_of_below (pa := p0 ++ []) (pv := []) hW' (fun _ _ _ => trodAll_cons_mk (shut_bool Tryz.underlying4 _) trodAll_mk0)
  (fun sp hsp => trodAll_cons_mk (WideElems.Trod_stays p_laid readableSheets inTableSheets h0 (fun x hx => hB.same (hlt0 x hx)) (fun x hx => hsp x (by simp [hx]))) trodAll_mk0)
  (fun _ _ => rfl) rfl hB (ok_one (by kernel_rfl) rfl (okWide_bool_mk Tryz.underlying4 _))⟩
set_option maxRecDepth 100000 in
theorem lifted (os : Os) (started : os.Started) (H : Type) (enc : TypeId × Value → H) :
 ReturnsInHanded {} Tryz.checked os 6 .any (Rows.poolLeftSpec.pre6 enc Tryz.prog Tryz.f6 Rows.poolLeftRow.domain false) (Rows.poolLeftSpec.post enc Tryz.prog Tryz.f6 false true false false) := by
 refine returnsInHanded_of_change_sized (C := Tryz.checked) own started (by kernel_rfl) Tryz.func6
  (ChangeSpec.witness6 (enc := enc) (C := Tryz.checked) false ⟨#[], #[.slice none 0 0], []⟩ 8 (by kernel_rfl) (by kernel_rfl) (by kernel_rfl) (by kernel_rfl)) ?_
 intro W base args ds gs before hval hW _ hw _
 exact contract H enc W base args ds gs before hval hW hw
theorem said : Rows.PoolLeftSaid :=
 OpenClaim.holds_of_wide 6 Tryz.f6 rfl rfl rfl rfl rfl rfl rfl ⟨rfl, rfl, rfl, rfl, rfl⟩ rfl rfl rfl rfl rfl row_named Tryz.func6 closed
  (of_decide_eq_true (by kernel_rfl)) row_wrapper
  (fun os started H enc _ => lifted os started H enc)
end poolLeft
end Go.Proofs.YtlnaihkombcbcaaGreat
