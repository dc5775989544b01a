/-
  What the walk over items holds of memory: the sets, a flag in a cell, the rows that stand.
  (*user).item, walked.
  (*user).item at frames, and at all else.
  pool.inner with Of's own function: all items are noted, and those within.
  What is appended, of any kind; the parts that slices.Concat lays together; slices.Equal.
  pool.Of: what sheets use.
  pool.Same of one pool and one that is alike.
-/
import Derived.Test.YtlnaihkombcbcaaGreatMGrb
import Derived.Deep.RegionHeld3
import Derived.BigQuiet
import Derived.Deep.CutRange
import Derived.Test.YtlnaihkombcbcaaGreatPStrs
noncomputable section
namespace Go.Proofs.YtlnaihkombcbcaaGreat
open Go.RowKit Go.Sort Go.Ev
/-- the sets' blocks, and the flag's -/
def OwG (Bu Bg : Nat) (W : World) (k : Nat) : Prop := k = Bg ∨ OwU Bu W k
def gO (g : Bool) : Obj := .cells #[.bool g] 4
structure StG (z Bu Bg : Nat) (s : S3) (g : Bool) (W : World) : Prop where
  u : UAt z Bu s W
  g : W.heap[Bg]? = some (gO g)
  zg : z ≤ Bg
  ng : ¬ OwU Bu W Bg
section
variable {z Bu Bg : Nat} {s : S3} {g : Bool} {W W' : World}
theorem UAt.blocks (h : UAt z Bu s W) (hb : ∀ k, OwU Bu W k → W'.heap[k]? = W.heap[k]?) : UAt z Bu s W' := by
  obtain ⟨va, vb, vc, h1, h2, h3, h4, h5⟩ := h
  have hO := OwU_iff h1
  exact ⟨va, vb, vc, (hb Bu (.inl rfl)).trans h1, h2.keep fun b e => hb b ((hO b).2 (.inr (.inl e))), h3.keep fun b e => hb b ((hO b).2 (.inr (.inr (.inl e)))), h4.keep fun b e => hb b ((hO b).2 (.inr (.inr (.inr e)))), h5⟩
theorem OwU_blocks (hb : W'.heap[Bu]? = W.heap[Bu]?) (k : Nat) (h : OwU Bu W' k) : OwU Bu W k := by
  rcases h with h | ⟨a, b, c, h1, h2⟩
  · exact .inl h
  · exact .inr ⟨a, b, c, hb.symm.trans h1, h2⟩
theorem StG.ltg (h : StG z Bu Bg s g W) : Bg < W.heap.size := (Array.getElem?_eq_some_iff.1 h.g).1
theorem StG.own (h : StG z Bu Bg s g W) {k : Nat} (hk : OwG Bu Bg W k) : z ≤ k ∧ k < W.heap.size := by
  rcases hk with rfl | hk
  · exact ⟨h.zg, h.ltg⟩
  · exact h.u.own hk
theorem StG.below (h : StG z Bu Bg s g W) (hb : Below W.heap.size W W') : StG z Bu Bg s g W' :=
  ⟨h.u.below hb, (hb.block _ h.ltg).trans h.g, h.zg, fun ho => h.ng (OwU_below h.u.lt hb _ ho)⟩
theorem StG.ko (h : StG z Bu Bg s g W) (hb : Below W.heap.size W W') (hz : z ≤ W.heap.size) : KO (OwG Bu Bg) z W W' :=
  KO.grow hb hz (fun k hk => hk.imp id (OwU_below h.u.lt hb k)) fun _ hk => (h.own hk).2
theorem StG.turn {t : S3} (h : StG z Bu Bg s g W) (hu : UAt z Bu t W') (hk : KO (OwU Bu) z W W') : StG z Bu Bg t g W' ∧ KO (OwG Bu Bg) z W W' := by
  refine ⟨⟨hu, hk.blk h.g h.ng, h.zg, hk.not_own h.ltg h.ng⟩, fun k hk1 hn => hk.same k hk1 fun ho => hn (.inr ho), fun k hk1 ho => ho.imp id (hk.own k hk1), fun k ho => ?_, hk.below⟩
  rcases ho with rfl | ho
  · have := h.ltg; have := hk.below.size; omega
  · exact hk.lt k ho
theorem StG.put (h : StG z Bu Bg s g W) (g' : Bool) : StG z Bu Bg s g' (W.setCell ⟨Bg, 0, none⟩ (.bool g')) ∧ KO (OwG Bu Bg) z W (W.setCell ⟨Bg, 0, none⟩ (.bool g')) := by
  have hoth : ∀ k, k ≠ Bg → (W.setCell ⟨Bg, 0, none⟩ (.bool g')).heap[k]? = W.heap[k]? := fun k hk => put_far _ rfl hk
  have hsz : (W.setCell ⟨Bg, 0, none⟩ (.bool g')).heap.size = W.heap.size := by simp [World.setCell]
  have hne : ∀ k, OwU Bu W k → k ≠ Bg := fun k hk e => h.ng (e ▸ hk)
  have hBu : (W.setCell ⟨Bg, 0, none⟩ (.bool g')).heap[Bu]? = W.heap[Bu]? := hoth Bu (hne Bu (.inl rfl))
  have hcell : (W.setCell ⟨Bg, 0, none⟩ (.bool g')).heap[Bg]? = some (gO g') := by
    have := put_same (o := 0) (.bool g') h.g
    simpa [gO] using this
  refine ⟨⟨h.u.blocks fun k hk => hoth k (hne k hk), hcell, h.zg, fun ho => h.ng (OwU_blocks hBu _ ho)⟩, fun k _ hn => hoth k fun e => hn (.inl e), fun k _ ho => ho.imp id (OwU_blocks hBu k), fun k ho => ?_, ?_⟩
  · rw [hsz]
    rcases ho with rfl | ho
    · exact h.ltg
    · exact (h.u.own (OwU_blocks hBu k ho)).2
  · exact ⟨rfl, rfl, rfl, by rw [hsz]; exact Nat.le_refl _, fun k hk => hoth k (by have := h.zg; omega)⟩
/-- a row of items that stands: its block is none of the own ones -/
def RdI (Bu Bg z : Nat) (W : World) (l : List Itm) (v : Value) : Prop :=
  (l = [] ∧ ∃ ad cap, v = .slice ad 0 cap) ∨ ∃ b o cap, v = .slice (some ⟨b, o, none⟩) l.length cap ∧ l.length ≤ cap ∧ 0 < l.length ∧ b < W.heap.size ∧ ¬ OwG Bu Bg W b ∧
    ∀ k (hk : k < l.length) j a, (encI l[k])[j]? = some a → ∃ x, W.cell? ⟨b, o + (k * 8 + j), none⟩ = some x ∧ AtB z W a x
theorem rd_ko {l : List Itm} {b o : Nat} (hb : b < W.heap.size) (hn : ¬ OwG Bu Bg W b) (hc : ∀ k (hk : k < l.length) j a, (encI l[k])[j]? = some a → ∃ x, W.cell? ⟨b, o + (k * 8 + j), none⟩ = some x ∧ AtB z W a x) (h : KO (OwG Bu Bg) z W W') :
    ∀ k (hk : k < l.length) j a, (encI l[k])[j]? = some a → ∃ x, W'.cell? ⟨b, o + (k * 8 + j), none⟩ = some x ∧ AtB z W' a x := fun k hk j a hj => by
  obtain ⟨x, h1, h2⟩ := hc k hk j a hj
  exact ⟨x, by rw [World.cell?_of_block (w := W) (h.same b hb hn)]; exact h1, h2.below h.below⟩
theorem rd_of {l : List Itm} {v : Value} (hs : StG z Bu Bg s g W) (hz : z ≤ W.heap.size) (h : AtB z W (.sl l.length 8 (l.flatMap encI)) v) : RdI Bu Bg z W l v := by
  rcases slB_cells encI 8 encI_len (by decide) h with ⟨rfl, ad, cap, rfl⟩ | ⟨b, o, cap, rfl, hcap, hpos, hbz, hc⟩
  · exact .inl ⟨rfl, ad, cap, rfl⟩
  · exact .inr ⟨b, o, cap, rfl, hcap, hpos, by omega, fun ho => by have := (hs.own ho).1; omega, hc⟩
end
theorem up_item (s : S3) (x : Itm) : Up s (itemM s x) := up_fold _ _
theorem up_pass (s : S3) (l : List Itm) : Up s (passM s l) := by rw [pass_rules]; exact up_fold _ _
theorem pass_nil (s : S3) : passM s [] = s := by rw [passM, flatIs]; rfl
theorem pass_snoc {l : List Itm} {k : Nat} (hk : k < l.length) (s : S3) : passM s (l.take (k + 1)) = if l[k].kind = 2 ∨ l[k].kind = 3 then passM (itemM (passM s (l.take k)) l[k]) l[k].l else itemM (passM s (l.take k)) l[k] := by
  unfold passM
  rw [flatIs_snoc hk, List.foldl_append, flatI_eq, List.foldl_cons]
  split <;> rfl
theorem pass_ok {G : S3 → Prop} {l : List Itm} {s : S3} (h : ∀ x ∈ flatIs l, ItOk G x) (hs : G s) : G (passM s l) := by
  rw [pass_rules]
  refine itok_fold _ (fun r hr => ?_) hs
  obtain ⟨x, hx, hr⟩ := List.mem_flatMap.1 hr
  exact (h x hx).g r hr
theorem item_ok {G : S3 → Prop} {x : Itm} {s : S3} (h : ItOk G x) (hs : G s) : G (itemM s x) := itok_fold _ h.g hs
theorem flat_take {l : List Itm} {k : Nat} : ∀ x ∈ flatIs (l.take k), x ∈ flatIs l := fun x hx => by
  have h := flatIs_append (l.take k) (l.drop k)
  rw [List.take_append_drop] at h
  rw [h]; exact List.mem_append_left _ hx
theorem flat_self : ∀ {l : List Itm} {x : Itm}, x ∈ l → x ∈ flatIs l ∧ (x.kind = 2 ∨ x.kind = 3 → ∀ y ∈ flatIs x.l, y ∈ flatIs l)
  | [], x, h => by simp at h
  | y :: l, x, h => by
    rw [flatIs]
    rcases List.mem_cons.1 h with rfl | h
    · refine ⟨List.mem_append_left _ (by rw [flatI_eq]; exact List.mem_cons_self), fun hk z hz => List.mem_append_left _ ?_⟩
      rw [flatI_eq, if_pos hk]; exact List.mem_cons_of_mem _ hz
    · obtain ⟨h1, h2⟩ := flat_self h
      exact ⟨List.mem_append_right _ h1, fun hk z hz => List.mem_append_right _ (h2 hk z hz)⟩
end Go.Proofs.YtlnaihkombcbcaaGreat
end
noncomputable section
namespace Go.Proofs.YtlnaihkombcbcaaGreat
open Go.RowKit Go.Sort Go.Ev
def itV (kd : Int) (a1 : Option Addr) (n1 c1 : Nat) (a2 : Option Addr) (n2 c2 : Nat) (a3 : Option Addr) (n3 c3 : Nat) (mn mx : Int) (a6 : Option Addr) (n6 c6 : Nat) (a7 : Option Addr) (n7 c7 : Nat) : Value :=
  .agg #[.int .i64 kd, .slice a1 n1 c1, .slice a2 n2 c2, .slice a3 n3 c3, .int .i64 mn, .int .i64 mx, .slice a6 n6 c6, .slice a7 n7 c7]
/-- after some declarations -/
def fK (s : S3) (ds : List Dl) (k : Nat) : S3 := (ds.take k).foldl (fun s d => declM s d.name d.l) s
theorem fK_succ (s : S3) {ds : List Dl} {k : Nat} (hk : k < ds.length) : fK s ds (k + 1) = declM (fK s ds k) ds[k].name ds[k].l := by
  rw [fK, List.take_succ_eq_append_getElem hk, List.foldl_append]; rfl
theorem fK_rules (s : S3) (ds : List Dl) (k : Nat) : fK s ds k = ((ds.take k).map fun d => ruD d.name d.l).foldl stepR s := by
  rw [fK, List.foldl_map]
  congr 1
  funext t d
  exact declM_step t d.name d.l
theorem fK_up (s : S3) (ds : List Dl) (k : Nat) : Up s (fK s ds k) := by rw [fK_rules]; exact up_fold _ _
theorem up_decl (s : S3) (n : ByteArray) (l : List Vl) : Up s (declM s n l) := by rw [declM_step]; exact up_step _ _
theorem item_rules {x : Itm} (h : x.kind = 1) (s : S3) : itemM s x = fK s x.decls x.decls.length := by
  rw [itemM, ruI, if_pos h, fK_rules, List.take_length]
theorem item_none {x : Itm} (h : x.kind ≠ 1) (h5 : x.kind = 5 → x.names.length ≠ 1) (s : S3) : itemM s x = s := by
  rw [itemM, ruI, if_neg h]
  split
  · rename_i e
    have := h5 e
    unfold ruN
    split
    · rename_i n hn; rw [hn] at this; simp at this
    · rfl
  · rfl
theorem fK_ok {G : S3 → Prop} {x : Itm} (hx : ItOk G x) (h : x.kind = 1) {s : S3} (hs : G s) (k : Nat) : G (fK s x.decls k) := by
  rw [fK_rules]
  refine itok_fold _ (fun r hr => hx.g r ?_) hs
  rw [ruI, if_pos h]
  obtain ⟨d, hd, rfl⟩ := List.mem_map.1 hr
  exact List.mem_map.2 ⟨d, List.mem_of_mem_take hd, rfl⟩
section
variable {z Bu : Nat} {G : S3 → Prop} {s : S3} {a1 a2 a3 a6 a7 : Option Addr} {n1 c1 c2 c3 c6 n7 c7 : Nat} {w : World}
set_option maxRecDepth 100000 in
set_option maxHeartbeats 4000000 in
theorem item_rule (hG : ∀ s, G s → Sz s) (x : Itm) (hu : UAt z Bu s w) (hz : z ≤ w.heap.size) (hx : ItOk G x) (hs : G s) (hk1 : x.kind = 1)
    (h2 : AtB z w (.sl x.decls.length 3 (x.decls.flatMap encD)) (.slice a2 x.decls.length c2)) :
    Calls Tryz.prog 88 #[.pointer (some ⟨Bu, 0, none⟩), itV x.kind a1 n1 c1 a2 x.decls.length c2 a3 x.names.length c3 x.mn x.mx a6 x.vals.length c6 a7 n7 c7] w (UPost z Bu s (itemM s x) w) := by
  rw [item_rules hk1, hk1]
  have D0 : DSt z Bu w.heap.size (itmO 1 a1 n1 c1 a2 x.decls.length c2 a3 x.names.length c3 x.mn x.mx a6 x.vals.length c6 a7 n7 c7) w s (w.alloc (itmO 1 a1 n1 c1 a2 x.decls.length c2 a3 x.names.length c3 x.mn x.mx a6 x.vals.length c6 a7 n7 c7)) := DSt.new hu hz
  have hlen : x.decls.length ≤ 20 := hx.ok.1.1
  have GK := Lib.hid fun k => hG _ (fK_ok hx hk1 hs k)
  have OK := Lib.hid fun k (hk : k < x.decls.length) => hx.ok.1.2 x.decls[k] (List.getElem_mem hk)
  have FSu := Lib.hid fun k (hk : k < x.decls.length) => fK_succ s hk
  have FU := Lib.hid fun k => fK_up s x.decls k
  have HZ := Lib.hid hz
  have F0 : fK s x.decls 0 = s := rfl
  generalize x.names.length = n3 at *
  generalize x.vals.length = n6 at *
  generalize x.mn = mn at *
  generalize x.mx = mx at *
  generalize x.decls = ds at *
  clear hx hs hG hk1 hu
  generalize hf : fK s ds = f at *
  have HX := Lib.hid fun (t : S3) (W : World) (h : DSt z Bu w.heap.size (itmO 1 a1 n1 c1 a2 ds.length c2 a3 n3 c3 mn mx a6 n6 c6 a7 n7 c7) w t W) => itmO_cells h.x
  have HDB := Lib.hid fun (t : S3) (W W' : World) (h : DSt z Bu w.heap.size (itmO 1 a1 n1 c1 a2 ds.length c2 a3 n3 c3 mn mx a6 n6 c6 a7 n7 c7) w t W) (hb : Below W.heap.size W W') => h.below hb HZ.out
  have D0H := Lib.hid D0
  obtain ⟨x0, -, x2, -, -, -, -, -⟩ := HX.out _ _ D0
  unfold itmO at x0 x2
  rcases slB_cells encD 3 encD_len (by decide) h2 with ⟨rfl, ad, cap, e⟩ | ⟨b, o, cap, e, hcap, hpos, hbz, hc⟩
  · clear h2 hz D0 hf
    unfold itV
    go_enter Tryz.func88, Tryz.ntmps88
    go_wp2
    go_loopw [5, 7, 15] (fun v5 _ i wr => i = .int .i64 0 ∧ v5 = .bool false ∧ Hid (DSt z Bu w.heap.size (itmO 1 a1 n1 c1 a2 0 c2 a3 n3 c3 mn mx a6 n6 c6 a7 n7 c7) w s wr)) (fun _ _ _ _ => 0)
    case atStart => exact ⟨rfl, rfl, D0H⟩
    case round =>
      obtain ⟨rfl, rfl, D⟩ := hrel
      go_wp2
      go_ret
      refine ⟨?_, ?_, D.out.ko⟩
      · rw [F0, grewB_self]; rfl
      · rw [F0]; exact D.out.u
  · cases e
    have HC := Lib.hid fun k (hk : k < ds.length) => dlB_cells hc hk
    clear h2 hz D0 hc
    unfold itV
    go_enter Tryz.func88, Tryz.ntmps88
    go_wp2
    go_loopw [5, 7, 15] (fun v5 _ i wr => ∃ k : Nat, k ≤ ds.length ∧ i = .int .i64 k ∧ v5 = .bool (grewB s (f k)) ∧ Hid (DSt z Bu w.heap.size (itmO 1 a1 n1 c1 (some ⟨b, o, none⟩) ds.length c2 a3 n3 c3 mn mx a6 n6 c6 a7 n7 c7) w (f k) wr)) (fun _ _ i _ => ds.length - (intOf i).toNat)
    case atStart => exact ⟨0, Nat.zero_le _, rfl, by rw [F0, grewB_self], by rw [F0]; exact D0H⟩
    case round =>
      obtain ⟨k, hk, rfl, rfl, D⟩ := hrel
      by_cases hlt : k < ds.length
      · obtain ⟨d0, ⟨ad, cp, d1, hl⟩, d2⟩ := HC.out k hlt
        have hB := D.out.ko.below
        have d0' := (hB.cell (p := ⟨b, o + k * 3, none⟩) hbz).trans d0
        have d1' := (hB.cell (p := ⟨b, o + k * 3 + 1, none⟩) hbz).trans d1
        have d2' := (hB.cell (p := ⟨b, o + k * 3 + 2, none⟩) hbz).trans d2
        obtain ⟨q1, q2, q3⟩ := OK.out k hlt
        have hg := GK.out k
        have D1 := HDB.out _ _ _ D.out (below_alloc wr (dclO ds[k].name ad ds[k].l.length cp ds[k].imp))
        have hz1 : z ≤ (wr.alloc (dclO ds[k].name ad ds[k].l.length cp ds[k].imp)).heap.size := Nat.le_trans HZ.out D1.ko.below.size
        have HCL := Lib.hid (decl_any z Bu (f k) ds[k].name ad cp ds[k].imp ds[k].l _ D1.u hz1 (hl.below D1.ko.below) (by omega) q2 hg)
        have D1H := Lib.hid D1
        have hUp := up_decl (f k) ds[k].name ds[k].l
        have hU0 := FU.out k
        have hgo := grew_or hU0 hUp
        have FSuk := FSu.out k hlt
        have HG := Lib.hid hgo
        have HF := Lib.hid FSuk
        clear d0 d1 d2 hl q1 q2 q3 hg D1 hz1 hUp hU0 hgo FSuk hB
        generalize ds[k].name = nm at *
        generalize ds[k].l = ll at *
        generalize ds[k].imp = im at *
        generalize hq : grewB (f k) (declM (f k) nm ll) = q at *
        generalize hp : grewB s (f k) = p at *
        have HQ := Lib.hid hq
        have HP := Lib.hid hp
        clear hq hp
        cases q
        all_goals
          go_wp2_with fail
          refine HCL.out.mono ?_
          rintro e w2 ⟨rfl, hu2, hk2⟩
          rw [HQ.out]
          have D2 := Lib.hid (D1H.out.add hu2 hk2)
          clear hu2 hk2 d0' d1' d2'
          go_wp2
          go_roundw
          case rel => exact ⟨k + 1, by omega, by go_num, by rw [HF.out, HG.out]; rfl, by rw [HF.out]; exact D2⟩
          case measure => simp [intOf]; omega
      · obtain rfl : k = ds.length := by omega
        go_wp2
        go_ret
        exact ⟨rfl, D.out.u, D.out.ko⟩
end
end Go.Proofs.YtlnaihkombcbcaaGreat
end
noncomputable section
namespace Go.Proofs.YtlnaihkombcbcaaGreat
open Go.RowKit Go.Sort Go.Ev
theorem frames_step (s : S3) (n : ByteArray) (l : List Vl) : stepR s (ruF n l) = if hasM s.f (sOf n) = true then ⟨addM s.c (rfN l), s.f, addM s.g (vN l)⟩ else s := rfl
theorem item_frm {x : Itm} (h : x.kind = 5) {n : ByteArray} (hn : x.names = [n]) (s : S3) : itemM s x = if hasM s.f (sOf n) = true then ⟨addM s.c (rfN x.vals), s.f, addM s.g (vN x.vals)⟩ else s := by
  rw [itemM, ruI, if_neg (by omega), if_pos h, hn, ruN, ← frames_step]; rfl
section
variable {z Bu : Nat} {G : S3 → Prop} {s : S3} {a1 a2 a3 a6 a7 : Option Addr} {n1 n2 c1 c2 c3 c6 n7 c7 : Nat} {w : World}
set_option maxRecDepth 100000 in
set_option maxHeartbeats 4000000 in
theorem item_other (x : Itm) (hu : UAt z Bu s w) (hz : z ≤ w.heap.size) (hk1 : x.kind ≠ 1) (hk5 : x.kind = 5 → x.names.length ≠ 1) :
    Calls Tryz.prog 88 #[.pointer (some ⟨Bu, 0, none⟩), itV x.kind a1 n1 c1 a2 n2 c2 a3 x.names.length c3 x.mn x.mx a6 x.vals.length c6 a7 n7 c7] w (UPost z Bu s (itemM s x) w) := by
  rw [item_none hk1 hk5]
  have D0 : DSt z Bu w.heap.size (itmO x.kind a1 n1 c1 a2 n2 c2 a3 x.names.length c3 x.mn x.mx a6 x.vals.length c6 a7 n7 c7) w s (w.alloc (itmO x.kind a1 n1 c1 a2 n2 c2 a3 x.names.length c3 x.mn x.mx a6 x.vals.length c6 a7 n7 c7)) := DSt.new hu hz
  generalize x.names.length = n3 at *
  generalize x.vals.length = n6 at *
  generalize x.mn = mn at *
  generalize x.mx = mx at *
  generalize x.kind = kd at *
  obtain ⟨x0, -, -, x3, -, -, -, -⟩ := itmO_cells D0.x
  unfold itmO at x0 x3
  have D0H := Lib.hid D0
  have HZ := Lib.hid hz
  clear D0 hu hz
  have hend : ∀ n, UPost z Bu s s w (.returned (.bool false)) ((w.alloc (itmO kd a1 n1 c1 a2 n2 c2 a3 n3 c3 mn mx a6 n6 c6 a7 n7 c7)).drewN n) := fun n => by
    have D := D0H.out.below (below_drewN (Below.refl _ _) n) HZ.out
    exact ⟨by rw [grewB_self], D.u, D.ko⟩
  have HE := Lib.hid hend
  clear hend
  by_cases h5 : kd = 5
  · subst h5
    have hne := hk5 rfl
    clear hk5 hk1
    have hd : ((n3 : Int) == 1) = false := beq_eq_false_iff_ne.2 (by omega)
    unfold itV
    go_enter Tryz.func88, Tryz.ntmps88
    go_wp2_with fail
    go_quiet (fail)
    go_wp2
    go_ret
    exact HE.out _
  · clear hk5
    unfold itV
    go_enter Tryz.func88, Tryz.ntmps88
    go_wp2
    go_ret
    exact HE.out 0
set_option maxRecDepth 100000 in
set_option maxHeartbeats 8000000 in
theorem item_frames (hG : ∀ s, G s → Sz s) (x : Itm) (hu : UAt z Bu s w) (hz : z ≤ w.heap.size) (hx : ItOk G x) (hs : G s) (hk5 : x.kind = 5) {nm : ByteArray} (hnm : x.names = [nm])
    (h3 : AtB z w (.sl x.names.length 1 (x.names.flatMap encN)) (.slice a3 x.names.length c3)) (h6 : AtB z w (.sl x.vals.length 5 (x.vals.flatMap encV)) (.slice a6 x.vals.length c6)) :
    Calls Tryz.prog 88 #[.pointer (some ⟨Bu, 0, none⟩), itV x.kind a1 n1 c1 a2 n2 c2 a3 x.names.length c3 x.mn x.mx a6 x.vals.length c6 a7 n7 c7] w (UPost z Bu s (itemM s x) w) := by
  rw [item_frm hk5 hnm, hk5]
  obtain ⟨b, o, cap, e, -, -, hbz, hc⟩ : ∃ b o cap, Value.slice a3 x.names.length c3 = .slice (some ⟨b, o, none⟩) x.names.length cap ∧ x.names.length ≤ cap ∧ 0 < x.names.length ∧ b < z ∧
      ∀ k (hk : k < x.names.length) j a, (encN x.names[k])[j]? = some a → ∃ u, w.cell? ⟨b, o + (k * 1 + j), none⟩ = some u ∧ AtB z w a u := by
    rcases slB_cells encN 1 (fun _ => rfl) (by decide) h3 with ⟨h0, -⟩ | h
    · rw [hnm] at h0; cases h0
    · exact h
  have hcell : w.cell? ⟨b, o, none⟩ = some (.string nm) := by
    obtain ⟨u, e0, v0⟩ := hc 0 (by rw [hnm]; simp) 0 _ rfl
    obtain rfl : u = _ := v0
    simp only [Nat.zero_mul, Nat.add_zero] at e0
    rw [e0]
    simp [hnm]
  have hn3 : x.names.length = 1 := by rw [hnm]; rfl
  rw [hn3] at e ⊢
  cases e
  have D0 : DSt z Bu w.heap.size (itmO 5 a1 n1 c1 a2 n2 c2 (some ⟨b, o, none⟩) 1 c3 x.mn x.mx a6 x.vals.length c6 a7 n7 c7) w s (w.alloc (itmO 5 a1 n1 c1 a2 n2 c2 (some ⟨b, o, none⟩) 1 c3 x.mn x.mx a6 x.vals.length c6 a7 n7 c7)) := DSt.new hu hz
  have hcn : cntVs x.vals ≤ 1000 := by have := hx.ok.2.2.1; omega
  have hok := hx.ok.2.2.2
  obtain ⟨hs1, hs2, hs3⟩ := hG s hs
  generalize x.vals = l at *
  generalize x.mn = mn at *
  generalize x.mx = mx at *
  clear h3 hc hx hs hG hk5 hnm hn3 hu
  have HZ := Lib.hid hz
  have hAt : ∀ W, Below z w W → At W (.sl l.length 5 (l.flatMap encV)) (.slice a6 l.length c6) := fun W h => (h6.below h).toAt (Nat.le_trans hz h.size)
  have HR := Lib.hid fun W (h : Below z w W) => refsN_any _ l W hcn hok (hAt W h)
  have HI := Lib.hid fun W (h : Below z w W) => identsN_any _ l W hcn (hAt W h)
  have HT := Lib.hid fun W (h : Below z w W) => stringsN_any _ l W hcn (hAt W h)
  have hl1 := rfN_le l
  have hl2 := ofM_le 1 l
  have hl3 := vN_le l
  have hl4 : (ofM 1 l).length + (ofM 6 l).length ≤ 2000 := by have := vN_le l; rw [vN, List.length_append] at this; omega
  have HX := Lib.hid fun (t : S3) (W : World) (h : DSt z Bu w.heap.size (itmO 5 a1 n1 c1 a2 n2 c2 (some ⟨b, o, none⟩) 1 c3 mn mx a6 l.length c6 a7 n7 c7) w t W) => itmO_cells h.x
  have HDB := Lib.hid fun (t : S3) (W W' : World) (h : DSt z Bu w.heap.size (itmO 5 a1 n1 c1 a2 n2 c2 (some ⟨b, o, none⟩) 1 c3 mn mx a6 l.length c6 a7 n7 c7) w t W) (hb : Below W.heap.size W W') => h.below hb HZ.out
  have D0H := Lib.hid D0
  obtain ⟨x0, -, -, x3, -, -, -, -⟩ := HX.out _ _ D0
  have HH := Lib.hid fun n => has_f z Bu s nm _ ((D0.below (below_drewN (Below.refl _ _) n) HZ.out).u) (by omega)
  have hcell' := (D0.ko.below.cell (p := ⟨b, o, none⟩) hbz).trans hcell
  have HE := Lib.hid fun n => show UPost z Bu s s w (.returned (.bool false)) ((w.alloc (itmO 5 a1 n1 c1 a2 n2 c2 (some ⟨b, o, none⟩) 1 c3 mn mx a6 l.length c6 a7 n7 c7)).drewN n) from by
    have D := HDB.out _ _ _ D0H.out (below_drewN (Below.refl _ _) n)
    exact ⟨by rw [grewB_self], D.u, D.ko⟩
  unfold itmO at x0 x3 hcell'
  clear hAt h6 hz D0 hcell
  cases hq : hasM s.f (sOf nm)
  · simp only [Bool.false_eq_true, if_false]
    rw [hq] at HH
    unfold itV
    go_enter Tryz.func88, Tryz.ntmps88
    go_wp2_with fail
    go_quiet ((go_at_call 148; exact Calls.quiet_of (HH.out _)))
    go_wp2
    go_ret
    exact HE.out _
  · simp only [if_true]
    rw [hq] at HH
    unfold itV
    go_enter Tryz.func88, Tryz.ntmps88
    go_upto_region 10 with fail
    go_cut [3, 5, 41] from 28 to 41 (fun v3 v5 v41 wx => v3 = .pointer (some ⟨w.heap.size, 0, none⟩) ∧ v5 = .bool false ∧ v41 = .bool true ∧ Hid (DSt z Bu w.heap.size (itmO 5 a1 n1 c1 a2 n2 c2 (some ⟨b, o, none⟩) 1 c3 mn mx a6 l.length c6 a7 n7 c7) w s wx))
    case first =>
      go_quiet ((go_at_call 148; exact Calls.quiet_of (HH.out _)))
      go_wp2_with fail
      go_meet
      exact ⟨rfl, rfl, rfl, Lib.hid (HDB.out _ _ _ D0H.out (below_drewN (Below.refl _ _) _))⟩
    case rest =>
    obtain ⟨rfl, rfl, rfl, D1H⟩ := hcut
    clear HH D0H x0 x3 hcell'
    go_upto_region 11 with fail
    have D1 := D1H.out
    obtain ⟨-, -, -, -, -, -, x6, -⟩ := HX.out _ _ D1
    have D1d : DSt z Bu w.heap.size (itmO 5 a1 n1 c1 a2 n2 c2 (some ⟨b, o, none⟩) 1 c3 mn mx a6 l.length c6 a7 n7 c7) w s wc.drew := HDB.out _ _ _ D1 (Below.refl _ _).drew
    obtain ⟨-, -, -, -, -, -, x6d, -⟩ := HX.out _ _ D1d
    have D1dH := Lib.hid D1d
    have R1 := Lib.hid (HR.out _ D1d.ko.below)
    clear D1 D1d
    go_cut [3, 5] from 42 to 48 (fun v3 v5 wx => v3 = .pointer (some ⟨w.heap.size, 0, none⟩) ∧ v5 = .bool (decide (s.c.length < (addM s.c (rfN l)).length)) ∧ Hid (DSt z Bu w.heap.size (itmO 5 a1 n1 c1 a2 n2 c2 (some ⟨b, o, none⟩) 1 c3 mn mx a6 l.length c6 a7 n7 c7) w ⟨addM s.c (rfN l), s.f, s.g⟩ wx))
    case first =>
      go_region_held3 (fun w' => w'.cell? ⟨w.heap.size, 6, none⟩ = some (.slice a6 l.length c6))
        (first | exact x6 | exact x6d | exact x62 | exact x63)
        ((first
          | (go_at_call 58
             refine R1.out.mono ?_
             rintro e w2 ⟨v2, rfl, ho2, hB2⟩
             have D2 := HDB.out _ _ _ D1dH.out hB2
             have A2 := addN_c z Bu _ s v2 (rfN l) w2 D2.u ho2 (D1dH.out.old hB2) (by omega)
             obtain ⟨-, -, -, -, -, -, x62, -⟩ := HX.out _ _ D2)
          | (go_at_call 149
             refine A2.mono ?_
             rintro e w3 ⟨rfl, hu3, hk3⟩
             have D3 := D2.add hu3 hk3
             obtain ⟨-, -, -, -, -, -, x63, -⟩ := HX.out _ _ D3)))
      go_wp2_with fail
      go_meet
      exact ⟨rfl, rfl, Lib.hid D3⟩
    case rest =>
    obtain ⟨rfl, rfl, D3⟩ := hcut
    clear x6 x6d D1H D1dH R1
    go_upto_region 12 with fail
    generalize hq1 : decide (s.c.length < (addM s.c (rfN l)).length) = q1
    have D1 := D3.out
    obtain ⟨-, -, -, -, -, -, x6, -⟩ := HX.out _ _ D1
    have D1d : DSt z Bu w.heap.size (itmO 5 a1 n1 c1 a2 n2 c2 (some ⟨b, o, none⟩) 1 c3 mn mx a6 l.length c6 a7 n7 c7) w ⟨addM s.c (rfN l), s.f, s.g⟩ wc.drew := HDB.out _ _ _ D1 (Below.refl _ _).drew
    obtain ⟨-, -, -, -, -, -, x6d, -⟩ := HX.out _ _ D1d
    have D1dH := Lib.hid D1d
    have R1 := Lib.hid (HI.out _ D1d.ko.below)
    clear D1 D1d D3
    have HEQ := Lib.hid fun q3 (h : decide (s.g.length < (addM s.g (vN l)).length) = q3) => grewB_eq (s := s) (t := ⟨addM s.c (rfN l), s.f, addM s.g (vN l)⟩) (g2 := false) hq1 (by simp) h
    cases hq3 : decide (s.g.length < (addM s.g (vN l)).length)
    · go_region_held3 (fun w' => w'.cell? ⟨w.heap.size, 6, none⟩ = some (.slice a6 l.length c6))
        (first | exact x6 | exact x6d | exact x62 | exact x64 | exact x65 | exact x66 | exact x63)
        ((first
          | (go_at_call 36
             refine R1.out.mono ?_
             rintro e w2 ⟨v2, rfl, ho2, hB2⟩
             obtain ⟨a2, c2, rfl⟩ := owns_slice ho2
             have D2 := HDB.out _ _ _ D1dH.out hB2
             obtain ⟨-, -, -, -, -, -, x62, -⟩ := HX.out _ _ D2)
          | (go_at_call 38
             refine (HT.out _ D2.ko.below).mono ?_
             rintro e w4 ⟨v4, rfl, ho4, hB4⟩
             obtain ⟨a4, c4, rfl⟩ := owns_slice ho4
             have D4 := HDB.out _ _ _ D2 hB4
             obtain ⟨-, -, -, -, -, -, x64, -⟩ := HX.out _ _ D4
             have D5 := HDB.out _ _ _ D4 (below_alloc w4 (.cells #[.slice a2 (ofM 1 l).length c2, .slice a4 (ofM 6 l).length c4] 25))
             obtain ⟨-, -, -, -, -, -, x65, -⟩ := HX.out _ _ D5
             have C4 := concat2_any (.slice a2 (ofM 1 l).length c2) (.slice a4 (ofM 6 l).length c4) (ofM 1 l) (ofM 6 l) w4 _ _ (ho2.below hB4) ho4 (by omega)
             clear ho2 ho4)
          | (go_at_call 150
             refine C4.mono ?_
             rintro e w6 ⟨v6, rfl, ho6, hB6⟩
             have D6 := HDB.out _ _ _ D4 hB6
             obtain ⟨-, -, -, -, -, -, x66, -⟩ := HX.out _ _ D6
             have A2 := addN_g z Bu _ ⟨addM s.c (rfN l), s.f, s.g⟩ v6 (vN l) w6 D6.u ho6 (D4.old hB6) (by show s.g.length + _ ≤ _; omega)
             dsimp only at A2
             rw [hq3] at A2
             clear ho6)
          | (go_at_call 149
             refine A2.mono ?_
             rintro e w3 ⟨rfl, hu3, hk3⟩
             have D3 := D6.add hu3 hk3
             obtain ⟨-, -, -, -, -, -, x63, -⟩ := HX.out _ _ D3)))
      go_wp2
      go_ret
      refine ⟨?_, D3.u, D3.ko⟩
      rw [HEQ.out _ hq3]
      cases q1 <;> rfl
    · first | (go_region_with ((first
          | (go_at_call 36
             refine R1.out.mono ?_
             rintro e w2 ⟨v2, rfl, ho2, hB2⟩
             obtain ⟨a2, c2, rfl⟩ := owns_slice ho2
             have D2 := HDB.out _ _ _ D1dH.out hB2
             obtain ⟨-, -, -, -, -, -, x62, -⟩ := HX.out _ _ D2)
          | (go_at_call 38
             refine (HT.out _ D2.ko.below).mono ?_
             rintro e w4 ⟨v4, rfl, ho4, hB4⟩
             obtain ⟨a4, c4, rfl⟩ := owns_slice ho4
             have D4 := HDB.out _ _ _ D2 hB4
             obtain ⟨-, -, -, -, -, -, x64, -⟩ := HX.out _ _ D4
             have D5 := HDB.out _ _ _ D4 (below_alloc w4 (.cells #[.slice a2 (ofM 1 l).length c2, .slice a4 (ofM 6 l).length c4] 25))
             obtain ⟨-, -, -, -, -, -, x65, -⟩ := HX.out _ _ D5
             have C4 := concat2_any (.slice a2 (ofM 1 l).length c2) (.slice a4 (ofM 6 l).length c4) (ofM 1 l) (ofM 6 l) w4 _ _ (ho2.below hB4) ho4 (by omega)
             clear ho2 ho4)
          | (go_at_call 150
             refine C4.mono ?_
             rintro e w6 ⟨v6, rfl, ho6, hB6⟩
             have D6 := HDB.out _ _ _ D4 hB6
             obtain ⟨-, -, -, -, -, -, x66, -⟩ := HX.out _ _ D6
             have A2 := addN_g z Bu _ ⟨addM s.c (rfN l), s.f, s.g⟩ v6 (vN l) w6 D6.u ho6 (D4.old hB6) (by show s.g.length + _ ≤ _; omega)
             dsimp only at A2
             rw [hq3] at A2
             clear ho6)
          | (go_at_call 149
             refine A2.mono ?_
             rintro e w3 ⟨rfl, hu3, hk3⟩
             have D3 := D6.add hu3 hk3
             obtain ⟨-, -, -, -, -, -, x63, -⟩ := HX.out _ _ D3)))) | fail
      all_goals (
        go_wp2
        go_ret
        refine ⟨?_, D3.u, D3.ko⟩
        rw [HEQ.out _ hq3]
        cases q1 <;> rfl)
/-- an item, whatever it is -/
theorem item_any (hG : ∀ s, G s → Sz s) (x : Itm) (hu : UAt z Bu s w) (hz : z ≤ w.heap.size) (hx : ItOk G x) (hs : G s)
    (h2 : AtB z w (.sl x.decls.length 3 (x.decls.flatMap encD)) (.slice a2 x.decls.length c2)) (h3 : AtB z w (.sl x.names.length 1 (x.names.flatMap encN)) (.slice a3 x.names.length c3)) (h6 : AtB z w (.sl x.vals.length 5 (x.vals.flatMap encV)) (.slice a6 x.vals.length c6)) :
    Calls Tryz.prog 88 #[.pointer (some ⟨Bu, 0, none⟩), itV x.kind a1 n1 c1 a2 x.decls.length c2 a3 x.names.length c3 x.mn x.mx a6 x.vals.length c6 a7 n7 c7] w (UPost z Bu s (itemM s x) w) := by
  by_cases h1 : x.kind = 1
  · exact item_rule hG x hu hz hx hs h1 h2
  · by_cases h5 : x.kind = 5 ∧ x.names.length = 1
    · obtain ⟨n, hn⟩ := List.length_eq_one_iff.1 h5.2
      exact item_frames hG x hu hz hx hs h5.1 hn h3 h6
    · exact item_other x hu hz h1 fun e hn => h5 ⟨e, hn⟩
end
end Go.Proofs.YtlnaihkombcbcaaGreat
end
noncomputable section
namespace Go.Proofs.YtlnaihkombcbcaaGreat
open Go.RowKit Go.Sort Go.Ev
def GPost (z Bu Bg : Nat) (t : S3) (g : Bool) (w : World) (e : Ending) (w' : World) : Prop := e = .returned (.bool true) ∧ StG z Bu Bg t g w' ∧ KO (OwG Bu Bg) z w w'
def cloV (Bu Bg : Nat) : Value := .func (.func 87) #[] #[.pointer (some ⟨Bu, 0, none⟩), .pointer (some ⟨Bg, 0, none⟩)]
theorem gO_cell {W : World} {Bg : Nat} {g : Bool} (h : W.heap[Bg]? = some (gO g)) : W.cell? ⟨Bg, 0, none⟩ = some (.bool g) ∧ W.frozen? ⟨Bg, 0, none⟩ = false := by
  refine ⟨by rw [Lib.cell_of_heap h]; rfl, Lib.frozen_of_heap h 0⟩
theorem cntIs_at {l : List Itm} {k : Nat} (hk : k < l.length) : cntIs l[k].l < cntIs l := by
  have h := cntIs_snoc hk
  have h2 := cntIs_append (l.take (k + 1)) (l.drop (k + 1))
  rw [List.take_append_drop] at h2
  omega
section
variable {z Bu Bg : Nat} {G : S3 → Prop} {s : S3} {g : Bool} {a1 a2 a3 a6 a7 : Option Addr} {n1 c1 c2 c3 c6 n7 c7 : Nat} {w : World}
set_option maxRecDepth 100000 in
set_option maxHeartbeats 4000000 in
theorem clo_any (hG : ∀ s, G s → Sz s) (x : Itm) (hst : StG z Bu Bg s g w) (hz : z ≤ w.heap.size) (hx : ItOk G x) (hs : G s)
    (h2 : AtB z w (.sl x.decls.length 3 (x.decls.flatMap encD)) (.slice a2 x.decls.length c2)) (h3 : AtB z w (.sl x.names.length 1 (x.names.flatMap encN)) (.slice a3 x.names.length c3)) (h6 : AtB z w (.sl x.vals.length 5 (x.vals.flatMap encV)) (.slice a6 x.vals.length c6)) :
    Calls Tryz.prog 87 #[itV x.kind a1 n1 c1 a2 x.decls.length c2 a3 x.names.length c3 x.mn x.mx a6 x.vals.length c6 a7 n7 c7, .pointer (some ⟨Bu, 0, none⟩), .pointer (some ⟨Bg, 0, none⟩)] w
      (GPost z Bu Bg (itemM s x) (grewB s (itemM s x) || g) w) := by
  have hb := below_alloc w (itmO x.kind a1 n1 c1 a2 x.decls.length c2 a3 x.names.length c3 x.mn x.mx a6 x.vals.length c6 a7 n7 c7)
  have S1 := hst.below hb
  have K1 := hst.ko hb hz
  have HI := Lib.hid (item_any (a1 := a1) (n1 := n1) (c1 := c1) (a7 := a7) (n7 := n7) (c7 := c7) hG x S1.u (Nat.le_trans hz hb.size) hx hs (h2.below (hb.mono hz)) (h3.below (hb.mono hz)) (h6.below (hb.mono hz)))
  have HX := Lib.hid (itmO_cells (World.alloc_heap_new w (itmO x.kind a1 n1 c1 a2 x.decls.length c2 a3 x.names.length c3 x.mn x.mx a6 x.vals.length c6 a7 n7 c7)))
  have HS := Lib.hid (And.intro S1 K1)
  clear hst hz hx hs h2 h3 h6 hb S1 K1 hG
  generalize itemM s x = t at *
  generalize x.names.length = n3 at *
  generalize x.vals.length = n6 at *
  generalize x.decls.length = n2 at *
  generalize x.mn = mn at *
  generalize x.mx = mx at *
  generalize x.kind = kd at *
  unfold itmO at HX HI HS
  unfold itV at HI ⊢
  obtain ⟨x0, x1, x2, x3, x4, x5, x6, x7⟩ := HX.out
  generalize hq : grewB s t = q at *
  have HQ := Lib.hid hq
  clear hq HX
  cases q
  · go_enter Tryz.func87, Tryz.ntmps87
    go_wp2_with fail
    refine HI.out.mono ?_
    rintro e w2 ⟨rfl, hu2, hk2⟩
    rw [HQ.out]
    obtain ⟨S2, K2⟩ := HS.out.1.turn hu2 hk2
    obtain ⟨g1, g2⟩ := gO_cell S2.g
    obtain ⟨S3, K3⟩ := S2.put g
    have HE := Lib.hid (And.intro S3 ((HS.out.2.trans K2).trans K3))
    clear x0 x1 x2 x3 x4 x5 x6 x7 S2 K2 S3 K3 hu2 hk2
    go_wp2
    go_ret
    exact ⟨rfl, HE.out.1, HE.out.2⟩
  · go_enter Tryz.func87, Tryz.ntmps87
    go_wp2_with fail
    refine HI.out.mono ?_
    rintro e w2 ⟨rfl, hu2, hk2⟩
    rw [HQ.out]
    obtain ⟨S2, K2⟩ := HS.out.1.turn hu2 hk2
    obtain ⟨g1, g2⟩ := gO_cell S2.g
    obtain ⟨S3, K3⟩ := S2.put true
    have HE := Lib.hid (And.intro S3 ((HS.out.2.trans K2).trans K3))
    clear x0 x1 x2 x3 x4 x5 x6 x7 S2 K2 S3 K3 hu2 hk2
    go_wp2
    go_ret
    exact ⟨rfl, HE.out.1, HE.out.2⟩
set_option maxRecDepth 100000 in
set_option maxHeartbeats 8000000 in
theorem inner_any (hG : ∀ s, G s → Sz s) (N : Nat) : ∀ (l : List Itm), SizeOf.sizeOf l ≤ N → cntIs l ≤ 1000000 → (∀ x ∈ flatIs l, ItOk G x) → ∀ (v : Value) (s : S3) (g : Bool) (w : World), RdI Bu Bg z w l v → StG z Bu Bg s g w → z ≤ w.heap.size → G s →
    Calls Tryz.prog 86 #[v, cloV Bu Bg] w (GPost z Bu Bg (passM s l) (grewB s (passM s l) || g) w) := by
  induction N with
  | zero => intro l hl; cases l <;> simp at hl <;> omega
  | succ N ih =>
    intro l hl hcn hit v s g w hv hst hz hs
    have hlen : l.length ≤ 1000000 := Nat.le_trans (cntIs_len l) hcn
    rcases hv with ⟨rfl, ad, cap, rfl⟩ | ⟨b, o, cap, rfl, hcap, hpos, hbs, hno, hc⟩
    · have HS := Lib.hid (And.intro hst (KO.refl (z := z) fun k hk => (hst.own hk).2))
      have HG := Lib.hid (grewB_self s)
      clear ih hl hit hst hz hs hG
      unfold cloV
      go_enter Tryz.func86, Tryz.ntmps86
      go_wp2
      go_loopw [6, 9] (fun _ i wr => i = .int .i64 0 ∧ wr = w) (fun _ _ _ => 0)
      case atStart => exact ⟨rfl, rfl⟩
      case round =>
        obtain ⟨rfl, rfl⟩ := hrel
        go_wp2
        go_ret
        refine ⟨rfl, ?_, HS.out.2⟩
        rw [pass_nil, HG.out]; exact HS.out.1
    · have IH := Lib.hid fun k (hk : k < l.length) => ih l[k].l (by have := itm_lt (List.getElem_mem hk); omega) (by have := cntIs_at hk; omega)
      have HIT := Lib.hid fun k (hk : k < l.length) => hit l[k] (flat_self (List.getElem_mem hk)).1
      have HIN := Lib.hid fun k (hk : k < l.length) (h : l[k].kind = 2 ∨ l[k].kind = 3) x (hx : x ∈ flatIs l[k].l) => hit x ((flat_self (List.getElem_mem hk)).2 h x hx)
      have HP := Lib.hid fun k (hk : k < l.length) => pass_snoc hk s
      have HGk := Lib.hid fun k => pass_ok (l := l.take k) (fun x hx => hit x (flat_take x hx)) hs
      have HU := Lib.hid fun k => up_pass s (l.take k)
      have HC := Lib.hid fun (W : World) (h : KO (OwG Bu Bg) z w W) k (hk : k < l.length) => itB_cells (rd_ko hbs hno hc h) hk
      have HS0 := Lib.hid (And.intro hst (KO.refl (z := z) fun k hk => (hst.own hk).2))
      have HZ := Lib.hid hz
      have HB := Lib.hid (And.intro hbs hno)
      have HGG := Lib.hid hG
      have HG0 := Lib.hid (grewB_self s)
      clear ih hl hit hst hz hs hG hc hbs hno hcn
      unfold cloV
      go_enter Tryz.func86, Tryz.ntmps86
      go_wp2
      go_loopw [6, 9] (fun _ i wr => ∃ k : Nat, k ≤ l.length ∧ i = .int .i64 k ∧ Hid (StG z Bu Bg (passM s (l.take k)) (grewB s (passM s (l.take k)) || g) wr ∧ KO (OwG Bu Bg) z w wr)) (fun _ i _ => l.length - (intOf i).toNat)
      case atStart => exact ⟨0, Nat.zero_le _, rfl, Lib.hid (by rw [List.take_zero, pass_nil, HG0.out]; exact HS0.out)⟩
      case round =>
        obtain ⟨k, hk, rfl, hSK⟩ := hrel
        by_cases hlt : k < l.length
        · obtain ⟨a1, c1, a2, c2, a3, c3, a6, c6, a7, c7, y0, y1, y2, y3, y4, y5, y6, y7, v1, v2, v3, v6, v7⟩ := HC.out wr hSK.out.2 k hlt
          have hxok := HIT.out k hlt
          have hsz := hSK.out.2.below.size
          have hzr : z ≤ wr.heap.size := Nat.le_trans HZ.out hsz
          have hba := below_alloc wr (itmO l[k].kind a1 l[k].sels.length c1 a2 l[k].decls.length c2 a3 l[k].names.length c3 l[k].mn l[k].mx a6 l[k].vals.length c6 a7 l[k].l.length c7)
          have S1 := hSK.out.1.below hba
          have K1 := hSK.out.1.ko hba hzr
          have HCL := Lib.hid (clo_any (a1 := a1) (n1 := l[k].sels.length) (c1 := c1) (a7 := a7) (n7 := l[k].l.length) (c7 := c7) HGG.out l[k] S1 (Nat.le_trans hzr hba.size) hxok (HGk.out k) (v2.below (hba.mono hzr)) (v3.below (hba.mono hzr)) (v6.below (hba.mono hzr)))
          have hX := World.alloc_heap_new wr (itmO l[k].kind a1 l[k].sels.length c1 a2 l[k].decls.length c2 a3 l[k].names.length c3 l[k].mn l[k].mx a6 l[k].vals.length c6 a7 l[k].l.length c7)
          have hXn : ¬ OwG Bu Bg (wr.alloc (itmO l[k].kind a1 l[k].sels.length c1 a2 l[k].decls.length c2 a3 l[k].names.length c3 l[k].mn l[k].mx a6 l[k].vals.length c6 a7 l[k].l.length c7)) wr.heap.size := fun ho => by
            rcases ho with ho | ho
            · have := hSK.out.1.ltg; omega
            · have := (hSK.out.1.u.own (OwU_below hSK.out.1.u.lt hba _ ho)).2; omega
          have HXB := Lib.hid fun (W : World) (h : KO (OwG Bu Bg) z (wr.alloc (itmO l[k].kind a1 l[k].sels.length c1 a2 l[k].decls.length c2 a3 l[k].names.length c3 l[k].mn l[k].mx a6 l[k].vals.length c6 a7 l[k].l.length c7)) W) =>
            itmO_cells ((h.same _ (Array.getElem?_eq_some_iff.1 hX).1 hXn).trans hX)
          obtain ⟨x0, x1, x2, x3, x4, x5, x6, x7⟩ := itmO_cells hX
          have HK1 := Lib.hid (hSK.out.2.trans K1)
          have HPk := HP.out k hlt
          have HREC := Lib.hid (IH.out k hlt)
          have HINk := Lib.hid (HIN.out k hlt)
          have hUp1 := up_item (passM s (l.take k)) l[k]
          have hUp2 := fun h : l[k].kind = 2 ∨ l[k].kind = 3 => up_pass (itemM (passM s (l.take k)) l[k]) l[k].l
          have HGI := Lib.hid (item_ok hxok (HGk.out k))
          have hg1 := grew_or (HU.out k) hUp1
          have hg2 := fun h => grew_or ((HU.out k).trans hUp1) (hUp2 h)
          have HG1 := Lib.hid hg1
          have HG2 := Lib.hid hg2
          have V7 := Lib.hid v7
          have HPk' := Lib.hid HPk
          clear hxok v1 v2 v3 v6 v7 S1 K1 hX hXn hUp1 hUp2 hg1 hg2 HPk hba
          unfold itmO at HCL HXB HK1 x0 x1 x2 x3 x4 x5 x6 x7
          unfold itV at HCL
          have y0' := y0
          generalize passM s (l.take k) = sk at *
          generalize hsk1 : passM s (l.take (k + 1)) = sk1 at *
          have HSK1 := Lib.hid hsk1
          clear hsk1
          generalize itemM sk l[k] = ti at *
          generalize l[k].kind = kd at *
          generalize l[k].sels.length = n1 at *
          generalize l[k].decls.length = n2 at *
          generalize l[k].names.length = n3 at *
          generalize l[k].vals.length = n6 at *
          generalize l[k].mn = mn at *
          generalize l[k].mx = mx at *
          generalize l[k].l = ll at *
          by_cases hkk : kd = 2 ∨ kd = 3
          · have HG2k := Lib.hid (HG2.out hkk)
            have HPk2 : Hid (sk1 = passM ti ll) := Lib.hid (by rw [HPk'.out, if_pos hkk])
            have HIN2 := Lib.hid (HINk.out hkk)
            clear HPk' HG2 HINk
            rcases hkk with rfl | rfl
            all_goals
              go_wp2_with fail
              refine HCL.out.mono ?_
              rintro e w2 ⟨rfl, hS2, hK2⟩
              obtain ⟨x0', -, -, -, -, -, -, x7'⟩ := HXB.out w2 hK2
              have hK02 := HK1.out.trans hK2
              have hz2 : z ≤ w2.heap.size := Nat.le_trans HZ.out hK02.below.size
              have HR := Lib.hid (HREC.out HIN2.out _ ti _ w2 (rd_of hS2 hz2 ((V7.out.below (below_alloc wr _ |>.mono hzr)).below hK2.below)) hS2 hz2 HGI.out)
              have HK02 := Lib.hid hK02
              clear x0 x1 x2 x3 x4 x5 x6 x7 y0 y1 y2 y3 y4 y5 y6 y7 hS2 hK2 hK02 HXB HCL
              unfold cloV at HR
              go_wp2_with fail
              refine HR.out.mono ?_
              rintro e w3 ⟨rfl, hS3, hK3⟩
              have HE : Hid (StG z Bu Bg sk1 (grewB s sk1 || g) w3 ∧ KO (OwG Bu Bg) z w w3) := Lib.hid ⟨by
                rw [HPk2.out, HG2k.out, HG1.out, Bool.or_assoc, Bool.or_assoc]
                exact hS3, HK02.out.trans hK3⟩
              clear hS3 hK3 x0' x7' HR HK02
              go_wp2
              go_roundw
              case rel => exact ⟨k + 1, by omega, by go_num, by rw [HSK1.out]; exact HE⟩
              case measure => simp [intOf]; omega
          · have HPk2 : Hid (sk1 = ti) := Lib.hid (by rw [HPk'.out, if_neg hkk])
            obtain ⟨hk2, hk3⟩ := not_or.1 hkk
            clear HPk' HG2 HINk hkk HREC
            go_wp2_with fail
            refine HCL.out.mono ?_
            rintro e w2 ⟨rfl, hS2, hK2⟩
            obtain ⟨x0', -, -, -, -, -, -, x7'⟩ := HXB.out w2 hK2
            have HE : Hid (StG z Bu Bg sk1 (grewB s sk1 || g) w2 ∧ KO (OwG Bu Bg) z w w2) := Lib.hid ⟨by
              rw [HPk2.out, HG1.out, Bool.or_assoc]
              exact hS2, HK1.out.trans hK2⟩
            clear x0 x1 x2 x3 x4 x5 x6 x7 y0 y1 y2 y3 y4 y5 y6 y7 hS2 hK2 HXB HCL
            go_wp2
            go_roundw
            case rel => exact ⟨k + 1, by omega, by go_num, by rw [HSK1.out]; exact HE⟩
            case measure => simp [intOf]; omega
        · obtain rfl : k = l.length := by omega
          have hSK' := hSK.out
          rw [List.take_length] at hSK'
          have HE := Lib.hid hSK'
          clear hSK hSK'
          go_wp2
          go_ret
          exact ⟨rfl, HE.out.1, HE.out.2⟩
end
end Go.Proofs.YtlnaihkombcbcaaGreat
end
noncomputable section
namespace Go.Proofs.YtlnaihkombcbcaaGreat
open Go.RowKit Go.Sort Go.Ev
section
variable {w : World}
/-- what is appended, out of what a slice stands for -/
theorem src_gen {cs : List AV} {n sz : Nat} {v : Value} (hcell : cs.all isCell = true) (hlen : cs.length = n * sz) (hv : At w (.sl n sz cs) v) : ∃ news, Ats w cs news ∧ SrcN w v n sz news := by
  obtain ⟨ad, cap, rfl, -, h⟩ := hv
  by_cases h0 : n = 0
  · subst h0
    obtain rfl : cs = [] := List.eq_nil_of_length_eq_zero (by omega)
    refine ⟨[], by rw [Ats, VRs], ?_⟩
    cases ad with
    | none => exact .inl ⟨_, rfl, rfl, rfl⟩
    | some a => exact .inr ⟨_, _, rfl, by simp, by simp, by simp⟩
  · rcases h with h | ⟨rb, ro, rfl, hr⟩
    · exact absurd h h0
    · obtain ⟨vs, h1, h2⟩ := row_vals hr
      refine ⟨vs, h2, .inr ⟨_, _, rfl, by rw [VRs.len h2, hlen], fun j u hj => ?_, VRs.oneCells h2 hcell⟩⟩
      rw [Addr.add_lit]; exact h1 j u hj
theorem at_gen {B : Nat} {e : TypeId} {v : Value} {cs : List AV} {n sz : Nat} {news : List Value} (hlen : cs.length = n * sz) (ho : w.ownsRow B e sz v n news) (ha : Ats w cs news) : At w (.sl n sz cs) v := by
  rcases ho.2 with ⟨rfl, h0⟩ | ⟨g, cap, cur, rfl, -, hg, hc, -, -, ht⟩
  · subst h0
    exact ⟨none, 0, rfl, Nat.le_refl _, .inl rfl⟩
  · refine ⟨_, cap, rfl, hc, .inr ⟨g, 0, rfl, RowR.mk (Array.getElem?_eq_some_iff.1 hg).1 fun i a hi => ?_⟩⟩
    obtain ⟨v, h1, h2⟩ := VRs.get ha hi
    refine ⟨v, ?_, h2⟩
    rw [Nat.zero_add, Lib.cell_of_heap hg]
    have hlt : i < n * sz := by rw [← hlen]; exact (List.getElem?_eq_some_iff.1 hi).1
    rw [← ht, List.getElem?_take, if_pos hlt] at h1
    simpa using h1
end
theorem cells_encI (x : Itm) : (encI x).all isCell = true := by cases x; rw [encI]; rfl
theorem cells_flatI : ∀ (l : List Itm), (l.flatMap encI).all isCell = true
  | [] => rfl
  | x :: l => by rw [List.flatMap_cons, List.all_append, cells_encI, cells_flatI l]; rfl
theorem len_flatI : ∀ (l : List Itm), (l.flatMap encI).length = l.length * 8
  | [] => rfl
  | x :: l => by rw [List.flatMap_cons, List.length_append, encI_len, len_flatI l, List.length_cons]; omega
theorem cells_flatSh : ∀ (l : List (List Itm)), (l.flatMap encSh).all isCell = true
  | [] => rfl
  | x :: l => by rw [List.flatMap_cons, List.all_append, cells_flatSh l]; rfl
theorem len_flatSh : ∀ (l : List (List Itm)), (l.flatMap encSh).length = l.length * 1
  | [] => rfl
  | x :: l => by rw [List.flatMap_cons, List.length_append, len_flatSh l, List.length_cons]; show 1 + _ = _; omega
theorem pcs_sum {w : World} : ∀ (L : List (List Itm)) (ps : List Pc), ps.length = L.length → (∀ k (hk : k < L.length) (hp : k < ps.length), ps[k].m = L[k].length ∧ Ats w (L[k].flatMap encI) ps[k].news) → sumM ps = L.flatten.length ∧ Ats w (L.flatten.flatMap encI) (allN ps)
  | [], [], _, _ => ⟨rfl, by show VRs w _ [] []; rw [VRs]⟩
  | [], _ :: _, h, _ => by simp at h
  | _ :: _, [], h, _ => by simp at h
  | l :: L, p :: ps, h, hk => by
    obtain ⟨h1, h2⟩ := pcs_sum L ps (by simpa using h) fun k hk1 hk2 => by
      have := hk (k + 1) (by simpa using hk1) (by simpa using hk2)
      simpa using this
    obtain ⟨h3, h4⟩ := hk 0 (by simp) (by simp)
    have h3 : p.m = l.length := h3
    have h4 : Ats w (l.flatMap encI) p.news := h4
    refine ⟨?_, ?_⟩
    · simp only [sumM, List.map_cons, List.sum_cons, List.flatten_cons, List.length_append] at h1 ⊢
      omega
    · rw [List.flatten_cons, List.flatMap_append]
      exact h4.append h2
/-- sheets as parts -/
theorem pcs_of {w : World} {L : List (List Itm)} {v : Value} (hv : At w (.sl L.length 1 (L.flatMap encSh)) v) : ∃ ps, PcAt w v ps 8 ∧ ps.length = L.length ∧ sumM ps = L.flatten.length ∧ Ats w (L.flatten.flatMap encI) (allN ps) := by
  rcases slB_cells encSh 1 (fun _ => rfl) (by decide) (At.toB hv) with ⟨rfl, ad, cap, rfl⟩ | ⟨b, o, cap, rfl, hcap, hpos, hbz, hc⟩
  · exact ⟨[], ⟨.inl ⟨rfl, _, _, rfl⟩, by simp⟩, rfl, rfl, by show VRs w _ [] []; rw [VRs]⟩
  · have key : ∀ k : Fin L.length, ∃ p : Pc, w.cell? ⟨b, o + k.1, none⟩ = some p.v ∧ SrcN w p.v p.m 8 p.news ∧ p.m = L[k.1].length ∧ Ats w (L[k.1].flatMap encI) p.news := fun k => by
      obtain ⟨x, e0, v0⟩ := hc k.1 k.2 0 _ rfl
      simp only [Nat.add_zero, Nat.mul_one] at e0
      obtain ⟨news, h1, h2⟩ := src_gen (cells_flatI _) (len_flatI _) (AtB.toAt v0 (Nat.le_refl _))
      exact ⟨⟨x, L[k.1].length, news⟩, e0, h2, rfl, h1⟩
    let ps : List Pc := List.ofFn fun k : Fin L.length => (key k).choose
    have hlen : ps.length = L.length := by simp [ps]
    have hget : ∀ k (hk : k < L.length) (hp : k < ps.length), ps[k] = (key ⟨k, hk⟩).choose := fun k hk hp => by simp [ps]
    have hsum := pcs_sum L ps hlen fun k hk hp => by
      rw [hget k hk hp]
      exact (key ⟨k, hk⟩).choose_spec.2.2
    refine ⟨ps, ⟨.inr ⟨b, o, cap, by rw [hlen], by omega, fun k hp => ?_⟩, fun p hp => ?_⟩, hlen, hsum.1, hsum.2⟩
    · have hk : k < L.length := by omega
      rw [hget k hk hp]
      exact (key ⟨k, hk⟩).choose_spec.1
    · obtain ⟨k, hk, rfl⟩ := List.getElem_of_mem hp
      have hk' : k < L.length := by omega
      rw [hget k hk' hk]
      exact (key ⟨k, hk'⟩).choose_spec.2.1
end Go.Proofs.YtlnaihkombcbcaaGreat
end
noncomputable section
namespace Go.Proofs.YtlnaihkombcbcaaGreat
open Go.RowKit Go.Sort Go.Ev
theorem RowP.sat {w : World} {v : Value} {ss : List Str} (h : RowP w v ss) : SAt w v ss := by
  rcases h with ⟨rfl, rfl⟩ | ⟨b, o, cap, c, e, fr, rfl, h1, h2, h3, h4, h5, h6, h7⟩
  · exact .inl ⟨rfl, _, _, rfl⟩
  · refine .inr ⟨b, o, cap, by simp, by simpa using h2, by simpa using h1, fun j hj => ?_⟩
    have hj' : j < ss.length := by simpa using hj
    rw [cell_of h4, h7 j hj']
    simp [hj']
    rfl
/-- a pool -/
def PlAt (w : World) (v : Value) (s : S3) : Prop := ∃ va vb vc, v = .agg #[va, vb, vc] ∧ SAt w va s.c ∧ SAt w vb s.f ∧ SAt w vc s.g
theorem PlAt.below {w w' : World} {v : Value} {s : S3} (h : PlAt w v s) (hb : Below w.heap.size w w') : PlAt w' v s := by
  obtain ⟨va, vb, vc, rfl, h1, h2, h3⟩ := h
  exact ⟨va, vb, vc, rfl, h1.below hb, h2.below hb, h3.below hb⟩
theorem RowP.set3 {wr : World} {b : Nat} {u : Value} {ss : List Str} (h : RowP wr u ss) (x y z : Value) (hk : ∀ k, u.ownBlock = some k → k ≠ b) :
    RowP (((wr.setCell ⟨b, 0, none⟩ x).setCell ⟨b, 1, none⟩ y).setCell ⟨b, 2, none⟩ z) u ss :=
  h.keep fun k e => (put_far _ rfl (hk k e)).trans ((put_far _ rfl (hk k e)).trans (put_far _ rfl (hk k e)))
section
variable {z Bu Bg : Nat} {s : S3} {g : Bool} {W W' : World}
theorem PcAt.below {v : Value} {ps : List Pc} {size : Nat} (h : PcAt W v ps size) (hb : Below W.heap.size W W') : PcAt W' v ps size := by
  refine ⟨h.1.imp id ?_, fun p hp => (h.2 p hp).below hb⟩
  rintro ⟨b, o, cap, h1, h2, h3⟩
  exact ⟨b, o, cap, h1, h2, fun k hk => cell_up (h3 k hk) hb⟩
theorem rd_owns {B : Nat} {v : Value} {l : List Itm} {news : List Value} (ho : W.ownsRow B 53 8 v l.length news) (hb : Below W.heap.size W W') (ha : VRs W' ⟨fun _ => none, fun b => b < z⟩ (l.flatMap encI) news) (hn : ∀ b, B ≤ b → b < W.heap.size → ¬ OwG Bu Bg W' b) : RdI Bu Bg z W' l v := by
  by_cases hl : l = []
  · subst hl
    obtain ⟨a, c, rfl⟩ := owns_slice ho
    exact .inl ⟨rfl, a, c, rfl⟩
  · have hpos : 0 < l.length := List.length_pos_iff.2 hl
    rcases ho.2 with ⟨rfl, h0⟩ | ⟨g, cap, cur, rfl, hgB, hg, hc, -, -, ht⟩
    · omega
    · have hgl := (Array.getElem?_eq_some_iff.1 hg).1
      refine .inr ⟨g, 0, cap, rfl, hc, hpos, Nat.lt_of_lt_of_le hgl hb.size, hn g hgB hgl, fun k hk j a hj => ?_⟩
      have hjs : j < 8 := by have := (List.getElem?_eq_some_iff.1 hj).1; rw [encI_len] at this; exact this
      have hfl := flat_get encI 8 encI_len l k hk j hjs
      rw [hj] at hfl
      obtain ⟨v, h1, h2⟩ := VRs.get ha hfl
      refine ⟨v, ?_, h2⟩
      rw [Nat.zero_add, Lib.cell_of_heap ((hb.block g hgl).trans hg)]
      have hlt : k * 8 + j < l.length * 8 := by omega
      rw [← ht, List.getElem?_take, if_pos hlt] at h1
      simpa using h1
theorem RdI.ko {l : List Itm} {v : Value} (h : RdI Bu Bg z W l v) (hk : KO (OwG Bu Bg) z W W') : RdI Bu Bg z W' l v := by
  rcases h with h | ⟨b, o, cap, rfl, h1, h2, h3, h4, h5⟩
  · exact .inl h
  · exact .inr ⟨b, o, cap, rfl, h1, h2, Nat.lt_of_lt_of_le h3 hk.below.size, fun ho => h4 (hk.own b h3 ho), rd_ko h3 h4 h5 hk⟩
/-- the flag in a new cell -/
theorem RdI.next {l : List Itm} {v : Value} (h : RdI Bu Bg z W l v) (hs : StG z Bu Bg s g W) (o : Obj) (hz : z ≤ W.heap.size) : RdI Bu W.heap.size z (W.alloc o) l v := by
  have hb := below_alloc W o
  rcases h with h | ⟨b, o', cap, rfl, h1, h2, h3, h4, h5⟩
  · exact .inl h
  · refine .inr ⟨b, o', cap, rfl, h1, h2, Nat.lt_of_lt_of_le h3 hb.size, fun ho => ?_, fun k hk j a hj => ?_⟩
    · rcases ho with ho | ho
      · omega
      · exact h4 (.inr (OwU_below hs.u.lt hb b ho))
    · obtain ⟨x, e1, e2⟩ := h5 k hk j a hj
      exact ⟨x, (hb.cell (p := ⟨b, o' + (k * 8 + j), none⟩) h3).trans e1, e2.below (hb.mono hz)⟩
theorem StG.next (hs : StG z Bu Bg s g W) (g' : Bool) (hz : z ≤ W.heap.size) : StG z Bu W.heap.size s g' (W.alloc (gO g')) :=
  ⟨hs.u.below (below_alloc _ _), World.alloc_heap_new W _, hz, fun ho => by have := (hs.u.own (OwU_below hs.u.lt (below_alloc _ _) _ ho)).2; omega⟩
/-- what the loop holds -/
structure OfSt (z Bu Bg : Nat) (R : List Ru) (l : List Itm) (v : Value) (s : S3) (g : Bool) (W0 W : World) : Prop where
  st : StG z Bu Bg s g W
  inu : InU R s
  fix : g = false → passM s l = s
  rd : RdI Bu Bg z W l v
  below : Below z W0 W
  size : z ≤ W.heap.size
theorem uO_cells {va vb vc : Value} (h : W.heap[Bu]? = some (UO va vb vc)) : W.cell? ⟨Bu, 0, none⟩ = some va ∧ W.cell? ⟨Bu, 1, none⟩ = some vb ∧ W.cell? ⟨Bu, 2, none⟩ = some vc := by
  unfold UO at h
  refine ⟨?_, ?_, ?_⟩ <;> (rw [Lib.cell_of_heap h]; rfl)
end
theorem pass_in {L : List (List Itm)} {s : S3} (h : InU (rulesOf L.flatten) s) : InU (rulesOf L.flatten) (passM s L.flatten) := by
  rw [pass_rules]; exact inU_fold _ (fun r hr => hr) h
theorem pass_fin {L : List (List Itm)} {s : S3} (h : InU (rulesOf L.flatten) s) (hf : passM s L.flatten = s) : FinU (rulesOf L.flatten) s := by
  rw [pass_rules] at hf
  exact fin_of h (fold_fix _ _ hf)
theorem tot_small {L : List (List Itm)} (h : ∀ l ∈ L, okSh l) (h4 : L.length ≤ 4) {s : S3} (hs : InU (rulesOf L.flatten) s) : totM s ≤ 720000 := by
  have h0 : s.c.length ≤ 240000 := small_len h h4 hs 0
  have h1 : s.f.length ≤ 240000 := small_len h h4 hs 1
  have h2 : s.g.length ≤ 240000 := small_len h h4 hs 2
  unfold totM; omega
def twoG (s : S3) (g : Bool) : Nat := 2 * (720001 - totM s) + if g = true then 1 else 0
theorem two_less {L : List (List Itm)} (h : ∀ l ∈ L, okSh l) (h4 : L.length ≤ 4) {s : S3} (hs : InU (rulesOf L.flatten) s) : twoG (passM s L.flatten) (grewB s (passM s L.flatten)) < twoG s true := by
  have h1 := tot_small h h4 hs
  have h2 := tot_small h h4 (pass_in hs)
  have hu := up_pass s L.flatten
  unfold twoG
  cases hg : grewB s (passM s L.flatten)
  · rw [grew_false hu hg]; simp
  · have := grew_true hu hg
    simp; omega
/-- a pool's variable, empty, and the sets' -/
theorem PlAt.nil (w : World) : PlAt w (.agg #[.slice none 0 0, .slice none 0 0, .slice none 0 0]) ⟨[], [], []⟩ := ⟨_, _, _, rfl, .inl ⟨rfl, _, _, rfl⟩, .inl ⟨rfl, _, _, rfl⟩, .inl ⟨rfl, _, _, rfl⟩⟩
theorem Tryz.sizePool : (Tryz.prog.info? 41).map (·.size) = some 3 := by kernel_rfl
set_option maxRecDepth 100000 in
set_option maxHeartbeats 8000000 in
theorem of18_any (L : List (List Itm)) (v : Value) (w : World) (hv : At w (.sl L.length 1 (L.flatMap encSh)) v) (hok : ∀ l ∈ L, okSh l) (h4 : L.length ≤ 4) :
    Calls Tryz.prog 33 #[v] w fun e w' => ∃ pv s, e = .returned pv ∧ PlAt w' pv s ∧ FinU (rulesOf L.flatten) s ∧ Below w.heap.size w w' := by
  obtain ⟨ps, hp, hpl, hsum, hats⟩ := pcs_of hv
  obtain ⟨h5, h6⟩ := okIs_flatten L hok
  have hlen := cntIs_len L.flatten
  have hb1 := below_alloc w (.cells #[.slice none 0 0, .slice none 0 0, .slice none 0 0] 41)
  have hs1 : (w.alloc (.cells #[.slice none 0 0, .slice none 0 0, .slice none 0 0] 41)).heap.size = w.heap.size + 1 := by simp
  obtain ⟨w1, hw1⟩ : ∃ w1, w1 = w.alloc (.cells #[.slice none 0 0, .slice none 0 0, .slice none 0 0] 41) := ⟨_, rfl⟩
  rw [← hw1] at hb1 hs1
  have hn1 : w1.heap[w.heap.size]? = some (.cells #[.slice none 0 0, .slice none 0 0, .slice none 0 0] 41) := by rw [hw1]; exact World.alloc_heap_new _ _
  have hb2 := below_alloc w1 (UO (.slice none 0 0) (.slice none 0 0) (.slice none 0 0))
  have hs2 : (w1.alloc (UO (.slice none 0 0) (.slice none 0 0) (.slice none 0 0))).heap.size = w.heap.size + 2 := by simp [hs1]
  have hU : UAt (w.heap.size + 1) (w.heap.size + 1) ⟨[], [], []⟩ (w1.alloc (UO (.slice none 0 0) (.slice none 0 0) (.slice none 0 0))) := by
    have hnew := World.alloc_heap_new w1 (UO (.slice none 0 0) (.slice none 0 0) (.slice none 0 0))
    rw [hs1] at hnew
    refine ⟨_, _, _, hnew, .inl ⟨rfl, rfl⟩, .inl ⟨rfl, rfl⟩, .inl ⟨rfl, rfl⟩, Nat.le_refl _, fun k hk => ?_, fun k hk => ?_, fun k hk => ?_⟩
    · rcases hk with hk | hk | hk <;> simp [Value.ownBlock] at hk
    · simp [Value.ownBlock] at hk
    · simp [Value.ownBlock] at hk
  obtain ⟨w2, hw2⟩ : ∃ w2, w2 = w1.alloc (UO (.slice none 0 0) (.slice none 0 0) (.slice none 0 0)) := ⟨_, rfl⟩
  have hU0 : w2.heap[w.heap.size + 1]? = some (UO (.slice none 0 0) (.slice none 0 0) (.slice none 0 0)) := by rw [hw2, ← hs1]; exact World.alloc_heap_new _ _
  rw [← hw2] at hb2 hs2 hU
  have hb12 : Below w.heap.size w w2 := bup hb1 hb2
  have HCC := Lib.hid (concatI_any ps v w2 (hp.below hb12) (by omega) (by omega))
  -- what is known behind it
  have hrow : ∀ (w3 : World) (v' : Value), w3.ownsRow w2.heap.size 53 8 v' (sumM ps) (allN ps) → Below w2.heap.size w2 w3 → OfSt (w.heap.size + 1) (w.heap.size + 1) w3.heap.size (rulesOf L.flatten) L.flatten v' ⟨[], [], []⟩ true w1 (w3.alloc (gO true)) := by
    intro w3 v' ho hb3
    have hu3 := hU.below hb3
    have hs3 := hb3.size
    have hz3 : w.heap.size + 1 ≤ w3.heap.size := by omega
    have hb4 := below_alloc w3 (gO true)
    have hst : StG (w.heap.size + 1) (w.heap.size + 1) w3.heap.size ⟨[], [], []⟩ true (w3.alloc (gO true)) :=
      ⟨hu3.below hb4, World.alloc_heap_new _ _, hz3, fun hq => by have := (hu3.own (OwU_below hu3.lt hb4 _ hq)).2; omega⟩
    have hB13 : Below w.heap.size w w3 := bup hb12 hb3
    have hB14 : Below w.heap.size w (w3.alloc (gO true)) := bup hB13 hb4
    refine ⟨hst, inU_nil _, fun h => Bool.noConfusion h, ?_, ?_, Nat.le_trans hz3 hb4.size⟩
    · rw [hsum] at ho
      refine rd_owns ho hb4 ?_ fun b h1 h2 hq => ?_
      · exact VRs_keep (I := fun b => b < w.heap.size) (fun rb h => Nat.lt_succ_of_lt h) (fun rb h => hB14.block rb h) _ hats
      · rcases hq with hq | hq
        · omega
        · rcases (OwU_iff (hb4.block _ (by omega) |>.trans (hb3.block _ (by omega) |>.trans hU0)) b).1 hq with hq | hq
          · omega
          · rcases hq with hq | hq | hq <;> simp [Value.ownBlock] at hq
    · exact (by rw [← hs1]; exact (hb2.trans (hb3.mono (by omega))).trans (hb4.mono (by omega)))
  have HRow := Lib.hid hrow
  have HCN : Hid (cntIs L.flatten ≤ 1000000) := Lib.hid (by omega)
  have HSM := Lib.hid fun s (h : InU (rulesOf L.flatten) s) => sz_of hok h4 h
  have HIT := Lib.hid (itok_of hok)
  have HLE := Lib.hid fun s (h : InU (rulesOf L.flatten) s) => two_less hok h4 h
  have HPI := Lib.hid fun s (h : InU (rulesOf L.flatten) s) => pass_in h
  have HPF := Lib.hid fun s (h : InU (rulesOf L.flatten) s) (hf : passM s L.flatten = s) => pass_fin h hf
  have HN1 := Lib.hid hn1
  have HB1 := Lib.hid hb1
  obtain ⟨av, nv, cv, rfl⟩ : ∃ a n c, v = .slice a n c := by obtain ⟨ad, cap, rfl, -⟩ := At.sl_form hv; exact ⟨_, _, _, rfl⟩
  have HW1 := Lib.hid hw1
  have HS1 := Lib.hid hs1
  clear hrow hv hp hats hok h4 h5 h6 hlen hn1 hb1 hb2 hU hU0 hb12 hsum hpl
  generalize hR : rulesOf L.flatten = R at *
  generalize hI : L.flatten = items at *
  clear hR hI
  go_enter Tryz.func33, Tryz.ntmps33
  go_wp2_with fail
  rw [← HW1.out]
  subst hw2
  unfold UO at HCC HRow
  refine HCC.out.mono ?_
  rintro e w3 ⟨v', rfl, ho, hb3⟩
  have S0 := Lib.hid (HRow.out w3 v' ho hb3)
  obtain ⟨a3, c3, rfl⟩ := owns_slice ho
  clear ho hb3 HCC HRow hs1
  have hst0 : Hid (OfSt (w.heap.size + 1) (w.heap.size + 1) w3.heap.size R items (.slice a3 (sumM ps) c3) ⟨[], [], []⟩ true w1 (w3.alloc (.cells #[.bool true] 4))) := S0
  clear S0
  generalize sumM ps = n3 at *
  go_wp2_with fail
  go_loopg [5] 2000000 (fun gg v5 wr => ∃ (Bg : Nat) (s : S3) (g : Bool), v5 = .pointer (some ⟨Bg, 0, none⟩) ∧ Hid (twoG s g ≤ gg) ∧ Hid (OfSt (w.heap.size + 1) (w.heap.size + 1) Bg R items (.slice a3 n3 c3) s g w1 wr))
  case atStart => exact ⟨_, _, _, rfl, Lib.hid (by decide), hst0⟩
  case round =>
    clear hst0
    obtain ⟨Bg, s, g, rfl, hgg, S⟩ := hrel
    obtain ⟨g1, g2⟩ := gO_cell S.out.st.g
    cases g
    · obtain ⟨va, vb, vc, hu1, hr1, hr2, hr3, -, hu6, -⟩ := S.out.st.u
      obtain ⟨u0, u1, u2⟩ := uO_cells hu1
      have hp0 := (S.out.below.block w.heap.size (Nat.lt_succ_self _)).trans HN1.out
      have p0 : wr.cell? ⟨w.heap.size, 0, none⟩ = some (.slice none 0 0) := by rw [Lib.cell_of_heap hp0]; rfl
      have p1 : wr.cell? ⟨w.heap.size, 1, none⟩ = some (.slice none 0 0) := by rw [Lib.cell_of_heap hp0]; rfl
      have p2 : wr.cell? ⟨w.heap.size, 2, none⟩ = some (.slice none 0 0) := by rw [Lib.cell_of_heap hp0]; rfl
      have f0 := Lib.frozen_of_heap hp0
      obtain ⟨xa, ya, rfl⟩ := hr1.form
      obtain ⟨xb, yb, rfl⟩ := hr2.form
      obtain ⟨xc, yc, rfl⟩ := hr3.form
      have HE : Hid (FinU R s) := Lib.hid (HPF.out s S.out.inu (S.out.fix rfl))
      have hne : ∀ k, OwV (.slice xa s.c.length ya) (.slice xb s.f.length yb) (.slice xc s.g.length yc) k → k ≠ w.heap.size := fun k hk => by have := (hu6 k hk).1; omega
      have HP := Lib.hid fun x y z => And.intro (hr1.set3 x y z fun k hk => hne k (.inl hk)) (And.intro (hr2.set3 x y z fun k hk => hne k (.inr (.inl hk))) (hr3.set3 x y z fun k hk => hne k (.inr (.inr hk))))
      have HH := Lib.hid (S.out.below)
      have HSZ := Lib.hid S.out.size
      have HP0 := Lib.hid hp0
      clear hu1 hr1 hr2 hr3 hp0 S hu6 hne
      go_wp2
      refine bodyPost_ret (results_cell_row rfl _ _ w.heap.size 41 _ (0, 0) _ rfl (set3 _ _ _ HP0.out rfl) Tryz.underlying41 rfl Tryz.sizePool) rfl ?_
      have hB : Below w.heap.size w wr := HB1.out.trans (HH.out.mono (Nat.le_succ _))
      obtain ⟨k1, k2, k3⟩ := HP.out (.slice xa s.c.length ya) (.slice xb s.f.length yb) (.slice xc s.g.length yc)
      exact ⟨_, s, rfl, ⟨_, _, _, rfl, k1.sat, k2.sat, k3.sat⟩, HE.out, below3 _ _ _ hB (Nat.le_refl _)⟩
    · have hz := S.out.size
      obtain ⟨S1, K1⟩ := S.out.st.put false
      have HR1 := S.out.rd.ko K1
      have HI := Lib.hid (inner_any HSM.out _ items (Nat.le_refl _) HCN.out HIT.out _ s false _ HR1 S1 (Nat.le_trans hz K1.below.size) S.out.inu)
      have HK1 := Lib.hid K1
      unfold cloV at HI
      have HRD1 := Lib.hid HR1
      clear S1 K1 HR1
      go_wp2_with fail
      refine HI.out.mono ?_
      rintro e w4 ⟨rfl, hS4, hK4⟩
      rw [Bool.or_false] at hS4
      obtain ⟨g3, g4⟩ := gO_cell hS4.g
      have hz4 : w.heap.size + 1 ≤ w4.heap.size := Nat.le_trans hz (Nat.le_trans HK1.out.below.size hK4.below.size)
      have hOf : OfSt (w.heap.size + 1) (w.heap.size + 1) w4.heap.size R items (.slice a3 n3 c3) (passM s items) (grewB s (passM s items)) w1 (w4.alloc (gO (grewB s (passM s items)))) :=
        { st := hS4.next _ hz4
          inu := HPI.out s S.out.inu
          fix := fun h => by rw [grew_false (up_pass s items) h, grew_false (up_pass s items) h]
          rd := (HRD1.out.ko hK4).next hS4 _ hz4
          below := (S.out.below.trans (HK1.out.below.trans hK4.below)).trans ((below_alloc _ _).mono hz4)
          size := Nat.le_trans hz4 (below_alloc _ _).size }
      have HOF := Lib.hid hOf
      have HLT := Lib.hid (Nat.lt_of_lt_of_le (HLE.out s S.out.inu) hgg.out)
      clear hOf hS4 hK4 hz4 hz HRD1 HK1 HI S hgg g1 g2
      unfold gO at HOF
      generalize passM s items = s' at *
      generalize grewB s s' = q at *
      go_wp2_with fail
      go_roundg (twoG s' q)
      case measure => exact HLT.out
      case rel => exact ⟨_, _, _, rfl, Lib.hid (Nat.le_refl _), HOF⟩
end Go.Proofs.YtlnaihkombcbcaaGreat
end
noncomputable section
namespace Go.Proofs.YtlnaihkombcbcaaGreat
open Go.RowKit Go.Sort Go.Ev
theorem equal_sat {w : World} {v1 v2 : Value} {ss : List Str} (h1 : SAt w v1 ss) (h2 : SAt w v2 ss) (hl : ss.length ≤ 1000000) :
    Calls Tryz.prog 84 #[v1, v2] w fun e w' => e = .returned (.bool true) ∧ ∃ q, w' = w.drewN q := by
  rcases h1 with ⟨h0, a, c, rfl⟩ | ⟨b, off, cap, rfl, g1, g2, g3⟩
  · rcases h2 with ⟨-, a', c', rfl⟩ | ⟨b', off', cap', rfl, g1', g2', g3'⟩
    · refine (Tryz.slices_Equal_string_empty a a' c 0 c' w (by decide)).mono ?_
      rintro e w' ⟨rfl, rfl⟩
      exact ⟨rfl, 0, rfl⟩
    · rw [h0] at g2'; simp at g2'
  · rcases h2 with ⟨h0, a', c', rfl⟩ | ⟨b', off', cap', rfl, g1', g2', g3'⟩
    · rw [h0] at g2; simp at g2
    · have hln : (ss.map bs).length ≤ 9223372036854775807 := by rw [List.length_map]; omega
      have hc : ∀ (b off : Nat) (_ : ∀ j (hj : j < (ss.map bs).length), w.cell? ⟨b, off + j, none⟩ = some (.string (ss.map bs)[j])) j, j < (ss.map bs).length → w.cell? ⟨b, off + j, none⟩ = some (.string ((ss.map bs).getD j ByteArray.empty)) := fun b off h j hj => by
        rw [h j hj, List.getD_eq_getElem?_getD, List.getElem?_eq_getElem hj]; rfl
      refine (Tryz.slices_Equal_string b off (ss.map bs).length cap b' off' (ss.map bs).length cap' (ss.map bs) (ss.map bs) w (Nat.le_refl _) (Nat.le_refl _) hln hln (hc _ _ g3) (hc _ _ g3')).mono ?_
      rintro e w' ⟨rfl, q, rfl⟩
      exact ⟨by simp, q, rfl⟩
def smallS (s : S3) : Prop := s.c.length ≤ 1000000 ∧ s.f.length ≤ 1000000 ∧ s.g.length ≤ 1000000
theorem plBox_cells {W : World} {B : Nat} {va vb vc : Value} (h : W.heap[B]? = some (.cells #[va, vb, vc] 41)) : W.cell? ⟨B, 0, none⟩ = some va ∧ W.cell? ⟨B, 1, none⟩ = some vb ∧ W.cell? ⟨B, 2, none⟩ = some vc := by
  refine ⟨?_, ?_, ?_⟩ <;> (rw [Lib.cell_of_heap h]; rfl)
set_option maxRecDepth 100000 in
set_option maxHeartbeats 2000000 in
theorem psame_any {s : S3} {v1 v2 : Value} {w : World} (h1 : PlAt w v1 s) (h2 : PlAt w v2 s) (hs : smallS s) :
    Calls Tryz.prog 32 #[v1, v2] w fun e w' => e = .returned (.bool true) ∧ Below w.heap.size w w' := by
  obtain ⟨ua, ub, uc, rfl, g1, g2, g3⟩ := h1
  obtain ⟨va, vb, vc, rfl, k1, k2, k3⟩ := h2
  obtain ⟨s1, s2, s3⟩ := hs
  obtain ⟨W2, hW2⟩ : ∃ W2, W2 = (w.alloc (.cells #[ua, ub, uc] 41)).alloc (.cells #[va, vb, vc] 41) := ⟨_, rfl⟩
  have hB : Below w.heap.size w W2 := by rw [hW2]; exact ((Below.refl _ w).alloc (Nat.le_refl _) _).alloc (by simp) _
  have hx : W2.heap[w.heap.size]? = some (.cells #[ua, ub, uc] 41) := by
    rw [hW2, Below.heap_alloc _ _ _ (by simp)]; exact World.alloc_heap_new _ _
  have hy : W2.heap[w.heap.size + 1]? = some (.cells #[va, vb, vc] 41) := by
    have := World.alloc_heap_new (w.alloc (.cells #[ua, ub, uc] 41)) (.cells #[va, vb, vc] 41)
    rw [hW2]; simpa using this
  have HX := Lib.hid fun (W : World) (h : ∃ q, W = W2.drewN q) => show W.heap[w.heap.size]? = some (.cells #[ua, ub, uc] 41) ∧ W.heap[w.heap.size + 1]? = some (.cells #[va, vb, vc] 41) from by
    obtain ⟨q, rfl⟩ := h
    exact ⟨hx, hy⟩
  have HB := Lib.hid fun (W : World) (h : ∃ q, W = W2.drewN q) => show Below w.heap.size w W from by
    obtain ⟨q, rfl⟩ := h
    exact below_drewN hB q
  have C1 := Lib.hid (equal_sat (g1.below hB) (k1.below hB) s1)
  have C2 := Lib.hid fun (W : World) (h : ∃ q, W = W2.drewN q) => equal_sat (g2.below (HB.out W h)) (k2.below (HB.out W h)) s2
  have C3 := Lib.hid fun (W : World) (h : ∃ q, W = W2.drewN q) => equal_sat (g3.below (HB.out W h)) (k3.below (HB.out W h)) s3
  obtain ⟨p0, p1, p2⟩ := plBox_cells hx
  obtain ⟨q0, q1, q2⟩ := plBox_cells hy
  obtain ⟨ua1, ua2, ua3, rfl⟩ := g1.form
  obtain ⟨ub1, ub2, ub3, rfl⟩ := g2.form
  obtain ⟨uc1, uc2, uc3, rfl⟩ := g3.form
  obtain ⟨va1, va2, va3, rfl⟩ := k1.form
  obtain ⟨vb1, vb2, vb3, rfl⟩ := k2.form
  obtain ⟨vc1, vc2, vc3, rfl⟩ := k3.form
  rw [hW2] at p0 q0
  have HW := Lib.hid hW2
  clear g1 g2 g3 k1 k2 k3 s1 s2 s3 hB hx hy hW2
  go_enter Tryz.func32, Tryz.ntmps32
  go_wp2_with fail
  rw [← HW.out]
  refine C1.out.mono ?_
  rintro e w1 ⟨rfl, hq1⟩
  obtain ⟨b1, b2⟩ := HX.out w1 hq1
  obtain ⟨-, p1', p2'⟩ := plBox_cells b1
  obtain ⟨-, q1', q2'⟩ := plBox_cells b2
  have C2' := Lib.hid (C2.out w1 hq1)
  clear p0 p1 p2 q0 q1 q2 b1 b2
  go_wp2_with fail
  refine C2'.out.mono ?_
  rintro e w2 ⟨rfl, hq2⟩
  have hq3 : ∃ q, w2 = W2.drewN q := by
    obtain ⟨a, rfl⟩ := hq1
    obtain ⟨b, rfl⟩ := hq2
    exact ⟨a + b, by rw [World.drewN_drewN]⟩
  obtain ⟨b1, b2⟩ := HX.out w2 hq3
  obtain ⟨-, p1'', p2''⟩ := plBox_cells b1
  obtain ⟨-, q1'', q2''⟩ := plBox_cells b2
  have C3' := Lib.hid (C3.out w2 hq3)
  have HB3 := Lib.hid (HB.out w2 hq3)
  clear p1' p2' q1' q2' b1 b2 hq1 hq2
  go_wp2_with fail
  refine C3'.out.mono ?_
  rintro e w3 ⟨rfl, q, rfl⟩
  go_wp2
  go_ret
  exact ⟨rfl, below_drewN HB3.out q⟩
end Go.Proofs.YtlnaihkombcbcaaGreat
end
