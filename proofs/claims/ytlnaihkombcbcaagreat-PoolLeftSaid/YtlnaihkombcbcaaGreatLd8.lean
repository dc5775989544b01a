/- winnowinglaw18.PoolGrows, walked. -/
import Derived.Test.YtlnaihkombcbcaaGreatLd7
import Derived.Test.YtlnaihkombcbcaaGreatLd6
import Derived.Test.YtlnaihkombcbcaaGreatLd5
import Derived.Test.YtlnaihkombcbcaaGreatLd2
import Derived.Test.YtlnaihkombcbcaaGreatLd4
noncomputable section
namespace Go.Proofs.YtlnaihkombcbcaaGreat
open Go.RowKit Go.Sort Go.Ev
theorem owns_src {w : World} {B : Nat} {e : TypeId} {sz n : Nat} {v : Value} {news : List Value} (h : w.ownsRow B e sz v n news) (h1 : ∀ u ∈ news, u.oneCell' = true) : SrcN w v n sz news := by
 have hl := h.1
 rcases h.2 with ⟨rfl, h0⟩ | ⟨g, cap, cur, rfl, -, hg, hc, -, -, ht⟩
 ·subst h0
  exact .inl ⟨0, rfl, rfl, List.eq_nil_of_length_eq_zero (by omega)⟩
 ·refine .inr ⟨_, _, rfl, hl, fun j u hj => ?_, h1⟩
  rw [Addr.add_lit, Nat.zero_add, Lib.cell_of_heap hg]
  have hlt : j < n * sz := by rw [← hl]; exact (List.getElem?_eq_some_iff.1 hj).1
  rw [← ht, List.getElem?_take, if_pos hlt] at hj
  simpa using hj
def gZ (z : Nat) : Gh := ⟨fun _ => none, fun b => b < z⟩
def RowZ (z B : Nat) (w : World) (v : Value) (l : List Itm) : Prop := ∃ news, w.ownsRow B 53 8 v l.length news ∧ VRs w (gZ z) (l.flatMap encI) news
theorem RowZ.below {z B : Nat} {w w' : World} {v : Value} {l : List Itm} (h : RowZ z B w v l) (hz : z ≤ w.heap.size) (hb : Below w.heap.size w w') : RowZ z B w' v l := by
 obtain ⟨news, h1, h2⟩ := h
 exact ⟨news, owns_below h1 hb, VRs_keep (I := (gZ z).I) (I' := (gZ z).I) (fun _ h => h) (fun rb hr => hb.block rb (Nat.lt_of_lt_of_le hr hz)) _ h2⟩
theorem RowZ.form {z B : Nat} {w : World} {v : Value} {l : List Itm} (h : RowZ z B w v l) : ∃ a c, v = .slice a l.length c := by
 obtain ⟨news, h1, -⟩ := h
 exact owns_slice h1
theorem RowZ.cells {z B : Nat} {w : World} {v : Value} {l : List Itm} (h : RowZ z B w v l) : (l = [] ∧ ∃ a c, v = .slice a 0 c) ∨ ∃ g cap, v = .slice (some ⟨g, 0, none⟩) l.length cap ∧ l.length ≤ cap ∧ 0 < l.length ∧ B ≤ g ∧ g < w.heap.size ∧
 ∀ k (hk : k < l.length) j a, (encI l[k])[j]? = some a → ∃ x, w.cell? ⟨g, 0 + (k * 8 + j), none⟩ = some x ∧ AtB z w a x := by
 obtain ⟨news, h1, h2⟩ := h
 by_cases hl : l = []
 ·subst hl
  obtain ⟨a, c, rfl⟩ := owns_slice h1
  exact .inl ⟨rfl, a, c, rfl⟩
 ·have hpos : 0 < l.length := List.length_pos_iff.2 hl
  rcases h1.2 with ⟨rfl, h0⟩ | ⟨g, cap, cur, rfl, hgB, hg, hc, -, -, ht⟩
  ·omega
  ·refine .inr ⟨g, cap, rfl, hc, hpos, hgB, (Array.getElem?_eq_some_iff.1 hg).1, fun k hk j a hj => ?_⟩
   have hjs : j < 8 := by have := (List.getElem?_eq_some_iff.1 hj).1; rw [encI_len] at this; exact this
   have hfl := flat_get encI 8 encI_len l k hk j hjs
   rw [hj] at hfl
   obtain ⟨v, e1, e2⟩ := VRs.get h2 hfl
   refine ⟨v, ?_, e2⟩
   rw [Nat.zero_add, Lib.cell_of_heap hg]
   have hlt : k * 8 + j < l.length * 8 := by omega
   rw [← ht, List.getElem?_take, if_pos hlt] at e1
   simpa using e1
theorem vrsB_item {z : Nat} {W : World} {x : Itm} {a1 a2 a3 a6 a7 : Option Addr} {c1 c2 c3 c6 c7 : Nat} (h : ItB z W x a1 c1 a2 c2 a3 c3 a6 c6 a7 c7) :
 VRs W (gZ z) (encI x) [.int .i64 x.kind, .slice a1 x.sels.length c1, .slice a2 x.decls.length c2, .slice a3 x.names.length c3, .int .i64 x.mn, .int .i64 x.mx, .slice a6 x.vals.length c6, .slice a7 x.l.length c7] := vrs_item h.s h.d h.n h.v h.l
def AllPost (l : List Itm) (z : Nat) (w : World) (e : Ending) (w' : World) : Prop := ∃ a c, e = .returned (.slice a (flatIs l).length c) ∧ RowZ z w.heap.size w' (.slice a (flatIs l).length c) (flatIs l) ∧ Below w.heap.size w w'
set_option maxRecDepth 100000 in
set_option maxHeartbeats 8000000 in
theorem all_any (z : Nat) (N : Nat) : ∀ (l : List Itm), SizeOf.sizeOf l ≤ N → okIs l → cntIs l ≤ 1000 → ∀ (v : Value) (w : World), AtB z w (.sl l.length 8 (l.flatMap encI)) v → z ≤ w.heap.size →
 Calls Tryz.prog 40 #[v] w (AllPost l z w) := by
 induction N with
 | zero => intro l hl; cases l <;> simp at hl <;> omega
 | succ N ih =>
   intro l hl hok hcn v w hv hz
   obtain ⟨i0, hi, hz0, hz1, hz2⟩ := info_parts Tryz.infoItem
   have hlen : l.length ≤ 1000 := Nat.le_trans (cntIs_len l) hcn
   have hO := World.ownsRow_lit (base := w.heap.size) (e := 53) (size := 8) w #[] 0 (Nat.le_refl _) (by decide) rfl
   have R0 : Hid (RowZ z w.heap.size (w.alloc (.cells #[] 53)) (.slice (some ⟨w.heap.size, 0, none⟩) 0 0) [] ∧ Below w.heap.size w (w.alloc (.cells #[] 53))) := Lib.hid ⟨⟨[], hO, by rw [List.flatMap_nil, VRs]⟩, below_alloc _ _⟩
   have hf0 : flatIs [] = [] := by rw [flatIs]
   clear hO
   rcases slB_cells encI 8 encI_len (by decide) hv with ⟨rfl, ad, cap, rfl⟩ | ⟨b, o, cap, rfl, hcap, hpos, hbz, hc⟩
   ·have HF := Lib.hid hf0
    clear ih hl hok hcn hv hz hf0
    go_enter Tryz.func40, Tryz.ntmps40
    go_wp2
    go_loopw [3, 4] (fun v3 i wr => i = .int .i64 0 ∧ v3 = .slice (some ⟨w.heap.size, 0, none⟩) 0 0 ∧ wr = w.alloc (.cells #[] 53)) (fun _ _ _ => 0)
    case atStart => exact ⟨rfl, rfl, rfl⟩
    case round =>
     obtain ⟨rfl, rfl, rfl⟩ := hrel
     go_wp2
     go_ret
     refine ⟨some ⟨w.heap.size, 0, none⟩, 0, by rw [HF.out]; rfl, ?_, R0.out.2⟩
     rw [HF.out]; exact R0.out.1
   ·have IH := Lib.hid fun k (hk : k < l.length) => ih l[k].l (by have := itm_lt (List.getElem_mem hk); omega) ((okI_eq _).1 (okIs_at hok _ (List.getElem_mem hk))).2.2.2.2 (by have := cntIs_at hk; omega)
    have HC := Lib.hid fun k (hk : k < l.length) => itB_cells hc hk
    have HSN := Lib.hid fun k (hk : k < l.length) => (flatIs_snoc hk).trans (congrArg _ (flatI_eq l[k]))
    have HLE : Hid (∀ k, (flatIs (l.take k)).length ≤ 1000) := Lib.hid fun k => by
     have h1 := (flatIs_ok l hok).1
     have h2 := flatIs_append (l.take k) (l.drop k)
     rw [List.take_append_drop] at h2
     have h3 := congrArg List.length h2
     rw [List.length_append] at h3
     omega
    have HLI := Lib.hid fun k (hk : k < l.length) => (flatIs_ok l[k].l ((okI_eq _).1 (okIs_at hok _ (List.getElem_mem hk))).2.2.2.2).1
    have HLC := Lib.hid fun k (hk : k < l.length) => show cntIs l[k].l ≤ 1000 from by have := cntIs_at hk; omega
    have HZ := Lib.hid hz
    have HF := Lib.hid hf0
    clear ih hl hok hcn hv hz hc hf0
    go_enter Tryz.func40, Tryz.ntmps40
    go_wp2
    go_loopw [3, 4] (fun v3 i wr => ∃ (k : Nat) (oa : Option Addr) (oc : Nat), k ≤ l.length ∧ i = .int .i64 k ∧ v3 = .slice oa (flatIs (l.take k)).length oc ∧ Hid (RowZ z w.heap.size wr (.slice oa (flatIs (l.take k)).length oc) (flatIs (l.take k)) ∧ Below w.heap.size w wr)) (fun _ i _ => l.length - (intOf i).toNat)
    case atStart => exact ⟨0, _, _, Nat.zero_le _, rfl, by rw [List.take_zero, HF.out]; rfl, by rw [List.take_zero, HF.out]; exact R0⟩
    case round =>
     clear R0
     obtain ⟨k, oa, oc, hk, rfl, rfl, D⟩ := hrel
     by_cases hlt : k < l.length
     ·obtain ⟨a1, c1, a2, c2, a3, c3, a6, c6, a7, c7, y0, y1, y2, y3, y4, y5, y6, y7, g1, g2, g3, g6, g7⟩ := HC.out k hlt
      have hB := D.out.2
      have hBz : Below z w wr := hB.mono HZ.out
      have hzr : z ≤ wr.heap.size := Nat.le_trans HZ.out hB.size
      have y0' := (hBz.cell (p := ⟨b, o + k * 8, none⟩) hbz).trans y0
      have y1' := (hBz.cell (p := ⟨b, o + k * 8 + 1, none⟩) hbz).trans y1
      have y2' := (hBz.cell (p := ⟨b, o + k * 8 + 2, none⟩) hbz).trans y2
      have y3' := (hBz.cell (p := ⟨b, o + k * 8 + 3, none⟩) hbz).trans y3
      have y4' := (hBz.cell (p := ⟨b, o + k * 8 + 4, none⟩) hbz).trans y4
      have y5' := (hBz.cell (p := ⟨b, o + k * 8 + 5, none⟩) hbz).trans y5
      have y6' := (hBz.cell (p := ⟨b, o + k * 8 + 6, none⟩) hbz).trans y6
      have y7' := (hBz.cell (p := ⟨b, o + k * 8 + 7, none⟩) hbz).trans y7
      have hba := below_alloc wr (.cells #[.int .i64 l[k].kind, .slice a1 l[k].sels.length c1, .slice a2 l[k].decls.length c2, .slice a3 l[k].names.length c3, .int .i64 l[k].mn, .int .i64 l[k].mx, .slice a6 l[k].vals.length c6, .slice a7 l[k].l.length c7] 53)
      have hn4 := World.alloc_heap_new wr (.cells #[.int .i64 l[k].kind, .slice a1 l[k].sels.length c1, .slice a2 l[k].decls.length c2, .slice a3 l[k].names.length c3, .int .i64 l[k].mn, .int .i64 l[k].mx, .slice a6 l[k].vals.length c6, .slice a7 l[k].l.length c7] 53)
      obtain ⟨news, hr, hv⟩ := D.out.1.below hzr hba
      have hsrc : SrcN (wr.alloc (.cells #[.int .i64 l[k].kind, .slice a1 l[k].sels.length c1, .slice a2 l[k].decls.length c2, .slice a3 l[k].names.length c3, .int .i64 l[k].mn, .int .i64 l[k].mx, .slice a6 l[k].vals.length c6, .slice a7 l[k].l.length c7] 53)) (.slice (some ⟨wr.heap.size, 0, none⟩) 1 1) 1 8 [.int .i64 l[k].kind, .slice a1 l[k].sels.length c1, .slice a2 l[k].decls.length c2, .slice a3 l[k].names.length c3, .int .i64 l[k].mn, .int .i64 l[k].mx, .slice a6 l[k].vals.length c6, .slice a7 l[k].l.length c7] :=
       .inr ⟨_, _, rfl, rfl, list8_cells hn4, by simp [Value.oneCell']⟩
      have hsz1 : w.heap.size ≤ (wr.alloc (.cells #[.int .i64 l[k].kind, .slice a1 l[k].sels.length c1, .slice a2 l[k].decls.length c2, .slice a3 l[k].names.length c3, .int .i64 l[k].mn, .int .i64 l[k].mx, .slice a6 l[k].vals.length c6, .slice a7 l[k].l.length c7] 53)).heap.size := Nat.le_trans hB.size hba.size
      have hC1 : Below w.heap.size w (wr.alloc (.cells #[.int .i64 l[k].kind, .slice a1 l[k].sels.length c1, .slice a2 l[k].decls.length c2, .slice a3 l[k].names.length c3, .int .i64 l[k].mn, .int .i64 l[k].mx, .slice a6 l[k].vals.length c6, .slice a7 l[k].l.length c7] 53)) := bup hB hba
      have hItw : ItB z w l[k] a1 c1 a2 c2 a3 c3 a6 c6 a7 c7 := ⟨g1, g2, g3, g6, g7⟩
      have HN1 := Lib.hid fun (v' : Value) (W : World) (h1 : W.ownsRow w.heap.size 53 8 v' ((flatIs (l.take k)).length + 1) (news ++ [.int .i64 l[k].kind, .slice a1 l[k].sels.length c1, .slice a2 l[k].decls.length c2, .slice a3 l[k].names.length c3, .int .i64 l[k].mn, .int .i64 l[k].mx, .slice a6 l[k].vals.length c6, .slice a7 l[k].l.length c7])) (hW : Below w.heap.size w W) => show RowZ z w.heap.size W v' (flatIs (l.take k) ++ [l[k]]) from by
       refine ⟨_, by rw [List.length_append]; exact h1, ?_⟩
       rw [List.flatMap_append, List.flatMap_cons, List.flatMap_nil, List.append_nil]
       have h2 : VRs w (gZ z) ((flatIs (l.take k)).flatMap encI) news := VRs_keep (I := (gZ z).I) (I' := (gZ z).I) (fun _ h => h) (fun rb h => (hC1.block rb (Nat.lt_of_lt_of_le h HZ.out)).symm) _ hv
       exact (VRs_keep (I := (gZ z).I) (I' := (gZ z).I) (fun _ h => h) (fun rb h => hW.block rb (Nat.lt_of_lt_of_le h HZ.out)) _ h2).append (VRs_keep (I := (gZ z).I) (I' := (gZ z).I) (fun _ h => h) (fun rb h => hW.block rb (Nat.lt_of_lt_of_le h HZ.out)) _ (vrsB_item hItw))
      have HLT := Lib.hid (fun g (e : (Value.slice oa (flatIs (l.take k)).length oc).ownBlock = some g) => (hr.lt g e).1)
      have HREC := Lib.hid fun (W : World) (hW : Below w.heap.size w W) => IH.out k hlt (.slice a7 l[k].l.length c7) W (g7.below (hW.mono HZ.out)) (Nat.le_trans HZ.out hW.size)
      have HSNk := Lib.hid (HSN.out k hlt)
      have HL7 := Lib.hid g7
      have hle1 := HLE.out k
      have hle2 := HLI.out k hlt
      have hle3 := HLC.out k hlt
      have HB := Lib.hid hC1
      clear g1 g2 g3 g6 g7 y1 y2 y3 y4 y5 y6 hba hn4 hItw hv D hB hBz
      go_wp2_with (at_builtin; refine wpList_append_srcN rfl _ _ 46 rfl w.heap.size 53 i0 _ 8 144 Tryz.underlying46 hi hz0 hz1 hz2 rfl (by decide) _ _ _ rfl hr _ 1 _ rfl hsrc (by unfold maxLen; omega) (by omega) hsz1 ?_)
      intro v' w5 hown5 hgrow5
      have hC5 := HB.out.grown hgrow5 hsz1 (fun g e => HLT.out g e)
      have R5 := HN1.out v' w5 hown5 hC5
      obtain ⟨oa', oc', rfl⟩ := owns_slice hown5
      have z0 := ((hC5.mono HZ.out).cell (p := ⟨b, o + k * 8, none⟩) hbz).trans y0
      have z7 := ((hC5.mono HZ.out).cell (p := ⟨b, o + k * 8 + 7, none⟩) hbz).trans y7
      have HC5 := Lib.hid hC5
      have HR5 := Lib.hid R5
      have HQ := Lib.hid (HREC.out w5 hC5)
      have HK : Hid (flatIs (l.take (k + 1)) = flatIs (l.take k) ++ l[k] :: (if l[k].kind = 2 ∨ l[k].kind = 3 then flatIs l[k].l else [])) := HSNk
      clear y0 y7 y0' y1' y2' y3' y4' y5' y6' y7' hown5 hgrow5 hC5 R5 hr hsrc HN1 HLT HREC HB HL7 HSNk
      generalize l[k].kind = kd at *
      by_cases hkk : kd = 2 ∨ kd = 3
      ·have HKE : Hid (flatIs (l.take (k + 1)) = (flatIs (l.take k) ++ [l[k]]) ++ flatIs l[k].l) := Lib.hid (by rw [HK.out, if_pos hkk]; simp)
       clear HK
       rcases hkk with rfl | rfl
       all_goals
        go_wp2_with fail
        refine HQ.out.mono ?_
        rintro e w6 ⟨a6', c6', rfl, hR6, hB6⟩
        have hC6 := bup HC5.out hB6
        obtain ⟨news6, hr6, hv6⟩ := hR6
        have hs6 := owns_src hr6 (VRs.oneCells hv6 (cells_flatI _))
        obtain ⟨news5, hr5, hv5⟩ := HR5.out.below (Nat.le_trans HZ.out HC5.out.size) hB6
        have hsz6 := hC6.size
        have HN2 := Lib.hid fun (v' : Value) (W : World) (h1 : W.ownsRow w.heap.size 53 8 v' ((flatIs (l.take k) ++ [l[k]]).length + (flatIs l[k].l).length) (news5 ++ news6)) (hW : Below w.heap.size w6 W) => show RowZ z w.heap.size W v' ((flatIs (l.take k) ++ [l[k]]) ++ flatIs l[k].l) from by
         refine ⟨_, by rw [List.length_append]; exact h1, ?_⟩
         rw [List.flatMap_append]
         exact (VRs_keep (I := (gZ z).I) (I' := (gZ z).I) (fun _ h => h) (fun rb h => hW.block rb (Nat.lt_of_lt_of_le h HZ.out)) _ hv5).append (VRs_keep (I := (gZ z).I) (I' := (gZ z).I) (fun _ h => h) (fun rb h => hW.block rb (Nat.lt_of_lt_of_le h HZ.out)) _ hv6)
        have HLT := Lib.hid (fun g (e : (Value.slice oa' ((flatIs (l.take k)).length + 1) oc').ownBlock = some g) => (hr5.lt g e).1)
        have HC6 := Lib.hid hC6
        have hr5' : w6.ownsRow w.heap.size 53 8 (.slice oa' ((flatIs (l.take k)).length + 1) oc') ((flatIs (l.take k)).length + 1) news5 := by simpa using hr5
        have hle4 : (flatIs l[k].l).length ≤ 1000 := by omega
        clear hv5 hv6 hr6 hr5 HQ hB6 hC6 z0 z7
        go_wp2_with (at_builtin; refine wpList_append_srcN rfl _ _ 46 rfl w.heap.size 53 i0 _ 8 144 Tryz.underlying46 hi hz0 hz1 hz2 rfl (by decide) _ _ _ rfl hr5' _ (flatIs l[k].l).length _ rfl hs6 (by unfold maxLen; omega) (by omega) hsz6 ?_)
        intro v' w7 hown7 hgrow7
        have hD7 : Below w.heap.size w6 w7 := (Below.refl _ _).grown hgrow7 hsz6 (fun g e => HLT.out g e)
        obtain ⟨oa9, oc9, rfl⟩ := owns_slice hown7
        have HE := Lib.hid (And.intro (HN2.out _ w7 (by rw [List.length_append]; exact hown7) hD7) (HC6.out.trans hD7))
        clear hown7 hgrow7 hD7 hs6 hr5' HN2
        go_wp2
        go_roundw
        case rel => exact ⟨k + 1, oa9, oc9, by omega, by go_num, by rw [HKE.out, List.length_append, List.length_append]; rfl, by rw [HKE.out, List.length_append, List.length_append]; exact HE⟩
        case measure => simp [intOf]; omega
      ·have HKE : Hid (flatIs (l.take (k + 1)) = flatIs (l.take k) ++ [l[k]]) := Lib.hid (by rw [HK.out, if_neg hkk])
       obtain ⟨hk2, hk3⟩ := not_or.1 hkk
       have e2 : (kd == 2) = false := beq_eq_false_iff_ne.2 hk2
       have e3 : (kd == 3) = false := beq_eq_false_iff_ne.2 hk3
       clear HK hkk HQ hk2 hk3
       go_wp2_with fail
       go_roundw
       case rel => exact ⟨k + 1, oa', oc', by omega, by go_num, by rw [HKE.out, List.length_append]; rfl, by rw [HKE.out, List.length_append]; exact Lib.hid ⟨HR5.out, HC5.out⟩⟩
       case measure => simp [intOf]; omega
     ·obtain rfl : k = l.length := by omega
      have hD := D.out
      rw [List.take_length] at hD
      have HE := Lib.hid hD
      clear D hD
      rw [List.take_length]
      go_wp2
      go_ret
      exact ⟨oa, oc, rfl, HE.out.1, HE.out.2⟩
end Go.Proofs.YtlnaihkombcbcaaGreat
end
noncomputable section
namespace Go.Proofs.YtlnaihkombcbcaaGreat
open Go.RowKit Go.Sort Go.Ev
def usedP (p : S3) (x : Itm) : Prop := (x.kind = 1 → ∀ d ∈ x.decls, kpD p.c d = true) ∧ (x.kind = 5 → kpF p.f x.names = true) ∧ (x.kind = 6 → kpG p.g x.kind x.decls = true)
theorem kp_used {p : S3} {x y : Itm} (h : Kp p x y) : usedP p y := by
 cases h with
 | same h1 h2 h3 h5 h6 => exact ⟨fun e => absurd e h1, h5, h6⟩
 | rule h1 hne =>
   refine ⟨fun _ d hd => (List.mem_filter.1 hd).2, fun e => ?_, fun e => ?_⟩
   ·exact absurd (show x.kind = 5 from e) (by omega)
   ·exact absurd (show x.kind = 6 from e) (by omega)
 | block hk hne =>
   refine ⟨fun e => ?_, fun e => ?_, fun e => ?_⟩
   ·exact absurd (show x.kind = 1 from e) (by omega)
   ·exact absurd (show x.kind = 5 from e) (by omega)
   ·exact absurd (show x.kind = 6 from e) (by omega)
 | layer hk he =>
   refine ⟨fun e => ?_, fun e => ?_, fun e => ?_⟩
   ·exact absurd (show (4 : Int) = 1 from e) (by omega)
   ·exact absurd (show (4 : Int) = 5 from e) (by omega)
   ·exact absurd (show (4 : Int) = 6 from e) (by omega)
theorem drop_used (p : S3) (N : Nat) : ∀ (l : List Itm), SizeOf.sizeOf l ≤ N → ∀ x ∈ flatIs (dropIs p l), usedP p x := by
 induction N with
 | zero => intro l hl; cases l <;> simp at hl <;> omega
 | succ N ihN =>
   intro l hl
   have key : ∀ (a : List Itm), (∀ x ∈ a, SizeOf.sizeOf x.l ≤ N) → ∀ x ∈ flatIs (dropIs p a), usedP p x := by
    intro a ha
    induction a with
    | nil => intro x hx; rw [dropIs_nil, flatIs] at hx; simp at hx
    | cons y a ih =>
      intro x hx
      have h2 := ih fun z hz => ha z (List.mem_cons_of_mem _ hz)
      cases h : keepI p y with
      | none => rw [dropIs_none h] at hx; exact h2 x hx
      | some y' =>
        rw [dropIs_some h, flatIs] at hx
        rcases List.mem_append.1 hx with hx | hx
        ·have hk := kp_of h
         rw [flatI_eq] at hx
         rcases List.mem_cons.1 hx with rfl | hx
         ·exact kp_used hk
         ·have h9 := ihN _ (ha y List.mem_cons_self)
          cases hk with
          | same h1 h2 h3 h5 h6 => rw [if_neg (by omega)] at hx; simp at hx
          | rule h1 hne =>
            have hx : x ∈ (if y.kind = 2 ∨ y.kind = 3 then flatIs y.l else []) := hx
            rw [if_neg (by omega)] at hx; simp at hx
          | block hk hne =>
            have hx : x ∈ (if y.kind = 2 ∨ y.kind = 3 then flatIs (dropIs p y.l) else []) := hx
            rw [if_pos hk] at hx; exact h9 x hx
          | layer hk he =>
            have hx : x ∈ (if (4 : Int) = 2 ∨ (4 : Int) = 3 then flatIs [] else []) := hx
            rw [if_neg (by omega)] at hx; simp at hx
        ·exact h2 x hx
   exact key l fun x hx => by have := itm_lt hx; omega
theorem left_used (p : S3) (l : List Itm) : ∀ x ∈ flatIs (dropIs p l), usedP p x := drop_used p _ l (Nat.le_refl _)
theorem okDs_filter {l : List Dl} {f : Dl → Bool} (h : okDs l) : okDs (l.filter f) :=
 ⟨Nat.le_trans (List.length_filter_le _ _) h.1, fun d hd => h.2 d (List.mem_filter.1 hd).1⟩
theorem drop_ok (p : S3) (N : Nat) : ∀ (l : List Itm), SizeOf.sizeOf l ≤ N → okIs l → okIs (dropIs p l) ∧ cntIs (dropIs p l) ≤ cntIs l := by
 induction N with
 | zero => intro l hl; cases l <;> simp at hl <;> omega
 | succ N ihN =>
   intro l hl hok
   have key : ∀ (a : List Itm), (∀ x ∈ a, SizeOf.sizeOf x.l ≤ N) → okIs a → okIs (dropIs p a) ∧ cntIs (dropIs p a) ≤ cntIs a := by
    intro a ha hoa
    induction a with
    | nil => rw [dropIs_nil]; exact ⟨hoa, Nat.le_refl _⟩
    | cons y a ih =>
      have hy : okI y := okIs_at hoa y List.mem_cons_self
      have hoa2 : okIs a := ((okIs_append [y] a).1 hoa).2
      obtain ⟨h2, h3⟩ := ih (fun z hz => ha z (List.mem_cons_of_mem _ hz)) hoa2
      cases h : keepI p y with
      | none => rw [dropIs_none h, cntIs]; exact ⟨h2, by omega⟩
      | some y' =>
        have hk := kp_of h
        obtain ⟨g1, g2, g3, g4, g5⟩ := (okI_eq y).1 hy
        obtain ⟨g6, g7⟩ := ihN _ (ha y List.mem_cons_self) g5
        have key2 : okI y' ∧ cntI y' ≤ cntI y := by
         cases hk with
         | same => exact ⟨hy, Nat.le_refl _⟩
         | rule h1 hne => exact ⟨(okI_eq _).2 ⟨okDs_filter g1, g2, g3, g4, g5⟩, by rw [cntI_eq, cntI_eq]; exact Nat.le_refl _⟩
         | block hk hne => exact ⟨(okI_eq _).2 ⟨g1, g2, g3, g4, g6⟩, by rw [cntI_eq, cntI_eq]; exact Nat.add_le_add_left g7 1⟩
         | layer hk he =>
           refine ⟨(okI_eq _).2 ⟨⟨by simp [Itm.decls], by simp [Itm.decls]⟩, g2, by simp [Itm.vals, cntVs], rfl, trivial⟩, ?_⟩
           rw [cntI_eq, cntI_eq]
           show 1 + cntIs [] ≤ _
           rw [cntIs]; omega
        rw [dropIs_some h]
        refine ⟨(okIs_append [y'] _).2 ⟨?_, h2⟩, ?_⟩
        ·rw [okIs]; exact ⟨key2.1, by rw [okIs]; trivial⟩
        ·rw [cntIs, cntIs]; exact Nat.add_le_add key2.2 h3
   exact key l (fun x hx => by have := itm_lt hx; omega) hok
theorem left_ok (p : S3) {l : List Itm} (h : okIs l) : okIs (dropIs p l) ∧ cntIs (dropIs p l) ≤ cntIs l := drop_ok p _ l (Nat.le_refl _) h
end Go.Proofs.YtlnaihkombcbcaaGreat
end
noncomputable section
namespace Go.Proofs.YtlnaihkombcbcaaGreat
open Go.RowKit Go.Sort Go.Ev
section
variable {p : S3} {x : Itm} {z : Nat} {va vb vc : Value} {a1 a2 a3 a6 a7 : Option Addr} {n1 n2 n3 n6 n7 c1 c2 c3 c6 c7 : Nat} {w : World}
structure USt (B : Nat) (o1 o2 : Obj) (w W : World) : Prop where
 below : Below B w W
 p : W.heap[B]? = some o1
 x : W.heap[B + 1]? = some o2
 size : B + 2 ≤ W.heap.size
theorem USt.step {B : Nat} {o1 o2 : Obj} {w W W' : World} (h : USt B o1 o2 w W) (hb : Below (B + 2) W W') : USt B o1 o2 w W' :=
 ⟨h.below.trans (hb.mono (by omega)), (hb.block _ (by omega)).trans h.p, (hb.block _ (by omega)).trans h.x, Nat.le_trans h.size hb.size⟩
theorem USt.new (w : World) (o1 o2 : Obj) : USt w.heap.size o1 o2 w ((w.alloc o1).alloc o2) := by
 have s1 : (w.alloc o1).heap.size = w.heap.size + 1 := by simp
 refine ⟨(((Below.refl _ w).alloc (Nat.le_refl _) _).alloc (by omega) _), ?_, ?_, by simp⟩
 ·rw [Below.heap_alloc _ _ _ (by omega)]; exact World.alloc_heap_new _ _
 ·have := World.alloc_heap_new (w.alloc o1) o2
  rwa [s1] at this
end
end Go.Proofs.YtlnaihkombcbcaaGreat
end
noncomputable section
namespace Go.Proofs.YtlnaihkombcbcaaGreat
open Go.RowKit Go.Sort Go.Ev
theorem equal_sat {w : World} {v1 v2 : Value} {ss : List Str} (h1 : SAt w v1 ss) (h2 : SAt w v2 ss) (hl : ss.length ≤ 1000000) :
 Calls Tryz.prog 84 #[v1, v2] w fun e w' => e = .returned (.bool true) ∧ ∃ q, w' = w.drewN q := by
 rcases h1 with ⟨h0, a, c, rfl⟩ | ⟨b, off, cap, rfl, g1, g2, g3⟩
 ·rcases h2 with ⟨-, a', c', rfl⟩ | ⟨b', off', cap', rfl, g1', g2', g3'⟩
  ·refine (Tryz.slices_Equal_string_empty a a' c 0 c' w (by decide)).mono ?_
   rintro e w' ⟨rfl, rfl⟩
   exact ⟨rfl, 0, rfl⟩
  ·rw [h0] at g2'; simp at g2'
 ·rcases h2 with ⟨h0, a', c', rfl⟩ | ⟨b', off', cap', rfl, g1', g2', g3'⟩
  ·rw [h0] at g2; simp at g2
  ·have hln : (ss.map bs).length ≤ 9223372036854775807 := by rw [List.length_map]; omega
   have hc : ∀ (b off : Nat) (_ : ∀ j (hj : j < (ss.map bs).length), w.cell? ⟨b, off + j, none⟩ = some (.string (ss.map bs)[j])) j, j < (ss.map bs).length → w.cell? ⟨b, off + j, none⟩ = some (.string ((ss.map bs).getD j ByteArray.empty)) := fun b off h j hj => by
    rw [h j hj, List.getD_eq_getElem?_getD, List.getElem?_eq_getElem hj]; rfl
   refine (Tryz.slices_Equal_string b off (ss.map bs).length cap b' off' (ss.map bs).length cap' (ss.map bs) (ss.map bs) w (Nat.le_refl _) (Nat.le_refl _) hln hln (hc _ _ g3) (hc _ _ g3')).mono ?_
   rintro e w' ⟨rfl, q, rfl⟩
   exact ⟨by simp, q, rfl⟩
def smallS (s : S3) : Prop := s.c.length ≤ 1000000 ∧ s.f.length ≤ 1000000 ∧ s.g.length ≤ 1000000
theorem plBox_cells {W : World} {B : Nat} {va vb vc : Value} (h : W.heap[B]? = some (.cells #[va, vb, vc] 41)) : W.cell? ⟨B, 0, none⟩ = some va ∧ W.cell? ⟨B, 1, none⟩ = some vb ∧ W.cell? ⟨B, 2, none⟩ = some vc := by
 refine ⟨?_, ?_, ?_⟩ <;> (rw [Lib.cell_of_heap h]; rfl)
set_option maxRecDepth 100000 in
set_option maxHeartbeats 2000000 in
theorem psame_any {s : S3} {v1 v2 : Value} {w : World} (h1 : PlAt w v1 s) (h2 : PlAt w v2 s) (hs : smallS s) :
 Calls Tryz.prog 32 #[v1, v2] w fun e w' => e = .returned (.bool true) ∧ Below w.heap.size w w' := by
 obtain ⟨ua, ub, uc, rfl, g1, g2, g3⟩ := h1
 obtain ⟨va, vb, vc, rfl, k1, k2, k3⟩ := h2
 obtain ⟨s1, s2, s3⟩ := hs
 obtain ⟨W2, hW2⟩ : ∃ W2, W2 = (w.alloc (.cells #[ua, ub, uc] 41)).alloc (.cells #[va, vb, vc] 41) := ⟨_, rfl⟩
 have hB : Below w.heap.size w W2 := by rw [hW2]; exact ((Below.refl _ w).alloc (Nat.le_refl _) _).alloc (by simp) _
 have hx : W2.heap[w.heap.size]? = some (.cells #[ua, ub, uc] 41) := by
  rw [hW2, Below.heap_alloc _ _ _ (by simp)]; exact World.alloc_heap_new _ _
 have hy : W2.heap[w.heap.size + 1]? = some (.cells #[va, vb, vc] 41) := by
  have := World.alloc_heap_new (w.alloc (.cells #[ua, ub, uc] 41)) (.cells #[va, vb, vc] 41)
  rw [hW2]; simpa using this
 have HX := Lib.hid fun (W : World) (h : ∃ q, W = W2.drewN q) => show W.heap[w.heap.size]? = some (.cells #[ua, ub, uc] 41) ∧ W.heap[w.heap.size + 1]? = some (.cells #[va, vb, vc] 41) from by
  obtain ⟨q, rfl⟩ := h
  exact ⟨hx, hy⟩
 have HB := Lib.hid fun (W : World) (h : ∃ q, W = W2.drewN q) => show Below w.heap.size w W from by
  obtain ⟨q, rfl⟩ := h
  exact below_drewN hB q
 have C1 := Lib.hid (equal_sat (g1.below hB) (k1.below hB) s1)
 have C2 := Lib.hid fun (W : World) (h : ∃ q, W = W2.drewN q) => equal_sat (g2.below (HB.out W h)) (k2.below (HB.out W h)) s2
 have C3 := Lib.hid fun (W : World) (h : ∃ q, W = W2.drewN q) => equal_sat (g3.below (HB.out W h)) (k3.below (HB.out W h)) s3
 obtain ⟨p0, p1, p2⟩ := plBox_cells hx
 obtain ⟨q0, q1, q2⟩ := plBox_cells hy
 obtain ⟨ua1, ua2, ua3, rfl⟩ := g1.form
 obtain ⟨ub1, ub2, ub3, rfl⟩ := g2.form
 obtain ⟨uc1, uc2, uc3, rfl⟩ := g3.form
 obtain ⟨va1, va2, va3, rfl⟩ := k1.form
 obtain ⟨vb1, vb2, vb3, rfl⟩ := k2.form
 obtain ⟨vc1, vc2, vc3, rfl⟩ := k3.form
 rw [hW2] at p0 q0
 have HW := Lib.hid hW2
 clear g1 g2 g3 k1 k2 k3 s1 s2 s3 hB hx hy hW2
 go_enter Tryz.func32, Tryz.ntmps32
 go_wp2_with fail
 rw [← HW.out]
 refine C1.out.mono ?_
 rintro e w1 ⟨rfl, hq1⟩
 obtain ⟨b1, b2⟩ := HX.out w1 hq1
 obtain ⟨-, p1', p2'⟩ := plBox_cells b1
 obtain ⟨-, q1', q2'⟩ := plBox_cells b2
 have C2' := Lib.hid (C2.out w1 hq1)
 clear p0 p1 p2 q0 q1 q2 b1 b2
 go_wp2_with fail
 refine C2'.out.mono ?_
 rintro e w2 ⟨rfl, hq2⟩
 have hq3 : ∃ q, w2 = W2.drewN q := by
  obtain ⟨a, rfl⟩ := hq1
  obtain ⟨b, rfl⟩ := hq2
  exact ⟨a + b, by rw [World.drewN_drewN]⟩
 obtain ⟨b1, b2⟩ := HX.out w2 hq3
 obtain ⟨-, p1'', p2''⟩ := plBox_cells b1
 obtain ⟨-, q1'', q2''⟩ := plBox_cells b2
 have C3' := Lib.hid (C3.out w2 hq3)
 have HB3 := Lib.hid (HB.out w2 hq3)
 clear p1' p2' q1' q2' b1 b2 hq1 hq2
 go_wp2_with fail
 refine C3'.out.mono ?_
 rintro e w3 ⟨rfl, q, rfl⟩
 go_wp2
 go_ret
 exact ⟨rfl, below_drewN HB3.out q⟩
end Go.Proofs.YtlnaihkombcbcaaGreat
end
noncomputable section
namespace Go.Proofs.YtlnaihkombcbcaaGreat
open Go.RowKit Go.Sort Go.Ev
theorem RowZ.at {z B : Nat} {w : World} {a : Option Addr} {n c : Nat} {l : List Itm} (h : RowZ z B w (.slice a n c) l) {k : Nat} (hk : k < l.length) : ∃ g, a = some ⟨g, 0, none⟩ ∧ g < w.heap.size ∧
 ∃ a1 c1 a2 c2 a3 c3 a6 c6 a7 c7, w.cell? ⟨g, k * 8, none⟩ = some (.int .i64 l[k].kind) ∧ w.cell? ⟨g, k * 8 + 1, none⟩ = some (.slice a1 l[k].sels.length c1) ∧ w.cell? ⟨g, k * 8 + 2, none⟩ = some (.slice a2 l[k].decls.length c2) ∧
   w.cell? ⟨g, k * 8 + 3, none⟩ = some (.slice a3 l[k].names.length c3) ∧ w.cell? ⟨g, k * 8 + 4, none⟩ = some (.int .i64 l[k].mn) ∧ w.cell? ⟨g, k * 8 + 5, none⟩ = some (.int .i64 l[k].mx) ∧
   w.cell? ⟨g, k * 8 + 6, none⟩ = some (.slice a6 l[k].vals.length c6) ∧ w.cell? ⟨g, k * 8 + 7, none⟩ = some (.slice a7 l[k].l.length c7) ∧ ItB z w l[k] a1 c1 a2 c2 a3 c3 a6 c6 a7 c7 := by
 rcases h.cells with ⟨rfl, -⟩ | ⟨g, cap, e, -, -, -, hg, hc⟩
 ·simp at hk
 ·cases e
  obtain ⟨a1, c1, a2, c2, a3, c3, a6, c6, a7, c7, y0, y1, y2, y3, y4, y5, y6, y7, v1, v2, v3, v6, v7⟩ := itB_cells hc hk
  simp only [Nat.zero_add] at y0 y1 y2 y3 y4 y5 y6 y7
  exact ⟨g, rfl, hg, a1, c1, a2, c2, a3, c3, a6, c6, a7, c7, y0, y1, y2, y3, y4, y5, y6, y7, v1, v2, v3, v6, v7⟩
end Go.Proofs.YtlnaihkombcbcaaGreat
end
noncomputable section
namespace Go.Proofs.YtlnaihkombcbcaaGreat
open Go.RowKit Go.Sort Go.Ev
theorem Tryz.infoSheet : (Tryz.prog.info? 46).map (fun i => (i.zero, i.size, i.bytes)) = some (some (.slice none 0 0), 1, 24) := by kernel_rfl
theorem fin_small {L : List (List Itm)} (h : ∀ l ∈ L, okSh l) (h4 : L.length ≤ 4) {s : S3} (hs : FinU (rulesOf L.flatten) s) : smallS s := by
 have hi : InU (rulesOf L.flatten) s := ⟨hs.1, fun i x hx => (hs.2 i x).1 hx⟩
 have h0 : s.c.length ≤ 240000 := small_len h h4 hi 0
 have h1 : s.f.length ≤ 240000 := small_len h h4 hi 1
 have h2 : s.g.length ≤ 240000 := small_len h h4 hi 2
 exact ⟨by omega, by omega, by omega⟩
end Go.Proofs.YtlnaihkombcbcaaGreat
end
