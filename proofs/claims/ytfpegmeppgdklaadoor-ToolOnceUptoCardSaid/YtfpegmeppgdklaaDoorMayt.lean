/-
  tool.apart at attr, tool.May.
-/
import Derived.Test.YtfpegmeppgdklaaDoorMay
import Derived.Test.YtfpegmeppgdklaaDoorCfg
namespace Go.Proofs.YtfpegmeppgdklaaDoor
open Go.RowKit Go.Sort
/-- the closure of tool.apart, at attr -/
theorem not_attr (Bp : Nat) (s : ByteArray) (w : World) (hs : s.size ≤ 1000000) (hb : w.cell? ⟨Bp, 0, none⟩ = some (.func (.func 22) #[] #[])) :
    Calls Tryd.prog 36 #[.string s, .pointer (some ⟨Bp, 0, none⟩)] w fun e w' => e = .returned (.bool (!attrB s.data.toList)) ∧ Below w.heap.size w w' := by
  have H := fun w => attr_any s w hs
  generalize attrB s.data.toList = q at *
  have HH := Lib.hid H
  clear H
  go_enter Tryd.func36, Tryd.ntmps36
  go_wp2_with fail
  refine (HH.out _).mono ?_
  rintro e w' ⟨rfl, hB⟩
  go_wp2
  go_ret
  exact ⟨rfl, hB⟩
set_option maxHeartbeats 2000000 in
theorem ifunc_attr (Bp : Nat) (v : Value) (ss : List Str) (w : World) (hls : ss.length ≤ 1000000) (hsz : ∀ x ∈ ss, x.length ≤ 1000000) (hv : SAt w v ss) (hb : w.cell? ⟨Bp, 0, none⟩ = some (.func (.func 22) #[] #[])) :
    Calls Tryd.prog 49 #[v, .func (.func 36) #[] #[.pointer (some ⟨Bp, 0, none⟩)]] w (IfPost attrB ss w) := by
  rcases hv with ⟨hnil, a, c, rfl⟩ | ⟨b, off, cap, rfl, hcap, hpos, hc⟩
  · obtain rfl : ss = [] := by simpa using hnil
    go_enter Tryd.func49, Tryd.ntmps49
    go_wp2
    go_loop [8] (fun i => i = .int .i64 0) (fun i => 0)
    case atStart => rfl
    case round =>
      subst hrel
      go_wp2
      go_ret
      exact ⟨-1, rfl, rfl, Below.refl _ _⟩
  · simp only [List.length_map] at hcap hpos ⊢
    have hcs : ∀ j (hj : j < ss.length), w.cell? ⟨b, off + j, none⟩ = some (.string (bs ss[j])) := fun j hj => by have := hc j (by simpa using hj); simpa using this
    have HC := Lib.hid hcs
    clear hc hcs
    have HB := Lib.hid hb
    have HZ := Lib.hid hsz
    clear hb hsz
    go_enter Tryd.func49, Tryd.ntmps49
    go_wp2
    go_loopw [5, 8] (fun _ i wr => ∃ k : Nat, k ≤ ss.length ∧ i = .int .i64 k ∧ Hid ((ss.take k).all attrB = true) ∧ Below w.heap.size w wr) (fun _ i _ => ss.length - (intOf i).toNat)
    case atStart => exact ⟨0, Nat.zero_le _, rfl, rfl, Below.refl _ _⟩
    case round =>
      obtain ⟨k, hk, rfl, hall, hB⟩ := hrel
      by_cases hlt : k < ss.length
      · have hck := cell_up (HC.out k hlt) hB
        have hbk := cell_up HB.out hB
        have hq := not_attr Bp (bs ss[k]) wr (by rw [bs_size]; exact HZ.out _ (List.getElem_mem _)) hbk
        rw [bs_data] at hq
        have HQ := Lib.hid hq
        clear hq
        cases hp : attrB ss[k]
        · go_wp2_with fail
          refine HQ.out.mono ?_
          rintro e w1 ⟨rfl, hB1⟩
          rw [hp]
          go_wp2
          go_ret
          exact ⟨k, rfl, by show _ = _; rw [all_false_at' _ _ k hlt hp]; simp, bup hB hB1⟩
        · go_wp2_with fail
          refine HQ.out.mono ?_
          rintro e w1 ⟨rfl, hB1⟩
          rw [hp]
          go_wp2
          go_roundw
          case rel => exact ⟨k + 1, by omega, by go_num, by show _ = _; rw [all_take_succ' _ _ k hlt, hall.out, hp]; rfl, bup hB hB1⟩
          case measure => simp [intOf]; omega
      · go_wp2
        go_ret
        have h9 := hall.out
        rw [List.take_of_length_le (by omega)] at h9
        exact ⟨-1, rfl, by show _ = _; rw [h9]; rfl, hB⟩
set_option maxHeartbeats 1000000 in
theorem cfunc_attr (Bp : Nat) (v : Value) (ss : List Str) (w : World) (hls : ss.length ≤ 1000000) (hsz : ∀ x ∈ ss, x.length ≤ 1000000) (hv : SAt w v ss) (hb : w.cell? ⟨Bp, 0, none⟩ = some (.func (.func 22) #[] #[])) :
    Calls Tryd.prog 35 #[v, .func (.func 36) #[] #[.pointer (some ⟨Bp, 0, none⟩)]] w fun e w' => e = .returned (.bool (!(ss.all attrB))) ∧ Below w.heap.size w w' := by
  have H := Lib.hid (ifunc_attr Bp v ss w hls hsz hv hb)
  clear hsz
  go_enter Tryd.func35, Tryd.ntmps35
  go_wp2_with fail
  refine H.out.mono ?_
  rintro e w' ⟨z, rfl, hz, hB⟩
  go_wp2
  go_ret
  exact ⟨ret_bool hz.out, hB⟩
set_option maxHeartbeats 2000000 in
theorem apart_attr (v : Value) (ss : List Str) (w : World) (hls : ss.length ≤ 1000000) (hsz : ∀ x ∈ ss, x.length ≤ 1000000) (hv : SAt w v ss) :
    Calls Tryd.prog 20 #[v, .func (.func 22) #[] #[]] w fun e w' => e = .returned (.bool (apartB attrB ss)) ∧ Below w.heap.size w w' := by
  obtain ⟨pa, pc, rfl⟩ := hv.form_len
  have HZ := Lib.hid hsz
  have hapart : apartB attrB ss = (decide (ss.length ≤ 20) && decide ((Lib.compact (sortM ss)).length = ss.length) && ss.all attrB) := by
    rw [apartB, decide_eq_decide.2 (compact_nodup ss)]
  have HA := Lib.hid hapart
  clear hsz hapart
  have hA := fun (x y : Obj) => (below_alloc w x).alloc (Nat.le_of_lt (by simp)) y
  have hcellF : ∀ x y, ((w.alloc (.cells #[x] 39)).alloc y).cell? ⟨w.heap.size, 0, none⟩ = some x := fun x y => by
    rw [cell_alloc_far _ _ _ _ (by simp), Lib.cell_of_heap (heap_al_new _ _)]; rfl
  have HCF := Lib.hid hcellF
  clear hcellF
  by_cases h20 : ss.length ≤ 20
  · go_enter Tryd.func20, Tryd.ntmps20
    go_wp2_with fail
    refine (values_any _ _ _ _).mono ?_
    rintro e w1 ⟨rfl, rfl⟩
    go_wp2_with fail
    refine (sorted_any (w.heap.size + 1) _ ss _ hls (hv.below (hA _ _)) (by rw [Lib.cell_of_heap (by have := heap_al_new (w.alloc (.cells #[.func (.func 22) #[] #[]] 39)) (.cells #[.slice pa ss.length pc] 22); rw [World.size_alloc] at this; exact this)]; rfl)).mono ?_
    rintro e w1 ⟨v1, rfl, ho, hB1⟩
    have hfc := cell_up (HCF.out (.func (.func 22) #[] #[]) _) hB1
    have hB := bup (hA _ _) hB1
    have hw0 : w.heap.size < w1.heap.size := by have := hB1.size; simp at this; omega
    have hfc' := Lib.hid hfc
    clear hfc
    rcases ho.2 with ⟨rfl, h0⟩ | ⟨g, cap, cur, rfl, hbase, hbk, h1, h2, h3, h4⟩
    · obtain rfl : ss = [] := List.eq_nil_of_length_eq_zero h0
      go_wp2_with fail
      refine (Tryd.slices_Compact_string_empty _ _ _).mono ?_
      rintro e w2 ⟨rfl, rfl⟩
      go_wp2_with fail
      refine (cfunc_attr _ _ [] _ (by simp) (by simp) (hv.below hB) hfc'.out).mono ?_
      rintro e w3 ⟨rfl, hB3⟩
      go_wp2
      go_ret
      exact ⟨ret_bool (by rw [HA.out]; simp [sortM, Lib.compact, Lib.compactUpTo]), bup hB hB3⟩
    · have hsl : (sortM ss).length = ss.length := by simp [sortM]
      have hH : Holds encStr w1 g 0 (sortM ss).toArray := holds_of_block hbk (by rw [hsl]; simpa using h4)
      have hcl : (Lib.compact (sortM ss)).length ≤ ss.length := by
        unfold Lib.compact Lib.compactUpTo
        rw [List.length_map]
        exact Nat.le_trans (List.length_filter_le _ _) (by simp [hsl])
      have HC := Lib.hid (Tryd.slices_Compact_string g 0 cap (sortM ss) w1 hH (by omega) (by omega))
      rw [hsl] at HC
      clear hsl hH
      have hall := fun (w' : World) (hb : w'.cell? ⟨w.heap.size, 0, none⟩ = some (.func (.func 22) #[] #[])) (hw : Below w.heap.size w w') => cfunc_attr w.heap.size (.slice pa ss.length pc) ss w' hls HZ.out (hv.below hw) hb
      generalize hcm : Lib.compact (sortM ss) = cm at *
      generalize hq : ss.all attrB = q at *
      have HALL := Lib.hid hall
      clear hall hcm hq
      have H4 := Lib.hid h4
      clear h4
      cases he : ((cm.length : Int) == (ss.length : Int))
      · go_wp2_with fail
        refine HC.out.mono ?_
        rintro e w2 ⟨rfl, nd, rfl⟩
        have hB2 : Below w.heap.size w (putRow encStr (Sort.ahead w1 nd) g 0 (cm ++ List.replicate (ss.length - cm.length) []).toArray) := hB.grown (grownBy_put _) hB.size fun k e => by cases e; simp at hbase; omega
        have HB2 := Lib.hid hB2
        clear hB2
        generalize putRow encStr (Sort.ahead w1 nd) g 0 (cm ++ List.replicate (ss.length - cm.length) []).toArray = w2 at *
        go_wp2
        go_ret
        refine ⟨ret_bool ?_, HB2.out⟩
        rw [HA.out]
        have : cm.length ≠ ss.length := by intro e; rw [e] at he; simp at he
        simp [this]
      · go_wp2_with fail
        refine HC.out.mono ?_
        rintro e w2 ⟨rfl, nd, rfl⟩
        have hB2 : Below w.heap.size w (putRow encStr (Sort.ahead w1 nd) g 0 (cm ++ List.replicate (ss.length - cm.length) []).toArray) := hB.grown (grownBy_put _) hB.size fun k e => by cases e; simp at hbase; omega
        have hf2 : (putRow encStr (Sort.ahead w1 nd) g 0 (cm ++ List.replicate (ss.length - cm.length) []).toArray).cell? ⟨w.heap.size, 0, none⟩ = some (.func (.func 22) #[] #[]) := by
          rw [World.cell?_of_block (w := w1) ((grownBy_put (w := w1) (g := g) (n := nd) _).block w.heap.size hw0 (by simp at hbase ⊢; omega))]
          exact hfc'.out
        have HB2 := Lib.hid hB2
        have HF2 := Lib.hid hf2
        clear hB2 hf2
        generalize putRow encStr (Sort.ahead w1 nd) g 0 (cm ++ List.replicate (ss.length - cm.length) []).toArray = w2 at *
        go_wp2_with fail
        refine (HALL.out _ HF2.out HB2.out).mono ?_
        rintro e w3 ⟨rfl, hB3⟩
        go_wp2
        go_ret
        refine ⟨ret_bool ?_, bup HB2.out hB3⟩
        rw [HA.out]
        have : cm.length = ss.length := by have := eq_of_beq he; omega
        simp [this, h20]
  · go_enter Tryd.func20, Tryd.ntmps20
    go_wp2_with fail
    refine (values_any _ _ _ _).mono ?_
    rintro e w1 ⟨rfl, rfl⟩
    go_wp2_with fail
    refine (sorted_any (w.heap.size + 1) _ ss _ hls (hv.below (hA _ _)) (by rw [Lib.cell_of_heap (by have := heap_al_new (w.alloc (.cells #[.func (.func 22) #[] #[]] 39)) (.cells #[.slice pa ss.length pc] 22); rw [World.size_alloc] at this; exact this)]; rfl)).mono ?_
    rintro e w1 ⟨v1, rfl, ho, hB1⟩
    go_wp2
    go_ret
    exact ⟨ret_bool (by rw [HA.out]; simp [h20]), bup (hA _ _) hB1⟩
/-- a box that may be -/
def mayB (c : Cfg) : Bool := apartB nameB c.cls && apartB attrB c.att
/-- every name is of a length that fits -/
def Cfg.szd (c : Cfg) : Prop := (∀ x ∈ c.cls, x.length ≤ 1000000) ∧ (∀ x ∈ c.att, x.length ≤ 1000000)
theorem may_any (v : Value) (c : Cfg) (w : World) (hv : CfgAt w v c) (hz : c.szd) :
    Calls Tryd.prog 11 #[v] w fun e w' => e = .returned (.bool (mayB c)) ∧ Below w.heap.size w w' := by
  obtain ⟨a1, a2, rfl, ha1, ha2, la1, la2⟩ := hv
  obtain ⟨z1, z2⟩ := hz
  have Z1 := Lib.hid z1
  have Z2 := Lib.hid z2
  clear z1 z2
  have hA := fun (x : Obj) => below_alloc w x
  unfold mayB
  cases e1 : apartB nameB c.cls
  · go_enter Tryd.func11, Tryd.ntmps11
    go_wp2_with fail
    refine (apart_named _ _ _ (by omega) Z1.out (ha1.below (hA _))).mono ?_
    rintro e w1 ⟨rfl, hB⟩
    obtain ⟨hc1, hf1⟩ := bcell hB
    rw [e1]
    go_wp2
    go_ret
    exact ⟨rfl, bup (hA _) hB⟩
  · go_enter Tryd.func11, Tryd.ntmps11
    go_wp2_with fail
    refine (apart_named _ _ _ (by omega) Z1.out (ha1.below (hA _))).mono ?_
    rintro e w1 ⟨rfl, hB⟩
    obtain ⟨hc1, hf1⟩ := bcell hB
    rw [e1]
    go_wp2_with fail
    refine (apart_attr _ _ _ (by omega) Z2.out (ha2.below (bup (hA _) hB))).mono ?_
    rintro e w2 ⟨rfl, hB2⟩
    go_wp2
    go_ret
    exact ⟨rfl, bup (bup (hA _) hB) hB2⟩
end Go.Proofs.YtfpegmeppgdklaaDoor
