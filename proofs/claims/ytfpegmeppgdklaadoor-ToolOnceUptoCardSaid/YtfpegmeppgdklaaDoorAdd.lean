/-
  slices.Contains, slices.Clone, slices.Equal at lists of strings; tool.add, tool.Same.
-/
import Derived.Test.YtfpegmeppgdklaaDoorShelf
import Derived.Test.YtfpegmeppgdklaaDoorLines
namespace Go.Proofs.YtfpegmeppgdklaaDoor
open Go.RowKit
theorem bs_inj {a b : Str} : bs a = bs b ↔ a = b := ⟨fun h => congrArg (·.data.toList) h, fun h => by rw [h]⟩
theorem getDz {zs : List ByteArray} {w : World} {b off : Nat} (hc : ∀ j (hj : j < zs.length), w.cell? ⟨b, off + j, none⟩ = some (.string zs[j])) :
    ∀ j, j < zs.length → w.cell? ⟨b, off + j, none⟩ = some (.string (zs.getD j ByteArray.empty)) := fun j hj => by rw [hc j hj, getD_at _ _ _ hj]
theorem inB_contains (ss : List Str) (x : Str) : Lib.containsS (ss.map bs) (bs x) = inB ss x := by
  rw [Bool.eq_iff_iff, Lib.containsS_iff, inB, List.any_eq_true]
  constructor
  · intro h
    obtain ⟨y, hy, e⟩ := List.mem_map.1 h
    exact ⟨y, hy, by simp [bs_inj.1 e]⟩
  · rintro ⟨y, hy, e⟩
    exact List.mem_map.2 ⟨y, hy, by rw [eq_of_beq e]⟩
theorem contains_any (v : Value) (ss : List Str) (x : Str) (w : World) (hv : SAt w v ss) (hl : ss.length ≤ 4611686018427387904) :
    Calls Tryd.prog 40 #[v, .string (bs x)] w fun e w' => e = .returned (.bool (inB ss x)) ∧ w' = w := by
  rcases hv with ⟨hz, a, c, rfl⟩ | ⟨b, off, cap, rfl, hcap, h0, hc⟩
  · obtain rfl : ss = [] := by simpa using hz
    exact Tryd.slices_Contains_string_empty a c (bs x) w
  · have h := Tryd.slices_Contains_string b off (ss.map bs).length cap (ss.map bs) (bs x) w (Nat.le_refl _) (by simp; omega) (getDz hc)
    rw [List.take_of_length_le (Nat.le_refl _), inB_contains] at h
    exact h
theorem clone_any (v : Value) (ss : List Str) (w : World) (hv : SAt w v ss) (hl : ss.length ≤ 1000000000) :
    Calls Tryd.prog 41 #[v] w fun e w' => ∃ v', e = .returned v' ∧ w'.ownsRow w.heap.size 9 1 v' ss.length ((ss.map bs).map Value.string) ∧ Below w.heap.size w w' := by
  rcases hv with ⟨hz, a, c, rfl⟩ | ⟨b, off, cap, rfl, hcap, h0, hc⟩
  · obtain rfl : ss = [] := by simpa using hz
    cases a with
    | none => exact (Tryd.slices_Clone_string_nil 0 c w).mono fun e w' ⟨he, hw⟩ => ⟨_, he, by subst hw; exact World.ownsRow_nil _ _ _ _, by subst hw; exact Below.refl _ _⟩
    | some a => exact (Tryd.slices_Clone_string_zero a c w).mono fun e w' ⟨v', he, ho, _, hb⟩ => ⟨v', he, ho, hb⟩
  · refine (Tryd.slices_Clone_string b off (ss.map bs).length cap (ss.map bs) w (Nat.le_refl _) (by simp; omega) (getDz hc)).mono fun e w' ⟨v', he, ho, _, hb⟩ => ⟨v', he, ?_, hb⟩
    rw [List.take_of_length_le (Nat.le_refl _)] at ho
    simpa using ho
theorem dec_map_bs (xs ys : List Str) : decide (xs.map bs = ys.map bs) = (xs == ys) := by
  rw [Bool.eq_iff_iff, decide_eq_true_iff, beq_iff_eq]
  constructor
  · intro h
    have h2 := congrArg (List.map (·.data.toList)) h
    rw [List.map_map, List.map_map] at h2
    exact (List.map_id xs).symm.trans (h2.trans (List.map_id ys))
  · intro h; rw [h]
theorem equal_any (v1 v2 : Value) (xs ys : List Str) (w : World) (h1 : SAt w v1 xs) (h2 : SAt w v2 ys) (hl : xs.length ≤ 4611686018427387904) (hl2 : ys.length ≤ 4611686018427387904) :
    Calls Tryd.prog 28 #[v1, v2] w fun e w' => e = .returned (.bool (xs == ys)) ∧ Below w.heap.size w w' := by
  by_cases hne : xs.length = ys.length
  · rcases h1 with ⟨hz, a, c, rfl⟩ | ⟨b, off, cap, rfl, hcap, h0, hc⟩
    · obtain rfl : xs = [] := by simpa using hz
      obtain rfl : ys = [] := List.eq_nil_of_length_eq_zero hne.symm
      rcases h2 with ⟨_, a2, c2, rfl⟩ | ⟨b2, off2, cap2, rfl, hcap2, h02, hc2⟩
      · exact (Tryd.slices_Equal_string_empty a a2 c 0 c2 w (by omega)).mono fun e w' ⟨he, hw⟩ => ⟨he, by subst hw; exact Below.refl _ _⟩
      · simp at h02
    · rcases h2 with ⟨hz, a2, c2, rfl⟩ | ⟨b2, off2, cap2, rfl, hcap2, h02, hc2⟩
      · obtain rfl : ys = [] := by simpa using hz
        rw [List.length_map] at h0; rw [List.length_nil] at hne; omega
      · have h := Tryd.slices_Equal_string b off (xs.map bs).length cap b2 off2 (ys.map bs).length cap2 (xs.map bs) (ys.map bs) w (Nat.le_refl _) (Nat.le_refl _) (by simp; omega) (by simp; omega) (getDz hc) (getDz hc2)
        rw [List.take_of_length_le (Nat.le_refl _), List.take_of_length_le (Nat.le_refl _), dec_map_bs] at h
        exact h.mono fun e w' ⟨he, q, hw⟩ => ⟨he, by subst hw; exact below_drewN (Below.refl _ _) _⟩
  · have e1 : ∃ a c, v1 = .slice a xs.length c := by
      rcases h1 with ⟨hz, a, c, rfl⟩ | ⟨b, off, cap, rfl, _⟩
      · obtain rfl : xs = [] := by simpa using hz
        exact ⟨a, c, rfl⟩
      · exact ⟨_, _, by rw [List.length_map]⟩
    have e2 : ∃ a c, v2 = .slice a ys.length c := by
      rcases h2 with ⟨hz, a, c, rfl⟩ | ⟨b, off, cap, rfl, _⟩
      · obtain rfl : ys = [] := by simpa using hz
        exact ⟨a, c, rfl⟩
      · exact ⟨_, _, by rw [List.length_map]⟩
    obtain ⟨a, c, rfl⟩ := e1
    obtain ⟨a2, c2, rfl⟩ := e2
    have hf : (xs == ys) = false := beq_eq_false_iff_ne.2 fun h => hne (by rw [h])
    rw [hf]
    exact (Tryd.slices_Equal_string_lens a a2 _ c _ c2 w hne).mono fun e w' ⟨he, hw⟩ => ⟨he, by subst hw; exact Below.refl _ _⟩
def addM (l : List Str) (s : Str) : List Str × Bool := if inB l s then (l, true) else (l ++ [s], decide (l.length < 20))
set_option maxHeartbeats 400000 in
theorem add_any (v : Value) (ss : List Str) (x : Str) (w : World) (hv : SAt w v ss) (hl : ss.length ≤ 1000000) :
    Calls Tryd.prog 26 #[v, .string (bs x)] w fun e w' => ∃ v', e = .returned (.tuple #[v', .bool (addM ss x).2]) ∧ ((v' = v ∧ (addM ss x).1 = ss) ∨ StrsFrom w.heap.size w' v' ((addM ss x).1.map bs)) ∧ Below w.heap.size w w' := by
  obtain ⟨i0, hi, hz0, hz1, hz2⟩ := info_parts Tryd.infoStr
  have hlen : ∃ a c, v = .slice a ss.length c := by
    rcases hv with ⟨hz, a, c, rfl⟩ | ⟨b, off, cap, rfl, _⟩
    · obtain rfl : ss = [] := by simpa using hz
      exact ⟨a, c, rfl⟩
    · exact ⟨_, _, by rw [List.length_map]⟩
  obtain ⟨a, c, rfl⟩ := hlen
  cases hin : inB ss x
  · go_enter Tryd.func26, Tryd.ntmps26
    go_wp2_with fail
    refine (contains_any _ _ _ _ hv (by omega)).mono ?_
    rintro e w' ⟨rfl, rfl⟩
    rw [hin]
    go_wp2_with fail
    refine (clone_any _ _ _ hv (by omega)).mono ?_
    rintro e w1 ⟨v1, rfl, hown, hB⟩
    have hBs := hB.size
    go_wp2_with (at_builtin; refine wpList_append_own _ rfl _ _ 22 rfl w'.heap.size 9 i0 (.string ByteArray.empty) 1 16 Tryd.underlying22 hi hz0 hz1 hz2 rfl (by decide) _ _ _ rfl (hown.alloc _) ⟨w1.heap.size, 0, none⟩ 1 1 [.string (bs x)] rfl rfl ?c1 ?c2 ?c3 ?c4 ?c5 ?_)
    case c1 => exact cell_one_new _ _ _
    case c2 => simp [Value.oneCell']
    case c3 => unfold maxLen; omega
    case c4 => omega
    case c5 => simp; omega
    intro v2 w2 hown' hgrow _
    go_wp2
    go_ret2
    refine ⟨_, ret_vb (by simp [addM, hin]; omega), ?_, ?_⟩
    · have : (addM ss x).1 = ss ++ [x] := by simp [addM, hin]
      rw [this]
      exact .inr (owns_from (by simpa using hown'))
    · exact (hB.alloc hBs _).grown hgrow (by simp; omega) (fun g e => (hown.lt g e).1)
  · go_enter Tryd.func26, Tryd.ntmps26
    go_wp2_with fail
    refine (contains_any _ _ _ _ hv (by omega)).mono ?_
    rintro e w' ⟨rfl, rfl⟩
    rw [hin]
    go_wp2
    go_ret2
    exact ⟨_, ret_vb (by simp [addM, hin]), .inl ⟨rfl, by simp [addM, hin]⟩, Below.refl _ _⟩
theorem tsame_any (va vb : Value) (a b : Cfg) (w : World) (ha : CfgAt w va a) (hb : CfgAt w vb b) :
    Calls Tryd.prog 17 #[va, vb] w fun e w' => e = .returned (.bool (sameB a b)) ∧ Below w.heap.size w w' := by
  obtain ⟨a1, a2, rfl, ha1, ha2, la1, la2⟩ := ha
  obtain ⟨b1, b2, rfl, hb1, hb2, lb1, lb2⟩ := hb
  have hA := fun (x y : Obj) => (below_alloc w x).alloc (Nat.le_of_lt (by simp)) y
  unfold sameB
  cases e1 : a.cls == b.cls
  · go_enter Tryd.func17, Tryd.ntmps17
    go_wp2_with fail
    refine (equal_any _ _ _ _ _ (ha1.below (hA _ _)) (hb1.below (hA _ _)) (by omega) (by omega)).mono ?_
    rintro e w1 ⟨rfl, hB⟩
    obtain ⟨hc1, hf1⟩ := bcell hB
    rw [e1]
    go_wp2
    go_ret
    exact ⟨rfl, bup (hA _ _) hB⟩
  · cases e2 : a.att == b.att
    · go_enter Tryd.func17, Tryd.ntmps17
      go_wp2_with fail
      refine (equal_any _ _ _ _ _ (ha1.below (hA _ _)) (hb1.below (hA _ _)) (by omega) (by omega)).mono ?_
      rintro e w1 ⟨rfl, hB⟩
      obtain ⟨hc1, hf1⟩ := bcell hB
      rw [e1]
      go_wp2_with fail
      refine (equal_any _ _ _ _ _ (ha2.below (bup (hA _ _) hB)) (hb2.below (bup (hA _ _) hB)) (by omega) (by omega)).mono ?_
      rintro e w2 ⟨rfl, hB2⟩
      obtain ⟨hc2, hf2⟩ := bcell hB2
      rw [e2]
      go_wp2
      go_ret
      exact ⟨rfl, bup (bup (hA _ _) hB) hB2⟩
    · go_enter Tryd.func17, Tryd.ntmps17
      go_wp2_with fail
      refine (equal_any _ _ _ _ _ (ha1.below (hA _ _)) (hb1.below (hA _ _)) (by omega) (by omega)).mono ?_
      rintro e w1 ⟨rfl, hB⟩
      obtain ⟨hc1, hf1⟩ := bcell hB
      rw [e1]
      go_wp2_with fail
      refine (equal_any _ _ _ _ _ (ha2.below (bup (hA _ _) hB)) (hb2.below (bup (hA _ _) hB)) (by omega) (by omega)).mono ?_
      rintro e w2 ⟨rfl, hB2⟩
      obtain ⟨hc2, hf2⟩ := bcell hB2
      rw [e2]
      have hz : w.heap.size + 1 < w1.heap.size := by have := hB.size; simp at this; omega
      have hz0 : w.heap.size < w1.heap.size := by omega
      go_wp2
      go_ret
      exact ⟨rfl, bup (bup (hA _ _) hB) hB2⟩
end Go.Proofs.YtfpegmeppgdklaaDoor
