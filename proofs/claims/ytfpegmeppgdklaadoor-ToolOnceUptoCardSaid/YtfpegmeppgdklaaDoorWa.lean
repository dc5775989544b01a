/-
  Walks of the references' small functions: blanks, names, whether a name is among some.
-/
import Derived.Test.YtfpegmeppgdklaaDoorChecked
import Derived.Test.YtfpegmeppgdklaaDoorBase
namespace Go.Proofs.YtfpegmeppgdklaaDoor
open Go.RowKit
def blankB (c : UInt8) : Bool := c == 32 || c == 9 || c == 10 || c == 12 || c == 13
theorem blankB_int (c : UInt8) : blankB c = ((c.toNat : Int) == 32 || (c.toNat : Int) == 9 || (c.toNat : Int) == 10 || (c.toNat : Int) == 12 || (c.toNat : Int) == 13) := by
  simp only [blankB, u8_beq]; rfl
set_option maxHeartbeats 400000 in
theorem blank_any (c : UInt8) (w : World) :
    Calls Tryd.prog 27 #[.int .u8 (c.toNat : Int)] w fun e w' => e = .returned (.bool (blankB c)) ∧ w' = w := by
  rw [blankB_int]
  generalize (c.toNat : Int) = x
  go_enter Tryd.func27, Tryd.ntmps27
  go_wp2
  all_goals go_ret
  all_goals refine ⟨?_, rfl⟩
  all_goals first | rfl | simp_all
def nameB (l : Str) : Bool := l.all (fun c => !blankB c) && !l.isEmpty
set_option maxHeartbeats 400000 in
theorem name_any (s : ByteArray) (w : World) (hs : s.size ≤ maxLen) :
    Calls Tryd.prog 16 #[.string s] w fun e w' => e = .returned (.bool (nameB s.data.toList)) ∧ w' = w := by
  unfold maxLen at hs
  go_enter Tryd.func16, Tryd.ntmps16
  go_wp2
  go_loop [3] (fun i => ∃ k : Nat, k ≤ s.size ∧ i = .int .i64 k ∧ (s.data.toList.take k).all (fun c => !blankB c) = true) (fun i => s.size - (intOf i).toNat)
  case atStart => exact ⟨0, Nat.zero_le _, rfl, rfl⟩
  case round =>
    obtain ⟨k, hk, rfl, hb⟩ := hrel
    have HB := Lib.hid hb; clear hb
    by_cases hlt : k < s.size
    · cases hb : blankB s[k]
      · go_wp2_with (go_at_call 27; refine (blank_any _ _).mono ?_; rintro e w' ⟨rfl, rfl⟩)
        go_round
        case rel => exact ⟨k + 1, by omega, by go_num, by rw [all_take_succ _ _ _ hlt, HB.out, hb]; rfl⟩
        case measure => simp [intOf]; omega
      · go_wp2_with (go_at_call 27; refine (blank_any _ _).mono ?_; rintro e w' ⟨rfl, rfl⟩)
        go_ret
        exact ⟨by rw [nameB, all_false_at _ _ _ hlt (by rw [hb]; rfl)]; rfl, rfl⟩
    · go_wp2
      go_ret
      refine ⟨?_, rfl⟩
      have := HB.out
      rw [take_all _ _ hlt] at this
      rw [nameB, this, ← ByteArray.toList_eq]
      rfl
/-- some among strings -/
theorem in_strs (v : Value) (zs : List ByteArray) (x : ByteArray) (w : World) (hv : StrsAt w v zs) (hl : zs.length ≤ 4611686018427387904) :
    Calls Tryd.prog 38 #[v, .string x] w fun e w' => e = .returned (.bool (zs.any fun y => y.toList == x.toList)) ∧ w' = w := by
  rcases hv with ⟨rfl, a, c, rfl⟩ | ⟨b, off, cap, rfl, hcap, h0, hc⟩
  · go_enter Tryd.func38, Tryd.ntmps38
    go_wp2
    go_loop [5] (fun i => i = .int .i64 0) (fun i => 0)
    case atStart => rfl
    case round =>
      subst hrel
      go_wp2
      go_ret
      exact ⟨rfl, rfl⟩
  · go_enter Tryd.func38, Tryd.ntmps38
    go_wp2
    go_loop [5] (fun i => ∃ k : Nat, k ≤ zs.length ∧ i = .int .i64 k ∧ ((zs.take k).any fun y => y.toList == x.toList) = false) (fun i => zs.length - (intOf i).toNat)
    case atStart => exact ⟨0, Nat.zero_le _, rfl, rfl⟩
    case round =>
      obtain ⟨k, hk, rfl, hb⟩ := hrel
      have HB := Lib.hid hb; clear hb
      by_cases hlt : k < zs.length
      · have hck := hc k hlt
        cases hb : zs[k].toList == x.toList
        · go_wp2
          go_round
          case rel => exact ⟨k + 1, by omega, by go_num, by rw [any_take_succ _ _ _ hlt, HB.out, hb]; rfl⟩
          case measure => simp [intOf]; omega
        · go_wp2
          go_ret
          exact ⟨ret_bool (any_true_at (fun y => y.toList == x.toList) _ k hlt hb).symm, rfl⟩
      · go_wp2
        go_ret
        have := HB.out
        rw [List.take_of_length_le (by omega)] at this
        exact ⟨ret_bool this.symm, rfl⟩
theorem in_any (v : Value) (ss : List Str) (x : Str) (w : World) (hv : SAt w v ss) (hl : ss.length ≤ 4611686018427387904) :
    Calls Tryd.prog 38 #[v, .string (bs x)] w fun e w' => e = .returned (.bool (inB ss x)) ∧ w' = w := by
  have h := in_strs v (ss.map bs) (bs x) w hv (by simpa using hl)
  have e : ((ss.map bs).any fun y => y.toList == (bs x).toList) = inB ss x := by
    rw [inB, List.any_map]; congr 1; funext y; simp only [Function.comp, bs_toList]
  rw [e] at h
  exact h
end Go.Proofs.YtfpegmeppgdklaaDoor
