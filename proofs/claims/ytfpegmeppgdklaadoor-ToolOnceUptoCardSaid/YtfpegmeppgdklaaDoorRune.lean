/-
  strings.IndexRune of a rune beyond ASCII in a string of ASCII bytes alone: -1.
-/
import Derived.Test.YtfpegmeppgdklaaDoorShelf
import Derived.Test.YtfpegmeppgdklaaDoorBase
import Derived.Deep.LoopGhost
import Derived.Laws.RangeString
import Derived.Laws.RangeAny
import Derived.Lib.IndexAny
namespace Go.Proofs.YtfpegmeppgdklaaDoor
open Go.RowKit
set_option maxHeartbeats 4000000 in
set_option maxRecDepth 1000000 in
theorem irune_err (s : ByteArray) (w : World) (ha : ∀ (i : Nat) (h : i < s.size), (s[i]'h).toNat < 128) :
    Calls Tryd.prog 58 #[.string s, .int .i32 65533] w fun e w' => e = .returned (.int .i64 (-1)) ∧ Below w.heap.size w w' := by
  have HA := Lib.hid ha; clear ha
  go_enter Tryd.func58, Tryd.ntmps58
  go_wp2
  go_loopg [5, 6] s.size (fun g _ _ wx => ∃ i : Nat, i + g = s.size ∧ wx = w.iter s i)
  case atStart => exact ⟨0, by omega, rfl⟩
  case round =>
    obtain ⟨i, hig, rfl⟩ := hrel
    cases gk with
    | zero =>
      obtain rfl : i = s.size := by omega
      have hnx := run_next_end (P := Tryd.prog) w s s.size
      go_wp2
      go_ret
      exact ⟨rfl, below_alloc _ _⟩
    | succ g =>
      have hi : i < s.size := by omega
      have hx128 := HA.out i hi
      have hnx := fun ty => run_next_ascii (P := Tryd.prog) w s i ty hi hx128
      have hne : ((s[i].toNat : Int) == 65533) = false := beq_eq_false_iff_ne.2 (by omega)
      go_wp2
      go_roundg g
      case measure => omega
      case rel => exact ⟨i + 1, by omega, rfl⟩
set_option maxHeartbeats 4000000 in
set_option maxRecDepth 1000000 in
theorem irune_bad (s : ByteArray) (r : Int) (w : World) (h1 : 128 ≤ r) (h2 : r ≠ 65533) (h3 : Lib.validRune r = false) :
    Calls Tryd.prog 58 #[.string s, .int .i32 r] w fun e w' => e = .returned (.int .i64 (-1)) ∧ Below w.heap.size w w' := by
  have hne : (r == 65533) = false := beq_eq_false_iff_ne.2 h2
  clear h2
  go_enter Tryd.func58, Tryd.ntmps58
  go_wp2_with fail
  refine (Tryd.utf8_ValidRune _ _).mono ?_
  rintro e w' ⟨rfl, rfl⟩
  rw [h3]
  go_wp2
  go_ret
  exact ⟨rfl, Below.refl _ _⟩
theorem valid_eq (r : Int) : Utf8.valid r = Lib.validRune r := by
  unfold Utf8.valid Lib.validRune
  rw [Bool.eq_iff_iff]; simp only [Bool.or_eq_true, Bool.and_eq_true, decide_eq_true_eq]; omega
theorem idx_none (l : Str) (c : UInt8) (h : ∀ b ∈ l, b ≠ c) : Lib.indexByte l c = -1 := by
  induction l with
  | nil => rfl
  | cons b l ih =>
    have h1 : (b == c) = false := beq_eq_false_iff_ne.2 (h b (by simp))
    have h2 := ih fun x hx => h x (by simp [hx])
    rw [Lib.indexByte, if_neg (by simp [h1]), h2]; rfl
set_option maxHeartbeats 4000000 in
set_option maxRecDepth 1000000 in
theorem irune_good (s : ByteArray) (r : Int) (w : World) (hs : s.size ≤ 1000000) (h4 : 4 ≤ s.size) (ha : ∀ (i : Nat) (h : i < s.size), (s[i]'h).toNat < 128) (h1 : 128 ≤ r) (h2 : r ≠ 65533) (h3 : Lib.validRune r = true) :
    Calls Tryd.prog 58 #[.string s, .int .i32 r] w fun e w' => e = .returned (.int .i64 (-1)) ∧ Below w.heap.size w w' := by
  have hne : (r == 65533) = false := beq_eq_false_iff_ne.2 h2
  clear h2
  obtain ⟨f1, f2, f3⟩ := encode_facts r ((valid_eq r).trans h3) h1
  have hcv := fun w => run_convert_int_string (P := Tryd.prog) w 21 9 .i32 r (by kernel_rfl) Tryd.underlying9
  generalize Utf8.encode r = rs at *
  obtain ⟨n, hn⟩ : ∃ n, rs.size = n + 1 := ⟨rs.size - 1, by omega⟩
  have hnl : n < rs.size := by omega
  have hns : n < s.size := by omega
  have f4 : 128 ≤ rs[n].toNat := by
    have e : rs.size - 1 = n := by omega
    have := f3 (by omega)
    simpa only [e] using this
  have f5 := ha n hns
  have hib : ∀ w : World, Calls Tryd.prog 77 #[.string (s.extract (n + 1) s.size), .int .u8 (rs[n].toNat : Int)] w fun e w' => e = .returned (.int .i64 (-1)) ∧ w' = w := fun w => by
    have h := Tryd.strings_IndexByte (s.extract (n + 1) s.size) (rs[n].toNat : Int) w
    rw [idx_none _ _ ?_] at h
    · exact h
    · intro b hb
      rw [Lib.extract_data] at hb
      have hb2 := List.mem_of_mem_drop (List.mem_of_mem_take hb)
      obtain ⟨j, hj, e⟩ := List.getElem_of_mem hb2
      have hj2 : j < s.size := by rw [ba_len] at hj; exact hj
      have := ha j hj2
      have e2 : s[j] = b := e
      rw [e2] at this
      intro e3
      rw [e3] at this
      simp at this
      omega
  have hnz : ((s[n].toNat : Int) != (rs[n].toNat : Int)) = true := by rw [bne_iff_ne]; omega
  have b1 : (0 : Int) ≤ (n : Int) := by omega
  have b2 : (n : Int) < (s.size : Int) := by omega
  have b3 : (n : Int) < (rs.size : Int) := by omega
  clear ha f3 f1 f4 f5
  have HIB := Lib.hid hib
  clear hib
  go_enter Tryd.func58, Tryd.ntmps58
  go_wp2_with fail
  refine (Tryd.utf8_ValidRune _ _).mono ?_
  rintro e w' ⟨rfl, rfl⟩
  rw [h3]
  go_wp2_with fail
  go_step3
  go_wp2_with fail
  go_loopg [9] 1 (fun g v9 wx => v9 = .int .i64 n ∧ wx = w' ∧ g = 1)
  case atStart => exact ⟨rfl, rfl, rfl⟩
  case round =>
    obtain ⟨rfl, rfl, rfl⟩ := hrel
    clear hn
    go_wp2_with fail
    go_step3
    go_wp2_with fail
    go_quiet (fail)
    have hB5 := below_drewN (Below.refl wr.heap.size wr) nq
    generalize wr.drewN nq = w5 at hB5 ⊢
    go_wp2_with fail
    have q1 : IntKind.i64.wrap ((n : Int) + 1) = (n : Int) + 1 := IntWalk.i64_in _ (by omega)
    have q2 : (0 : Int) ≤ (n : Int) + 1 := by omega
    have q3 : ((n : Int) + 1).toNat = n + 1 := by omega
    have q4 : (n : Int) + 1 ≤ (s.size : Int) := by omega
    go_quiet ((go_at_call 77; exact Calls.quiet_of_same (HIB.out _)))
    go_wp2
    simp only [Exit.noGoto, Exit.inBlock, Exit.then]
    go_ret
    exact ⟨rfl, below_drewN hB5 _⟩
theorem irune_high (s : ByteArray) (r : Int) (w : World) (hs : s.size ≤ 1000000) (h4 : 4 ≤ s.size) (ha : ∀ (i : Nat) (h : i < s.size), (s[i]'h).toNat < 128) (h1 : 128 ≤ r) :
    Calls Tryd.prog 58 #[.string s, .int .i32 r] w fun e w' => e = .returned (.int .i64 (-1)) ∧ Below w.heap.size w w' := by
  by_cases h : r = 65533
  · subst h
    exact irune_err s w ha
  · cases h3 : Lib.validRune r
    · exact irune_bad s r w h1 h h3
    · exact irune_good s r w hs h4 ha h1 h h3
end Go.Proofs.YtfpegmeppgdklaaDoor
