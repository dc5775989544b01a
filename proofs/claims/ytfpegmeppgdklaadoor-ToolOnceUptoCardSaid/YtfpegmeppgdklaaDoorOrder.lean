/-
  winnowinglaw22.ToolOrder.
-/
import Derived.Test.YtfpegmeppgdklaaDoorFixed
import Derived.Test.YtfpegmeppgdklaaDoorLines
import Derived.Test.YtfpegmeppgdklaaDoorPlain
namespace Go.Proofs.YtfpegmeppgdklaaDoor
open Go.RowKit
theorem CfgAt.form {w : World} {v : Value} {c : Cfg} (h : CfgAt w v c) : ∃ a1 n1 c1 a2 n2 c2 k, v = .agg #[.slice a1 n1 c1, .slice a2 n2 c2, .bool k] := by
  obtain ⟨v1, v2, rfl, h1, h2, -, -⟩ := h
  obtain ⟨a1, c1, rfl⟩ := h1.form_len
  obtain ⟨a2, c2, rfl⟩ := h2.form_len
  exact ⟨_, _, _, _, _, _, _, rfl⟩
theorem order_x (s a b : ByteArray) : (s ++ (⟨#[10, 99, 108, 97, 115, 115, 32]⟩ : ByteArray) ++ a ++ (⟨#[10, 97, 116, 116, 114, 32]⟩ : ByteArray) ++ b ++ (⟨#[10, 99, 114, 105, 116, 105, 99, 97, 108]⟩ : ByteArray)).data.toList = s.data.toList ++ 10 :: clsL a.data.toList ++ 10 :: attL b.data.toList ++ 10 :: criticalS := by
  simp only [ba_app, clsL, attL, classS, attrS, criticalS, List.append_assoc, List.cons_append, List.nil_append]
theorem order_y (s a b : ByteArray) : (s ++ (⟨#[10, 99, 114, 105, 116, 105, 99, 97, 108, 10, 97, 116, 116, 114, 32]⟩ : ByteArray) ++ b ++ (⟨#[10, 99, 108, 97, 115, 115, 32]⟩ : ByteArray) ++ a).data.toList = s.data.toList ++ 10 :: criticalS ++ 10 :: attL b.data.toList ++ 10 :: clsL a.data.toList := by
  simp only [ba_app, clsL, attL, classS, attrS, criticalS, List.append_assoc, List.cons_append, List.nil_append]
/-- tool.Parse, at a text of a config and a sign that are told -/
theorem parse_to (s : ByteArray) (c : Cfg) (o : Bool) (w : World) (hs : s.size ≤ 1000000) (hg : Glob w) (h1 : (parseM s.data.toList).1 = c) (h2 : (parseM s.data.toList).2.2 = o) :
    Calls Tryd.prog 9 #[.string s] w fun e w' => ∃ a1 n1 c1 a2 n2 c2 k n, e = .returned (.tuple #[.agg #[.slice a1 n1 c1, .slice a2 n2 c2, .bool k], .int .i64 n, .int .i64 (if o then 0 else 220)]) ∧ Hid (n = (parseM s.data.toList).2.1) ∧ CfgAt w' (.agg #[.slice a1 n1 c1, .slice a2 n2 c2, .bool k]) c ∧ Below w.heap.size w w' := by
  refine (parse_any s w hs hg).mono ?_
  rintro e w' ⟨v, rfl, h3, h4⟩
  rw [h2]
  rw [h1] at h3
  obtain ⟨a1, n1, c1, a2, n2, c2, k, rfl⟩ := h3.form
  exact ⟨_, _, _, _, _, _, _, _, rfl, rfl, h3, h4⟩
/-- R22.Lines, at a text of a number of lines that is told -/
theorem lines_to (s : ByteArray) (n : Nat) (w : World) (hs : s.size ≤ 1000000) (h : (linesM s.data.toList).length = n) :
    Calls Tryd.prog 14 #[.string s] w fun e w' => ∃ va vc, e = .returned (.slice va n vc) ∧ Below w.heap.size w w' := by
  refine (lines_any s w hs).mono ?_
  rintro e w' ⟨v, rfl, hv, hB⟩
  obtain ⟨va, vc, rfl⟩ := hv.form_len
  rw [h]
  exact ⟨_, _, rfl, hB⟩
set_option maxHeartbeats 2000000 in
theorem toolOrder_any (s a b : ByteArray) (w : World) (hg : Glob w) :
    Calls Tryd.prog 6 #[.string s, .string a, .string b] w fun e w' => e = .returned (.bool true) ∧ Below w.heap.size w w' := by
  by_cases h1 : s.size ≤ 200
  · by_cases h2 : a.size ≤ 200
    · by_cases h3 : b.size ≤ 200
      · have hab : (a ++ b).size ≤ 1000000 := by rw [ByteArray.size_append]; omega
        have hno : ¬ 9223372036854775807 < a.size + b.size := by omega
        have hor' := parseM_order s.data.toList a.data.toList b.data.toList
        rw [← ba_app] at hor'
        obtain ⟨nl, hnl⟩ : ∃ n, n = (linesM (a ++ b).data.toList).length := ⟨_, rfl⟩
        rw [← hnl] at hor'
        have LN := Lib.hid fun w => lines_to _ nl w hab hnl.symm
        clear hnl hab
        by_cases h4 : nl ≤ 1
        · have hor := hor' h4
          clear hor'
          rw [← order_x, ← order_y] at hor
          have hsx : (s ++ (⟨#[10, 99, 108, 97, 115, 115, 32]⟩ : ByteArray) ++ a ++ (⟨#[10, 97, 116, 116, 114, 32]⟩ : ByteArray) ++ b ++ (⟨#[10, 99, 114, 105, 116, 105, 99, 97, 108]⟩ : ByteArray)).size ≤ 1000000 := by
            simp only [ByteArray.size_append]
            have z1 : (⟨#[10, 99, 108, 97, 115, 115, 32]⟩ : ByteArray).size = 7 := rfl
            have z2 : (⟨#[10, 97, 116, 116, 114, 32]⟩ : ByteArray).size = 6 := rfl
            have z3 : (⟨#[10, 99, 114, 105, 116, 105, 99, 97, 108]⟩ : ByteArray).size = 9 := rfl
            omega
          have hsy : (s ++ (⟨#[10, 99, 114, 105, 116, 105, 99, 97, 108, 10, 97, 116, 116, 114, 32]⟩ : ByteArray) ++ b ++ (⟨#[10, 99, 108, 97, 115, 115, 32]⟩ : ByteArray) ++ a).size ≤ 1000000 := by
            simp only [ByteArray.size_append]
            have z1 : (⟨#[10, 99, 114, 105, 116, 105, 99, 97, 108, 10, 97, 116, 116, 114, 32]⟩ : ByteArray).size = 15 := rfl
            have z2 : (⟨#[10, 99, 108, 97, 115, 115, 32]⟩ : ByteArray).size = 7 := rfl
            omega
          obtain ⟨c, hc⟩ : ∃ c, c = (parseM (s ++ (⟨#[10, 99, 108, 97, 115, 115, 32]⟩ : ByteArray) ++ a ++ (⟨#[10, 97, 116, 116, 114, 32]⟩ : ByteArray) ++ b ++ (⟨#[10, 99, 114, 105, 116, 105, 99, 97, 108]⟩ : ByteArray)).data.toList).1 := ⟨_, rfl⟩
          obtain ⟨o, ho⟩ : ∃ o, o = (parseM (s ++ (⟨#[10, 99, 108, 97, 115, 115, 32]⟩ : ByteArray) ++ a ++ (⟨#[10, 97, 116, 116, 114, 32]⟩ : ByteArray) ++ b ++ (⟨#[10, 99, 114, 105, 116, 105, 99, 97, 108]⟩ : ByteArray)).data.toList).2.2 := ⟨_, rfl⟩
          have PX := Lib.hid fun w hg => parse_to _ c o w hsx hg hc.symm ho.symm
          have PY := Lib.hid fun w hg => parse_to _ c o w hsy hg (hor.2.symm.trans hc.symm) (hor.1.symm.trans ho.symm)
          clear hsx hsy hc ho hor
          cases o
          all_goals
            go_enter Tryd.func6, Tryd.ntmps6
            go_wp2_with fail
            refine (fixed_any _ hg).mono ?_
            rintro e w1 ⟨rfl, hB1⟩
            go_wp2_with fail
            refine (LN.out _).mono ?_
            rintro e w2 ⟨va, vc, rfl, hB2⟩
            have hB12 := bup hB1 hB2
            go_wp2_with fail
            refine (PX.out _ (hg.below hB12)).mono ?_
            rintro e w3 ⟨a1, n1, c1, a2, n2, c2, k, n, rfl, -, hc3, hB3⟩
            have hB13 := bup hB12 hB3
            have hA := below_alloc w3 (.cells #[.slice a1 n1 c1, .slice a2 n2 c2, .bool k] 26)
            go_wp2_with fail
            refine (PY.out _ (hg.below (bup hB13 hA))).mono ?_
            rintro e w4 ⟨b1, m1, d1, b2, m2, d2, k2, m, rfl, -, hc4, hB4⟩
            obtain ⟨hd4, hf4⟩ := bcell hB4
            have hz4 : w3.heap.size < w4.heap.size := by have := hB4.size; simp at this; omega
            have hB14 := bup (bup hB13 hA) hB4
            have hcx := hc3.below (bup hA hB4)
            have hA4 := below_alloc w4 (.cells #[.slice b1 m1 d1, .slice b2 m2 d2, .bool k2] 26)
          · go_wp2
            go_ret
            exact ⟨rfl, bup hB14 hA4⟩
          · go_wp2_with fail
            refine (rsame_any _ _ _ _ _ (hcx.below hA4) (hc4.below hA4)).mono ?_
            rintro e w5 ⟨rfl, hB5⟩
            rw [same_refl]
            go_wp2
            go_ret
            exact ⟨rfl, bup (bup hB14 hA4) hB5⟩
        · clear hor'
          go_enter Tryd.func6, Tryd.ntmps6
          go_wp2_with fail
          refine (fixed_any _ hg).mono ?_
          rintro e w1 ⟨rfl, hB1⟩
          go_wp2_with fail
          refine (LN.out _).mono ?_
          rintro e w2 ⟨va, vc, rfl, hB2⟩
          go_wp2_with fail
          refine (fixed_any _ (hg.below (bup hB1 hB2))).mono ?_
          rintro e w3 ⟨rfl, hB3⟩
          go_wp2
          go_ret
          exact ⟨rfl, bup (bup hB1 hB2) hB3⟩
      · go_enter Tryd.func6, Tryd.ntmps6
        go_wp2_with fail
        refine (fixed_any _ hg).mono ?_
        rintro e w1 ⟨rfl, hB1⟩
        go_wp2_with fail
        refine (fixed_any _ (hg.below hB1)).mono ?_
        rintro e w3 ⟨rfl, hB3⟩
        go_wp2
        go_ret
        exact ⟨rfl, bup hB1 hB3⟩
    · go_enter Tryd.func6, Tryd.ntmps6
      go_wp2_with fail
      refine (fixed_any _ hg).mono ?_
      rintro e w1 ⟨rfl, hB1⟩
      go_wp2_with fail
      refine (fixed_any _ (hg.below hB1)).mono ?_
      rintro e w3 ⟨rfl, hB3⟩
      go_wp2
      go_ret
      exact ⟨rfl, bup hB1 hB3⟩
  · go_enter Tryd.func6, Tryd.ntmps6
    go_wp2_with fail
    refine (fixed_any _ hg).mono ?_
    rintro e w1 ⟨rfl, hB1⟩
    go_wp2_with fail
    refine (fixed_any _ (hg.below hB1)).mono ?_
    rintro e w3 ⟨rfl, hB3⟩
    go_wp2
    go_ret
    exact ⟨rfl, bup hB1 hB3⟩
end Go.Proofs.YtfpegmeppgdklaaDoor
