/-
  winnowinglaw22.ToolBack.
-/
import Derived.Test.YtfpegmeppgdklaaDoorToolL
import Derived.Test.YtfpegmeppgdklaaDoorSmall
namespace Go.Proofs.YtfpegmeppgdklaaDoor
open Go.RowKit
set_option maxRecDepth 100000 in
set_option maxHeartbeats 4000000 in
theorem toolBack_any (v1 v2 : Value) (cls att : List Str) (crit : Bool) (s : ByteArray) (w : World) (hg : Glob w) (h1 : SAt w v1 cls) (h2 : SAt w v2 att)
    (f1 : v1 = .slice none 0 0 ∨ ∃ a n c, v1 = .slice (some a) n c) (f2 : v2 = .slice none 0 0 ∨ ∃ a n c, v2 = .slice (some a) n c) (hl : cls.length + att.length ≤ 2000000) :
    Calls Tryd.prog 3 #[.agg #[v1, v2, .bool crit], .string s] w fun e w' => e = .returned (.bool true) ∧ Below w.heap.size w w' := by
  obtain ⟨p1, c1, rfl⟩ := h1.form_len
  obtain ⟨p2, c2, rfl⟩ := h2.form_len
  have SM := Lib.hid fun w' (hb : Below w.heap.size w w') => small_any _ _ cls att crit w' (h1.below hb) (h2.below hb) f1 f2 hl
  have hA0 := below_alloc w (.cells #[.slice p1 cls.length c1, .slice p2 att.length c2, .bool crit] 26)
  have hz0 : w.heap.size < (w.alloc (.cells #[.slice p1 cls.length c1, .slice p2 att.length c2, .bool crit] 26)).heap.size := by simp
  clear f1 f2
  cases hsm : smallB (cls ++ att)
  · rw [hsm] at SM
    go_enter Tryd.func3, Tryd.ntmps3
    go_wp2_with fail
    refine (fixed_any _ (hg.below hA0)).mono ?_
    rintro e w1 ⟨rfl, hB1⟩
    obtain ⟨hd1, hf1⟩ := bcell hB1
    have hz1 : w.heap.size < w1.heap.size := Nat.lt_of_lt_of_le hz0 hB1.size
    have hC1 := bup hA0 hB1
    go_wp2_with fail
    refine (SM.out _ hC1).mono ?_
    rintro e w2 ⟨rfl, hB2⟩
    have hC2 := bup hC1 hB2
    go_wp2_with fail
    refine (fixed_any _ (hg.below hC2)).mono ?_
    rintro e w3 ⟨rfl, hB3⟩
    go_wp2
    go_ret
    exact ⟨rfl, bup hC2 hB3⟩
  · rw [hsm] at SM
    by_cases hs : s.size ≤ 1000
    · rw [smallB_iff] at hsm
      have hn : cls.length + att.length ≤ 60 := by have := hsm.1; simpa using this
      have hCs : ShortC 100 ⟨cls, att, crit⟩ := ⟨fun x hx => hsm.2 x (List.mem_append_left _ hx), fun x hx => hsm.2 x (List.mem_append_right _ hx)⟩
      have hC : CfgAt w (.agg #[.slice p1 cls.length c1, .slice p2 att.length c2, .bool crit]) ⟨cls, att, crit⟩ := ⟨_, _, rfl, h1, h2, by simp; omega, by simp; omega⟩
      have htC := text_len hCs (by omega) (by simpa using hn)
      have MC := Lib.hid fun w' (hb : Below w.heap.size w w') => rmay_any _ _ w' (hC.below hb) (szd_of hCs (by omega))
      have TC := Lib.hid fun w' (hb : Below w.heap.size w w') => text_any _ _ w' (hC.below hb) (by omega)
      have HC := Lib.hid hC
      have hBC := Lib.hid (fun h => back_text (c := ⟨cls, att, crit⟩) h)
      obtain ⟨C, hCe⟩ : ∃ C : Cfg, C = ⟨cls, att, crit⟩ := ⟨_, rfl⟩
      rw [← hCe] at MC TC HC hBC htC
      obtain ⟨A, hAe⟩ : ∃ A, (parseM s.data.toList).1 = A := ⟨_, rfl⟩
      obtain ⟨o, hoe⟩ : ∃ o, (parseM s.data.toList).2.2 = o := ⟨_, rfl⟩
      have hAm : mayB A = true := by rw [← hAe]; exact parse_may _
      have hA20 := may_20 hAm
      have hAs : ShortC 1000 A := by
        have h9 := parse_short s.data.toList
        rw [hAe, ba_len] at h9
        exact ⟨fun x hx => Nat.le_trans (h9.1 x hx) hs, fun x hx => Nat.le_trans (h9.2 x hx) hs⟩
      have htA := text_len hAs (by omega) (by have := hA20.1; have := hA20.2; omega)
      have PS := Lib.hid fun w' hg' => parse_to s A o w' (by omega) hg' hAe hoe
      have TA := Lib.hid fun va w' (h : CfgAt w' va A) => text_any va A w' h (by omega)
      have PA := Lib.hid fun w' hg' => parse_to (bs (textM A)) A true w' (by rw [bs_size]; omega) hg' (by rw [bs_data]; exact (back_text hAm).1) (by rw [bs_data]; exact (back_text hAm).2)
      have MA := Lib.hid fun va w' (h : CfgAt w' va A) => may_any va A w' h (szd_of hAs (by omega))
      have RA := Lib.hid fun va w' (h : CfgAt w' va A) => rmay_any va A w' h (szd_of hAs (by omega))
      rw [hAm] at MA RA
      have PC := Lib.hid fun (h : mayB C = true) w' hg' => parse_to (bs (textM C)) C true w' (by rw [bs_size]; omega) hg' (by rw [bs_data]; exact (hBC.out h).1) (by rw [bs_data]; exact (hBC.out h).2)
      have HG := Lib.hid fun w' (hb : Below w.heap.size w w') => hg.below hb
      obtain ⟨q, hq⟩ : ∃ q, mayB C = q := ⟨_, rfl⟩
      rw [hq] at MC PC
      clear hAe hoe hAm hA20 hAs htA hCs htC hsm hl hn hCe hq hBC hC h1 h2
      generalize bs (textM A) = tA at TA PA
      generalize bs (textM C) = tC at TC PC
      cases o
      · go_enter Tryd.func3, Tryd.ntmps3
        go_wp2_with fail
        refine (fixed_any _ (hg.below hA0)).mono ?_
        rintro e w1 ⟨rfl, hB1⟩
        obtain ⟨hd1, hf1⟩ := bcell hB1
        have hz1 : w.heap.size < w1.heap.size := Nat.lt_of_lt_of_le hz0 hB1.size
        have hC1 := bup hA0 hB1
        go_wp2_with fail
        refine (SM.out _ hC1).mono ?_
        rintro e w2 ⟨rfl, hB2⟩
        obtain ⟨hd2, hf2⟩ := bcell hB2
        have hz2 : w.heap.size < w2.heap.size := Nat.lt_of_lt_of_le hz1 hB2.size
        have hC2 := bup hC1 hB2
        go_wp2_with fail
        refine (PS.out _ (HG.out _ hC2)).mono ?_
        rintro e w3 ⟨a1, n1, b1, a2, n2, b2, k, n, rfl, -, hc3, hB3⟩
        obtain ⟨hd3, hf3⟩ := bcell hB3
        have hz3 : w.heap.size < w3.heap.size := Nat.lt_of_lt_of_le hz2 hB3.size
        have hC3 := bup hC2 hB3
        have hA3 := below_alloc w3 (.cells #[.slice a1 n1 b1, .slice a2 n2 b2, .bool k] 26)
        have hC3' := bup hC3 hA3
        go_wp2_with fail
        refine (MC.out _ hC3').mono ?_
        rintro e w4 ⟨rfl, hB4⟩
        obtain ⟨hd4, hf4⟩ := bcell hB4
        have hz4 : w.heap.size < w4.heap.size := by have := hB4.size; simp at this; omega
        have hC4 := bup hC3' hB4
        cases q
        · go_wp2
          go_ret
          exact ⟨rfl, hC4⟩
        · go_wp2_with fail
          refine (TC.out _ hC4).mono ?_
          rintro e w5 ⟨rfl, hB5⟩
          obtain ⟨hd5, hf5⟩ := bcell hB5
          have hz5 : w.heap.size < w5.heap.size := Nat.lt_of_lt_of_le hz4 hB5.size
          have hC5 := bup hC4 hB5
          go_wp2_with fail
          refine (PC.out trivial _ (HG.out _ hC5)).mono ?_
          rintro e w6 ⟨e1, m1, d1, e2, m2, d2, k2, m, rfl, -, hc6, hB6⟩
          obtain ⟨hd6, hf6⟩ := bcell hB6
          have hz6 : w.heap.size < w6.heap.size := Nat.lt_of_lt_of_le hz5 hB6.size
          have hC6 := bup hC5 hB6
          have hA6 := below_alloc w6 (.cells #[.slice e1 m1 d1, .slice e2 m2 d2, .bool k2] 26)
          have hC6' := bup hC6 hA6
          go_wp2_with fail
          refine (rsame_any _ _ _ _ _ (HC.out.below hC6') (hc6.below hA6)).mono ?_
          rintro e w7 ⟨rfl, hB7⟩
          rw [same_refl]
          go_wp2
          go_ret
          exact ⟨rfl, bup hC6' hB7⟩
      · go_enter Tryd.func3, Tryd.ntmps3
        go_wp2_with fail
        refine (fixed_any _ (hg.below hA0)).mono ?_
        rintro e w1 ⟨rfl, hB1⟩
        obtain ⟨hd1, hf1⟩ := bcell hB1
        have hz1 : w.heap.size < w1.heap.size := Nat.lt_of_lt_of_le hz0 hB1.size
        have hC1 := bup hA0 hB1
        go_wp2_with fail
        refine (SM.out _ hC1).mono ?_
        rintro e w2 ⟨rfl, hB2⟩
        obtain ⟨hd2, hf2⟩ := bcell hB2
        have hz2 : w.heap.size < w2.heap.size := Nat.lt_of_lt_of_le hz1 hB2.size
        have hC2 := bup hC1 hB2
        go_wp2_with fail
        refine (PS.out _ (HG.out _ hC2)).mono ?_
        rintro e w3 ⟨a1, n1, b1, a2, n2, b2, k, n, rfl, -, hc3, hB3⟩
        obtain ⟨hd3, hf3⟩ := bcell hB3
        have hz3 : w.heap.size < w3.heap.size := Nat.lt_of_lt_of_le hz2 hB3.size
        have hC3 := bup hC2 hB3
        have hA3 := below_alloc w3 (.cells #[.slice a1 n1 b1, .slice a2 n2 b2, .bool k] 26)
        have hC3' := bup hC3 hA3
        have hca3 := hc3.below hA3
        go_wp2_with fail
        refine (TA.out _ _ hca3).mono ?_
        rintro e x4 ⟨rfl, hX4⟩
        obtain ⟨he4, hg4⟩ := bcell hX4
        have hy4 : w.heap.size < x4.heap.size := by have := hX4.size; simp at this; omega
        have hy4' : w3.heap.size < x4.heap.size := by have := hX4.size; simp at this; omega
        have hX4' := bup hC3' hX4
        have hcx4 := hca3.below hX4
        go_wp2_with fail
        refine (PA.out _ (HG.out _ hX4')).mono ?_
        rintro e x5 ⟨g1, r1, s1, g2, r2, s2, k5, n5, rfl, -, hc5, hX5⟩
        obtain ⟨he5, hg5⟩ := bcell hX5
        have hy5 : w.heap.size < x5.heap.size := Nat.lt_of_lt_of_le hy4 hX5.size
        have hy5' : w3.heap.size < x5.heap.size := Nat.lt_of_lt_of_le hy4' hX5.size
        have hX5' := bup hX4' hX5
        have hcx5 := hcx4.below hX5
        have hA5 := below_alloc x5 (.cells #[.slice g1 r1 s1, .slice g2 r2 s2, .bool k5] 26)
        have hX5a := bup hX5' hA5
        have hcx5a := hcx5.below hA5
        have hc5a := hc5.below hA5
        go_wp2_with fail
        refine (MA.out _ _ hcx5a).mono ?_
        rintro e x6 ⟨rfl, hX6⟩
        obtain ⟨he6, hg6⟩ := bcell hX6
        have hy6 : w.heap.size < x6.heap.size := by have := hX6.size; simp at this; omega
        have hy6' : w3.heap.size < x6.heap.size := by have := hX6.size; simp at this; omega
        have hy6'' : x5.heap.size < x6.heap.size := by have := hX6.size; simp at this; omega
        have hX6' := bup hX5a hX6
        have hcx6 := hcx5a.below hX6
        have hc6 := hc5a.below hX6
        go_wp2_with fail
        refine (RA.out _ _ hcx6).mono ?_
        rintro e x7 ⟨rfl, hX7⟩
        obtain ⟨he7, hg7⟩ := bcell hX7
        have hy7 : w.heap.size < x7.heap.size := Nat.lt_of_lt_of_le hy6 hX7.size
        have hy7' : w3.heap.size < x7.heap.size := Nat.lt_of_lt_of_le hy6' hX7.size
        have hy7'' : x5.heap.size < x7.heap.size := Nat.lt_of_lt_of_le hy6'' hX7.size
        have hX7' := bup hX6' hX7
        have hcx7 := hcx6.below hX7
        have hc7 := hc6.below hX7
        go_wp2_with fail
        refine (rsame_any _ _ _ _ _ hcx7 hc7).mono ?_
        rintro e x8 ⟨rfl, hX8⟩
        rw [same_refl]
        obtain ⟨he8, hg8⟩ := bcell hX8
        have hy8 : w.heap.size < x8.heap.size := Nat.lt_of_lt_of_le hy7 hX8.size
        have hX8' := bup hX7' hX8
        go_wp2_with fail
        refine (MC.out _ hX8').mono ?_
        rintro e w4 ⟨rfl, hB4⟩
        obtain ⟨hd4, hf4⟩ := bcell hB4
        have hz4 : w.heap.size < w4.heap.size := Nat.lt_of_lt_of_le hy8 hB4.size
        have hC4 := bup hX8' hB4
        cases q
        · go_wp2
          go_ret
          exact ⟨rfl, hC4⟩
        · go_wp2_with fail
          refine (TC.out _ hC4).mono ?_
          rintro e w5 ⟨rfl, hB5⟩
          obtain ⟨hd5, hf5⟩ := bcell hB5
          have hz5 : w.heap.size < w5.heap.size := Nat.lt_of_lt_of_le hz4 hB5.size
          have hC5 := bup hC4 hB5
          go_wp2_with fail
          refine (PC.out trivial _ (HG.out _ hC5)).mono ?_
          rintro e w6 ⟨e1, m1, d1, e2, m2, d2, k2, m, rfl, -, hc6, hB6⟩
          obtain ⟨hd6, hf6⟩ := bcell hB6
          have hz6 : w.heap.size < w6.heap.size := Nat.lt_of_lt_of_le hz5 hB6.size
          have hC6 := bup hC5 hB6
          have hA6 := below_alloc w6 (.cells #[.slice e1 m1 d1, .slice e2 m2 d2, .bool k2] 26)
          have hC6' := bup hC6 hA6
          go_wp2_with fail
          refine (rsame_any _ _ _ _ _ (HC.out.below hC6') (hc6.below hA6)).mono ?_
          rintro e w7 ⟨rfl, hB7⟩
          rw [same_refl]
          go_wp2
          go_ret
          exact ⟨rfl, bup hC6' hB7⟩
    · go_enter Tryd.func3, Tryd.ntmps3
      go_wp2_with fail
      refine (fixed_any _ (hg.below hA0)).mono ?_
      rintro e w1 ⟨rfl, hB1⟩
      obtain ⟨hd1, hf1⟩ := bcell hB1
      have hz1 : w.heap.size < w1.heap.size := Nat.lt_of_lt_of_le hz0 hB1.size
      have hC1 := bup hA0 hB1
      go_wp2_with fail
      refine (SM.out _ hC1).mono ?_
      rintro e w2 ⟨rfl, hB2⟩
      have hC2 := bup hC1 hB2
      go_wp2_with fail
      refine (fixed_any _ (hg.below hC2)).mono ?_
      rintro e w3 ⟨rfl, hB3⟩
      go_wp2
      go_ret
      exact ⟨rfl, bup hC2 hB3⟩
end Go.Proofs.YtfpegmeppgdklaaDoor
