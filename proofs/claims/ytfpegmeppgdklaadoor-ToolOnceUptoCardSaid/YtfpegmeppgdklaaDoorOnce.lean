/-
  winnowinglaw22.ToolOnce.
-/
import Derived.Test.YtfpegmeppgdklaaDoorToolL
import Derived.Test.YtfpegmeppgdklaaDoorSmall
namespace Go.Proofs.YtfpegmeppgdklaaDoor
open Go.RowKit
/-- tool.Line, at a line whose answer is told -/
theorem line_tell (v : Value) (c : Cfg) (S : ByteArray) (w : World) (d : Cfg) (r : Bool) (n1 n2 : Nat) (hv : CfgAt w v c) (hx : S.size ≤ 1000000) (hg : Glob w) (h20 : Small20 c) (h : lineM c S.data.toList = (d, r)) (hn1 : d.cls.length = n1) (hn2 : d.att.length = n2) :
    Calls Tryd.prog 15 #[v, .string S] w fun e w' => ∃ a1 c1 a2 c2, e = .returned (.tuple #[.agg #[.slice a1 n1 c1, .slice a2 n2 c2, .bool d.crit], .bool r]) ∧ CfgAt w' (.agg #[.slice a1 n1 c1, .slice a2 n2 c2, .bool d.crit]) d ∧ Below w.heap.size w w' := by
  refine (line_any v c S w 0 (Nat.zero_le _) hv.in0 hx hg (by have := h20.1; omega) (by have := h20.2; omega)).mono ?_
  rintro e w' ⟨v, rfl, h1, h2⟩
  rw [h] at *
  obtain ⟨v1, v2, rfl, k1, k2, k3⟩ := h1.at
  obtain ⟨p1, c1, rfl⟩ := k1.form_len
  obtain ⟨p2, c2, rfl⟩ := k2.form_len
  subst hn1 hn2
  exact ⟨_, _, _, _, rfl, ⟨_, _, rfl, k1, k2, k3⟩, h2⟩
theorem cls_bytes (n : ByteArray) : ((⟨#[99, 108, 97, 115, 115, 32]⟩ : ByteArray) ++ n).data.toList = clsL n.data.toList := by
  rw [ba_app]; simp [clsL, classS]
theorem att_bytes (n : ByteArray) : ((⟨#[97, 116, 116, 114, 32]⟩ : ByteArray) ++ n).data.toList = attL n.data.toList := by
  rw [ba_app]; simp [attL, attrS]
set_option maxRecDepth 100000 in
set_option maxHeartbeats 8000000 in
theorem toolOnce_any (v1 v2 : Value) (cls att : List Str) (crit : Bool) (s : ByteArray) (w : World) (hg : Glob w) (h1 : SAt w v1 cls) (h2 : SAt w v2 att)
    (f1 : v1 = .slice none 0 0 ∨ ∃ a n c, v1 = .slice (some a) n c) (f2 : v2 = .slice none 0 0 ∨ ∃ a n c, v2 = .slice (some a) n c) (hl : cls.length + att.length ≤ 2000000) :
    Calls Tryd.prog 5 #[.agg #[v1, v2, .bool crit], .string s] w fun e w' => e = .returned (.bool true) ∧ Below w.heap.size w w' := by
  obtain ⟨p1, c1, rfl⟩ := h1.form_len
  obtain ⟨p2, c2, rfl⟩ := h2.form_len
  have SM := Lib.hid fun w' (hb : Below w.heap.size w w') => small_any _ _ cls att crit w' (h1.below hb) (h2.below hb) f1 f2 hl
  have hA0 := below_alloc w (.cells #[.slice p1 cls.length c1, .slice p2 att.length c2, .bool crit] 26)
  have hz0 : w.heap.size < (w.alloc (.cells #[.slice p1 cls.length c1, .slice p2 att.length c2, .bool crit] 26)).heap.size := by simp
  clear f1 f2
  cases hsm : smallB (cls ++ att)
  · rw [hsm] at SM
    go_enter Tryd.func5, Tryd.ntmps5
    go_wp2_with fail
    refine (fixed_any _ (hg.below hA0)).mono ?_
    rintro e w1 ⟨rfl, hB1⟩
    obtain ⟨hd1, hf1⟩ := bcell hB1
    have hz1 : w.heap.size < w1.heap.size := Nat.lt_of_lt_of_le hz0 hB1.size
    have hC1 := bup hA0 hB1
    go_wp2_with fail
    refine (SM.out _ hC1).mono ?_
    rintro e w2 ⟨rfl, hB2⟩
    have hC2 := bup hC1 hB2
    go_wp2_with fail
    refine (fixed_any _ (hg.below hC2)).mono ?_
    rintro e w3 ⟨rfl, hB3⟩
    go_wp2
    go_ret
    exact ⟨rfl, bup hC2 hB3⟩
  · rw [hsm] at SM
    rw [smallB_iff] at hsm
    have hn : cls.length + att.length ≤ 60 := by have := hsm.1; simpa using this
    have hCs : ShortC 100 ⟨cls, att, crit⟩ := ⟨fun x hx => hsm.2 x (List.mem_append_left _ hx), fun x hx => hsm.2 x (List.mem_append_right _ hx)⟩
    have hC : CfgAt w (.agg #[.slice p1 cls.length c1, .slice p2 att.length c2, .bool crit]) ⟨cls, att, crit⟩ := ⟨_, _, rfl, h1, h2, by simp; omega, by simp; omega⟩
    have HC := Lib.hid hC
    by_cases hs : s.size ≤ 100
    · obtain ⟨q, hq⟩ : ∃ q, mayB ⟨cls, att, crit⟩ = q := ⟨_, rfl⟩
      have MC := Lib.hid fun w' (hb : Below w.heap.size w w') => rmay_any _ _ w' (hC.below hb) (szd_of hCs (by omega))
      rw [hq] at MC
      cases q
      · clear hq hC hCs hsm hn
        go_enter Tryd.func5, Tryd.ntmps5
        go_wp2_with fail
        refine (fixed_any _ (hg.below hA0)).mono ?_
        rintro e w1 ⟨rfl, hB1⟩
        obtain ⟨hd1, hf1⟩ := bcell hB1
        have hz1 : w.heap.size < w1.heap.size := Nat.lt_of_lt_of_le hz0 hB1.size
        have hC1 := bup hA0 hB1
        go_wp2_with fail
        refine (SM.out _ hC1).mono ?_
        rintro e w2 ⟨rfl, hB2⟩
        obtain ⟨hd2, hf2⟩ := bcell hB2
        have hz2 : w.heap.size < w2.heap.size := Nat.lt_of_lt_of_le hz1 hB2.size
        have hC2 := bup hC1 hB2
        go_wp2_with fail
        refine (MC.out _ hC2).mono ?_
        rintro e w3 ⟨rfl, hB3⟩
        have hC3 := bup hC2 hB3
        go_wp2_with fail
        refine (fixed_any _ (hg.below hC3)).mono ?_
        rintro e w4 ⟨rfl, hB4⟩
        go_wp2
        go_ret
        exact ⟨rfl, bup hC3 hB4⟩
      · have h20 := may_20 hq
        have hAm : mayB (lineM ⟨cls, att, crit⟩ (clsL s.data.toList)).1 = true := line_may hq
        have hDm : mayB (lineM ⟨cls, att, crit⟩ (attL s.data.toList)).1 = true := line_may hq
        have hEm : mayB ⟨cls, att, true⟩ = true := hq
        have hsl : s.data.toList.length ≤ 100 := by rw [ba_len]; exact hs
        have hCs' : ShortC 200 ⟨cls, att, crit⟩ := ⟨fun x hx => Nat.le_trans (hCs.1 x hx) (by omega), fun x hx => Nat.le_trans (hCs.2 x hx) (by omega)⟩
        have hcl : (clsL s.data.toList).length ≤ 200 := by simp [clsL, classS]; omega
        have hal : (attL s.data.toList).length ≤ 200 := by simp [attL, attrS]; omega
        have hAs : ShortC 200 (lineM ⟨cls, att, crit⟩ (clsL s.data.toList)).1 := lineM_short hCs' (Nat.le_trans (cutN_len _) hcl)
        have hDs : ShortC 200 (lineM ⟨cls, att, crit⟩ (attL s.data.toList)).1 := lineM_short hCs' (Nat.le_trans (cutN_len _) hal)
        have hlens := once_lens ⟨cls, att, crit⟩ s.data.toList
        have honce := once_cls s.data.toList hq
        have hroom' := fun (h1 : nameB s.data.toList = true) => once_room (c := ⟨cls, att, crit⟩) h1
        have hno := fun (h1 : nameB s.data.toList = false) => once_no (c := ⟨cls, att, crit⟩) h1
        have hkl : s.data.toList = classS → (lineM ⟨cls, att, crit⟩ (attL s.data.toList)).2 = false := fun h => by rw [h]; exact once_class _
        obtain ⟨⟨a, r1⟩, hae⟩ : ∃ x, lineM ⟨cls, att, crit⟩ (clsL s.data.toList) = x := ⟨_, rfl⟩
        obtain ⟨⟨d, r2⟩, hde⟩ : ∃ x, lineM ⟨cls, att, crit⟩ (attL s.data.toList) = x := ⟨_, rfl⟩
        rw [hae] at hAm hAs hlens honce hroom' hno
        rw [hde] at hDm hDs hlens hno hkl
        simp only at hAm hAs hlens honce hroom' hno hDm hDs hkl
        obtain ⟨hl1, hl2, hl3⟩ := hlens
        obtain ⟨na, hna⟩ : ∃ n, a.cls.length = n := ⟨_, rfl⟩
        obtain ⟨nd, hnd⟩ : ∃ n, d.att.length = n := ⟨_, rfl⟩
        obtain ⟨ka, hka⟩ : ∃ n, a.crit = n := ⟨_, rfl⟩
        obtain ⟨kd, hkd⟩ : ∃ n, d.crit = n := ⟨_, rfl⟩
        rw [hna] at hl3
        have hna2 : (na : Int) ≤ (cls.length : Int) + 1 := by omega
        have hS1 : ((⟨#[99, 108, 97, 115, 115, 32]⟩ : ByteArray) ++ s).size ≤ 1000000 := by rw [ByteArray.size_append]; have : (⟨#[99, 108, 97, 115, 115, 32]⟩ : ByteArray).size = 6 := rfl; omega
        have hS2 : ((⟨#[97, 116, 116, 114, 32]⟩ : ByteArray) ++ s).size ≤ 1000000 := by rw [ByteArray.size_append]; have : (⟨#[97, 116, 116, 114, 32]⟩ : ByteArray).size = 5 := rfl; omega
        have hn1 : ¬ 9223372036854775807 < (⟨#[99, 108, 97, 115, 115, 32]⟩ : ByteArray).size + s.size := by have : (⟨#[99, 108, 97, 115, 115, 32]⟩ : ByteArray).size = 6 := rfl; omega
        have hn2 : ¬ 9223372036854775807 < (⟨#[97, 116, 116, 114, 32]⟩ : ByteArray).size + s.size := by have : (⟨#[97, 116, 116, 114, 32]⟩ : ByteArray).size = 5 := rfl; omega
        have HG := Lib.hid fun w' (hb : Below w.heap.size w w') => hg.below hb
        have LA := Lib.hid fun w' (hb : Below w.heap.size w w') => line_tell _ _ ((⟨#[99, 108, 97, 115, 115, 32]⟩ : ByteArray) ++ s) w' a r1 na att.length (hC.below hb) hS1 (hg.below hb) h20 (by rw [cls_bytes]; exact hae) hna (by rw [hl1])
        have LB := Lib.hid fun va w' (hv : CfgAt w' va a) hg' => line_tell va a ((⟨#[99, 108, 97, 115, 115, 32]⟩ : ByteArray) ++ s) w' a r1 na att.length hv hS1 hg' (may_20 hAm) (by rw [cls_bytes]; exact honce) hna (by rw [hl1])
        have LD := Lib.hid fun w' (hb : Below w.heap.size w w') => line_tell _ _ ((⟨#[97, 116, 116, 114, 32]⟩ : ByteArray) ++ s) w' d r2 cls.length nd (hC.below hb) hS2 (hg.below hb) h20 (by rw [att_bytes]; exact hde) (by rw [hl2]) hnd
        have LE := Lib.hid fun w' (hb : Below w.heap.size w w') => line_tell _ _ (⟨#[99, 114, 105, 116, 105, 99, 97, 108]⟩ : ByteArray) w' ⟨cls, att, true⟩ true cls.length att.length (hC.below hb) (by decide) (hg.below hb) h20 (line_crit_m _) rfl rfl
        have MA := Lib.hid fun va w' (h : CfgAt w' va a) => may_any va a w' h (szd_of hAs (by omega))
        have MD := Lib.hid fun va w' (h : CfgAt w' va d) => may_any va d w' h (szd_of hDs (by omega))
        have ME := Lib.hid fun va w' (h : CfgAt w' va ⟨cls, att, true⟩) => may_any va ⟨cls, att, true⟩ w' h (szd_of (K := 200) hCs' (by omega))
        rw [hAm] at MA
        rw [hDm] at MD
        rw [hEm] at ME
        rw [hka] at LA LB
        rw [hkd] at LD
        obtain ⟨qn, hqn⟩ : ∃ q, nameB s.data.toList = q := ⟨_, rfl⟩
        obtain ⟨qc, hqc⟩ : ∃ q, (s.toList == [99, 108, 97, 115, 115]) = q := ⟨_, rfl⟩
        have HN := Lib.hid fun w' => name_any s w' (by unfold maxLen; omega)
        rw [hqn] at HN hroom' hno
        have HR : Hid (qn = true → r1 = false → 20 ≤ cls.length) := Lib.hid fun h3 h4 => by
          by_cases h5 : cls.length < 20
          · rw [hroom' h3 h5] at h4; cases h4
          · omega
        have HT : Hid ((r1 = true ∨ r2 = true) → qn = true) := Lib.hid fun h3 => by
          cases qn
          · obtain ⟨h4, h5⟩ := hno rfl
            rw [h4, h5] at h3; simp at h3
          · rfl
        have HK : Hid (r2 = true → qc = false) := Lib.hid fun h3 => by
          cases qc
          · rfl
          · have := eq_of_beq hqc
            rw [ByteArray.toList_eq] at this
            rw [hkl this] at h3; cases h3
        have hcl60 : cls.length ≤ 60 := by omega
        have hat60 : att.length ≤ 60 := by omega
        clear hq h20 hAm hDm hEm hsl hCs' hcl hal hAs hDs honce hroom' hno hkl hae hde hl1 hl2 hl3 hka hkd hqn hS1 hS2 hC hCs hsm hn hl h1 h2 hna hnd
        cases r1
        · cases r2
          · skip
            go_enter Tryd.func5, Tryd.ntmps5
            go_wp2_with fail
            refine (fixed_any _ (hg.below hA0)).mono ?_
            rintro e x1 ⟨rfl, hB1⟩
            obtain ⟨hd1, hf1⟩ := bcell hB1
            have hz1_0 : w.heap.size < x1.heap.size := by first | exact Nat.lt_of_lt_of_le hz0 hB1.size | (have := hB1.size; simp at this; omega)
            have hC1 := bup hA0 hB1
            go_wp2_with fail
            refine (SM.out _ hC1).mono ?_
            rintro e x2 ⟨rfl, hB2⟩
            obtain ⟨hd2, hf2⟩ := bcell hB2
            have hz2_0 : w.heap.size < x2.heap.size := by first | exact Nat.lt_of_lt_of_le hz1_0 hB2.size | (have := hB2.size; simp at this; omega)
            have hC2 := bup hC1 hB2
            go_wp2_with fail
            refine (MC.out _ hC2).mono ?_
            rintro e x3 ⟨rfl, hB3⟩
            obtain ⟨hd3, hf3⟩ := bcell hB3
            have hz3_0 : w.heap.size < x3.heap.size := by first | exact Nat.lt_of_lt_of_le hz2_0 hB3.size | (have := hB3.size; simp at this; omega)
            have hC3 := bup hC2 hB3
            go_wp2_with fail
            refine (LA.out _ hC3).mono ?_
            rintro e x4 ⟨a4, b4, c4, d4, rfl, hcfg4, hB4⟩
            obtain ⟨hd4, hf4⟩ := bcell hB4
            have hz4_0 : w.heap.size < x4.heap.size := by first | exact Nat.lt_of_lt_of_le hz3_0 hB4.size | (have := hB4.size; simp at this; omega)
            have hC4 := bup hC3 hB4
            have hA4 := below_alloc x4 (.cells #[.slice a4 na b4, .slice c4 att.length d4, .bool ka] 26)
            have hC4a := bup hC4 hA4
            have ka4a := hcfg4.below hA4
            have hnew4 : x4.heap.size < (x4.alloc (.cells #[.slice a4 na b4, .slice c4 att.length d4, .bool ka] 26)).heap.size := by simp
            go_wp2_with fail
            refine (LB.out _ _ ka4a (HG.out _ hC4a)).mono ?_
            rintro e x5 ⟨a5, b5, c5, d5, rfl, hcfg5, hB5⟩
            obtain ⟨hd5, hf5⟩ := bcell hB5
            have hz5_0 : w.heap.size < x5.heap.size := by first | exact Nat.lt_of_lt_of_le hz4_0 hB5.size | (have := hB5.size; simp at this; omega)
            have hz5_1 : x4.heap.size < x5.heap.size := by first | exact Nat.lt_of_lt_of_le hnew4 hB5.size | (have := hB5.size; simp at this; omega)
            have hC5 := bup hC4a hB5
            have ka5 := ka4a.below hB5
            have hA5 := below_alloc x5 (.cells #[.slice a5 na b5, .slice c5 att.length d5, .bool ka] 26)
            have hC5a := bup hC5 hA5
            have ka5a := ka5.below hA5
            have kb5a := hcfg5.below hA5
            have hnew5 : x5.heap.size < (x5.alloc (.cells #[.slice a5 na b5, .slice c5 att.length d5, .bool ka] 26)).heap.size := by simp
            go_wp2_with fail
            refine (LD.out _ hC5a).mono ?_
            rintro e x6 ⟨a6, b6, c6, d6, rfl, hcfg6, hB6⟩
            obtain ⟨hd6, hf6⟩ := bcell hB6
            have hz6_0 : w.heap.size < x6.heap.size := by first | exact Nat.lt_of_lt_of_le hz5_0 hB6.size | (have := hB6.size; simp at this; omega)
            have hz6_1 : x4.heap.size < x6.heap.size := by first | exact Nat.lt_of_lt_of_le hz5_1 hB6.size | (have := hB6.size; simp at this; omega)
            have hz6_2 : x5.heap.size < x6.heap.size := by first | exact Nat.lt_of_lt_of_le hnew5 hB6.size | (have := hB6.size; simp at this; omega)
            have hC6 := bup hC5a hB6
            have ka6 := ka5a.below hB6
            have kb6 := kb5a.below hB6
            have hA6 := below_alloc x6 (.cells #[.slice a6 cls.length b6, .slice c6 nd d6, .bool kd] 26)
            have hC6a := bup hC6 hA6
            have ka6a := ka6.below hA6
            have kb6a := kb6.below hA6
            have kd6a := hcfg6.below hA6
            have hnew6 : x6.heap.size < (x6.alloc (.cells #[.slice a6 cls.length b6, .slice c6 nd d6, .bool kd] 26)).heap.size := by simp
            go_wp2_with fail
            refine (LE.out _ hC6a).mono ?_
            rintro e x7 ⟨a7, b7, c7, d7, rfl, hcfg7, hB7⟩
            obtain ⟨hd7, hf7⟩ := bcell hB7
            have hz7_0 : w.heap.size < x7.heap.size := by first | exact Nat.lt_of_lt_of_le hz6_0 hB7.size | (have := hB7.size; simp at this; omega)
            have hz7_1 : x4.heap.size < x7.heap.size := by first | exact Nat.lt_of_lt_of_le hz6_1 hB7.size | (have := hB7.size; simp at this; omega)
            have hz7_2 : x5.heap.size < x7.heap.size := by first | exact Nat.lt_of_lt_of_le hz6_2 hB7.size | (have := hB7.size; simp at this; omega)
            have hz7_3 : x6.heap.size < x7.heap.size := by first | exact Nat.lt_of_lt_of_le hnew6 hB7.size | (have := hB7.size; simp at this; omega)
            have hC7 := bup hC6a hB7
            have ka7 := ka6a.below hB7
            have kb7 := kb6a.below hB7
            have kd7 := kd6a.below hB7
            have hA7 := below_alloc x7 (.cells #[.slice a7 cls.length b7, .slice c7 att.length d7, .bool true] 26)
            have hC7a := bup hC7 hA7
            have ka7a := ka7.below hA7
            have kb7a := kb7.below hA7
            have kd7a := kd7.below hA7
            have ke7a := hcfg7.below hA7
            have hnew7 : x7.heap.size < (x7.alloc (.cells #[.slice a7 cls.length b7, .slice c7 att.length d7, .bool true] 26)).heap.size := by simp
            go_wp2_with fail
            refine (rsame_any _ _ _ _ _ ka7a kb7a).mono ?_
            rintro e x8 ⟨rfl, hB8⟩
            obtain ⟨hd8, hf8⟩ := bcell hB8
            have hz8_0 : w.heap.size < x8.heap.size := by first | exact Nat.lt_of_lt_of_le hz7_0 hB8.size | (have := hB8.size; simp at this; omega)
            have hz8_1 : x4.heap.size < x8.heap.size := by first | exact Nat.lt_of_lt_of_le hz7_1 hB8.size | (have := hB8.size; simp at this; omega)
            have hz8_2 : x5.heap.size < x8.heap.size := by first | exact Nat.lt_of_lt_of_le hz7_2 hB8.size | (have := hB8.size; simp at this; omega)
            have hz8_3 : x6.heap.size < x8.heap.size := by first | exact Nat.lt_of_lt_of_le hz7_3 hB8.size | (have := hB8.size; simp at this; omega)
            have hz8_4 : x7.heap.size < x8.heap.size := by first | exact Nat.lt_of_lt_of_le hnew7 hB8.size | (have := hB8.size; simp at this; omega)
            have hC8 := bup hC7a hB8
            have ka8 := ka7a.below hB8
            have kb8 := kb7a.below hB8
            have kd8 := kd7a.below hB8
            have ke8 := ke7a.below hB8
            rw [same_refl]
            go_wp2_with fail
            refine (ME.out _ _ ke8).mono ?_
            rintro e x9 ⟨rfl, hB9⟩
            obtain ⟨hd9, hf9⟩ := bcell hB9
            have hz9_0 : w.heap.size < x9.heap.size := by first | exact Nat.lt_of_lt_of_le hz8_0 hB9.size | (have := hB9.size; simp at this; omega)
            have hz9_1 : x4.heap.size < x9.heap.size := by first | exact Nat.lt_of_lt_of_le hz8_1 hB9.size | (have := hB9.size; simp at this; omega)
            have hz9_2 : x5.heap.size < x9.heap.size := by first | exact Nat.lt_of_lt_of_le hz8_2 hB9.size | (have := hB9.size; simp at this; omega)
            have hz9_3 : x6.heap.size < x9.heap.size := by first | exact Nat.lt_of_lt_of_le hz8_3 hB9.size | (have := hB9.size; simp at this; omega)
            have hz9_4 : x7.heap.size < x9.heap.size := by first | exact Nat.lt_of_lt_of_le hz8_4 hB9.size | (have := hB9.size; simp at this; omega)
            have hC9 := bup hC8 hB9
            have ka9 := ka8.below hB9
            have kb9 := kb8.below hB9
            have kd9 := kd8.below hB9
            have ke9 := ke8.below hB9
            cases qn
            · cases qc
              · skip
                go_wp2_with fail
                refine (HN.out _).mono ?_
                rintro e xx ⟨rfl, rfl⟩
                go_wp2_with fail
                refine (HN.out _).mono ?_
                rintro e xx ⟨rfl, rfl⟩
                go_wp2
                go_ret
                exact ⟨rfl, hC9⟩
              · skip
                go_wp2_with fail
                refine (HN.out _).mono ?_
                rintro e xx ⟨rfl, rfl⟩
                go_wp2_with fail
                refine (HN.out _).mono ?_
                rintro e xx ⟨rfl, rfl⟩
                go_wp2
                go_ret
                exact ⟨rfl, hC9⟩
            · have hnr : ¬ (cls.length : Int) < 20 := by have := HR.out (by simp) (by simp); omega
              cases qc
              · skip
                go_wp2_with fail
                refine (HN.out _).mono ?_
                rintro e xx ⟨rfl, rfl⟩
                go_wp2_with fail
                refine (HN.out _).mono ?_
                rintro e xx ⟨rfl, rfl⟩
                go_wp2
                go_ret
                exact ⟨rfl, hC9⟩
              · skip
                go_wp2_with fail
                refine (HN.out _).mono ?_
                rintro e xx ⟨rfl, rfl⟩
                go_wp2_with fail
                refine (HN.out _).mono ?_
                rintro e xx ⟨rfl, rfl⟩
                go_wp2
                go_ret
                exact ⟨rfl, hC9⟩
          · skip
            go_enter Tryd.func5, Tryd.ntmps5
            go_wp2_with fail
            refine (fixed_any _ (hg.below hA0)).mono ?_
            rintro e x1 ⟨rfl, hB1⟩
            obtain ⟨hd1, hf1⟩ := bcell hB1
            have hz1_0 : w.heap.size < x1.heap.size := by first | exact Nat.lt_of_lt_of_le hz0 hB1.size | (have := hB1.size; simp at this; omega)
            have hC1 := bup hA0 hB1
            go_wp2_with fail
            refine (SM.out _ hC1).mono ?_
            rintro e x2 ⟨rfl, hB2⟩
            obtain ⟨hd2, hf2⟩ := bcell hB2
            have hz2_0 : w.heap.size < x2.heap.size := by first | exact Nat.lt_of_lt_of_le hz1_0 hB2.size | (have := hB2.size; simp at this; omega)
            have hC2 := bup hC1 hB2
            go_wp2_with fail
            refine (MC.out _ hC2).mono ?_
            rintro e x3 ⟨rfl, hB3⟩
            obtain ⟨hd3, hf3⟩ := bcell hB3
            have hz3_0 : w.heap.size < x3.heap.size := by first | exact Nat.lt_of_lt_of_le hz2_0 hB3.size | (have := hB3.size; simp at this; omega)
            have hC3 := bup hC2 hB3
            go_wp2_with fail
            refine (LA.out _ hC3).mono ?_
            rintro e x4 ⟨a4, b4, c4, d4, rfl, hcfg4, hB4⟩
            obtain ⟨hd4, hf4⟩ := bcell hB4
            have hz4_0 : w.heap.size < x4.heap.size := by first | exact Nat.lt_of_lt_of_le hz3_0 hB4.size | (have := hB4.size; simp at this; omega)
            have hC4 := bup hC3 hB4
            have hA4 := below_alloc x4 (.cells #[.slice a4 na b4, .slice c4 att.length d4, .bool ka] 26)
            have hC4a := bup hC4 hA4
            have ka4a := hcfg4.below hA4
            have hnew4 : x4.heap.size < (x4.alloc (.cells #[.slice a4 na b4, .slice c4 att.length d4, .bool ka] 26)).heap.size := by simp
            go_wp2_with fail
            refine (LB.out _ _ ka4a (HG.out _ hC4a)).mono ?_
            rintro e x5 ⟨a5, b5, c5, d5, rfl, hcfg5, hB5⟩
            obtain ⟨hd5, hf5⟩ := bcell hB5
            have hz5_0 : w.heap.size < x5.heap.size := by first | exact Nat.lt_of_lt_of_le hz4_0 hB5.size | (have := hB5.size; simp at this; omega)
            have hz5_1 : x4.heap.size < x5.heap.size := by first | exact Nat.lt_of_lt_of_le hnew4 hB5.size | (have := hB5.size; simp at this; omega)
            have hC5 := bup hC4a hB5
            have ka5 := ka4a.below hB5
            have hA5 := below_alloc x5 (.cells #[.slice a5 na b5, .slice c5 att.length d5, .bool ka] 26)
            have hC5a := bup hC5 hA5
            have ka5a := ka5.below hA5
            have kb5a := hcfg5.below hA5
            have hnew5 : x5.heap.size < (x5.alloc (.cells #[.slice a5 na b5, .slice c5 att.length d5, .bool ka] 26)).heap.size := by simp
            go_wp2_with fail
            refine (LD.out _ hC5a).mono ?_
            rintro e x6 ⟨a6, b6, c6, d6, rfl, hcfg6, hB6⟩
            obtain ⟨hd6, hf6⟩ := bcell hB6
            have hz6_0 : w.heap.size < x6.heap.size := by first | exact Nat.lt_of_lt_of_le hz5_0 hB6.size | (have := hB6.size; simp at this; omega)
            have hz6_1 : x4.heap.size < x6.heap.size := by first | exact Nat.lt_of_lt_of_le hz5_1 hB6.size | (have := hB6.size; simp at this; omega)
            have hz6_2 : x5.heap.size < x6.heap.size := by first | exact Nat.lt_of_lt_of_le hnew5 hB6.size | (have := hB6.size; simp at this; omega)
            have hC6 := bup hC5a hB6
            have ka6 := ka5a.below hB6
            have kb6 := kb5a.below hB6
            have hA6 := below_alloc x6 (.cells #[.slice a6 cls.length b6, .slice c6 nd d6, .bool kd] 26)
            have hC6a := bup hC6 hA6
            have ka6a := ka6.below hA6
            have kb6a := kb6.below hA6
            have kd6a := hcfg6.below hA6
            have hnew6 : x6.heap.size < (x6.alloc (.cells #[.slice a6 cls.length b6, .slice c6 nd d6, .bool kd] 26)).heap.size := by simp
            go_wp2_with fail
            refine (LE.out _ hC6a).mono ?_
            rintro e x7 ⟨a7, b7, c7, d7, rfl, hcfg7, hB7⟩
            obtain ⟨hd7, hf7⟩ := bcell hB7
            have hz7_0 : w.heap.size < x7.heap.size := by first | exact Nat.lt_of_lt_of_le hz6_0 hB7.size | (have := hB7.size; simp at this; omega)
            have hz7_1 : x4.heap.size < x7.heap.size := by first | exact Nat.lt_of_lt_of_le hz6_1 hB7.size | (have := hB7.size; simp at this; omega)
            have hz7_2 : x5.heap.size < x7.heap.size := by first | exact Nat.lt_of_lt_of_le hz6_2 hB7.size | (have := hB7.size; simp at this; omega)
            have hz7_3 : x6.heap.size < x7.heap.size := by first | exact Nat.lt_of_lt_of_le hnew6 hB7.size | (have := hB7.size; simp at this; omega)
            have hC7 := bup hC6a hB7
            have ka7 := ka6a.below hB7
            have kb7 := kb6a.below hB7
            have kd7 := kd6a.below hB7
            have hA7 := below_alloc x7 (.cells #[.slice a7 cls.length b7, .slice c7 att.length d7, .bool true] 26)
            have hC7a := bup hC7 hA7
            have ka7a := ka7.below hA7
            have kb7a := kb7.below hA7
            have kd7a := kd7.below hA7
            have ke7a := hcfg7.below hA7
            have hnew7 : x7.heap.size < (x7.alloc (.cells #[.slice a7 cls.length b7, .slice c7 att.length d7, .bool true] 26)).heap.size := by simp
            go_wp2_with fail
            refine (rsame_any _ _ _ _ _ ka7a kb7a).mono ?_
            rintro e x8 ⟨rfl, hB8⟩
            obtain ⟨hd8, hf8⟩ := bcell hB8
            have hz8_0 : w.heap.size < x8.heap.size := by first | exact Nat.lt_of_lt_of_le hz7_0 hB8.size | (have := hB8.size; simp at this; omega)
            have hz8_1 : x4.heap.size < x8.heap.size := by first | exact Nat.lt_of_lt_of_le hz7_1 hB8.size | (have := hB8.size; simp at this; omega)
            have hz8_2 : x5.heap.size < x8.heap.size := by first | exact Nat.lt_of_lt_of_le hz7_2 hB8.size | (have := hB8.size; simp at this; omega)
            have hz8_3 : x6.heap.size < x8.heap.size := by first | exact Nat.lt_of_lt_of_le hz7_3 hB8.size | (have := hB8.size; simp at this; omega)
            have hz8_4 : x7.heap.size < x8.heap.size := by first | exact Nat.lt_of_lt_of_le hnew7 hB8.size | (have := hB8.size; simp at this; omega)
            have hC8 := bup hC7a hB8
            have ka8 := ka7a.below hB8
            have kb8 := kb7a.below hB8
            have kd8 := kd7a.below hB8
            have ke8 := ke7a.below hB8
            rw [same_refl]
            go_wp2_with fail
            refine (MD.out _ _ kd8).mono ?_
            rintro e x9 ⟨rfl, hB9⟩
            obtain ⟨hd9, hf9⟩ := bcell hB9
            have hz9_0 : w.heap.size < x9.heap.size := by first | exact Nat.lt_of_lt_of_le hz8_0 hB9.size | (have := hB9.size; simp at this; omega)
            have hz9_1 : x4.heap.size < x9.heap.size := by first | exact Nat.lt_of_lt_of_le hz8_1 hB9.size | (have := hB9.size; simp at this; omega)
            have hz9_2 : x5.heap.size < x9.heap.size := by first | exact Nat.lt_of_lt_of_le hz8_2 hB9.size | (have := hB9.size; simp at this; omega)
            have hz9_3 : x6.heap.size < x9.heap.size := by first | exact Nat.lt_of_lt_of_le hz8_3 hB9.size | (have := hB9.size; simp at this; omega)
            have hz9_4 : x7.heap.size < x9.heap.size := by first | exact Nat.lt_of_lt_of_le hz8_4 hB9.size | (have := hB9.size; simp at this; omega)
            have hC9 := bup hC8 hB9
            have ka9 := ka8.below hB9
            have kb9 := kb8.below hB9
            have kd9 := kd8.below hB9
            have ke9 := ke8.below hB9
            go_wp2_with fail
            refine (ME.out _ _ ke9).mono ?_
            rintro e x10 ⟨rfl, hB10⟩
            obtain ⟨hd10, hf10⟩ := bcell hB10
            have hz10_0 : w.heap.size < x10.heap.size := by first | exact Nat.lt_of_lt_of_le hz9_0 hB10.size | (have := hB10.size; simp at this; omega)
            have hz10_1 : x4.heap.size < x10.heap.size := by first | exact Nat.lt_of_lt_of_le hz9_1 hB10.size | (have := hB10.size; simp at this; omega)
            have hz10_2 : x5.heap.size < x10.heap.size := by first | exact Nat.lt_of_lt_of_le hz9_2 hB10.size | (have := hB10.size; simp at this; omega)
            have hz10_3 : x6.heap.size < x10.heap.size := by first | exact Nat.lt_of_lt_of_le hz9_3 hB10.size | (have := hB10.size; simp at this; omega)
            have hz10_4 : x7.heap.size < x10.heap.size := by first | exact Nat.lt_of_lt_of_le hz9_4 hB10.size | (have := hB10.size; simp at this; omega)
            have hC10 := bup hC9 hB10
            have ka10 := ka9.below hB10
            have kb10 := kb9.below hB10
            have kd10 := kd9.below hB10
            have ke10 := ke9.below hB10
            obtain rfl := HT.out (by simp)
            obtain rfl := HK.out trivial
            have hnr : ¬ (cls.length : Int) < 20 := by have := HR.out (by simp) (by simp); omega
            go_wp2_with fail
            refine (HN.out _).mono ?_
            rintro e xx ⟨rfl, rfl⟩
            go_wp2_with fail
            refine (HN.out _).mono ?_
            rintro e xx ⟨rfl, rfl⟩
            go_wp2
            go_ret
            exact ⟨rfl, hC10⟩
        · cases r2
          · skip
            go_enter Tryd.func5, Tryd.ntmps5
            go_wp2_with fail
            refine (fixed_any _ (hg.below hA0)).mono ?_
            rintro e x1 ⟨rfl, hB1⟩
            obtain ⟨hd1, hf1⟩ := bcell hB1
            have hz1_0 : w.heap.size < x1.heap.size := by first | exact Nat.lt_of_lt_of_le hz0 hB1.size | (have := hB1.size; simp at this; omega)
            have hC1 := bup hA0 hB1
            go_wp2_with fail
            refine (SM.out _ hC1).mono ?_
            rintro e x2 ⟨rfl, hB2⟩
            obtain ⟨hd2, hf2⟩ := bcell hB2
            have hz2_0 : w.heap.size < x2.heap.size := by first | exact Nat.lt_of_lt_of_le hz1_0 hB2.size | (have := hB2.size; simp at this; omega)
            have hC2 := bup hC1 hB2
            go_wp2_with fail
            refine (MC.out _ hC2).mono ?_
            rintro e x3 ⟨rfl, hB3⟩
            obtain ⟨hd3, hf3⟩ := bcell hB3
            have hz3_0 : w.heap.size < x3.heap.size := by first | exact Nat.lt_of_lt_of_le hz2_0 hB3.size | (have := hB3.size; simp at this; omega)
            have hC3 := bup hC2 hB3
            go_wp2_with fail
            refine (LA.out _ hC3).mono ?_
            rintro e x4 ⟨a4, b4, c4, d4, rfl, hcfg4, hB4⟩
            obtain ⟨hd4, hf4⟩ := bcell hB4
            have hz4_0 : w.heap.size < x4.heap.size := by first | exact Nat.lt_of_lt_of_le hz3_0 hB4.size | (have := hB4.size; simp at this; omega)
            have hC4 := bup hC3 hB4
            have hA4 := below_alloc x4 (.cells #[.slice a4 na b4, .slice c4 att.length d4, .bool ka] 26)
            have hC4a := bup hC4 hA4
            have ka4a := hcfg4.below hA4
            have hnew4 : x4.heap.size < (x4.alloc (.cells #[.slice a4 na b4, .slice c4 att.length d4, .bool ka] 26)).heap.size := by simp
            go_wp2_with fail
            refine (LB.out _ _ ka4a (HG.out _ hC4a)).mono ?_
            rintro e x5 ⟨a5, b5, c5, d5, rfl, hcfg5, hB5⟩
            obtain ⟨hd5, hf5⟩ := bcell hB5
            have hz5_0 : w.heap.size < x5.heap.size := by first | exact Nat.lt_of_lt_of_le hz4_0 hB5.size | (have := hB5.size; simp at this; omega)
            have hz5_1 : x4.heap.size < x5.heap.size := by first | exact Nat.lt_of_lt_of_le hnew4 hB5.size | (have := hB5.size; simp at this; omega)
            have hC5 := bup hC4a hB5
            have ka5 := ka4a.below hB5
            have hA5 := below_alloc x5 (.cells #[.slice a5 na b5, .slice c5 att.length d5, .bool ka] 26)
            have hC5a := bup hC5 hA5
            have ka5a := ka5.below hA5
            have kb5a := hcfg5.below hA5
            have hnew5 : x5.heap.size < (x5.alloc (.cells #[.slice a5 na b5, .slice c5 att.length d5, .bool ka] 26)).heap.size := by simp
            go_wp2_with fail
            refine (LD.out _ hC5a).mono ?_
            rintro e x6 ⟨a6, b6, c6, d6, rfl, hcfg6, hB6⟩
            obtain ⟨hd6, hf6⟩ := bcell hB6
            have hz6_0 : w.heap.size < x6.heap.size := by first | exact Nat.lt_of_lt_of_le hz5_0 hB6.size | (have := hB6.size; simp at this; omega)
            have hz6_1 : x4.heap.size < x6.heap.size := by first | exact Nat.lt_of_lt_of_le hz5_1 hB6.size | (have := hB6.size; simp at this; omega)
            have hz6_2 : x5.heap.size < x6.heap.size := by first | exact Nat.lt_of_lt_of_le hnew5 hB6.size | (have := hB6.size; simp at this; omega)
            have hC6 := bup hC5a hB6
            have ka6 := ka5a.below hB6
            have kb6 := kb5a.below hB6
            have hA6 := below_alloc x6 (.cells #[.slice a6 cls.length b6, .slice c6 nd d6, .bool kd] 26)
            have hC6a := bup hC6 hA6
            have ka6a := ka6.below hA6
            have kb6a := kb6.below hA6
            have kd6a := hcfg6.below hA6
            have hnew6 : x6.heap.size < (x6.alloc (.cells #[.slice a6 cls.length b6, .slice c6 nd d6, .bool kd] 26)).heap.size := by simp
            go_wp2_with fail
            refine (LE.out _ hC6a).mono ?_
            rintro e x7 ⟨a7, b7, c7, d7, rfl, hcfg7, hB7⟩
            obtain ⟨hd7, hf7⟩ := bcell hB7
            have hz7_0 : w.heap.size < x7.heap.size := by first | exact Nat.lt_of_lt_of_le hz6_0 hB7.size | (have := hB7.size; simp at this; omega)
            have hz7_1 : x4.heap.size < x7.heap.size := by first | exact Nat.lt_of_lt_of_le hz6_1 hB7.size | (have := hB7.size; simp at this; omega)
            have hz7_2 : x5.heap.size < x7.heap.size := by first | exact Nat.lt_of_lt_of_le hz6_2 hB7.size | (have := hB7.size; simp at this; omega)
            have hz7_3 : x6.heap.size < x7.heap.size := by first | exact Nat.lt_of_lt_of_le hnew6 hB7.size | (have := hB7.size; simp at this; omega)
            have hC7 := bup hC6a hB7
            have ka7 := ka6a.below hB7
            have kb7 := kb6a.below hB7
            have kd7 := kd6a.below hB7
            have hA7 := below_alloc x7 (.cells #[.slice a7 cls.length b7, .slice c7 att.length d7, .bool true] 26)
            have hC7a := bup hC7 hA7
            have ka7a := ka7.below hA7
            have kb7a := kb7.below hA7
            have kd7a := kd7.below hA7
            have ke7a := hcfg7.below hA7
            have hnew7 : x7.heap.size < (x7.alloc (.cells #[.slice a7 cls.length b7, .slice c7 att.length d7, .bool true] 26)).heap.size := by simp
            go_wp2_with fail
            refine (rsame_any _ _ _ _ _ ka7a kb7a).mono ?_
            rintro e x8 ⟨rfl, hB8⟩
            obtain ⟨hd8, hf8⟩ := bcell hB8
            have hz8_0 : w.heap.size < x8.heap.size := by first | exact Nat.lt_of_lt_of_le hz7_0 hB8.size | (have := hB8.size; simp at this; omega)
            have hz8_1 : x4.heap.size < x8.heap.size := by first | exact Nat.lt_of_lt_of_le hz7_1 hB8.size | (have := hB8.size; simp at this; omega)
            have hz8_2 : x5.heap.size < x8.heap.size := by first | exact Nat.lt_of_lt_of_le hz7_2 hB8.size | (have := hB8.size; simp at this; omega)
            have hz8_3 : x6.heap.size < x8.heap.size := by first | exact Nat.lt_of_lt_of_le hz7_3 hB8.size | (have := hB8.size; simp at this; omega)
            have hz8_4 : x7.heap.size < x8.heap.size := by first | exact Nat.lt_of_lt_of_le hnew7 hB8.size | (have := hB8.size; simp at this; omega)
            have hC8 := bup hC7a hB8
            have ka8 := ka7a.below hB8
            have kb8 := kb7a.below hB8
            have kd8 := kd7a.below hB8
            have ke8 := ke7a.below hB8
            rw [same_refl]
            go_wp2_with fail
            refine (MA.out _ _ ka8).mono ?_
            rintro e x9 ⟨rfl, hB9⟩
            obtain ⟨hd9, hf9⟩ := bcell hB9
            have hz9_0 : w.heap.size < x9.heap.size := by first | exact Nat.lt_of_lt_of_le hz8_0 hB9.size | (have := hB9.size; simp at this; omega)
            have hz9_1 : x4.heap.size < x9.heap.size := by first | exact Nat.lt_of_lt_of_le hz8_1 hB9.size | (have := hB9.size; simp at this; omega)
            have hz9_2 : x5.heap.size < x9.heap.size := by first | exact Nat.lt_of_lt_of_le hz8_2 hB9.size | (have := hB9.size; simp at this; omega)
            have hz9_3 : x6.heap.size < x9.heap.size := by first | exact Nat.lt_of_lt_of_le hz8_3 hB9.size | (have := hB9.size; simp at this; omega)
            have hz9_4 : x7.heap.size < x9.heap.size := by first | exact Nat.lt_of_lt_of_le hz8_4 hB9.size | (have := hB9.size; simp at this; omega)
            have hC9 := bup hC8 hB9
            have ka9 := ka8.below hB9
            have kb9 := kb8.below hB9
            have kd9 := kd8.below hB9
            have ke9 := ke8.below hB9
            go_wp2_with fail
            refine (ME.out _ _ ke9).mono ?_
            rintro e x10 ⟨rfl, hB10⟩
            obtain ⟨hd10, hf10⟩ := bcell hB10
            have hz10_0 : w.heap.size < x10.heap.size := by first | exact Nat.lt_of_lt_of_le hz9_0 hB10.size | (have := hB10.size; simp at this; omega)
            have hz10_1 : x4.heap.size < x10.heap.size := by first | exact Nat.lt_of_lt_of_le hz9_1 hB10.size | (have := hB10.size; simp at this; omega)
            have hz10_2 : x5.heap.size < x10.heap.size := by first | exact Nat.lt_of_lt_of_le hz9_2 hB10.size | (have := hB10.size; simp at this; omega)
            have hz10_3 : x6.heap.size < x10.heap.size := by first | exact Nat.lt_of_lt_of_le hz9_3 hB10.size | (have := hB10.size; simp at this; omega)
            have hz10_4 : x7.heap.size < x10.heap.size := by first | exact Nat.lt_of_lt_of_le hz9_4 hB10.size | (have := hB10.size; simp at this; omega)
            have hC10 := bup hC9 hB10
            have ka10 := ka9.below hB10
            have kb10 := kb9.below hB10
            have kd10 := kd9.below hB10
            have ke10 := ke9.below hB10
            obtain rfl := HT.out (by simp)
            by_cases hroom : (cls.length : Int) < 20
            · cases qc
              · skip
                go_wp2_with fail
                refine (HN.out _).mono ?_
                rintro e xx ⟨rfl, rfl⟩
                go_wp2_with fail
                refine (HN.out _).mono ?_
                rintro e xx ⟨rfl, rfl⟩
                go_wp2
                go_ret
                exact ⟨rfl, hC10⟩
              · skip
                go_wp2_with fail
                refine (HN.out _).mono ?_
                rintro e xx ⟨rfl, rfl⟩
                go_wp2_with fail
                refine (HN.out _).mono ?_
                rintro e xx ⟨rfl, rfl⟩
                go_wp2
                go_ret
                exact ⟨rfl, hC10⟩
            · cases qc
              · skip
                go_wp2_with fail
                refine (HN.out _).mono ?_
                rintro e xx ⟨rfl, rfl⟩
                go_wp2_with fail
                refine (HN.out _).mono ?_
                rintro e xx ⟨rfl, rfl⟩
                go_wp2
                go_ret
                exact ⟨rfl, hC10⟩
              · skip
                go_wp2_with fail
                refine (HN.out _).mono ?_
                rintro e xx ⟨rfl, rfl⟩
                go_wp2_with fail
                refine (HN.out _).mono ?_
                rintro e xx ⟨rfl, rfl⟩
                go_wp2
                go_ret
                exact ⟨rfl, hC10⟩
          · skip
            go_enter Tryd.func5, Tryd.ntmps5
            go_wp2_with fail
            refine (fixed_any _ (hg.below hA0)).mono ?_
            rintro e x1 ⟨rfl, hB1⟩
            obtain ⟨hd1, hf1⟩ := bcell hB1
            have hz1_0 : w.heap.size < x1.heap.size := by first | exact Nat.lt_of_lt_of_le hz0 hB1.size | (have := hB1.size; simp at this; omega)
            have hC1 := bup hA0 hB1
            go_wp2_with fail
            refine (SM.out _ hC1).mono ?_
            rintro e x2 ⟨rfl, hB2⟩
            obtain ⟨hd2, hf2⟩ := bcell hB2
            have hz2_0 : w.heap.size < x2.heap.size := by first | exact Nat.lt_of_lt_of_le hz1_0 hB2.size | (have := hB2.size; simp at this; omega)
            have hC2 := bup hC1 hB2
            go_wp2_with fail
            refine (MC.out _ hC2).mono ?_
            rintro e x3 ⟨rfl, hB3⟩
            obtain ⟨hd3, hf3⟩ := bcell hB3
            have hz3_0 : w.heap.size < x3.heap.size := by first | exact Nat.lt_of_lt_of_le hz2_0 hB3.size | (have := hB3.size; simp at this; omega)
            have hC3 := bup hC2 hB3
            go_wp2_with fail
            refine (LA.out _ hC3).mono ?_
            rintro e x4 ⟨a4, b4, c4, d4, rfl, hcfg4, hB4⟩
            obtain ⟨hd4, hf4⟩ := bcell hB4
            have hz4_0 : w.heap.size < x4.heap.size := by first | exact Nat.lt_of_lt_of_le hz3_0 hB4.size | (have := hB4.size; simp at this; omega)
            have hC4 := bup hC3 hB4
            have hA4 := below_alloc x4 (.cells #[.slice a4 na b4, .slice c4 att.length d4, .bool ka] 26)
            have hC4a := bup hC4 hA4
            have ka4a := hcfg4.below hA4
            have hnew4 : x4.heap.size < (x4.alloc (.cells #[.slice a4 na b4, .slice c4 att.length d4, .bool ka] 26)).heap.size := by simp
            go_wp2_with fail
            refine (LB.out _ _ ka4a (HG.out _ hC4a)).mono ?_
            rintro e x5 ⟨a5, b5, c5, d5, rfl, hcfg5, hB5⟩
            obtain ⟨hd5, hf5⟩ := bcell hB5
            have hz5_0 : w.heap.size < x5.heap.size := by first | exact Nat.lt_of_lt_of_le hz4_0 hB5.size | (have := hB5.size; simp at this; omega)
            have hz5_1 : x4.heap.size < x5.heap.size := by first | exact Nat.lt_of_lt_of_le hnew4 hB5.size | (have := hB5.size; simp at this; omega)
            have hC5 := bup hC4a hB5
            have ka5 := ka4a.below hB5
            have hA5 := below_alloc x5 (.cells #[.slice a5 na b5, .slice c5 att.length d5, .bool ka] 26)
            have hC5a := bup hC5 hA5
            have ka5a := ka5.below hA5
            have kb5a := hcfg5.below hA5
            have hnew5 : x5.heap.size < (x5.alloc (.cells #[.slice a5 na b5, .slice c5 att.length d5, .bool ka] 26)).heap.size := by simp
            go_wp2_with fail
            refine (LD.out _ hC5a).mono ?_
            rintro e x6 ⟨a6, b6, c6, d6, rfl, hcfg6, hB6⟩
            obtain ⟨hd6, hf6⟩ := bcell hB6
            have hz6_0 : w.heap.size < x6.heap.size := by first | exact Nat.lt_of_lt_of_le hz5_0 hB6.size | (have := hB6.size; simp at this; omega)
            have hz6_1 : x4.heap.size < x6.heap.size := by first | exact Nat.lt_of_lt_of_le hz5_1 hB6.size | (have := hB6.size; simp at this; omega)
            have hz6_2 : x5.heap.size < x6.heap.size := by first | exact Nat.lt_of_lt_of_le hnew5 hB6.size | (have := hB6.size; simp at this; omega)
            have hC6 := bup hC5a hB6
            have ka6 := ka5a.below hB6
            have kb6 := kb5a.below hB6
            have hA6 := below_alloc x6 (.cells #[.slice a6 cls.length b6, .slice c6 nd d6, .bool kd] 26)
            have hC6a := bup hC6 hA6
            have ka6a := ka6.below hA6
            have kb6a := kb6.below hA6
            have kd6a := hcfg6.below hA6
            have hnew6 : x6.heap.size < (x6.alloc (.cells #[.slice a6 cls.length b6, .slice c6 nd d6, .bool kd] 26)).heap.size := by simp
            go_wp2_with fail
            refine (LE.out _ hC6a).mono ?_
            rintro e x7 ⟨a7, b7, c7, d7, rfl, hcfg7, hB7⟩
            obtain ⟨hd7, hf7⟩ := bcell hB7
            have hz7_0 : w.heap.size < x7.heap.size := by first | exact Nat.lt_of_lt_of_le hz6_0 hB7.size | (have := hB7.size; simp at this; omega)
            have hz7_1 : x4.heap.size < x7.heap.size := by first | exact Nat.lt_of_lt_of_le hz6_1 hB7.size | (have := hB7.size; simp at this; omega)
            have hz7_2 : x5.heap.size < x7.heap.size := by first | exact Nat.lt_of_lt_of_le hz6_2 hB7.size | (have := hB7.size; simp at this; omega)
            have hz7_3 : x6.heap.size < x7.heap.size := by first | exact Nat.lt_of_lt_of_le hnew6 hB7.size | (have := hB7.size; simp at this; omega)
            have hC7 := bup hC6a hB7
            have ka7 := ka6a.below hB7
            have kb7 := kb6a.below hB7
            have kd7 := kd6a.below hB7
            have hA7 := below_alloc x7 (.cells #[.slice a7 cls.length b7, .slice c7 att.length d7, .bool true] 26)
            have hC7a := bup hC7 hA7
            have ka7a := ka7.below hA7
            have kb7a := kb7.below hA7
            have kd7a := kd7.below hA7
            have ke7a := hcfg7.below hA7
            have hnew7 : x7.heap.size < (x7.alloc (.cells #[.slice a7 cls.length b7, .slice c7 att.length d7, .bool true] 26)).heap.size := by simp
            go_wp2_with fail
            refine (rsame_any _ _ _ _ _ ka7a kb7a).mono ?_
            rintro e x8 ⟨rfl, hB8⟩
            obtain ⟨hd8, hf8⟩ := bcell hB8
            have hz8_0 : w.heap.size < x8.heap.size := by first | exact Nat.lt_of_lt_of_le hz7_0 hB8.size | (have := hB8.size; simp at this; omega)
            have hz8_1 : x4.heap.size < x8.heap.size := by first | exact Nat.lt_of_lt_of_le hz7_1 hB8.size | (have := hB8.size; simp at this; omega)
            have hz8_2 : x5.heap.size < x8.heap.size := by first | exact Nat.lt_of_lt_of_le hz7_2 hB8.size | (have := hB8.size; simp at this; omega)
            have hz8_3 : x6.heap.size < x8.heap.size := by first | exact Nat.lt_of_lt_of_le hz7_3 hB8.size | (have := hB8.size; simp at this; omega)
            have hz8_4 : x7.heap.size < x8.heap.size := by first | exact Nat.lt_of_lt_of_le hnew7 hB8.size | (have := hB8.size; simp at this; omega)
            have hC8 := bup hC7a hB8
            have ka8 := ka7a.below hB8
            have kb8 := kb7a.below hB8
            have kd8 := kd7a.below hB8
            have ke8 := ke7a.below hB8
            rw [same_refl]
            go_wp2_with fail
            refine (MA.out _ _ ka8).mono ?_
            rintro e x9 ⟨rfl, hB9⟩
            obtain ⟨hd9, hf9⟩ := bcell hB9
            have hz9_0 : w.heap.size < x9.heap.size := by first | exact Nat.lt_of_lt_of_le hz8_0 hB9.size | (have := hB9.size; simp at this; omega)
            have hz9_1 : x4.heap.size < x9.heap.size := by first | exact Nat.lt_of_lt_of_le hz8_1 hB9.size | (have := hB9.size; simp at this; omega)
            have hz9_2 : x5.heap.size < x9.heap.size := by first | exact Nat.lt_of_lt_of_le hz8_2 hB9.size | (have := hB9.size; simp at this; omega)
            have hz9_3 : x6.heap.size < x9.heap.size := by first | exact Nat.lt_of_lt_of_le hz8_3 hB9.size | (have := hB9.size; simp at this; omega)
            have hz9_4 : x7.heap.size < x9.heap.size := by first | exact Nat.lt_of_lt_of_le hz8_4 hB9.size | (have := hB9.size; simp at this; omega)
            have hC9 := bup hC8 hB9
            have ka9 := ka8.below hB9
            have kb9 := kb8.below hB9
            have kd9 := kd8.below hB9
            have ke9 := ke8.below hB9
            go_wp2_with fail
            refine (MD.out _ _ kd9).mono ?_
            rintro e x10 ⟨rfl, hB10⟩
            obtain ⟨hd10, hf10⟩ := bcell hB10
            have hz10_0 : w.heap.size < x10.heap.size := by first | exact Nat.lt_of_lt_of_le hz9_0 hB10.size | (have := hB10.size; simp at this; omega)
            have hz10_1 : x4.heap.size < x10.heap.size := by first | exact Nat.lt_of_lt_of_le hz9_1 hB10.size | (have := hB10.size; simp at this; omega)
            have hz10_2 : x5.heap.size < x10.heap.size := by first | exact Nat.lt_of_lt_of_le hz9_2 hB10.size | (have := hB10.size; simp at this; omega)
            have hz10_3 : x6.heap.size < x10.heap.size := by first | exact Nat.lt_of_lt_of_le hz9_3 hB10.size | (have := hB10.size; simp at this; omega)
            have hz10_4 : x7.heap.size < x10.heap.size := by first | exact Nat.lt_of_lt_of_le hz9_4 hB10.size | (have := hB10.size; simp at this; omega)
            have hC10 := bup hC9 hB10
            have ka10 := ka9.below hB10
            have kb10 := kb9.below hB10
            have kd10 := kd9.below hB10
            have ke10 := ke9.below hB10
            go_wp2_with fail
            refine (ME.out _ _ ke10).mono ?_
            rintro e x11 ⟨rfl, hB11⟩
            obtain ⟨hd11, hf11⟩ := bcell hB11
            have hz11_0 : w.heap.size < x11.heap.size := by first | exact Nat.lt_of_lt_of_le hz10_0 hB11.size | (have := hB11.size; simp at this; omega)
            have hz11_1 : x4.heap.size < x11.heap.size := by first | exact Nat.lt_of_lt_of_le hz10_1 hB11.size | (have := hB11.size; simp at this; omega)
            have hz11_2 : x5.heap.size < x11.heap.size := by first | exact Nat.lt_of_lt_of_le hz10_2 hB11.size | (have := hB11.size; simp at this; omega)
            have hz11_3 : x6.heap.size < x11.heap.size := by first | exact Nat.lt_of_lt_of_le hz10_3 hB11.size | (have := hB11.size; simp at this; omega)
            have hz11_4 : x7.heap.size < x11.heap.size := by first | exact Nat.lt_of_lt_of_le hz10_4 hB11.size | (have := hB11.size; simp at this; omega)
            have hC11 := bup hC10 hB11
            have ka11 := ka10.below hB11
            have kb11 := kb10.below hB11
            have kd11 := kd10.below hB11
            have ke11 := ke10.below hB11
            obtain rfl := HT.out (by simp)
            obtain rfl := HK.out trivial
            by_cases hroom : (cls.length : Int) < 20
            · skip
              go_wp2_with fail
              refine (HN.out _).mono ?_
              rintro e xx ⟨rfl, rfl⟩
              go_wp2_with fail
              refine (HN.out _).mono ?_
              rintro e xx ⟨rfl, rfl⟩
              go_wp2
              go_ret
              exact ⟨rfl, hC11⟩
            · skip
              go_wp2_with fail
              refine (HN.out _).mono ?_
              rintro e xx ⟨rfl, rfl⟩
              go_wp2_with fail
              refine (HN.out _).mono ?_
              rintro e xx ⟨rfl, rfl⟩
              go_wp2
              go_ret
              exact ⟨rfl, hC11⟩
    · clear hC hCs hsm hn
      go_enter Tryd.func5, Tryd.ntmps5
      go_wp2_with fail
      refine (fixed_any _ (hg.below hA0)).mono ?_
      rintro e w1 ⟨rfl, hB1⟩
      obtain ⟨hd1, hf1⟩ := bcell hB1
      have hz1 : w.heap.size < w1.heap.size := Nat.lt_of_lt_of_le hz0 hB1.size
      have hC1 := bup hA0 hB1
      go_wp2_with fail
      refine (SM.out _ hC1).mono ?_
      rintro e w2 ⟨rfl, hB2⟩
      have hC2 := bup hC1 hB2
      go_wp2_with fail
      refine (fixed_any _ (hg.below hC2)).mono ?_
      rintro e w3 ⟨rfl, hB3⟩
      go_wp2
      go_ret
      exact ⟨rfl, bup hC2 hB3⟩
end Go.Proofs.YtfpegmeppgdklaaDoor
