/-
  winnowinglaw22.fixed: true, whatever the world.
-/
import Derived.Test.YtfpegmeppgdklaaDoorParse
import Derived.Test.YtfpegmeppgdklaaDoorMayt
import Derived.Test.YtfpegmeppgdklaaDoorText
namespace Go.Proofs.YtfpegmeppgdklaaDoor
open Go.RowKit
def fixA : Str := [99, 108, 97, 115, 115, 32, 97, 10, 35, 32, 98, 10, 10, 99, 114, 105, 116, 105, 99, 97, 108, 10, 97, 116, 116, 114, 32, 120, 10, 99, 108, 97, 115, 115, 32, 97, 10]
def fixB : Str := [99, 108, 97, 115, 115, 32, 97, 10, 97, 116, 116, 114, 32, 99, 108, 97, 115, 115]
def fixC : Cfg := { cls := [[97]], att := [[120]], crit := true }
theorem parse_fixA : parseM fixA = (fixC, 7, true) := by decide +kernel
theorem parse_fixB : parseM fixB = (emptyC, 1, false) := by decide +kernel
theorem line_fix : lineM fixC [99, 108, 97, 115, 115, 32, 98, 32, 99] = (fixC, false) := by decide +kernel
theorem text_fix : textM fixC = [99, 108, 97, 115, 115, 32, 97, 10, 97, 116, 116, 114, 32, 120, 10, 99, 114, 105, 116, 105, 99, 97, 108, 10] := by decide +kernel
theorem may_fix : mayB fixC = true := by decide +kernel
theorem may_fix2 : mayB { cls := [[]], att := [], crit := false } = false := by decide +kernel
theorem same_fix2 : sameB fixC emptyC = false := by decide +kernel
theorem same_refl (c : Cfg) : sameB c c = true := (sameB_iff c c).2 rfl
theorem parse_fixA_any (w : World) (hg : Glob w) : Calls Tryd.prog 9 #[.string ⟨#[99, 108, 97, 115, 115, 32, 97, 10, 35, 32, 98, 10, 10, 99, 114, 105, 116, 105, 99, 97, 108, 10, 97, 116, 116, 114, 32, 120, 10, 99, 108, 97, 115, 115, 32, 97, 10]⟩] w fun e w' => ∃ a1 c1 b o c2, e = .returned (.tuple #[.agg #[.slice a1 1 c1, .slice (some ⟨b, o, none⟩) 1 c2, .bool true], .int .i64 7, .int .i64 0]) ∧ w'.cell? ⟨b, o, none⟩ = some (.string ⟨#[120]⟩) ∧ CfgAt w' (.agg #[.slice a1 1 c1, .slice (some ⟨b, o, none⟩) 1 c2, .bool true]) fixC ∧ Below w.heap.size w w' := by
  refine (parse_any ⟨#[99, 108, 97, 115, 115, 32, 97, 10, 35, 32, 98, 10, 10, 99, 114, 105, 116, 105, 99, 97, 108, 10, 97, 116, 116, 114, 32, 120, 10, 99, 108, 97, 115, 115, 32, 97, 10]⟩ w (by decide) hg).mono ?_
  rintro e w' ⟨v, rfl, h1, h2⟩
  obtain ⟨v1, v2, rfl, h3, h4, -, -⟩ := h1
  rw [show (⟨#[99, 108, 97, 115, 115, 32, 97, 10, 35, 32, 98, 10, 10, 99, 114, 105, 116, 105, 99, 97, 108, 10, 97, 116, 116, 114, 32, 120, 10, 99, 108, 97, 115, 115, 32, 97, 10]⟩ : ByteArray).data.toList = fixA from rfl, parse_fixA] at *
  obtain ⟨a1, c1, rfl⟩ := h3.form_len
  have h4' := h4
  rcases h4 with ⟨hz, -⟩ | ⟨b, o, c2, rfl, -, -, hc⟩
  · cases hz
  · have h5 := hc 0 (by decide)
    exact ⟨_, _, _, _, _, rfl, h5, ⟨_, _, rfl, h3, h4', by decide, by decide⟩, h2⟩
theorem parse_fixB_any (w : World) (hg : Glob w) : Calls Tryd.prog 9 #[.string ⟨#[99, 108, 97, 115, 115, 32, 97, 10, 97, 116, 116, 114, 32, 99, 108, 97, 115, 115]⟩] w fun e w' => ∃ a1 c1 a2 c2, e = .returned (.tuple #[.agg #[.slice a1 0 c1, .slice a2 0 c2, .bool false], .int .i64 1, .int .i64 220]) ∧ Below w.heap.size w w' := by
  refine (parse_any ⟨#[99, 108, 97, 115, 115, 32, 97, 10, 97, 116, 116, 114, 32, 99, 108, 97, 115, 115]⟩ w (by decide) hg).mono ?_
  rintro e w' ⟨v, rfl, h1, h2⟩
  obtain ⟨v1, v2, rfl, h3, h4, -, -⟩ := h1
  rw [show (⟨#[99, 108, 97, 115, 115, 32, 97, 10, 97, 116, 116, 114, 32, 99, 108, 97, 115, 115]⟩ : ByteArray).data.toList = fixB from rfl, parse_fixB] at *
  obtain ⟨a1, c1, rfl⟩ := h3.form_len
  obtain ⟨a2, c2, rfl⟩ := h4.form_len
  exact ⟨_, _, _, _, rfl, h2⟩
def fixL : ByteArray := ⟨#[99, 108, 97, 115, 115, 32, 98, 32, 99]⟩
theorem line_fix_any (v : Value) (w : World) (hv : CfgAt w v fixC) (hg : Glob w) : Calls Tryd.prog 15 #[v, .string ⟨#[99, 108, 97, 115, 115, 32, 98, 32, 99]⟩] w fun e w' => ∃ a1 c1 a2 c2, e = .returned (.tuple #[.agg #[.slice a1 1 c1, .slice a2 1 c2, .bool true], .bool false]) ∧ CfgAt w' (.agg #[.slice a1 1 c1, .slice a2 1 c2, .bool true]) fixC ∧ Below w.heap.size w w' := by
  refine (line_any v fixC ⟨#[99, 108, 97, 115, 115, 32, 98, 32, 99]⟩ w 0 (Nat.zero_le _) hv.in0 (by decide) hg (by decide) (by decide)).mono ?_
  rintro e w' ⟨v, rfl, h1, h2⟩
  rw [show (⟨#[99, 108, 97, 115, 115, 32, 98, 32, 99]⟩ : ByteArray).data.toList = [99, 108, 97, 115, 115, 32, 98, 32, 99] from rfl, line_fix] at *
  obtain ⟨v1, v2, rfl, h3, h4, l1, l2⟩ := h1.at
  obtain ⟨a1, c1, rfl⟩ := h3.form_len
  obtain ⟨a2, c2, rfl⟩ := h4.form_len
  exact ⟨_, _, _, _, rfl, ⟨_, _, rfl, h3, h4, l1, l2⟩, h2⟩
set_option maxHeartbeats 2000000 in
theorem fixed_any (w : World) (hg : Glob w) : Calls Tryd.prog 7 #[] w fun e w' => e = .returned (.bool true) ∧ Below w.heap.size w w' := by
  go_enter Tryd.func7, Tryd.ntmps7
  go_wp2_with fail
  refine (parse_fixA_any _ hg).mono ?_
  rintro e w1 ⟨a1, c1, b, o, c2, rfl, hx, hcf, hB1⟩
  have hA1 := below_alloc w1 (.cells #[.slice a1 1 c1, .slice (some ⟨b, o, none⟩) 1 c2, .bool true] 26)
  go_wp2_with fail
  refine (parse_fixB_any _ ((hg.below hB1).below hA1)).mono ?_
  rintro e w2 ⟨p1, q1, p2, q2, rfl, hB2⟩
  obtain ⟨hc2, hf2⟩ := bcell hB2
  have hz1 : w1.heap.size < w2.heap.size := by have := hB2.size; simp at this; omega
  have hB12 := bup hA1 hB2
  have hA2 := below_alloc w2 (.cells #[.slice p1 0 q1, .slice p2 0 q2, .bool false] 26)
  have hgl := (hg.below hB1).below (bup hB12 hA2)
  go_wp2_with fail
  refine (line_fix_any _ _ (hcf.below (bup hB12 hA2)) hgl).mono ?_
  rintro e w3 ⟨r1, s1, r2, s2, rfl, hcg, hB3⟩
  obtain ⟨hc3, hf3⟩ := bcell hB3
  have hz2 : w2.heap.size < w3.heap.size := by have := hB3.size; simp at this; omega
  have hz3 : w1.heap.size < w3.heap.size := by omega
  have hB13 := bup (bup hB12 hA2) hB3
  have hx3 := cell_up hx hB13
  have hbl : b < w3.heap.size := cell_lt hx3
  have hx4 : ∀ ob, (w3.alloc ob).cell? ⟨b, o, none⟩ = some (.string ⟨#[120]⟩) := fun ob => by rw [cell_alloc_far _ _ _ _ hbl]; exact hx3
  go_wp2_with fail
  have hB14 := bup hB13 (below_alloc w3 (.cells #[.slice r1 1 s1, .slice r2 1 s2, .bool true] 26))
  refine (text_any _ fixC _ (hcf.below hB14) (by decide +kernel)).mono ?_
  rintro e w4 ⟨rfl, hB4⟩
  obtain ⟨hc4, hf4⟩ := bcell hB4
  have hz4 : w3.heap.size < w4.heap.size := by have := hB4.size; simp at this; omega
  have hz5 : w1.heap.size < w4.heap.size := by omega
  rw [text_fix]
  have hB15 := bup hB14 hB4
  have hcg5 := (hcg.below (below_alloc w3 (.cells #[.slice r1 1 s1, .slice r2 1 s2, .bool true] 26))).below hB4
  clear hx3 hx4 hB14
  go_wp2_with fail
  refine (tsame_any _ _ fixC fixC _ (hcf.below hB15) hcg5).mono ?_
  rintro e w5 ⟨rfl, hB5⟩
  obtain ⟨hc5, hf5⟩ := bcell hB5
  have hz6 : w3.heap.size < w5.heap.size := by have := hB5.size; omega
  have hz7 : w1.heap.size < w5.heap.size := by omega
  rw [same_refl]
  have hB16 := bup hB15 hB5
  go_wp2_with fail
  refine (may_any _ fixC _ (hcf.below hB16) ⟨by decide, by decide⟩).mono ?_
  rintro e w6 ⟨rfl, hB6⟩
  obtain ⟨hc6, hf6⟩ := bcell hB6
  have hz8 : w3.heap.size < w6.heap.size := by have := hB6.size; omega
  have hz9 : w1.heap.size < w6.heap.size := by omega
  rw [may_fix]
  have hB17 := bup hB16 hB6
  go_wp2_with fail
  have hA7 := below_alloc w6 (.cells #[.string ⟨#[]⟩] 9)
  refine (may_any _ { cls := [[]], att := [], crit := false } _ ⟨_, _, rfl, .inr ⟨w6.heap.size, 0, 1, rfl, by decide, by decide, fun j hj => ?_⟩, .inl ⟨rfl, none, 0, rfl⟩, by decide, by decide⟩ ⟨by decide, by decide⟩).mono ?_
  · obtain rfl : j = 0 := by simpa using hj
    rw [Lib.cell_of_heap (heap_al_new _ _)]; rfl
  rintro e w7 ⟨rfl, hB7⟩
  rw [may_fix2]
  have hB18 := bup (bup hB17 hA7) hB7
  obtain ⟨hc7, hf7⟩ := bcell hB7
  have hz10 : w1.heap.size < w7.heap.size := by have := hB7.size; simp at this; omega
  have hc1' : ∀ o, w7.cell? ⟨w1.heap.size, o, none⟩ = w6.cell? ⟨w1.heap.size, o, none⟩ := fun o => World.cell?_of_block (w := w6) ((bup hA7 hB7).block _ hz9)
  go_wp2_with fail
  refine (tsame_any _ _ fixC emptyC _ (hcf.below hB18) ⟨_, _, rfl, .inl ⟨rfl, none, 0, rfl⟩, .inl ⟨rfl, none, 0, rfl⟩, by decide, by decide⟩).mono ?_
  rintro e w8 ⟨rfl, hB8⟩
  rw [same_fix2]
  go_wp2
  go_ret
  exact ⟨rfl, bup hB1 (bup hB18 hB8)⟩
  rename_i h
  exact absurd (bs_toList _) h
end Go.Proofs.YtfpegmeppgdklaaDoor
