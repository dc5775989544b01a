/-
  winnowinglaw22.ToolLines: true, whatever the texts and the world.
-/
import Derived.Test.YtfpegmeppgdklaaDoorToolM
namespace Go.Proofs.YtfpegmeppgdklaaDoor
open Go.RowKit
theorem toolLines_any (s t : ByteArray) (w : World) (hg : Glob w) :
    Calls Tryd.prog 4 #[.string s, .string t] w fun e w' => e = .returned (.bool true) ∧ Below w.heap.size w w' := by
  by_cases h1 : s.size ≤ 400
  · by_cases h2 : t.size ≤ 400
    · cases h : runM emptyC (linesM s.data.toList) with
      | none => exact toolLines_none s t w hg h1 h2 h
      | some A => exact toolLines_some s t w hg h1 h2 A h
    · go_enter Tryd.func4, Tryd.ntmps4
      go_wp2_with fail
      refine (fixed_any _ hg).mono ?_
      rintro e w1 ⟨rfl, hB1⟩
      go_wp2_with fail
      refine (fixed_any _ (hg.below hB1)).mono ?_
      rintro e w3 ⟨rfl, hB3⟩
      go_wp2
      go_ret
      exact ⟨rfl, bup hB1 hB3⟩
  · go_enter Tryd.func4, Tryd.ntmps4
    go_wp2_with fail
    refine (fixed_any _ hg).mono ?_
    rintro e w1 ⟨rfl, hB1⟩
    go_wp2_with fail
    refine (fixed_any _ (hg.below hB1)).mono ?_
    rintro e w3 ⟨rfl, hB3⟩
    go_wp2
    go_ret
    exact ⟨rfl, bup hB1 hB3⟩
end Go.Proofs.YtfpegmeppgdklaaDoor
