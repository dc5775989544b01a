/-
  winnowinglaw22.ToolLines.
-/
import Derived.Test.YtfpegmeppgdklaaDoorOrder
import Derived.Test.YtfpegmeppgdklaaDoorPlainL
import Derived.Deep.RegionWith
namespace Go.Proofs.YtfpegmeppgdklaaDoor
open Go.RowKit
/-- a block whose cells hold no string -/
def NoStr (W : World) (B : Nat) : Prop := ∃ x0 x1 x2 t, W.heap[B]? = some (.cells #[x0, x1, x2] t (0, 0)) ∧ (∀ s, x0 ≠ .string s) ∧ (∀ s, x1 ≠ .string s) ∧ (∀ s, x2 ≠ .string s)
theorem NoStr.off {W : World} {B o : Nat} {s : ByteArray} (h : NoStr W B) : W.cell? ⟨B, o, none⟩ ≠ some (.string s) := by
  obtain ⟨x0, x1, x2, t, h0, h1, h2, h3⟩ := h
  rw [Lib.cell_of_heap h0]
  intro e
  rcases o with _ | _ | _ | o
  · exact h1 s (by simpa using e)
  · exact h2 s (by simpa using e)
  · exact h3 s (by simpa using e)
  · simp at e
/-- a world that has only stored into the block B -/
def OnlyB (B : Nat) (W W' : World) : Prop := ∀ b o, b ≠ B → W'.cell? ⟨b, o, none⟩ = W.cell? ⟨b, o, none⟩
theorem SAt.only {W W' : World} {B : Nat} {v : Value} {ss : List Str} (h : SAt W v ss) (hB : NoStr W B) (ho : OnlyB B W W') : SAt W' v ss := by
  rcases h with h | ⟨b, off, cap, h1, h2, h3, h4⟩
  · exact .inl h
  · refine .inr ⟨b, off, cap, h1, h2, h3, fun j hj => ?_⟩
    have hc := h4 j hj
    have hne : b ≠ B := fun e => by subst e; exact hB.off hc
    rw [ho b _ hne]
    exact hc
theorem CfgAt.only {W W' : World} {B : Nat} {v : Value} {c : Cfg} (h : CfgAt W v c) (hB : NoStr W B) (ho : OnlyB B W W') : CfgAt W' v c := by
  obtain ⟨v1, v2, h1, h2, h3, h4⟩ := h
  exact ⟨v1, v2, h1, h2.only hB ho, h3.only hB ho, h4⟩
/-- tool.Line, at a config of few names -/
theorem line_to (v : Value) (c : Cfg) (x : Str) (w : World) (hv : CfgAt w v c) (hx : x.length ≤ 1000000) (hg : Glob w) (h20 : Small20 c) :
    Calls Tryd.prog 15 #[v, .string (bs x)] w fun e w' => ∃ a1 n1 c1 a2 n2 c2 k, e = .returned (.tuple #[.agg #[.slice a1 n1 c1, .slice a2 n2 c2, .bool k], .bool (lineM c x).2]) ∧ CfgAt w' (.agg #[.slice a1 n1 c1, .slice a2 n2 c2, .bool k]) (lineM c x).1 ∧ Below w.heap.size w w' := by
  refine (line_any v c (bs x) w 0 (Nat.zero_le _) hv.in0 (by rw [bs_size]; exact hx) hg (by have := h20.1; omega) (by have := h20.2; omega)).mono ?_
  rintro e w' ⟨v, rfl, h1, h2⟩
  rw [bs_data] at *
  obtain ⟨a1, n1, c1, a2, n2, c2, k, rfl⟩ := h1.at.form
  exact ⟨_, _, _, _, _, _, _, rfl, h1.at, h2⟩
/-- tool.Parse, at a text whose answer is told -/
theorem parse_tell (s : ByteArray) (c : Cfg) (n : Nat) (o : Bool) (w : World) (hs : s.size ≤ 1000000) (hg : Glob w) (h : parseM s.data.toList = (c, n, o)) :
    Calls Tryd.prog 9 #[.string s] w fun e w' => ∃ a1 n1 c1 a2 n2 c2 k, e = .returned (.tuple #[.agg #[.slice a1 n1 c1, .slice a2 n2 c2, .bool k], .int .i64 n, .int .i64 (if o then 0 else 220)]) ∧ CfgAt w' (.agg #[.slice a1 n1 c1, .slice a2 n2 c2, .bool k]) c ∧ Below w.heap.size w w' := by
  refine (parse_any s w hs hg).mono ?_
  rintro e w' ⟨v, rfl, h3, h4⟩
  rw [h] at *
  obtain ⟨a1, n1, c1, a2, n2, c2, k, rfl⟩ := h3.form
  exact ⟨_, _, _, _, _, _, _, rfl, h3, h4⟩
/-- R22.Lines, at a text whose lines are told -/
theorem lines_tell (s : ByteArray) (L : List Str) (w : World) (hs : s.size ≤ 1000000) (h : linesM s.data.toList = L) (hL : 0 < L.length) :
    Calls Tryd.prog 14 #[.string s] w fun e w' => ∃ b o vc, e = .returned (.slice (some ⟨b, o, none⟩) L.length vc) ∧ L.length ≤ vc ∧ Hid (∀ j (hj : j < L.length), w'.cell? ⟨b, o + j, none⟩ = some (.string (bs L[j]))) ∧ Below w.heap.size w w' := by
  refine (lines_any s w hs).mono ?_
  rintro e w' ⟨v, rfl, hv, hB⟩
  rw [h] at hv
  rcases hv with ⟨hn, -⟩ | ⟨b, o, cap, rfl, h1, h2, h3⟩
  · rw [List.map_eq_nil_iff.1 hn] at hL; cases hL
  · rw [List.length_map] at h1 ⊢
    exact ⟨b, o, cap, rfl, h1, Lib.hid fun j hj => by have := h3 j (by simpa using hj); simpa using this, hB⟩
/-- at the loop's head -/
def TL (w : World) (Ba Bb b off : Nat) (A D : Cfg) (L : List Str) (bc : Array Value) (k : Nat) (wr : World) : Prop :=
  ∃ c a1 n1 c1 a2 n2 c2 q, Hid (runM A (L.take k) = some c) ∧ wr.heap[Ba]? = some (.cells #[.slice a1 n1 c1, .slice a2 n2 c2, .bool q] 26 (0, 0)) ∧
    CfgAt wr (.agg #[.slice a1 n1 c1, .slice a2 n2 c2, .bool q]) c ∧ wr.heap[Bb]? = some (.cells bc 26 (0, 0)) ∧ CfgAt wr (.agg bc) D ∧
    Hid (∀ j (hj : j < L.length), wr.cell? ⟨b, off + j, none⟩ = some (.string (bs L[j]))) ∧ Below w.heap.size w wr
theorem tail_x (s t : ByteArray) : (s ++ (⟨#[10]⟩ : ByteArray) ++ t).data.toList = s.data.toList ++ 10 :: t.data.toList := by
  simp only [ba_app, List.append_assoc, List.cons_append, List.nil_append]
theorem tail_y (s : ByteArray) : (s ++ (⟨#[10, 35, 120, 10, 10]⟩ : ByteArray) ++ s).data.toList = twice s.data.toList := by
  simp only [ba_app, twice, List.append_assoc, List.cons_append, List.nil_append]
/-- the first text fails -/
theorem toolLines_none (s t : ByteArray) (w : World) (hg : Glob w) (h1 : s.size ≤ 400) (h2 : t.size ≤ 400) (h : runM emptyC (linesM s.data.toList) = none) :
    Calls Tryd.prog 4 #[.string s, .string t] w fun e w' => e = .returned (.bool true) ∧ Below w.heap.size w w' := by
  obtain ⟨n, hn⟩ : ∃ n, n = badAt emptyC (linesM s.data.toList) := ⟨_, rfl⟩
  have hx : (s ++ (⟨#[10]⟩ : ByteArray) ++ t).size ≤ 1000000 := by
    simp only [ByteArray.size_append]; have z : (⟨#[10]⟩ : ByteArray).size = 1 := rfl; omega
  have hy : (s ++ (⟨#[10, 35, 120, 10, 10]⟩ : ByteArray) ++ s).size ≤ 1000000 := by
    simp only [ByteArray.size_append]; have z : (⟨#[10, 35, 120, 10, 10]⟩ : ByteArray).size = 5 := rfl; omega
  have e1 := parse_none h
  rw [← hn] at e1
  have P1 := Lib.hid fun w hg => parse_tell s emptyC n false w (by omega) hg e1
  have P2 := Lib.hid fun w hg => parse_tell _ emptyC n false w hx hg (by rw [tail_x, then_none _ h, e1])
  have P3 := Lib.hid fun w hg => parse_tell _ emptyC n false w hy hg (by rw [tail_y, twice_none h, e1])
  clear e1 hn h hx hy
  go_enter Tryd.func4, Tryd.ntmps4
  go_wp2_with fail
  refine (fixed_any _ hg).mono ?_
  rintro e w1 ⟨rfl, hB1⟩
  go_wp2_with fail
  refine (P1.out _ (hg.below hB1)).mono ?_
  rintro e w2 ⟨a1, n1, c1, a2, n2, c2, q, rfl, -, hB2⟩
  have hA2 := below_alloc w2 (.cells #[.slice a1 n1 c1, .slice a2 n2 c2, .bool q] 26)
  have hB12 := bup (bup hB1 hB2) hA2
  go_wp2_with fail
  refine (P2.out _ (hg.below hB12)).mono ?_
  rintro e w3 ⟨b1, m1, d1, b2, m2, d2, q2, rfl, -, hB3⟩
  have hA3 := below_alloc w3 (.cells #[.slice b1 m1 d1, .slice b2 m2 d2, .bool q2] 26)
  have hB13 := bup (bup hB12 hB3) hA3
  go_wp2_with fail
  refine (P3.out _ (hg.below hB13)).mono ?_
  rintro e w4 ⟨f1, k1, g1, f2, k2, g2, q3, rfl, -, hB4⟩
  have hA4 := below_alloc w4 (.cells #[.slice f1 k1 g1, .slice f2 k2 g2, .bool q3] 26)
  go_wp2
  go_ret
  exact ⟨rfl, bup (bup hB13 hB4) hA4⟩
end Go.Proofs.YtfpegmeppgdklaaDoor
