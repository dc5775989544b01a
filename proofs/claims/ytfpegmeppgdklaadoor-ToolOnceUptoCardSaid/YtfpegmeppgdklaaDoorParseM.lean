/-
  What tool.Parse computes, in plain Lean.
-/
import Derived.Test.YtfpegmeppgdklaaDoorLine
namespace Go.Proofs.YtfpegmeppgdklaaDoor
open Go.RowKit
def emptyC : Cfg := { cls := [], att := [], crit := false }
def skipB (l : Str) : Bool := l == [] || l.head? == some 35
def stepM (c : Cfg) (l : Str) : Option Cfg := if skipB l then some c else if (lineM c l).2 then some (lineM c l).1 else none
def runM (c : Cfg) : List Str → Option Cfg
  | [] => some c
  | l :: r => match stepM c l with
    | some d => runM d r
    | none => none
theorem runM_snoc (c : Cfg) (p : List Str) (x : Str) : runM c (p ++ [x]) = (runM c p).bind fun d => stepM d x := by
  induction p generalizing c with
  | nil =>
    simp only [List.nil_append, runM]
    show _ = stepM c x
    cases stepM c x <;> rfl
  | cons l r ih =>
    simp only [List.cons_append, runM]
    cases stepM c l with
    | none => rfl
    | some d => exact ih d
theorem runM_none_app (c : Cfg) (p q : List Str) (h : runM c p = none) : runM c (p ++ q) = none := by
  induction p generalizing c with
  | nil => simp [runM] at h
  | cons l r ih =>
    simp only [List.cons_append, runM] at h ⊢
    cases hs : stepM c l with
    | none => rfl
    | some d => rw [hs] at h; exact ih d h
/-- where the first line fails -/
def badAt (c : Cfg) : List Str → Nat
  | [] => 0
  | l :: r => match stepM c l with
    | some d => badAt d r + 1
    | none => 0
theorem badAt_pre (c : Cfg) (p q : List Str) (x : Str) (h : runM c p ≠ none) (h2 : runM c (p ++ [x]) = none) : badAt c (p ++ [x] ++ q) = p.length := by
  induction p generalizing c with
  | nil =>
    simp only [List.nil_append, runM] at h2
    simp only [List.nil_append, List.cons_append, badAt, List.length_nil]
    cases hs : stepM c x with
    | none => rfl
    | some d => rw [hs] at h2; cases h2
  | cons l r ih =>
    simp only [List.cons_append, runM] at h h2
    simp only [List.cons_append, badAt, List.length_cons]
    cases hs : stepM c l with
    | none => rw [hs] at h; exact absurd rfl h
    | some d =>
      rw [hs] at h h2
      have := ih d h h2
      exact congrArg (· + 1) this
/-- What tool.Parse answers: the config, the line's number, whether all went well. -/
def parseM (s : Str) : Cfg × Nat × Bool :=
  match runM emptyC (linesM s) with
  | some c => (c, (linesM s).length, true)
  | none => (emptyC, badAt emptyC (linesM s), false)
def Small20 (c : Cfg) : Prop := c.cls.length ≤ 20 ∧ c.att.length ≤ 20
theorem addM_20 (l : List Str) (x : Str) (h : l.length ≤ 20) (h2 : (addM l x).2 = true) : (addM l x).1.length ≤ 20 := by
  unfold addM at *
  split
  · exact h
  · rename_i hh
    rw [if_neg hh] at h2
    have := of_decide_eq_true h2
    simp; omega
theorem lineM_20 (c : Cfg) (x : Str) (h : Small20 c) : Small20 (lineM c x).1 := by
  unfold lineM
  split
  · exact h
  · split
    · split
      · rename_i h2; exact ⟨addM_20 _ _ h.1 h2, h.2⟩
      · exact h
    · split
      · split
        · rename_i h2; exact ⟨h.1, addM_20 _ _ h.2 h2⟩
        · exact h
      · exact h
theorem stepM_20 (c d : Cfg) (x : Str) (h : Small20 c) (h2 : stepM c x = some d) : Small20 d := by
  unfold stepM at h2
  split at h2
  · cases h2; exact h
  · split at h2
    · cases h2; exact lineM_20 c x h
    · cases h2
theorem runM_20 (c d : Cfg) (p : List Str) (h : Small20 c) (h2 : runM c p = some d) : Small20 d := by
  induction p generalizing c with
  | nil => simp [runM] at h2; subst h2; exact h
  | cons l r ih =>
    simp only [runM] at h2
    cases hs : stepM c l with
    | none => rw [hs] at h2; cases h2
    | some e => rw [hs] at h2; exact ih e (stepM_20 c e l h hs) h2
end Go.Proofs.YtfpegmeppgdklaaDoor
