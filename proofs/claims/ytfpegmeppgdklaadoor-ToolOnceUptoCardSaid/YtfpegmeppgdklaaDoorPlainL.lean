/-
  Plain laws for ToolLines: a text read twice is as once; where the first line fails.
-/
import Derived.Test.YtfpegmeppgdklaaDoorPlain
namespace Go.Proofs.YtfpegmeppgdklaaDoor
open Go.RowKit
/-- what a line asks is there already -/
def Held (A : Cfg) (l : Str) : Prop := skipB l = true ∨ (skipB l = false ∧
  ((l = criticalS ∧ A.crit = true) ∨ (l ≠ criticalS ∧ cutW l = classS ∧ nameB (cutN l) = true ∧ inB A.cls (cutN l) = true) ∨ (l ≠ criticalS ∧ cutW l = attrS ∧ attrB (cutN l) = true ∧ inB A.att (cutN l) = true)))
theorem cls_ne_att : classS ≠ attrS := by decide
theorem Held.step {A : Cfg} {l : Str} (h : Held A l) : stepM A l = some A := by
  obtain ⟨cls, att, crit⟩ := A
  rcases h with h | ⟨hs, ⟨rfl, hc⟩ | ⟨hn, hw, hb, hi⟩ | ⟨hn, hw, hb, hi⟩⟩
  · simp [stepM, h]
  · rw [step_crit]
    simp only at hc
    rw [hc]
  · simp only at hi
    have e : (l == criticalS) = false := by simpa using hn
    simp [stepM, hs, lineM, e, hw, hb, addM, hi]
  · simp only at hi
    have e : (l == criticalS) = false := by simpa using hn
    have e2 : (attrS == classS) = false := by decide
    simp [stepM, hs, lineM, e, hw, hb, addM, hi, e2]
theorem inB_snoc (l : List Str) (x y : Str) : inB (l ++ [x]) y = (inB l y || x == y) := by
  simp [inB]
theorem addM_held (l : List Str) (s : Str) : inB (addM l s).1 s = true := by
  unfold addM
  split
  · assumption
  · simp [inB_snoc]
theorem addM_mono (l : List Str) (s y : Str) (h : inB l y = true) : inB (addM l s).1 y = true := by
  unfold addM
  split
  · exact h
  · simp [inB_snoc, h]
/-- what a line that is taken makes of a config -/
theorem step_cases {c d : Cfg} {l : Str} (h : stepM c l = some d) :
    (skipB l = true ∧ d = c) ∨ (skipB l = false ∧ ((l = criticalS ∧ d = { c with crit := true }) ∨
      (l ≠ criticalS ∧ cutW l = classS ∧ nameB (cutN l) = true ∧ d = { c with cls := (addM c.cls (cutN l)).1 }) ∨
      (l ≠ criticalS ∧ cutW l = attrS ∧ attrB (cutN l) = true ∧ d = { c with att := (addM c.att (cutN l)).1 }))) := by
  unfold stepM at h
  split at h
  · rename_i hs; cases h; exact .inl ⟨hs, rfl⟩
  · rename_i hs
    refine .inr ⟨by simpa using hs, ?_⟩
    split at h
    · rename_i hl
      cases h
      unfold lineM at hl ⊢
      split
      · rename_i he; exact .inl ⟨by simpa using he, rfl⟩
      · rename_i he
        rw [if_neg he] at hl
        have he' : l ≠ criticalS := by simpa using he
        split
        · rename_i h1
          rw [if_pos h1] at hl
          simp only [Bool.and_eq_true, beq_iff_eq] at h1
          split
          · exact .inr (.inl ⟨he', h1.1, h1.2, rfl⟩)
          · rename_i h2; rw [if_neg h2] at hl; cases hl
        · rename_i h1
          rw [if_neg h1] at hl
          split
          · rename_i h3
            rw [if_pos h3] at hl
            simp only [Bool.and_eq_true, beq_iff_eq] at h3
            split
            · exact .inr (.inr ⟨he', h3.1, h3.2, rfl⟩)
            · rename_i h2; rw [if_neg h2] at hl; cases hl
          · rename_i h3; rw [if_neg h3] at hl; cases hl
    · cases h
theorem step_held {c d : Cfg} {l : Str} (h : stepM c l = some d) : Held d l := by
  rcases step_cases h with ⟨h1, -⟩ | ⟨h1, ⟨h2, rfl⟩ | ⟨h2, h3, h4, rfl⟩ | ⟨h2, h3, h4, rfl⟩⟩
  · exact .inl h1
  · exact .inr ⟨h1, .inl ⟨h2, rfl⟩⟩
  · exact .inr ⟨h1, .inr (.inl ⟨h2, h3, h4, addM_held _ _⟩)⟩
  · exact .inr ⟨h1, .inr (.inr ⟨h2, h3, h4, addM_held _ _⟩)⟩
theorem Held.mono {c d : Cfg} {l x : Str} (h : Held c l) (hx : stepM c x = some d) : Held d l := by
  rcases h with h | ⟨hs, h⟩
  · exact .inl h
  · refine .inr ⟨hs, ?_⟩
    rcases step_cases hx with ⟨h1, rfl⟩ | ⟨h1, ⟨h2, rfl⟩ | ⟨h2, h3, h4, rfl⟩ | ⟨h2, h3, h4, rfl⟩⟩
    · exact h
    · rcases h with ⟨k1, k2⟩ | h | h
      · exact .inl ⟨k1, rfl⟩
      · exact .inr (.inl h)
      · exact .inr (.inr h)
    · rcases h with h | ⟨k1, k2, k3, k4⟩ | h
      · exact .inl h
      · exact .inr (.inl ⟨k1, k2, k3, addM_mono _ _ _ k4⟩)
      · exact .inr (.inr h)
    · rcases h with h | h | ⟨k1, k2, k3, k4⟩
      · exact .inl h
      · exact .inr (.inl h)
      · exact .inr (.inr ⟨k1, k2, k3, addM_mono _ _ _ k4⟩)
theorem run_held {c d : Cfg} {p : List Str} (h : runM c p = some d) : (∀ l ∈ p, Held d l) ∧ ∀ l, Held c l → Held d l := by
  induction p generalizing c with
  | nil => simp only [runM, Option.some.injEq] at h; subst h; exact ⟨by simp, fun _ h => h⟩
  | cons l r ih =>
    simp only [runM] at h
    cases hs : stepM c l with
    | none => rw [hs] at h; cases h
    | some e =>
      rw [hs] at h
      obtain ⟨h1, h2⟩ := ih h
      refine ⟨fun x hx => ?_, fun x hx => h2 x (hx.mono hs)⟩
      rcases List.mem_cons.1 hx with rfl | hx
      · exact h2 _ (step_held hs)
      · exact h1 x hx
theorem run_fix {A : Cfg} {p : List Str} (h : ∀ l ∈ p, Held A l) : runM A p = some A := by
  induction p with
  | nil => rfl
  | cons l r ih =>
    simp only [runM]
    rw [(h l List.mem_cons_self).step]
    exact ih fun x hx => h x (List.mem_cons_of_mem _ hx)
theorem run_again {c A : Cfg} {p : List Str} (h : runM c p = some A) : runM A p = some A := run_fix (run_held h).1
theorem badAt_none {c : Cfg} {p : List Str} (q : List Str) (h : runM c p = none) : badAt c (p ++ q) = badAt c p := by
  induction p generalizing c with
  | nil => simp [runM] at h
  | cons l r ih =>
    simp only [runM] at h
    simp only [List.cons_append, badAt]
    cases hs : stepM c l with
    | none => rfl
    | some d => rw [hs] at h; simp only; rw [ih h]
theorem badAt_some {c d : Cfg} {p : List Str} (q : List Str) (h : runM c p = some d) : badAt c (p ++ q) = p.length + badAt d q := by
  induction p generalizing c with
  | nil => simp only [runM, Option.some.injEq] at h; subst h; simp
  | cons l r ih =>
    simp only [runM] at h
    simp only [List.cons_append, badAt, List.length_cons]
    cases hs : stepM c l with
    | none => rw [hs] at h; cases h
    | some e => rw [hs] at h; simp only; rw [ih h]; omega
/-- the text that tells s twice, with two lines between that say nothing -/
def twice (s : Str) : Str := s ++ 10 :: ([35, 120] ++ 10 :: ([] ++ 10 :: s))
theorem linesM_twice (s : Str) : linesM (twice s) = linesM s ++ ([35, 120] :: [] :: linesM s) := by
  unfold twice
  rw [linesM_app, linesM_app, linesM_app]
  rfl
theorem parse_some {s : Str} {A : Cfg} (h : runM emptyC (linesM s) = some A) : parseM s = (A, (linesM s).length, true) := by rw [parseM, h]
theorem parse_none {s : Str} (h : runM emptyC (linesM s) = none) : parseM s = (emptyC, badAt emptyC (linesM s), false) := by rw [parseM, h]
theorem twice_none {s : Str} (h : runM emptyC (linesM s) = none) : parseM (twice s) = parseM s := by
  rw [parse_none h, parse_none (by rw [linesM_twice, runM_none_app _ _ _ h]), linesM_twice, badAt_none _ h]
theorem twice_some {s : Str} {A : Cfg} (h : runM emptyC (linesM s) = some A) : parseM (twice s) = (A, 2 * (linesM s).length + 2, true) := by
  have e : runM emptyC (linesM (twice s)) = some A := by
    rw [linesM_twice, runM_app, h]
    show runM A ([35, 120] :: [] :: linesM s) = some A
    have := run_again h
    simpa [runM, stepM, skipB] using this
  rw [parse_some e, linesM_twice]
  simp
  omega
theorem then_none {s : Str} (t : Str) (h : runM emptyC (linesM s) = none) : parseM (s ++ 10 :: t) = parseM s := by
  rw [parse_none h, parse_none (by rw [linesM_app, runM_none_app _ _ _ h]), linesM_app, badAt_none _ h]
/-- the other text's lines, behind the first's: all are taken -/
theorem then_all {s t : Str} {A c : Cfg} (h : runM emptyC (linesM s) = some A) (h2 : runM A (linesM t) = some c) : parseM (s ++ 10 :: t) = (c, (linesM s).length + (linesM t).length, true) := by
  have e : runM emptyC (linesM (s ++ 10 :: t)) = some c := by rw [linesM_app, runM_app, h]; exact h2
  rw [parse_some e, linesM_app]
  simp
/-- .. or one is not -/
theorem then_bad {s t : Str} {A c : Cfg} {k : Nat} (hk : k < (linesM t).length) (h : runM emptyC (linesM s) = some A) (h2 : runM A ((linesM t).take k) = some c) (h3 : stepM c (linesM t)[k] = none) :
    parseM (s ++ 10 :: t) = (emptyC, (linesM s).length + k, false) := by
  have h4 : runM A ((linesM t).take k ++ [(linesM t)[k]]) = none := by rw [runM_snoc, h2]; exact h3
  have h5 : (linesM t).take k ++ [(linesM t)[k]] ++ (linesM t).drop (k + 1) = linesM t := by
    rw [List.take_append_getElem, List.take_append_drop]
  have h6 : runM A (linesM t) = none := by rw [← h5]; exact runM_none_app _ _ _ h4
  have h7 : badAt A (linesM t) = k := by
    have := badAt_pre A ((linesM t).take k) ((linesM t).drop (k + 1)) _ (by rw [h2]; simp) h4
    rw [h5] at this
    rw [this, List.length_take]
    omega
  rw [parse_none (by rw [linesM_app, runM_app, h]; exact h6), linesM_app, badAt_some _ h, h7]
theorem linesM_len (s : Str) : (linesM s).length ≤ s.length + 1 := by
  unfold linesM
  suffices h : ∀ (cur l : Str), (linesAux cur l).length ≤ l.length + 1 from h [] s
  intro cur l
  induction l generalizing cur with
  | nil => simp [linesAux]
  | cons c r ih =>
    rw [linesAux]
    split
    · simp only [List.length_cons]; have := ih []; omega
    · simp only [List.length_cons]; have := ih (cur ++ [c]); omega
end Go.Proofs.YtfpegmeppgdklaaDoor
