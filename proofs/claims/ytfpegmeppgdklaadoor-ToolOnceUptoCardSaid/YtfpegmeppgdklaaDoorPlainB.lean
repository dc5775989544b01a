/-
  Plain laws for ToolBack and ToolOnce: what was parsed may be; a config that may be is read back from its text; what a line makes of one that may be.
-/
import Derived.Test.YtfpegmeppgdklaaDoorPlainL
import Derived.Test.YtfpegmeppgdklaaDoorMayt
import Derived.Test.YtfpegmeppgdklaaDoorText
namespace Go.Proofs.YtfpegmeppgdklaaDoor
open Go.RowKit
theorem apartB_iff (p : Str → Bool) (l : List Str) : apartB p l = true ↔ l.length ≤ 20 ∧ l.Nodup ∧ ∀ x ∈ l, p x = true := by
  simp [apartB, and_assoc]
theorem inB_iff (l : List Str) (x : Str) : inB l x = true ↔ x ∈ l := by simp [inB]
theorem nodup_snoc (l : List Str) (x : Str) : (l ++ [x]).Nodup ↔ l.Nodup ∧ x ∉ l := by
  rw [List.nodup_append]
  constructor
  · rintro ⟨h1, -, h2⟩
    exact ⟨h1, fun h => h2 x h x (by simp) rfl⟩
  · rintro ⟨h1, h2⟩
    exact ⟨h1, by simp, fun a ha b hb => by rintro rfl; simp at hb; subst hb; exact h2 ha⟩
theorem apart_add {p : Str → Bool} {l : List Str} {x : Str} (h : apartB p l = true) (hx : p x = true) (h2 : (addM l x).2 = true) : apartB p (addM l x).1 = true := by
  unfold addM at *
  split
  · exact h
  · rename_i hi
    rw [if_neg hi] at h2
    rw [apartB_iff] at *
    obtain ⟨h3, h4, h5⟩ := h
    have h6 := of_decide_eq_true h2
    refine ⟨by simp; omega, (nodup_snoc l x).2 ⟨h4, fun hm => hi ((inB_iff _ _).2 hm)⟩, fun y hy => ?_⟩
    rcases List.mem_append.1 hy with hy | hy
    · exact h5 y hy
    · simp at hy; subst hy; exact hx
theorem line_may {c : Cfg} {x : Str} (h : mayB c = true) : mayB (lineM c x).1 = true := by
  unfold lineM
  split
  · exact h
  · simp only [mayB, Bool.and_eq_true] at h
    split
    · rename_i h1
      simp only [Bool.and_eq_true] at h1
      split
      · rename_i h2
        simp only [mayB, Bool.and_eq_true]
        exact ⟨apart_add h.1 h1.2 h2, h.2⟩
      · simp only [mayB, Bool.and_eq_true]; exact h
    · split
      · rename_i h1
        simp only [Bool.and_eq_true] at h1
        split
        · rename_i h2
          simp only [mayB, Bool.and_eq_true]
          exact ⟨h.1, apart_add h.2 h1.2 h2⟩
        · simp only [mayB, Bool.and_eq_true]; exact h
      · simp only [mayB, Bool.and_eq_true]; exact h
theorem step_may {c d : Cfg} {x : Str} (h : mayB c = true) (h2 : stepM c x = some d) : mayB d = true := by
  unfold stepM at h2
  split at h2
  · cases h2; exact h
  · split at h2
    · cases h2; exact line_may h
    · cases h2
theorem run_may {c d : Cfg} {p : List Str} (h : mayB c = true) (h2 : runM c p = some d) : mayB d = true := by
  induction p generalizing c with
  | nil => simp only [runM, Option.some.injEq] at h2; subst h2; exact h
  | cons l r ih =>
    simp only [runM] at h2
    cases hs : stepM c l with
    | none => rw [hs] at h2; cases h2
    | some e => rw [hs] at h2; exact ih (step_may h hs) h2
theorem may_empty : mayB emptyC = true := by decide
theorem parse_may (s : Str) : mayB (parseM s).1 = true := by
  rw [(parseM_of s).1]
  cases h : runM emptyC (linesM s) with
  | none => exact may_empty
  | some d => exact run_may may_empty h
theorem may_20 {c : Cfg} (h : mayB c = true) : Small20 c := by
  simp only [mayB, Bool.and_eq_true, apartB_iff] at h
  exact ⟨h.1.1, h.2.1⟩
/-- all names of a config are of at most so many bytes -/
def ShortC (K : Nat) (c : Cfg) : Prop := (∀ x ∈ c.cls, x.length ≤ K) ∧ (∀ x ∈ c.att, x.length ≤ K)
theorem addM_short {K : Nat} {l : List Str} {x : Str} (h : ∀ y ∈ l, y.length ≤ K) (hx : x.length ≤ K) : ∀ y ∈ (addM l x).1, y.length ≤ K := by
  unfold addM
  split
  · exact h
  · intro y hy
    rcases List.mem_append.1 hy with hy | hy
    · exact h y hy
    · simp at hy; subst hy; exact hx
theorem lineM_short {K : Nat} {c : Cfg} {x : Str} (h : ShortC K c) (hx : (cutN x).length ≤ K) : ShortC K (lineM c x).1 := by
  unfold lineM
  split
  · exact h
  · split
    · split
      · exact ⟨addM_short h.1 hx, h.2⟩
      · exact h
    · split
      · split
        · exact ⟨h.1, addM_short h.2 hx⟩
        · exact h
      · exact h
theorem stepM_short {K : Nat} {c d : Cfg} {x : Str} (h : ShortC K c) (hx : x.length ≤ K) (h2 : stepM c x = some d) : ShortC K d := by
  unfold stepM at h2
  split at h2
  · cases h2; exact h
  · split at h2
    · cases h2; exact lineM_short h (Nat.le_trans (cutN_len _) hx)
    · cases h2
theorem runM_short {K : Nat} {c d : Cfg} {p : List Str} (h : ShortC K c) (hp : ∀ x ∈ p, x.length ≤ K) (h2 : runM c p = some d) : ShortC K d := by
  induction p generalizing c with
  | nil => simp only [runM, Option.some.injEq] at h2; subst h2; exact h
  | cons l r ih =>
    simp only [runM] at h2
    cases hs : stepM c l with
    | none => rw [hs] at h2; cases h2
    | some e => rw [hs] at h2; exact ih (stepM_short h (hp l List.mem_cons_self) hs) (fun x hx => hp x (List.mem_cons_of_mem _ hx)) h2
theorem linesAux_short (cur s : Str) : ∀ x ∈ linesAux cur s, x.length ≤ cur.length + s.length := by
  induction s generalizing cur with
  | nil => intro x hx; simp [linesAux] at hx; subst hx; simp
  | cons c r ih =>
    intro x hx
    rw [linesAux] at hx
    split at hx
    · rcases List.mem_cons.1 hx with rfl | hx
      · simp
      · have := ih [] x hx
        simp at this ⊢; omega
    · have := ih _ x hx
      simp at this ⊢; omega
theorem parse_short (s : Str) : ShortC s.length (parseM s).1 := by
  rw [(parseM_of s).1]
  cases h : runM emptyC (linesM s) with
  | none => exact ⟨by simp [emptyC], by simp [emptyC]⟩
  | some d => exact runM_short ⟨by simp [emptyC], by simp [emptyC]⟩ (fun x hx => by have := linesAux_short [] s x hx; simpa using this) h
theorem linesT_len {K : Nat} (wd : Str) (l : List Str) (h : ∀ x ∈ l, x.length ≤ K) : (linesT wd l).length ≤ l.length * (wd.length + K + 1) := by
  induction l with
  | nil => simp [linesT]
  | cons a r ih =>
    have h1 := h a List.mem_cons_self
    have h2 := ih fun x hx => h x (List.mem_cons_of_mem _ hx)
    simp only [linesT, List.flatMap_cons, List.length_append, List.length_cons, List.length_nil] at *
    rw [Nat.succ_mul]
    omega
theorem textM_len {K : Nat} {c : Cfg} (h : ShortC K c) : (textM c).length ≤ (c.cls.length + c.att.length) * (K + 7) + 9 := by
  have h1 := linesT_len [99, 108, 97, 115, 115, 32] c.cls h.1
  have h2 := linesT_len [97, 116, 116, 114, 32] c.att h.2
  have e1 : ([99, 108, 97, 115, 115, 32] : Str).length = 6 := rfl
  have e2 : ([97, 116, 116, 114, 32] : Str).length = 5 := rfl
  rw [e1] at h1
  rw [e2] at h2
  have h3 : (if c.crit = true then ([99, 114, 105, 116, 105, 99, 97, 108, 10] : Str) else []).length ≤ 9 := by split <;> simp
  simp only [textM, List.length_append]
  have h4 : c.att.length * (5 + K + 1) ≤ c.att.length * (K + 7) := Nat.mul_le_mul_left _ (by omega)
  have h5 : c.cls.length * (6 + K + 1) = c.cls.length * (K + 7) := by congr 1; omega
  rw [Nat.add_mul]
  omega
theorem nonl_name {x : Str} (h : nameB x = true) : nonl x := by
  intro c hc
  simp only [nameB, Bool.and_eq_true, List.all_eq_true] at h
  have := h.1 c hc
  cases e : c == 10
  · rfl
  · rw [eq_of_beq e] at this
    exact absurd this (by decide)
theorem run_cls (l : List Str) : ∀ (c : Cfg) (rest : Str), (∀ x ∈ l, nameB x = true) → (c.cls ++ l).length ≤ 20 → (c.cls ++ l).Nodup →
    runM c (linesM (linesT [99, 108, 97, 115, 115, 32] l ++ rest)) = runM { c with cls := c.cls ++ l } (linesM rest) := by
  induction l with
  | nil => intro c rest _ _ _; simp [linesT]
  | cons a r ih =>
    intro c rest h h20 hn
    have ha := h a List.mem_cons_self
    have e : linesT [99, 108, 97, 115, 115, 32] (a :: r) ++ rest = clsL a ++ 10 :: (linesT [99, 108, 97, 115, 115, 32] r ++ rest) := by
      simp [linesT, clsL, classS]
    rw [e, linesM_app, linesM_one _ (nonl_cls (nonl_name ha))]
    have h9 : (c.cls ++ [a] ++ r).Nodup := by simpa using hn
    have hna : a ∉ c.cls := by
      have := (List.nodup_append.1 hn).2.2
      intro hm
      exact this a hm a List.mem_cons_self rfl
    have hi : inB c.cls a = false := by
      cases hh : inB c.cls a
      · rfl
      · exact absurd ((inB_iff _ _).1 hh) hna
    have hl : c.cls.length < 20 := by simp at h20; omega
    have hs : stepM c (clsL a) = some { c with cls := c.cls ++ [a] } := by
      rw [step_cls]; simp [ha, addM, hi, hl]
    show (match stepM c (clsL a) with | some d => runM d _ | none => none) = _
    rw [hs]
    show runM _ (linesM _) = _
    rw [ih { c with cls := c.cls ++ [a] } rest (fun x hx => h x (List.mem_cons_of_mem _ hx)) (by simpa using h20) (by simpa using hn)]
    simp
theorem run_att (l : List Str) : ∀ (c : Cfg) (rest : Str), (∀ x ∈ l, attrB x = true) → (c.att ++ l).length ≤ 20 → (c.att ++ l).Nodup →
    runM c (linesM (linesT [97, 116, 116, 114, 32] l ++ rest)) = runM { c with att := c.att ++ l } (linesM rest) := by
  induction l with
  | nil => intro c rest _ _ _; simp [linesT]
  | cons a r ih =>
    intro c rest h h20 hn
    have ha := h a List.mem_cons_self
    have han : nameB a = true := by simp only [attrB, Bool.and_eq_true] at ha; exact ha.1
    have e : linesT [97, 116, 116, 114, 32] (a :: r) ++ rest = attL a ++ 10 :: (linesT [97, 116, 116, 114, 32] r ++ rest) := by
      simp [linesT, attL, attrS]
    rw [e, linesM_app, linesM_one _ (nonl_att (nonl_name han))]
    have hna : a ∉ c.att := by
      have := (List.nodup_append.1 hn).2.2
      intro hm
      exact this a hm a List.mem_cons_self rfl
    have hi : inB c.att a = false := by
      cases hh : inB c.att a
      · rfl
      · exact absurd ((inB_iff _ _).1 hh) hna
    have hl : c.att.length < 20 := by simp at h20; omega
    have hs : stepM c (attL a) = some { c with att := c.att ++ [a] } := by
      rw [step_att]; simp [ha, addM, hi, hl]
    show (match stepM c (attL a) with | some d => runM d _ | none => none) = _
    rw [hs]
    show runM _ (linesM _) = _
    rw [ih { c with att := c.att ++ [a] } rest (fun x hx => h x (List.mem_cons_of_mem _ hx)) (by simpa using h20) (by simpa using hn)]
    simp
/-- a config that may be is read back from its text -/
theorem back_text {c : Cfg} (h : mayB c = true) : (parseM (textM c)).1 = c ∧ (parseM (textM c)).2.2 = true := by
  have h0 := h
  simp only [mayB, Bool.and_eq_true, apartB_iff] at h
  obtain ⟨⟨h1, h2, h3⟩, h4, h5, h6⟩ := h
  have e : runM emptyC (linesM (textM c)) = some c := by
    unfold textM
    rw [List.append_assoc, run_cls _ _ _ h3 (by simpa [emptyC] using h1) (by simpa [emptyC] using h2)]
    rw [run_att _ _ _ h6 (by simpa [emptyC] using h4) (by simpa [emptyC] using h5)]
    obtain ⟨cls, att, crit⟩ := c
    cases crit
    · simp [emptyC, linesM, linesAux, runM, stepM, skipB]
    · show runM _ (linesM (criticalS ++ 10 :: [])) = _
      rw [linesM_app, linesM_one _ nonl_crit]
      show (match stepM _ criticalS with | some d => runM d (linesM []) | none => none) = _
      rw [step_crit]
      simp [emptyC, linesM, linesAux, runM, stepM, skipB]
  rw [(parseM_of _).1, (parseM_of _).2, e]
  exact ⟨rfl, rfl⟩
/-! ToolOnce -/
theorem once_cls {c : Cfg} (n : Str) (h : mayB c = true) :
    (lineM (lineM c (clsL n)).1 (clsL n)) = ((lineM c (clsL n)).1, (lineM c (clsL n)).2) := by
  have h20 := may_20 h
  rw [line_cls c n]
  cases h1 : nameB n
  · simp only [Bool.false_eq_true, if_false]
    rw [line_cls, h1]; simp
  · simp only [if_true]
    cases h2 : (addM c.cls n).2
    · simp only [Bool.false_eq_true, if_false]
      rw [line_cls, h1, h2]; simp
    · simp only [if_true]
      rw [line_cls, h1]
      have h3 : addM (addM c.cls n).1 n = ((addM c.cls n).1, true) := by
        have := addM_held c.cls n
        rw [addM, if_pos this]
      simp [h3]
theorem once_lens (c : Cfg) (n : Str) : (lineM c (clsL n)).1.att = c.att ∧ (lineM c (attL n)).1.cls = c.cls ∧ (lineM c (clsL n)).1.cls.length ≤ c.cls.length + 1 := by
  rw [line_cls, line_att]
  have := addM_len c.cls n
  refine ⟨?_, ?_, ?_⟩
  · split
    · split <;> rfl
    · rfl
  · split
    · split <;> rfl
    · rfl
  · split
    · split
      · exact this
      · simp
    · simp
theorem once_room {c : Cfg} {n : Str} (h1 : nameB n = true) (h2 : c.cls.length < 20) : (lineM c (clsL n)).2 = true := by
  rw [line_cls, h1]
  have : (addM c.cls n).2 = true := by unfold addM; split <;> simp [h2]
  simp [this]
theorem once_no {c : Cfg} {n : Str} (h1 : nameB n = false) : (lineM c (clsL n)).2 = false ∧ (lineM c (attL n)).2 = false := by
  rw [line_cls, line_att]
  simp [h1, attrB]
theorem once_class (c : Cfg) : (lineM c (attL classS)).2 = false := by
  rw [line_att]
  simp [attrB]
end Go.Proofs.YtfpegmeppgdklaaDoor
