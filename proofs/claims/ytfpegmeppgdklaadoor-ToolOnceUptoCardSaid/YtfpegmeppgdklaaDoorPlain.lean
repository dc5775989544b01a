/-
  Plain laws about texts, lines and configs: no program in sight.
-/
import Derived.Test.YtfpegmeppgdklaaDoorParseM
namespace Go.Proofs.YtfpegmeppgdklaaDoor
open Go.RowKit
theorem linesAux_app (cur s t : Str) : linesAux cur (s ++ 10 :: t) = linesAux cur s ++ linesM t := by
  induction s generalizing cur with
  | nil => simp [linesAux, linesM]
  | cons c r ih =>
    simp only [List.cons_append, linesAux]
    split
    · rw [ih]; rfl
    · rw [ih]
theorem linesM_app (s t : Str) : linesM (s ++ 10 :: t) = linesM s ++ linesM t := linesAux_app [] s t
theorem linesAux_one (cur l : Str) (h : ∀ c ∈ l, (c == 10) = false) : linesAux cur l = [cur ++ l] := by
  induction l generalizing cur with
  | nil => simp [linesAux]
  | cons c r ih =>
    rw [linesAux, if_neg (by simp [h c List.mem_cons_self]), ih _ (fun d hd => h d (List.mem_cons_of_mem _ hd))]
    simp
theorem linesM_one (l : Str) (h : ∀ c ∈ l, (c == 10) = false) : linesM l = [l] := linesAux_one [] l h
theorem linesAux_pos (cur l : Str) : 1 ≤ (linesAux cur l).length := by
  induction l generalizing cur with
  | nil => simp [linesAux]
  | cons c r ih =>
    rw [linesAux]; split
    · simp
    · exact ih _
theorem no_nl (cur l : Str) (h : (linesAux cur l).length ≤ 1) : ∀ c ∈ l, (c == 10) = false := by
  induction l generalizing cur with
  | nil => simp
  | cons c r ih =>
    rw [linesAux] at h
    split at h
    · have := linesAux_pos [] r
      rw [List.length_cons] at h; omega
    · rename_i hc
      intro d hd
      rcases List.mem_cons.1 hd with rfl | hd
      · simpa using hc
      · exact ih _ h d hd
theorem runM_app (c : Cfg) (p q : List Str) : runM c (p ++ q) = (runM c p).bind fun d => runM d q := by
  induction p generalizing c with
  | nil => rfl
  | cons l r ih =>
    simp only [List.cons_append, runM]
    cases stepM c l with
    | none => rfl
    | some d => exact ih d
theorem index_word (wd n : Str) (h : ∀ c ∈ wd, (32 == c) = false) : Lib.index (wd ++ 32 :: n) [32] = wd.length := by
  induction wd with
  | nil => simp [Lib.index, List.isPrefixOf]
  | cons c r ih =>
    have hc := h c List.mem_cons_self
    rw [List.cons_append, Lib.index, if_neg (by simp [List.isPrefixOf, hc]), ih (fun d hd => h d (List.mem_cons_of_mem _ hd)), if_neg (by simp)]
    simp
theorem cutW_word (wd n : Str) (h : ∀ c ∈ wd, (32 == c) = false) : cutW (wd ++ 32 :: n) = wd := by
  unfold cutW Lib.cut
  rw [index_word wd n h, if_pos (by omega)]
  simp
theorem cutN_word (wd n : Str) (h : ∀ c ∈ wd, (32 == c) = false) : cutN (wd ++ 32 :: n) = n := by
  unfold cutN Lib.cut
  rw [index_word wd n h, if_pos (by omega)]
  simp
def clsL (a : Str) : Str := classS ++ 32 :: a
def attL (a : Str) : Str := attrS ++ 32 :: a
def nonl (l : Str) : Prop := ∀ c ∈ l, (c == 10) = false
theorem skip_cls (a : Str) : skipB (clsL a) = false := by simp [skipB, clsL, classS]
theorem skip_att (a : Str) : skipB (attL a) = false := by simp [skipB, attL, attrS]
theorem skip_crit : skipB criticalS = false := by decide
theorem line_cls (c : Cfg) (a : Str) : lineM c (clsL a) = if nameB a then (if (addM c.cls a).2 then ({ c with cls := (addM c.cls a).1 }, true) else (c, false)) else (c, false) := by
  have h1 : cutW (clsL a) = classS := cutW_word _ _ (by decide)
  have h2 : cutN (clsL a) = a := cutN_word _ _ (by decide)
  have h3 : (clsL a == criticalS) = false := by simp [clsL, classS, criticalS]
  unfold lineM
  rw [h1, h2, h3]
  cases nameB a <;> simp [classS, attrS]
theorem line_att (c : Cfg) (a : Str) : lineM c (attL a) = if attrB a then (if (addM c.att a).2 then ({ c with att := (addM c.att a).1 }, true) else (c, false)) else (c, false) := by
  have h1 : cutW (attL a) = attrS := cutW_word _ _ (by decide)
  have h2 : cutN (attL a) = a := cutN_word _ _ (by decide)
  have h3 : (attL a == criticalS) = false := by simp [attL, attrS, criticalS]
  unfold lineM
  rw [h1, h2, h3]
  cases attrB a <;> simp [classS, attrS]
theorem line_crit_m (c : Cfg) : lineM c criticalS = ({ c with crit := true }, true) := by simp [lineM]
theorem step_cls (c : Cfg) (a : Str) : stepM c (clsL a) = if nameB a && (addM c.cls a).2 then some { c with cls := (addM c.cls a).1 } else none := by
  rw [stepM, skip_cls, line_cls]
  cases nameB a <;> simp <;> cases (addM c.cls a).2 <;> simp
theorem step_att (c : Cfg) (a : Str) : stepM c (attL a) = if attrB a && (addM c.att a).2 then some { c with att := (addM c.att a).1 } else none := by
  rw [stepM, skip_att, line_att]
  cases attrB a <;> simp <;> cases (addM c.att a).2 <;> simp
theorem step_crit (c : Cfg) : stepM c criticalS = some { c with crit := true } := by
  rw [stepM, skip_crit, line_crit_m]; rfl
/-- lines of a class, of an attribute and `critical` can be told in either order -/
theorem run_order (c : Cfg) (a b : Str) : runM c [clsL a, attL b, criticalS] = runM c [criticalS, attL b, clsL a] := by
  simp only [runM, step_crit, step_cls, step_att]
  cases nameB a <;> cases attrB b <;> cases h1 : (addM c.cls a).2 <;> cases h2 : (addM c.att b).2 <;> simp [h1, h2]
theorem linesM_tail (s t : Str) (h : nonl t) : linesM (s ++ 10 :: t) = linesM s ++ [t] := by rw [linesM_app, linesM_one t h]
theorem nonl_cls {a : Str} (h : nonl a) : nonl (clsL a) := by
  intro c hc
  rcases List.mem_append.1 hc with h1 | h1
  · exact (by decide : ∀ c ∈ classS, (c == 10) = false) c h1
  · rcases List.mem_cons.1 h1 with rfl | h2
    · rfl
    · exact h c h2
theorem nonl_att {a : Str} (h : nonl a) : nonl (attL a) := by
  intro c hc
  rcases List.mem_append.1 hc with h1 | h1
  · exact (by decide : ∀ c ∈ attrS, (c == 10) = false) c h1
  · rcases List.mem_cons.1 h1 with rfl | h2
    · rfl
    · exact h c h2
theorem nonl_crit : nonl criticalS := by unfold nonl; decide
theorem order_lines (s a b : Str) (ha : nonl a) (hb : nonl b) :
    runM emptyC (linesM (s ++ 10 :: clsL a ++ 10 :: attL b ++ 10 :: criticalS)) = runM emptyC (linesM (s ++ 10 :: criticalS ++ 10 :: attL b ++ 10 :: clsL a)) := by
  rw [linesM_tail _ _ nonl_crit, linesM_tail _ _ (nonl_att hb), linesM_tail _ _ (nonl_cls ha), linesM_tail _ _ (nonl_cls ha), linesM_tail _ _ (nonl_att hb), linesM_tail _ _ nonl_crit]
  simp only [List.append_assoc, List.cons_append, List.nil_append]
  rw [runM_app, runM_app]
  congr 1
  funext d
  exact run_order d a b
theorem parseM_of (s : Str) : (parseM s).1 = (runM emptyC (linesM s)).getD emptyC ∧ (parseM s).2.2 = (runM emptyC (linesM s)).isSome := by
  unfold parseM
  cases runM emptyC (linesM s) <;> simp
theorem parseM_order (s a b : Str) (h : (linesM (a ++ b)).length ≤ 1) :
    (parseM (s ++ 10 :: clsL a ++ 10 :: attL b ++ 10 :: criticalS)).2.2 = (parseM (s ++ 10 :: criticalS ++ 10 :: attL b ++ 10 :: clsL a)).2.2 ∧
    (parseM (s ++ 10 :: clsL a ++ 10 :: attL b ++ 10 :: criticalS)).1 = (parseM (s ++ 10 :: criticalS ++ 10 :: attL b ++ 10 :: clsL a)).1 := by
  have hn := no_nl [] _ h
  have e := order_lines s a b (fun c hc => hn c (List.mem_append_left _ hc)) (fun c hc => hn c (List.mem_append_right _ hc))
  rw [(parseM_of _).1, (parseM_of _).1, (parseM_of _).2, (parseM_of _).2, e]
  exact ⟨rfl, rfl⟩
end Go.Proofs.YtfpegmeppgdklaaDoor
