/-
  Configs: what a config's value reads as; R22.Same.
-/
import Derived.Test.YtfpegmeppgdklaaDoorWb
namespace Go.Proofs.YtfpegmeppgdklaaDoor
open Go.RowKit
structure Cfg where
  cls : List Str
  att : List Str
  crit : Bool
deriving DecidableEq
def CfgAt (w : World) (v : Value) (c : Cfg) : Prop := ∃ v1 v2, v = .agg #[v1, v2, .bool c.crit] ∧ SAt w v1 c.cls ∧ SAt w v2 c.att ∧ c.cls.length ≤ 1000000 ∧ c.att.length ≤ 1000000
theorem CfgAt.below {w w' : World} {v : Value} {c : Cfg} (h : CfgAt w v c) (hb : Below w.heap.size w w') : CfgAt w' v c := by
  obtain ⟨v1, v2, h1, h2, h3, h4⟩ := h
  exact ⟨v1, v2, h1, h2.below hb, h3.below hb, h4⟩
/-- .. whose lists lie from block B on. -/
def CfgIn (B : Nat) (w : World) (v : Value) (c : Cfg) : Prop := ∃ v1 v2, v = .agg #[v1, v2, .bool c.crit] ∧ SFrom B w v1 c.cls ∧ SFrom B w v2 c.att ∧ c.cls.length ≤ 1000000 ∧ c.att.length ≤ 1000000
theorem CfgIn.at {B : Nat} {w : World} {v : Value} {c : Cfg} (h : CfgIn B w v c) : CfgAt w v c := by
  obtain ⟨v1, v2, h1, h2, h3, h4⟩ := h
  exact ⟨v1, v2, h1, h2.to, h3.to, h4⟩
theorem CfgAt.in0 {w : World} {v : Value} {c : Cfg} (h : CfgAt w v c) : CfgIn 0 w v c := by
  obtain ⟨v1, v2, h1, h2, h3, h4⟩ := h
  exact ⟨v1, v2, h1, h2.from0, h3.from0, h4⟩
theorem texts_any (v1 v2 : Value) (xs ys : List Str) (w : World) (h1 : SAt w v1 xs) (h2 : SAt w v2 ys) (hl : xs.length ≤ 4611686018427387904) (hl2 : ys.length ≤ 4611686018427387904) :
    Calls Tryd.prog 24 #[v1, v2] w fun e w' => e = .returned (.bool (xs == ys)) ∧ Below w.heap.size w w' := by
  have h := texts_strs v1 v2 _ _ w h1 h2 (by simpa using hl) (by simpa using hl2)
  have e : ∀ l : List Str, (l.map bs).map ByteArray.toList = l := by
    intro l; rw [List.map_map]; conv => rhs; rw [← List.map_id l]
    congr 1; funext y; simp only [Function.comp, bs_toList]; rfl
  rw [e, e] at h
  exact h
def sameB (a b : Cfg) : Bool := a.cls == b.cls && a.att == b.att && a.crit == b.crit
theorem sameB_iff (a b : Cfg) : sameB a b = true ↔ a = b := by
  cases a; cases b; simp [sameB, and_assoc]
theorem rsame_any (va vb : Value) (a b : Cfg) (w : World) (ha : CfgAt w va a) (hb : CfgAt w vb b) :
    Calls Tryd.prog 13 #[va, vb] w fun e w' => e = .returned (.bool (sameB a b)) ∧ Below w.heap.size w w' := by
  obtain ⟨a1, a2, rfl, ha1, ha2, la1, la2⟩ := ha
  obtain ⟨b1, b2, rfl, hb1, hb2, lb1, lb2⟩ := hb
  have hA := fun (x y : Obj) => (below_alloc w x).alloc (Nat.le_of_lt (by simp)) y
  unfold sameB
  cases e1 : a.cls == b.cls
  · go_enter Tryd.func13, Tryd.ntmps13
    go_wp2_with fail
    refine (texts_any _ _ _ _ _ (ha1.below (hA _ _)) (hb1.below (hA _ _)) (by omega) (by omega)).mono ?_
    rintro e w1 ⟨rfl, hB⟩
    obtain ⟨hc1, hf1⟩ := bcell hB
    rw [e1]
    go_wp2
    go_ret
    exact ⟨rfl, bup (hA _ _) hB⟩
  · cases e2 : a.att == b.att
    · go_enter Tryd.func13, Tryd.ntmps13
      go_wp2_with fail
      refine (texts_any _ _ _ _ _ (ha1.below (hA _ _)) (hb1.below (hA _ _)) (by omega) (by omega)).mono ?_
      rintro e w1 ⟨rfl, hB⟩
      obtain ⟨hc1, hf1⟩ := bcell hB
      rw [e1]
      go_wp2_with fail
      refine (texts_any _ _ _ _ _ (ha2.below (bup (hA _ _) hB)) (hb2.below (bup (hA _ _) hB)) (by omega) (by omega)).mono ?_
      rintro e w2 ⟨rfl, hB2⟩
      obtain ⟨hc2, hf2⟩ := bcell hB2
      rw [e2]
      go_wp2
      go_ret
      exact ⟨rfl, bup (bup (hA _ _) hB) hB2⟩
    · go_enter Tryd.func13, Tryd.ntmps13
      go_wp2_with fail
      refine (texts_any _ _ _ _ _ (ha1.below (hA _ _)) (hb1.below (hA _ _)) (by omega) (by omega)).mono ?_
      rintro e w1 ⟨rfl, hB⟩
      obtain ⟨hc1, hf1⟩ := bcell hB
      rw [e1]
      go_wp2_with fail
      refine (texts_any _ _ _ _ _ (ha2.below (bup (hA _ _) hB)) (hb2.below (bup (hA _ _) hB)) (by omega) (by omega)).mono ?_
      rintro e w2 ⟨rfl, hB2⟩
      obtain ⟨hc2, hf2⟩ := bcell hB2
      rw [e2]
      have hz : w.heap.size + 1 < w1.heap.size := by have := hB.size; simp at this; omega
      have hz0 : w.heap.size < w1.heap.size := by omega
      go_wp2
      go_ret
      exact ⟨rfl, bup (bup (hA _ _) hB) hB2⟩
end Go.Proofs.YtfpegmeppgdklaaDoor
