/-
  Values and lists of names, as the evaluator tells them.
-/
import Derived.Test.YtlnaihkombcbcaaGreatPSrc
import Derived.Test.YtlnaihkombcbcaaGreatEvB
noncomputable section
namespace Go.Proofs.YtlnaihkombcbcaaGreat
open Go.RowKit Go.Ev Go.Sort
/-- what stands for a stands for b -/
def Rfn (a b : AV) : Prop := ∀ (w : World) (G : Gh) (v : Value), VR w G a v → VR w G b v
def Rfns : List AV → List AV → Prop
  | [], [] => True
  | a :: la, b :: lb => Rfn a b ∧ Rfns la lb
  | _, _ => False
theorem Rfn.refl (a : AV) : Rfn a a := fun _ _ _ h => h
theorem Rfns.vrs : ∀ {la lb : List AV} {w : World} {G : Gh} {vs : List Value}, Rfns la lb → VRs w G la vs → VRs w G lb vs
  | [], [], _, _, _, _, h => h
  | [], _ :: _, _, _, _, h, _ => h.elim
  | _ :: _, [], _, _, _, h, _ => h.elim
  | _ :: _, _ :: _, _, _, _, h, ⟨v, vs, e, h1, h2⟩ => ⟨v, vs, e, h.1 _ _ _ h1, Rfns.vrs h.2 h2⟩
theorem Rfns.row : ∀ {la lb : List AV} {w : World} {G : Gh} {rb o : Nat}, Rfns la lb → RowR w G rb o la → RowR w G rb o lb
  | [], [], _, _, _, _, _, h => h
  | [], _ :: _, _, _, _, _, h, _ => h.elim
  | _ :: _, [], _, _, _, _, h, _ => h.elim
  | _ :: _, _ :: _, _, _, _, _, h, ⟨h1, ⟨v, h2, h3⟩, h4⟩ => ⟨h1, ⟨v, h2, h.1 _ _ _ h3⟩, Rfns.row h.2 h4⟩
mutual
def decVs : Nat → List AV → Option (List Vl)
  | 0, _ => none
  | _ + 1, [] => some []
  | n + 1, .g (.int .i64 k) :: .g (.int .i64 t) :: .g (.string s) :: .g (.int .i64 m) :: lv :: rest => match decL n lv, decVs n rest with
    | some l, some r => some (.mk k t s m l :: r)
    | _, _ => none
  | _ + 1, _ => none
def decL : Nat → AV → Option (List Vl)
  | 0, _ => none
  | n + 1, .sl k 5 cs => match decVs n cs with
    | some l => if l.length = k then some l else none
    | none => none
  | _ + 1, .z0 => some []
  | _ + 1, .g (.slice none 0 0) => some []
  | _ + 1, _ => none
end
theorem rfn_sl {k sz : Nat} {cs ds : List AV} (h : Rfns cs ds) : Rfn (.sl k sz cs) (.sl k sz ds) := fun _ _ _ ⟨a, cap, h1, h2, h3⟩ => ⟨a, cap, h1, h2, h3.imp id fun ⟨rb, ro, h4, h5⟩ => ⟨rb, ro, h4, h.row h5⟩⟩
theorem rfn_z0 (sz : Nat) : Rfn .z0 (.sl 0 sz []) := fun _ _ _ ⟨a, h⟩ => ⟨a, 0, h, Nat.le_refl _, .inl rfl⟩
theorem rfn_nil (sz : Nat) : Rfn (.g (.slice none 0 0)) (.sl 0 sz []) := fun _ _ _ h => ⟨none, 0, h, Nat.le_refl _, .inl rfl⟩
theorem dec_spec : ∀ n : Nat, (∀ (cs : List AV) (l : List Vl), decVs n cs = some l → Rfns cs (l.flatMap encV)) ∧ (∀ (a : AV) (l : List Vl), decL n a = some l → Rfn a (.sl l.length 5 (l.flatMap encV)))
  | 0 => ⟨fun cs l h => by simp [decVs] at h, fun a l h => by simp [decL] at h⟩
  | n + 1 => by
    obtain ⟨ih1, ih2⟩ := dec_spec n
    refine ⟨fun cs l h => ?_, fun a l h => ?_⟩
    · unfold decVs at h
      split at h
      · cases h
      · cases h
        rw [List.flatMap_nil, Rfns]
        trivial
      · rename_i n0 k t s m lv rest he
        obtain rfl : n0 = n := by omega
        split at h
        · rename_i l' r h1 h2
          cases h
          rw [List.flatMap_cons, encV, encVs_flat]
          exact ⟨.refl _, .refl _, .refl _, .refl _, ih2 _ _ h1, ih1 _ _ h2⟩
        · cases h
      · cases h
    · unfold decL at h
      split at h
      · cases h
      · rename_i n0 k cs he
        obtain rfl : n0 = n := by omega
        split at h
        · rename_i l' h1
          split at h
          · rename_i hl
            cases h
            subst hl
            exact rfn_sl (ih1 _ _ h1)
          · cases h
        · cases h
      · cases h; exact rfn_z0 5
      · cases h; exact rfn_nil 5
      · cases h
def strsAV (ss : List Str) : AV := .sl ss.length 1 (ss.map fun s => .g (.string (bs s)))
theorem new_owns {z e n : Nat} {w : World} {v : Value} {ss : List Str} (h : w.ownsRow z e 1 v n (ss.map encStr)) : New z w (strsAV ss) v := by
  have hn : ss.length = n := by have := h.1; simpa using this
  subst hn
  rcases h.2 with ⟨rfl, h0⟩ | ⟨g, cap, cur, rfl, hg, hb, hc, -, -, ht⟩
  · exact ⟨none, 0, by rw [h0], by omega, .inl h0⟩
  · refine ⟨_, cap, rfl, hc, .inr ⟨g, 0, rfl, RowR.mk (show z ≤ g ∧ g < w.heap.size from ⟨hg, (Array.getElem?_eq_some_iff.1 hb).1⟩) fun i a hi => ?_⟩⟩
    rw [List.getElem?_map] at hi
    obtain ⟨s, h1, rfl⟩ := Option.map_eq_some_iff.1 hi
    refine ⟨.string (bs s), ?_, rfl⟩
    have hlt : i < ss.length := (List.getElem?_eq_some_iff.1 h1).1
    have h2 : (cur.toList.take (ss.length * 1))[i]? = (ss.map encStr)[i]? := by rw [ht]
    rw [List.getElem?_take_of_lt (by omega), List.getElem?_map, h1] at h2
    rw [Nat.zero_add, Lib.cell_of_heap hb]
    have h3 : cur[i]? = some (encStr s) := by simpa using h2
    exact h3
end Go.Proofs.YtlnaihkombcbcaaGreat
end
