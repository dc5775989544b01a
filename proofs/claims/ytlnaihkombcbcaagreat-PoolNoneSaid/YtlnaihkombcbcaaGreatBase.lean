/-
  What a slice of strings reads as in memory, kept by calls that write nothing old. Plain facts, of no program.
-/
import Derived.WalkKit
import Derived.WalkSpells
import Derived.WalkLawsBesides
import Derived.Deep.QuietTactic
import Derived.BigQuiet
import Derived.Lib.Hide
import Derived.WalkSmall
namespace Go.Proofs.YtlnaihkombcbcaaGreat
open Go.RowKit
abbrev Str := List UInt8
def bs (l : Str) : ByteArray := ⟨l.toArray⟩
/-- v is a slice that holds these strings. -/
def StrsAt (w : World) (v : Value) (zs : List ByteArray) : Prop :=
  (zs = [] ∧ ∃ a c, v = .slice a 0 c) ∨
  ∃ b off cap, v = .slice (some ⟨b, off, none⟩) zs.length cap ∧ zs.length ≤ cap ∧ 0 < zs.length ∧
    ∀ j (hj : j < zs.length), w.cell? ⟨b, off + j, none⟩ = some (.string zs[j])
theorem cell_lt {w : World} {a : Addr} {v : Value} (h : w.cell? a = some v) : a.block < w.heap.size := by
  unfold World.cell? at h
  split at h
  · rename_i hh; exact (Array.getElem?_eq_some_iff.1 hh).1
  · cases h
theorem StrsAt.below {w w' : World} {v : Value} {zs : List ByteArray} (h : StrsAt w v zs) (hb : Below w.heap.size w w') : StrsAt w' v zs := by
  rcases h with h | ⟨b, off, cap, h1, h2, h3, h4⟩
  · exact .inl h
  · refine .inr ⟨b, off, cap, h1, h2, h3, fun j hj => ?_⟩
    have := h4 j hj
    rw [hb.cell (p := ⟨b, off + j, none⟩) (cell_lt this)]
    exact this
theorem bup {a b c : World} (h : Below a.heap.size a b) (k : Below b.heap.size b c) : Below a.heap.size a c :=
  h.trans (k.mono h.size)
theorem u8_beq (c d : UInt8) : (c == d) = ((c.toNat : Int) == (d.toNat : Int)) := by
  by_cases h : c = d
  · subst h; simp
  · have h2 : c.toNat ≠ d.toNat := fun e => h (UInt8.toNat_inj.1 e)
    have h3 : (c.toNat : Int) ≠ (d.toNat : Int) := by omega
    rw [beq_eq_false_iff_ne.2 h, beq_eq_false_iff_ne.2 h3]
theorem ba_len (s : ByteArray) : s.data.toList.length = s.size := by rw [Array.length_toList]; rfl
theorem all_take_succ (p : UInt8 → Bool) (s : ByteArray) (k : Nat) (h : k < s.size) : (s.data.toList.take (k + 1)).all p = ((s.data.toList.take k).all p && p s[k]) := by
  rw [List.take_succ_eq_append_getElem (by rw [ba_len]; exact h), List.all_append]
  simp
  rfl
theorem all_false_at (p : UInt8 → Bool) (s : ByteArray) (k : Nat) (h : k < s.size) (hp : p s[k] = false) : s.data.toList.all p = false := by
  rw [List.all_eq_false]
  exact ⟨s[k], by have : s[k] = s.data.toList[k]'(by rw [ba_len]; exact h) := rfl; rw [this]; exact List.getElem_mem _, by simp [hp]⟩
theorem take_all (s : ByteArray) (k : Nat) (h : ¬ k < s.size) : s.data.toList.take k = s.data.toList := List.take_of_length_le (by rw [ba_len]; omega)
theorem bs_toList (l : Str) : (bs l).toList = l := by rw [ByteArray.toList_eq]; rfl
theorem bs_data (l : Str) : (bs l).data.toList = l := rfl
theorem bs_size (l : Str) : (bs l).size = l.length := rfl
theorem bs_of (s : ByteArray) : bs s.data.toList = s := rfl
def SAt (w : World) (v : Value) (ss : List Str) : Prop := StrsAt w v (ss.map bs)
theorem SAt.below {w w' : World} {v : Value} {ss : List Str} (h : SAt w v ss) (hb : Below w.heap.size w w') : SAt w' v ss := StrsAt.below h hb
theorem any_take_succ {α : Type} (p : α → Bool) (l : List α) (k : Nat) (h : k < l.length) : (l.take (k + 1)).any p = ((l.take k).any p || p l[k]) := by
  rw [List.take_succ_eq_append_getElem h, List.any_append]; simp
theorem all_take_succ' {α : Type} (p : α → Bool) (l : List α) (k : Nat) (h : k < l.length) : (l.take (k + 1)).all p = ((l.take k).all p && p l[k]) := by
  rw [List.take_succ_eq_append_getElem h, List.all_append]; simp
theorem any_true_at {α : Type} (p : α → Bool) (l : List α) (k : Nat) (h : k < l.length) (hp : p l[k] = true) : l.any p = true :=
  List.any_eq_true.2 ⟨l[k], List.getElem_mem _, hp⟩
theorem all_false_at' {α : Type} (p : α → Bool) (l : List α) (k : Nat) (h : k < l.length) (hp : p l[k] = false) : l.all p = false :=
  List.all_eq_false.2 ⟨l[k], List.getElem_mem _, by simp [hp]⟩
def inB (ss : List Str) (x : Str) : Bool := ss.any fun y => y == x
theorem ret_bool {a b : Bool} (h : a = b) : Ending.returned (.bool a) = .returned (.bool b) := by rw [h]
theorem ret_int {k : IntKind} {a b : Int} (h : a = b) : Ending.returned (.int k a) = .returned (.int k b) := by rw [h]
theorem getD_at {α : Type} (l : List α) (k : Nat) (d : α) (h : k < l.length) : l.getD k d = l[k] := by simp [h]
theorem cell_up {w w' : World} {a : Addr} {v : Value} (h : w.cell? a = some v) (hb : Below w.heap.size w w') : w'.cell? a = some v := by
  rw [hb.cell (cell_lt h)]; exact h
theorem map_take_succ {α β : Type} (f : α → β) (l : List α) (k : Nat) (h : k < l.length) : (l.take (k + 1)).map f = (l.take k).map f ++ [f l[k]] := by
  rw [List.take_succ_eq_append_getElem h, List.map_append]; rfl
theorem map_ne_at {α β : Type} [BEq β] [LawfulBEq β] (f : α → β) (l m : List α) (k : Nat) (h : k < l.length) (h2 : k < m.length) (hp : (f l[k] == f m[k]) = false) : (l.map f == m.map f) = false := by
  rw [beq_eq_false_iff_ne] at hp ⊢
  intro e
  have e2 : (l.map f)[k]? = (m.map f)[k]? := by rw [e]
  simp [h, h2] at e2
  exact hp e2
theorem map_ne_len {α β : Type} [BEq β] [LawfulBEq β] (f : α → β) (l m : List α) (h : l.length ≠ m.length) : (l.map f == m.map f) = false := by
  rw [beq_eq_false_iff_ne]
  intro e
  exact h (by have := congrArg List.length e; simpa using this)
theorem bcell {W w1 : World} (hb : Below W.heap.size W w1) : (∀ b o, b < W.heap.size → w1.cell? ⟨b, o, none⟩ = W.cell? ⟨b, o, none⟩) ∧ (∀ b o, b < W.heap.size → w1.frozen? ⟨b, o, none⟩ = W.frozen? ⟨b, o, none⟩) :=
  ⟨fun b o h => hb.cell (p := ⟨b, o, none⟩) h, fun b o h => hb.frozen (p := ⟨b, o, none⟩) h⟩
theorem below_alloc (w : World) (o : Obj) : Below w.heap.size w (w.alloc o) := (Below.refl _ w).alloc (Nat.le_refl _) o
theorem ext_bs (s : ByteArray) (a b : Nat) : s.extract a b = bs ((s.data.toList.drop a).take (b - a)) := by
  obtain ⟨⟨l⟩⟩ := s
  rw [ByteArray.extract_mk]
  simp [bs]
/-- .. in a block from B on. -/
def StrsFrom (B : Nat) (w : World) (v : Value) (zs : List ByteArray) : Prop :=
  (zs = [] ∧ ∃ a c, v = .slice a 0 c) ∨
  ∃ b off cap, B ≤ b ∧ v = .slice (some ⟨b, off, none⟩) zs.length cap ∧ zs.length ≤ cap ∧ 0 < zs.length ∧
    ∀ j (hj : j < zs.length), w.cell? ⟨b, off + j, none⟩ = some (.string zs[j])
theorem StrsFrom.to {B : Nat} {w : World} {v : Value} {zs : List ByteArray} (h : StrsFrom B w v zs) : StrsAt w v zs := by
  rcases h with h | ⟨b, off, cap, _, h1, h2, h3, h4⟩
  · exact .inl h
  · exact .inr ⟨b, off, cap, h1, h2, h3, h4⟩
theorem StrsFrom.keep {B : Nat} {w w' : World} {v : Value} {zs : List ByteArray} (h : StrsFrom B w v zs) (hk : ∀ b o, B ≤ b → w'.cell? ⟨b, o, none⟩ = w.cell? ⟨b, o, none⟩) : StrsFrom B w' v zs := by
  rcases h with h | ⟨b, off, cap, h0, h1, h2, h3, h4⟩
  · exact .inl h
  · exact .inr ⟨b, off, cap, h0, h1, h2, h3, fun j hj => by rw [hk b _ h0]; exact h4 j hj⟩
theorem owns_from {w : World} {base e : Nat} {v : Value} {n : Nat} {zs : List ByteArray} (h : w.ownsRow base e 1 v n (zs.map Value.string)) : StrsFrom base w v zs := by
  have h9 := h
  obtain ⟨hl, h2⟩ := h
  simp at hl
  subst hl
  rcases h2 with ⟨rfl, h0⟩ | ⟨g, cap, cur, rfl, hg, hh, hc, hm, hs, ht⟩
  · exact .inl ⟨List.eq_nil_of_length_eq_zero h0, none, 0, rfl⟩
  · by_cases h0 : zs.length = 0
    · exact .inl ⟨List.eq_nil_of_length_eq_zero h0, _, cap, by rw [h0]⟩
    · refine .inr ⟨g, 0, cap, hg, rfl, hc, by omega, fun j hj => ?_⟩
      have := h9.cellAt j (by omega)
      rw [Nat.zero_add, this]
      simp [hj]
theorem owns_at {w : World} {base e : Nat} {v : Value} {n : Nat} {zs : List ByteArray} (h : w.ownsRow base e 1 v n (zs.map Value.string)) : StrsAt w v zs := (owns_from h).to
theorem cell_set_far (w : World) (p : Addr) (u : Value) (b o : Nat) (h : b ≠ p.block) : (w.setCell p u).cell? ⟨b, o, none⟩ = w.cell? ⟨b, o, none⟩ :=
  World.cell?_of_block (w := w) (Below.heap_setCell w p u b h)
theorem cell_alloc_far (w : World) (x : Obj) (b o : Nat) (h : b < w.heap.size) : (w.alloc x).cell? ⟨b, o, none⟩ = w.cell? ⟨b, o, none⟩ :=
  World.cell?_of_block (w := w) (Below.heap_alloc w x b h)
theorem bs_app (a b : Str) : bs a ++ bs b = bs (a ++ b) := by
  have h : (bs a ++ bs b).data.toList = (bs (a ++ b)).data.toList := by rw [ByteArray.data_append, Array.toList_append]; rfl
  exact (bs_of _).symm.trans ((congrArg bs h).trans (bs_of _))
theorem sat_one (w : World) (x : Str) (t : TypeId) : SAt (w.alloc (.cells #[.string (bs x)] t)) (.slice (some ⟨w.heap.size, 0, none⟩) 1 1) [x] := by
  refine .inr ⟨w.heap.size, 0, 1, rfl, by simp, by simp, fun j hj => ?_⟩
  have : j = 0 := by simp at hj; omega
  subst this
  simp
theorem ret_str {a b : ByteArray} (h : a = b) : Ending.returned (.string a) = .returned (.string b) := by rw [h]
theorem ret_vb {v : Value} {a b : Bool} (h : a = b) : Ending.returned (.tuple #[v, .bool a]) = .returned (.tuple #[v, .bool b]) := by rw [h]
theorem SAt.form {w : World} {v : Value} {ss : List Str} (h : SAt w v ss) : ∃ a n c, v = .slice a n c := by
  rcases h with ⟨_, a, c, rfl⟩ | ⟨b, off, cap, rfl, _⟩
  · exact ⟨_, _, _, rfl⟩
  · exact ⟨_, _, _, rfl⟩
def SFrom (B : Nat) (w : World) (v : Value) (ss : List Str) : Prop := StrsFrom B w v (ss.map bs)
theorem SFrom.to {B : Nat} {w : World} {v : Value} {ss : List Str} (h : SFrom B w v ss) : SAt w v ss := StrsFrom.to h
theorem SFrom.form {B : Nat} {w : World} {v : Value} {ss : List Str} (h : SFrom B w v ss) : ∃ a n c, v = .slice a n c := h.to.form
theorem SFrom.below {B : Nat} {w w' : World} {v : Value} {ss : List Str} (h : SFrom B w v ss) (hb : Below w.heap.size w w') : SFrom B w' v ss := by
  rcases h with h | ⟨b, off, cap, h0, h1, h2, h3, h4⟩
  · exact .inl h
  · exact .inr ⟨b, off, cap, h0, h1, h2, h3, fun j hj => cell_up (h4 j hj) hb⟩
theorem SFrom.mono {B C : Nat} {w : World} {v : Value} {ss : List Str} (h : SFrom B w v ss) (hc : C ≤ B) : SFrom C w v ss := by
  rcases h with h | ⟨b, off, cap, h0, h1⟩
  · exact .inl h
  · exact .inr ⟨b, off, cap, Nat.le_trans hc h0, h1⟩
theorem SFrom.keep {B : Nat} {w w' : World} {v : Value} {ss : List Str} (h : SFrom B w v ss) (hk : ∀ b o, B ≤ b → w'.cell? ⟨b, o, none⟩ = w.cell? ⟨b, o, none⟩) : SFrom B w' v ss := StrsFrom.keep h hk
theorem SAt.from0 {w : World} {v : Value} {ss : List Str} (h : SAt w v ss) : SFrom 0 w v ss := by
  rcases h with h | ⟨b, off, cap, h1⟩
  · exact .inl h
  · exact .inr ⟨b, off, cap, Nat.zero_le _, h1⟩
theorem sfrom_nil (B : Nat) (w : World) : SFrom B w (.slice none 0 0) [] := .inl ⟨rfl, none, 0, rfl⟩
theorem heap_al_new (w : World) (o : Obj) : (w.alloc o).heap[w.heap.size]? = some o := by
  show (w.heap.push o)[w.heap.size]? = _
  simp
end Go.Proofs.YtlnaihkombcbcaaGreat
