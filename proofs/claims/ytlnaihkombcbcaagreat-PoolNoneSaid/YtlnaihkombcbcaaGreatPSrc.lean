/-
  What is appended to a row of values.
-/
import Derived.Test.YtlnaihkombcbcaaGreatPTexts
import Derived.Laws.OwnMore
import Derived.Sort.OwnSorted
namespace Go.Proofs.YtlnaihkombcbcaaGreat
open Go.RowKit Go.Ev Go.Sort
def sOf (b : ByteArray) : Str := b.data.toList
theorem owns_mono {w : World} {B C : Nat} {e : TypeId} {size : Nat} {v : Value} {n : Nat} {xs : List Value} (h : w.ownsRow B e size v n xs) (hc : C ≤ B) : w.ownsRow C e size v n xs := by
  obtain ⟨h1, h2⟩ := h
  refine ⟨h1, ?_⟩
  rcases h2 with h2 | ⟨g, cap, cur, hv, hg, hr⟩
  · exact .inl h2
  · exact .inr ⟨g, cap, cur, hv, Nat.le_trans hc hg, hr⟩
theorem owns_slice {w : World} {B : Nat} {e : TypeId} {sz : Nat} {v : Value} {n : Nat} {xs : List Value} (h : w.ownsRow B e sz v n xs) : ∃ a c, v = .slice a n c := by
  rcases h.2 with ⟨rfl, rfl⟩ | ⟨g, cap, cur, rfl, -⟩
  · exact ⟨_, _, rfl⟩
  · exact ⟨_, _, rfl⟩
theorem owns_below {w w' : World} {z e sz n : Nat} {v : Value} {xs : List Value} (h : w.ownsRow z e sz v n xs) (hb : Below w.heap.size w w') : w'.ownsRow z e sz v n xs := by
  refine ⟨h.1, h.2.imp id ?_⟩
  rintro ⟨g, cap, cur, h1, h2, h3, h4⟩
  exact ⟨g, cap, cur, h1, h2, by rw [hb.block g (Array.getElem?_eq_some_iff.1 h3).1]; exact h3, h4⟩
theorem sat_owns {w : World} {B : Nat} {e : TypeId} {v : Value} {n : Nat} {ss : List Str} (h : w.ownsRow B e 1 v n (ss.map encStr)) : SAt w v ss :=
  owns_at (zs := ss.map bs) (n := n) (by rw [List.map_map]; exact h)
section
variable {w : World}
/-- the values that lie in a row -/
theorem row_vals {b : Nat} : ∀ {cs : List AV} {o : Nat}, RowAt w b o cs → ∃ vs : List Value, (∀ j u, vs[j]? = some u → w.cell? ⟨b, o + j, none⟩ = some u) ∧ Ats w cs vs
  | [], o, _ => ⟨[], by simp, by rw [Ats, VRs]⟩
  | a :: cs, o, h => by
    obtain ⟨-, ⟨v, h1, h2⟩, h3⟩ := h
    obtain ⟨vs, h4, h5⟩ := row_vals h3
    refine ⟨v :: vs, fun j u hj => ?_, VRs.cons_mk h2 h5⟩
    cases j with
    | zero => simp at hj; subst hj; exact h1
    | succ j =>
      have := h4 j u (by simpa using hj)
      rw [← this]; congr 2; omega
theorem cells_one {l : List Vl} {vs : List Value} (h : Ats w (l.flatMap encV) vs) : ∀ u ∈ vs, u.oneCell' = true := by
  intro u hu
  obtain ⟨j, hj⟩ := List.getElem?_of_mem hu
  have hl := VRs.len h
  have hlt : j < (l.flatMap encV).length := by rw [← hl]; exact (List.getElem?_eq_some_iff.1 hj).1
  have hv := VRs.get2 h (List.getElem?_eq_getElem hlt) hj
  have hm : (l.flatMap encV)[j] ∈ l.flatMap encV := List.getElem_mem hlt
  obtain ⟨c, -, hc⟩ := List.mem_flatMap.1 hm
  have : isCell (l.flatMap encV)[j] = true := by
    generalize (l.flatMap encV)[j] = a at hc
    obtain ⟨k1, k2, k3, k4, k5⟩ := c
    rw [encV] at hc
    simp at hc
    rcases hc with rfl | rfl | rfl | rfl | rfl <;> rfl
  exact (isCell_spec this hv).1
/-- where what is appended lies -/
def SrcOf (w : World) (y : Value) (m size : Nat) (news : List Value) : Prop :=
  (y = .slice none 0 0 ∧ m = 0 ∧ news = []) ∨ ∃ ad c, y = .slice (some ad) m c ∧ news.length = m * size ∧ (∀ j u, news[j]? = some u → w.cell? (ad.add j) = some u) ∧ ∀ u ∈ news, u.oneCell' = true
theorem flat_len (l : List Vl) : (l.flatMap encV).length = l.length * 5 := by
  induction l with
  | nil => rfl
  | cons c l ih => rw [List.flatMap_cons, List.length_append, ih, List.length_cons]; show (encV c).length + _ = _; rw [encV_len]; omega
theorem src_of {l : List Vl} {v : Value} (hv : At w (.sl l.length 5 (l.flatMap encV)) v) (hf : v = .slice none 0 0 ∨ ∃ a n c, v = .slice (some a) n c) : ∃ news, Ats w (l.flatMap encV) news ∧ SrcOf w v l.length 5 news := by
  obtain ⟨ad, cap, rfl, -, h⟩ := hv
  by_cases h0 : l = []
  · subst h0
    refine ⟨[], by rw [Ats, List.flatMap_nil, VRs], ?_⟩
    rcases hf with hf | ⟨a, n, c, hf⟩
    · exact .inl ⟨hf, rfl, rfl⟩
    · cases hf
      exact .inr ⟨_, _, rfl, rfl, by simp, by simp⟩
  · have hpos : l.length ≠ 0 := by simpa using h0
    rcases h with h | ⟨rb, ro, rfl, hr⟩
    · exact absurd h hpos
    · obtain ⟨vs, h1, h2⟩ := row_vals hr
      refine ⟨vs, h2, .inr ⟨_, _, rfl, by rw [VRs.len h2, flat_len], fun j u hj => ?_, cells_one h2⟩⟩
      rw [Addr.add_lit]; exact h1 j u hj
theorem at_of_owns {B : Nat} {e : TypeId} {v : Value} {l : List Vl} {news : List Value} (ho : w.ownsRow B e 5 v l.length news) (ha : Ats w (l.flatMap encV) news) : At w (.sl l.length 5 (l.flatMap encV)) v := by
  rcases ho.2 with ⟨rfl, h0⟩ | ⟨g, cap, cur, rfl, -, hg, hc, -, -, ht⟩
  · exact ⟨none, 0, by rw [h0], by omega, .inl h0⟩
  · refine ⟨_, cap, rfl, hc, .inr ⟨g, 0, rfl, RowR.mk (Array.getElem?_eq_some_iff.1 hg).1 fun i a hi => ?_⟩⟩
    obtain ⟨v, h1, h2⟩ := VRs.get ha hi
    refine ⟨v, ?_, h2⟩
    rw [Nat.zero_add, Lib.cell_of_heap hg]
    have hlt : i < l.length * 5 := by rw [← flat_len]; exact (List.getElem?_eq_some_iff.1 hi).1
    rw [← ht, List.getElem?_take, if_pos hlt] at h1
    simpa using h1
end
theorem wpList_append_src {P : Program} {w : World} {ops : Array Oper} {rest : List Oper} {o : Oper} {a : Act} {Q : Exit → Act → World → Prop} (hgd : o.guard = none) (s x : Operand) (t : TypeId)
    (ho : o.op = .call { callee := .builtin .append, args := #[s, x], argTypes := #[t, t] })
    (base : Nat) (e : TypeId) (i : TypeInfo) (z : Value) (size bytes : Nat) (ht : P.underlying t = some (.slice e)) (hi : P.info? e = some i) (hz : i.zero = some z)
    (hsize : i.size = size) (hby : i.bytes = bytes) (hzs : z.cells.size = size) (hsz : 0 < size)
    (v : Value) (n : Nat) (xs : List Value) (hs : a.eval s = v) (hown : w.ownsRow base e size v n xs)
    (y : Value) (m : Nat) (news : List Value) (hx : a.eval x = y) (hsrc : SrcOf w y m size news)
    (h63 : n + m ≤ maxLen) (hbytes : (n + m) * bytes ≤ 140737488355328) (hbase : base ≤ w.heap.size)
    (h : ∀ v' w', w'.ownsRow base e size v' (n + m) (xs ++ news) → w.grownBy w' v.ownBlock → wpList P ops Q rest (a.put o.dst v') w') : wpList P ops Q (o :: rest) a w := by
  refine wpList_plain hgd fun K hK => ?_
  have key : ∃ v' w', (Builtin.append_ #[t, t] o.type #[v, y]).run P w = .ok v' w' ∧ w'.ownsRow base e size v' (n + m) (xs ++ news) ∧ w.grownBy w' v.ownBlock := by
    rcases hsrc with ⟨rfl, rfl, rfl⟩ | ⟨ad, c, rfl, h1, h2, h3⟩
    · exact ⟨v, w, run_append_owned_none w base t o.type e i size ht hi v n xs hown, by simpa using hown, ⟨rfl, rfl, rfl, Nat.le_refl _, fun _ _ _ => rfl⟩⟩
    · obtain ⟨v', w', g1, g2, g3, -⟩ := run_append_own (P := P) (w := w) base t o.type e i z size bytes ht hi hz hsize hby hzs hsz v n xs hown ad m c news h1 h2 h3 h63 hbytes hbase
      exact ⟨v', w', g1, g2, g3⟩
  obtain ⟨v', w', hrun, r1, r2⟩ := key
  unfold Oper.wp
  simp [execOp, ho, resolve, invoke, builtin, hs, hx, hrun, Result.andThen]
  exact hK _ _ (h v' w' r1 r2)
theorem SrcOf.below {w w' : World} {y : Value} {m size : Nat} {news : List Value} (h : SrcOf w y m size news) (hb : Below w.heap.size w w') : SrcOf w' y m size news := by
  rcases h with h | ⟨ad, c, h1, h2, h3, h4⟩
  · exact .inl h
  · exact .inr ⟨ad, c, h1, h2, fun j u hj => cell_up (h3 j u hj) hb, h4⟩
end Go.Proofs.YtlnaihkombcbcaaGreat
