/-
  winnowinglaw13.QuickKeys.
-/
import Derived.Test.YtlnaihkombcbcaaGreatQNew
import Derived.Test.YtlnaihkombcbcaaGreatQFixed
import Derived.Laws.OwnMore
namespace Go.Proofs.YtlnaihkombcbcaaGreat
open Go.RowKit Go.Ev Go.ChangeMaps
theorem mem_sum_le {α : Type} (f : α → Nat) : ∀ {l : List α} {x : α}, x ∈ l → f x ≤ (l.map f).sum
  | y :: l, x, h => by
    rw [List.map_cons, List.sum_cons]
    rcases List.mem_cons.1 h with rfl | h
    · omega
    · have := mem_sum_le f h; omega
theorem wt_bounds {l : List Cx} (h : (wt l : Int) ≤ 40) (hs : ∀ c ∈ l, shortC c) : l.length ≤ 1000 ∧ l.length ≤ 40 ∧ ∀ c ∈ l, c.parts.length ≤ 1000 ∧ ∀ p ∈ c.parts, p.l.length ≤ 1000 ∧ shortS p.l := by
  have h1 : wt l ≤ 40 := by omega
  unfold wt at h1
  refine ⟨by omega, by omega, fun c hc => ?_⟩
  have h2 := mem_sum_le wtC hc
  have h3 : c.parts.length + (c.parts.map wtP).sum = wtC c := rfl
  refine ⟨by omega, fun p hp => ⟨?_, hs c hc p hp⟩⟩
  have h4 := mem_sum_le wtP hp
  have h5 : p.l.length = wtP p := rfl
  omega
def cnt (p : Int → Bool) (l : List Cx) : Nat := (l.filter fun c => p (kindC c)).length
theorem cnt_app (p : Int → Bool) (a b : List Cx) : cnt p (a ++ b) = cnt p a + cnt p b := by
  unfold cnt; rw [List.filter_append, List.length_append]
theorem cnt_le (p : Int → Bool) (a : List Cx) : cnt p a ≤ a.length := List.length_filter_le _ _
theorem cnt_all : ∀ l : List Cx, cnt (isK 3) l + cnt (isK 4) l + cnt (isK 2) l + cnt isRest l = l.length
  | [] => rfl
  | c :: l => by
    have ih := cnt_all l
    have key : ∀ p, cnt p (c :: l) = (if p (kindC c) then 1 else 0) + cnt p l := fun p => by
      unfold cnt
      rw [List.filter_cons]
      split <;> simp [*] <;> omega
    rw [key, key, key, key, List.length_cons]
    have : (if isK 3 (kindC c) then 1 else 0) + (if isK 4 (kindC c) then 1 else 0) + (if isK 2 (kindC c) then 1 else 0) + (if isRest (kindC c) then 1 else 0) = 1 := by
      generalize kindC c = k
      unfold isRest isK
      by_cases h3 : k = 3
      · subst h3; rfl
      · by_cases h4 : k = 4
        · subst h4; rfl
        · by_cases h2 : k = 2
          · subst h2; rfl
          · simp [h3, h4, h2]
    omega
theorem keys_grp {W : World} {B clk : Nat} {es : Array MapEntry} {l : List Cx} (h : Grp W B es clk l) (hb : W.cell? ⟨B + 1, 0, none⟩ = some (.map (some B))) (hl : l.length ≤ 1000) :
    Calls Tryz.prog 47 #[.pointer (some ⟨B + 1, 0, none⟩)] W fun e w' => e = .returned (.tuple #[.int .i64 (cnt (isK 3) l : Nat), .int .i64 (cnt (isK 4) l : Nat), .int .i64 (cnt (isK 2) l : Nat), .int .i64 (cnt isRest l : Nat)]) ∧ Below W.heap.size W w' := by
  have hm : MapOf W B es clk := by
    refine ⟨h.at_, h.st.1, h.st.2.1, fun x hx => ?_⟩
    obtain ⟨k, nm, hk, -⟩ := h.keys x hx
    obtain ⟨i, hi⟩ := List.getElem?_of_mem hx
    obtain ⟨n, ys, ho, -⟩ := h.vals i x hi
    obtain ⟨a, c, hv⟩ := owns_slice ho
    exact ⟨k, nm, a, n, c, hk, hv⟩
  have hs := keys_any W (B + 1) 0 B clk es hb hm (by rw [h.sums]; exact Nat.le_trans (List.length_filter_le _ _) (by omega))
  rw [h.sums, h.sums, h.sums, h.sums] at hs
  exact hs
section
variable {w : World}
/-- the values that lie in a row -/
theorem row_vals {b : Nat} : ∀ {cs : List AV} {o : Nat}, RowAt w b o cs → ∃ vs : List Value, (∀ j u, vs[j]? = some u → w.cell? ⟨b, o + j, none⟩ = some u) ∧ Ats w cs vs
  | [], o, _ => ⟨[], by simp, by rw [Ats, VRs]⟩
  | a :: cs, o, h => by
    obtain ⟨-, ⟨v, h1, h2⟩, h3⟩ := h
    obtain ⟨vs, h4, h5⟩ := row_vals h3
    refine ⟨v :: vs, fun j u hj => ?_, VRs.cons_mk h2 h5⟩
    cases j with
    | zero => simp at hj; subst hj; exact h1
    | succ j =>
      have := h4 j u (by simpa using hj)
      rw [← this]; congr 2; omega
theorem cells_one {l : List Cx} {vs : List Value} (h : Ats w (l.flatMap encC) vs) : ∀ u ∈ vs, u.oneCell' = true := by
  intro u hu
  obtain ⟨j, hj⟩ := List.getElem?_of_mem hu
  have hl := VRs.len h
  have hlt : j < (l.flatMap encC).length := by rw [← hl]; exact (List.getElem?_eq_some_iff.1 hj).1
  have hv := VRs.get2 h (List.getElem?_eq_getElem hlt) hj
  have hm : (l.flatMap encC)[j] ∈ l.flatMap encC := List.getElem_mem hlt
  obtain ⟨c, -, hc⟩ := List.mem_flatMap.1 hm
  have : isCell (l.flatMap encC)[j] = true := by
    generalize (l.flatMap encC)[j] = a at hc
    unfold encC at hc
    simp at hc
    rcases hc with rfl | rfl <;> rfl
  exact (isCell_spec this hv).1
/-- where what is appended lies -/
def SrcOf (w : World) (y : Value) (m size : Nat) (news : List Value) : Prop :=
  (y = .slice none 0 0 ∧ m = 0 ∧ news = []) ∨ ∃ ad c, y = .slice (some ad) m c ∧ news.length = m * size ∧ (∀ j u, news[j]? = some u → w.cell? (ad.add j) = some u) ∧ ∀ u ∈ news, u.oneCell' = true
theorem flat_len (l : List Cx) : (l.flatMap encC).length = l.length * 2 := by
  induction l with
  | nil => rfl
  | cons c l ih => rw [List.flatMap_cons, List.length_append, ih, List.length_cons]; show 2 + _ = _; omega
theorem src_of {l : List Cx} {v : Value} (hv : At w (.sl l.length 2 (l.flatMap encC)) v) (hf : v = .slice none 0 0 ∨ ∃ a n c, v = .slice (some a) n c) : ∃ news, Ats w (l.flatMap encC) news ∧ SrcOf w v l.length 2 news := by
  obtain ⟨ad, cap, rfl, -, h⟩ := hv
  by_cases h0 : l = []
  · subst h0
    refine ⟨[], by rw [Ats, List.flatMap_nil, VRs], ?_⟩
    rcases hf with hf | ⟨a, n, c, hf⟩
    · exact .inl ⟨hf, rfl, rfl⟩
    · cases hf
      exact .inr ⟨_, _, rfl, rfl, by simp, by simp⟩
  · have hpos : l.length ≠ 0 := by simpa using h0
    rcases h with h | ⟨rb, ro, rfl, hr⟩
    · exact absurd h hpos
    · obtain ⟨vs, h1, h2⟩ := row_vals hr
      refine ⟨vs, h2, .inr ⟨_, _, rfl, by rw [VRs.len h2, flat_len], fun j u hj => ?_, cells_one h2⟩⟩
      rw [Addr.add_lit]; exact h1 j u hj
theorem at_of_owns {B : Nat} {e : TypeId} {v : Value} {l : List Cx} {news : List Value} (ho : w.ownsRow B e 2 v l.length news) (ha : Ats w (l.flatMap encC) news) : At w (.sl l.length 2 (l.flatMap encC)) v := by
  rcases ho.2 with ⟨rfl, h0⟩ | ⟨g, cap, cur, rfl, -, hg, hc, -, -, ht⟩
  · exact ⟨none, 0, by rw [h0], by omega, .inl h0⟩
  · refine ⟨_, cap, rfl, hc, .inr ⟨g, 0, rfl, RowR.mk (Array.getElem?_eq_some_iff.1 hg).1 fun i a hi => ?_⟩⟩
    obtain ⟨v, h1, h2⟩ := VRs.get ha hi
    refine ⟨v, ?_, h2⟩
    rw [Nat.zero_add, Lib.cell_of_heap hg]
    have hlt : i < l.length * 2 := by rw [← flat_len]; exact (List.getElem?_eq_some_iff.1 hi).1
    rw [← ht, List.getElem?_take, if_pos hlt] at h1
    simpa using h1
end
theorem wpList_append_src {P : Program} {w : World} {ops : Array Oper} {rest : List Oper} {o : Oper} {a : Act} {Q : Exit → Act → World → Prop} (hgd : o.guard = none) (s x : Operand) (t : TypeId)
    (ho : o.op = .call { callee := .builtin .append, args := #[s, x], argTypes := #[t, t] })
    (base : Nat) (e : TypeId) (i : TypeInfo) (z : Value) (size bytes : Nat) (ht : P.underlying t = some (.slice e)) (hi : P.info? e = some i) (hz : i.zero = some z)
    (hsize : i.size = size) (hby : i.bytes = bytes) (hzs : z.cells.size = size) (hsz : 0 < size)
    (v : Value) (n : Nat) (xs : List Value) (hs : a.eval s = v) (hown : w.ownsRow base e size v n xs)
    (y : Value) (m : Nat) (news : List Value) (hx : a.eval x = y) (hsrc : SrcOf w y m size news)
    (h63 : n + m ≤ maxLen) (hbytes : (n + m) * bytes ≤ 140737488355328) (hbase : base ≤ w.heap.size)
    (h : ∀ v' w', w'.ownsRow base e size v' (n + m) (xs ++ news) → w.grownBy w' v.ownBlock → wpList P ops Q rest (a.put o.dst v') w') : wpList P ops Q (o :: rest) a w := by
  refine wpList_plain hgd fun K hK => ?_
  have key : ∃ v' w', (Builtin.append_ #[t, t] o.type #[v, y]).run P w = .ok v' w' ∧ w'.ownsRow base e size v' (n + m) (xs ++ news) ∧ w.grownBy w' v.ownBlock := by
    rcases hsrc with ⟨rfl, rfl, rfl⟩ | ⟨ad, c, rfl, h1, h2, h3⟩
    · exact ⟨v, w, run_append_owned_none w base t o.type e i size ht hi v n xs hown, by simpa using hown, ⟨rfl, rfl, rfl, Nat.le_refl _, fun _ _ _ => rfl⟩⟩
    · obtain ⟨v', w', g1, g2, g3, -⟩ := run_append_own (P := P) (w := w) base t o.type e i z size bytes ht hi hz hsize hby hzs hsz v n xs hown ad m c news h1 h2 h3 h63 hbytes hbase
      exact ⟨v', w', g1, g2, g3⟩
  obtain ⟨v', w', hrun, r1, r2⟩ := key
  unfold Oper.wp
  simp [execOp, ho, resolve, invoke, builtin, hs, hx, hrun, Result.andThen]
  exact hK _ _ (h v' w' r1 r2)
end Go.Proofs.YtlnaihkombcbcaaGreat
