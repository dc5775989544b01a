/-
  The index's map while it is made: how many selectors lie at each kind of key; a round of it.
-/
import Derived.Test.YtlnaihkombcbcaaGreatQMap
namespace Go.Proofs.YtlnaihkombcbcaaGreat
open Go.RowKit Go.Ev Go.ChangeMaps
theorem owns_same {W W' : World} {B : Nat} {e : TypeId} {sz : Nat} {v : Value} {n : Nat} {xs : List Value} (h : W.ownsRow B e sz v n xs) (hs : ∀ g, v.ownBlock = some g → W'.heap[g]? = W.heap[g]?) : W'.ownsRow B e sz v n xs := by
  obtain ⟨h1, h2⟩ := h
  refine ⟨h1, ?_⟩
  rcases h2 with h2 | ⟨g, cap, cur, rfl, a, b, c⟩
  · exact .inl h2
  · exact .inr ⟨g, cap, cur, rfl, a, by rw [hs g rfl]; exact b, c⟩
theorem owns_len {W : World} {B : Nat} {e : TypeId} {sz : Nat} {v : Value} {n : Nat} {xs : List Value} (h : W.ownsRow B e sz v n xs) : lenE v = n := by
  obtain ⟨a, c, rfl⟩ := owns_slice h; rfl
theorem map_modify {α β : Type} (g : α → β) (f : α → α) (h : ∀ x, g (f x) = g x) : ∀ (l : List α) (j : Nat), (l.modify j f).map g = l.map g
  | [], j => by cases j <;> rfl
  | x :: l, 0 => by simp [h]
  | x :: l, j + 1 => by simp [List.modify_succ_cons, map_modify g f h l j]
theorem sum_modify {α : Type} (g : α → Nat) (f : α → α) : ∀ (l : List α) (j : Nat) (x : α), l[j]? = some x → ((l.modify j f).map g).sum + g x = (l.map g).sum + g (f x)
  | [], j, x, h => by simp at h
  | y :: l, 0, x, h => by
    simp at h; subst h
    simp; omega
  | y :: l, j + 1, x, h => by
    have := sum_modify g f l j x (by simpa using h)
    simp [List.modify_succ_cons]; omega
theorem setBlock_same' {W : World} {B : Nat} (o : Obj) (h : B < W.heap.size) : (setBlock W B o).heap[B]? = some o := by
  show (W.heap.setIfInBounds B o)[B]? = _; simp [h]
theorem setBlock_ne' {W : World} {B k : Nat} (o : Obj) (h : k ≠ B) : (setBlock W B o).heap[k]? = W.heap[k]? := by
  show (W.heap.setIfInBounds B o)[k]? = _; rw [Array.getElem?_setIfInBounds_ne (Ne.symm h)]
theorem setBlock_size' (W : World) (B : Nat) (o : Obj) : (setBlock W B o).heap.size = W.heap.size := by
  show (W.heap.setIfInBounds B o).size = _; simp
abbrev Ent : TypeId := 167
structure Grp (W : World) (B : Nat) (es : Array MapEntry) (clk : Nat) (pre : List Cx) : Prop where
  at_ : W.heap[B]? = some (.map es clk)
  st : MapKept.Stamped es clk
  keys : ∀ x ∈ es.toList, IsQ x.key
  vals : ∀ (i : Nat) (x : MapEntry), es.toList[i]? = some x → ∃ n ys, W.ownsRow (B + 2) Ent 4 x.val n ys ∧ n ≤ pre.length
  apart : ∀ (i j : Nat) (x y : MapEntry), es.toList[i]? = some x → es.toList[j]? = some y → i ≠ j → ∀ g, x.val.ownBlock = some g → y.val.ownBlock ≠ some g
  sums : ∀ p, sumK p es.toList = (pre.filter fun c => p (kindC c)).length
theorem count_snoc (pre : List Cx) (c : Cx) (p : Int → Bool) : ((pre ++ [c]).filter fun c => p (kindC c)).length = (pre.filter fun c => p (kindC c)).length + (if p (kindC c) then 1 else 0) := by
  rw [List.filter_append, List.length_append]
  congr 1
  by_cases h : p (kindC c) = true
  · simp [h]
  · simp [h]
theorem Grp.start (W : World) : Grp (W.alloc (.map #[] 0)) W.heap.size #[] 0 [] :=
  { at_ := heap_al_new _ _, st := ⟨by simp, by simp, by simp⟩, keys := by simp, vals := by simp, apart := by simp, sums := fun p => rfl }
/-- all that is not the map, nor a row of it -/
theorem Grp.row_lt {W : World} {B clk : Nat} {es : Array MapEntry} {pre : List Cx} (h : Grp W B es clk pre) {i : Nat} {x : MapEntry} (hx : es.toList[i]? = some x) {g : Nat} (hg : x.val.ownBlock = some g) : B + 2 ≤ g ∧ g < W.heap.size := by
  obtain ⟨n, ys, ho, -⟩ := h.vals i x hx
  exact ho.lt g hg
theorem Grp.below {W W' : World} {B clk : Nat} {es : Array MapEntry} {pre : List Cx} (h : Grp W B es clk pre) (hb : Below W.heap.size W W') : Grp W' B es clk pre :=
  { at_ := by rw [hb.block B (Array.getElem?_eq_some_iff.1 h.at_).1]; exact h.at_
    st := h.st, keys := h.keys, apart := h.apart, sums := h.sums
    vals := fun i x hx => by
      obtain ⟨n, ys, ho, hn⟩ := h.vals i x hx
      exact ⟨n, ys, owns_same ho fun g hg => hb.block g (h.row_lt hx hg).2, hn⟩ }
theorem Grp.found {W W2 : World} {B clk j : Nat} {es : Array MapEntry} {pre : List Cx} {c : Cx} {e0 : MapEntry} {nm : ByteArray} {v' : Value} {ys : List Value} (h : Grp W B es clk pre) (hj : es.toList[j]? = some e0)
    (hk : e0.key = .agg #[.int .i64 (kindC c), .string nm]) (hown : W2.ownsRow (B + 2) Ent 4 v' (lenE e0.val + 1) ys) (hgrow : (setBlock W B (.map es clk)).grownBy W2 e0.val.ownBlock)
    (hloc : v'.ownBlock = e0.val.ownBlock ∨ v'.ownBlock = some (setBlock W B (.map es clk)).heap.size) :
    Grp (setBlock W2 B (.map (es.modify j (fun e' => { e' with val := v' })) clk)) B (es.modify j (fun e' => { e' with val := v' })) clk (pre ++ [c]) := by
  have hBlt : B < W.heap.size := (Array.getElem?_eq_some_iff.1 h.at_).1
  have hs2 := hgrow.size
  rw [setBlock_size'] at hs2
  obtain ⟨n, ys0, ho0, hn0⟩ := h.vals j e0 hj
  have hl0 := owns_len ho0
  have hget : ∀ i, (es.toList.modify j (fun e' => { e' with val := v' }))[i]? = if j = i then (es.toList[i]?).map (fun e' => { e' with val := v' }) else es.toList[i]? := fun i => by
    rw [List.getElem?_modify]
    split <;> simp [*]
  have hlen : j < es.toList.length := (List.getElem?_eq_some_iff.1 hj).1
  have hvlt : ∀ g, v'.ownBlock = some g → B + 2 ≤ g := fun g hg => (hown.lt g hg).1
  have hold : ∀ (i : Nat) (x : MapEntry), i ≠ j → es.toList[i]? = some x → ∀ g, x.val.ownBlock = some g → (setBlock W2 B (.map (es.modify j (fun e' => { e' with val := v' })) clk)).heap[g]? = W.heap[g]? := fun i x hi hx g hg => by
    have hr := h.row_lt hx hg
    rw [setBlock_ne' _ (by omega), hgrow.block g (by rw [setBlock_size']; exact hr.2) (fun e => h.apart i j x e0 hx hj hi g hg e.symm), setBlock_ne' _ (by omega)]
  refine { at_ := setBlock_same' _ (by omega), st := ?_, keys := ?_, vals := ?_, apart := ?_, sums := ?_ }
  · obtain ⟨s1, s2, s3⟩ := h.st
    have e1 := map_modify (fun x : MapEntry => x.born) (fun e' => { e' with val := v' }) (fun _ => rfl) es.toList j
    have e2 := map_modify (fun x : MapEntry => x.key) (fun e' => { e' with val := v' }) (fun _ => rfl) es.toList j
    refine ⟨fun x hx => ?_, by rw [Array.toList_modify, e1]; exact s2, by rw [Array.toList_modify, e2]; exact s3⟩
    rw [Array.toList_modify] at hx
    have : x.born ∈ es.toList.map (·.born) := by rw [← e1]; exact List.mem_map.2 ⟨x, hx, rfl⟩
    obtain ⟨y, hy, e3⟩ := List.mem_map.1 this
    rw [← e3]; exact s1 y hy
  · intro x hx
    rw [Array.toList_modify] at hx
    have e2 := map_modify (fun x : MapEntry => x.key) (fun e' => { e' with val := v' }) (fun _ => rfl) es.toList j
    have : x.key ∈ es.toList.map (·.key) := by rw [← e2]; exact List.mem_map.2 ⟨x, hx, rfl⟩
    obtain ⟨y, hy, e3⟩ := List.mem_map.1 this
    rw [← e3]; exact h.keys y hy
  · intro i x hx
    rw [Array.toList_modify, hget] at hx
    by_cases hij : j = i
    · rw [if_pos hij] at hx
      subst hij
      rw [hj] at hx
      simp only [Option.map_some, Option.some.injEq] at hx
      subst hx
      refine ⟨_, _, owns_same hown fun g hg => setBlock_ne' _ (by have := hvlt g hg; omega), ?_⟩
      rw [hl0, List.length_append]; simp; omega
    · rw [if_neg hij] at hx
      obtain ⟨n', ys', ho, hn⟩ := h.vals i x hx
      exact ⟨n', ys', owns_same ho (hold i x (Ne.symm hij) hx), by rw [List.length_append]; simp; omega⟩
  · intro i i' x y hx hy hne g hg
    rw [Array.toList_modify, hget] at hx hy
    have hW1 : (setBlock W B (.map es clk)).heap.size = W.heap.size := setBlock_size' _ _ _
    by_cases hij : j = i
    · subst hij
      rw [if_pos rfl, hj] at hx
      simp only [Option.map_some, Option.some.injEq] at hx
      subst hx
      rw [if_neg hne] at hy
      intro hy2
      have hy3 := h.row_lt hy hy2
      rcases hloc with hl | hl
      · rw [hl] at hg
        exact h.apart j i' e0 y hj hy hne g hg hy2
      · rw [hl, hW1] at hg
        cases hg; omega
    · rw [if_neg hij] at hx
      by_cases hij' : j = i'
      · subst hij'
        rw [if_pos rfl, hj] at hy
        simp only [Option.map_some, Option.some.injEq] at hy
        subst hy
        intro hy2
        have hx3 := h.row_lt hx hg
        rcases hloc with hl | hl
        · rw [hl] at hy2
          exact h.apart i j x e0 hx hj (Ne.symm hij) g hg hy2
        · rw [hl, hW1] at hy2
          cases hy2; omega
      · rw [if_neg hij'] at hy
        exact h.apart i i' x y hx hy hne g hg
  · intro p
    have h1 := sum_modify (partK p) (fun e' => { e' with val := v' }) es.toList j e0 hj
    have h2 := h.sums p
    rw [count_snoc, ← h2, Array.toList_modify]
    have p1 : partK p e0 = if p (kindC c) then lenE e0.val else 0 := by unfold partK; rw [hk]; rfl
    have p2 : partK p { e0 with val := v' } = if p (kindC c) then lenE e0.val + 1 else 0 := by unfold partK; rw [hk, owns_len hown]; rfl
    unfold sumK
    rw [p1, p2] at h1
    split at h1 <;> simp_all <;> omega
theorem Grp.new {W W2 : World} {B clk : Nat} {es : Array MapEntry} {pre : List Cx} {c : Cx} {nm : ByteArray} {v' z : Value} {ys : List Value} (h : Grp W B es clk pre)
    (hq : IsQ (.agg #[.int .i64 (kindC c), .string nm])) (hno : ∀ x ∈ es.toList, x.key ≠ .agg #[.int .i64 (kindC c), .string nm]) (hown : W2.ownsRow (B + 2) Ent 4 v' 1 ys)
    (hgrow : (setBlock W B (.map (es.push ⟨.agg #[.int .i64 (kindC c), .string nm], z, clk⟩) (clk + 1))).grownBy W2 none)
    (hloc : v'.ownBlock = none ∨ v'.ownBlock = some (setBlock W B (.map (es.push ⟨.agg #[.int .i64 (kindC c), .string nm], z, clk⟩) (clk + 1))).heap.size) :
    Grp (setBlock W2 B (.map (es.push ⟨.agg #[.int .i64 (kindC c), .string nm], v', clk⟩) (clk + 1))) B (es.push ⟨.agg #[.int .i64 (kindC c), .string nm], v', clk⟩) (clk + 1) (pre ++ [c]) := by
  have hBlt : B < W.heap.size := (Array.getElem?_eq_some_iff.1 h.at_).1
  have hs2 := hgrow.size
  rw [setBlock_size'] at hs2
  have hW1 : (setBlock W B (.map (es.push ⟨.agg #[.int .i64 (kindC c), .string nm], z, clk⟩) (clk + 1))).heap.size = W.heap.size := setBlock_size' _ _ _
  have hvlt : ∀ g, v'.ownBlock = some g → B + 2 ≤ g := fun g hg => (hown.lt g hg).1
  have hold : ∀ (i : Nat) (x : MapEntry), es.toList[i]? = some x → ∀ g, x.val.ownBlock = some g → (setBlock W2 B (.map (es.push ⟨.agg #[.int .i64 (kindC c), .string nm], v', clk⟩) (clk + 1))).heap[g]? = W.heap[g]? := fun i x hx g hg => by
    have hr := h.row_lt hx hg
    rw [setBlock_ne' _ (by omega), hgrow.block g (by rw [setBlock_size']; exact hr.2) (by simp), setBlock_ne' _ (by omega)]
  have hget : ∀ (i : Nat) (x : MapEntry), (es.toList ++ [(⟨.agg #[.int .i64 (kindC c), .string nm], v', clk⟩ : MapEntry)])[i]? = some x → es.toList[i]? = some x ∨ (i = es.toList.length ∧ x = ⟨.agg #[.int .i64 (kindC c), .string nm], v', clk⟩) := fun i x hx => by
    by_cases hi : i < es.toList.length
    · rw [List.getElem?_append_left hi] at hx; exact .inl hx
    · rw [List.getElem?_append_right (by omega)] at hx
      have : i - es.toList.length = 0 := by
        have := (List.getElem?_eq_some_iff.1 hx).1
        simp at this; omega
      rw [this] at hx
      simp at hx
      exact .inr ⟨by omega, hx.symm⟩
  refine { at_ := setBlock_same' _ (by omega), st := ?_, keys := ?_, vals := ?_, apart := ?_, sums := ?_ }
  · obtain ⟨s1, s2, s3⟩ := h.st
    rw [MapKept.Stamped, Array.toList_push]
    refine ⟨fun x hx => ?_, ?_, ?_⟩
    · rcases List.mem_append.1 hx with hx | hx
      · have := s1 x hx; omega
      · simp at hx; subst hx; simp
    · rw [List.map_append]
      refine List.nodup_append.2 ⟨s2, by simp, fun a ha b hb e => ?_⟩
      simp at hb; subst hb; subst e
      obtain ⟨x, hx, e3⟩ := List.mem_map.1 ha
      have := s1 x hx; omega
    · rw [List.map_append]
      refine List.nodup_append.2 ⟨s3, by simp, fun a ha b hb e => ?_⟩
      simp at hb; subst hb; subst e
      obtain ⟨x, hx, e3⟩ := List.mem_map.1 ha
      exact hno x hx e3
  · intro x hx
    rw [Array.toList_push, List.mem_append] at hx
    rcases hx with hx | hx
    · exact h.keys x hx
    · simp at hx; subst hx; exact hq
  · intro i x hx
    rw [Array.toList_push] at hx
    rcases hget i x hx with hx | ⟨-, rfl⟩
    · obtain ⟨n', ys', ho, hn⟩ := h.vals i x hx
      exact ⟨n', ys', owns_same ho (hold i x hx), by rw [List.length_append]; simp; omega⟩
    · exact ⟨_, _, owns_same hown fun g hg => setBlock_ne' _ (by have := hvlt g hg; omega), by rw [List.length_append]; simp⟩
  · intro i i' x y hx hy hne g hg
    rw [Array.toList_push] at hx hy
    rcases hget i x hx with hx | ⟨hi, rfl⟩ <;> rcases hget i' y hy with hy | ⟨hi', rfl⟩
    · exact h.apart i i' x y hx hy hne g hg
    · intro hy2
      have := h.row_lt hx hg
      rcases hloc with hl | hl
      · rw [hl] at hy2; cases hy2
      · rw [hl, hW1] at hy2; cases hy2; omega
    · intro hy2
      have := h.row_lt hy hy2
      rcases hloc with hl | hl
      · rw [hl] at hg; cases hg
      · rw [hl, hW1] at hg; cases hg; omega
    · omega
  · intro p
    have h2 := h.sums p
    rw [count_snoc, ← h2, Array.toList_push]
    unfold sumK
    rw [List.map_append, List.sum_append]
    have p2 : partK p ⟨.agg #[.int .i64 (kindC c), .string nm], v', clk⟩ = if p (kindC c) then 1 else 0 := by unfold partK; rw [owns_len hown]; rfl
    simp [p2]
end Go.Proofs.YtlnaihkombcbcaaGreat
