/-
  Sums over a map's entries, whatever the order of a range over it; the step of such a range. Of no program.
-/
import Derived.Maps.RangeRun
import Derived.WalkKit
import Derived.WalkSpells
namespace Go.Proofs.YtlnaihkombcbcaaGreat
open Go.RowKit Go.ChangeMaps
def kindE (v : Value) : Int := match v with
  | .agg cs => match (cs : Array Value)[0]? with
    | some (Value.int _ k) => k
    | _ => 0
  | _ => 0
def lenE (v : Value) : Nat := match v with
  | .slice _ n _ => n
  | _ => 0
/-- of an entry whose key is of that kind, how long its slice is -/
def partK (p : Int → Bool) (x : MapEntry) : Nat := if p (kindE x.key) then lenE x.val else 0
def sumK (p : Int → Bool) (l : List MapEntry) : Nat := (l.map (partK p)).sum
def seenK (p : Int → Bool) : List MapEntry → Array Nat → Nat
  | [], _ => 0
  | x :: l, seen => (if seen.contains x.born then partK p x else 0) + seenK p l seen
theorem seenK_other (p : Int → Bool) (seen : Array Nat) (b : Nat) : ∀ (es : List MapEntry), b ∉ es.map (·.born) → seenK p es (seen.push b) = seenK p es seen
  | [], _ => rfl
  | x :: l, h => by
    have hx : (x.born == b) = false := by
      cases hc : x.born == b with
      | false => rfl
      | true => exact absurd (List.mem_cons.2 (Or.inl (beq_iff_eq.1 hc).symm)) h
    have ih := seenK_other p seen b l (fun e => h (List.mem_cons.2 (Or.inr e)))
    simp only [seenK, contains_push, hx, Bool.or_false, ih]
theorem seenK_push (p : Int → Bool) (seen : Array Nat) (e : MapEntry) (hs : seen.contains e.born = false) : ∀ (es : List MapEntry), (es.map (·.born)).Nodup → e ∈ es → seenK p es (seen.push e.born) = seenK p es seen + partK p e
  | x :: l, hn, he => by
    have hn' : x.born ∉ l.map (·.born) ∧ (l.map (·.born)).Nodup := List.nodup_cons.1 hn
    rcases List.mem_cons.1 he with rfl | h
    · simp only [seenK, contains_push, hs, beq_self_eq_true, Bool.or_true, if_true, Bool.false_eq_true, if_false, seenK_other p seen e.born l hn'.1]
      omega
    · have hx : (x.born == e.born) = false := by
        cases hc : x.born == e.born with
        | false => rfl
        | true => exact absurd (by rw [beq_iff_eq.1 hc]; exact List.mem_map.2 ⟨e, h, rfl⟩) hn'.1
      simp only [seenK, contains_push, hx, Bool.or_false, seenK_push p seen e hs l hn'.2 h]
      omega
theorem seenK_full (p : Int → Bool) (seen : Array Nat) : ∀ (es : List MapEntry), (∀ x ∈ es, seen.contains x.born = true) → seenK p es seen = sumK p es
  | [], _ => rfl
  | x :: l, h => by
    simp only [seenK, sumK, h x (List.mem_cons.2 (Or.inl rfl)), if_true, List.map_cons, List.sum_cons, seenK_full p seen l (fun y hy => h y (List.mem_cons.2 (Or.inr hy)))]
theorem seenK_none (p : Int → Bool) : ∀ (es : List MapEntry), seenK p es #[] = 0
  | [] => rfl
  | x :: l => by
    have : (#[] : Array Nat).contains x.born = false := by simp
    simp only [seenK, this, Bool.false_eq_true, if_false, seenK_none p l]
theorem seenK_le (p : Int → Bool) (seen : Array Nat) : ∀ (es : List MapEntry), seenK p es seen ≤ sumK (fun _ => true) es
  | [] => Nat.le_refl _
  | x :: l => by
    have := seenK_le p seen l
    simp only [seenK, sumK, List.map_cons, List.sum_cons] at this ⊢
    have h2 : (if seen.contains x.born = true then partK p x else 0) ≤ partK (fun _ => true) x := by
      unfold partK
      split
      · split <;> simp
      · exact Nat.zero_le _
    omega
theorem iterSeen_of {w : World} {r : Nat} {a : Option Nat} {b : Nat} {s : Array Nat} {c : Nat} (h : w.heap[r]? = some (.mapIter a b s c)) : w.iterSeen r = s := by
  unfold World.iterSeen; rw [h]
/-- what a world is behind a step of the range: the iterator in block r has turned, nothing else -/
structure Stepped (r : Nat) (w w' : World) : Prop where
  os : w'.os = w.os
  tape : w'.tape = w.tape
  output : w'.output = w.output
  size : w'.heap.size = w.heap.size
  block : ∀ k, k ≠ r → w'.heap[k]? = w.heap[k]?
theorem Stepped.below {r : Nat} {w w' : World} (h : Stepped r w w') {B : Nat} (hB : B ≤ r) : Below B w w' := ⟨h.os, h.tape, h.output, Nat.le_of_eq h.size.symm, fun k hk => h.block k (by omega)⟩
theorem stepped_setBlock {r : Nat} {w w1 : World} (h : w1 = w ∨ w1 = w.drew) (o : Obj) : Stepped r w (setBlock w1 r o) := by
  have hh : w1.heap = w.heap ∧ w1.os = w.os ∧ w1.tape = w.tape ∧ w1.output = w.output := by rcases h with rfl | rfl <;> exact ⟨rfl, rfl, rfl, rfl⟩
  obtain ⟨h1, h2, h3, h4⟩ := hh
  refine ⟨h2, h3, h4, ?_, fun k hk => ?_⟩
  · show (w1.heap.setIfInBounds r o).size = _; simp [h1]
  · show (w1.heap.setIfInBounds r o)[k]? = _; rw [Array.getElem?_setIfInBounds_ne (Ne.symm hk), h1]
section
variable {P : Program} (w : World) {ops : Array Oper} {rest : List Oper} {o : Oper} {a : Act} {Q : Exit → Act → World → Prop}
/-- the step of a range over a map whose keys are a number and a text, whose elements are slices -/
theorem wpList_next_at (hg : o.guard = none) (it : Operand) (hop : o.op = Op.next it false) (r bm c0 : Nat) (seen : Array Nat) (es : Array MapEntry)
    (hit : a.eval it = .pointer (some ⟨r, 0, none⟩)) (hr : w.heap[r]? = some (.mapIter (some bm) c0 seen c0)) (hb : w.heap[bm]? = some (.map es c0)) (hne : bm ≠ r) (hold : ∀ x ∈ es.toList, x.born < c0) (hn : (es.toList.map (·.born)).Nodup)
    (hk : ∀ x ∈ es.toList, ∃ k s ad n c, x.key = .agg #[.int .i64 k, .string s] ∧ x.val = .slice ad n c)
    (hDone : (leftOf es seen).size = 0 → wpList P ops Q rest (a.put o.dst (.tuple #[.bool false])) w)
    (hMore : ∀ (e : MapEntry) (k : Int) (s : ByteArray) (ad : Option Addr) (n c : Nat) (w2 : World), e ∈ (leftOf es seen).toList → e.key = .agg #[.int .i64 k, .string s] → e.val = .slice ad n c → Stepped r w w2 →
      w2.heap[r]? = some (.mapIter (some bm) c0 (seen.push e.born) c0) → (Instr.entry (.pointer (some ⟨r, 0, none⟩))).run P w2 = .ok (.tuple #[.agg #[.int .i64 k, .string s], .slice ad n c]) w2 →
      wpList P ops Q rest (a.put o.dst (.tuple #[.bool true, .agg #[.int .i64 k, .string s], .slice ad n c])) w2) :
    wpList P ops Q (o :: rest) a w := by
  refine wpList_plain hg fun K' hK' => ?_
  unfold Oper.wp
  rcases run_next_at (P := P) w o.type r bm c0 c0 seen es c0 hr hb hold (Nat.le_refl _) with ⟨h0, hrun⟩ | ⟨e, he, w1, hw1, hrun⟩
  · simp [execOp, hop, hit, hrun, Result.andThen]
    exact hK' _ _ (hDone h0)
  · have hmem := (mem_left he).1
    obtain ⟨k, s, ad, n, c, h1, h2⟩ := hk e hmem
    have hst := stepped_setBlock (r := r) hw1 (.mapIter (some bm) c0 (seen.push e.born) c0)
    have hlt : r < w1.heap.size := by
      have : r < w.heap.size := (Array.getElem?_eq_some_iff.1 hr).1
      rcases hw1 with rfl | rfl <;> exact this
    have hr2 : (setBlock w1 r (.mapIter (some bm) c0 (seen.push e.born) c0)).heap[r]? = some (.mapIter (some bm) c0 (seen.push e.born) c0) := by
      show (w1.heap.setIfInBounds r _)[r]? = _; simp [hlt]
    have hen := run_entry_at (P := P) (setBlock w1 r (.mapIter (some bm) c0 (seen.push e.born) c0)) r bm c0 seen es c0 e hr2 (by rw [hst.block bm hne]; exact hb) hmem hn
    rw [h1, h2] at hrun hen
    simp [execOp, hop, hit, hrun, Result.andThen]
    exact hK' _ _ (hMore e k s ad n c _ he h1 h2 hst hr2 hen)
end
end Go.Proofs.YtlnaihkombcbcaaGreat
