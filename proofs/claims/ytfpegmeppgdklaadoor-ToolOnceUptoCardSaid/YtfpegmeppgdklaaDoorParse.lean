/-
  tool.Parse.
-/
import Derived.Test.YtfpegmeppgdklaaDoorSplit
import Derived.Test.YtfpegmeppgdklaaDoorParseM
namespace Go.Proofs.YtfpegmeppgdklaaDoor
open Go.RowKit
attribute [local go_sem] Oper.semAt_some
set_option maxHeartbeats 2000000 in
theorem seq_any (s : ByteArray) (w : World) :
    Calls Tryd.prog 18 #[.string s, .string ⟨#[10]⟩] w fun e w' =>
      e = .returned (.func (.func 42) #[] #[.pointer (some ⟨w.heap.size + 1, 0, none⟩), .pointer (some ⟨w.heap.size, 0, none⟩), .pointer (some ⟨w.heap.size + 1 + 1, 0, none⟩)]) ∧
      w' = ((w.alloc (.cells #[.string s] 9)).alloc (.cells #[.string ⟨#[10]⟩] 9)).alloc (.cells #[.int .i64 0] 3) := by
  go_enter Tryd.func18, Tryd.ntmps18
  go_wp2
  go_ret
  exact ⟨rfl, rfl⟩
/-- Parse's own cells from z on: three results, the config, the count. -/
structure Cells5 (z : Nat) (W : World) (r0 : Array Value) (r1 r2 : Value) (cf : Array Value) (k : Value) : Prop where
  a0 : W.heap[z]? = some (.cells r0 26 (0, 0))
  a1 : W.heap[z + 1]? = some (.cells #[r1] 3 (0, 0))
  a2 : W.heap[z + 2]? = some (.cells #[r2] 29 (0, 0))
  a3 : W.heap[z + 3]? = some (.cells cf 26 (0, 0))
  a4 : W.heap[z + 4]? = some (.cells #[k] 3 (0, 0))
def zeroC : Array Value := #[.slice none 0 0, .slice none 0 0, .bool false]
/-- between two rounds -/
def PI (w : World) (pre : List Str) (W : World) : Prop :=
  ∃ (c : Cfg) (v1 v2 : Value), Hid (runM emptyC pre = some c) ∧ Cells5 w.heap.size W zeroC (.int .i64 0) (.int .i64 0) #[v1, v2, .bool c.crit] (.int .i64 pre.length) ∧
    SFrom (w.heap.size + 8) W v1 c.cls ∧ SFrom (w.heap.size + 8) W v2 c.att ∧ Below w.heap.size w W ∧ w.heap.size + 8 ≤ W.heap.size
/-- a round has left by a return -/
def PX (w : World) (c : Code) (pre : List Str) (W : World) : Prop :=
  c = .ret ∧ ∃ (p : List Str) (x : Str) (cf : Array Value) (k : Value), pre = p ++ [x] ∧ Hid (runM emptyC p ≠ none ∧ runM emptyC (p ++ [x]) = none) ∧
    Cells5 w.heap.size W zeroC (.int .i64 p.length) (.int .i64 220) cf k ∧ Below w.heap.size w W
def CellsKept (B : Nat) (W W' : World) : Prop := ∀ k cs t f, k ≠ B → W.heap[k]? = some (.cells cs t f) → W'.heap[k]? = some (.cells cs t f)
theorem Cells5.keep {z : Nat} {W W' : World} {r0 cf : Array Value} {r1 r2 k : Value} (h : Cells5 z W r0 r1 r2 cf k) (hk : CellsKept (z + 5) W W') : Cells5 z W' r0 r1 r2 cf k :=
  ⟨hk _ _ _ _ (by omega) h.a0, hk _ _ _ _ (by omega) h.a1, hk _ _ _ _ (by omega) h.a2, hk _ _ _ _ (by omega) h.a3, hk _ _ _ _ (by omega) h.a4⟩
theorem SFrom.kept {B C : Nat} {W W' : World} {v : Value} {ss : List Str} (h : SFrom C W v ss) (hk : CellsKept B W W') (hB : B < C) : SFrom C W' v ss := by
  rcases h with h | ⟨b, off, cap, h0, h1, h2, h3, h4⟩
  · exact .inl h
  · refine .inr ⟨b, off, cap, h0, h1, h2, h3, fun j hj => ?_⟩
    have hc := h4 j hj
    unfold World.cell? at hc ⊢
    split at hc
    · rename_i cs t f he
      rw [hk b cs t f (by omega) he]
      exact hc
    · cases hc
theorem PI.keep {w W W' : World} {pre : List Str} (h : PI w pre W) (hk : CellsKept (w.heap.size + 5) W W') (hb : Below w.heap.size w W') (hs : W.heap.size ≤ W'.heap.size) : PI w pre W' := by
  obtain ⟨c, v1, v2, h1, h2, h3, h4, h5, h6⟩ := h
  exact ⟨c, v1, v2, h1, h2.keep hk, h3.kept hk (by omega), h4.kept hk (by omega), hb, by omega⟩
theorem PX.keep {w W W' : World} {c : Code} {pre : List Str} (h : PX w c pre W) (hk : CellsKept (w.heap.size + 5) W W') (hb : Below w.heap.size w W') : PX w c pre W' := by
  obtain ⟨hc, p, x, cf, k, h1, h2, h3, h4⟩ := h
  exact ⟨hc, p, x, cf, k, h1, h2, h3.keep hk, hb⟩
theorem kept_grown {W W' : World} {row : Option Nat} {C : Nat} (B : Nat) (hg : W.grownBy W' row) (hr : ∀ r, row = some r → C ≤ r ∧ ∃ o : Obj, W.heap[r]? = some o ∧ o.isCells = false) : CellsKept B W W' := by
  intro k cs t f _ hk
  have hlt := (Array.getElem?_eq_some_iff.1 hk).1
  refine (hg.block k hlt fun e => ?_).trans hk
  obtain ⟨_, o, ho, hc⟩ := hr k e.symm
  rw [hk] at ho
  cases ho
  cases hc
theorem kept_set (W : World) (B : Nat) (v : Value) : CellsKept B W (W.setCell ⟨B, 0, none⟩ v) := fun k _ _ _ hne hk =>
  (Below.heap_setCell W ⟨B, 0, none⟩ v k hne).trans hk
theorem PI.own (w : World) (B : Nat) (hB : w.heap.size ≤ B) : OwnFrom B (PI w) := by
  intro s W W' row hs hg hr
  have hb : Below w.heap.size w W := by obtain ⟨c, v1, v2, h1, h2, h3, h4, h5, h6⟩ := hs; exact h5
  exact hs.keep (kept_grown _ hg hr) (hb.grown hg hb.size fun k e => Nat.le_trans hB (hr k e).1) hg.size
theorem PX.own (w : World) (c : Code) (B : Nat) (hB : w.heap.size ≤ B) : OwnFrom B (PX w c) := by
  intro s W W' row hs hg hr
  have hb : Below w.heap.size w W := by obtain ⟨hc, p, x, cf, k, h1, h2, h3, h4⟩ := hs; exact h4
  exact hs.keep (kept_grown _ hg hr) (hb.grown hg hb.size fun k e => Nat.le_trans hB (hr k e).1)
theorem heap_al (w : World) (o : Obj) (k : Nat) : (w.alloc o).heap[k]? = if k = w.heap.size then some o else w.heap[k]? := by
  show (w.heap.push o)[k]? = _
  rw [Array.getElem?_push]
theorem Cells5.read {z : Nat} {W : World} {a0 a1 a2 b0 b1 b2 r1 r2 k : Value} (h : Cells5 z W #[a0, a1, a2] r1 r2 #[b0, b1, b2] k) :
    (W.cell? ⟨z, 0, none⟩ = some a0 ∧ W.cell? ⟨z, 1, none⟩ = some a1 ∧ W.cell? ⟨z, 2, none⟩ = some a2 ∧ W.cell? ⟨z + 1, 0, none⟩ = some r1 ∧ W.cell? ⟨z + 1 + 1, 0, none⟩ = some r2 ∧
    W.cell? ⟨z + 1 + 1 + 1, 0, none⟩ = some b0 ∧ W.cell? ⟨z + 1 + 1 + 1, 1, none⟩ = some b1 ∧ W.cell? ⟨z + 1 + 1 + 1, 2, none⟩ = some b2 ∧ W.cell? ⟨z + 1 + 1 + 1 + 1, 0, none⟩ = some k) ∧
    (∀ o, W.frozen? ⟨z, o, none⟩ = false) ∧ (∀ o, W.frozen? ⟨z + 1, o, none⟩ = false) ∧ (∀ o, W.frozen? ⟨z + 1 + 1, o, none⟩ = false) ∧ (∀ o, W.frozen? ⟨z + 1 + 1 + 1, o, none⟩ = false) ∧ (∀ o, W.frozen? ⟨z + 1 + 1 + 1 + 1, o, none⟩ = false) :=
  ⟨⟨by rw [Lib.cell_of_heap h.a0]; rfl, by rw [Lib.cell_of_heap h.a0]; rfl, by rw [Lib.cell_of_heap h.a0]; rfl, by rw [Lib.cell_of_heap h.a1]; rfl, by rw [Lib.cell_of_heap h.a2]; rfl,
    by rw [Lib.cell_of_heap h.a3]; rfl, by rw [Lib.cell_of_heap h.a3]; rfl, by rw [Lib.cell_of_heap h.a3]; rfl, by rw [Lib.cell_of_heap h.a4]; rfl⟩,
   Lib.frozen_of_heap h.a0, Lib.frozen_of_heap h.a1, Lib.frozen_of_heap h.a2, Lib.frozen_of_heap h.a3, Lib.frozen_of_heap h.a4⟩
theorem Cells5.res {z : Nat} {W : World} {a0 a1 a2 r1 r2 k : Value} {cf : Array Value} (h : Cells5 z W #[a0, a1, a2] r1 r2 cf k) :
    W.cell? ⟨z, 0, none⟩ = some a0 ∧ W.cell? ⟨z, 1, none⟩ = some a1 ∧ W.cell? ⟨z, 2, none⟩ = some a2 ∧ W.cell? ⟨z + 1, 0, none⟩ = some r1 ∧ W.cell? ⟨z + 1 + 1, 0, none⟩ = some r2 :=
  ⟨by rw [Lib.cell_of_heap h.a0]; rfl, by rw [Lib.cell_of_heap h.a0]; rfl, by rw [Lib.cell_of_heap h.a0]; rfl, by rw [Lib.cell_of_heap h.a1]; rfl, by rw [Lib.cell_of_heap h.a2]; rfl⟩
theorem Cells5.drew {z : Nat} {W : World} {r0 cf : Array Value} {r1 r2 k : Value} (h : Cells5 z W r0 r1 r2 cf k) : Cells5 z W.drew r0 r1 r2 cf k := ⟨h.a0, h.a1, h.a2, h.a3, h.a4⟩
theorem Cells5.put0 {z : Nat} {W : World} {r0 cf : Array Value} {r1 r2 k : Value} (h : Cells5 z W r0 r1 r2 cf k) (o : Nat) (v : Value) : Cells5 z (W.setCell ⟨z, o, none⟩ v) (r0.setIfInBounds o v) r1 r2 cf k :=
  ⟨put_same v h.a0, put_far v h.a1 (by omega), put_far v h.a2 (by omega), put_far v h.a3 (by omega), put_far v h.a4 (by omega)⟩
theorem Cells5.put1 {z : Nat} {W : World} {r0 cf : Array Value} {r1 r2 k : Value} (h : Cells5 z W r0 r1 r2 cf k) (v : Value) : Cells5 z (W.setCell ⟨z + 1, 0, none⟩ v) r0 v r2 cf k :=
  ⟨put_far v h.a0 (by omega), put_same v h.a1, put_far v h.a2 (by omega), put_far v h.a3 (by omega), put_far v h.a4 (by omega)⟩
theorem Cells5.put2 {z : Nat} {W : World} {r0 cf : Array Value} {r1 r2 k : Value} (h : Cells5 z W r0 r1 r2 cf k) (v : Value) : Cells5 z (W.setCell ⟨z + 1 + 1, 0, none⟩ v) r0 r1 v cf k :=
  ⟨put_far v h.a0 (by omega), put_far v h.a1 (by omega), put_same v h.a2, put_far v h.a3 (by omega), put_far v h.a4 (by omega)⟩
theorem Cells5.put3 {z : Nat} {W : World} {r0 cf : Array Value} {r1 r2 k : Value} (h : Cells5 z W r0 r1 r2 cf k) (o : Nat) (v : Value) : Cells5 z (W.setCell ⟨z + 1 + 1 + 1, o, none⟩ v) r0 r1 r2 (cf.setIfInBounds o v) k :=
  ⟨put_far v h.a0 (by omega), put_far v h.a1 (by omega), put_far v h.a2 (by omega), put_same v h.a3, put_far v h.a4 (by omega)⟩
theorem Cells5.put4 {z : Nat} {W : World} {r0 cf : Array Value} {r1 r2 k : Value} (h : Cells5 z W r0 r1 r2 cf k) (v : Value) : Cells5 z (W.setCell ⟨z + 1 + 1 + 1 + 1, 0, none⟩ v) r0 r1 r2 cf v :=
  ⟨put_far v h.a0 (by omega), put_far v h.a1 (by omega), put_far v h.a2 (by omega), put_far v h.a3 (by omega), put_same v h.a4⟩
theorem set3 (a0 a1 a2 x0 x1 x2 : Value) : (((#[a0, a1, a2].setIfInBounds 0 x0).setIfInBounds 1 x1).setIfInBounds 2 x2) = #[x0, x1, x2] := by simp
/-- the world behind the stores of three results -/
def stored (z : Nat) (W : World) (x0 x1 x2 y e : Value) : World := ((((W.setCell ⟨z, 0, none⟩ x0).setCell ⟨z, 1, none⟩ x1).setCell ⟨z, 2, none⟩ x2).setCell ⟨z + 1, 0, none⟩ y).setCell ⟨z + 1 + 1, 0, none⟩ e
theorem stored_fold (z : Nat) (W : World) (x0 x1 x2 y e : Value) : ((((W.setCell ⟨z, 0, none⟩ x0).setCell ⟨z, 1, none⟩ x1).setCell ⟨z, 2, none⟩ x2).setCell ⟨z + 1, 0, none⟩ y).setCell ⟨z + 1 + 1, 0, none⟩ e = stored z W x0 x1 x2 y e := rfl
theorem Cells5.stored {z : Nat} {W : World} {a0 a1 a2 r1 r2 k : Value} {cf : Array Value} (h : Cells5 z W #[a0, a1, a2] r1 r2 cf k) (x0 x1 x2 y e : Value) :
    Cells5 z (stored z W x0 x1 x2 y e) #[x0, x1, x2] y e cf k := by
  have h6 := (((((h.put0 0 x0).put0 1 x1).put0 2 x2).put1 y).put2 e)
  rw [set3] at h6
  exact h6
theorem stored_others (z : Nat) (W : World) (x0 x1 x2 y e : Value) : KeepsOthers W (stored z W x0 x1 x2 y e) := by
  unfold stored
  have h1 := KeepsOthers.setCell W ⟨z, 0, none⟩ x0
  have h2 := h1.trans (KeepsOthers.setCell _ ⟨z, 1, none⟩ x1)
  have h3 := h2.trans (KeepsOthers.setCell _ ⟨z, 2, none⟩ x2)
  have h4 := h3.trans (KeepsOthers.setCell _ ⟨z + 1, 0, none⟩ y)
  exact h4.trans (KeepsOthers.setCell _ ⟨z + 1 + 1, 0, none⟩ e)
theorem stored_below {w W : World} {z : Nat} (hb : Below z w W) (x0 x1 x2 y e : Value) : Below z w (stored z W x0 x1 x2 y e) := by
  unfold stored
  have h1 := hb.setCell (p := ⟨z, 0, none⟩) (Nat.le_refl _) x0
  have h2 := h1.setCell (p := ⟨z, 1, none⟩) (Nat.le_refl _) x1
  have h3 := h2.setCell (p := ⟨z, 2, none⟩) (Nat.le_refl _) x2
  have h4 := h3.setCell (p := ⟨z + 1, 0, none⟩) (Nat.le_succ _) y
  exact h4.setCell (p := ⟨z + 1 + 1, 0, none⟩) (by show z ≤ z + 1 + 1; omega) e
theorem stored_cells (z : Nat) (W : World) (x0 x1 x2 y e : Value) (b o : Nat) (h : z + 3 ≤ b) : (stored z W x0 x1 x2 y e).drew.cell? ⟨b, o, none⟩ = W.cell? ⟨b, o, none⟩ := by
  unfold stored
  rw [cell_drew_own, cell_set_far _ _ _ _ _ (by show b ≠ z + 1 + 1; omega), cell_set_far _ _ _ _ _ (by show b ≠ z + 1; omega), cell_set_far _ _ _ _ _ (by show b ≠ z; omega), cell_set_far _ _ _ _ _ (by show b ≠ z; omega), cell_set_far _ _ _ _ _ (by show b ≠ z; omega)]
theorem kept_taken {W : World} {D : Nat} (B : Nat) (h : W.heap[D]? = some (.deferred (some []))) : CellsKept B W (W.putObj D (.deferred none)) :=
  kept_grown (C := 0) B (grownBy_putObj' W D _) fun r e => by cases e; exact ⟨Nat.zero_le _, _, h, rfl⟩
theorem below_taken {W w : World} {D : Nat} (hb : Below w.heap.size w W) (hD : w.heap.size ≤ D) : Below w.heap.size w (W.putObj D (.deferred none)) :=
  hb.grown (grownBy_putObj' W D _) hb.size fun k e => by cases e; exact hD
theorem linesAux_len (cur l : Str) : (linesAux cur l).length ≤ l.length + 1 := by
  induction l generalizing cur with
  | nil => simp [linesAux]
  | cons c l ih =>
    rw [linesAux]
    split
    · have := ih []
      simp; omega
    · have := ih (cur ++ [c])
      simp; omega
theorem linesAux_mem (cur l x : Str) (h : x ∈ linesAux cur l) : x.length ≤ cur.length + l.length := by
  induction l generalizing cur with
  | nil => simp [linesAux] at h; subst h; simp
  | cons c l ih =>
    rw [linesAux] at h
    split at h
    · rcases List.mem_cons.1 h with rfl | h
      · simp
      · have := ih [] h; simp at this ⊢; omega
    · have := ih _ h; simp at this ⊢; omega
theorem Below.keepsFrom {W W' : World} (B : Nat) (h : Below W.heap.size W W') : KeepsFrom B W W' := ⟨h.size, fun k _ _ hk _ => (h.block k (Array.getElem?_eq_some_iff.1 hk).1).trans hk⟩
theorem kp_below {W W' : World} {a b c : Nat} (h : Below W.heap.size W W') (ha : a < W.heap.size) (hb : b < W.heap.size) (hc : c < W.heap.size) : KpS a b c W W' := by
  intro k hk
  exact h.block k (by rcases hk with rfl | rfl | rfl <;> assumption)
theorem kp_set (W : World) {a b c : Nat} (p : Addr) (v : Value) (ha : a ≠ p.block) (hb : b ≠ p.block) (hc : c ≠ p.block) : KpS a b c W (W.setCell p v) := by
  intro k hk
  exact Below.heap_setCell W p v k (by rcases hk with rfl | rfl | rfl <;> assumption)
theorem KpS.trans {a b c : Nat} {X Y Z : World} (h : KpS a b c X Y) (k : KpS a b c Y Z) : KpS a b c X Z := fun b hb => (k b hb).trans (h b hb)
theorem Cells5.below {z : Nat} {W W' : World} {r0 cf : Array Value} {r1 r2 k : Value} (h : Cells5 z W r0 r1 r2 cf k) (hb : Below W.heap.size W W') : Cells5 z W' r0 r1 r2 cf k :=
  h.keep fun k _ _ _ _ hk => (hb.block k (Array.getElem?_eq_some_iff.1 hk).1).trans hk
/-- a round that passed a line over -/
theorem pi_skip {w W : World} {pre : List Str} {x : Str} {c : Cfg} {v1 v2 : Value} (hn : Hid (runM emptyC (pre ++ [x]) = some c))
    (h5 : Cells5 w.heap.size W zeroC (.int .i64 0) (.int .i64 0) #[v1, v2, .bool c.crit] (.int .i64 pre.length)) (hs1 : SFrom (w.heap.size + 8) W v1 c.cls) (hs2 : SFrom (w.heap.size + 8) W v2 c.att) (hB : Below w.heap.size w W) (hsz : w.heap.size + 8 ≤ W.heap.size) :
    PI w (pre ++ [x]) (W.setCell ⟨w.heap.size + 1 + 1 + 1 + 1, 0, none⟩ (.int .i64 ((pre.length : Int) + 1))) := by
  have e1 : ((pre.length : Int) + 1) = ((pre ++ [x]).length : Int) := by simp
  have hk : ∀ b o, w.heap.size + 8 ≤ b → (W.setCell ⟨w.heap.size + 1 + 1 + 1 + 1, 0, none⟩ (.int .i64 ((pre.length : Int) + 1))).cell? ⟨b, o, none⟩ = W.cell? ⟨b, o, none⟩ := fun b o h => cell_set_far _ _ _ _ _ (by show b ≠ w.heap.size + 1 + 1 + 1 + 1; omega)
  refine ⟨c, v1, v2, hn, ?_, hs1.keep hk, hs2.keep hk, hB.setCell (p := ⟨w.heap.size + 1 + 1 + 1 + 1, 0, none⟩) (by show w.heap.size ≤ w.heap.size + 1 + 1 + 1 + 1; omega) _, by simpa [World.setCell] using hsz⟩
  rw [← e1]
  exact h5.put4 _
/-- the world behind a line that was taken -/
def taken (z : Nat) (W : World) (x0 x1 x2 y : Value) : World := (((W.setCell ⟨z + 1 + 1 + 1, 0, none⟩ x0).setCell ⟨z + 1 + 1 + 1, 1, none⟩ x1).setCell ⟨z + 1 + 1 + 1, 2, none⟩ x2).setCell ⟨z + 1 + 1 + 1 + 1, 0, none⟩ y
theorem taken_fold (z : Nat) (W : World) (x0 x1 x2 y : Value) : (((W.setCell ⟨z + 1 + 1 + 1, 0, none⟩ x0).setCell ⟨z + 1 + 1 + 1, 1, none⟩ x1).setCell ⟨z + 1 + 1 + 1, 2, none⟩ x2).setCell ⟨z + 1 + 1 + 1 + 1, 0, none⟩ y = taken z W x0 x1 x2 y := rfl
theorem taken_others (z : Nat) (W : World) (x0 x1 x2 y : Value) : KeepsOthers W (taken z W x0 x1 x2 y) := by
  unfold taken
  have h1 := KeepsOthers.setCell W ⟨z + 1 + 1 + 1, 0, none⟩ x0
  have h2 := h1.trans (KeepsOthers.setCell _ ⟨z + 1 + 1 + 1, 1, none⟩ x1)
  have h3 := h2.trans (KeepsOthers.setCell _ ⟨z + 1 + 1 + 1, 2, none⟩ x2)
  exact h3.trans (KeepsOthers.setCell _ ⟨z + 1 + 1 + 1 + 1, 0, none⟩ y)
theorem taken_below {w W : World} {z : Nat} (hb : Below z w W) (x0 x1 x2 y : Value) : Below z w (taken z W x0 x1 x2 y) := by
  unfold taken
  have h1 := hb.setCell (p := ⟨z + 1 + 1 + 1, 0, none⟩) (by show z ≤ z + 1 + 1 + 1; omega) x0
  have h2 := h1.setCell (p := ⟨z + 1 + 1 + 1, 1, none⟩) (by show z ≤ z + 1 + 1 + 1; omega) x1
  have h3 := h2.setCell (p := ⟨z + 1 + 1 + 1, 2, none⟩) (by show z ≤ z + 1 + 1 + 1; omega) x2
  exact h3.setCell (p := ⟨z + 1 + 1 + 1 + 1, 0, none⟩) (by show z ≤ z + 1 + 1 + 1 + 1; omega) y
theorem taken_far (z : Nat) (W : World) (x0 x1 x2 y : Value) (b : Nat) (h : z + 5 ≤ b) : (taken z W x0 x1 x2 y).heap[b]? = W.heap[b]? := by
  unfold taken
  rw [Below.heap_setCell _ _ _ _ (by show b ≠ z + 1 + 1 + 1 + 1; omega), Below.heap_setCell _ _ _ _ (by show b ≠ z + 1 + 1 + 1; omega), Below.heap_setCell _ _ _ _ (by show b ≠ z + 1 + 1 + 1; omega), Below.heap_setCell _ _ _ _ (by show b ≠ z + 1 + 1 + 1; omega)]
theorem stored_far (z : Nat) (W : World) (x0 x1 x2 y e : Value) (b : Nat) (h : z + 3 ≤ b) : (stored z W x0 x1 x2 y e).heap[b]? = W.heap[b]? := by
  unfold stored
  rw [Below.heap_setCell _ _ _ _ (by show b ≠ z + 1 + 1; omega), Below.heap_setCell _ _ _ _ (by show b ≠ z + 1; omega), Below.heap_setCell _ _ _ _ (by show b ≠ z; omega), Below.heap_setCell _ _ _ _ (by show b ≠ z; omega), Below.heap_setCell _ _ _ _ (by show b ≠ z; omega)]
theorem Cells5.taken {z : Nat} {W : World} {r0 : Array Value} {r1 r2 k a0 a1 a2 : Value} (h : Cells5 z W r0 r1 r2 #[a0, a1, a2] k) (x0 x1 x2 y : Value) : Cells5 z (taken z W x0 x1 x2 y) r0 r1 r2 #[x0, x1, x2] y := by
  have h6 := ((((h.put3 0 x0).put3 1 x1).put3 2 x2).put4 y)
  rw [set3] at h6
  exact h6
theorem end_taken {w W W1 : World} {pre : List Str} {x : Str} {d : Cfg} {v1 v2 : Value} {cf : Array Value} {a0 a1 a2 k : Value} (o : Obj) (hcf : cf = #[a0, a1, a2]) (hn : Hid (runM emptyC (pre ++ [x]) = some d))
    (h5 : Cells5 w.heap.size W1 zeroC (.int .i64 0) (.int .i64 0) cf k) (hs1 : SFrom (w.heap.size + 8) W1 v1 d.cls) (hs2 : SFrom (w.heap.size + 8) W1 v2 d.att) (hB : Below w.heap.size w W) (hB1 : Below W.heap.size W W1) (hsz : w.heap.size + 8 ≤ W.heap.size) (y : Value) (hy : y = .int .i64 ((pre.length : Int) + 1)) :
    KeepsFrom (w.heap.size + 8) W ((taken w.heap.size W1 v1 v2 (.bool d.crit) y).alloc o) ∧ KpS (w.heap.size + 5) (w.heap.size + 6) (w.heap.size + 7) W ((taken w.heap.size W1 v1 v2 (.bool d.crit) y).alloc o) ∧ PI w (pre ++ [x]) ((taken w.heap.size W1 v1 v2 (.bool d.crit) y).alloc o) := by
  subst hcf
  have hs := hB1.size
  have hO := taken_others w.heap.size W1 v1 v2 (.bool d.crit) y
  have hA := below_alloc (taken w.heap.size W1 v1 v2 (.bool d.crit) y) o
  have hsT := hO.size
  have hC := h5.taken v1 v2 (.bool d.crit) y
  have hF := taken_far w.heap.size W1 v1 v2 (.bool d.crit) y
  have hbel := taken_below ((hB.trans (hB1.mono hB.size))) v1 v2 (.bool d.crit) y
  generalize taken w.heap.size W1 v1 v2 (.bool d.crit) y = T at *
  have hcell : ∀ b o', w.heap.size + 8 ≤ b → T.cell? ⟨b, o', none⟩ = W1.cell? ⟨b, o', none⟩ := fun b o' h => World.cell?_of_block (w := W1) (hF b (by omega))
  refine ⟨?_, ?_, ?_⟩
  · exact ((Below.keepsFrom _ hB1).trans (hO.from _)).trans (Below.keepsFrom _ hA)
  · intro b hb
    rw [Below.heap_alloc _ _ _ (by rcases hb with rfl | rfl | rfl <;> omega), hF b (by rcases hb with rfl | rfl | rfl <;> omega), hB1.block b (by rcases hb with rfl | rfl | rfl <;> omega)]
  · refine ⟨d, v1, v2, hn, ?_, (hs1.keep hcell).below hA, (hs2.keep hcell).below hA, hbel.trans (hA.mono (by omega)), by have := hA.size; omega⟩
    have e1 : y = .int .i64 ((pre ++ [x]).length : Int) := by rw [hy]; simp
    rw [← e1]
    exact hC.below hA
theorem end_failed {w W W1 : World} {pre : List Str} {x : Str} {c : Cfg} {cf : Array Value} {k r1 r2 : Value} (o : Obj) (hr : Hid (runM emptyC pre = some c)) (hn : Hid (runM emptyC (pre ++ [x]) = none))
    (h5 : Cells5 w.heap.size W1 zeroC r1 r2 cf k) (hB : Below w.heap.size w W) (hB1 : Below W.heap.size W W1) (hsz : w.heap.size + 8 ≤ W.heap.size) :
    KeepsFrom (w.heap.size + 8) W ((stored w.heap.size W1 (.slice none 0 0) (.slice none 0 0) (.bool false) (.int .i64 pre.length) (.int .i64 220)).alloc o).drew ∧ PX w .ret (pre ++ [x]) ((stored w.heap.size W1 (.slice none 0 0) (.slice none 0 0) (.bool false) (.int .i64 pre.length) (.int .i64 220)).alloc o).drew := by
  have hs := hB1.size
  have hO := stored_others w.heap.size W1 (.slice none 0 0) (.slice none 0 0) (.bool false) (.int .i64 pre.length) (.int .i64 220)
  have hC := Cells5.stored h5 (.slice none 0 0) (.slice none 0 0) (.bool false) (.int .i64 pre.length) (.int .i64 220)
  have hbel := stored_below ((hB.trans (hB1.mono hB.size))) (.slice none 0 0) (.slice none 0 0) (.bool false) (.int .i64 pre.length) (.int .i64 220)
  generalize stored w.heap.size W1 (.slice none 0 0) (.slice none 0 0) (.bool false) (.int .i64 pre.length) (.int .i64 220) = T at *
  have hA := below_alloc T o
  have hsT := hO.size
  refine ⟨?_, rfl, pre, x, cf, k, rfl, ?_, ?_, ?_⟩
  · exact (((Below.keepsFrom _ hB1).trans (hO.from _)).trans (Below.keepsFrom _ hA)).trans ((KeepsOthers.drew _).from _)
  · exact ⟨by rw [hr.out]; simp, hn.out⟩
  · exact (hC.below hA).drew
  · exact (hbel.trans (hA.mono (by omega))).drew
/-- what Parse answers, and where -/
def ParsePost (s : Str) (w : World) (e : Ending) (w' : World) : Prop :=
  ∃ v, e = .returned (.tuple #[v, .int .i64 (parseM s).2.1, .int .i64 (if (parseM s).2.2 then 0 else 220)]) ∧ CfgAt w' v (parseM s).1 ∧ Below w.heap.size w w'
set_option maxRecDepth 100000 in
set_option maxHeartbeats 4000000 in
theorem parse_in (n : Nat) (hn : 9 ≤ n) (s : ByteArray) (w : World) (hs : s.size ≤ 1000000) (hg : Glob w) :
    CallsIn Fence.wide n Tryd.prog 9 #[.string s] w (ParsePost s.data.toList w) := by
  refine callsIn_of_wp_marks Tryd.func9 rfl trivial ?_ rfl
  simp only [Tryd.ntmps9, List.size_toArray, List.length_cons, List.length_nil, Nat.reduceAdd, Nat.reduceSub, Array.replicate_succ, Array.replicate_zero, List.push_toArray, List.append_toArray, List.nil_append, List.cons_append]
  gi_wp2_with (refine ⟨trivial, fun _ => (by omega), ?_⟩; refine (callsIn_wide.2 (seq_any _ _)).mono ?_; rintro e w' ⟨rfl, rfl⟩)
  refine range_over (α := Str) rfl (fun _ => trivial) (by omega) (gf := 42) (lb := _) rfl (enters_of Tryd.func42 (by kernel_rfl) rfl) (encs := fun x : Str => #[.string (bs x)]) (fun _ => rfl)
    (WrS (w.heap.size + 5)) (KpS (w.heap.size + 5) (w.heap.size + 6) (w.heap.size + 7)) (S := fun xs => xs = linesM s.data.toList) (Sp := fun pre => pre <+: linesM s.data.toList) (G := fun pre x => ∃ rest, linesM s.data.toList = pre ++ x :: rest)
    (PI w) (PX w) ?own ?ownx ?start ?wi ?wx ?wb ?kt ?kb ?seq (fun x => { tmps := #[.string s, undef, .pointer (some ⟨w.heap.size, 0, none⟩), .pointer (some ⟨w.heap.size + 1, 0, none⟩), .pointer (some ⟨w.heap.size + 1 + 1, 0, none⟩), .pointer (some ⟨w.heap.size + 1 + 1 + 1, 0, none⟩), .pointer (some ⟨w.heap.size + 1 + 1 + 1 + 1, 0, none⟩), .string (bs x), undef, undef, .string s, .func (.func 42) #[] #[.pointer (some ⟨w.heap.size + 5 + 1, 0, none⟩), .pointer (some ⟨w.heap.size + 5, 0, none⟩), .pointer (some ⟨w.heap.size + 5 + 1 + 1, 0, none⟩)], .string (bs x), undef, undef, undef, undef, undef, undef, undef, undef, undef, undef, undef, undef, undef, undef, undef, undef, undef, undef, undef, undef, undef, undef], defers := [] }) ?assign ?body ?done ?stop
  case own => exact PI.own w _ (by simp; omega)
  case ownx => exact fun c => PX.own w c _ (by simp; omega)
  case start =>
    refine ⟨emptyC, _, _, rfl, ⟨?_, ?_, ?_, ?_, ?_⟩, sfrom_nil _ _, sfrom_nil _ _, ?_, by simp⟩
    · (simp only [heap_al, World.size_alloc]; repeat (first | rw [if_pos (by omega)] | rw [if_neg (by omega)]))
      rfl
    · (simp only [heap_al, World.size_alloc]; repeat (first | rw [if_pos (by omega)] | rw [if_neg (by omega)]))
      rfl
    · (simp only [heap_al, World.size_alloc]; repeat (first | rw [if_pos (by omega)] | rw [if_neg (by omega)]))
      rfl
    · (simp only [heap_al, World.size_alloc]; repeat (first | rw [if_pos (by omega)] | rw [if_neg (by omega)]))
      rfl
    · (simp only [heap_al, World.size_alloc]; repeat (first | rw [if_pos (by omega)] | rw [if_neg (by omega)]))
      rfl
    · repeat' (first | exact below_alloc _ _ | refine Below.alloc ?_ (by simp only [World.size_alloc]; omega) _)
  case wi =>
    rintro s A B h ⟨v, rfl⟩
    have hb : Below w.heap.size w A := by obtain ⟨c, v1, v2, h1, h2, h3, h4, h5, h6⟩ := h; exact h5
    exact h.keep (kept_set _ _ _) (hb.setCell (p := ⟨w.heap.size + 5, 0, none⟩) (Nat.le_add_right _ _) _) (by simp [World.setCell])
  case wx =>
    rintro c s A B h ⟨v, rfl⟩
    have hb : Below w.heap.size w A := by obtain ⟨hc, p, x, cf, k, h1, h2, h3, h4⟩ := h; exact h4
    exact h.keep (kept_set _ _ _) (hb.setCell (p := ⟨w.heap.size + 5, 0, none⟩) (Nat.le_add_right _ _) _)
  case wb =>
    rintro A B ⟨v, rfl⟩ k o hk ho
    exact (KeepsOthers.setCell A _ v).same k o hk ho
  case kt => exact fun h k b hb => (k b hb).trans (h b hb)
  case kb =>
    intro W l o hl b hb
    simp at hl
    exact World.putObj_heap_other (by rcases hb with rfl | rfl | rfl <;> omega)
  case seq =>
    refine split_iter (n - 1) (by omega) (w.heap.size + 5) (w.heap.size + 6) (w.heap.size + 7) s.data.toList _ (by rw [ba_len]; exact hs) ⟨?_, ?_, ?_⟩ (by omega) (by omega)
    · (simp only [heap_al, World.size_alloc]; repeat (first | rw [if_pos (by omega)] | rw [if_neg (by omega)]))
      rfl
    · (simp only [heap_al, World.size_alloc]; repeat (first | rw [if_pos (by omega)] | rw [if_neg (by omega)]))
      rfl
    · (simp only [heap_al, World.size_alloc]; repeat (first | rw [if_pos (by omega)] | rw [if_neg (by omega)]))
      rfl
  case assign =>
    intro l x W K hK
    gi_wp2
    exact hK
  case body =>
    rintro l pre x W ⟨c, v1, v2, hr, h5, hs1, hs2, hB, hsz⟩ ⟨rest, hrest⟩
    have hlen : pre.length < (linesM s.data.toList).length := by rw [hrest, List.length_append]; simp
    have hxl : x.length ≤ 1000000 := by
      have := linesAux_mem [] s.data.toList x (by show x ∈ linesM s.data.toList; rw [hrest]; simp)
      rw [ba_len] at this; simp at this; omega
    clear hrest
    have hll := linesAux_len [] s.data.toList
    rw [ba_len] at hll
    have hpl : (pre.length : Int) + 1 ≤ 1000002 := by have : pre.length < (linesAux [] s.data.toList).length := hlen; omega
    obtain ⟨p1, n1, k1, rfl⟩ := hs1.form
    obtain ⟨p2, n2, k2, rfl⟩ := hs2.form
    obtain ⟨⟨c00, c01, c02, c10, c20, c30, c31, c32, c40⟩, f0, f1, f2, f3, f4⟩ := Cells5.read h5
    have e1 : ((pre.length : Int) + 1) = ((pre ++ [x]).length : Int) := by simp
    by_cases hsk : skipB x = true
    · have hnext : runM emptyC (pre ++ [x]) = some c := by rw [runM_snoc, hr.out]; show stepM c x = _; rw [stepM, if_pos hsk]
      have HN := Lib.hid hnext
      clear hnext e1
      have hend := pi_skip HN h5 hs1 hs2 hB hsz
      have hkf : KeepsFrom (w.heap.size + 8) W (W.setCell ⟨w.heap.size + 1 + 1 + 1 + 1, 0, none⟩ (.int .i64 ((pre.length : Int) + 1))) := (KeepsOthers.setCell _ _ _).from _
      have hkp := kp_set W (a := w.heap.size + 5) (b := w.heap.size + 6) (c := w.heap.size + 7) ⟨w.heap.size + 1 + 1 + 1 + 1, 0, none⟩ (.int .i64 ((pre.length : Int) + 1)) (by show w.heap.size + 5 ≠ w.heap.size + 1 + 1 + 1 + 1; omega) (by show w.heap.size + 6 ≠ w.heap.size + 1 + 1 + 1 + 1; omega) (by show w.heap.size + 7 ≠ w.heap.size + 1 + 1 + 1 + 1; omega)
      have HE := Lib.hid (And.intro hkf (And.intro hkp hend))
      clear hend hkf hkp h5 hs1 hs2 hr HN
      cases x with
      | nil =>
        have hbt := bs_toList []
        gi_wp2
        exact ⟨kf_mono HE.out.1 (by simp), HE.out.2⟩
      | cons ch r =>
        have hbt := bs_toList (ch :: r)
        have hz : 0 < (bs (ch :: r)).size := by rw [bs_size]; simp
        have hc0 : (bs (ch :: r))[0] = ch := rfl
        have hch : ((ch.toNat : Int) != 35) = false := by
          have : ch = 35 := by simpa [skipB] using hsk
          rw [this]; rfl
        generalize bs (ch :: r) = sx at *
        gi_wp2
        exact ⟨kf_mono HE.out.1 (by simp), HE.out.2⟩
    · have hsk2 : skipB x = false := by simpa using hsk
      cases x with
      | nil => exact absurd rfl hsk
      | cons ch r =>
        have hbt := bs_toList (ch :: r)
        have hz : 0 < (bs (ch :: r)).size := by rw [bs_size]; simp
        have hc0 : (bs (ch :: r))[0] = ch := rfl
        have hch : ((ch.toNat : Int) != 35) = true := by
          have : ch ≠ 35 := by simpa [skipB] using hsk2
          rw [bne_iff_ne]
          intro e
          exact this (UInt8.toNat_inj.1 (by have e3 : (35 : UInt8).toNat = 35 := rfl; omega))
        have hstep : stepM c (ch :: r) = if (lineM c (ch :: r)).2 then some (lineM c (ch :: r)).1 else none := by rw [stepM, if_neg hsk]
        have hnext : runM emptyC (pre ++ [ch :: r]) = if (lineM c (ch :: r)).2 then some (lineM c (ch :: r)).1 else none := by rw [runM_snoc, hr.out]; exact hstep
        have h20 := runM_20 emptyC c _ ⟨Nat.zero_le _, Nat.zero_le _⟩ hr.out
        have HL := Lib.hid (line_any (.agg #[.slice p1 n1 k1, .slice p2 n2 k2, .bool c.crit]) c (bs (ch :: r)) W (w.heap.size + 8) hsz ⟨_, _, rfl, hs1, hs2, Nat.le_trans h20.1 (by omega), Nat.le_trans h20.2 (by omega)⟩ (by rw [bs_size]; exact hxl) (hg.below hB) (Nat.lt_of_le_of_lt h20.1 (by omega)) (Nat.lt_of_le_of_lt h20.2 (by omega)))
        rw [bs_data] at HL
        generalize bs (ch :: r) = sx at *
        generalize lineM c (ch :: r) = d at *
        have HN := Lib.hid hnext
        clear hnext hstep e1
        obtain ⟨d, ok⟩ := d
        dsimp only at HL HN
        gi_wp2_with fail
        refine ⟨trivial, fun _ => by omega, ?_⟩
        refine CallsIn.inRound l ((callsIn_wide.2 HL.out).mono ?_)
        rintro e W1 ⟨v, rfl, hd, hB1⟩
        obtain ⟨q1, q2, rfl, hq1, hq2, hlq1, hlq2⟩ := hd
        obtain ⟨a1, b1, c1, rfl⟩ := hq1.form
        obtain ⟨a2, b2, c2, rfl⟩ := hq2.form
        have hBs := hB1.size
        have h5b := h5.below hB1
        clear c00 c01 c02 c10 c20 c30 c31 c32 c40 f0 f1 f2 f3 f4
        obtain ⟨⟨c00, c01, c02, c10, c20, c30, c31, c32, c40⟩, f0, f1, f2, f3, f4⟩ := Cells5.read h5b
        have hmix : Tryd.prog.follows .mixedOrders = true := by kernel_rfl
        clear hll h20 hxl hsk hsk2 hch hc0 hz hbt HL hlen
        have h5' := Lib.hid h5b
        have hq1' := Lib.hid hq1
        have hq2' := Lib.hid hq2
        have hB1' := Lib.hid hB1
        have hB' := Lib.hid hB
        have hr' := hr
        clear h5b hq1 hq2 hB1 h5 hs1 hs2 hB
        have z0 : w.heap.size < W1.heap.size := by omega
        have z1 : w.heap.size + 1 < W1.heap.size := by omega
        have z2 : w.heap.size + 1 + 1 < W1.heap.size := by omega
        have z3 : w.heap.size + 1 + 1 + 1 < W1.heap.size := by omega
        have z4 : w.heap.size + 1 + 1 + 1 + 1 < W1.heap.size := by omega
        cases ok
        · gi_wp2_with fail
          gi_region_with_o (fail)
          all_goals gi_wp2
          all_goals rw [stored_fold]
          all_goals exact ⟨kf_mono (end_failed _ hr' HN h5'.out hB'.out hB1'.out hsz).1 (by simp), (end_failed _ hr' HN h5'.out hB'.out hB1'.out hsz).2⟩
        · gi_wp2
          rw [taken_fold]
          have HE := end_taken (.cells #[.slice a1 b1 c1, .slice a2 b2 c2, .bool d.crit] 26) rfl HN h5'.out hq1'.out hq2'.out hB'.out hB1'.out hsz _ rfl
          exact ⟨kf_mono HE.1 (by simp), HE.2⟩
  case done =>
    rintro D xs W hD rfl ⟨c, v1, v2, hr, h5, hs1, hs2, hB, hsz⟩ hdef
    obtain ⟨p1, n1, k1, rfl⟩ := hs1.form
    obtain ⟨p2, n2, k2, rfl⟩ := hs2.form
    obtain ⟨⟨c00, c01, c02, c10, c20, c30, c31, c32, c40⟩, f0, f1, f2, f3, f4⟩ := Cells5.read h5
    gi_wp2_with fail
    gi_region
    gi_wp2
    rw [stored_fold]
    have hdef2 := ((stored_others w.heap.size W (.slice p1 n1 k1) (.slice p2 n2 k2) (.bool c.crit) (.int .i64 (linesM s.data.toList).length) (.int .i64 0)).trans (KeepsOthers.drew _)).same D _ hdef rfl
    have h6 := (h5.stored (.slice p1 n1 k1) (.slice p2 n2 k2) (.bool c.crit) (.int .i64 (linesM s.data.toList).length) (.int .i64 0)).drew.keep (kept_taken _ hdef2)
    have hB2 := below_taken (stored_below hB (.slice p1 n1 k1) (.slice p2 n2 k2) (.bool c.crit) (.int .i64 (linesM s.data.toList).length) (.int .i64 0)).drew (show w.heap.size ≤ D by simp at hD; omega) (D := D)
    have hK : CellsKept (w.heap.size + 5) _ _ := kept_taken (w.heap.size + 5) hdef2
    have hs3 := (hs1.keep (fun b o h => stored_cells w.heap.size W (.slice p1 n1 k1) (.slice p2 n2 k2) (.bool c.crit) (.int .i64 (linesM s.data.toList).length) (.int .i64 0) b o (by omega))).kept hK (by omega)
    have hs4 := (hs2.keep (fun b o h => stored_cells w.heap.size W (.slice p1 n1 k1) (.slice p2 n2 k2) (.bool c.crit) (.int .i64 (linesM s.data.toList).length) (.int .i64 0) b o (by omega))).kept hK (by omega)
    refine ⟨by simp, .inl ⟨_, _, rfl, run_takeDeferred hdef2, ?_⟩⟩
    clear c00 c01 c02 c10 c20 c30 c31 c32 c40 f0 f1 f2 f3 f4 h5 hs1 hs2
    have h20 := runM_20 emptyC c _ ⟨Nat.zero_le _, Nat.zero_le _⟩ hr.out
    have hok : parseM s.data.toList = (c, (linesM s.data.toList).length, true) := by rw [parseM, hr.out]
    have HF := Lib.hid hok
    clear hok hr hdef2 hK
    generalize World.putObj _ D (.deferred none) = W2 at *
    obtain ⟨d00, d01, d02, d10, d20⟩ := Cells5.res h6
    refine ⟨.tuple #[.agg #[.slice p1 n1 k1, .slice p2 n2 k2, .bool c.crit], .int .i64 (linesM s.data.toList).length, .int .i64 0], by simp [results, Tryd.results9, go_sem, d00, d01, d02, d10, d20], ?_⟩
    rw [ParsePost, HF.out]
    exact ⟨_, rfl, ⟨_, _, rfl, hs3.to, hs4.to, Nat.le_trans h20.1 (by omega), Nat.le_trans h20.2 (by omega)⟩, hB2⟩
  case stop =>
    rintro D c pre W hD hpre ⟨rfl, p, x, cf, k, hx, hr, h5, hB⟩ hdef
    gi_wp2
    refine ⟨by simp, .inl ⟨_, _, rfl, run_takeDeferred hdef, ?_⟩⟩
    have h6 := h5.keep (kept_taken _ hdef)
    have hB2 := below_taken hB (show w.heap.size ≤ D by simp at hD; omega)
    have hfail : parseM s.data.toList = (emptyC, p.length, false) := by
      obtain ⟨q, hq⟩ := hpre
      subst hx
      have hn := runM_none_app emptyC _ q hr.out.2
      have hb := badAt_pre emptyC p q x hr.out.1 hr.out.2
      rw [hq] at hn hb
      rw [parseM, hn, hb]
    have HF := Lib.hid hfail
    clear hfail hr hpre
    generalize W.putObj D (.deferred none) = W2 at *
    obtain ⟨c00, c01, c02, c10, c20⟩ := Cells5.res h6
    refine ⟨.tuple #[.agg #[.slice none 0 0, .slice none 0 0, .bool false], .int .i64 p.length, .int .i64 220], by simp [results, Tryd.results9, go_sem, c00, c01, c02, c10, c20], ?_⟩
    rw [ParsePost, HF.out]
    exact ⟨_, rfl, ⟨_, _, rfl, .inl ⟨rfl, none, 0, rfl⟩, .inl ⟨rfl, none, 0, rfl⟩, Nat.zero_le _, Nat.zero_le _⟩, hB2⟩
theorem parse_any (s : ByteArray) (w : World) (hs : s.size ≤ 1000000) (hg : Glob w) :
    Calls Tryd.prog 9 #[.string s] w (ParsePost s.data.toList w) := callsIn_wide.1 (parse_in 9 (by omega) s w hs hg)
end Go.Proofs.YtfpegmeppgdklaaDoor
