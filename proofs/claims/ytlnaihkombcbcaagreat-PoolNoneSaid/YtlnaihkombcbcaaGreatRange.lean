/-
  A range over a function whose iterator writes cells of its own between two rounds (a captured variable): the caller's invariant abides the iterator's steps 'Wr'. Of no program.
-/
import Derived.RangeFuncNested
import Derived.RangeFuncBound
import Derived.RangeFuncCalls
import Derived.RangeFuncLeaves
import Derived.Shelf.Abstract
import Derived.Shelf.RegionOpen
import Derived.WalkKit
import Derived.OwnWalkIn
import Derived.TacticsInMore
import Derived.LoopNIn
import Derived.LoopIn
namespace Go.Proofs.YtlnaihkombcbcaaGreat
open Go.RowKit
section
variable {F : Fence} {n : Nat} {P : Program} {α : Type}
/-- The iterator's contract: J and Jx abide its own steps Wr; each round keeps Kp; it ends when all have come, or a part has and a round said no. -/
def IterTo (F : Fence) (n : Nat) (P : Program) (g : Nat) (lb : Array Value) (encs : α → Array Value) (Wr Kp : World → World → Prop) (S Sp : List α → Prop) (G : List α → α → Prop) (w : World) : Prop :=
  ∀ (l : Nat) (J Jx : List α → World → Prop) (W : World), Below w.heap.size w W → (∀ s A B, J s A → Wr A B → J s B) → (∀ s A B, Jx s A → Wr A B → Jx s B) →
    (∀ pre x A, J pre A → G pre x → YieldAt F (n - 1) P l (encs x) A fun e B => (e = .returned (.bool true) ∧ J (pre ++ [x]) B ∧ Kp A B) ∨ (e = .returned (.bool false) ∧ Jx (pre ++ [x]) B)) →
    J [] W →
    CallsIn F n P g (#[.func (.yield l) #[] #[]] ++ lb) W fun e B => (∃ v, e = .returned v) ∧ ((∃ xs, S xs ∧ J xs B) ∨ (∃ pre, Sp pre ∧ Jx pre B))
/-- The two blocks that the statement lays: the loop's record at L, the rounds' deferred calls at D. -/
def Book (L D : Nat) (r : Loop) (W : World) : Prop := W.heap[L]? = some (.loop r) ∧ W.heap[D]? = some (.deferred (some []))
theorem Book.step {L D : Nat} {r : Loop} {A B : World} (h : Book L D r A) (hk : ∀ (k : Nat) (o : Obj), A.heap[k]? = some o → o.isCells = false → B.heap[k]? = some o) : Book L D r B :=
  ⟨hk _ _ h.1 rfl, hk _ _ h.2 rfl⟩
theorem Book.put {L D : Nat} {r r' : Loop} {A : World} (h : Book L D r A) (hne : D ≠ L) : Book L D r' (A.putObj L (.loop r')) :=
  ⟨World.putObj_heap_same (Array.getElem?_eq_some_iff.1 h.1).1, (World.putObj_heap_other hne).trans h.2⟩
theorem range_over {g : Operand} {ps : Array Tmp} {assign body : Code} {Q : Exit → Act → World → Prop} {a : Act} {w : World}
    (hro : F.round = none) (hF : ∀ f, F.fn f) (h1 : 1 ≤ n) {gf : Nat} {lb : Array Value} (hg : a.eval g = .func (.func gf) #[] lb) (eg : ∀ args w, (callFunc gf args).run P w = .ok (.enter gf args) w)
    {encs : α → Array Value} (hps : ∀ x, (encs x).size = ps.size) (Wr Kp : World → World → Prop) {S Sp : List α → Prop} {G : List α → α → Prop}
    (I : List α → World → Prop) (Ix : Code → List α → World → Prop) (hI : OwnFrom w.heap.size I) (hIx : ∀ c, OwnFrom w.heap.size (Ix c)) (h0 : I [] w)
    (hWI : ∀ s A B, I s A → Wr A B → I s B) (hWx : ∀ c s A B, Ix c s A → Wr A B → Ix c s B) (hWb : ∀ A B, Wr A B → ∀ (k : Nat) (o : Obj), A.heap[k]? = some o → o.isCells = false → B.heap[k]? = some o)
    (hKt : ∀ {A B C : World}, Kp A B → Kp B C → Kp A C) (hKb : ∀ (W : World) (l : Nat) (o : Obj), w.heap.size ≤ l → Kp W (W.putObj l o))
    (hseq : IterTo F (n - 1) P gf lb encs Wr Kp S Sp G w) (a₁ : α → Act)
    (hassign : ∀ (l : Nat) (x : α) (W : World) (K : Act → World → Prop), K (a₁ x) W →
      assign.wpIn (F.inRound l) (n - 1 - 1) P (Exit.then K (fun _ _ _ => False)) { tmps := (ps.zip (encs x)).foldl (fun t (p, v) => t.setIfInBounds p v) a.tmps, defers := [] } W)
    (hbody : ∀ (l : Nat) (pre : List α) (x : α) (W : World), I pre W → G pre x → body.wpIn (F.inRound l) (n - 1 - 1) P (ownPostG w.heap.size Kp I Ix (pre ++ [x]) W) (a₁ x) W)
    (hdone : ∀ (D : Nat) (xs : List α) (W : World), w.heap.size ≤ D → S xs → I xs W → W.heap[D]? = some (.deferred (some [])) → Q .normal { a with defers := { target := .collected D, args := #[] } :: a.defers } W)
    (hstop : ∀ (D : Nat) (c : Code) (pre : List α) (W : World), w.heap.size ≤ D → Sp pre → Ix c pre W → W.heap[D]? = some (.deferred (some [])) → c.wpIn F n P Q { a with defers := { target := .collected D, args := #[] } :: a.defers } W) :
    (Code.rangeFunc g ps assign body).wpIn F n P Q a w := by
  refine wpIn_rangeFunc fun fn hfn => ?_
  rw [hro]
  generalize hL : w.heap.size + 1 = L
  generalize hD : w.heap.size = D at *
  obtain ⟨mk, hmk⟩ : ∃ mk : LoopState → Option Code → Loop, mk = fun st pe => { state := st, pending := pe, fn, tmps := a.tmps, params := ps, assign, body, defers := D } := ⟨_, rfl⟩
  have e1 : ∀ pe st, (mk st pe).state = st := fun pe st => by rw [hmk]
  have e2 : ∀ pe st, (mk st pe).pending = pe := fun pe st => by rw [hmk]
  have e3 : ∀ pe st pe' st', { mk st pe with state := st', pending := pe' } = mk st' pe' := fun pe st pe' st' => by rw [hmk]
  have e4 : ∀ pe st st', { mk st pe with state := st' } = mk st' pe := fun pe st st' => by rw [hmk]
  have hne : D ≠ L := by omega
  let W1 := (w.alloc (.deferred (some []))).alloc (.loop (mk .ready none))
  have hbook : Book L D (mk .ready none) W1 := by
    refine ⟨?_, ?_⟩
    · have := World.alloc_heap_new (w.alloc (.deferred (some []))) (.loop (mk .ready none))
      rw [World.size_alloc, hD, hL] at this
      exact this
    · have := World.alloc_heap_new w (.deferred (some []))
      rw [hD] at this
      exact (Below.heap_alloc _ _ _ (by simp; omega)).trans this
  have hI1 : I [] W1 := hI.alloc _ (hI.alloc _ h0)
  have hb1 : Below w.heap.size w W1 := ((Below.refl _ w).alloc (Nat.le_refl _) _).alloc (by simp) _
  refine ⟨L, [{ target := .collected D, args := #[] }], W1, { target := .fn (.func gf) lb, args := #[.func (.yield L) #[] #[]] }, W1, gf, #[.func (.yield L) #[] #[]] ++ lb, W1, ?_, ?_, fun f _ => hF f, ?_, fun _ => h1, ?_⟩
  · have := run_enterLoop_outer (P := P) (w := w) fn a.tmps ps assign body
    rw [hD, hL] at this
    rw [this]
    show _ = Result.ok _ ((w.alloc _).alloc (.loop (mk .ready none)))
    rw [hmk]
  · simp only [resolve, hg]; simp [go_sem]
  · simp [invoke, go_sem, eg]
  refine (hseq L (fun pre W => I pre W ∧ Book L D (mk .ready none) W) (fun pre W => ∃ c, Ix c pre W ∧ Book L D (mk .done (some c)) W) W1 hb1
    (fun s A B h hw => ⟨hWI s A B h.1 hw, h.2.step (hWb A B hw)⟩) (fun s A B ⟨c, h, hk⟩ hw => ⟨c, hWx c s A B h hw, hk.step (hWb A B hw)⟩) ?_ ⟨hI1, hbook⟩).mono ?_
  · rintro pre x A ⟨hi, hbk⟩ hlen
    have hy := run_yield (P := P) (args := encs x) hbk.1 (by rw [hmk]; exact hps x)
    refine ⟨fn, (ps.zip (encs x)).foldl (fun t (p, v) => t.setIfInBounds p v) a.tmps, assign, body, by rw [hy]; rw [hmk], roundIn_of_wpIn hfn (hassign L x A _ ⟨_, run_beginRound hbk.1 (e1 _ _), ?_⟩)⟩
    rw [e4]
    have hbk2 : Book L D (mk .busy none) (A.putObj L (.loop (mk .busy none))) := hbk.put hne
    have hi2 : I pre (A.putObj L (.loop (mk .busy none))) := hI.putObj _ hi (by omega) hbk.1 rfl
    have hk2 : Kp A (A.putObj L (.loop (mk .busy none))) := hKb _ _ _ (by omega)
    generalize A.putObj L (.loop (mk .busy none)) = B at hbk2 hi2 hk2
    have fin : ∀ (j : Option Code) (C : World), KeepsFrom D B C → (Instr.endRound L j).run P C = .ok (.bool j.isNone) (C.putObj L (.loop (mk (if j.isNone then .ready else .done) j))) ∧ C.heap[L]? = some (.loop (mk .busy none)) ∧ Book L D (mk (if j.isNone then .ready else .done) j) (C.putObj L (.loop (mk (if j.isNone then .ready else .done) j))) := by
      intro j C hk
      have hl : C.heap[L]? = some (.loop (mk .busy none)) := hk.same _ _ (by omega) hbk2.1 rfl
      have hr := run_endRound (P := P) j hl
      rw [e3] at hr
      exact ⟨hr, hl, Book.put (r := mk .busy none) ⟨hl, hk.same _ _ (Nat.le_refl _) hbk2.2 rfl⟩ hne⟩
    refine wpIn_mono (hbody L pre x B hi2 hlen) ?_
    have leave : ∀ (c : Code) (C : World), KeepsFrom D B C ∧ Ix c (pre ++ [x]) C → ∃ v C', (Instr.endRound L (some c)).run P C = .ok v C' ∧
        (((Ending.returned v = .returned (.bool true) ∧ (I (pre ++ [x]) C' ∧ Book L D (mk .ready none) C') ∧ Kp A C')) ∨ (Ending.returned v = .returned (.bool false) ∧ ∃ c, Ix c (pre ++ [x]) C' ∧ Book L D (mk .done (some c)) C')) := by
      rintro c C ⟨hk, hx⟩
      obtain ⟨hr, hl, hb⟩ := fin (some c) C hk
      exact ⟨_, _, hr, .inr ⟨rfl, c, (hIx c).putObj _ hx (by omega) hl rfl, hb⟩⟩
    intro e a3 C hp
    cases e with
    | normal =>
      obtain ⟨hk, hkp, hi3⟩ := hp
      obtain ⟨hr, hl, hb⟩ := fin none C hk
      exact ⟨_, _, hr, .inl ⟨rfl, ⟨hI.putObj _ hi3 (by omega) hl rfl, hb⟩, hKt (hKt hk2 hkp) (hKb _ _ _ (by omega))⟩⟩
    | ret => exact leave .ret C hp
    | exit id => exact leave (.exit id) C hp
    | goto t => exact leave (.goto t) C hp
    | panic ch => exact hp.elim
    | outgrown => exact hp.elim
  · rintro e C ⟨⟨v, rfl⟩, (⟨xs, hS, hi, hb⟩ | ⟨pre, hSp, c, hx, hb⟩)⟩
    · have hr := run_endLoop (P := P) hb.1 (by rw [e1]; simp)
      rw [e4, e2] at hr
      exact ⟨none, _, hr, hdone D xs _ (Nat.le_refl _) hS (hI.putObj _ hi (by omega) hb.1 rfl) ((World.putObj_heap_other hne).trans hb.2)⟩
    · have hr := run_endLoop (P := P) hb.1 (by rw [e1]; simp)
      rw [e4, e2] at hr
      exact ⟨some c, _, hr, hstop D c pre _ (Nat.le_refl _) hSp ((hIx c).putObj _ hx (by omega) hb.1 rfl) ((World.putObj_heap_other hne).trans hb.2)⟩
end
theorem put_same {W : World} {b o : Nat} {cs : Array Value} {t : TypeId} {f : Nat × Nat} (v : Value) (h : W.heap[b]? = some (.cells cs t f)) : (W.setCell ⟨b, o, none⟩ v).heap[b]? = some (.cells (cs.setIfInBounds o v) t f) := by
  simp only [World.setCell, Array.getElem?_modify]
  rw [if_pos trivial, h]
  rfl
theorem put_far {W : World} {b c o : Nat} {x : Option Obj} (v : Value) (h : W.heap[c]? = x) (hne : c ≠ b) : (W.setCell ⟨b, o, none⟩ v).heap[c]? = x :=
  (Below.heap_setCell W ⟨b, o, none⟩ v c hne).trans h
theorem kf_mono {B C : Nat} {W W' : World} (h : KeepsFrom B W W') (hB : B ≤ C) : KeepsFrom C W W' := ⟨h.size, fun k o hk => h.same k o (Nat.le_trans hB hk)⟩
end Go.Proofs.YtlnaihkombcbcaaGreat
