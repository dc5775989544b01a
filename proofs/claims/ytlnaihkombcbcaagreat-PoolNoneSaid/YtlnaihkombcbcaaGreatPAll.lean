/-
  A range over a function whose rounds all go on; reading in blocks below a bound. Of no program.
  A range over a function whose rounds all go on, and whose iterator makes variables of its own: what is the caller's own is told block by block. Of no program.
-/
import Derived.Test.YtlnaihkombcbcaaGreatRange
import Derived.Test.YtlnaihkombcbcaaGreatPFew
noncomputable section
namespace Go.Proofs.YtlnaihkombcbcaaGreat
open Go.RowKit Go.Ev
mutual
theorem VR_keep {w w' : World} {I I' : Nat → Prop} (him : ∀ rb, I rb → I' rb) (hs : ∀ rb, I rb → w'.heap[rb]? = w.heap[rb]?) : ∀ (a : AV) {v : Value}, VR w ⟨fun _ => none, I⟩ a v → VR w' ⟨fun _ => none, I'⟩ a v
  | .any, _, _ => trivial
  | .g _, _, hv => hv
  | .ptr b o, _, ⟨rb, ro, h1, h2⟩ => by cases h1
  | .ept cs o, _, ⟨rb, ro, h1, h2⟩ => ⟨rb, ro, h1, RowR_keep him hs cs h2⟩
  | .sl n _ cs, _, ⟨a, cap, h1, hc, h2⟩ => ⟨a, cap, h1, hc, h2.imp id fun ⟨rb, ro, h3, h4⟩ => ⟨rb, ro, h3, RowR_keep him hs cs h4⟩⟩
  | .gs b o n sz k, _, ⟨rb, ro, o', cap, c, e, fr, h1, h2, h3, h4, h5, h6⟩ => by cases h1
  | .z0, _, hv => hv
  | .mp b, _, ⟨rb, h1, h2⟩ => by cases h1
  | .fn f x y, _, ⟨rx, ry, h1, h2, h3⟩ => ⟨rx, ry, h1, VRs_keep him hs x h2, VRs_keep him hs y h3⟩
  | .agg cs, _, ⟨rc, h1, h2⟩ => ⟨rc, h1, VRs_keep him hs cs h2⟩
  | .tup vs, _, ⟨rc, h1, h2⟩ => ⟨rc, h1, VRs_keep him hs vs h2⟩
  | .ifc t v, _, ⟨x, h1, h2⟩ => ⟨x, h1, VR_keep him hs v h2⟩
theorem VRs_keep {w w' : World} {I I' : Nat → Prop} (him : ∀ rb, I rb → I' rb) (hs : ∀ rb, I rb → w'.heap[rb]? = w.heap[rb]?) : ∀ (a : List AV) {v : List Value}, VRs w ⟨fun _ => none, I⟩ a v → VRs w' ⟨fun _ => none, I'⟩ a v
  | [], _, hv => hv
  | a :: la, _, ⟨v, vs, h1, h2, h3⟩ => ⟨v, vs, h1, VR_keep him hs a h2, VRs_keep him hs la h3⟩
theorem RowR_keep {w w' : World} {I I' : Nat → Prop} (him : ∀ rb, I rb → I' rb) (hs : ∀ rb, I rb → w'.heap[rb]? = w.heap[rb]?) {rb : Nat} : ∀ {o : Nat} (a : List AV), RowR w ⟨fun _ => none, I⟩ rb o a → RowR w' ⟨fun _ => none, I'⟩ rb o a
  | _, [], _ => trivial
  | _, a :: la, ⟨h1, ⟨v, h2, h3⟩, h4⟩ => ⟨him _ h1, ⟨v, by rw [World.cell?_of_block (w := w) (hs _ h1)]; exact h2, VR_keep him hs a h3⟩, RowR_keep him hs la h4⟩
end
/-- v stands for a, in blocks below z -/
def AtB (z : Nat) (w : World) (a : AV) (v : Value) : Prop := VR w ⟨fun _ => none, fun b => b < z⟩ a v
theorem At.toB {w : World} {a : AV} {v : Value} (h : At w a v) : AtB w.heap.size w a v := h
theorem AtB.below {z : Nat} {w w' : World} {a : AV} {v : Value} (h : AtB z w a v) (hb : Below z w w') : AtB z w' a v :=
  VR_keep (fun _ h => h) (fun rb hr => hb.block rb hr) a h
theorem AtB.toAt {z : Nat} {w : World} {a : AV} {v : Value} (h : AtB z w a v) (hz : z ≤ w.heap.size) : At w a v :=
  VR_keep (fun _ h => Nat.lt_of_lt_of_le h hz) (fun _ _ => rfl) a h
theorem AtB.mono {z z' : Nat} {w : World} {a : AV} {v : Value} (h : AtB z w a v) (hz : z ≤ z') : AtB z' w a v :=
  VR_keep (fun _ h => Nat.lt_of_lt_of_le h hz) (fun _ _ => rfl) a h
theorem AtB.sl_form {z n sz : Nat} {cs : List AV} {w : World} {v : Value} (h : AtB z w (.sl n sz cs) v) : ∃ ad cap, v = .slice ad n cap ∧ n ≤ cap := by
  obtain ⟨ad, cap, rfl, hc, -⟩ := h
  exact ⟨_, _, rfl, hc⟩
/-- a slice's cells, element by element, below z -/
theorem slB_cells {α : Type} (enc : α → List AV) (sz : Nat) (hsz : ∀ x, (enc x).length = sz) (hs0 : 0 < sz) {z : Nat} {w : World} {l : List α} {v : Value} (h : AtB z w (.sl l.length sz (l.flatMap enc)) v) :
    (l = [] ∧ ∃ ad cap, v = .slice ad 0 cap) ∨ ∃ b o cap, v = .slice (some ⟨b, o, none⟩) l.length cap ∧ l.length ≤ cap ∧ 0 < l.length ∧ b < z ∧
      ∀ k (hk : k < l.length) j a, (enc l[k])[j]? = some a → ∃ x, w.cell? ⟨b, o + (k * sz + j), none⟩ = some x ∧ AtB z w a x := by
  obtain ⟨ad, cap, rfl, hcap, h0⟩ := h
  by_cases hl : l = []
  · subst hl; exact .inl ⟨rfl, ad, cap, rfl⟩
  · have hpos : 0 < l.length := List.length_pos_iff.2 hl
    rcases h0 with h0 | ⟨rb, ro, rfl, hr⟩
    · omega
    · have hI : rb < z := by
        have h1 : (l.flatMap enc)[0 * sz + 0]? = (enc l[0])[0]? := flat_get enc sz hsz l 0 hpos 0 hs0
        have h2 : ∃ a, (enc l[0])[0]? = some a := ⟨(enc l[0])[0]'(by rw [hsz]; exact hs0), List.getElem?_eq_getElem _⟩
        obtain ⟨a, ha⟩ := h2
        rw [ha] at h1
        exact (RowR.get hr h1).1
      refine .inr ⟨rb, ro, cap, rfl, hcap, hpos, hI, fun k hk j a hj => ?_⟩
      have hjs : j < sz := by have := (List.getElem?_eq_some_iff.1 hj).1; rw [hsz] at this; exact this
      exact (RowR.get hr (by rw [flat_get enc sz hsz l k hk j hjs]; exact hj)).2
/-- the cells of a list's k-th value, below z -/
theorem vlB_cells {z : Nat} {w : World} {b o : Nat} {l : List Vl} (h : ∀ k (hk : k < l.length) j a, (encV l[k])[j]? = some a → ∃ x, w.cell? ⟨b, o + (k * 5 + j), none⟩ = some x ∧ AtB z w a x) {k : Nat} (hk : k < l.length) :
    w.cell? ⟨b, o + k * 5, none⟩ = some (.int .i64 l[k].kind) ∧ w.cell? ⟨b, o + k * 5 + 1, none⟩ = some (.int .i64 l[k].tk) ∧ w.cell? ⟨b, o + k * 5 + 2, none⟩ = some (.string l[k].text) ∧
      w.cell? ⟨b, o + k * 5 + 3, none⟩ = some (.int .i64 l[k].n) ∧
      ∃ ad cap, w.cell? ⟨b, o + k * 5 + 4, none⟩ = some (.slice ad l[k].l.length cap) ∧ AtB z w (.sl l[k].l.length 5 (l[k].l.flatMap encV)) (.slice ad l[k].l.length cap) := by
  have h9 := h k hk
  generalize l[k] = x at *
  obtain ⟨kd, tk, tx, n, ll⟩ := x
  rw [encV, encVs_flat] at h9
  obtain ⟨x0, e0, v0⟩ := h9 0 _ rfl
  obtain ⟨x1, e1, v1⟩ := h9 1 _ rfl
  obtain ⟨x2, e2, v2⟩ := h9 2 _ rfl
  obtain ⟨x3, e3, v3⟩ := h9 3 _ rfl
  obtain ⟨x4, e4, v4⟩ := h9 4 _ rfl
  obtain rfl : x0 = _ := v0
  obtain rfl : x1 = _ := v1
  obtain rfl : x2 = _ := v2
  obtain rfl : x3 = _ := v3
  have v4' := v4
  obtain ⟨ad, cap, rfl, -⟩ := AtB.sl_form v4
  simp only [Nat.add_zero, ← Nat.add_assoc] at e0 e1 e2 e3 e4
  exact ⟨e0, e1, e2, e3, ad, cap, e4, v4'⟩
theorem room_none {F : Fence} (hd : F.depth = none) (k : Nat) : F.room k := fun d h => by rw [hd] at h; cases h
theorem RoundIn_any {F : Fence} (hd : F.depth = none) {m m' : Nat} {P : Program} {l : Nat} {f : FuncId} {tmps : Array Value} {assign body : Code} {w : World} {R : Ending → World → Prop}
    (h : RoundIn F m P l f tmps assign body w R) : RoundIn F m' P l f tmps assign body w R := ⟨h.1, fun c cs _ => h.2 c cs (room_none hd _)⟩
theorem YieldAt_any {F : Fence} (hd : F.depth = none) {m : Nat} (m' : Nat) {P : Program} {l : Nat} {args : Array Value} {W : World} {R : Ending → World → Prop} (h : YieldAt F m P l args W R) : YieldAt F m' P l args W R := by
  obtain ⟨fn, tmps, assign, body, hy, hR⟩ := h
  exact ⟨fn, tmps, assign, body, hy, RoundIn_any hd hR⟩
theorem upon_yield {F : Fence} (hd : F.depth = none) {n : Nat} {P : Program} {o : Oper} {a : Act} {K : Act → World → Prop} {Q : Exit → Act → World → Prop} {l : Nat} {args : Array Value} {W : World} {S : World → Prop}
    (h : YieldAt F (n - 1) P l args W fun e W' => e = .returned (.bool true) ∧ S W') (hk : ∀ W', S W' → K (a.put o.dst (.bool true)) W') : Oper.uponIn F n P o a K Q ((Instr.yield l args).run P W) := by
  obtain ⟨fn, tmps, assign, body, hy, hR⟩ := h
  rw [hy]
  refine ⟨fun hs => absurd hs (by rw [hd]; simp), hR.mono ?_⟩
  rintro e W' ⟨rfl, hs⟩
  exact hk W' hs
end Go.Proofs.YtlnaihkombcbcaaGreat
end
noncomputable section
namespace Go.Proofs.YtlnaihkombcbcaaGreat
open Go.RowKit
/-- from A to B only own blocks turn -/
structure KO (Ow : World → Nat → Prop) (z : Nat) (A B : World) : Prop where
  same : ∀ k, k < A.heap.size → ¬ Ow A k → B.heap[k]? = A.heap[k]?
  own : ∀ k, k < A.heap.size → Ow B k → Ow A k
  lt : ∀ k, Ow B k → k < B.heap.size
  below : Below z A B
section
variable {Ow : World → Nat → Prop} {z : Nat}
theorem KO.refl {A : World} (h : ∀ k, Ow A k → k < A.heap.size) : KO Ow z A A := ⟨fun _ _ _ => rfl, fun _ _ h => h, h, Below.refl _ _⟩
theorem KO.trans {A B C : World} (h : KO Ow z A B) (k : KO Ow z B C) : KO Ow z A C :=
  ⟨fun i hi hn => (k.same i (Nat.lt_of_lt_of_le hi h.below.size) fun ho => hn (h.own i hi ho)).trans (h.same i hi hn), fun i hi ho => h.own i hi (k.own i (Nat.lt_of_lt_of_le hi h.below.size) ho), k.lt, h.below.trans k.below⟩
theorem KO.grow {A B : World} (hb : Below A.heap.size A B) (hz : z ≤ A.heap.size) (ha : ∀ k, Ow B k → Ow A k) (h : ∀ k, Ow A k → k < A.heap.size) : KO Ow z A B :=
  ⟨fun k hk _ => hb.block k hk, fun k _ ho => ha k ho, fun k ho => Nat.lt_of_lt_of_le (h k (ha k ho)) hb.size, hb.mono hz⟩
end
/-- An iterator's contract: all its values come; every round goes on. -/
def IterAll {α : Type} (P : Program) (g : Nat) (lb : Array Value) (encs : α → Array Value) (z N : Nat) (S : List α → Prop) (w : World) : Prop :=
  ∀ (n l : Nat) (Ow : World → Nat → Prop) (J : List α → World → Prop) (W : World), Below w.heap.size w W → (∀ k, Ow W k → k < W.heap.size) → (∀ s A B, J s A → Below A.heap.size A B → J s B) →
    (∀ A B k, W.heap.size ≤ A.heap.size → Below A.heap.size A B → Ow B k → Ow A k) →
    (∀ m pre x A, J pre A → pre.length < N → W.heap.size ≤ A.heap.size → YieldAt Fence.wide m P l (encs x) A fun e B => e = .returned (.bool true) ∧ J (pre ++ [x]) B ∧ KO Ow z A B) →
    J [] W → CallsIn Fence.wide n P g (#[.func (.yield l) #[] #[]] ++ lb) W fun e B => (∃ v, e = .returned v) ∧ ∃ xs, S xs ∧ J xs B ∧ KO Ow z W B
section
variable {n : Nat} {P : Program} {α : Type}
theorem range_all {g : Operand} {ps : Array Tmp} {assign body : Code} {Q : Exit → Act → World → Prop} {a : Act} {w : World}
    {gf : Nat} {lb : Array Value} (hg : a.eval g = .func (.func gf) #[] lb) (eg : ∀ args w, (callFunc gf args).run P w = .ok (.enter gf args) w)
    {encs : α → Array Value} (hps : ∀ x, (encs x).size = ps.size) {z N : Nat} {S : List α → Prop} (hzw : z ≤ w.heap.size)
    (I : List α → World → Prop) (Ow : World → Nat → Prop) (h0 : I [] w) (hIa : ∀ s A B, I s A → Below A.heap.size A B → I s B)
    (hIL : ∀ s A r r', I s A → A.heap[w.heap.size + 1]? = some (.loop r) → I s (A.putObj (w.heap.size + 1) (.loop r')))
    (hOw : ∀ k, Ow w k → k < w.heap.size) (hOa : ∀ A B k, w.heap.size ≤ A.heap.size → Below A.heap.size A B → Ow B k → Ow A k) (hOL : ∀ A r r' k, A.heap[w.heap.size + 1]? = some (.loop r) → (Ow (A.putObj (w.heap.size + 1) (.loop r')) k ↔ Ow A k))
    (hOD : ∀ s A, I s A → ¬ Ow A w.heap.size ∧ ¬ Ow A (w.heap.size + 1))
    (hseq : IterAll P gf lb encs z N S w) (a₁ : α → Act)
    (hassign : ∀ (l : Nat) (x : α) (W : World) (m : Nat) (K : Act → World → Prop), K (a₁ x) W →
      assign.wpIn (Fence.wide.inRound l) m P (Exit.then K (fun _ _ _ => False)) { tmps := (ps.zip (encs x)).foldl (fun t (p, v) => t.setIfInBounds p v) a.tmps, defers := [] } W)
    (hbody : ∀ (l : Nat) (pre : List α) (x : α) (W : World) (m : Nat), I pre W → pre.length < N → w.heap.size + 2 ≤ W.heap.size → body.wpIn (Fence.wide.inRound l) m P (fun e _ B => e = .normal ∧ I (pre ++ [x]) B ∧ KO Ow z W B) (a₁ x) W)
    (hdone : ∀ (D : Nat) (xs : List α) (W : World), w.heap.size ≤ D → S xs → I xs W → Below z w W → W.heap[D]? = some (.deferred (some [])) → Q .normal { a with defers := { target := .collected D, args := #[] } :: a.defers } W) :
    (Code.rangeFunc g ps assign body).wpIn Fence.wide n P Q a w := by
  refine wpIn_rangeFunc fun fn hfn => ?_
  rw [show Fence.wide.round = none from rfl]
  generalize hL : w.heap.size + 1 = L at *
  generalize hD : w.heap.size = D at *
  obtain ⟨mk, hmk⟩ : ∃ mk : LoopState → Option Code → Loop, mk = fun st pe => { state := st, pending := pe, fn, tmps := a.tmps, params := ps, assign, body, defers := D } := ⟨_, rfl⟩
  have e1 : ∀ pe st, (mk st pe).state = st := fun pe st => by rw [hmk]
  have e2 : ∀ pe st, (mk st pe).pending = pe := fun pe st => by rw [hmk]
  have e3 : ∀ pe st pe' st', { mk st pe with state := st', pending := pe' } = mk st' pe' := fun pe st pe' st' => by rw [hmk]
  have e4 : ∀ pe st st', { mk st pe with state := st' } = mk st' pe := fun pe st st' => by rw [hmk]
  have hne : D ≠ L := by omega
  let W1 := (w.alloc (.deferred (some []))).alloc (.loop (mk .ready none))
  have hbook : Book L D (mk .ready none) W1 := by
    refine ⟨?_, ?_⟩
    · have := World.alloc_heap_new (w.alloc (.deferred (some []))) (.loop (mk .ready none))
      rw [World.size_alloc, hD, hL] at this
      exact this
    · have := World.alloc_heap_new w (.deferred (some []))
      rw [hD] at this
      exact (Below.heap_alloc _ _ _ (by simp; omega)).trans this
  have hb1 : Below w.heap.size w W1 := ((Below.refl _ w).alloc (Nat.le_refl _) _).alloc (by simp) _
  have hI1 : I [] W1 := hIa _ _ _ h0 hb1
  have hs1 : W1.heap.size = D + 2 := by show ((w.alloc _).alloc _).heap.size = _; simp; omega
  have hOw1 : ∀ k, Ow W1 k → k < W1.heap.size := fun k hk => by have := hOw k (hOa _ _ _ (by omega) hb1 hk); omega
  refine ⟨L, [{ target := .collected D, args := #[] }], W1, { target := .fn (.func gf) lb, args := #[.func (.yield L) #[] #[]] }, W1, gf, #[.func (.yield L) #[] #[]] ++ lb, W1, ?_, ?_, fun f _ => trivial, ?_, fun h => (by cases h), ?_⟩
  · have := run_enterLoop_outer (P := P) (w := w) fn a.tmps ps assign body
    rw [hD, hL] at this
    rw [this]
    show _ = Result.ok _ ((w.alloc _).alloc (.loop (mk .ready none)))
    rw [hmk]
  · simp only [resolve, hg]; simp [go_sem]
  · simp [invoke, go_sem, eg]
  have hLsz : L < W1.heap.size := by omega
  refine (hseq (n - 1) L (fun W k => k = L ∨ Ow W k) (fun pre W => I pre W ∧ Book L D (mk .ready none) W) W1 hb1 (fun k hk => hk.elim (fun h => by omega) (hOw1 k))
    (fun s A B h hb => ⟨hIa _ _ _ h.1 hb, ⟨(hb.block _ (Array.getElem?_eq_some_iff.1 h.2.1).1).trans h.2.1, (hb.block _ (Array.getElem?_eq_some_iff.1 h.2.2).1).trans h.2.2⟩⟩)
    (fun A B k hs hb hk => hk.imp id (hOa _ _ _ (by omega) hb)) ?_ ⟨hI1, hbook⟩).mono ?_
  · rintro m pre x A ⟨hi, hbk⟩ hpN hsz
    have hy := run_yield (P := P) (args := encs x) hbk.1 (by rw [hmk]; exact hps x)
    refine ⟨fn, (ps.zip (encs x)).foldl (fun t (p, v) => t.setIfInBounds p v) a.tmps, assign, body, by rw [hy]; rw [hmk], roundIn_of_wpIn hfn (hassign L x A m _ ⟨_, run_beginRound hbk.1 (e1 _ _), ?_⟩)⟩
    rw [e4]
    have hbk2 : Book L D (mk .busy none) (A.putObj L (.loop (mk .busy none))) := hbk.put hne
    have hi2 : I pre (A.putObj L (.loop (mk .busy none))) := hIL _ _ _ _ hi hbk.1
    have hOL2 : ∀ k, Ow (A.putObj L (.loop (mk .busy none))) k ↔ Ow A k := fun k => hOL _ _ _ _ hbk.1
    have hsame2 : ∀ k, k ≠ L → (A.putObj L (.loop (mk .busy none))).heap[k]? = A.heap[k]? := fun k hk => World.putObj_heap_other hk
    have hsz2 : (A.putObj L (.loop (mk .busy none))).heap.size = A.heap.size := by simp
    have hos2 : (A.putObj L (.loop (mk .busy none))).os = A.os ∧ (A.putObj L (.loop (mk .busy none))).tape = A.tape ∧ (A.putObj L (.loop (mk .busy none))).output = A.output := ⟨rfl, rfl, rfl⟩
    generalize A.putObj L (.loop (mk .busy none)) = B at hbk2 hi2 hOL2 hsame2 hsz2 hos2
    refine wpIn_mono (hbody L pre x B m hi2 hpN (by omega)) ?_
    rintro e a3 C ⟨rfl, hi3, hk⟩
    obtain ⟨hnD, hnL⟩ := hOD _ _ hi2
    have hLB : L < B.heap.size := (Array.getElem?_eq_some_iff.1 hbk2.1).1
    have hDB : D < B.heap.size := (Array.getElem?_eq_some_iff.1 hbk2.2).1
    have hl : C.heap[L]? = some (.loop (mk .busy none)) := (hk.same L hLB hnL).trans hbk2.1
    have hr := run_endRound (P := P) none hl
    rw [e3] at hr
    have hbC : Book L D (mk .ready none) (C.putObj L (.loop (mk .ready none))) := Book.put (r := mk .busy none) ⟨hl, (hk.same D hDB hnD).trans hbk2.2⟩ hne
    refine ⟨_, _, hr, rfl, ⟨hIL _ _ _ _ hi3 hl, hbC⟩, ?_, ?_, ?_, ?_⟩
    · intro k hkA hn
      have hn1 : k ≠ L := fun h => hn (.inl h)
      have hn2 : ¬ Ow A k := fun h => hn (.inr h)
      rw [World.putObj_heap_other hn1, hk.same k (by omega) (fun h => hn2 ((hOL2 k).1 h)), hsame2 k hn1]
    · intro k hkA ho
      exact ho.imp id fun ho => (hOL2 k).1 (hk.own k (by omega) ((hOL _ _ _ _ hl).1 ho))
    · intro k ho
      have hs : (C.putObj L (.loop (mk .ready none))).heap.size = C.heap.size := by simp
      have hCB := hk.below.size
      show k < (C.putObj L (.loop (mk .ready none))).heap.size
      rcases ho with h | h
      · omega
      · have := hk.lt k ((hOL _ _ _ _ hl).1 h); omega
    · have hb := hk.below
      refine ⟨hb.os.trans hos2.1, hb.tape.trans hos2.2.1, hb.output.trans hos2.2.2, ?_, fun k hkz => ?_⟩
      · have hs : (C.putObj L (.loop (mk .ready none))).heap.size = C.heap.size := by simp
        have := hb.size
        show A.heap.size ≤ (C.putObj L (.loop (mk .ready none))).heap.size
        omega
      · have hkL : k ≠ L := by omega
        show (C.putObj L (.loop (mk .ready none))).heap[k]? = _
        rw [World.putObj_heap_other hkL, hb.block k hkz, hsame2 k hkL]
  · rintro e C ⟨⟨v, rfl⟩, xs, hS, ⟨hi, hb⟩, hKO⟩
    have hr := run_endLoop (P := P) hb.1 (by rw [e1]; simp)
    rw [e4, e2] at hr
    have hB2 : Below z w C := (hb1.mono (by omega)).trans hKO.below
    refine ⟨none, _, hr, hdone D xs _ (Nat.le_refl _) hS (hIL _ _ _ _ hi hb.1) ?_ ((World.putObj_heap_other hne).trans hb.2)⟩
    refine ⟨hB2.os, hB2.tape, hB2.output, ?_, fun k hkz => ?_⟩
    · have hs : (C.putObj L (.loop (mk .exhausted none))).heap.size = C.heap.size := by simp
      have := hB2.size
      omega
    · rw [World.putObj_heap_other (by omega)]
      exact hB2.block k hkz
end
end Go.Proofs.YtlnaihkombcbcaaGreat
end
