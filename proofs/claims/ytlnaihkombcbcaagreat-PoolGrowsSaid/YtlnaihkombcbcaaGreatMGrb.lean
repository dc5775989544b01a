/-
  pool.user's sets as they lie in memory: (*set).add and (*set).has at them.
  (*user).decl.
  (*user).decl, walked.
  Sets of names that rise: putting and finding; what sheets use, as what follows by rules. Of no program but for its data.
  How much sheets of little use at most.
-/
import Derived.Test.YtlnaihkombcbcaaGreatMGra
import Derived.Test.YtlnaihkombcbcaaGreatPKnown
import Derived.Deep.RegionHeld3
import Derived.BigQuiet
import Derived.Deep.CutRange
noncomputable section
namespace Go.Proofs.YtlnaihkombcbcaaGreat
open Go.RowKit Go.Sort Go.Ev
/-- the three sets of pool.user -/
structure S3 where
  c : List Str
  f : List Str
  g : List Str
def UO (va vb vc : Value) : Obj := .cells #[va, vb, vc] 138
/-- blocks that one of three rows may have -/
def OwV (va vb vc : Value) (k : Nat) : Prop := va.ownBlock = some k ∨ vb.ownBlock = some k ∨ vc.ownBlock = some k
/-- pool.user's variable lies at Bu, its sets in rows of their own, none older than z -/
def UAt (z Bu : Nat) (s : S3) (W : World) : Prop :=
  ∃ va vb vc, W.heap[Bu]? = some (UO va vb vc) ∧ RowP W va s.c ∧ RowP W vb s.f ∧ RowP W vc s.g ∧ z ≤ Bu ∧ (∀ k, OwV va vb vc k → z ≤ k ∧ k ≠ Bu) ∧
    (∀ k, va.ownBlock = some k → vb.ownBlock ≠ some k ∧ vc.ownBlock ≠ some k) ∧ ∀ k, vb.ownBlock = some k → vc.ownBlock ≠ some k
/-- pool.user's own blocks -/
def OwU (Bu : Nat) (W : World) (k : Nat) : Prop := k = Bu ∨ ∃ va vb vc, W.heap[Bu]? = some (UO va vb vc) ∧ OwV va vb vc k
theorem UO_inj {va vb vc va' vb' vc' : Value} (h : UO va vb vc = UO va' vb' vc') : va = va' ∧ vb = vb' ∧ vc = vc' := by
  unfold UO at h
  simpa using h
theorem OwU_iff {Bu : Nat} {W : World} {va vb vc : Value} (h : W.heap[Bu]? = some (UO va vb vc)) (k : Nat) : OwU Bu W k ↔ k = Bu ∨ OwV va vb vc k := by
  refine or_congr Iff.rfl ⟨?_, fun h' => ⟨va, vb, vc, h, h'⟩⟩
  rintro ⟨a, b, c, h1, h2⟩
  rw [h] at h1
  obtain ⟨rfl, rfl, rfl⟩ := UO_inj (Option.some.inj h1)
  exact h2
theorem UAt.own {z Bu : Nat} {s : S3} {W : World} (h : UAt z Bu s W) {k : Nat} (hk : OwU Bu W k) : z ≤ k ∧ k < W.heap.size := by
  obtain ⟨va, vb, vc, h1, h2, h3, h4, h5, h6, -⟩ := h
  rcases (OwU_iff h1 k).1 hk with rfl | hk
  · exact ⟨h5, (Array.getElem?_eq_some_iff.1 h1).1⟩
  · exact ⟨(h6 k hk).1, hk.elim h2.lt fun hk => hk.elim h3.lt h4.lt⟩
theorem UAt.below {z Bu : Nat} {s : S3} {W W' : World} (h : UAt z Bu s W) (hb : Below W.heap.size W W') : UAt z Bu s W' := by
  obtain ⟨va, vb, vc, h1, h2, h3, h4, h5⟩ := h
  exact ⟨va, vb, vc, (hb.block _ (Array.getElem?_eq_some_iff.1 h1).1).trans h1, h2.keep fun b e => hb.block b (h2.lt e), h3.keep fun b e => hb.block b (h3.lt e), h4.keep fun b e => hb.block b (h4.lt e), h5⟩
theorem OwU_below {Bu : Nat} {W W' : World} (hB : Bu < W.heap.size) (hb : Below W.heap.size W W') (k : Nat) (h : OwU Bu W' k) : OwU Bu W k := by
  rcases h with h | ⟨a, b, c, h1, h2⟩
  · exact .inl h
  · exact .inr ⟨a, b, c, (hb.block _ hB).symm.trans h1, h2⟩
theorem UAt.lt {z Bu : Nat} {s : S3} {W : World} (h : UAt z Bu s W) : Bu < W.heap.size := by
  obtain ⟨va, vb, vc, h1, -⟩ := h
  exact (Array.getElem?_eq_some_iff.1 h1).1
/-- memory that grows without a turn of what there was -/
theorem UAt.ko {z Bu : Nat} {s : S3} {W W' : World} (h : UAt z Bu s W) (hb : Below W.heap.size W W') (hz : z ≤ W.heap.size) : KO (OwU Bu) z W W' :=
  KO.grow hb hz (fun k hk => OwU_below h.lt hb k hk) fun _ hk => (h.own hk).2
theorem SameW.below {w w' : World} (h : SameW w w') (z : Nat) : Below z w w' := ⟨h.os, h.tape, h.output, by rw [h.heap]; exact Nat.le_refl _, fun k _ => by rw [h.heap]⟩
theorem searchN_any {w : World} {v : Value} {ss : List Str} (h : RowP w v ss) (x : ByteArray) (hl : ss.length ≤ 1000000) :
    Calls Tryz.prog 210 #[v, .string x] w fun e w' => e = .returned (.tuple #[.int .i64 (posM ss (sOf x) : Nat), .bool (hasM ss (sOf x))]) ∧ ∃ m, w' = w.drewN m := by
  rcases h with ⟨rfl, rfl⟩ | ⟨b, o, cap, c, e, fr, rfl, h1, h2, h3, h4, h5, h6, h7⟩
  · refine (Any2.slices_BinarySearch_string_empty lays26 none 0 x w).mono ?_
    rintro e w' ⟨rfl, rfl⟩
    exact ⟨rfl, 0, rfl⟩
  · refine (Any2.slices_BinarySearch_string lays26 b o ss.length cap (fun t => bs (ss.getD t [])) x w (by omega) (fun j hj => ?_)).mono ?_
    · rw [cell_of h4, h7 j hj]
      simp [hj]
      rfl
    · rintro e w' ⟨rfl, q, rfl⟩
      refine ⟨?_, q, rfl⟩
      have hx : x.toList = sOf x := ByteArray.toList_eq _
      have hp : Lib.bsGo (fun t => Op.bytesLess (bs (ss.getD t [])).toList x.toList) ss.length 0 ss.length = posM ss (sOf x) := by
        rw [posM, hx]
        congr 1
        funext t
        rw [bs_toList]
      rw [hp]
      have hb : ∀ y : Str, (bs y = x) ↔ (y = sOf x) := fun y => ⟨fun h => by rw [← h]; rfl, fun h => by rw [h]; rfl⟩
      simp only [hb]
      rfl
theorem keep_row {w w' : World} {Bu so : Nat} {v0 v' u : Value} {ss : List Str} (h : AddFr w w' Bu so v0 v') (hr : RowP w u ss) (h1 : ∀ k, u.ownBlock = some k → k ≠ Bu ∧ v0.ownBlock ≠ some k) : RowP w' u ss :=
  hr.keep fun b e => h.other b (hr.lt e) (h1 b e).1 (h1 b e).2
/-- names in a row of their own, newer than the sets -/
theorem names_own {W : World} {B Bu : Nat} {v0 nv : Value} {xs : List ByteArray} (h : W.ownsRow B 9 1 nv xs.length (xs.map Value.string)) (hBu : Bu < B) (h0 : ∀ k, v0.ownBlock = some k → k < B) : NamesAt W Bu v0 nv xs := by
  rcases h.2 with ⟨rfl, hl⟩ | ⟨g, cap, cur, rfl, hg, hh, hc, -, -, ht⟩
  · exact .inl ⟨List.eq_nil_of_length_eq_zero hl, _, _, rfl⟩
  · by_cases hx : xs = []
    · subst hx
      exact .inl ⟨rfl, _, _, rfl⟩
    · refine .inr ⟨g, 0, cap, rfl, List.length_pos_iff.2 hx, (Array.getElem?_eq_some_iff.1 hh).1, by omega, fun e => by have := h0 g e; omega, fun j hj => ?_⟩
      rw [Nat.zero_add, Lib.cell_of_heap hh]
      have h9 : (xs.map Value.string)[j]? = some (.string xs[j]) := by simp [hj]
      rw [← ht, List.getElem?_take, if_pos (by omega)] at h9
      simpa using h9
theorem add_c (z Bu B : Nat) (s : S3) (nv : Value) (xs : List ByteArray) (W : World) (hU : UAt z Bu s W) (hown : W.ownsRow B 9 1 nv xs.length (xs.map Value.string)) (hfr : ∀ k, OwU Bu W k → k < B) (hl : s.c.length + xs.length ≤ 1000000) :
    Calls Tryz.prog 149 #[.pointer (some ⟨Bu, 0, none⟩), nv] W fun e W' => e = .returned (.bool (decide (s.c.length < (addM s.c (xs.map sOf)).length))) ∧ UAt z Bu { s with c := addM s.c (xs.map sOf) } W' ∧ KO (OwU Bu) z W W' := by
  obtain ⟨va, vb, vc, h1, h2, h3, h4, h5, h6, h7, h8⟩ := hU
  have hO := OwU_iff h1
  have hBu := (Array.getElem?_eq_some_iff.1 h1).1
  have hne : ∀ k, va.ownBlock = some k → k ≠ Bu := fun k hk => (h6 k (by first | exact .inl hk | exact .inr (.inl hk) | exact .inr (.inr hk))).2
  have hlt : ∀ k, va.ownBlock = some k → k < B := fun k hk => hfr k ((hO k).2 (.inr (by first | exact .inl hk | exact .inr (.inl hk) | exact .inr (.inr hk))))
  have hsz : ∀ k, OwV va vb vc k → k < W.heap.size := fun k hk => hk.elim h2.lt fun hk => hk.elim h3.lt h4.lt
  refine (add_any Bu 0 va nv s.c xs W _ _ _ h1 (by rw [Lib.cell_of_heap h1]; rfl) (Lib.frozen_of_heap h1 _) h2 (fun e => hne Bu e rfl) (names_own hown (hfr Bu (.inl rfl)) hlt) hl).mono ?_
  rintro e W' ⟨v', rfl, hc, hr, hf⟩
  have hb : W'.heap[Bu]? = some (UO v' vb vc) := hf.box _ _ _ h1
  have hO' := OwU_iff hb
  have hoth : ∀ k, OwV v' vb vc k → v'.ownBlock = some k ∨ OwV va vb vc k := by
    rintro k (h | h | h) <;> first | exact .inl h | exact .inr (.inl h) | exact .inr (.inr (.inl h)) | exact .inr (.inr (.inr h))
  have hnew : ∀ k, v'.ownBlock = some k → va.ownBlock = some k ∨ W.heap.size ≤ k := fun k hk => by
    rcases hf.own with e | ⟨b, e, hb⟩
    · exact .inl (e ▸ hk)
    · rw [e] at hk; cases hk; exact .inr hb
  have hz : z ≤ W.heap.size := Nat.le_trans h5 (Nat.le_of_lt hBu)
  have r_vb : RowP W' vb s.f := keep_row hf h3 fun k hk => ⟨(h6 k (.inr (.inl hk))).2, fun e => (h7 k e).1 hk⟩
  have r_vc : RowP W' vc s.g := keep_row hf h4 fun k hk => ⟨(h6 k (.inr (.inr hk))).2, fun e => (h7 k e).2 hk⟩
  refine ⟨rfl, ⟨v', vb, vc, hb, hr, r_vb, r_vc, h5, ?_, ?_, ?_⟩, ?_, ?_, ?_, ?_⟩
  · intro k hk
    rcases hoth k hk with hk | hk
    · rcases hnew k hk with hk | hk
      · exact h6 k (by first | exact .inl hk | exact .inr (.inl hk) | exact .inr (.inr hk))
      · exact ⟨by omega, by omega⟩
    · exact h6 k hk
  · exact fun k hk => ⟨fun e => (hnew k hk).elim (fun hk2 => (h7 k hk2).1 e) fun hk2 => by have := h3.lt e; omega, fun e => (hnew k hk).elim (fun hk2 => (h7 k hk2).2 e) fun hk2 => by have := h4.lt e; omega⟩
  · exact fun k hk => fun e => h8 k hk e
  · intro k hk hn
    have hn' : ¬ (k = Bu ∨ OwV va vb vc k) := fun h => hn ((hO k).2 h)
    exact hf.other k hk (fun e => hn' (.inl e)) fun e => hn' (.inr (by first | exact .inl e | exact .inr (.inl e) | exact .inr (.inr e)))
  · intro k hk ho
    refine (hO k).2 ?_
    rcases (hO' k).1 ho with h | h
    · exact .inl h
    · rcases hoth k h with h | h
      · rcases hnew k h with h | h
        · exact .inr (by first | exact .inl h | exact .inr (.inl h) | exact .inr (.inr h))
        · omega
      · exact .inr h
  · intro k ho
    rcases (hO' k).1 ho with h | h
    · have := hf.size; omega
    · rcases hoth k h with h | h
      · exact hr.lt h
      · have := hsz k h; have := hf.size; omega
  · refine ⟨hf.os, hf.tape, hf.output, hf.size, fun k hk => hf.other k (by omega) (by omega) fun e => ?_⟩
    have := (h6 k (by first | exact .inl e | exact .inr (.inl e) | exact .inr (.inr e))).1
    omega
theorem has_c (z Bu : Nat) (s : S3) (x : ByteArray) (W : World) (hU : UAt z Bu s W) (hl : s.c.length ≤ 1000000) :
    Calls Tryz.prog 148 #[.pointer (some ⟨Bu, 0, none⟩), .string x] W fun e W' => e = .returned (.bool (hasM s.c (sOf x))) ∧ ∃ m, W' = W.drewN m := by
  obtain ⟨va, vb, vc, h1, h2, h3, h4, -⟩ := hU
  have hc : W.cell? ⟨Bu, 0, none⟩ = some va := by rw [Lib.cell_of_heap h1]; rfl
  have H := Lib.hid (searchN_any h2 x hl)
  obtain ⟨a, c, rfl⟩ := h2.form
  clear h1 h2 h3 h4
  go_enter Tryz.func148, Tryz.ntmps148
  go_wp2_with fail
  refine H.out.mono ?_
  rintro e W' ⟨rfl, hs⟩
  go_wp2
  go_ret
  exact ⟨rfl, hs⟩
theorem add_f (z Bu B : Nat) (s : S3) (nv : Value) (xs : List ByteArray) (W : World) (hU : UAt z Bu s W) (hown : W.ownsRow B 9 1 nv xs.length (xs.map Value.string)) (hfr : ∀ k, OwU Bu W k → k < B) (hl : s.f.length + xs.length ≤ 1000000) :
    Calls Tryz.prog 149 #[.pointer (some ⟨Bu, 1, none⟩), nv] W fun e W' => e = .returned (.bool (decide (s.f.length < (addM s.f (xs.map sOf)).length))) ∧ UAt z Bu { s with f := addM s.f (xs.map sOf) } W' ∧ KO (OwU Bu) z W W' := by
  obtain ⟨va, vb, vc, h1, h2, h3, h4, h5, h6, h7, h8⟩ := hU
  have hO := OwU_iff h1
  have hBu := (Array.getElem?_eq_some_iff.1 h1).1
  have hne : ∀ k, vb.ownBlock = some k → k ≠ Bu := fun k hk => (h6 k (by first | exact .inl hk | exact .inr (.inl hk) | exact .inr (.inr hk))).2
  have hlt : ∀ k, vb.ownBlock = some k → k < B := fun k hk => hfr k ((hO k).2 (.inr (by first | exact .inl hk | exact .inr (.inl hk) | exact .inr (.inr hk))))
  have hsz : ∀ k, OwV va vb vc k → k < W.heap.size := fun k hk => hk.elim h2.lt fun hk => hk.elim h3.lt h4.lt
  refine (add_any Bu 1 vb nv s.f xs W _ _ _ h1 (by rw [Lib.cell_of_heap h1]; rfl) (Lib.frozen_of_heap h1 _) h3 (fun e => hne Bu e rfl) (names_own hown (hfr Bu (.inl rfl)) hlt) hl).mono ?_
  rintro e W' ⟨v', rfl, hc, hr, hf⟩
  have hb : W'.heap[Bu]? = some (UO va v' vc) := hf.box _ _ _ h1
  have hO' := OwU_iff hb
  have hoth : ∀ k, OwV va v' vc k → v'.ownBlock = some k ∨ OwV va vb vc k := by
    rintro k (h | h | h) <;> first | exact .inl h | exact .inr (.inl h) | exact .inr (.inr (.inl h)) | exact .inr (.inr (.inr h))
  have hnew : ∀ k, v'.ownBlock = some k → vb.ownBlock = some k ∨ W.heap.size ≤ k := fun k hk => by
    rcases hf.own with e | ⟨b, e, hb⟩
    · exact .inl (e ▸ hk)
    · rw [e] at hk; cases hk; exact .inr hb
  have hz : z ≤ W.heap.size := Nat.le_trans h5 (Nat.le_of_lt hBu)
  have r_va : RowP W' va s.c := keep_row hf h2 fun k hk => ⟨(h6 k (.inl hk)).2, fun e => (h7 k hk).1 e⟩
  have r_vc : RowP W' vc s.g := keep_row hf h4 fun k hk => ⟨(h6 k (.inr (.inr hk))).2, fun e => h8 k e hk⟩
  refine ⟨rfl, ⟨va, v', vc, hb, r_va, hr, r_vc, h5, ?_, ?_, ?_⟩, ?_, ?_, ?_, ?_⟩
  · intro k hk
    rcases hoth k hk with hk | hk
    · rcases hnew k hk with hk | hk
      · exact h6 k (by first | exact .inl hk | exact .inr (.inl hk) | exact .inr (.inr hk))
      · exact ⟨by omega, by omega⟩
    · exact h6 k hk
  · exact fun k hk => ⟨fun e => (hnew k e).elim (fun e2 => (h7 k hk).1 e2) fun e2 => by have := h2.lt hk; omega, fun e => (h7 k hk).2 e⟩
  · exact fun k hk => fun e => (hnew k hk).elim (fun hk2 => h8 k hk2 e) fun hk2 => by have := h4.lt e; omega
  · intro k hk hn
    have hn' : ¬ (k = Bu ∨ OwV va vb vc k) := fun h => hn ((hO k).2 h)
    exact hf.other k hk (fun e => hn' (.inl e)) fun e => hn' (.inr (by first | exact .inl e | exact .inr (.inl e) | exact .inr (.inr e)))
  · intro k hk ho
    refine (hO k).2 ?_
    rcases (hO' k).1 ho with h | h
    · exact .inl h
    · rcases hoth k h with h | h
      · rcases hnew k h with h | h
        · exact .inr (by first | exact .inl h | exact .inr (.inl h) | exact .inr (.inr h))
        · omega
      · exact .inr h
  · intro k ho
    rcases (hO' k).1 ho with h | h
    · have := hf.size; omega
    · rcases hoth k h with h | h
      · exact hr.lt h
      · have := hsz k h; have := hf.size; omega
  · refine ⟨hf.os, hf.tape, hf.output, hf.size, fun k hk => hf.other k (by omega) (by omega) fun e => ?_⟩
    have := (h6 k (by first | exact .inl e | exact .inr (.inl e) | exact .inr (.inr e))).1
    omega
theorem has_f (z Bu : Nat) (s : S3) (x : ByteArray) (W : World) (hU : UAt z Bu s W) (hl : s.f.length ≤ 1000000) :
    Calls Tryz.prog 148 #[.pointer (some ⟨Bu, 1, none⟩), .string x] W fun e W' => e = .returned (.bool (hasM s.f (sOf x))) ∧ ∃ m, W' = W.drewN m := by
  obtain ⟨va, vb, vc, h1, h2, h3, h4, -⟩ := hU
  have hc : W.cell? ⟨Bu, 1, none⟩ = some vb := by rw [Lib.cell_of_heap h1]; rfl
  have H := Lib.hid (searchN_any h3 x hl)
  obtain ⟨a, c, rfl⟩ := h3.form
  clear h1 h2 h3 h4
  go_enter Tryz.func148, Tryz.ntmps148
  go_wp2_with fail
  refine H.out.mono ?_
  rintro e W' ⟨rfl, hs⟩
  go_wp2
  go_ret
  exact ⟨rfl, hs⟩
theorem add_g (z Bu B : Nat) (s : S3) (nv : Value) (xs : List ByteArray) (W : World) (hU : UAt z Bu s W) (hown : W.ownsRow B 9 1 nv xs.length (xs.map Value.string)) (hfr : ∀ k, OwU Bu W k → k < B) (hl : s.g.length + xs.length ≤ 1000000) :
    Calls Tryz.prog 149 #[.pointer (some ⟨Bu, 2, none⟩), nv] W fun e W' => e = .returned (.bool (decide (s.g.length < (addM s.g (xs.map sOf)).length))) ∧ UAt z Bu { s with g := addM s.g (xs.map sOf) } W' ∧ KO (OwU Bu) z W W' := by
  obtain ⟨va, vb, vc, h1, h2, h3, h4, h5, h6, h7, h8⟩ := hU
  have hO := OwU_iff h1
  have hBu := (Array.getElem?_eq_some_iff.1 h1).1
  have hne : ∀ k, vc.ownBlock = some k → k ≠ Bu := fun k hk => (h6 k (by first | exact .inl hk | exact .inr (.inl hk) | exact .inr (.inr hk))).2
  have hlt : ∀ k, vc.ownBlock = some k → k < B := fun k hk => hfr k ((hO k).2 (.inr (by first | exact .inl hk | exact .inr (.inl hk) | exact .inr (.inr hk))))
  have hsz : ∀ k, OwV va vb vc k → k < W.heap.size := fun k hk => hk.elim h2.lt fun hk => hk.elim h3.lt h4.lt
  refine (add_any Bu 2 vc nv s.g xs W _ _ _ h1 (by rw [Lib.cell_of_heap h1]; rfl) (Lib.frozen_of_heap h1 _) h4 (fun e => hne Bu e rfl) (names_own hown (hfr Bu (.inl rfl)) hlt) hl).mono ?_
  rintro e W' ⟨v', rfl, hc, hr, hf⟩
  have hb : W'.heap[Bu]? = some (UO va vb v') := hf.box _ _ _ h1
  have hO' := OwU_iff hb
  have hoth : ∀ k, OwV va vb v' k → v'.ownBlock = some k ∨ OwV va vb vc k := by
    rintro k (h | h | h) <;> first | exact .inl h | exact .inr (.inl h) | exact .inr (.inr (.inl h)) | exact .inr (.inr (.inr h))
  have hnew : ∀ k, v'.ownBlock = some k → vc.ownBlock = some k ∨ W.heap.size ≤ k := fun k hk => by
    rcases hf.own with e | ⟨b, e, hb⟩
    · exact .inl (e ▸ hk)
    · rw [e] at hk; cases hk; exact .inr hb
  have hz : z ≤ W.heap.size := Nat.le_trans h5 (Nat.le_of_lt hBu)
  have r_va : RowP W' va s.c := keep_row hf h2 fun k hk => ⟨(h6 k (.inl hk)).2, fun e => (h7 k hk).2 e⟩
  have r_vb : RowP W' vb s.f := keep_row hf h3 fun k hk => ⟨(h6 k (.inr (.inl hk))).2, fun e => h8 k hk e⟩
  refine ⟨rfl, ⟨va, vb, v', hb, r_va, r_vb, hr, h5, ?_, ?_, ?_⟩, ?_, ?_, ?_, ?_⟩
  · intro k hk
    rcases hoth k hk with hk | hk
    · rcases hnew k hk with hk | hk
      · exact h6 k (by first | exact .inl hk | exact .inr (.inl hk) | exact .inr (.inr hk))
      · exact ⟨by omega, by omega⟩
    · exact h6 k hk
  · exact fun k hk => ⟨fun e => (h7 k hk).1 e, fun e => (hnew k e).elim (fun e2 => (h7 k hk).2 e2) fun e2 => by have := h2.lt hk; omega⟩
  · exact fun k hk => fun e => (hnew k e).elim (fun e2 => h8 k hk e2) fun e2 => by have := h3.lt hk; omega
  · intro k hk hn
    have hn' : ¬ (k = Bu ∨ OwV va vb vc k) := fun h => hn ((hO k).2 h)
    exact hf.other k hk (fun e => hn' (.inl e)) fun e => hn' (.inr (by first | exact .inl e | exact .inr (.inl e) | exact .inr (.inr e)))
  · intro k hk ho
    refine (hO k).2 ?_
    rcases (hO' k).1 ho with h | h
    · exact .inl h
    · rcases hoth k h with h | h
      · rcases hnew k h with h | h
        · exact .inr (by first | exact .inl h | exact .inr (.inl h) | exact .inr (.inr h))
        · omega
      · exact .inr h
  · intro k ho
    rcases (hO' k).1 ho with h | h
    · have := hf.size; omega
    · rcases hoth k h with h | h
      · exact hr.lt h
      · have := hsz k h; have := hf.size; omega
  · refine ⟨hf.os, hf.tape, hf.output, hf.size, fun k hk => hf.other k (by omega) (by omega) fun e => ?_⟩
    have := (h6 k (by first | exact .inl e | exact .inr (.inl e) | exact .inr (.inr e))).1
    omega
theorem has_g (z Bu : Nat) (s : S3) (x : ByteArray) (W : World) (hU : UAt z Bu s W) (hl : s.g.length ≤ 1000000) :
    Calls Tryz.prog 148 #[.pointer (some ⟨Bu, 2, none⟩), .string x] W fun e W' => e = .returned (.bool (hasM s.g (sOf x))) ∧ ∃ m, W' = W.drewN m := by
  obtain ⟨va, vb, vc, h1, h2, h3, h4, -⟩ := hU
  have hc : W.cell? ⟨Bu, 2, none⟩ = some vc := by rw [Lib.cell_of_heap h1]; rfl
  have H := Lib.hid (searchN_any h4 x hl)
  obtain ⟨a, c, rfl⟩ := h4.form
  clear h1 h2 h3 h4
  go_enter Tryz.func148, Tryz.ntmps148
  go_wp2_with fail
  refine H.out.mono ?_
  rintro e W' ⟨rfl, hs⟩
  go_wp2
  go_ret
  exact ⟨rfl, hs⟩
end Go.Proofs.YtlnaihkombcbcaaGreat
end
noncomputable section
namespace Go.Proofs.YtlnaihkombcbcaaGreat
open Go.RowKit Go.Sort Go.Ev
def anB (s : ByteArray) : Bool := s.toList == [97, 110, 105, 109, 97, 116, 105, 111, 110, 45, 110, 97, 109, 101]
def amB (s : ByteArray) : Bool := s.toList == [97, 110, 105, 109, 97, 116, 105, 111, 110]
def foB (s : ByteArray) : Bool := s.toList == [102, 111, 110, 116]
def frB (n : ByteArray) : Bool := customB n || anB n || amB n
def faB (n : ByteArray) : Bool := customB n || ffB n || foB n
def rfN (l : List Vl) : List Str := (dd (rfVs l)).map sOf
def vN (l : List Vl) : List Str := ofM 1 l ++ ofM 6 l
/-- what a declaration lays into the sets -/
def declM (s : S3) (n : ByteArray) (l : List Vl) : S3 :=
  if customB n = true ∧ hasM s.c (sOf n) = false then s else ⟨addM s.c (rfN l), if frB n = true then addM s.f (ofM 1 l) else s.f, if faB n = true then addM s.g (vN l) else s.g⟩
/-- were there new ones? -/
def grewB (s t : S3) : Bool := decide (s.c.length < t.c.length) || decide (s.f.length < t.f.length) || decide (s.g.length < t.g.length)
theorem dd_le (l : List ByteArray) : (dd l).length ≤ l.length := dd_len l
theorem rfN_le (l : List Vl) : (rfN l).length ≤ cntVs l := by
  rw [rfN, List.length_map]
  exact Nat.le_trans (dd_le _) (rfVs_cnt l)
theorem vN_le (l : List Vl) : (vN l).length ≤ 2 * cntVs l := by
  have h1 := ofM_le 1 l
  have h2 := ofM_le 6 l
  rw [vN, List.length_append]; omega
def NmRow (W : World) (B : Nat) (v : Value) (nm : List Str) : Prop := W.ownsRow B 9 1 v nm.length (nm.map encStr)
theorem NmRow.bs {W : World} {B : Nat} {v : Value} {nm : List Str} (h : NmRow W B v nm) : W.ownsRow B 9 1 v (nm.map bs).length ((nm.map bs).map Value.string) := by
  rw [List.length_map, List.map_map]; exact h
theorem sOf_bs (nm : List Str) : (nm.map bs).map sOf = nm := by
  rw [List.map_map]; conv => rhs; rw [← List.map_id nm]
  congr 1
theorem NmRow.src {W : World} {B : Nat} {v : Value} {nm : List Str} (h : NmRow W B v nm) : SrcN W v nm.length 1 (nm.map encStr) := by
  rcases h.2 with ⟨rfl, h0⟩ | ⟨g, cap, cur, rfl, -, hg, hc, -, -, ht⟩
  · obtain rfl : nm = [] := List.eq_nil_of_length_eq_zero h0
    exact .inl ⟨0, rfl, rfl, rfl⟩
  · refine .inr ⟨_, _, rfl, by simp, fun j u hj => ?_, enc_one nm⟩
    rw [Addr.add_lit, Nat.zero_add, Lib.cell_of_heap hg]
    have hlt : j < nm.length := by simpa using (List.getElem?_eq_some_iff.1 hj).1
    rw [← ht, List.getElem?_take, if_pos (by omega)] at hj
    simpa using hj
theorem NmRow.below {W W' : World} {B : Nat} {v : Value} {nm : List Str} (h : NmRow W B v nm) (hb : Below W.heap.size W W') : NmRow W' B v nm := owns_below h hb
theorem refsN_any (v : Value) (vs : List Vl) (w : World) (hcn : cntVs vs ≤ 1000) (hok : okVs vs = true) (hv : At w (.sl vs.length 5 (vs.flatMap encV)) v) :
    Calls Tryz.prog 58 #[v] w fun e w' => ∃ v', e = .returned v' ∧ NmRow w' w.heap.size v' (rfN vs) ∧ Below w.heap.size w w' := by
  refine (refs_any v vs w (by omega) hok hv).mono ?_
  rintro e w' ⟨v', rfl, h, hb⟩
  refine ⟨v', rfl, ?_, hb⟩
  rw [NmRow, rfN, List.length_map, ← map_sOf]; exact h
theorem identsN_any (v : Value) (vs : List Vl) (w : World) (hcn : cntVs vs ≤ 1000) (hv : At w (.sl vs.length 5 (vs.flatMap encV)) v) :
    Calls Tryz.prog 36 #[v] w fun e w' => ∃ v', e = .returned v' ∧ NmRow w' w.heap.size v' (ofM 1 vs) ∧ Below w.heap.size w w' := idents_any v vs w (by omega) hv
theorem stringsN_any (v : Value) (vs : List Vl) (w : World) (hcn : cntVs vs ≤ 1000) (hv : At w (.sl vs.length 5 (vs.flatMap encV)) v) :
    Calls Tryz.prog 38 #[v] w fun e w' => ∃ v', e = .returned v' ∧ NmRow w' w.heap.size v' (ofM 6 vs) ∧ Below w.heap.size w w' := strings_any v vs w (by omega) hv
/-- slices.Concat of two rows of names -/
theorem concat2_any (v1 v2 : Value) (a b : List Str) (w : World) (B1 B2 : Nat) (h1 : NmRow w B1 v1 a) (h2 : NmRow w B2 v2 b) (hl : a.length + b.length ≤ 1000000) :
    Calls Tryz.prog 150 #[.slice (some ⟨w.heap.size, 0, none⟩) 2 2] (w.alloc (.cells #[v1, v2] 25)) fun e w' => ∃ v', e = .returned v' ∧ NmRow w' w.heap.size v' (a ++ b) ∧ Below w.heap.size w w' := by
  have hb0 := below_alloc w (.cells #[v1, v2] 25)
  have hcell : ∀ j (u : Value), (#[v1, v2] : Array Value)[j]? = some u → (w.alloc (.cells #[v1, v2] 25)).cell? ⟨w.heap.size, 0 + j, none⟩ = some u := fun j u hj => by
    rw [Lib.cell_of_heap (World.alloc_heap_new w _), Nat.zero_add]
    exact hj
  have hp : PcAt (w.alloc (.cells #[v1, v2] 25)) (.slice (some ⟨w.heap.size, 0, none⟩) 2 2) [⟨v1, a.length, a.map encStr⟩, ⟨v2, b.length, b.map encStr⟩] 1 := by
    refine ⟨.inr ⟨w.heap.size, 0, 2, rfl, by simp, fun k hk => ?_⟩, fun p hp => ?_⟩
    · rcases k with _ | _ | k
      · exact hcell 0 _ rfl
      · exact hcell 1 _ rfl
      · simp at hk; omega
    · simp only [List.mem_cons, List.not_mem_nil, or_false] at hp
      rcases hp with rfl | rfl
      · exact h1.src.below hb0
      · exact h2.src.below hb0
  refine (concatS_any _ _ _ hp (by simp [sumM]; omega) (by simp)).mono ?_
  rintro e w' ⟨v', rfl, h, hb⟩
  have e1 : sumM [⟨v1, a.length, a.map encStr⟩, ⟨v2, b.length, b.map encStr⟩] = (a ++ b).length := by simp [sumM]
  have e2 : allN [⟨v1, a.length, a.map encStr⟩, ⟨v2, b.length, b.map encStr⟩] = (a ++ b).map encStr := by simp [allN]
  rw [e1, e2, World.size_alloc] at h
  exact ⟨v', rfl, owns_mono h (Nat.le_succ _), hb0.trans (hb.mono (by simp))⟩
theorem addN_c (z Bu B : Nat) (s : S3) (nv : Value) (nm : List Str) (W : World) (hU : UAt z Bu s W) (hown : NmRow W B nv nm) (hfr : ∀ k, OwU Bu W k → k < B) (hl : s.c.length + nm.length ≤ 1000000) :
    Calls Tryz.prog 149 #[.pointer (some ⟨Bu, 0, none⟩), nv] W fun e W' => e = .returned (.bool (decide (s.c.length < (addM s.c nm).length))) ∧ UAt z Bu ⟨addM s.c nm, s.f, s.g⟩ W' ∧ KO (OwU Bu) z W W' := by
  have h := add_c z Bu B s nv (nm.map bs) W hU hown.bs hfr (by simpa using hl)
  rw [sOf_bs] at h
  exact h
theorem addN_f (z Bu B : Nat) (s : S3) (nv : Value) (nm : List Str) (W : World) (hU : UAt z Bu s W) (hown : NmRow W B nv nm) (hfr : ∀ k, OwU Bu W k → k < B) (hl : s.f.length + nm.length ≤ 1000000) :
    Calls Tryz.prog 149 #[.pointer (some ⟨Bu, 1, none⟩), nv] W fun e W' => e = .returned (.bool (decide (s.f.length < (addM s.f nm).length))) ∧ UAt z Bu ⟨s.c, addM s.f nm, s.g⟩ W' ∧ KO (OwU Bu) z W W' := by
  have h := add_f z Bu B s nv (nm.map bs) W hU hown.bs hfr (by simpa using hl)
  rw [sOf_bs] at h
  exact h
theorem addN_g (z Bu B : Nat) (s : S3) (nv : Value) (nm : List Str) (W : World) (hU : UAt z Bu s W) (hown : NmRow W B nv nm) (hfr : ∀ k, OwU Bu W k → k < B) (hl : s.g.length + nm.length ≤ 1000000) :
    Calls Tryz.prog 149 #[.pointer (some ⟨Bu, 2, none⟩), nv] W fun e W' => e = .returned (.bool (decide (s.g.length < (addM s.g nm).length))) ∧ UAt z Bu ⟨s.c, s.f, addM s.g nm⟩ W' ∧ KO (OwU Bu) z W W' := by
  have h := add_g z Bu B s nv (nm.map bs) W hU hown.bs hfr (by simpa using hl)
  rw [sOf_bs] at h
  exact h
/-- a block that is none of the sets' stays -/
theorem KO.blk {z Bu : Nat} {W W' : World} (h : KO (OwU Bu) z W W') {k : Nat} {o : Obj} (hk : W.heap[k]? = some o) (hn : ¬ OwU Bu W k) : W'.heap[k]? = some o := (h.same k (Array.getElem?_eq_some_iff.1 hk).1 hn).trans hk
/-- and is none of them -/
theorem KO.not_own {z Bu : Nat} {W W' : World} (h : KO (OwU Bu) z W W') {k : Nat} (hk : k < W.heap.size) (hn : ¬ OwU Bu W k) : ¬ OwU Bu W' k := fun ho => hn (h.own k hk ho)
/-- the walk's state: the sets, the function's own variable X, what was before -/
structure DSt (z Bu X : Nat) (o : Obj) (w : World) (s : S3) (W : World) : Prop where
  u : UAt z Bu s W
  ko : KO (OwU Bu) z w W
  x : W.heap[X]? = some o
  nx : ¬ OwU Bu W X
theorem DSt.below {z Bu X : Nat} {o : Obj} {w W W' : World} {s : S3} (h : DSt z Bu X o w s W) (hb : Below W.heap.size W W') (hz : z ≤ w.heap.size) : DSt z Bu X o w s W' :=
  ⟨h.u.below hb, h.ko.trans (h.u.ko hb (Nat.le_trans hz h.ko.below.size)), (hb.block _ (Array.getElem?_eq_some_iff.1 h.x).1).trans h.x, fun ho => h.nx (OwU_below h.u.lt hb X ho)⟩
theorem DSt.same {z Bu X : Nat} {o : Obj} {w W W' : World} {s : S3} (h : DSt z Bu X o w s W) (hs : SameW W W') (hz : z ≤ w.heap.size) : DSt z Bu X o w s W' := h.below (hs.below _) hz
theorem DSt.add {z Bu X : Nat} {o : Obj} {w W W' : World} {s t : S3} (h : DSt z Bu X o w s W) (hu : UAt z Bu t W') (hk : KO (OwU Bu) z W W') : DSt z Bu X o w t W' :=
  ⟨hu, h.ko.trans hk, hk.blk h.x h.nx, hk.not_own (Array.getElem?_eq_some_iff.1 h.x).1 h.nx⟩
theorem DSt.new {z Bu : Nat} {o : Obj} {w : World} {s : S3} (hu : UAt z Bu s w) (hz : z ≤ w.heap.size) : DSt z Bu w.heap.size o w s (w.alloc o) :=
  ⟨hu.below (below_alloc _ _), hu.ko (below_alloc _ _) hz, World.alloc_heap_new w o, fun ho => by have := (hu.own (OwU_below hu.lt (below_alloc _ _) _ ho)).2; omega⟩
theorem DSt.old {z Bu X : Nat} {o : Obj} {w W W' : World} {s : S3} (h : DSt z Bu X o w s W) (hb : Below W.heap.size W W') : ∀ k, OwU Bu W' k → k < W.heap.size := fun k hk => (h.u.own (OwU_below h.u.lt hb k hk)).2
def dclO (nm : ByteArray) (ad : Option Addr) (n cap : Nat) (imp : Bool) : Obj := .cells #[.string nm, .slice ad n cap, .bool imp] 134
theorem dclO_cells {W : World} {X : Nat} {nm : ByteArray} {ad : Option Addr} {n cap : Nat} {imp : Bool} (h : W.heap[X]? = some (dclO nm ad n cap imp)) :
    W.cell? ⟨X, 0, none⟩ = some (.string nm) ∧ W.cell? ⟨X, 1, none⟩ = some (.slice ad n cap) := by
  unfold dclO at h
  exact ⟨by rw [Lib.cell_of_heap h]; rfl, by rw [Lib.cell_of_heap h]; rfl⟩
end Go.Proofs.YtlnaihkombcbcaaGreat
end
noncomputable section
namespace Go.Proofs.YtlnaihkombcbcaaGreat
open Go.RowKit Go.Sort Go.Ev
def UPost (z Bu : Nat) (s t : S3) (w : World) (e : Ending) (w' : World) : Prop := e = .returned (.bool (grewB s t)) ∧ UAt z Bu t w' ∧ KO (OwU Bu) z w w'
theorem grewB_eq {s t : S3} {g1 g2 g3 : Bool} (h1 : decide (s.c.length < t.c.length) = g1) (h2 : decide (s.f.length < t.f.length) = g2) (h3 : decide (s.g.length < t.g.length) = g3) : grewB s t = (g1 || g2 || g3) := by rw [grewB, h1, h2, h3]
theorem grewB_self (s : S3) : grewB s s = false := by simp [grewB]
set_option maxRecDepth 100000 in
set_option maxHeartbeats 8000000 in
theorem decl_any (z Bu : Nat) (s : S3) (nm : ByteArray) (ad : Option Addr) (cap : Nat) (imp : Bool) (l : List Vl) (w : World) (hu : UAt z Bu s w) (hz : z ≤ w.heap.size)
    (hv : AtB z w (.sl l.length 5 (l.flatMap encV)) (.slice ad l.length cap)) (hcn : cntVs l ≤ 1000) (hok : okVs l = true) (hs : s.c.length ≤ 500000 ∧ s.f.length ≤ 500000 ∧ s.g.length ≤ 500000) :
    Calls Tryz.prog 147 #[.pointer (some ⟨Bu, 0, none⟩), .agg #[.string nm, .slice ad l.length cap, .bool imp]] w (UPost z Bu s (declM s nm l) w) := by
  have hAt : ∀ W, Below z w W → At W (.sl l.length 5 (l.flatMap encV)) (.slice ad l.length cap) := fun W h => (hv.below h).toAt (Nat.le_trans hz h.size)
  have HR := Lib.hid fun W (h : Below z w W) => refsN_any _ l W hcn hok (hAt W h)
  have HI := Lib.hid fun W (h : Below z w W) => identsN_any _ l W hcn (hAt W h)
  have HT := Lib.hid fun W (h : Below z w W) => stringsN_any _ l W hcn (hAt W h)
  have D0 : DSt z Bu w.heap.size (dclO nm ad l.length cap imp) w s (w.alloc (dclO nm ad l.length cap imp)) := DSt.new hu hz
  have hl1 := rfN_le l
  have hl2 := ofM_le 1 l
  have hl3 := vN_le l
  have hl4 : (ofM 1 l).length + (ofM 6 l).length ≤ 2000 := by have := vN_le l; rw [vN, List.length_append] at this; omega
  obtain ⟨hs1, hs2, hs3⟩ := hs
  have HZ := Lib.hid hz
  -- what is held of the function's own variable
  have HX := Lib.hid fun (t : S3) (W : World) (h : DSt z Bu w.heap.size (dclO nm ad l.length cap imp) w t W) => dclO_cells h.x
  have HDB := Lib.hid fun (t : S3) (W W' : World) (h : DSt z Bu w.heap.size (dclO nm ad l.length cap imp) w t W) (hb : Below W.heap.size W W') => h.below hb HZ.out
  have hdm : ∀ t, t = declM s nm l → (customB nm = true → hasM s.c (sOf nm) = true) → t = ⟨addM s.c (rfN l), if frB nm = true then addM s.f (ofM 1 l) else s.f, if faB nm = true then addM s.g (vN l) else s.g⟩ := fun t ht h => by
    rw [ht, declM, if_neg]
    rintro ⟨h1, h2⟩
    rw [h h1] at h2; cases h2
  have hdf : customB nm = true → hasM s.c (sOf nm) = false → declM s nm l = s := fun h1 h2 => by rw [declM, if_pos ⟨h1, h2⟩]
  have hfr : frB nm = (customB nm || nm.toList == [97, 110, 105, 109, 97, 116, 105, 111, 110, 45, 110, 97, 109, 101] || nm.toList == [97, 110, 105, 109, 97, 116, 105, 111, 110]) := rfl
  have hfa : faB nm = (customB nm || nm.toList == [102, 111, 110, 116, 45, 102, 97, 109, 105, 108, 121] || nm.toList == [102, 111, 110, 116]) := rfl
  have HDM := Lib.hid hdm
  have HDF := Lib.hid hdf
  generalize hdt : declM s nm l = t at *
  have HDT := Lib.hid hdt
  have D0H := Lib.hid D0
  obtain ⟨x0, x1⟩ := HX.out _ _ D0
  have HH := Lib.hid fun n => has_c z Bu s nm _ ((D0.below (below_drewN (Below.refl _ _) n) HZ.out).u) (by omega)
  clear hAt hv hu hz hdm hdf hdt D0
  go_enter Tryz.func147, Tryz.ntmps147
  go_wp2_with fail
  refine (custom_any nm _).mono ?_
  rintro e w1 ⟨rfl, rfl⟩
  go_upto_region 2 with fail
  go_cut [5, 9, 19] from 10 to 19 (fun v5 _ v19 wx => v5 = .bool (customB nm) ∧ v19 = .bool (customB nm && !hasM s.c (sOf nm)) ∧ Hid (DSt z Bu w.heap.size (dclO nm ad l.length cap imp) w s wx))
  case first =>
    cases hcu : customB nm
    · go_quiet (fail)
      go_wp2_with fail
      go_meet
      exact ⟨by rw [hcu], by rw [hcu]; rfl, Lib.hid (HDB.out _ _ _ D0H.out (below_drewN (Below.refl _ _) _))⟩
    · go_quiet ((go_at_call 148; exact Calls.quiet_of (HH.out _)))
      go_wp2_with fail
      go_meet
      exact ⟨by rw [hcu], by rw [hcu]; rfl, Lib.hid (HDB.out _ _ _ D0H.out (below_drewN (Below.refl _ _) _))⟩
  case rest =>
  obtain ⟨rfl, rfl, D1H⟩ := hcut
  clear HH D0H x0 x1
  obtain ⟨x0, x1⟩ := HX.out _ _ D1H.out
  cases hq : (customB nm && !hasM s.c (sOf nm))
  · have HTE := HDM.out t rfl (fun h => by rw [h] at hq; simpa using hq)
    clear HDM HDF
    go_upto_region 4 with fail
    have D1 := D1H.out
    clear x0 x1 D1H
    obtain ⟨x0, x1⟩ := HX.out _ _ D1
    have D1d : DSt z Bu w.heap.size (dclO nm ad l.length cap imp) w s wc.drew := HDB.out _ _ _ D1 (Below.refl _ _).drew
    obtain ⟨x0d, x1d⟩ := HX.out _ _ D1d
    have D1H := Lib.hid D1
    have D1dH := Lib.hid D1d
    have R1 := Lib.hid (HR.out _ D1d.ko.below)
    clear D1 D1d
    go_cut [6] from 20 to 26 (fun v6 wx => v6 = .bool (decide (s.c.length < (addM s.c (rfN l)).length)) ∧ Hid (DSt z Bu w.heap.size (dclO nm ad l.length cap imp) w ⟨addM s.c (rfN l), s.f, s.g⟩ wx))
    case first =>
      go_region_held3 (fun w' => w'.cell? ⟨w.heap.size, 0, none⟩ = some (.string nm) ∧ w'.cell? ⟨w.heap.size, 1, none⟩ = some (.slice ad l.length cap))
        (first | exact ⟨x0, x1⟩ | exact ⟨x0d, x1d⟩ | exact ⟨x02, x12⟩ | exact ⟨x03, x13⟩)
        ((first
          | (go_at_call 58
             refine R1.out.mono ?_
             rintro e w2 ⟨v2, rfl, ho2, hB2⟩
             have D2 := HDB.out _ _ _ D1dH.out hB2
             have A2 := addN_c z Bu _ s v2 (rfN l) w2 D2.u ho2 (D1dH.out.old hB2) (by omega)
             obtain ⟨x02, x12⟩ := HX.out _ _ D2)
          | (go_at_call 149
             refine A2.mono ?_
             rintro e w3 ⟨rfl, hu3, hk3⟩
             have D3 := D2.add hu3 hk3
             obtain ⟨x03, x13⟩ := HX.out _ _ D3)))
      go_wp2_with fail
      go_meet
      exact ⟨rfl, Lib.hid D3⟩
    case rest =>
    obtain ⟨rfl, D3⟩ := hcut
    clear x0 x1 x0d x1d D1H D1dH R1
    obtain ⟨x0, x1⟩ := HX.out _ _ D3.out
    generalize hq1 : decide (s.c.length < (addM s.c (rfN l)).length) = q1
    go_upto_region 5 with fail
    go_cut [5, 37] from 27 to 37 (fun v5 v wx => v5 = .bool (customB nm) ∧ v = .bool (frB nm) ∧ wx = wc)
    case first =>
      cases hcu : customB nm
      · cases h1 : (nm.toList == [97, 110, 105, 109, 97, 116, 105, 111, 110, 45, 110, 97, 109, 101])
        · cases h2 : (nm.toList == [97, 110, 105, 109, 97, 116, 105, 111, 110])
          · go_wp2_with fail
            go_meet
            exact ⟨by rw [hcu], by rw [hfr, hcu, h1, h2]; rfl, rfl⟩
          · go_wp2_with fail
            go_meet
            exact ⟨by rw [hcu], by rw [hfr, hcu, h1, h2]; rfl, rfl⟩
        · go_wp2_with fail
          go_meet
          exact ⟨by rw [hcu], by rw [hfr, hcu, h1]; rfl, rfl⟩
      · go_wp2_with fail
        go_meet
        exact ⟨by rw [hcu], by rw [hfr, hcu]; rfl, rfl⟩
    case rest =>
    obtain ⟨rfl, rfl, rfl⟩ := hcut
    go_upto_if 37 with fail
    go_cut [6] from 27 to 47 (fun v6 wx => v6 = .bool (decide (s.f.length < (if frB nm = true then addM s.f (ofM 1 l) else s.f).length) || q1) ∧ Hid (DSt z Bu w.heap.size (dclO nm ad l.length cap imp) w ⟨addM s.c (rfN l), if frB nm = true then addM s.f (ofM 1 l) else s.f, s.g⟩ wx))
    case first =>
      cases hf : frB nm
      · go_wp2_with fail
        go_meet
        exact ⟨by rw [hf]; simp, by rw [hf]; exact D3⟩
      · go_upto_region 6 with fail
        have D1 := D3.out
        clear D3
        have D1d : DSt z Bu w.heap.size (dclO nm ad l.length cap imp) w ⟨addM s.c (rfN l), s.f, s.g⟩ wc.drew := HDB.out _ _ _ D1 (Below.refl _ _).drew
        obtain ⟨x0d, x1d⟩ := HX.out _ _ D1d
        have D1H := Lib.hid D1
        have D1dH := Lib.hid D1d
        have R1 := Lib.hid (HI.out _ D1d.ko.below)
        clear D1 D1d
        cases hq2 : decide (s.f.length < (addM s.f (ofM 1 l)).length)
        · go_region_held3 (fun w' => w'.cell? ⟨w.heap.size, 0, none⟩ = some (.string nm) ∧ w'.cell? ⟨w.heap.size, 1, none⟩ = some (.slice ad l.length cap))
            (first | exact ⟨x0, x1⟩ | exact ⟨x0d, x1d⟩ | exact ⟨x02, x12⟩ | exact ⟨x03, x13⟩)
            ((first
              | (go_at_call 36
                 refine R1.out.mono ?_
                 rintro e w2 ⟨v2, rfl, ho2, hB2⟩
                 have D2 := HDB.out _ _ _ D1dH.out hB2
                 have A2 := addN_f z Bu _ ⟨addM s.c (rfN l), s.f, s.g⟩ v2 (ofM 1 l) w2 D2.u ho2 (D1dH.out.old hB2) (by show s.f.length + _ ≤ _; omega)
                 dsimp only at A2
                 rw [hq2] at A2
                 obtain ⟨x02, x12⟩ := HX.out _ _ D2)
              | (go_at_call 149
                 refine A2.mono ?_
                 rintro e w3 ⟨rfl, hu3, hk3⟩
                 have D3 := D2.add hu3 hk3
                 obtain ⟨x03, x13⟩ := HX.out _ _ D3)))
          go_wp2_with fail
          go_meet
          exact ⟨by rw [hf, if_pos rfl, hq2]; rfl, by rw [hf, if_pos rfl]; exact Lib.hid D3⟩
        · first | (go_region_with ((first
              | (go_at_call 36
                 refine R1.out.mono ?_
                 rintro e w2 ⟨v2, rfl, ho2, hB2⟩
                 have D2 := HDB.out _ _ _ D1dH.out hB2
                 have A2 := addN_f z Bu _ ⟨addM s.c (rfN l), s.f, s.g⟩ v2 (ofM 1 l) w2 D2.u ho2 (D1dH.out.old hB2) (by show s.f.length + _ ≤ _; omega)
                 dsimp only at A2
                 rw [hq2] at A2
                 obtain ⟨x02, x12⟩ := HX.out _ _ D2)
              | (go_at_call 149
                 refine A2.mono ?_
                 rintro e w3 ⟨rfl, hu3, hk3⟩
                 have D3 := D2.add hu3 hk3
                 obtain ⟨x03, x13⟩ := HX.out _ _ D3)))) | fail
          all_goals (
            go_wp2_with fail
            go_meet
            exact ⟨by rw [hf, if_pos rfl, hq2]; rfl, by rw [hf, if_pos rfl]; exact Lib.hid D3⟩)
    case rest =>
    obtain ⟨rfl, D3⟩ := hcut
    clear x0 x1
    obtain ⟨x0, x1⟩ := HX.out _ _ D3.out
    generalize hq2 : decide (s.f.length < (if frB nm = true then addM s.f (ofM 1 l) else s.f).length) = q2
    generalize hq21 : (q2 || q1) = q21
    go_upto_region 7 with fail
    go_cut [5, 58] from 48 to 58 (fun v5 v wx => v5 = .bool (customB nm) ∧ v = .bool (faB nm) ∧ wx = wc)
    case first =>
      cases hcu : customB nm
      · cases h1 : (nm.toList == [102, 111, 110, 116, 45, 102, 97, 109, 105, 108, 121])
        · cases h2 : (nm.toList == [102, 111, 110, 116])
          · go_wp2_with fail
            go_meet
            exact ⟨by rw [hcu], by rw [hfa, hcu, h1, h2]; rfl, rfl⟩
          · go_wp2_with fail
            go_meet
            exact ⟨by rw [hcu], by rw [hfa, hcu, h1, h2]; rfl, rfl⟩
        · go_wp2_with fail
          go_meet
          exact ⟨by rw [hcu], by rw [hfa, hcu, h1]; rfl, rfl⟩
      · go_wp2_with fail
        go_meet
        exact ⟨by rw [hcu], by rw [hfa, hcu]; rfl, rfl⟩
    case rest =>
    obtain ⟨rfl, rfl, rfl⟩ := hcut
    cases hg : faB nm
    · go_wp2
      go_ret
      refine ⟨?_, ?_, D3.out.ko⟩
      · rw [HTE, grewB_eq (t := ⟨addM s.c (rfN l), if frB nm = true then addM s.f (ofM 1 l) else s.f, if faB nm = true then addM s.g (vN l) else s.g⟩) (g3 := false) hq1 hq2 (by rw [hg]; simp)]
        cases q1 <;> cases q2 <;> cases hq21 <;> rfl
      · rw [HTE, hg]; exact D3.out.u
    · go_upto_region 8 with fail
      have D1 := D3.out
      clear D3
      have D1d : DSt z Bu w.heap.size (dclO nm ad l.length cap imp) w ⟨addM s.c (rfN l), if frB nm = true then addM s.f (ofM 1 l) else s.f, s.g⟩ wc.drew := HDB.out _ _ _ D1 (Below.refl _ _).drew
      obtain ⟨x0d, x1d⟩ := HX.out _ _ D1d
      have D1H := Lib.hid D1
      have D1dH := Lib.hid D1d
      have R1 := Lib.hid (HI.out _ D1d.ko.below)
      clear D1 D1d
      cases hq3 : decide (s.g.length < (addM s.g (vN l)).length)
      · go_region_held3 (fun w' => w'.cell? ⟨w.heap.size, 0, none⟩ = some (.string nm) ∧ w'.cell? ⟨w.heap.size, 1, none⟩ = some (.slice ad l.length cap))
          (first | exact ⟨x0, x1⟩ | exact ⟨x0d, x1d⟩ | exact ⟨x02, x12⟩ | exact ⟨x04, x14⟩ | exact ⟨x05, x15⟩ | exact ⟨x06, x16⟩ | exact ⟨x03, x13⟩)
          ((first
            | (go_at_call 36
               refine R1.out.mono ?_
               rintro e w2 ⟨v2, rfl, ho2, hB2⟩
               obtain ⟨a2, c2, rfl⟩ := owns_slice ho2
               have D2 := HDB.out _ _ _ D1dH.out hB2
               obtain ⟨x02, x12⟩ := HX.out _ _ D2)
            | (go_at_call 38
               refine (HT.out _ D2.ko.below).mono ?_
               rintro e w4 ⟨v4, rfl, ho4, hB4⟩
               obtain ⟨a4, c4, rfl⟩ := owns_slice ho4
               have D4 := HDB.out _ _ _ D2 hB4
               obtain ⟨x04, x14⟩ := HX.out _ _ D4
               have D5 := HDB.out _ _ _ D4 (below_alloc w4 (.cells #[.slice a2 (ofM 1 l).length c2, .slice a4 (ofM 6 l).length c4] 25))
               obtain ⟨x05, x15⟩ := HX.out _ _ D5
               have C4 := concat2_any (.slice a2 (ofM 1 l).length c2) (.slice a4 (ofM 6 l).length c4) (ofM 1 l) (ofM 6 l) w4 _ _ (ho2.below hB4) ho4 (by omega)
               clear ho2 ho4)
            | (go_at_call 150
               refine C4.mono ?_
               rintro e w6 ⟨v6, rfl, ho6, hB6⟩
               have D6 := HDB.out _ _ _ D4 hB6
               obtain ⟨x06, x16⟩ := HX.out _ _ D6
               have A2 := addN_g z Bu _ ⟨addM s.c (rfN l), if frB nm = true then addM s.f (ofM 1 l) else s.f, s.g⟩ v6 (vN l) w6 D6.u ho6 (D4.old hB6) (by show s.g.length + _ ≤ _; omega)
               dsimp only at A2
               rw [hq3] at A2
               clear ho6)
            | (go_at_call 149
               refine A2.mono ?_
               rintro e w3 ⟨rfl, hu3, hk3⟩
               have D3 := D6.add hu3 hk3
               obtain ⟨x03, x13⟩ := HX.out _ _ D3)))
        go_wp2
        go_ret
        refine ⟨?_, ?_, D3.ko⟩
        · rw [HTE, grewB_eq (t := ⟨addM s.c (rfN l), if frB nm = true then addM s.f (ofM 1 l) else s.f, if faB nm = true then addM s.g (vN l) else s.g⟩) (g3 := false) hq1 hq2 (by rw [hg, if_pos rfl]; exact hq3)]
          cases q1 <;> cases q2 <;> first | rfl | (cases hq21; rfl)
        · rw [HTE, hg, if_pos rfl]; exact D3.u
      · first | (go_region_with ((first
            | (go_at_call 36
               refine R1.out.mono ?_
               rintro e w2 ⟨v2, rfl, ho2, hB2⟩
               obtain ⟨a2, c2, rfl⟩ := owns_slice ho2
               have D2 := HDB.out _ _ _ D1dH.out hB2
               obtain ⟨x02, x12⟩ := HX.out _ _ D2)
            | (go_at_call 38
               refine (HT.out _ D2.ko.below).mono ?_
               rintro e w4 ⟨v4, rfl, ho4, hB4⟩
               obtain ⟨a4, c4, rfl⟩ := owns_slice ho4
               have D4 := HDB.out _ _ _ D2 hB4
               obtain ⟨x04, x14⟩ := HX.out _ _ D4
               have D5 := HDB.out _ _ _ D4 (below_alloc w4 (.cells #[.slice a2 (ofM 1 l).length c2, .slice a4 (ofM 6 l).length c4] 25))
               obtain ⟨x05, x15⟩ := HX.out _ _ D5
               have C4 := concat2_any (.slice a2 (ofM 1 l).length c2) (.slice a4 (ofM 6 l).length c4) (ofM 1 l) (ofM 6 l) w4 _ _ (ho2.below hB4) ho4 (by omega)
               clear ho2 ho4)
            | (go_at_call 150
               refine C4.mono ?_
               rintro e w6 ⟨v6, rfl, ho6, hB6⟩
               have D6 := HDB.out _ _ _ D4 hB6
               obtain ⟨x06, x16⟩ := HX.out _ _ D6
               have A2 := addN_g z Bu _ ⟨addM s.c (rfN l), if frB nm = true then addM s.f (ofM 1 l) else s.f, s.g⟩ v6 (vN l) w6 D6.u ho6 (D4.old hB6) (by show s.g.length + _ ≤ _; omega)
               dsimp only at A2
               rw [hq3] at A2
               clear ho6)
            | (go_at_call 149
               refine A2.mono ?_
               rintro e w3 ⟨rfl, hu3, hk3⟩
               have D3 := D6.add hu3 hk3
               obtain ⟨x03, x13⟩ := HX.out _ _ D3)))) | fail
        all_goals (
          go_wp2
          go_ret
          refine ⟨?_, ?_, D3.ko⟩
          · rw [HTE, grewB_eq (t := ⟨addM s.c (rfN l), if frB nm = true then addM s.f (ofM 1 l) else s.f, if faB nm = true then addM s.g (vN l) else s.g⟩) (g3 := true) hq1 hq2 (by rw [hg, if_pos rfl]; exact hq3)]
            cases q1 <;> cases q2 <;> first | rfl | (cases hq21; rfl)
          · rw [HTE, hg, if_pos rfl]; exact D3.u)
  · have HTE := HDF.out (by rw [Bool.and_eq_true] at hq; exact hq.1) (by rw [Bool.and_eq_true] at hq; simpa using hq.2)
    clear HDM HDF HR HI HT
    go_wp2
    go_ret
    subst HTE
    exact ⟨by rw [grewB_self]; rfl, D1H.out.u, D1H.out.ko⟩
end Go.Proofs.YtlnaihkombcbcaaGreat
end
noncomputable section
namespace Go.Proofs.YtlnaihkombcbcaaGreat
open Go.RowKit Go.Sort Go.Ev
theorem bsGo_in (less : Nat → Bool) (k n : Nat) (h1 : ∀ t, t < k → less t = true) (h2 : ∀ t, k ≤ t → t < n → less t = false) : ∀ (f lo hi : Nat), hi - lo ≤ f → lo ≤ k → k ≤ hi → hi ≤ n → Lib.bsGo less f lo hi = k
  | 0, lo, hi, hf, a, b, _ => by simp [Lib.bsGo]; omega
  | f + 1, lo, hi, hf, a, b, c => by
    unfold Lib.bsGo
    by_cases h : lo < hi
    · rw [if_pos h]
      by_cases hm : (lo + hi) / 2 < k
      · rw [h1 _ hm, if_pos rfl]; exact bsGo_in less k n h1 h2 f _ _ (by omega) (by omega) b c
      · rw [h2 _ (by omega) (by omega)]; exact bsGo_in less k n h1 h2 f _ _ (by omega) a (by omega) (by omega)
    · rw [if_neg h]; omega
theorem posM_split {a b : List Str} {x : Str} (ha : ∀ y ∈ a, y < x) (hb : ∀ y ∈ b, ¬ y < x) : posM (a ++ b) x = a.length := by
  unfold posM
  refine bsGo_in _ a.length (a ++ b).length (fun t ht => ?_) (fun t h1 h2 => ?_) _ 0 _ (Nat.le_refl _) (Nat.zero_le _) (by simp) (Nat.le_refl _)
  · rw [Proofs.bytesLess_eq, List.getD_eq_getElem?_getD, List.getElem?_append_left ht, List.getElem?_eq_getElem ht]
    exact decide_eq_true (ha _ (List.getElem_mem ht))
  · have ht : t - a.length < b.length := by simp at h2; omega
    rw [Proofs.bytesLess_eq, List.getD_eq_getElem?_getD, List.getElem?_append_right h1, List.getElem?_eq_getElem ht]
    exact decide_eq_false (hb _ (List.getElem_mem ht))
theorem split_rise (x : Str) : ∀ {ss : List Str}, risesB ss → ∃ a b, ss = a ++ b ∧ (∀ y ∈ a, y < x) ∧ ∀ y ∈ b, ¬ y < x
  | [], _ => ⟨[], [], rfl, by simp, by simp⟩
  | y :: r, h => by
    obtain ⟨h1, h2⟩ := List.pairwise_cons.1 h
    by_cases hy : y < x
    · obtain ⟨a, b, rfl, ha, hb⟩ := split_rise x h2
      exact ⟨y :: a, b, rfl, fun z hz => by
        rcases List.mem_cons.1 hz with rfl | hz
        · exact hy
        · exact ha z hz, hb⟩
    · refine ⟨[], y :: r, rfl, by simp, fun z hz => ?_⟩
      rcases List.mem_cons.1 hz with rfl | hz
      · exact hy
      · exact fun hzx => hy (List.lt_trans (h1 z hz) hzx)
theorem put_rises {ss : List Str} (x : Str) (h : risesB ss) : (hasM ss x = true ↔ x ∈ ss) ∧ (∀ y, y ∈ putM ss x ↔ y = x ∨ y ∈ ss) ∧ risesB (putM ss x) := by
  obtain ⟨a, b, rfl, ha, hb⟩ := split_rise x h
  have hp := posM_split ha hb
  have hxa : x ∉ a := fun e => List.lt_irrefl _ (ha x e)
  have hx : hasM (a ++ b) x = true ↔ x ∈ a ++ b := by
    unfold hasM
    rw [hp, decide_eq_true_iff]
    cases b with
    | nil => simp [hxa]
    | cons z b =>
      have hz : (a ++ z :: b).getD a.length [] = z := by simp
      rw [hz]
      constructor
      · rintro ⟨-, rfl⟩; simp
      · intro hm
        rcases List.mem_append.1 hm with e | e
        · exact absurd e hxa
        · refine ⟨by simp, ?_⟩
          rcases List.mem_cons.1 e with e | e
          · exact e.symm
          · exact absurd ((List.pairwise_cons.1 (List.pairwise_append.1 h).2.1).1 x e) (hb z List.mem_cons_self)
  refine ⟨hx, ?_⟩
  unfold putM
  by_cases hh : hasM (a ++ b) x = true
  · rw [if_pos hh]
    exact ⟨fun y => ⟨.inr, fun e => e.elim (fun e => e ▸ hx.1 hh) id⟩, h⟩
  · rw [if_neg hh, hp, List.take_left' rfl, List.drop_left' rfl]
    refine ⟨fun y => ?_, ?_⟩
    · simp only [List.mem_append, List.mem_singleton]
      constructor
      · rintro ((h | h) | h)
        · exact .inr (.inl h)
        · exact .inl h
        · exact .inr (.inr h)
      · rintro (h | h | h)
        · exact .inl (.inr h)
        · exact .inl (.inl h)
        · exact .inr h
    · obtain ⟨h1, h2, h3⟩ := List.pairwise_append.1 h
      refine List.pairwise_append.2 ⟨List.pairwise_append.2 ⟨h1, List.pairwise_singleton _ _, fun y hy z hz => ?_⟩, h2, fun y hy z hz => ?_⟩
      · rw [List.mem_singleton.1 hz]; exact ha y hy
      · rcases List.mem_append.1 hy with hy | hy
        · exact h3 y hy z hz
        · obtain rfl := List.mem_singleton.1 hy
          exact str_lt (List.not_lt.1 (hb z hz)) (fun e => hh (hx.2 (List.mem_append.2 (.inr (e ▸ hz)))))
theorem has_rises {ss : List Str} (x : Str) (h : risesB ss) : hasM ss x = true ↔ x ∈ ss := (put_rises x h).1
theorem add_rises : ∀ (xs : List Str) {ss : List Str}, risesB ss → risesB (addM ss xs) ∧ ∀ y, y ∈ addM ss xs ↔ y ∈ ss ∨ y ∈ xs
  | [], ss, h => ⟨h, fun y => by simp [addM]⟩
  | x :: xs, ss, h => by
    obtain ⟨-, h2, h3⟩ := put_rises x h
    obtain ⟨h4, h5⟩ := add_rises xs h3
    refine ⟨h4, fun y => ?_⟩
    rw [show addM ss (x :: xs) = addM (putM ss x) xs from rfl, h5, h2, List.mem_cons]
    constructor
    · rintro ((h | h) | h)
      · exact .inr (.inl h)
      · exact .inl h
      · exact .inr (.inr h)
    · rintro (h | h | h)
      · exact .inl (.inr h)
      · exact .inl (.inl h)
      · exact .inr h
theorem addM_stay : ∀ (xs ss : List Str), (addM ss xs).length ≤ ss.length → addM ss xs = ss
  | [], _, _ => rfl
  | x :: xs, ss, h => by
    have h1 := putM_len ss x
    have h2 := addM_len (putM ss x) xs
    rw [show addM ss (x :: xs) = addM (putM ss x) xs from rfl] at h ⊢
    by_cases hh : hasM ss x = true
    · have e : putM ss x = ss := by unfold putM; rw [if_pos hh]
      rw [e] at h ⊢
      exact addM_stay xs ss h
    · rw [if_neg hh] at h1; omega
/-- what a declaration, or some frames, lay into the sets; ahead of it a name that must be used: 0 a custom property, 1 frames -/
structure Ru where
  gd : Option (Nat × Str)
  c : List Str
  f : List Str
  g : List Str
def S3.at (s : S3) : Nat → List Str
  | 0 => s.c
  | 1 => s.f
  | _ => s.g
def Ru.at (r : Ru) : Nat → List Str
  | 0 => r.c
  | 1 => r.f
  | _ => r.g
def gdB (s : S3) (r : Ru) : Bool := match r.gd with
  | none => true
  | some (k, y) => hasM (s.at k) y
def stepR (s : S3) (r : Ru) : S3 := if gdB s r = true then ⟨addM s.c r.c, addM s.f r.f, addM s.g r.g⟩ else s
theorem step_at (s : S3) (r : Ru) (i : Nat) : (stepR s r).at i = if gdB s r = true then addM (s.at i) (r.at i) else s.at i := by
  unfold stepR
  split
  · match i with
    | 0 => rfl
    | 1 => rfl
    | _ + 2 => rfl
  · rfl
theorem S3.ext_at {s t : S3} (h : ∀ i, s.at i = t.at i) : s = t := by
  obtain ⟨a, b, c⟩ := s
  obtain ⟨x, y, z⟩ := t
  have h0 : a = x := h 0
  have h1 : b = y := h 1
  have h2 : c = z := h 2
  rw [h0, h1, h2]
def ruD (n : ByteArray) (l : List Vl) : Ru := ⟨if customB n = true then some (0, sOf n) else none, rfN l, if frB n = true then ofM 1 l else [], if faB n = true then vN l else []⟩
theorem declM_step (s : S3) (n : ByteArray) (l : List Vl) : declM s n l = stepR s (ruD n l) := by
  have h1 : addM s.f (if frB n = true then ofM 1 l else []) = if frB n = true then addM s.f (ofM 1 l) else s.f := by split <;> rfl
  have h2 : addM s.g (if faB n = true then vN l else []) = if faB n = true then addM s.g (vN l) else s.g := by split <;> rfl
  unfold declM stepR ruD gdB
  dsimp only
  rw [h1, h2]
  cases hc : customB n
  · simp
  · simp only [if_true]
    show _ = if hasM s.c (sOf n) = true then _ else _
    cases hh : hasM s.c (sOf n) <;> simp
/-- frames' rule, if they are used -/
def ruF (n : ByteArray) (l : List Vl) : Ru := ⟨some (1, sOf n), rfN l, [], vN l⟩
def ruN (l : List Vl) : List ByteArray → List Ru
  | [n] => [ruF n l]
  | _ => []
def ruI (x : Itm) : List Ru := if x.kind = 1 then x.decls.map (fun d => ruD d.name d.l) else if x.kind = 5 then ruN x.vals x.names else []
def itemM (s : S3) (x : Itm) : S3 := (ruI x).foldl stepR s
mutual
/-- an item and all that stand in it -/
def flatI : Itm → List Itm
  | .mk k s d n mn mx v l => .mk k s d n mn mx v l :: (if k = 2 ∨ k = 3 then flatIs l else [])
def flatIs : List Itm → List Itm
  | [] => []
  | x :: xs => flatI x ++ flatIs xs
end
theorem flatI_eq (x : Itm) : flatI x = x :: (if x.kind = 2 ∨ x.kind = 3 then flatIs x.l else []) := by cases x; rw [flatI]; rfl
theorem flatIs_append : ∀ (a b : List Itm), flatIs (a ++ b) = flatIs a ++ flatIs b
  | [], b => by rw [List.nil_append, show flatIs [] = [] by rw [flatIs], List.nil_append]
  | x :: a, b => by rw [List.cons_append, flatIs, flatIs, flatIs_append a b, List.append_assoc]
theorem flatIs_snoc {l : List Itm} {k : Nat} (hk : k < l.length) : flatIs (l.take (k + 1)) = flatIs (l.take k) ++ flatI l[k] := by
  rw [List.take_succ_eq_append_getElem hk, flatIs_append]
  congr 1
  rw [flatIs, show flatIs [] = [] by rw [flatIs], List.append_nil]
/-- the rules of some items -/
def rulesOf (l : List Itm) : List Ru := (flatIs l).flatMap ruI
def passM (s : S3) (l : List Itm) : S3 := (flatIs l).foldl itemM s
theorem pass_rules (s : S3) (l : List Itm) : passM s l = (rulesOf l).foldl stepR s := by
  rw [passM, rulesOf, List.foldl_flatMap]
  rfl
/-- a turn that only makes longer, or leaves as it is -/
def Up (s t : S3) : Prop := (∀ i, (s.at i).length ≤ (t.at i).length) ∧ ((∀ i, (t.at i).length ≤ (s.at i).length) → t = s)
theorem Up.refl (s : S3) : Up s s := ⟨fun _ => Nat.le_refl _, fun _ => rfl⟩
theorem Up.trans {s t u : S3} (h : Up s t) (k : Up t u) : Up s u := by
  refine ⟨fun i => Nat.le_trans (h.1 i) (k.1 i), fun hu => ?_⟩
  have e1 : t = s := h.2 fun i => Nat.le_trans (k.1 i) (hu i)
  subst e1
  exact k.2 hu
theorem up_step (s : S3) (r : Ru) : Up s (stepR s r) := by
  refine ⟨fun i => ?_, fun h => S3.ext_at fun i => ?_⟩
  · rw [step_at]; split
    · exact (addM_len _ _).1
    · exact Nat.le_refl _
  · have hi := h i
    rw [step_at] at hi ⊢
    split
    · rename_i hg
      rw [if_pos hg] at hi
      exact addM_stay _ _ hi
    · rfl
theorem up_fold : ∀ (R : List Ru) (s : S3), Up s (R.foldl stepR s)
  | [], s => Up.refl s
  | r :: R, s => (up_step s r).trans (up_fold R _)
theorem fold_fix : ∀ (R : List Ru) (s : S3), R.foldl stepR s = s → ∀ r ∈ R, stepR s r = s
  | [], _, _, r, hr => by simp at hr
  | r0 :: R, s, h, r, hr => by
    have e : stepR s r0 = s := (up_step s r0).2 fun i => by
      have := (up_fold R (stepR s r0)).1 i
      rw [List.foldl_cons] at h
      rw [h] at this; exact this
    rcases List.mem_cons.1 hr with rfl | hr
    · exact e
    · rw [List.foldl_cons, e] at h
      exact fold_fix R s h r hr
theorem grew_false {s t : S3} (hu : Up s t) (h : grewB s t = false) : t = s := hu.2 fun i => by
  simp only [grewB, Bool.or_eq_false_iff, decide_eq_false_iff_not, Nat.not_lt] at h
  match i with
  | 0 => exact h.1.1
  | 1 => exact h.1.2
  | _ + 2 => exact h.2
def totM (s : S3) : Nat := s.c.length + s.f.length + s.g.length
theorem grew_true {s t : S3} (hu : Up s t) (h : grewB s t = true) : totM s < totM t := by
  have h0 : s.c.length ≤ t.c.length := hu.1 0
  have h1 : s.f.length ≤ t.f.length := hu.1 1
  have h2 : s.g.length ≤ t.g.length := hu.1 2
  simp only [grewB, Bool.or_eq_true, decide_eq_true_eq] at h
  unfold totM
  omega
theorem grew_or {s t u : S3} (h : Up s t) (k : Up t u) : grewB s u = (grewB t u || grewB s t) := by
  have h0 : s.c.length ≤ t.c.length := h.1 0
  have h1 : s.f.length ≤ t.f.length := h.1 1
  have h2 : s.g.length ≤ t.g.length := h.1 2
  have k0 : t.c.length ≤ u.c.length := k.1 0
  have k1 : t.f.length ≤ u.f.length := k.1 1
  have k2 : t.g.length ≤ u.g.length := k.1 2
  rw [Bool.eq_iff_iff]
  simp only [grewB, Bool.or_eq_true, decide_eq_true_eq]
  omega
/-- what is used by some rules -/
inductive Us (R : List Ru) : Nat → Str → Prop where
  | free (r : Ru) (hr : r ∈ R) (hg : r.gd = none) (i : Nat) (x : Str) (hx : x ∈ r.at i) : Us R i x
  | held (r : Ru) (hr : r ∈ R) (k : Nat) (y : Str) (hg : r.gd = some (k, y)) (hy : Us R k y) (i : Nat) (x : Str) (hx : x ∈ r.at i) : Us R i x
theorem us_mono {R R' : List Ru} (h : ∀ r ∈ R, r ∈ R') {i : Nat} {x : Str} (hx : Us R i x) : Us R' i x := by
  induction hx with
  | free r hr hg i x hx => exact .free r (h r hr) hg i x hx
  | held r hr k y hg _ i x hx ih => exact .held r (h r hr) k y hg ih i x hx
theorem us_out {R : List Ru} {i : Nat} {x : Str} (h : Us R i x) : x ∈ R.flatMap fun r => r.at i := by
  cases h with
  | free r hr hg _ _ hx => exact List.mem_flatMap.2 ⟨r, hr, hx⟩
  | held r hr k y hg _ _ _ hx => exact List.mem_flatMap.2 ⟨r, hr, hx⟩
/-- sets that rise, of what is used -/
def InU (R : List Ru) (s : S3) : Prop := (∀ i, risesB (s.at i)) ∧ ∀ i x, x ∈ s.at i → Us R i x
theorem inU_nil (R : List Ru) : InU R ⟨[], [], []⟩ := by
  have h : ∀ i, (S3.mk [] [] []).at i = [] := fun i => match i with
    | 0 => rfl
    | 1 => rfl
    | _ + 2 => rfl
  exact ⟨fun i => by rw [h]; exact List.Pairwise.nil, fun i x hx => by rw [h] at hx; simp at hx⟩
theorem inU_step {R : List Ru} {r : Ru} (hr : r ∈ R) {s : S3} (h : InU R s) : InU R (stepR s r) := by
  refine ⟨fun i => ?_, fun i x hx => ?_⟩
  · rw [step_at]; split
    · exact (add_rises _ (h.1 i)).1
    · exact h.1 i
  · rw [step_at] at hx
    split at hx
    · rename_i hg
      rcases ((add_rises _ (h.1 i)).2 x).1 hx with hx | hx
      · exact h.2 i x hx
      · unfold gdB at hg
        split at hg
        · rename_i e; exact .free r hr e i x hx
        · rename_i k y e; exact .held r hr k y e (h.2 k y ((has_rises y (h.1 k)).1 hg)) i x hx
    · exact h.2 i x hx
theorem inU_fold {R : List Ru} : ∀ (Q : List Ru) {s : S3}, (∀ r ∈ Q, r ∈ R) → InU R s → InU R (Q.foldl stepR s)
  | [], _, _, h => h
  | r :: Q, _, hq, h => inU_fold Q (fun r hr => hq r (List.mem_cons_of_mem _ hr)) (inU_step (hq r List.mem_cons_self) h)
theorem inU_len {R : List Ru} {s : S3} (h : InU R s) (i : Nat) : (s.at i).length ≤ (R.flatMap fun r => r.at i).length :=
  nodup_sub_len (rises_nodup (h.1 i)) fun x hx => us_out (h.2 i x hx)
/-- exactly what is used -/
def FinU (R : List Ru) (s : S3) : Prop := (∀ i, risesB (s.at i)) ∧ ∀ i x, x ∈ s.at i ↔ Us R i x
theorem fin_of {R : List Ru} {s : S3} (h : InU R s) (hf : ∀ r ∈ R, stepR s r = s) : FinU R s := by
  refine ⟨h.1, fun i x => ⟨h.2 i x, fun hx => ?_⟩⟩
  have key : ∀ r ∈ R, gdB s r = true → ∀ i x, x ∈ r.at i → x ∈ s.at i := fun r hr hg i x hx => by
    have e : (stepR s r).at i = s.at i := congrArg (fun t => S3.at t i) (hf r hr)
    rw [step_at, if_pos hg] at e
    rw [← e]
    exact ((add_rises _ (h.1 i)).2 x).2 (.inr hx)
  induction hx with
  | free r hr hg i x hx => exact key r hr (by rw [gdB, hg]) i x hx
  | held r hr k y hg _ i x hx ih => exact key r hr (by rw [gdB, hg]; exact (has_rises y (h.1 k)).2 ih) i x hx
theorem fin_same {R R' : List Ru} {s s' : S3} (h : FinU R s) (h' : FinU R' s') (he : ∀ r, r ∈ R ↔ r ∈ R') : s = s' :=
  S3.ext_at fun i => rises_unique (h.1 i) (h'.1 i) fun x => by
    rw [h.2, h'.2]
    exact ⟨us_mono fun r hr => (he r).1 hr, us_mono fun r hr => (he r).2 hr⟩
theorem fin_within {R R' : List Ru} {s s' : S3} (h : FinU R s) (h' : FinU R' s') (he : ∀ r ∈ R, r ∈ R') (i : Nat) : ∀ x ∈ s.at i, x ∈ s'.at i := fun x hx => (h'.2 i x).2 (us_mono he ((h.2 i x).1 hx))
end Go.Proofs.YtlnaihkombcbcaaGreat
end
noncomputable section
namespace Go.Proofs.YtlnaihkombcbcaaGreat
open Go.RowKit Go.Sort Go.Ev
def okX (x : Itm) : Prop := okDs x.decls ∧ x.names.length ≤ 20 ∧ cntVs x.vals ≤ 100 ∧ okVs x.vals = true
mutual
theorem flatI_ok : ∀ x : Itm, okI x → (flatI x).length ≤ cntI x ∧ ∀ y ∈ flatI x, okX y
  | .mk k s d n mn mx v l => fun h => by
    obtain ⟨h1, h2, h3, h4, h5⟩ := (okI_eq _).1 h
    obtain ⟨h6, h7⟩ := flatIs_ok l h5
    rw [flatI, cntI]
    by_cases hk : k = 2 ∨ k = 3
    · rw [if_pos hk]
      refine ⟨by rw [List.length_cons]; omega, fun y hy => ?_⟩
      rcases List.mem_cons.1 hy with rfl | hy
      · exact ⟨h1, h2, h3, h4⟩
      · exact h7 y hy
    · rw [if_neg hk]
      refine ⟨by rw [List.length_cons, List.length_nil]; omega, fun y hy => ?_⟩
      obtain rfl := List.mem_singleton.1 hy
      exact ⟨h1, h2, h3, h4⟩
theorem flatIs_ok : ∀ l : List Itm, okIs l → (flatIs l).length ≤ cntIs l ∧ ∀ y ∈ flatIs l, okX y
  | [] => fun _ => by rw [flatIs, cntIs]; exact ⟨Nat.le_refl _, by simp⟩
  | x :: xs => fun h => by
    have hx : okI x := okIs_at h x List.mem_cons_self
    have hxs : okIs xs := by
      have := (okIs_append [x] xs).1 h
      exact this.2
    obtain ⟨h1, h2⟩ := flatI_ok x hx
    obtain ⟨h3, h4⟩ := flatIs_ok xs hxs
    rw [flatIs, cntIs]
    refine ⟨by rw [List.length_append]; omega, fun y hy => ?_⟩
    rcases List.mem_append.1 hy with hy | hy
    · exact h2 y hy
    · exact h4 y hy
end
theorem ruI_ok {x : Itm} (h : okX x) : (ruI x).length ≤ 20 ∧ ∀ r ∈ ruI x, ∀ i, (r.at i).length ≤ 200 := by
  obtain ⟨⟨h1, h2⟩, -, h3, h4⟩ := h
  unfold ruI
  split
  · refine ⟨by rw [List.length_map]; exact h1, fun r hr i => ?_⟩
    obtain ⟨d, hd, rfl⟩ := List.mem_map.1 hr
    have h5 := (h2 d hd).1
    have h6 := rfN_le d.l
    have h7 := ofM_le 1 d.l
    have h8 := vN_le d.l
    match i with
    | 0 => show (rfN d.l).length ≤ 200; omega
    | 1 =>
      show (if frB d.name = true then ofM 1 d.l else []).length ≤ 200
      split
      · omega
      · simp
    | _ + 2 =>
      show (if faB d.name = true then vN d.l else []).length ≤ 200
      split
      · omega
      · simp
  · split
    · have h6 := rfN_le x.vals
      have h8 := vN_le x.vals
      unfold ruN
      split
      · refine ⟨by simp, fun r hr i => ?_⟩
        obtain rfl := List.mem_singleton.1 hr
        match i with
        | 0 => show (rfN x.vals).length ≤ 200; omega
        | 1 => show ([] : List Str).length ≤ 200; simp
        | _ + 2 => show (vN x.vals).length ≤ 200; omega
      · exact ⟨by simp, by simp⟩
    · exact ⟨by simp, by simp⟩
theorem flatMap_le {α β : Type} (f : α → List β) (m : Nat) : ∀ (l : List α), (∀ x ∈ l, (f x).length ≤ m) → (l.flatMap f).length ≤ l.length * m
  | [], _ => by simp
  | x :: l, h => by
    have h1 := flatMap_le f m l fun y hy => h y (List.mem_cons_of_mem _ hy)
    have h2 := h x List.mem_cons_self
    rw [List.flatMap_cons, List.length_append, List.length_cons, Nat.add_mul]
    omega
theorem okIs_flatten : ∀ (L : List (List Itm)), (∀ l ∈ L, okSh l) → okIs L.flatten ∧ cntIs L.flatten ≤ 15 * L.length
  | [], _ => ⟨by rw [List.flatten_nil, okIs]; trivial, by simp [cntIs]⟩
  | l :: L, h => by
    obtain ⟨h1, h2⟩ := okIs_flatten L fun x hx => h x (List.mem_cons_of_mem _ hx)
    obtain ⟨h3, h4⟩ := h l List.mem_cons_self
    rw [List.flatten_cons]
    exact ⟨(okIs_append l L.flatten).2 ⟨h4, h1⟩, by rw [cntIs_append, List.length_cons]; omega⟩
/-- what four sheets of little use is little -/
theorem small_len {L : List (List Itm)} (h : ∀ l ∈ L, okSh l) (h4 : L.length ≤ 4) {s : S3} (hs : InU (rulesOf L.flatten) s) (i : Nat) : (s.at i).length ≤ 240000 := by
  obtain ⟨h1, h2⟩ := okIs_flatten L h
  obtain ⟨h3, h5⟩ := flatIs_ok _ h1
  have a1 : (rulesOf L.flatten).length ≤ (flatIs L.flatten).length * 20 := flatMap_le ruI 20 _ fun x hx => (ruI_ok (h5 x hx)).1
  have a2 : ((rulesOf L.flatten).flatMap fun r => r.at i).length ≤ (rulesOf L.flatten).length * 200 := flatMap_le (fun r : Ru => r.at i) 200 _ fun r hr => by
    obtain ⟨x, hx, hr⟩ := List.mem_flatMap.1 hr
    exact (ruI_ok (h5 x hx)).2 r hr i
  have a3 := inU_len hs i
  omega
/-- what an item's walk asks of it -/
structure ItOk (G : S3 → Prop) (x : Itm) : Prop where
  ok : okX x
  g : ∀ r ∈ ruI x, ∀ s, G s → G (stepR s r)
def Sz (s : S3) : Prop := s.c.length ≤ 500000 ∧ s.f.length ≤ 500000 ∧ s.g.length ≤ 500000
theorem sz_of {L : List (List Itm)} (h : ∀ l ∈ L, okSh l) (h4 : L.length ≤ 4) {s : S3} (hs : InU (rulesOf L.flatten) s) : Sz s := by
  have h0 : s.c.length ≤ 240000 := small_len h h4 hs 0
  have h1 : s.f.length ≤ 240000 := small_len h h4 hs 1
  have h2 : s.g.length ≤ 240000 := small_len h h4 hs 2
  exact ⟨by omega, by omega, by omega⟩
theorem itok_of {L : List (List Itm)} (h : ∀ l ∈ L, okSh l) : ∀ x ∈ flatIs L.flatten, ItOk (InU (rulesOf L.flatten)) x := fun x hx =>
  ⟨(flatIs_ok _ (okIs_flatten L h).1).2 x hx, fun _ hr _ hs => inU_step (List.mem_flatMap.2 ⟨x, hx, hr⟩) hs⟩
theorem itok_fold {G : S3 → Prop} : ∀ (R : List Ru) {s : S3}, (∀ r ∈ R, ∀ s, G s → G (stepR s r)) → G s → G (R.foldl stepR s)
  | [], _, _, h => h
  | r :: R, s, hg, h => itok_fold R (fun r hr => hg r (List.mem_cons_of_mem _ hr)) (hg r List.mem_cons_self s h)
end Go.Proofs.YtlnaihkombcbcaaGreat
end
