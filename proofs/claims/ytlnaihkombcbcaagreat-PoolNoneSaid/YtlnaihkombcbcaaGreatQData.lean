/-
  Selectors as they lie in memory.
-/
import Derived.Test.YtlnaihkombcbcaaGreatBase
import Derived.Test.YtlnaihkombcbcaaGreatProg
import Derived.Test.YtlnaihkombcbcaaGreatEvA
import Derived.ChangeSlices
import Derived.ChangeSame
import Derived.ChangeArms
import GoSem.ClaimJoined
noncomputable section
namespace Go.Proofs.YtlnaihkombcbcaaGreat
open Go.ChangeShapes Go.WideShapes Go.RowKit Go.Ev
inductive Simp where
  | mk (kind : Int) (name value : ByteArray) (a b : Int) (l : List Simp)
namespace Simp
def kind : Simp → Int | .mk k _ _ _ _ _ => k
def name : Simp → ByteArray | .mk _ n _ _ _ _ => n
def value : Simp → ByteArray | .mk _ _ v _ _ _ => v
def l : Simp → List Simp | .mk _ _ _ _ _ l => l
end Simp
mutual
def encS : Simp → List AV
  | .mk k n v a b l => [.g (.int .i64 k), .g (.string n), .g (.string v), .g (.int .i64 a), .g (.int .i64 b), .sl l.length 6 (encSs l)]
def encSs : List Simp → List AV
  | [] => []
  | x :: xs => encS x ++ encSs xs
end
theorem encSs_flat : ∀ l : List Simp, encSs l = l.flatMap encS
  | [] => by rw [encSs]; rfl
  | x :: xs => by rw [encSs, encSs_flat xs, List.flatMap_cons]
theorem encS_len (x : Simp) : (encS x).length = 6 := by cases x; rw [encS]; rfl
structure Part where
  comb : Int
  l : List Simp
structure Cx where
  parts : List Part
  pseudo : ByteArray
def encP (p : Part) : List AV := [.g (.int .i64 p.comb), .sl p.l.length 6 (p.l.flatMap encS)]
def encC (c : Cx) : List AV := [.sl c.parts.length 2 (c.parts.flatMap encP), .g (.string c.pseudo)]
section
variable {w : World}
theorem row_get {b o : Nat} {cs : List AV} (h : RowAt w b o cs) {i : Nat} {a : AV} (hi : cs[i]? = some a) : ∃ v, w.cell? ⟨b, o + i, none⟩ = some v ∧ At w a v := (RowR.get h hi).2
theorem flat_get {α : Type} (enc : α → List AV) (sz : Nat) (hsz : ∀ x, (enc x).length = sz) : ∀ (l : List α) (k : Nat) (hk : k < l.length) (j : Nat), j < sz → (l.flatMap enc)[k * sz + j]? = (enc l[k])[j]?
  | x :: xs, 0, _, j, hj => by
    rw [List.flatMap_cons, Nat.zero_mul, Nat.zero_add, List.getElem?_append_left (by rw [hsz]; exact hj)]; rfl
  | x :: xs, k + 1, hk, j, hj => by
    rw [List.flatMap_cons, List.getElem?_append_right (by rw [hsz, Nat.succ_mul]; omega), hsz]
    rw [show (k + 1) * sz + j - sz = k * sz + j by rw [Nat.succ_mul]; omega]
    exact flat_get enc sz hsz xs k (by simpa using hk) j hj
/-- a slice's cells, element by element -/
theorem sl_cells {α : Type} (enc : α → List AV) (sz : Nat) (hsz : ∀ x, (enc x).length = sz) {l : List α} {v : Value} (h : At w (.sl l.length sz (l.flatMap enc)) v) :
    (l = [] ∧ ∃ ad cap, v = .slice ad 0 cap) ∨ ∃ b o cap, v = .slice (some ⟨b, o, none⟩) l.length cap ∧ l.length ≤ cap ∧ 0 < l.length ∧
      ∀ k (hk : k < l.length) j a, (enc l[k])[j]? = some a → ∃ x, w.cell? ⟨b, o + (k * sz + j), none⟩ = some x ∧ At w a x := by
  obtain ⟨ad, cap, rfl, hcap, h0⟩ := h
  by_cases hl : l = []
  · subst hl; exact .inl ⟨rfl, ad, cap, rfl⟩
  · have hpos : 0 < l.length := List.length_pos_iff.2 hl
    rcases h0 with h0 | ⟨rb, ro, rfl, hr⟩
    · omega
    · refine .inr ⟨rb, ro, cap, rfl, hcap, hpos, fun k hk j a hj => ?_⟩
      have hjs : j < sz := by have := (List.getElem?_eq_some_iff.1 hj).1; rw [hsz] at this; exact this
      exact row_get hr (by rw [flat_get enc sz hsz l k hk j hjs]; exact hj)
theorem At.sl_form {n sz : Nat} {cs : List AV} {v : Value} (h : At w (.sl n sz cs) v) : ∃ ad cap, v = .slice ad n cap ∧ n ≤ cap := by
  obtain ⟨ad, cap, rfl, hc, -⟩ := h
  exact ⟨_, _, rfl, hc⟩
end
section
variable {H : Type} {enc : TypeId × Value → H} {P : Program} {W : World} {sp : Nat → Bool} {held : Bool}
/-- what its weights bound -/
def Fits (P : Program) (t : TypeId) (d : DataW H) : Prop := ∀ x ∈ d.weights P t, x ≤ reachBytes
theorem mem_weightsAll {e : TypeId} : ∀ {l : List (DataW H)} {d : DataW H}, d ∈ l → ∀ x ∈ d.weights P e, x ∈ DataW.weightsAll P e l
  | y :: l, d, h, x, hx => by
    simp only [DataW.weightsAll, List.mem_append]
    rcases List.mem_cons.1 h with rfl | h
    · exact .inl hx
    · exact .inr (mem_weightsAll h x hx)
theorem mem_weightsEach : ∀ {ts : List TypeId} {l : List (DataW H)} {i : Nat} {t : TypeId} {d : DataW H}, ts[i]? = some t → l[i]? = some d → ∀ x ∈ d.weights P t, x ∈ DataW.weightsEach P ts l
  | [], _, _, _, _, h, _, _, _ => by simp at h
  | _ :: _, [], _, _, _, _, h, _, _ => by simp at h
  | t' :: ts, d' :: l, 0, t, d, h1, h2, x, hx => by
    simp only [List.getElem?_cons_zero, Option.some.injEq] at h1 h2
    subst h1 h2
    simp only [DataW.weightsEach, List.mem_append]
    exact .inl hx
  | t' :: ts, d' :: l, i + 1, t, d, h1, h2, x, hx => by
    simp only [DataW.weightsEach, List.mem_append]
    exact .inr (mem_weightsEach (i := i) (by simpa using h1) (by simpa using h2) x hx)
/-- a slice that comes in, if its elements can be read -/
theorem open_sl {α : Type} (Good : α → Prop) (en : α → List AV) (sz : Nat) (hsz : ∀ x, (en x).length = sz) (hpos : 0 < sz) {t e : TypeId} (ht : P.underlying t = some (.slice e)) (hc : P.cellsOf e = sz) {fuel : Nat}
    (hel : ∀ m, m < fuel → ∀ cs x, DataW.trod enc P W 0 sp held m e cs = some x → Fits P e x.1 → ∃ a : α, Ats W (en a) cs ∧ Good a) {cs : List Value} {x : DataW H × List MemPlace} (h : DataW.trod enc P W 0 sp held fuel t cs = some x) (hfit : Fits P t x.1) :
    ∃ (l : List α) (v : Value), cs = [v] ∧ At W (.sl l.length sz (l.flatMap en)) v ∧ (∀ a ∈ l, Good a) ∧ l.length * P.bytesOf e ≤ reachBytes := by
  rcases DataW.trod_slice ht h with ⟨rfl, -⟩ | ⟨ad, len, cap, elems, rest, n, hf, rfl, rfl, -, hl, -, hlen, hcell, -, -⟩
  · exact ⟨[], _, rfl, ⟨none, 0, rfl, Nat.le_refl _, .inl rfl⟩, by simp, by simp⟩
  · have hw : (Go.DataW.slice (elems.map (·.1)) (rest.map (·.1))).weights P t = ((elems.map (·.1)).length + (rest.map (·.1)).length) * P.bytesOf e :: (DataW.weightsAll P e (elems.map (·.1)) ++ DataW.weightsAll P e (rest.map (·.1))) := by
      rw [DataW.weights, ht]
    have hbound : len * P.bytesOf e ≤ reachBytes := by
      have h9 := hfit _ (by rw [hw]; exact List.mem_cons_self)
      rw [List.length_map, hlen] at h9
      exact Nat.le_trans (Nat.mul_le_mul_right _ (Nat.le_add_right _ _)) h9
    have each : ∀ i, i < len → ∃ (a : α) (ci : List Value), W.cells? 0 (ad.add (i * sz)) sz = some ci ∧ Ats W (en a) ci ∧ Good a := fun i hi => by
      have h1 := hcell i hi
      rw [List.getElem?_eq_getElem (by omega), hc, Option.bind_eq_some_iff] at h1
      obtain ⟨ci, h2, h3⟩ := h1
      obtain ⟨a, ha, hg⟩ := hel n (by omega) ci _ h3 (fun y hy => hfit y (by
        rw [hw]
        exact List.mem_cons_of_mem _ (List.mem_append_left _ (mem_weightsAll (List.mem_map.2 ⟨_, List.getElem_mem (by omega), rfl⟩) y hy))))
      exact ⟨a, ci, h2, ha, hg⟩
    have : ∃ l : List α, l.length = len ∧ (∀ a ∈ l, Good a) ∧ ∀ i (hi : i < l.length), ∃ ci : List Value, W.cells? 0 (ad.add (i * sz)) sz = some ci ∧ Ats W (en l[i]) ci := by
      clear h hcell hlen hw hfit
      have key : ∀ m, m ≤ len → ∃ l : List α, l.length = m ∧ (∀ a ∈ l, Good a) ∧ ∀ i (hi : i < l.length), ∃ ci : List Value, W.cells? 0 (ad.add (i * sz)) sz = some ci ∧ Ats W (en l[i]) ci := by
        intro m
        induction m with
        | zero => intro _; exact ⟨[], rfl, by simp, fun i hi => by simp at hi⟩
        | succ m ih =>
          intro hm
          obtain ⟨l, rfl, hgl, h2⟩ := ih (by omega)
          obtain ⟨a, ci, h3, h4, hga⟩ := each l.length (by omega)
          refine ⟨l ++ [a], by simp, fun y hy => ?_, fun i hi => ?_⟩
          · rcases List.mem_append.1 hy with hy | hy
            · exact hgl y hy
            · simp at hy; subst hy; exact hga
          by_cases hil : i < l.length
          · obtain ⟨cj, h5, h6⟩ := h2 i hil
            exact ⟨cj, h5, by rw [List.getElem_append_left hil]; exact h6⟩
          · have : i = l.length := by simp at hi; omega
            subst this
            exact ⟨ci, h3, by rw [List.getElem_append_right (Nat.le_refl _)]; simpa using h4⟩
      exact key len (Nat.le_refl _)
    obtain ⟨l, hll, hgl, hl2⟩ := this
    refine ⟨l, _, rfl, ⟨some ad, cap, by rw [hll], by rw [hll]; exact hl, ?_⟩, hgl, by rw [hll]; exact hbound⟩
    by_cases h0 : l.length = 0
    · exact .inl h0
    · right
      have hrow : ∀ (i : Nat) (a : AV), (l.flatMap en)[i]? = some a → ∃ v, W.cell? (ad.add i) = some v ∧ At W a v := by
        intro i a hi
        have hlt : i < l.length * sz := by
          have := (List.getElem?_eq_some_iff.1 hi).1
          have e : (l.flatMap en).length = l.length * sz := by
            clear hi this hl2 hll h0 hgl
            induction l with
            | nil => simp
            | cons x xs ih => rw [List.flatMap_cons, List.length_append, ih, hsz, List.length_cons, Nat.succ_mul]; omega
          omega
        have hk : i / sz < l.length := Nat.div_lt_of_lt_mul (by rw [Nat.mul_comm]; exact hlt)
        have hj : i % sz < sz := Nat.mod_lt _ hpos
        obtain ⟨ci, h5, h6⟩ := hl2 (i / sz) hk
        have e2 : i / sz * sz + i % sz = i := by rw [Nat.mul_comm]; exact Nat.div_add_mod i sz
        have h7 := flat_get en sz hsz l (i / sz) hk (i % sz) hj
        rw [e2, hi] at h7
        obtain ⟨-, h8, h9⟩ := World.cells?_some h5
        obtain ⟨v, h10, h11⟩ := VRs.get h6 h7.symm
        refine ⟨v, ?_, h11⟩
        have h12 := h9 (i % sz) hj
        rw [h10] at h12
        rw [← h12]
        congr 1
        obtain ⟨b, o, s⟩ := ad
        unfold Addr.add
        split <;> split <;> (try split) <;> simp_all <;> omega
      have hspot : ad = ⟨ad.block, ad.off, none⟩ := by
        obtain ⟨v, h1, -⟩ := hrow 0 ((l.flatMap en)[0]'(by
          cases l with
          | nil => exact absurd rfl h0
          | cons x xs => rw [List.flatMap_cons, List.length_append, hsz]; omega)) (List.getElem?_eq_getElem _)
        obtain ⟨b, o, s⟩ := ad
        cases s with
        | none => rfl
        | some _ =>
          exfalso
          revert h1
          simp only [Addr.add, World.cell?]
          split <;> simp
      refine ⟨ad.block, ad.off, by rw [← hspot], RowR.mk ?_ fun i a hi => ?_⟩
      · obtain ⟨v, h1, -⟩ := hrow 0 ((l.flatMap en)[0]'(by
          cases l with
          | nil => exact absurd rfl h0
          | cons x xs => rw [List.flatMap_cons, List.length_append, hsz]; omega)) (List.getElem?_eq_getElem _)
        rw [hspot] at h1
        have := cell_lt h1
        simpa [Addr.add] using this
      · obtain ⟨v, h1, h2⟩ := hrow i a hi
        refine ⟨v, ?_, h2⟩
        rw [hspot] at h1
        rw [show (⟨ad.block, ad.off + i, none⟩ : Addr) = (⟨ad.block, ad.off, none⟩ : Addr).add i by simp [Addr.add]]
        exact h1
end
end Go.Proofs.YtlnaihkombcbcaaGreat
end
