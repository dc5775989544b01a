/-
  R4.count, R4.Small: what they bound.
-/
import Derived.Test.YtlnaihkombcbcaaGreatQData
import Derived.Lib.Hide
namespace Go.Proofs.YtlnaihkombcbcaaGreat
open Go.RowKit Go.Ev
def shortS (l : List Simp) : Prop := ∀ x ∈ l, x.name.size ≤ 100
theorem simp_lt {l : List Simp} {x : Simp} (h : x ∈ l) : SizeOf.sizeOf x.l < SizeOf.sizeOf l := by
  have h1 := List.sizeOf_lt_of_mem h
  cases x
  simp [Simp.l] at h1 ⊢
  omega
theorem short_snoc {l : List Simp} {k : Nat} (hk : k < l.length) (h : shortS (l.take k)) (hx : l[k].name.size ≤ 100) : shortS (l.take (k + 1)) := by
  intro x hm
  rw [List.take_succ_eq_append_getElem hk, List.mem_append] at hm
  rcases hm with hm | hm
  · exact h x hm
  · simp at hm; subst hm; exact hx
/-- the cells of a list's k-th simple selector -/
theorem simp_cells {w : World} {b o : Nat} {l : List Simp} (h : ∀ k (hk : k < l.length) j a, (encS l[k])[j]? = some a → ∃ x, w.cell? ⟨b, o + (k * 6 + j), none⟩ = some x ∧ At w a x) {k : Nat} (hk : k < l.length) :
    w.cell? ⟨b, o + k * 6, none⟩ = some (.int .i64 l[k].kind) ∧ w.cell? ⟨b, o + k * 6 + 1, none⟩ = some (.string l[k].name) ∧ w.cell? ⟨b, o + k * 6 + 2, none⟩ = some (.string l[k].value) ∧
      (∃ a, w.cell? ⟨b, o + k * 6 + 3, none⟩ = some (.int .i64 a)) ∧ (∃ a, w.cell? ⟨b, o + k * 6 + 4, none⟩ = some (.int .i64 a)) ∧
      ∃ ad cap, w.cell? ⟨b, o + k * 6 + 5, none⟩ = some (.slice ad l[k].l.length cap) ∧ At w (.sl l[k].l.length 6 (l[k].l.flatMap encS)) (.slice ad l[k].l.length cap) := by
  have h9 := h k hk
  generalize l[k] = x at *
  obtain ⟨kd, nm, vl, a, bb, ll⟩ := x
  rw [encS, encSs_flat] at h9
  obtain ⟨x0, e0, v0⟩ := h9 0 _ rfl
  obtain ⟨x1, e1, v1⟩ := h9 1 _ rfl
  obtain ⟨x2, e2, v2⟩ := h9 2 _ rfl
  obtain ⟨x3, e3, v3⟩ := h9 3 _ rfl
  obtain ⟨x4, e4, v4⟩ := h9 4 _ rfl
  obtain ⟨x5, e5, v5⟩ := h9 5 _ rfl
  obtain rfl : x0 = _ := v0
  obtain rfl : x1 = _ := v1
  obtain rfl : x2 = _ := v2
  obtain rfl : x3 = _ := v3
  obtain rfl : x4 = _ := v4
  have v5' := v5
  obtain ⟨ad, cap, rfl, -⟩ := At.sl_form v5
  simp only [Nat.add_zero, ← Nat.add_assoc] at e0 e1 e2 e3 e4 e5
  exact ⟨e0, e1, e2, ⟨_, e3⟩, ⟨_, e4⟩, ad, cap, e5, v5'⟩
/-- what R4.count tells -/
def CountPost (l : List Simp) (n most : Int) (w : World) (e : Ending) (w' : World) : Prop :=
  ∃ r : Int, e = .returned (.int .i64 r) ∧ n ≤ r ∧ r ≤ most + 1 ∧ Hid (r ≤ most → n + l.length ≤ r ∧ shortS l) ∧ Below w.heap.size w w'
set_option maxHeartbeats 2000000 in
theorem count_any (N : Nat) : ∀ (l : List Simp), SizeOf.sizeOf l ≤ N → ∀ (v : Value) (n most : Int) (w : World), At w (.sl l.length 6 (l.flatMap encS)) v → 0 ≤ n → n ≤ most + 1 → 0 ≤ most → most ≤ 1000 →
    Calls Tryz.prog 110 #[v, .int .i64 n, .int .i64 most] w (CountPost l n most w) := by
  induction N with
  | zero => intro l hl; cases l <;> simp at hl <;> omega
  | succ N ih =>
    intro l hl v n most w hv h0 h1 h2 h3
    rcases sl_cells encS 6 encS_len hv with ⟨rfl, ad, cap, rfl⟩ | ⟨b, o, cap, rfl, hcap, hpos, hc⟩
    · go_enter Tryz.func110, Tryz.ntmps110
      go_wp2
      go_loopw [1, 7] (fun v1 i wr => i = .int .i64 0 ∧ v1 = .int .i64 n ∧ wr = w) (fun _ _ _ => 0)
      case atStart => exact ⟨rfl, rfl, rfl⟩
      case round =>
        obtain ⟨rfl, rfl, rfl⟩ := hrel
        go_wp2
        go_ret
        exact ⟨n, rfl, Int.le_refl _, h1, Lib.hid fun _ => ⟨by simp, fun x hx => by cases hx⟩, Below.refl _ _⟩
    · have IH := Lib.hid fun k (hk : k < l.length) => ih l[k].l (by have := simp_lt (List.getElem_mem hk); omega)
      have HC := Lib.hid fun k (hk : k < l.length) => simp_cells hc hk
      clear ih hc hl hv
      go_enter Tryz.func110, Tryz.ntmps110
      go_wp2
      go_loopw [1, 7] (fun v1 i wr => ∃ (k : Nat) (m : Int), k ≤ l.length ∧ i = .int .i64 k ∧ v1 = .int .i64 m ∧ n ≤ m ∧ m ≤ most + 1 ∧ Hid (m ≤ most → n + k ≤ m ∧ shortS (l.take k)) ∧ Below w.heap.size w wr) (fun _ i _ => l.length - (intOf i).toNat)
      case atStart => exact ⟨0, n, Nat.zero_le _, rfl, rfl, Int.le_refl _, h1, Lib.hid fun _ => ⟨by simp, fun x hx => by simp at hx⟩, Below.refl _ _⟩
      case round =>
        obtain ⟨k, m, hk, rfl, rfl, hnm, hmm, hh, hB⟩ := hrel
        by_cases hlt : k < l.length
        · by_cases hm : m ≤ most
          · have hk1000 : (k : Int) ≤ 1000 := by have := (hh.out hm).1; omega
            obtain ⟨-, c1, c2, -, -, ad, cp, c5, ha⟩ := HC.out k hlt
            have c1' := cell_up c1 hB
            have c2' := cell_up c2 hB
            have c5' := cell_up c5 hB
            have hrec := IH.out k hlt _ (m + 1) most wr (ha.below hB) (by omega) (by omega) h2 h3
            have HREC := Lib.hid hrec
            have HSN := Lib.hid (short_snoc hlt)
            clear hrec c1 c2 c5 ha
            generalize l[k].name = nm at *
            generalize l[k].value = vl at *
            generalize l[k].l = ll at *
            by_cases hn1 : nm.size ≤ 100
            · by_cases hn2 : vl.size ≤ 100
              · go_wp2_with fail
                refine HREC.out.mono ?_
                rintro e w2 ⟨r, rfl, hr1, hr2, hr3, hB2⟩
                go_wp2
                go_roundw
                case rel =>
                  refine ⟨k + 1, r, by omega, by go_num, rfl, by omega, hr2, Lib.hid fun hr => ?_, bup hB hB2⟩
                  obtain ⟨g1, g2⟩ := hh.out hm
                  exact ⟨by push_cast; omega, HSN.out g2 hn1⟩
                case measure => simp [intOf]; omega
              · go_wp2
                go_ret
                exact ⟨most + 1, by go_num, by omega, Int.le_refl _, Lib.hid fun h => by omega, hB⟩
            · go_wp2
              go_ret
              exact ⟨most + 1, by go_num, by omega, Int.le_refl _, Lib.hid fun h => by omega, hB⟩
          · go_wp2
            go_ret
            exact ⟨m, rfl, hnm, hmm, Lib.hid fun h => by omega, hB⟩
        · obtain rfl : k = l.length := by omega
          have hh' := hh.out
          rw [List.take_length] at hh'
          have HH := Lib.hid hh'
          clear hh' hh
          go_wp2
          go_ret
          exact ⟨m, rfl, hnm, hmm, HH, hB⟩
end Go.Proofs.YtlnaihkombcbcaaGreat
