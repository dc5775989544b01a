/-
  R4.Small: what it bounds.
-/
import Derived.Test.YtlnaihkombcbcaaGreatQCount
namespace Go.Proofs.YtlnaihkombcbcaaGreat
open Go.RowKit Go.Ev
def wtP (p : Part) : Nat := p.l.length
def wtC (c : Cx) : Nat := c.parts.length + (c.parts.map wtP).sum
def wt (l : List Cx) : Nat := l.length + (l.map wtC).sum
def shortC (c : Cx) : Prop := ∀ p ∈ c.parts, shortS p.l
theorem sum_take_succ {α : Type} (f : α → Nat) (l : List α) (k : Nat) (hk : k < l.length) : ((l.take (k + 1)).map f).sum = ((l.take k).map f).sum + f l[k] := by
  rw [List.take_succ_eq_append_getElem hk, List.map_append, List.sum_append]; simp
theorem forall_take_succ {α : Type} {p : α → Prop} {l : List α} {k : Nat} (hk : k < l.length) (h : ∀ x ∈ l.take k, p x) (hx : p l[k]) : ∀ x ∈ l.take (k + 1), p x := by
  intro x hm
  rw [List.take_succ_eq_append_getElem hk, List.mem_append] at hm
  rcases hm with hm | hm
  · exact h x hm
  · simp at hm; subst hm; exact hx
theorem cx_cells {w : World} {b o : Nat} {l : List Cx} (h : ∀ k (hk : k < l.length) j a, (encC l[k])[j]? = some a → ∃ x, w.cell? ⟨b, o + (k * 2 + j), none⟩ = some x ∧ At w a x) {k : Nat} (hk : k < l.length) :
    ∃ ad cap, w.cell? ⟨b, o + k * 2, none⟩ = some (.slice ad l[k].parts.length cap) ∧ At w (.sl l[k].parts.length 2 (l[k].parts.flatMap encP)) (.slice ad l[k].parts.length cap) ∧ w.cell? ⟨b, o + k * 2 + 1, none⟩ = some (.string l[k].pseudo) := by
  obtain ⟨x0, e0, v0⟩ := h k hk 0 _ rfl
  obtain ⟨x1, e1, v1⟩ := h k hk 1 _ rfl
  obtain rfl : x1 = _ := v1
  have v0' := v0
  obtain ⟨ad, cap, rfl, -⟩ := At.sl_form v0
  simp only [Nat.add_zero, ← Nat.add_assoc] at e0 e1
  exact ⟨ad, cap, e0, v0', e1⟩
theorem part_cells {w : World} {b o : Nat} {l : List Part} (h : ∀ k (hk : k < l.length) j a, (encP l[k])[j]? = some a → ∃ x, w.cell? ⟨b, o + (k * 2 + j), none⟩ = some x ∧ At w a x) {k : Nat} (hk : k < l.length) :
    w.cell? ⟨b, o + k * 2, none⟩ = some (.int .i64 l[k].comb) ∧ ∃ ad cap, w.cell? ⟨b, o + k * 2 + 1, none⟩ = some (.slice ad l[k].l.length cap) ∧ At w (.sl l[k].l.length 6 (l[k].l.flatMap encS)) (.slice ad l[k].l.length cap) := by
  obtain ⟨x0, e0, v0⟩ := h k hk 0 _ rfl
  obtain ⟨x1, e1, v1⟩ := h k hk 1 _ rfl
  obtain rfl : x0 = _ := v0
  have v1' := v1
  obtain ⟨ad, cap, rfl, -⟩ := At.sl_form v1
  simp only [Nat.add_zero, ← Nat.add_assoc] at e0 e1
  exact ⟨e0, ad, cap, e1, v1'⟩
/-- what R4.Small tells -/
def SmallPost (l : List Cx) (most : Int) (w : World) (e : Ending) (w' : World) : Prop := ∃ b : Bool, e = .returned (.bool b) ∧ Hid (b = true → (wt l : Int) ≤ most ∧ ∀ c ∈ l, shortC c) ∧ Below w.heap.size w w'
set_option maxHeartbeats 4000000 in
theorem small4_any (l : List Cx) (v : Value) (most : Int) (w : World) (hv : At w (.sl l.length 2 (l.flatMap encC)) v) (hg : ∀ c ∈ l, c.parts.length ≤ 140737488351232) (h2 : 0 ≤ most) (h3 : most ≤ 1000) :
    Calls Tryz.prog 54 #[v, .int .i64 most] w (SmallPost l most w) := by
  rcases sl_cells encC 2 (fun _ => rfl) hv with ⟨rfl, ad, cap, rfl⟩ | ⟨b, o, cap, rfl, hcap, hpos, hc⟩
  · go_enter Tryz.func54, Tryz.ntmps54
    go_wp2
    go_loopw [5, 6] (fun n i wr => i = .int .i64 0 ∧ n = .int .i64 0 ∧ wr = w) (fun _ _ _ => 0)
    case atStart => exact ⟨rfl, rfl, rfl⟩
    case round =>
      obtain ⟨rfl, rfl, rfl⟩ := hrel
      go_wp2
      go_ret
      exact ⟨_, rfl, Lib.hid fun _ => ⟨by simp [wt]; exact h2, fun c hc => by cases hc⟩, Below.refl _ _⟩
  · have HC := Lib.hid fun k (hk : k < l.length) => cx_cells hc hk
    have HG := Lib.hid hg
    clear hc hv hg
    go_enter Tryz.func54, Tryz.ntmps54
    go_wp2
    go_loopw [5, 6] (fun v5 i wr => ∃ (k : Nat) (m : Int), k ≤ l.length ∧ i = .int .i64 k ∧ v5 = .int .i64 m ∧ 0 ≤ m ∧ Hid (m ≤ most → (l.length : Int) + (((l.take k).map wtC).sum : Nat) ≤ m ∧ ∀ c ∈ l.take k, shortC c) ∧ Below w.heap.size w wr) (fun _ i _ => l.length - (intOf i).toNat)
    case atStart => exact ⟨0, l.length, Nat.zero_le _, rfl, rfl, by omega, Lib.hid fun _ => ⟨by simp, fun x hx => by simp at hx⟩, Below.refl _ _⟩
    case round =>
      obtain ⟨k, m, hk, rfl, rfl, hm0, hh, hB⟩ := hrel
      by_cases hlt : k < l.length
      · by_cases hm : m ≤ most
        · have hk1000 : (k : Int) ≤ 1000 := by have := (hh.out hm).1; omega
          obtain ⟨ad, cp, c0, ha, c1⟩ := HC.out k hlt
          have c0' := cell_up c0 hB
          have c1' := cell_up c1 hB
          have hpb := HG.out _ (List.getElem_mem hlt)
          have hsum := sum_take_succ wtC l k hlt
          have hfa := fun h h' => forall_take_succ (p := shortC) hlt h h'
          have hha := hh.out hm
          rw [wtC] at hsum
          generalize l[k] = c at *
          rcases sl_cells encP 2 (fun _ => rfl) ha with ⟨hnil, ad', cp', e9⟩ | ⟨b2, o2, cap2, e9, hcap2, hpos2, hc2⟩
          · have hz : c.parts.length = 0 := by rw [hnil]; rfl
            have hz2 : (c.parts.map wtP).sum = 0 := by rw [hnil]; rfl
            rw [hz, hz2] at hsum
            rw [hz] at c0'
            have hsc : shortC c := fun p hp => by rw [hnil] at hp; cases hp
            have HK := Lib.hid (And.intro hsum (hfa hha.2 hsc))
            clear hsum hfa hsc hnil hz hz2 ha c0 e9 hpb
            go_wp2
            go_loopw [5, 7] (fun v5 i wx => i = .int .i64 0 ∧ v5 = .int .i64 m ∧ wx = wr) (fun _ _ _ => 0)
            case atStart => exact ⟨rfl, by go_num, rfl⟩
            case round =>
              obtain ⟨rfl, rfl, rfl⟩ := hrel
              by_cases hps : c.pseudo.size ≤ 100
              · go_wp2
                go_roundw
                case rel => exact ⟨k + 1, m, by omega, by go_num, rfl, hm0, Lib.hid fun _ => ⟨by rw [HK.out.1]; have := hha.1; omega, HK.out.2⟩, hB⟩
                case measure => simp [intOf]; omega
              · go_wp2
                go_ret
                exact ⟨false, rfl, Lib.hid (fun h => by cases h), hB⟩
          · obtain ⟨rfl, rfl⟩ : ad = some ⟨b2, o2, none⟩ ∧ cp = cap2 := by cases e9; exact ⟨rfl, rfl⟩
            have HP := Lib.hid fun j (hj : j < c.parts.length) => part_cells hc2 hj
            have HK := Lib.hid (And.intro hsum hfa)
            clear hsum hfa hc2 ha e9 hh
            have hpb' : (c.parts.length : Int) ≤ 140737488351232 := by omega
            go_wp2
            go_loopw [5, 7] (fun v5 i wx => ∃ (j : Nat) (m' : Int), j ≤ c.parts.length ∧ i = .int .i64 j ∧ v5 = .int .i64 m' ∧ 0 ≤ m' ∧ Hid (m' ≤ most → m + (c.parts.length : Int) + (((c.parts.take j).map wtP).sum : Nat) ≤ m' ∧ ∀ p ∈ c.parts.take j, shortS p.l) ∧ Below w.heap.size w wx) (fun _ i _ => c.parts.length - (intOf i).toNat)
            case atStart => exact ⟨0, m + c.parts.length, Nat.zero_le _, rfl, by go_num, by omega, Lib.hid fun _ => ⟨by simp, fun x hx => by simp at hx⟩, hB⟩
            case round =>
              obtain ⟨j, m', hj, rfl, rfl, hm0', hh', hBx⟩ := hrel
              have c0x := cell_up c0 hBx
              have c1x := cell_up c1 hBx
              by_cases hjl : j < c.parts.length
              · by_cases hm' : m' ≤ most
                · obtain ⟨-, ad3, cp3, c3, ha3⟩ := HP.out j hjl
                  have c3' := cell_up c3 hBx
                  have HREC := Lib.hid (count_any _ c.parts[j].l (Nat.le_refl _) _ m' most _ (ha3.below hBx) hm0' (by omega) h2 h3)
                  have HS1 := Lib.hid (sum_take_succ wtP c.parts j hjl)
                  have HS2 := Lib.hid (fun h h' => forall_take_succ (p := fun p : Part => shortS p.l) hjl h h')
                  have hj1000 : (j : Int) ≤ 1000000000000000 := by omega
                  clear c3 ha3
                  rw [wtP] at HS1
                  generalize c.parts[j].l = ll at *
                  go_wp2_with fail
                  refine HREC.out.mono ?_
                  rintro e w2 ⟨r, rfl, hr1, hr2, hr3, hB2⟩
                  go_wp2
                  go_roundw
                  case rel =>
                    refine ⟨j + 1, r, by omega, by go_num, rfl, by omega, Lib.hid fun hr => ?_, bup hBx hB2⟩
                    obtain ⟨g1, g2⟩ := hh'.out hm'
                    obtain ⟨g3, g4⟩ := hr3.out hr
                    exact ⟨by rw [HS1.out]; push_cast; omega, HS2.out g2 g4⟩
                  case measure => simp [intOf]; omega
                · by_cases hps : c.pseudo.size ≤ 100
                  · go_wp2
                    go_roundw
                    case rel => exact ⟨k + 1, m', by omega, by go_num, rfl, hm0', Lib.hid (fun h => by omega), hBx⟩
                    case measure => simp [intOf]; omega
                  · go_wp2
                    go_ret
                    exact ⟨false, rfl, Lib.hid (fun h => by cases h), hBx⟩
              · obtain rfl : j = c.parts.length := by omega
                have hh9 := hh'.out
                rw [List.take_length] at hh9
                have HH9 := Lib.hid hh9
                clear hh9 hh'
                by_cases hps : c.pseudo.size ≤ 100
                · go_wp2
                  go_roundw
                  case rel => exact ⟨k + 1, m', by omega, by go_num, rfl, hm0', Lib.hid fun h => by
                    obtain ⟨g1, g2⟩ := HH9.out h
                    exact ⟨by rw [HK.out.1]; have := hha.1; push_cast; omega, HK.out.2 hha.2 g2⟩, hBx⟩
                  case measure => simp [intOf]; omega
                · go_wp2
                  go_ret
                  exact ⟨false, rfl, Lib.hid (fun h => by cases h), hBx⟩
        · go_wp2
          go_ret
          exact ⟨false, rfl, Lib.hid (fun h => by cases h), hB⟩
      · obtain rfl : k = l.length := by omega
        have hh' := hh.out
        rw [List.take_length] at hh'
        have HH := Lib.hid hh'
        clear hh' hh
        go_wp2
        go_ret
        refine ⟨_, rfl, Lib.hid fun h => ?_, hB⟩
        have h9 : m ≤ most := by simpa using h
        obtain ⟨g1, g2⟩ := HH.out h9
        exact ⟨by unfold wt; push_cast; omega, g2⟩
end Go.Proofs.YtlnaihkombcbcaaGreat
