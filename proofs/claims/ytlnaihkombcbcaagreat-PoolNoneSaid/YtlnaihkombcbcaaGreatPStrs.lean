/-
  Lists of strings: R11.In, R10.Texts, winnowinglaw18's rises, within.
  The plain laws of names in values: rising, each once; of a part, of both, of a block. Of no program.
-/
import Derived.Test.YtlnaihkombcbcaaGreatPSorted
namespace Go.Proofs.YtlnaihkombcbcaaGreat
open Go.RowKit
/-- some among strings -/
theorem in_strs (v : Value) (zs : List ByteArray) (x : ByteArray) (w : World) (hv : StrsAt w v zs) (hl : zs.length ≤ 4611686018427387904) :
    Calls Tryz.prog 22 #[v, .string x] w fun e w' => e = .returned (.bool (zs.any fun y => y.toList == x.toList)) ∧ w' = w := by
  rcases hv with ⟨rfl, a, c, rfl⟩ | ⟨b, off, cap, rfl, hcap, h0, hc⟩
  · go_enter Tryz.func22, Tryz.ntmps22
    go_wp2
    go_loop [5] (fun i => i = .int .i64 0) (fun i => 0)
    case atStart => rfl
    case round =>
      subst hrel
      go_wp2
      go_ret
      exact ⟨rfl, rfl⟩
  · go_enter Tryz.func22, Tryz.ntmps22
    go_wp2
    go_loop [5] (fun i => ∃ k : Nat, k ≤ zs.length ∧ i = .int .i64 k ∧ ((zs.take k).any fun y => y.toList == x.toList) = false) (fun i => zs.length - (intOf i).toNat)
    case atStart => exact ⟨0, Nat.zero_le _, rfl, rfl⟩
    case round =>
      obtain ⟨k, hk, rfl, hb⟩ := hrel
      have HB := Lib.hid hb; clear hb
      by_cases hlt : k < zs.length
      · have hck := hc k hlt
        cases hb : zs[k].toList == x.toList
        · go_wp2
          go_round
          case rel => exact ⟨k + 1, by omega, by go_num, by rw [any_take_succ _ _ _ hlt, HB.out, hb]; rfl⟩
          case measure => simp [intOf]; omega
        · go_wp2
          go_ret
          exact ⟨ret_bool (any_true_at (fun y => y.toList == x.toList) _ k hlt hb).symm, rfl⟩
      · go_wp2
        go_ret
        have := HB.out
        rw [List.take_of_length_le (by omega)] at this
        exact ⟨ret_bool this.symm, rfl⟩
theorem in_any (v : Value) (ss : List Str) (x : Str) (w : World) (hv : SAt w v ss) (hl : ss.length ≤ 4611686018427387904) :
    Calls Tryz.prog 22 #[v, .string (bs x)] w fun e w' => e = .returned (.bool (inB ss x)) ∧ w' = w := by
  have h := in_strs v (ss.map bs) (bs x) w hv (by simpa using hl)
  have e : ((ss.map bs).any fun y => y.toList == (bs x).toList) = inB ss x := by
    rw [inB, List.any_map]; congr 1; funext y; simp only [Function.comp, bs_toList]
  rw [e] at h
  exact h
theorem texts_strs (v1 v2 : Value) (xs ys : List ByteArray) (w : World) (h1 : StrsAt w v1 xs) (h2 : StrsAt w v2 ys) (hl : xs.length ≤ 4611686018427387904) (hl2 : ys.length ≤ 4611686018427387904) :
    Calls Tryz.prog 35 #[v1, v2] w fun e w' => e = .returned (.bool (xs.map ByteArray.toList == ys.map ByteArray.toList)) ∧ Below w.heap.size w w' := by
  by_cases hlen : xs.length = ys.length
  · rcases h1 with ⟨rfl, a, c, rfl⟩ | ⟨b, off, cap, rfl, hcap, h0, hc⟩
    · have hy : ys = [] := List.eq_nil_of_length_eq_zero hlen.symm
      subst hy
      rcases h2 with ⟨_, a2, c2, rfl⟩ | ⟨b2, off2, cap2, rfl, hcap2, h02, hc2⟩
      · go_enter Tryz.func35, Tryz.ntmps35
        go_wp2
        go_loop [5] (fun i => i = .int .i64 0) (fun i => 0)
        case atStart => rfl
        case round =>
          subst hrel
          go_wp2
          go_ret
          exact ⟨rfl, Below.refl _ _⟩
      · simp at h02
    · rcases h2 with ⟨rfl, a2, c2, rfl⟩ | ⟨b2, off2, cap2, rfl, hcap2, h02, hc2⟩
      · rw [hlen] at h0; simp at h0
      · rw [← hlen] at hcap2 h02 hl2 ⊢
        have HL := Lib.hid hlen; clear hlen
        go_enter Tryz.func35, Tryz.ntmps35
        go_wp2
        go_loopw [5] (fun i wr => ∃ k : Nat, k ≤ xs.length ∧ i = .int .i64 k ∧ ((xs.take k).map ByteArray.toList = (ys.take k).map ByteArray.toList) ∧ Below w.heap.size w wr) (fun i _ => xs.length - (intOf i).toNat)
        case atStart => exact ⟨0, Nat.zero_le _, rfl, rfl, Below.refl _ _⟩
        case round =>
          obtain ⟨k, hk, rfl, hb, hB⟩ := hrel
          have HB := Lib.hid hb; clear hb
          by_cases hlt : k < xs.length
          · have hlt2 : k < ys.length := HL.out ▸ hlt
            have hck := cell_up (hc k hlt) hB
            have hck2 := cell_up (hc2 k hlt2) hB
            clear hc hc2
            cases hb : xs[k].toList == ys[k].toList
            · have hb' : (xs[k].toList != ys[k].toList) = true := by simp [bne, hb]
              go_wp2
              go_quiet (fail)
              go_wp2
              go_ret
              exact ⟨ret_bool (map_ne_at _ _ _ k hlt hlt2 hb).symm, (below_drewN hB _)⟩
            · have hb' : (xs[k].toList != ys[k].toList) = false := by simp [bne, hb]
              go_wp2
              go_quiet (fail)
              go_wp2
              go_roundw
              case rel => exact ⟨k + 1, by omega, by go_num, by rw [map_take_succ _ _ _ hlt, map_take_succ _ _ _ hlt2, HB.out, eq_of_beq hb], (below_drewN hB _)⟩
              case measure => simp [intOf]; omega
          · go_wp2
            go_ret
            have := HB.out
            have h9 := HL.out
            rw [List.take_of_length_le (by omega), List.take_of_length_le (by omega)] at this
            exact ⟨ret_bool (by rw [this]; simp), hB⟩
  · have hne : ((xs.length : Int) != (ys.length : Int)) = true := by rw [bne_iff_ne]; omega
    have key := map_ne_len ByteArray.toList xs ys hlen
    have e1 : ∃ a c, v1 = .slice a xs.length c := by
      rcases h1 with ⟨rfl, a, c, rfl⟩ | ⟨b, off, cap, rfl, _⟩
      · exact ⟨a, c, rfl⟩
      · exact ⟨_, _, rfl⟩
    have e2 : ∃ a c, v2 = .slice a ys.length c := by
      rcases h2 with ⟨rfl, a, c, rfl⟩ | ⟨b, off, cap, rfl, _⟩
      · exact ⟨a, c, rfl⟩
      · exact ⟨_, _, rfl⟩
    obtain ⟨a, c, rfl⟩ := e1
    obtain ⟨a2, c2, rfl⟩ := e2
    clear h1 h2
    go_enter Tryz.func35, Tryz.ntmps35
    go_wp2
    go_ret
    exact ⟨ret_bool key.symm, Below.refl _ _⟩
theorem texts_any (v1 v2 : Value) (xs ys : List Str) (w : World) (h1 : SAt w v1 xs) (h2 : SAt w v2 ys) (hl : xs.length ≤ 4611686018427387904) (hl2 : ys.length ≤ 4611686018427387904) :
    Calls Tryz.prog 35 #[v1, v2] w fun e w' => e = .returned (.bool (xs == ys)) ∧ Below w.heap.size w w' := by
  have h := texts_strs v1 v2 _ _ w h1 h2 (by simpa using hl) (by simpa using hl2)
  have e : ∀ l : List Str, (l.map bs).map ByteArray.toList = l := by
    intro l; rw [List.map_map]; conv => rhs; rw [← List.map_id l]
    congr 1; funext y; simp only [Function.comp, bs_toList]; rfl
  rw [e, e] at h
  exact h
/-- names rise, each once -/
def risesB (ss : List Str) : Prop := ss.Pairwise fun a b => a < b
theorem rises_at {ss : List Str} (h : risesB ss) {k : Nat} (hk : k + 1 < ss.length) : ss[k] < ss[k + 1] := List.pairwise_iff_getElem.1 h k (k + 1) (by omega) hk (by omega)
theorem rises_any (v : Value) (ss : List Str) (w : World) (hv : SAt w v ss) (hr : risesB ss) (hl : ss.length ≤ 1000000) :
    Calls Tryz.prog 43 #[v] w fun e w' => e = .returned (.bool true) ∧ Below w.heap.size w w' := by
  rcases hv with ⟨hnil, a, c, rfl⟩ | ⟨b, off, cap, rfl, hcap, hpos, hc⟩
  · obtain rfl : ss = [] := by simpa using hnil
    go_enter Tryz.func43, Tryz.ntmps43
    go_wp2
    go_loop [3] (fun i => i = .int .i64 1) (fun i => 0)
    case atStart => rfl
    case round =>
      subst hrel
      go_wp2
      go_ret
      exact ⟨rfl, Below.refl _ _⟩
  · simp only [List.length_map] at hcap hpos ⊢
    have hcs : ∀ j (hj : j < ss.length), w.cell? ⟨b, off + j, none⟩ = some (.string (bs ss[j])) := fun j hj => by have := hc j (by simpa using hj); simpa using this
    have HC := Lib.hid hcs
    have HR := Lib.hid hr
    clear hc hcs hr
    go_enter Tryz.func43, Tryz.ntmps43
    go_wp2
    go_loopw [3] (fun i wr => ∃ k : Nat, 1 ≤ k ∧ k ≤ ss.length ∧ i = .int .i64 k ∧ Below w.heap.size w wr) (fun i _ => ss.length - (intOf i).toNat)
    case atStart => exact ⟨1, Nat.le_refl _, hpos, rfl, Below.refl _ _⟩
    case round =>
      obtain ⟨k, hk1, hk, rfl, hB⟩ := hrel
      by_cases hlt : k < ss.length
      · obtain ⟨j, rfl⟩ : ∃ j, k = j + 1 := ⟨k - 1, by omega⟩
        have h1 := rises_at HR.out hlt
        have c0 := cell_up (HC.out j (by omega)) hB
        have c1 := cell_up (HC.out (j + 1) hlt) hB
        have hb : Op.bytesLess (bs ss[j]).toList (bs ss[j + 1]).toList = true := by rw [bs_toList, bs_toList, bytesLess_eq]; exact decide_eq_true h1
        go_wp2
        go_quiet (fail)
        go_wp2
        go_roundw
        case rel => exact ⟨j + 1 + 1, by omega, by omega, by go_num, below_drewN hB _⟩
        case measure => simp [intOf]; omega
      · go_wp2
        go_ret
        exact ⟨rfl, hB⟩
theorem within_any (va vb : Value) (xs ys : List Str) (w : World) (ha : SAt w va xs) (hb : SAt w vb ys) (hin : ∀ x ∈ xs, x ∈ ys) (hl : xs.length ≤ 1000000) (hl2 : ys.length ≤ 1000000) :
    Calls Tryz.prog 42 #[va, vb] w fun e w' => e = .returned (.bool true) ∧ Below w.heap.size w w' := by
  rcases ha with ⟨hnil, a, c, rfl⟩ | ⟨b, off, cap, rfl, hcap, hpos, hc⟩
  · obtain rfl : xs = [] := by simpa using hnil
    go_enter Tryz.func42, Tryz.ntmps42
    go_wp2
    go_loop [5] (fun i => i = .int .i64 0) (fun i => 0)
    case atStart => rfl
    case round =>
      subst hrel
      go_wp2
      go_ret
      exact ⟨rfl, Below.refl _ _⟩
  · simp only [List.length_map] at hcap hpos ⊢
    have hcs : ∀ j (hj : j < xs.length), w.cell? ⟨b, off + j, none⟩ = some (.string (bs xs[j])) := fun j hj => by have := hc j (by simpa using hj); simpa using this
    have HC := Lib.hid hcs
    have HI := Lib.hid fun w' (h : Below w.heap.size w w') (k : Nat) (hk : k < xs.length) => in_any vb ys xs[k] w' (hb.below h) (by omega)
    have HT := Lib.hid fun (k : Nat) (hk : k < xs.length) => (List.any_eq_true.2 ⟨xs[k], hin _ (List.getElem_mem hk), by simp⟩ : inB ys xs[k] = true)
    clear hc hcs hb hin
    go_enter Tryz.func42, Tryz.ntmps42
    go_wp2
    go_loopw [5] (fun i wr => ∃ k : Nat, k ≤ xs.length ∧ i = .int .i64 k ∧ Below w.heap.size w wr) (fun i _ => xs.length - (intOf i).toNat)
    case atStart => exact ⟨0, Nat.zero_le _, rfl, Below.refl _ _⟩
    case round =>
      obtain ⟨k, hk, rfl, hB⟩ := hrel
      by_cases hlt : k < xs.length
      · have c0 := cell_up (HC.out k hlt) hB
        have HK := Lib.hid (HI.out wr hB k hlt)
        have ht : inB ys xs[k] = true := HT.out k hlt
        go_wp2_with fail
        refine HK.out.mono ?_
        rintro e w2 ⟨rfl, rfl⟩
        rw [ht]
        go_wp2
        go_roundw
        case rel => exact ⟨k + 1, by omega, by go_num, hB⟩
        case measure => simp [intOf]; omega
      · go_wp2
        go_ret
        exact ⟨rfl, hB⟩
end Go.Proofs.YtlnaihkombcbcaaGreat
namespace Go.Proofs.YtlnaihkombcbcaaGreat
open Go.RowKit
theorem str_total (a b : Str) : a ≤ b ∨ b ≤ a := List.le_total a b
theorem str_trans {a b c : Str} (h : a ≤ b) (k : b ≤ c) : a ≤ c := List.le_trans h k
theorem str_lt {a b : Str} (h : a ≤ b) (hne : a ≠ b) : a < b := Decidable.byContradiction fun hn => hne (List.le_antisymm h (List.not_lt.1 hn))
theorem sortM_sorted (ss : List Str) : (sortM ss).Pairwise (· ≤ ·) := by
  have h := List.pairwise_mergeSort (le := fun (x y : Str) => decide (x ≤ y)) (by intro a b c h k; simp at *; exact str_trans h k) (by intro a b; simpa using str_total a b) ss
  exact h.imp fun h => of_decide_eq_true h
theorem keeps_iff {zs : List Str} {j : Nat} (hj : j < zs.length) : Lib.keeps zs.toArray j = true ↔ ∀ h : 0 < j, zs[j] ≠ zs[j - 1] := by
  by_cases h0 : 0 < j
  · have e1 : zs.toArray[j]! = zs[j] := by simp [hj]
    have e2 : zs.toArray[j - 1]! = zs[j - 1] := by simp [show j - 1 < zs.length by omega]
    by_cases e : zs[j] = zs[j - 1]
    · rw [Lib.keeps_neg h0 (by rw [e1, e2, e])]
      simp [h0, e]
    · rw [Lib.keeps_pos (by rw [e1, e2]; exact e)]
      simp [e]
  · rw [Lib.keeps_lt_one _ j (by omega)]
    simp [show ¬ 0 < j by omega]
theorem compact_map (zs : List Str) : Lib.compact zs = ((List.range zs.length).filter (Lib.keeps zs.toArray)).map fun j => zs.toArray[j]! := by
  unfold Lib.compact Lib.compactUpTo
  simp
theorem mem_compact (zs : List Str) (x : Str) : x ∈ Lib.compact zs ↔ x ∈ zs := by
  rw [compact_map]
  constructor
  · intro h
    obtain ⟨j, hj, rfl⟩ := List.mem_map.1 h
    have hj2 := List.mem_range.1 (List.mem_filter.1 hj).1
    simp [hj2]
  · intro h
    obtain ⟨n, hn, rfl⟩ := List.getElem_of_mem h
    -- the first of its run
    have key : ∀ n (hn : n < zs.length), ∃ j, ∃ hj : j < zs.length, Lib.keeps zs.toArray j = true ∧ zs[j] = zs[n] := by
      intro n
      induction n with
      | zero => exact fun hn => ⟨0, hn, (keeps_iff hn).2 fun h => absurd h (by omega), rfl⟩
      | succ n ih =>
        intro hn
        by_cases e : zs[n + 1] = zs[n]
        · obtain ⟨j, hj, h1, h2⟩ := ih (by omega)
          exact ⟨j, hj, h1, by rw [h2, e]⟩
        · exact ⟨n + 1, hn, (keeps_iff hn).2 fun _ => e, rfl⟩
    obtain ⟨j, hj, h1, h2⟩ := key n hn
    refine List.mem_map.2 ⟨j, List.mem_filter.2 ⟨List.mem_range.2 hj, h1⟩, ?_⟩
    rw [← h2]; simp [hj]
theorem compact_rises {zs : List Str} (h : zs.Pairwise (· ≤ ·)) : risesB (Lib.compact zs) := by
  rw [compact_map]
  refine List.pairwise_map.2 (List.Pairwise.imp_of_mem (R := fun a b => a < b) ?_ ((List.pairwise_lt_range).filter _))
  intro i j hi hj hij
  have hj1 := List.mem_filter.1 hj
  have hi2 := List.mem_range.1 (List.mem_filter.1 hi).1
  have hj2 := List.mem_range.1 hj1.1
  have hk := (keeps_iff hj2).1 hj1.2 (by omega)
  have e1 : zs.toArray[i]! = zs[i] := by simp [hi2]
  have e2 : zs.toArray[j]! = zs[j] := by simp [hj2]
  rw [e1, e2]
  have h1 : zs[i] ≤ zs[j - 1] := by
    by_cases e : i = j - 1
    · subst e; exact List.le_refl _
    · exact List.pairwise_iff_getElem.1 h i (j - 1) hi2 (by omega) (by omega)
  have h2 : zs[j - 1] ≤ zs[j] := List.pairwise_iff_getElem.1 h (j - 1) j (by omega) hj2 (by omega)
  have h3 : zs[j - 1] < zs[j] := str_lt h2 fun e => hk e.symm
  exact List.lt_of_le_of_lt h1 h3
theorem mem_sortM (ss : List Str) (x : Str) : x ∈ sortM ss ↔ x ∈ ss := (List.mergeSort_perm ss _).mem_iff
theorem mem_ofM (κ : Int) (vs : List Vl) (x : Str) : x ∈ ofM κ vs ↔ x ∈ (txVs κ vs).map sOf := by rw [ofM, mem_compact, mem_sortM]
theorem ofM_rises (κ : Int) (vs : List Vl) : risesB (ofM κ vs) := compact_rises (sortM_sorted _)
theorem rises_nodup {l : List Str} (h : risesB l) : l.Nodup := List.Pairwise.imp (fun {a b} (h : a < b) (e : a = b) => List.lt_irrefl b (e ▸ h)) h
theorem ofM_left (κ : Int) (a b : List Vl) : ∀ x ∈ ofM κ a, x ∈ ofM κ (a ++ b) := by
  intro x hx
  rw [mem_ofM] at hx ⊢
  rw [txVs_append, List.map_append]
  exact List.mem_append.2 (.inl hx)
theorem ofM_right (κ : Int) (a b : List Vl) : ∀ x ∈ ofM κ b, x ∈ ofM κ (a ++ b) := by
  intro x hx
  rw [mem_ofM] at hx ⊢
  rw [txVs_append, List.map_append]
  exact List.mem_append.2 (.inr hx)
theorem nodup_sub_len {l : List Str} (h : l.Nodup) : ∀ {m : List Str}, (∀ x ∈ l, x ∈ m) → l.length ≤ m.length := by
  induction l with
  | nil => intro m _; simp
  | cons a l ih =>
    intro m hs
    obtain ⟨h1, h2⟩ := List.nodup_cons.1 h
    have ha := hs a List.mem_cons_self
    have := ih h2 (m := m.erase a) (fun x hx => (List.mem_erase_of_ne (fun e : x = a => h1 (by rw [← e]; exact hx))).2 (hs x (List.mem_cons_of_mem _ hx)))
    rw [List.length_erase_of_mem ha] at this
    have hp : 0 < m.length := List.length_pos_of_mem ha
    simp only [List.length_cons]
    omega
theorem ofM_len (κ : Int) (a b : List Vl) : (ofM κ (a ++ b)).length ≤ (ofM κ a).length + (ofM κ b).length := by
  rw [← List.length_append]
  refine nodup_sub_len (rises_nodup (ofM_rises κ (a ++ b))) fun x hx => ?_
  rw [mem_ofM, txVs_append, List.map_append, List.mem_append] at hx
  exact List.mem_append.2 (hx.imp (mem_ofM κ a x).2 (mem_ofM κ b x).2)
theorem ofM_block (κ : Int) (l : List Vl) : ofM κ [.mk 4 0 ByteArray.empty 0 l] = ofM κ l := by
  have h : txVs κ [.mk 4 0 ByteArray.empty 0 l] = txVs κ l := by simp [txVs, txV]
  rw [ofM, h, ofM]
theorem ofM_le (κ : Int) (vs : List Vl) : (ofM κ vs).length ≤ cntVs vs := by
  have h := txVs_cnt κ vs
  have h2 := Lib.compact_length_le (sortM ((txVs κ vs).map sOf))
  rw [sortM_len, List.length_map] at h2
  rw [ofM]; omega
end Go.Proofs.YtlnaihkombcbcaaGreat
