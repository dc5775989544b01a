/-
  slices.Collect, slices.Sorted; a sorted list, compacted, is as long as it was just if nothing is there twice.
-/
import Derived.Test.YtfpegmeppgdklaaDoorSeq
namespace Go.Proofs.YtfpegmeppgdklaaDoor
open Go.RowKit Go.Sort
def seqV (Bx : Nat) : Value := .func (.func 48) #[] #[.pointer (some ⟨Bx, 0, none⟩)]
theorem appendseq_any (Bx : Nat) (v : Value) (ss : List Str) (w : World) (hls : ss.length ≤ 1000000) (hv : SAt w v ss) (hb : w.cell? ⟨Bx, 0, none⟩ = some v) :
    Calls Tryd.prog 55 #[.slice none 0 0, seqV Bx] w fun e w' => ∃ v', e = .returned v' ∧ w'.ownsRow w.heap.size 9 1 v' ss.length ((ss.map bs).map Value.string) ∧ Below w.heap.size w w' :=
  callsIn_wide.1 (appendseq_in 7 (by omega) Bx v ss w hls hv hb)
set_option maxHeartbeats 1000000 in
theorem collect_any (Bx : Nat) (v : Value) (ss : List Str) (w : World) (hls : ss.length ≤ 1000000) (hv : SAt w v ss) (hb : w.cell? ⟨Bx, 0, none⟩ = some v) :
    Calls Tryd.prog 46 #[seqV Bx] w fun e w' => ∃ v', e = .returned v' ∧ w'.ownsRow w.heap.size 9 1 v' ss.length ((ss.map bs).map Value.string) ∧ Below w.heap.size w w' := by
  have H := Lib.hid (appendseq_any Bx v ss w hls hv hb)
  generalize seqV Bx = sv at *
  go_enter Tryd.func46, Tryd.ntmps46
  go_wp2_with fail
  refine H.out.mono ?_
  rintro e w' ⟨v', rfl, ho, hB⟩
  go_wp2
  go_ret
  exact ⟨_, rfl, ho, hB⟩
def sortM (ss : List Str) : List Str := ss.mergeSort fun x y => decide (x ≤ y)
theorem map_enc (ss : List Str) : (ss.map bs).map Value.string = ss.map encStr := by rw [List.map_map]; rfl
set_option maxHeartbeats 1000000 in
theorem sorted_any (Bx : Nat) (v : Value) (ss : List Str) (w : World) (hls : ss.length ≤ 1000000) (hv : SAt w v ss) (hb : w.cell? ⟨Bx, 0, none⟩ = some v) :
    Calls Tryd.prog 32 #[seqV Bx] w fun e w' => ∃ v', e = .returned v' ∧ w'.ownsRow w.heap.size 9 1 v' ss.length ((sortM ss).map encStr) ∧ Below w.heap.size w w' := by
  have H := Lib.hid (collect_any Bx v ss w hls hv hb)
  generalize seqV Bx = sv at *
  go_enter Tryd.func32, Tryd.ntmps32
  go_wp2_with fail
  refine H.out.mono ?_
  rintro e w1 ⟨v', rfl, ho, hB⟩
  rw [map_enc] at ho
  rcases ho.2 with ⟨rfl, h0⟩ | ⟨g, cap, cur, rfl, hbase, hbk, h1, h2, h3, h4⟩
  · obtain rfl : ss = [] := List.eq_nil_of_length_eq_zero h0
    go_wp2_with fail
    refine (Tryd.slices_Sort_string_none _ _ _).mono ?_
    rintro e w2 ⟨rfl, rfl⟩
    go_wp2
    go_ret
    have hs : sortM [] = [] := by simp [sortM]
    exact ⟨_, rfl, by rw [hs]; exact World.ownsRow_nil _ _ _ _, hB⟩
  · have hH : Holds encStr w1 g 0 ss.toArray := holds_of_block hbk (by simpa using h4)
    go_wp2_with fail
    refine (Tryd.slices_Sort_string g 0 cap ss _ hH (Array.getElem?_eq_some_iff.1 hbk).1 (by omega)).mono ?_
    rintro e w2 ⟨rfl, nd, os, rfl⟩
    have ho2 := ownsRow_sorted (os := os) (n := nd) (ts := sortM ss) (by simp [sortM]) hbase hbk h1 h2 h3
    have hB2 : Below w.heap.size w (grow (putRow encStr (Sort.ahead w1 nd) g 0 (sortM ss).toArray) os) := hB.grown (grownBy_sorted _) hB.size fun k e => by cases e; exact hbase
    have HO := Lib.hid ho2
    clear ho2
    go_wp2
    go_ret
    exact ⟨_, rfl, HO.out, hB2⟩
theorem str_total (a b : Str) : a ≤ b ∨ b ≤ a := List.le_total a b
theorem str_trans {a b c : Str} (h : a ≤ b) (k : b ≤ c) : a ≤ c := List.le_trans h k
theorem str_antisymm {a b : Str} (h : a ≤ b) (k : b ≤ a) : a = b := List.le_antisymm h k
theorem sortM_sorted (ss : List Str) : (sortM ss).Pairwise (· ≤ ·) := by
  have h := List.pairwise_mergeSort (le := fun (x y : Str) => decide (x ≤ y)) (by intro a b c h k; simp at *; exact str_trans h k) (by intro a b; simpa using str_total a b) ss
  exact h.imp fun h => of_decide_eq_true h
theorem compact_len (zs : List Str) : (Lib.compact zs).length = zs.length ↔ ∀ j, 0 < j → j < zs.length → zs.toArray[j]! ≠ zs.toArray[j - 1]! := by
  unfold Lib.compact Lib.compactUpTo
  rw [List.length_map]
  constructor
  · intro h j hj hlt e
    have h2 := List.length_filter_eq_length_iff.1 (by rw [h, List.length_range] : ((List.range zs.length).filter (Lib.keeps zs.toArray)).length = (List.range zs.length).length) j (List.mem_range.2 hlt)
    rw [Lib.keeps_neg hj e] at h2
    cases h2
  · intro h
    have h2 := List.length_filter_eq_length_iff (p := Lib.keeps zs.toArray) (l := List.range zs.length) |>.2 fun j hj => by
      have hlt := List.mem_range.1 hj
      by_cases h0 : 0 < j
      · exact Lib.keeps_pos (h j h0 hlt)
      · exact Lib.keeps_lt_one _ j (by omega)
    rw [h2, List.length_range]
theorem compact_nodup (ss : List Str) : (Lib.compact (sortM ss)).length = ss.length ↔ ss.Nodup := by
  have hp : (sortM ss).Perm ss := List.mergeSort_perm ss _
  rw [← hp.length_eq, compact_len, ← hp.nodup_iff]
  have hs := sortM_sorted ss
  generalize sortM ss = l at *
  have hget : ∀ j (h : j < l.length), l.toArray[j]! = l[j] := fun j h => by simp [h]
  constructor
  · intro h
    rw [List.nodup_iff_pairwise_ne, List.pairwise_iff_getElem]
    intro i j hi hj hij e
    have h1 := h j (by omega) hj
    rw [hget j hj, hget (j - 1) (by omega)] at h1
    rw [List.pairwise_iff_getElem] at hs
    have h2 := hs (j - 1) j (by omega) hj (by omega)
    refine h1 (str_antisymm ?_ h2)
    rw [← e]
    by_cases hc : i = j - 1
    · subst hc; exact List.le_refl _
    · exact hs i (j - 1) hi (by omega) (by omega)
  · intro h j h0 hj e
    rw [hget j hj, hget (j - 1) (by omega)] at e
    rw [List.nodup_iff_pairwise_ne, List.pairwise_iff_getElem] at h
    exact h (j - 1) j (by omega) hj (by omega) e.symm
end Go.Proofs.YtfpegmeppgdklaaDoor
