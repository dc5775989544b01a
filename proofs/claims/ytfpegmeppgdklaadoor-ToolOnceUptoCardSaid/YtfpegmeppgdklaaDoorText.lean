/-
  tool.lines and tool.Text.
-/
import Derived.Test.YtfpegmeppgdklaaDoorBld
import Derived.Deep.RegionHeld3
import Derived.Test.YtfpegmeppgdklaaDoorLines
namespace Go.Proofs.YtfpegmeppgdklaaDoor
open Go.RowKit
def linesT (word : Str) (ss : List Str) : Str := ss.flatMap fun s => word ++ s ++ [10]
theorem linesT_snoc (word : Str) (ss : List Str) (k : Nat) (h : k < ss.length) : linesT word (ss.take (k + 1)) = linesT word (ss.take k) ++ (word ++ ss[k] ++ [10]) := by
  rw [linesT, List.take_succ_eq_append_getElem h, List.flatMap_append]; simp [linesT]
theorem linesT_take_le (word : Str) (ss : List Str) (k : Nat) : (linesT word (ss.take k)).length ≤ (linesT word ss).length := by
  conv => rhs; rw [← List.take_append_drop k ss]
  simp only [linesT, List.flatMap_append, List.length_append]; omega
theorem ba_app (a b : ByteArray) : (a ++ b).data.toList = a.data.toList ++ b.data.toList := by
  rw [ByteArray.data_append, Array.toList_append]
theorem size_app3 (a b : ByteArray) : (a ++ b ++ (⟨#[10]⟩ : ByteArray)).size = a.size + b.size + 1 := by
  rw [← ba_len, ba_app, ba_app, List.length_append, List.length_append, ba_len, ba_len]; rfl
theorem cells_app3 (acc : Str) (a b : ByteArray) : Lib.byteCells acc ++ Lib.strCells (a ++ b ++ (⟨#[10]⟩ : ByteArray)) = Lib.byteCells (acc ++ (a.data.toList ++ b.data.toList ++ [10])) := by
  rw [Lib.strCells_eq, ← Lib.byteCells_append, ba_app, ba_app]
set_option maxHeartbeats 1000000 in
theorem tlines_any (word : ByteArray) (v : Value) (zs : List ByteArray) (w : World) (hv : StrsAt w v zs) (hl : zs.length ≤ 1000000) (ht : (linesT word.data.toList (zs.map (·.data.toList))).length ≤ 1000000000) :
    Calls Tryd.prog 19 #[.string word, v] w fun e w' => e = .returned (.string (bs (linesT word.data.toList (zs.map (·.data.toList))))) ∧ Below w.heap.size w w' := by
  have h0 : Lib.IsBuilder 57 5 w.heap.size w.heap.size [] (w.alloc (.cells #[.pointer none, .slice none 0 0] 57)) := Lib.fresh_isBuilder _ _ w
  rcases hv with ⟨rfl, a, c, rfl⟩ | ⟨b, off, cap, rfl, hcap, hpos, hc⟩
  · go_enter Tryd.func19, Tryd.ntmps19
    go_wp2
    go_loop [10] (fun i => i = .int .i64 0) (fun i => 0)
    case atStart => rfl
    case round =>
      subst hrel
      go_wp2_with fail
      refine (Tryd.Builder_String_any w.heap.size w.heap.size [] _ h0 (by simp)).mono ?_
      rintro e w1 ⟨rfl, hB⟩
      go_wp2
      go_ret
      exact ⟨rfl, (below_alloc _ _).trans hB⟩
  · go_enter Tryd.func19, Tryd.ntmps19
    go_wp2
    go_loopw [10] (fun i wr => ∃ k : Nat, k ≤ zs.length ∧ i = .int .i64 k ∧ Lib.IsBuilder 57 5 w.heap.size w.heap.size (Lib.byteCells (linesT word.data.toList ((zs.map (·.data.toList)).take k))) wr ∧ Below w.heap.size w wr ∧ w.heap.size < wr.heap.size) (fun i _ => zs.length - (intOf i).toNat)
    case atStart => exact ⟨0, Nat.zero_le _, rfl, h0, below_alloc _ _, by simp⟩
    case round =>
      obtain ⟨k, hk, rfl, hI, hB, hsz⟩ := hrel
      by_cases hlt : k < zs.length
      · have hck := cell_up (hc k hlt) hB
        have e1 := linesT_snoc word.data.toList (zs.map (·.data.toList)) k (by simpa using hlt)
        have e2 := linesT_take_le word.data.toList (zs.map (·.data.toList)) (k + 1)
        have e3 := congrArg List.length e1
        simp only [List.length_append, List.getElem_map, ba_len, List.length_singleton] at e3
        generalize hacc : linesT word.data.toList ((zs.map (·.data.toList)).take k) = acc at *
        have hb1 : word.size + zs[k].size + 1 ≤ 1000000000 := by omega
        have hb2 : acc.length + (word.size + zs[k].size + 1) ≤ 1000000000 := by omega
        have E1 := Lib.hid e1
        clear e1 e2 e3 hacc
        go_wp2_with fail
        refine (bld_write w.heap.size w.heap.size _ _ _ hI (by rw [Lib.byteCells_length, size_app3]; omega) (by omega)).mono ?_
        rintro e w1 ⟨rfl, hI1, hB1⟩
        rw [cells_app3] at hI1
        have hz := hB1.size
        go_wp2
        go_roundw
        case rel => exact ⟨k + 1, by omega, by go_num, by rw [E1.out]; simp only [List.getElem_map]; exact .inr hI1, hB.trans hB1, by omega⟩
        case measure => simp [intOf]; omega
      · go_wp2_with fail
        rw [List.take_of_length_le (by simp; omega)] at hI
        refine (Tryd.Builder_String_any w.heap.size w.heap.size _ _ hI (by omega)).mono ?_
        rintro e w1 ⟨rfl, hB1⟩
        go_wp2
        go_ret
        exact ⟨rfl, hB.trans hB1⟩
def textM (c : Cfg) : Str := linesT [99, 108, 97, 115, 115, 32] c.cls ++ linesT [97, 116, 116, 114, 32] c.att ++ (if c.crit then [99, 114, 105, 116, 105, 99, 97, 108, 10] else [])
theorem tlinesS_any (word : ByteArray) (v : Value) (ss : List Str) (w : World) (hv : SAt w v ss) (hl : ss.length ≤ 1000000) (ht : (linesT word.data.toList ss).length ≤ 1000000000) :
    Calls Tryd.prog 19 #[.string word, v] w fun e w' => e = .returned (.string (bs (linesT word.data.toList ss))) ∧ Below w.heap.size w w' := by
  have e : (ss.map bs).map (·.data.toList) = ss := by rw [List.map_map]; exact List.map_id ss
  have h := tlines_any word v (ss.map bs) w hv (by simpa using hl) (by rw [e]; exact ht)
  rw [e] at h
  exact h
set_option maxHeartbeats 1000000 in
theorem text_any (va : Value) (c : Cfg) (w : World) (ha : CfgAt w va c) (ht : (textM c).length ≤ 1000000000) :
    Calls Tryd.prog 10 #[va] w fun e w' => e = .returned (.string (bs (textM c))) ∧ Below w.heap.size w w' := by
  obtain ⟨a1, a2, rfl, ha1, ha2, la1, la2⟩ := ha
  have hlc : (linesT (ByteArray.mk #[99, 108, 97, 115, 115, 32]).data.toList c.cls).length ≤ 1000000000 := by simp only [textM, List.length_append] at ht; exact Nat.le_trans (by simp; omega) ht
  have hla : (linesT (ByteArray.mk #[97, 116, 116, 114, 32]).data.toList c.att).length ≤ 1000000000 := by simp only [textM, List.length_append] at ht; exact Nat.le_trans (by simp; omega) ht
  have hsz : ¬ 9223372036854775807 < (bs (linesT [99, 108, 97, 115, 115, 32] c.cls)).size + (bs (linesT [97, 116, 116, 114, 32] c.att)).size := by
    rw [bs_size, bs_size]; simp only [textM, List.length_append] at ht; omega
  obtain ⟨cls, att, crit⟩ := c
  dsimp only at *
  go_enter Tryd.func10, Tryd.ntmps10
  go_wp2_with fail
  go_region_held3 (fun w' => w'.cell? ⟨w.heap.size, 0, none⟩ = some a1 ∧ w'.cell? ⟨w.heap.size, 1, none⟩ = some a2 ∧ w'.cell? ⟨w.heap.size, 2, none⟩ = some (.bool crit) ∧ Below w.heap.size w w' ∧ w.heap.size < w'.heap.size)
    (first | exact ⟨by simp, by simp, by simp, Below.drew (below_alloc _ _), by simp⟩ | (go_split_ands; exact ⟨cell_up (by assumption) hB, cell_up (by assumption) hB, cell_up (by assumption) hB, bup (by assumption) hB, Nat.lt_of_lt_of_le (by assumption) hB.size⟩))
    ((go_at_call 19; go_split_ands; refine (tlinesS_any _ _ _ _ (by first | exact SAt.below ha1 (by assumption) | exact SAt.below ha2 (by assumption)) (by omega) (by assumption)).mono ?_; rintro e w' ⟨rfl, hB⟩))
  rename_i hh
  obtain ⟨-, -, hcr, hBw, hlt⟩ := hh
  rw [bs_app]
  have H1 := Lib.hid hBw
  clear hBw
  cases crit
  · go_wp2
    go_ret
    exact ⟨by simp [textM], H1.out⟩
  · have hsz2 : ¬ 9223372036854775807 < (bs (linesT [99, 108, 97, 115, 115, 32] cls ++ linesT [97, 116, 116, 114, 32] att)).size + (bs (linesT [99, 114, 105, 116, 105, 99, 97, 108] [[]])).size := by
      rw [bs_size, bs_size, List.length_append]
      have : (linesT [99, 114, 105, 116, 105, 99, 97, 108] [[]]).length = 9 := rfl
      simp only [bs_size] at hsz
      simp only [textM, List.length_append] at ht
      omega
    go_wp2_with fail
    refine (tlinesS_any _ _ [[]] _ (sat_one _ _ _) (by simp) (by decide)).mono ?_
    rintro e w2 ⟨rfl, hB2⟩
    go_wp2
    go_ret
    exact ⟨ret_str (by rw [bs_app]; simp [textM, linesT]), bup H1.out (bup (below_alloc _ _) hB2)⟩
end Go.Proofs.YtfpegmeppgdklaaDoor
