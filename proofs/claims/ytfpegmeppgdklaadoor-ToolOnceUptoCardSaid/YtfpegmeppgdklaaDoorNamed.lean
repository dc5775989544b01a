/-
  tool.named, tool.attr: a name, whatever its bytes: strings.ContainsAny with the five blanks, of every string.
-/
import Derived.Test.YtfpegmeppgdklaaDoorRune
import Derived.Test.YtfpegmeppgdklaaDoorWa
import Derived.Lib.OthersKept
namespace Go.Proofs.YtfpegmeppgdklaaDoor
open Go.RowKit
def blanks5 : ByteArray := ⟨#[32, 10, 9, 12, 13]⟩
theorem decode_run (s : ByteArray) (i : Nat) (h : i < s.size) (h1 : 128 ≤ (s[i]'h).toNat) :
    128 ≤ (Utf8.decode s i).1 ∧ 1 ≤ (Utf8.decode s i).2 ∧ i + (Utf8.decode s i).2 ≤ s.size ∧ ∀ j (hj : j < s.size), i ≤ j → j < i + (Utf8.decode s i).2 → 128 ≤ (s[j]'hj).toNat := by
  obtain ⟨a1, a2⟩ := decode_high s i h h1
  refine ⟨a1, a2, ?_⟩
  clear a1 a2
  have hget : ∀ k (hk : k < s.size), (s.get! k).toNat = (s[k]'hk).toNat := by
    intro k hk
    have : s.get! k = s[k]'hk := by
      unfold ByteArray.get!
      show s.data[k]! = s.data[k]
      rw [getElem!_pos s.data k hk]
    rw [this]
  have h0 : 128 ≤ (s.get! i).toNat := by rw [hget i h]; exact h1
  have one : ∀ j (hj : j < s.size), i ≤ j → j < i + 1 → 128 ≤ (s[j]'hj).toNat := by
    intro j hj h2 h3
    obtain rfl : j = i := by omega
    exact h1
  have cont : ∀ k, (decide (i + k < s.size) && (s.get! (i + k)).toNat / 64 == 2) = true → i + k < s.size ∧ 128 ≤ (s.get! (i + k)).toNat := by
    intro k hk
    simp only [Bool.and_eq_true, decide_eq_true_eq, beq_iff_eq] at hk
    exact ⟨hk.1, by omega⟩
  unfold Utf8.decode
  simp only [Nat.add_zero]
  rw [if_neg (by omega)]
  split
  · rename_i hc
    simp only [Bool.and_eq_true] at hc
    obtain ⟨b1, b2⟩ := cont 1 (by simpa using hc.2)
    split
    · refine ⟨by show i + 2 ≤ s.size; omega, fun j hj h2 h3 => ?_⟩
      have h3' : j < i + 2 := h3
      rcases (by omega : j = i ∨ j = i + 1) with rfl | rfl
      · exact h1
      · rw [← hget]; exact b2
    · exact ⟨by show i + 1 ≤ s.size; omega, one⟩
  · split
    · rename_i hc
      simp only [Bool.and_eq_true] at hc
      obtain ⟨b1, b2⟩ := cont 1 (by simpa using hc.1.2)
      obtain ⟨c1, c2⟩ := cont 2 (by simpa using hc.2)
      split
      · refine ⟨by show i + 3 ≤ s.size; omega, fun j hj h2 h3 => ?_⟩
        have h3' : j < i + 3 := h3
        rcases (by omega : j = i ∨ j = i + 1 ∨ j = i + 2) with rfl | rfl | rfl
        · exact h1
        · rw [← hget]; exact b2
        · rw [← hget]; exact c2
      · exact ⟨by show i + 1 ≤ s.size; omega, one⟩
    · split
      · rename_i hc
        simp only [Bool.and_eq_true] at hc
        obtain ⟨b1, b2⟩ := cont 1 (by simpa using hc.1.1.2)
        obtain ⟨c1, c2⟩ := cont 2 (by simpa using hc.1.2)
        obtain ⟨d1, d2⟩ := cont 3 (by simpa using hc.2)
        split
        · refine ⟨by show i + 4 ≤ s.size; omega, fun j hj h2 h3 => ?_⟩
          have h3' : j < i + 4 := h3
          rcases (by omega : j = i ∨ j = i + 1 ∨ j = i + 2 ∨ j = i + 3) with rfl | rfl | rfl | rfl
          · exact h1
          · rw [← hget]; exact b2
          · rw [← hget]; exact c2
          · rw [← hget]; exact d2
        · exact ⟨by show i + 1 ≤ s.size; omega, one⟩
      · exact ⟨by show i + 1 ≤ s.size; omega, one⟩
theorem blank_high (c : UInt8) (h : 128 ≤ c.toNat) : blankB c = false := by
  rw [blankB_int]
  simp only [Bool.or_eq_false_iff, beq_eq_false_iff_ne]
  omega
/-- so many bytes, from i on, are beyond ASCII: none is blank -/
theorem clean_run (s : ByteArray) (i k : Nat) (hk : i + k ≤ s.size) (hb : (s.data.toList.take i).all (fun c => !blankB c) = true)
    (hh : ∀ j (hj : j < s.size), i ≤ j → j < i + k → 128 ≤ (s[j]'hj).toNat) : (s.data.toList.take (i + k)).all (fun c => !blankB c) = true := by
  induction k with
  | zero => exact hb
  | succ k ih =>
    have h2 := ih (by omega) fun j hj h1 h2 => hh j hj h1 (by omega)
    rw [← Nat.add_assoc, all_take_succ _ _ _ (by omega), h2, blank_high _ (hh (i + k) (by omega) (by omega) (by omega))]
    rfl
theorem blanks_contains (c : UInt8) : blanks5.data.toList.contains c = blankB c := by
  show [(32 : UInt8), 10, 9, 12, 13].contains c = _
  rw [Bool.eq_iff_iff]
  simp [blankB]
  constructor
  · rintro (h | h | h | h | h) <;> simp [h]
  · rintro ((((h | h) | h) | h) | h) <;> simp [h]
theorem blanks_ascii : ∀ (i : Nat) (h : i < blanks5.size), (blanks5[i]'h).toNat < 128 := by
  intro i h
  have hm : blanks5[i]'h ∈ [(32 : UInt8), 10, 9, 12, 13] := List.getElem_mem (l := [(32 : UInt8), 10, 9, 12, 13]) (n := i) h
  exact (by decide : ∀ b ∈ [(32 : UInt8), 10, 9, 12, 13], b.toNat < 128) _ hm
/-- What an answer of IndexAny tells: some byte is blank. -/
def Tells (l : Str) (w : World) (e : Ending) (w' : World) : Prop := ∃ z : Int, e = .returned (.int .i64 z) ∧ decide (0 ≤ z) = !(l.all fun c => !blankB c) ∧ Below w.heap.size w w'
set_option maxHeartbeats 8000000 in
set_option maxRecDepth 1000000 in
theorem iany_short (s : ByteArray) (w : World) (h8 : s.size ≤ 8) :
    Calls Tryd.prog 50 #[.string s, .string blanks5] w (Tells s.data.toList w) := by
  have hemp : blanks5.toList.isEmpty = false := by rw [ByteArray.toList_eq]; rfl
  have hsz5 : blanks5.size = 5 := rfl
  have hn1 : ((blanks5.size : Int) == 1) = false := by decide
  have h8z : decide ((8 : Int) < (s.size : Int)) = false := decide_eq_false (by omega)
  have hbl : ∀ (r : Int) (w : World), 128 ≤ r → Calls Tryd.prog 58 #[.string blanks5, .int .i32 r] w fun e w' => e = .returned (.int .i64 (-1)) ∧ Below w.heap.size w w' := fun r w h => irune_high blanks5 r w (by decide) (by decide) blanks_ascii h
  have HBL := Lib.hid hbl
  have hcn : ∀ c, decide (0 ≤ Lib.indexByte blanks5.data.toList c) = blankB c := fun c => by rw [← Lib.contains_iff_indexByte, blanks_contains]
  have HCN := Lib.hid hcn
  clear hbl hcn hsz5
  generalize blanks5 = ch at *
  go_enter Tryd.func50, Tryd.ntmps50
  go_wp2_with (go_at_call 59; refine (Tryd.strings_shouldUseASCIISet _ _).mono ?_; rintro e w' ⟨rfl, rfl⟩; rw [h8z])
  go_loopg [9, 10] s.size (fun g _ _ wx => ∃ i : Nat, i + g = s.size ∧ wx.heap[w'.heap.size]? = some (.stringIter s i) ∧ Below w'.heap.size w' wx ∧ w'.heap.size < wx.heap.size ∧ Hid ((s.data.toList.take i).all (fun c => !blankB c) = true))
  case atStart => exact ⟨0, by omega, heap_alloc_new w' _, below_alloc _ _, by show _ < (w'.heap.push _).size; simp, rfl⟩
  case round =>
    obtain ⟨i, hig, hit, hB, hlt, HN⟩ := hrel
    cases gk with
    | zero =>
      obtain rfl : i = s.size := by omega
      have hnx := fun ty => Lib.run_next_end_at (P := Tryd.prog) wr w'.heap.size s s.size ty hit (by omega)
      go_wp2
      go_ret
      have hN := HN.out
      rw [take_all s s.size (by omega)] at hN
      exact ⟨-1, rfl, by rw [hN]; rfl, hB⟩
    | succ g =>
      have hi : i < s.size := by omega
      by_cases hx : (s[i]'hi).toNat < 128
      · have hnx := fun ty => Lib.run_next_ascii_at (P := Tryd.prog) wr w'.heap.size s i ty hit hi hx
        have hcn := HCN.out s[i]
        have hback : ((s[i].toNat : Int)).toNat.toUInt8 = s[i] := by simp
        have hit2 := Lib.iterAt_heap wr w'.heap.size s i (i + 1) hit
        have hB2 := Lib.below_iterAt hB (Nat.le_refl w'.heap.size) s (i + 1)
        have hlt2 : w'.heap.size < (wr.iterAt w'.heap.size s (i + 1)).heap.size := by rw [Lib.iterAt_size]; exact hlt
        cases hb : blankB s[i]
        · rw [hb] at hcn
          have hge := of_decide_eq_false hcn
          clear hcn
          go_wp2_with (go_at_call 58; refine (Tryd.strings_IndexRune_ascii _ _ _ (by omega) (by omega)).mono ?_; rintro e w' ⟨rfl, hw⟩; rw [hw, hback])
          go_roundg g
          case measure => omega
          case rel => exact ⟨i + 1, by omega, hit2, hB2, hlt2, by show _ = _; rw [all_take_succ _ _ _ hi, HN.out, hb]; rfl⟩
        · rw [hb] at hcn
          have hge := of_decide_eq_true hcn
          clear hcn
          go_wp2_with (go_at_call 58; refine (Tryd.strings_IndexRune_ascii _ _ _ (by omega) (by omega)).mono ?_; rintro e w' ⟨rfl, hw⟩; rw [hw, hback])
          go_ret
          exact ⟨i, rfl, by rw [all_false_at _ _ _ hi (by rw [hb]; rfl)]; simp, hB2⟩
      · obtain ⟨d1, d2, d3, d4⟩ := decode_run s i hi (by omega)
        have hcl := fun hb => clean_run s i _ d3 hb d4
        have hnx := fun ty => Lib.run_next_any_at (P := Tryd.prog) wr w'.heap.size s i ty hit hi
        generalize Utf8.decode s i = rk at *
        obtain ⟨r, k⟩ := rk
        dsimp only at *
        have hit2 := Lib.iterAt_heap wr w'.heap.size s i (i + k) hit
        have hB2 := Lib.below_iterAt hB (Nat.le_refl w'.heap.size) s (i + k)
        have hlt2 : w'.heap.size < (wr.iterAt w'.heap.size s (i + k)).heap.size := by rw [Lib.iterAt_size]; exact hlt
        have HCL := Lib.hid (hcl HN.out)
        clear hcl d4
        go_wp2_with (go_at_call 58; refine (HBL.out _ _ (by omega)).mono ?_; rintro e w2 ⟨rfl, hB3⟩)
        go_roundg (s.size - (i + k))
        case measure => omega
        case rel => exact ⟨i + k, by omega, by rw [hB3.block _ hlt2]; exact hit2, hB2.trans (hB3.mono (by omega)), Nat.lt_of_lt_of_le hlt2 hB3.size, HCL⟩
theorem Tryd.zeroSet (w : World) : (zeroValue 83).run Tryd.prog w = .ok (.agg (Array.replicate 256 (.bool false))) w := by kernel_rfl
theorem indexAny_all (l : Str) : decide (0 ≤ Lib.indexAny l blanks5.data.toList) = !(l.all fun c => !blankB c) := by
  induction l with
  | nil => rfl
  | cons c l ih =>
    rw [Lib.indexAny]
    rw [blanks_contains]
    have := Lib.indexAny_ge blanks5.data.toList l
    cases hb : blankB c
    · simp only [Bool.false_eq_true, if_false, List.all_cons, hb, Bool.not_false, Bool.true_and]
      rw [← ih]
      by_cases h : Lib.indexAny l blanks5.data.toList = -1
      · rw [h]; rfl
      · rw [if_neg (by simpa using h)]
        rw [Bool.eq_iff_iff, decide_eq_true_iff, decide_eq_true_iff]; omega
    · simp [hb]
theorem iany_any (s : ByteArray) (w : World) (hs : s.size ≤ 1000000) :
    Calls Tryd.prog 50 #[.string s, .string blanks5] w (Tells s.data.toList w) := by
  by_cases h8 : s.size ≤ 8
  · exact iany_short s w h8
  · refine (Tryd.strings_IndexAny_long Tryd.zeroSet s blanks5 w (by decide) (by omega) (by omega) (by decide) ?_).mono ?_
    · intro j b hj
      have hj5 : j < blanks5.size := by
        have := (List.getElem?_eq_some_iff.1 hj).1
        rw [ba_len] at this; exact this
      have h := blanks_ascii j hj5
      have e : blanks5[j] = b := (List.getElem?_eq_some_iff.1 hj).2
      rw [e] at h; exact h
    · rintro e w' ⟨rfl, rfl⟩
      exact ⟨_, rfl, indexAny_all _, (below_alloc _ _).trans ((Below.refl _ _).alloc (by simp) _)⟩
set_option maxHeartbeats 1000000 in
theorem cany_any (s : ByteArray) (w : World) (hs : s.size ≤ 1000000) :
    Calls Tryd.prog 37 #[.string s, .string blanks5] w fun e w' => e = .returned (.bool (!(s.data.toList.all fun c => !blankB c))) ∧ Below w.heap.size w w' := by
  have H := Lib.hid (iany_any s w hs)
  generalize blanks5 = ch at *
  go_enter Tryd.func37, Tryd.ntmps37
  go_wp2_with fail
  refine H.out.mono ?_
  rintro e w' ⟨z, rfl, hz, hB⟩
  have HZ := Lib.hid hz
  clear hz
  go_wp2
  go_ret
  exact ⟨ret_bool HZ.out, hB⟩
set_option maxHeartbeats 1000000 in
theorem named_any (s : ByteArray) (w : World) (hs : s.size ≤ 1000000) :
    Calls Tryd.prog 21 #[.string s] w fun e w' => e = .returned (.bool (nameB s.data.toList)) ∧ Below w.heap.size w w' := by
  cases he : s.toList.isEmpty
  · have he' : (!s.toList.isEmpty) = true := by rw [he]; rfl
    have hfin : nameB s.data.toList = !(!(s.data.toList.all fun c => !blankB c)) := by
      rw [nameB, ← ByteArray.toList_eq, he]; simp
    have HC := fun w => cany_any s w hs
    generalize (s.data.toList.all fun c => !blankB c) = q at *
    rw [Bool.not_not] at hfin
    have HF := Lib.hid hfin
    have HC2 := Lib.hid HC
    clear hfin HC
    go_enter Tryd.func21, Tryd.ntmps21
    go_wp2_with fail
    refine (HC2.out _).mono ?_
    rintro e w' ⟨rfl, hB⟩
    go_wp2
    go_ret
    exact ⟨ret_bool HF.out.symm, hB⟩
  · have hfin : nameB s.data.toList = false := by
      rw [nameB, ← ByteArray.toList_eq, he]; simp
    have HF := Lib.hid hfin
    clear hfin
    go_enter Tryd.func21, Tryd.ntmps21
    go_wp2
    go_ret
    exact ⟨ret_bool HF.out.symm, Below.refl _ _⟩
def classS : Str := [99, 108, 97, 115, 115]
def attrB (l : Str) : Bool := nameB l && l != classS
set_option maxHeartbeats 1000000 in
theorem attr_any (s : ByteArray) (w : World) (hs : s.size ≤ 1000000) :
    Calls Tryd.prog 22 #[.string s] w fun e w' => e = .returned (.bool (attrB s.data.toList)) ∧ Below w.heap.size w w' := by
  cases hn : nameB s.data.toList
  · have hfin : attrB s.data.toList = false := by rw [attrB, hn]; rfl
    have HF := Lib.hid hfin
    clear hfin
    go_enter Tryd.func22, Tryd.ntmps22
    go_wp2_with fail
    refine (named_any s _ hs).mono ?_
    rintro e w' ⟨rfl, hB⟩
    rw [hn]
    go_wp2
    go_ret
    exact ⟨ret_bool HF.out.symm, hB⟩
  · have hfin : attrB s.data.toList = (s.toList != [99, 108, 97, 115, 115]) := by rw [attrB, hn, ByteArray.toList_eq]; rfl
    have HF := Lib.hid hfin
    clear hfin
    go_enter Tryd.func22, Tryd.ntmps22
    go_wp2_with fail
    refine (named_any s _ hs).mono ?_
    rintro e w' ⟨rfl, hB⟩
    rw [hn]
    go_wp2
    go_ret
    exact ⟨ret_bool HF.out.symm, hB⟩
end Go.Proofs.YtfpegmeppgdklaaDoor
