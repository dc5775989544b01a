/-
  quick.word, quick.words.
-/
import Derived.Test.YtlnaihkombcbcaaGreatQSmall
import Derived.OwnWalk
namespace Go.Proofs.YtlnaihkombcbcaaGreat
open Go.RowKit Go.Ev
theorem Tryz.infoStr : (Tryz.prog.info? 9).map (fun i => (i.zero, i.size, i.bytes)) = some (some (.string ByteArray.empty), 1, 16) := by kernel_rfl
theorem word_any (k : Int) (s : ByteArray) (w : World) (hs : s.size ≤ 100) :
    Calls Tryz.prog 168 #[.int .i64 k, .string s] w fun e w' => ∃ t : ByteArray, e = .returned (.string t) ∧ w' = w := by
  have h1 : ¬ 9223372036854775807 < (⟨#[35]⟩ : ByteArray).size + s.size := by have : (⟨#[35]⟩ : ByteArray).size = 1 := rfl; omega
  have h2 : ¬ 9223372036854775807 < (⟨#[46]⟩ : ByteArray).size + s.size := by have : (⟨#[46]⟩ : ByteArray).size = 1 := rfl; omega
  have h3 : ¬ 9223372036854775807 < (⟨#[60]⟩ : ByteArray).size + s.size := by have : (⟨#[60]⟩ : ByteArray).size = 1 := rfl; omega
  by_cases k3 : k = 3
  · subst k3
    go_enter Tryz.func168, Tryz.ntmps168
    go_wp2
    go_ret
    exact ⟨_, rfl, rfl⟩
  · by_cases k4 : k = 4
    · subst k4
      go_enter Tryz.func168, Tryz.ntmps168
      go_wp2
      go_ret
      exact ⟨_, rfl, rfl⟩
    · by_cases k2 : k = 2
      · subst k2
        go_enter Tryz.func168, Tryz.ntmps168
        go_wp2
        go_ret
        exact ⟨_, rfl, rfl⟩
      · have b3 : (k == 3) = false := by simpa using k3
        have b4 : (k == 4) = false := by simpa using k4
        have b2 : (k == 2) = false := by simpa using k2
        go_enter Tryz.func168, Tryz.ntmps168
        go_wp2
        go_ret
        exact ⟨_, rfl, rfl⟩
theorem owns_slice {w : World} {B : Nat} {e : TypeId} {sz : Nat} {v : Value} {n : Nat} {xs : List Value} (h : w.ownsRow B e sz v n xs) : ∃ a c, v = .slice a n c := by
  rcases h.2 with ⟨rfl, rfl⟩ | ⟨g, cap, cur, rfl, -⟩
  · exact ⟨_, _, rfl⟩
  · exact ⟨_, _, rfl⟩
set_option maxRecDepth 100000 in
set_option maxHeartbeats 4000000 in
theorem words_any (c : Cx) (pv : Value) (w : World) (hv : At w (.sl c.parts.length 2 (c.parts.flatMap encP)) pv) (hn : c.parts.length ≤ 1000) (hs : ∀ p ∈ c.parts, p.l.length ≤ 1000 ∧ shortS p.l) :
    Calls Tryz.prog 100 #[.agg #[pv, .string c.pseudo]] w fun e w' => (∃ a n cap, e = .returned (.slice a n cap)) ∧ Below w.heap.size w w' := by
  obtain ⟨i0, hi, hz0, hz1, hz2⟩ := info_parts Tryz.infoStr
  obtain ⟨pa, pc, rfl, hpc⟩ := At.sl_form hv
  have hA0 := below_alloc w (.cells #[.slice pa c.parts.length pc, .string c.pseudo] 90)
  have hz : w.heap.size < (w.alloc (.cells #[.slice pa c.parts.length pc, .string c.pseudo] 90)).heap.size := by simp
  go_enter Tryz.func100, Tryz.ntmps100
  go_wp2
  go_loopw [3, 4] (fun v3 v4 wr => ∃ (i : Int) (n : Nat) (xs : List Value), v4 = .int .i64 i ∧ i < c.parts.length ∧ -1 ≤ i ∧ (n : Int) ≤ 1000 * ((c.parts.length : Int) - 1 - i) ∧ wr.ownsRow (w.heap.size + 1) 9 1 v3 n xs ∧ Below (w.heap.size + 1) (w.alloc (.cells #[.slice pa c.parts.length pc, .string c.pseudo] 90)) wr) (fun _ v4 _ => (intOf v4).toNat)
  case atStart => exact ⟨(c.parts.length : Int) - 1, 0, [], by go_num, by omega, by omega, by omega, World.ownsRow_nil _ _ _ _, Below.refl _ _⟩
  case round =>
    obtain ⟨i, n, xs, rfl, hi1, hi2, hnn, hown, hB⟩ := hrel
    have hBw : Below w.heap.size w wr := hA0.trans (hB.mono (Nat.le_succ _))
    have hbox : wr.cell? ⟨w.heap.size, 0, none⟩ = some (.slice pa c.parts.length pc) := by rw [hB.cell (by simp)]; simp
    have hz' : w.heap.size < wr.heap.size := Nat.lt_of_lt_of_le hz hB.size
    obtain ⟨a3, c3, rfl⟩ := owns_slice hown
    by_cases h0 : 0 < i
    · obtain ⟨j, rfl⟩ : ∃ j : Nat, i = (j : Int) + 1 := ⟨(i - 1).toNat, by omega⟩
      have hj1 : j + 1 < c.parts.length := by omega
      have hj0 : j < c.parts.length := by omega
      rcases sl_cells encP 2 (fun _ => rfl) hv with ⟨hnil, -⟩ | ⟨b, o, cap, e9, hcap, hpos, hc⟩
      · rw [hnil] at hj0; simp at hj0
      · obtain ⟨rfl, rfl⟩ : pa = some ⟨b, o, none⟩ ∧ pc = cap := by cases e9; exact ⟨rfl, rfl⟩
        obtain ⟨cc, -⟩ := part_cells hc hj1
        obtain ⟨-, ad, cp, cl, ha⟩ := part_cells hc hj0
        have cc' := cell_up cc hBw
        have cl' := cell_up cl hBw
        have hp := hs _ (List.getElem_mem hj0)
        have hla := ha
        clear cc cl ha hc hs e9
        have hi3 : ((j : Int) + 1).toNat = j + 1 := by omega
        have hi4 : (0 : Int) ≤ (j : Int) + 1 := by omega
        have hi5 : ((j : Int) + 1) < (c.parts.length : Int) := by omega
        generalize c.parts[j + 1].comb = cb at *
        generalize c.parts[j].l = ll at *
        have hcomb : (cb = 1 ∨ cb = 2) ∨ (cb ≠ 1 ∧ cb ≠ 2) := by omega
        rcases hcomb with hcb | ⟨hc1, hc2⟩
        · have hcont : ∀ (x y : Prop), True := fun _ _ => trivial
          rcases sl_cells encS 6 encS_len hla with ⟨rfl, ad', cp', e8⟩ | ⟨b2, o2, cap2, e8, hcap2, hpos2, hc2⟩
          · have hl0 : ([] : List Simp).length = 0 := rfl
            rw [hl0] at cl'
            rcases hcb with rfl | rfl
            all_goals
              go_wp2
              go_loopw [3, 37] (fun v3 v37 wx => v37 = .int .i64 0 ∧ v3 = .slice a3 n c3 ∧ wx = wr) (fun _ _ _ => 0)
            case atStart => exact ⟨rfl, rfl, rfl⟩
            case atStart => exact ⟨rfl, rfl, rfl⟩
            all_goals
              obtain ⟨rfl, rfl, rfl⟩ := hrel
              go_wp2
              go_roundw
            case rel => exact ⟨j, n, xs, by go_num, by omega, by omega, by omega, hown, hB⟩
            case measure => simp [intOf]
            case rel => exact ⟨j, n, xs, by go_num, by omega, by omega, by omega, hown, hB⟩
            case measure => simp [intOf]
          · obtain ⟨rfl, rfl⟩ : ad = some ⟨b2, o2, none⟩ ∧ cp = cap2 := by cases e8; exact ⟨rfl, rfl⟩
            have HS := Lib.hid fun k (hk : k < ll.length) => simp_cells hc2 hk
            have WB := Lib.hid fun (wx : World) (hx : Below (w.heap.size + 1) (w.alloc (.cells #[.slice (some ⟨b, o, none⟩) c.parts.length pc, .string c.pseudo] 90)) wx) => hA0.trans (hx.mono (Nat.le_succ _))
            have HSh := Lib.hid hp.2
            have hll := hp.1
            clear hc2 hla e8 hp
            rcases hcb with rfl | rfl
            · go_wp2
              go_loopw [3, 37] (fun v3 v37 wx => ∃ (k n' : Nat) (xs' : List Value), k ≤ ll.length ∧ v37 = .int .i64 k ∧ n' ≤ n + k ∧ wx.ownsRow (w.heap.size + 1) 9 1 v3 n' xs' ∧ Below wr.heap.size wr wr ∧ Below (w.heap.size + 1) (w.alloc (.cells #[.slice (some ⟨b, o, none⟩) c.parts.length pc, .string c.pseudo] 90)) wx) (fun _ v37 _ => ll.length - (intOf v37).toNat)
              case atStart => exact ⟨0, n, xs, Nat.zero_le _, rfl, by omega, hown, Below.refl _ _, hB⟩
              case round =>
                obtain ⟨k, n', xs', hk, rfl, hn', hown', -, hBx⟩ := hrel
                have hBwx : Below w.heap.size w wr := hA0.trans (hBx.mono (Nat.le_succ _))
                have hzx : w.heap.size + 1 ≤ wr.heap.size := Nat.lt_of_lt_of_le hz hBx.size
                obtain ⟨a4, c4, rfl⟩ := owns_slice hown'
                by_cases hlt : k < ll.length
                · obtain ⟨s0, s1, s2, ⟨y3, s3⟩, ⟨y4, s4⟩, ad5, cp5, s5, -⟩ := HS.out k hlt
                  have s0' := cell_up s0 (WB.out _ hBx)
                  have s1' := cell_up s1 (WB.out _ hBx)
                  have s2' := cell_up s2 (WB.out _ hBx)
                  have s3' := cell_up s3 (WB.out _ hBx)
                  have s4' := cell_up s4 (WB.out _ hBx)
                  have s5' := cell_up s5 (WB.out _ hBx)
                  have hnm := HSh.out _ (List.getElem_mem hlt)
                  clear s0 s1 s2 s3 s4 s5
                  generalize ll[k].kind = kd at *
                  generalize ll[k].name = nm at *
                  generalize ll[k].value = vl at *
                  generalize ll[k].l.length = ln at *
                  go_wp2_with fail
                  refine (word_any kd nm _ hnm).mono ?_
                  rintro e w2 ⟨t, rfl, rfl⟩
                  obtain ⟨q, hq⟩ : ∃ q, t.toList.isEmpty = q := ⟨_, rfl⟩
                  cases q
                  rotate_left
                  · go_wp2
                    go_roundw
                    case rel => exact ⟨k + 1, n', xs', by omega, by go_num, by omega, hown'.alloc _, Below.refl _ _, hBx.alloc hzx _⟩
                    case measure => simp [intOf]; omega
                  · go_wp2_with (at_builtin; refine wpList_append_own _ rfl _ _ 25 rfl (w.heap.size + 1) 9 i0 (.string ByteArray.empty) 1 16 Tryz.underlying25 hi hz0 hz1 hz2 rfl (by decide) _ _ _ rfl ((hown'.alloc _).alloc _) ⟨wr.heap.size + 1, 0, none⟩ 1 1 [.string t] rfl rfl ?c1 ?c2 ?c3 ?c4 ?c5 ?_)
                    case c1 =>
                      rw [show wr.heap.size + 1 = (wr.alloc (.cells #[.int .i64 kd, .string nm, .string vl, .int .i64 y3, .int .i64 y4, .slice ad5 ln cp5] 239)).heap.size by simp]
                      exact cell_one_new _ _ _
                    case c2 => simp [Value.oneCell']
                    case c3 => unfold maxLen; omega
                    case c4 => omega
                    case c5 => simp; omega
                    intro v' w1 hown2 hgrow _
                    obtain ⟨a6, c6, rfl⟩ := owns_slice hown2
                    go_wp2
                    go_roundw
                    case rel =>
                      refine ⟨k + 1, n' + 1, _, by omega, by go_num, by omega, hown2, Below.refl _ _, ?_⟩
                      exact ((hBx.alloc hzx _).alloc (by simp; omega) _).grown hgrow (by simp; omega) (fun g e => (hown'.lt g e).1)
                    case measure => simp [intOf]; omega
                · obtain rfl : k = ll.length := by omega
                  go_wp2
                  go_roundw
                  case rel => exact ⟨j, n', xs', by go_num, by omega, by omega, by push_cast; omega, hown', hBx⟩
                  case measure => simp [intOf]
            · go_wp2
              go_loopw [3, 37] (fun v3 v37 wx => ∃ (k n' : Nat) (xs' : List Value), k ≤ ll.length ∧ v37 = .int .i64 k ∧ n' ≤ n + k ∧ wx.ownsRow (w.heap.size + 1) 9 1 v3 n' xs' ∧ Below wr.heap.size wr wr ∧ Below (w.heap.size + 1) (w.alloc (.cells #[.slice (some ⟨b, o, none⟩) c.parts.length pc, .string c.pseudo] 90)) wx) (fun _ v37 _ => ll.length - (intOf v37).toNat)
              case atStart => exact ⟨0, n, xs, Nat.zero_le _, rfl, by omega, hown, Below.refl _ _, hB⟩
              case round =>
                obtain ⟨k, n', xs', hk, rfl, hn', hown', -, hBx⟩ := hrel
                have hBwx : Below w.heap.size w wr := hA0.trans (hBx.mono (Nat.le_succ _))
                have hzx : w.heap.size + 1 ≤ wr.heap.size := Nat.lt_of_lt_of_le hz hBx.size
                obtain ⟨a4, c4, rfl⟩ := owns_slice hown'
                by_cases hlt : k < ll.length
                · obtain ⟨s0, s1, s2, ⟨y3, s3⟩, ⟨y4, s4⟩, ad5, cp5, s5, -⟩ := HS.out k hlt
                  have s0' := cell_up s0 (WB.out _ hBx)
                  have s1' := cell_up s1 (WB.out _ hBx)
                  have s2' := cell_up s2 (WB.out _ hBx)
                  have s3' := cell_up s3 (WB.out _ hBx)
                  have s4' := cell_up s4 (WB.out _ hBx)
                  have s5' := cell_up s5 (WB.out _ hBx)
                  have hnm := HSh.out _ (List.getElem_mem hlt)
                  clear s0 s1 s2 s3 s4 s5
                  generalize ll[k].kind = kd at *
                  generalize ll[k].name = nm at *
                  generalize ll[k].value = vl at *
                  generalize ll[k].l.length = ln at *
                  go_wp2_with fail
                  refine (word_any kd nm _ hnm).mono ?_
                  rintro e w2 ⟨t, rfl, rfl⟩
                  obtain ⟨q, hq⟩ : ∃ q, t.toList.isEmpty = q := ⟨_, rfl⟩
                  cases q
                  rotate_left
                  · go_wp2
                    go_roundw
                    case rel => exact ⟨k + 1, n', xs', by omega, by go_num, by omega, hown'.alloc _, Below.refl _ _, hBx.alloc hzx _⟩
                    case measure => simp [intOf]; omega
                  · go_wp2_with (at_builtin; refine wpList_append_own _ rfl _ _ 25 rfl (w.heap.size + 1) 9 i0 (.string ByteArray.empty) 1 16 Tryz.underlying25 hi hz0 hz1 hz2 rfl (by decide) _ _ _ rfl ((hown'.alloc _).alloc _) ⟨wr.heap.size + 1, 0, none⟩ 1 1 [.string t] rfl rfl ?c1 ?c2 ?c3 ?c4 ?c5 ?_)
                    case c1 =>
                      rw [show wr.heap.size + 1 = (wr.alloc (.cells #[.int .i64 kd, .string nm, .string vl, .int .i64 y3, .int .i64 y4, .slice ad5 ln cp5] 239)).heap.size by simp]
                      exact cell_one_new _ _ _
                    case c2 => simp [Value.oneCell']
                    case c3 => unfold maxLen; omega
                    case c4 => omega
                    case c5 => simp; omega
                    intro v' w1 hown2 hgrow _
                    obtain ⟨a6, c6, rfl⟩ := owns_slice hown2
                    go_wp2
                    go_roundw
                    case rel =>
                      refine ⟨k + 1, n' + 1, _, by omega, by go_num, by omega, hown2, Below.refl _ _, ?_⟩
                      exact ((hBx.alloc hzx _).alloc (by simp; omega) _).grown hgrow (by simp; omega) (fun g e => (hown'.lt g e).1)
                    case measure => simp [intOf]; omega
                · obtain rfl : k = ll.length := by omega
                  go_wp2
                  go_roundw
                  case rel => exact ⟨j, n', xs', by go_num, by omega, by omega, by push_cast; omega, hown', hBx⟩
                  case measure => simp [intOf]
        · have b1 : (cb != 1) = true := by simpa using hc1
          have b2 : (cb != 2) = true := by simpa using hc2
          go_wp2
          go_ret
          exact ⟨⟨_, _, _, rfl⟩, hBw⟩
    · go_wp2
      go_ret
      exact ⟨⟨_, _, _, rfl⟩, hBw⟩
end Go.Proofs.YtlnaihkombcbcaaGreat
