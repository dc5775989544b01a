/-
  slices.Sorted(slices.Values(l)) at lists of strings.
-/
import Derived.Test.YtfpegmeppgdklaaDoorRange
import Derived.Test.YtfpegmeppgdklaaDoorAdd
import Derived.Sort.OwnSorted
import Derived.RangeFuncBox
namespace Go.Proofs.YtfpegmeppgdklaaDoor
open Go.RowKit
attribute [local go_sem] Oper.semAt_some
theorem values_any (a : Option Addr) (m c : Nat) (w : World) :
    Calls Tryd.prog 33 #[.slice a m c] w fun e w' => e = .returned (.func (.func 48) #[] #[.pointer (some ⟨w.heap.size, 0, none⟩)]) ∧ w' = w.alloc (.cells #[.slice a m c] 22) := by
  go_enter Tryd.func33, Tryd.ntmps33
  go_wp2
  go_ret
  exact ⟨rfl, rfl⟩
set_option maxHeartbeats 2000000 in
theorem values_iter (n : Nat) (hn : 3 ≤ n) (z Bx : Nat) (v : Value) (ss : List Str) (w : World) (hls : ss.length ≤ 1000000) (hv : ∀ W, Below z w W → SAt W v ss) (hb : ∀ W, Below z w W → W.cell? ⟨Bx, 0, none⟩ = some v) (hz : z ≤ w.heap.size) :
    IterTo Fence.wide n Tryd.prog 48 #[.pointer (some ⟨Bx, 0, none⟩)] (fun x : Str => #[.string (bs x)]) (fun A B => A = B) (Below z) (fun xs => xs = ss) (fun pre => pre <+: ss) (fun pre x => ∃ rest, ss = pre ++ x :: rest) w := by
  intro l J Jx W hW hJ hJx hY h0
  have hW0 : Below z w W := hW.mono hz
  have hbW := hb W hW0
  have hvW := hv W hW0
  obtain ⟨pa, pn, pc, rfl⟩ := hvW.form
  refine callsIn_of_wp Tryd.func48 rfl trivial ?_ rfl
  simp only [Tryd.ntmps48, List.size_toArray, List.length_cons, List.length_nil, Nat.reduceAdd, Nat.reduceSub, Array.replicate_succ, Array.replicate_zero, List.push_toArray, List.append_toArray, List.nil_append, List.cons_append]
  rcases hvW with ⟨hnil, a, c, hsl⟩ | ⟨b, off, cap, hsl, hcap, hpos, hc⟩
  · cases hsl
    obtain rfl : ss = [] := by simpa using hnil
    gi_wp2
    gi_loopw [7] (fun i wr => i = .int .i64 0 ∧ J [] wr) (fun _ _ => 0)
    case atStart => exact ⟨rfl, h0⟩
    case round =>
      obtain ⟨rfl, hj⟩ := hrel
      gi_wp2
      go_end0
      exact ⟨⟨_, rfl⟩, .inl ⟨[], rfl, hj⟩⟩
  · simp only [List.length_map] at hsl hcap hpos
    cases hsl
    have hcs : ∀ W1, Below z w W1 → ∀ j (hj : j < ss.length), W1.cell? ⟨b, off + j, none⟩ = some (.string (bs ss[j])) := by
      intro W1 hW1 j hj
      rcases hv W1 hW1 with ⟨hnil, a, c, hsl⟩ | ⟨b', off', cap', hsl, _, _, hc'⟩
      · have : ss = [] := by simpa using hnil
        subst this; simp at hj
      · simp only [List.length_map] at hsl
        cases hsl
        have := hc' j (by simpa using hj)
        simpa using this
    have HCS := Lib.hid hcs
    clear hcs hc hv hb
    gi_wp2
    gi_loopw [7] (fun i wr => ∃ k : Nat, k ≤ ss.length ∧ i = .int .i64 k ∧ J (ss.take k) wr ∧ Below z w wr) (fun i _ => ss.length - (intOf i).toNat)
    case atStart => exact ⟨0, Nat.zero_le _, rfl, h0, hW0⟩
    case round =>
      obtain ⟨k, hk, rfl, hj, hB⟩ := hrel
      by_cases hlt : k < ss.length
      · have hck := HCS.out wr hB k hlt
        obtain ⟨fn, tmps, assign, body, hy, hR⟩ := hY (ss.take k) ss[k] wr hj ⟨ss.drop (k + 1), by rw [← List.drop_eq_getElem_cons hlt, List.take_append_drop]⟩
        have htk : ss.take k ++ [ss[k]] = ss.take (k + 1) := (List.take_succ_eq_append_getElem hlt).symm
        rw [htk] at hR
        clear htk
        gi_wp2_with fail
        refine ⟨fun _ => by omega, hR.mono ?_⟩
        rintro e B (⟨rfl, hJ2, hk2⟩ | ⟨rfl, hJ2⟩)
        · gi_wp2
          go_roundw
          case rel => exact ⟨k + 1, by omega, by go_num, hJ2, hB.trans hk2⟩
          case measure => simp [intOf]; omega
        · gi_wp2
          refine bodyPost_ret (results_none rfl _ _ _) rfl ?_
          exact ⟨⟨_, rfl⟩, .inr ⟨_, List.take_prefix _ _, hJ2⟩⟩
      · gi_wp2
        go_end0
        rw [List.take_of_length_le (by omega)] at hj
        exact ⟨⟨_, rfl⟩, .inl ⟨_, rfl, hj⟩⟩
/-- between two rounds of AppendSeq: its box holds a row of its own with what has come. -/
def AI (z : Nat) (w : World) (pre : List Str) (W : World) : Prop :=
  ∃ v, W.heap[z]? = some (.cells #[v] 22 (0, 0)) ∧ W.ownsRow (z + 1) 9 1 v pre.length ((pre.map bs).map Value.string) ∧ Below z w W ∧ z + 1 ≤ W.heap.size
theorem AI.own (z : Nat) (w : World) (B : Nat) (hB : z + 1 ≤ B) : OwnFrom B (AI z w) := by
  rintro pre W W' row ⟨v, h1, h2, h3, h4⟩ hg hr
  have hb1 : W'.heap[z]? = some (.cells #[v] 22 (0, 0)) := by
    refine (hg.block z (by omega) fun e => ?_).trans h1
    have := (hr z e.symm).1
    omega
  refine ⟨v, hb1, h2.kept hg ?_, h3.grown hg (by omega) fun k e => by have := (hr k e).1; omega, by have := hg.size; omega⟩
  cases hv : v.ownBlock with
  | none => exact .inl rfl
  | some g =>
    refine .inr fun e => ?_
    obtain ⟨_, o, ho, hc⟩ := hr g e.symm
    rcases h2.2 with ⟨rfl, _⟩ | ⟨g', cap, cur, rfl, _, hb, _⟩
    · simp [Value.ownBlock] at hv
    · have : g' = g := by simpa [Value.ownBlock] using hv
      subst this
      rw [hb] at ho
      cases ho
      cases hc
theorem owns_mono {w : World} {B C : Nat} {e : TypeId} {size : Nat} {v : Value} {n : Nat} {xs : List Value} (h : w.ownsRow B e size v n xs) (hc : C ≤ B) : w.ownsRow C e size v n xs := by
  obtain ⟨h1, h2⟩ := h
  refine ⟨h1, ?_⟩
  rcases h2 with h2 | ⟨g, cap, cur, hv, hg, hr⟩
  · exact .inl h2
  · exact .inr ⟨g, cap, cur, hv, Nat.le_trans hc hg, hr⟩
theorem owns_cells {w : World} {B : Nat} {e : TypeId} {size : Nat} {v : Value} {n : Nat} {xs : List Value} (h : w.ownsRow B e size v n xs) : ∀ (j : Nat) (o : Obj), v.ownBlock = some j → w.heap[j]? = some o → o.isCells = true := by
  intro j o hj ho
  rcases h.2 with ⟨rfl, _⟩ | ⟨g, cap, cur, rfl, _, hb, _⟩
  · simp [Value.ownBlock] at hj
  · have : g = j := by simpa [Value.ownBlock] using hj
    subst this
    rw [hb] at ho
    cases ho
    rfl
/-- a round of AppendSeq -/
theorem ai_snoc {w W w1 : World} {pre : List Str} {x : Str} {v1 v2 : Value} (h1 : W.heap[w.heap.size]? = some (.cells #[v1] 22 (0, 0))) (h2 : W.ownsRow (w.heap.size + 1) 9 1 v1 pre.length ((pre.map bs).map Value.string)) (h3 : Below w.heap.size w W) (h4 : w.heap.size + 1 ≤ W.heap.size)
    (hgrow : (W.alloc (.cells #[.string (bs x)] 9)).grownBy w1 v1.ownBlock) (hown : w1.ownsRow (w.heap.size + 1) 9 1 v2 (pre.length + 1) (List.map (Value.string ∘ bs) pre ++ [.string (bs x)])) :
    KeepsFrom (w.heap.size + 1) W (w1.setCell ⟨w.heap.size, 0, none⟩ v2) ∧ Below w.heap.size W (w1.setCell ⟨w.heap.size, 0, none⟩ v2) ∧ AI w.heap.size w (pre ++ [x]) (w1.setCell ⟨w.heap.size, 0, none⟩ v2) := by
  have hne := row_ne_low h2 (b := w.heap.size) (by omega)
  have hb1 : w1.heap[w.heap.size]? = some (.cells #[v1] 22 (0, 0)) := by
    rw [hgrow.block _ (by simp; omega) hne, Below.heap_alloc _ _ _ (by omega)]
    exact h1
  have hBg : Below w.heap.size W w1 := ((Below.refl _ W).alloc (by omega) _).grown hgrow (by simp; omega) fun k e => by have := (h2.lt k e).1; omega
  have hBs := hBg.setCell (p := ⟨w.heap.size, 0, none⟩) (Nat.le_refl _) v2
  refine ⟨?_, hBs, v2, ?_, ?_, h3.trans hBs, ?_⟩
  · have k1 := KeepsOthers.alloc W (.cells #[.string (bs x)] 9)
    have k2 := k1.trans (KeepsOthers.of_grownBy hgrow (owns_cells (h2.alloc _)))
    exact (k2.trans (KeepsOthers.setCell _ _ _)).from _
  · have := put_same (o := 0) v2 hb1
    simpa using this
  · have := ownsRow_setCell_below hown (a := ⟨w.heap.size, 0, none⟩) (by show w.heap.size < w.heap.size + 1; omega) v2
    simpa using this
  · have := hBs.size; omega
set_option maxRecDepth 100000 in
set_option maxHeartbeats 4000000 in
theorem appendseq_in (n : Nat) (hn : 7 ≤ n) (Bx : Nat) (v : Value) (ss : List Str) (w : World) (hls : ss.length ≤ 1000000) (hv : SAt w v ss) (hb : w.cell? ⟨Bx, 0, none⟩ = some v) :
    CallsIn Fence.wide n Tryd.prog 55 #[.slice none 0 0, .func (.func 48) #[] #[.pointer (some ⟨Bx, 0, none⟩)]] w fun e w' => ∃ v', e = .returned v' ∧ w'.ownsRow w.heap.size 9 1 v' ss.length ((ss.map bs).map Value.string) ∧ Below w.heap.size w w' := by
  obtain ⟨i0, hi, hz0, hz1, hz2⟩ := info_parts Tryd.infoStr
  refine callsIn_of_wp_marks Tryd.func55 rfl trivial ?_ rfl
  simp only [Tryd.ntmps55, List.size_toArray, List.length_cons, List.length_nil, Nat.reduceAdd, Nat.reduceSub, Array.replicate_succ, Array.replicate_zero, List.push_toArray, List.append_toArray, List.nil_append, List.cons_append]
  gi_wp2
  refine range_over (α := Str) rfl (fun _ => trivial) (by omega) (gf := 48) (lb := _) rfl (enters_of Tryd.func48 (by kernel_rfl) rfl) (encs := fun x : Str => #[.string (bs x)]) (fun _ => rfl)
    (fun A B => A = B) (Below w.heap.size) (S := fun xs => xs = ss) (Sp := fun pre => pre <+: ss) (G := fun pre x => ∃ rest, ss = pre ++ x :: rest)
    (AI w.heap.size w) (fun _ _ _ => False) ?own ?ownx ?start ?wi ?wx ?wb ?kt ?kb ?seq (fun x => { tmps := #[.slice none 0 0, .func (.func 48) #[] #[.pointer (some ⟨Bx, 0, none⟩)], .pointer (some ⟨w.heap.size, 0, none⟩), undef, .slice none 0 0, .string (bs x), .func (.func 48) #[] #[.pointer (some ⟨Bx, 0, none⟩)], .string (bs x), undef, undef, undef, undef, undef], defers := [] }) ?assign ?body ?done ?stop
  case own => exact AI.own _ w _ (by simp)
  case ownx => exact fun c s A B row h _ _ => h
  case start => exact ⟨_, by rw [heap_al_new], World.ownsRow_nil _ _ _ _, below_alloc _ _, by simp⟩
  case wi => rintro s A B h rfl; exact h
  case wx => exact fun c s A B h _ => h
  case wb => rintro A B rfl k o h _; exact h
  case kt => exact fun h k => h.trans k
  case kb =>
    intro W l o hl
    refine ⟨rfl, rfl, rfl, by simp, fun k hk => World.putObj_heap_other (by simp at hl; omega)⟩
  case seq =>
    have hA := below_alloc w (.cells #[.slice none 0 0] 22)
    exact values_iter (n - 1) (by omega) w.heap.size Bx v ss _ hls (fun W hW => hv.below (hA.trans hW)) (fun W hW => cell_up hb (hA.trans hW)) (by simp)
  case assign =>
    intro l x W K hK
    gi_wp2
    exact hK
  case body =>
    rintro l pre x W ⟨v1, h1, h2, h3, h4⟩ ⟨rest, hrest⟩
    have hpl : pre.length + 1 ≤ 1000000 := by rw [hrest, List.length_append, List.length_cons] at hls; omega
    have hc1 : W.cell? ⟨w.heap.size, 0, none⟩ = some v1 := by rw [Lib.cell_of_heap h1]; rfl
    have hf1 : W.frozen? ⟨w.heap.size, 0, none⟩ = false := Lib.frozen_of_heap h1 0
    clear hrest
    gi_wp2_with (gi_at_builtin; refine wpListIn_append_own _ rfl _ _ 22 rfl (w.heap.size + 1) 9 i0 (.string ByteArray.empty) 1 16 Tryd.underlying22 hi hz0 hz1 hz2 rfl (by decide) _ _ _ rfl (h2.alloc _) ⟨W.heap.size, 0, none⟩ 1 1 [.string (bs x)] rfl rfl ?c1 ?c2 ?c3 ?c4 ?c5 ?_)
    case c1 => exact cell_one_new _ _ _
    case c2 => simp [Value.oneCell']
    case c3 => unfold maxLen; omega
    case c4 => omega
    case c5 => simp; omega
    intro v' w1 hown' hgrow _
    obtain ⟨g', cap', rfl⟩ := ownsRow_succ hown'
    have HE := Lib.hid (ai_snoc h1 h2 h3 h4 hgrow hown')
    have hb1 : w1.heap[w.heap.size]? = some (.cells #[v1] 22 (0, 0)) := by
      rw [hgrow.block _ (by simp; omega) (row_ne_low h2 (b := w.heap.size) (by omega)), Below.heap_alloc _ _ _ (by omega)]
      exact h1
    clear hc1 hf1
    have hc1 : w1.cell? ⟨w.heap.size, 0, none⟩ = some v1 := by rw [Lib.cell_of_heap hb1]; rfl
    have hf1 : w1.frozen? ⟨w.heap.size, 0, none⟩ = false := Lib.frozen_of_heap hb1 0
    clear hb1 h1 h2 h3 hown'
    gi_wp2
    exact ⟨kf_mono HE.out.1 (by simp), HE.out.2⟩
  case done =>
    rintro D xs W hD rfl ⟨v1, h1, h2, h3, h4⟩ hdef
    have hc1 : W.cell? ⟨w.heap.size, 0, none⟩ = some v1 := by rw [Lib.cell_of_heap h1]; rfl
    gi_wp2
    refine ⟨by simp, .inl ⟨_, _, rfl, run_takeDeferred hdef, ?_⟩⟩
    refine ⟨_, results_tmp rfl _ _ _, v1, rfl, owns_mono (ownsRow_putObj h2 _ hdef rfl) (Nat.le_succ _), ?_⟩
    exact h3.grown (grownBy_putObj' W D _) h3.size fun k e => by cases e; simp at hD; omega
  case stop => exact fun D c pre W _ _ h _ => h.elim
end Go.Proofs.YtfpegmeppgdklaaDoor
