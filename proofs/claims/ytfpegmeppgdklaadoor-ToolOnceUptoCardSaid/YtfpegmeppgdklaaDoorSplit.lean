/-
  strings.SplitSeq at the byte 10: the iterator's contract: the lines, one by one.
-/
import Derived.Test.YtfpegmeppgdklaaDoorRange
import Derived.Test.YtfpegmeppgdklaaDoorLine
namespace Go.Proofs.YtfpegmeppgdklaaDoor
open Go.RowKit
attribute [local go_sem] Oper.semAt_some
theorem linesAux_pre (cur l : Str) (h : ∀ c ∈ l, (c == 10) = false) : linesAux cur l = [cur ++ l] := by
  induction l generalizing cur with
  | nil => simp [linesAux]
  | cons c l ih =>
    rw [linesAux, if_neg (by rw [h c (by simp)]; simp), ih _ fun x hx => h x (by simp [hx])]
    simp
theorem linesAux_hit (cur l r : Str) (h : ∀ c ∈ l, (c == 10) = false) : linesAux cur (l ++ 10 :: r) = (cur ++ l) :: linesAux [] r := by
  induction l generalizing cur with
  | nil => simp [linesAux]
  | cons c l ih =>
    rw [List.cons_append, linesAux, if_neg (by rw [h c (by simp)]; simp), ih _ fun x hx => h x (by simp [hx])]
    simp
theorem index_cases (l : Str) : (Lib.indexByte l 10 = -1 ∧ linesM l = [l]) ∨ ∃ i : Nat, Lib.indexByte l 10 = i ∧ i < l.length ∧ linesM l = l.take i :: linesM (l.drop (i + 1)) := by
  by_cases h : Lib.indexByte l 10 = -1
  · refine .inl ⟨h, ?_⟩
    have := linesAux_pre [] l fun c hc => by
      obtain ⟨k, hk, e⟩ := List.getElem_of_mem hc
      have := Lib.indexByte_none h k
      rw [List.getElem?_eq_getElem hk, e] at this
      rw [beq_eq_false_iff_ne]; intro e2; exact this (by rw [e2])
    exact this
  · have hge := Lib.indexByte_ge l 10
    obtain ⟨i, hi⟩ := Int.eq_ofNat_of_zero_le (show 0 ≤ Lib.indexByte l 10 by omega)
    obtain ⟨h1, h2⟩ := Lib.indexByte_some hi
    have hlt := (List.getElem?_eq_some_iff.1 h1).1
    refine .inr ⟨i, hi, hlt, ?_⟩
    have e : l = l.take i ++ 10 :: l.drop (i + 1) := by
      have h3 := (List.getElem?_eq_some_iff.1 h1).2
      rw [← h3, ← List.drop_eq_getElem_cons hlt, List.take_append_drop]
    have := linesAux_hit [] (l.take i) (l.drop (i + 1)) fun c hc => by
      obtain ⟨k, hk, e3⟩ := List.getElem_of_mem hc
      have hk2 : k < i := by simp at hk; omega
      have := h2 k hk2
      rw [List.getElem_take] at e3
      rw [List.getElem?_eq_getElem (by omega), e3] at this
      rw [beq_eq_false_iff_ne]; intro e2; exact this (by rw [e2])
    rw [← e] at this
    exact this
def szOf : Option Value → Nat
  | some (.string s) => s.size
  | _ => 0
/-- what the iterator holds: the rest of the text, the separator, nought. -/
def Held3 (Bs Bp Bv : Nat) (W : World) (rest : Str) : Prop :=
  W.heap[Bs]? = some (.cells #[.string (bs rest)] 9 (0, 0)) ∧ W.heap[Bp]? = some (.cells #[.string ⟨#[10]⟩] 9 (0, 0)) ∧ W.heap[Bv]? = some (.cells #[.int .i64 0] 3 (0, 0))
def WrS (Bs : Nat) (A B : World) : Prop := ∃ v, B = A.setCell ⟨Bs, 0, none⟩ v
def KpS (Bs Bp Bv : Nat) (A B : World) : Prop := ∀ b, b = Bs ∨ b = Bp ∨ b = Bv → B.heap[b]? = A.heap[b]?
theorem Held3.kept {Bs Bp Bv : Nat} {A B : World} {rest : Str} (h : Held3 Bs Bp Bv A rest) (hk : KpS Bs Bp Bv A B) : Held3 Bs Bp Bv B rest :=
  ⟨(hk _ (.inl rfl)).trans h.1, (hk _ (.inr (.inl rfl))).trans h.2.1, (hk _ (.inr (.inr rfl))).trans h.2.2⟩
theorem Held3.put {Bs Bp Bv : Nat} {A : World} {rest : Str} (h : Held3 Bs Bp Bv A rest) (h1 : Bp ≠ Bs) (h2 : Bv ≠ Bs) (r : Str) : Held3 Bs Bp Bv (A.setCell ⟨Bs, 0, none⟩ (.string (bs r))) r := by
  refine ⟨?_, (Below.heap_setCell _ _ _ _ h1).trans h.2.1, (Below.heap_setCell _ _ _ _ h2).trans h.2.2⟩
  simp only [World.setCell, Array.getElem?_modify]
  rw [if_pos trivial, h.1]
  rfl
set_option maxHeartbeats 2000000 in
theorem split_iter (n : Nat) (hn : 3 ≤ n) (Bs Bp Bv : Nat) (s : Str) (w : World) (hls : s.length ≤ 1000000) (hh : Held3 Bs Bp Bv w s) (h1 : Bp ≠ Bs) (h2 : Bv ≠ Bs) :
    IterTo Fence.wide n Tryd.prog 42 #[.pointer (some ⟨Bp, 0, none⟩), .pointer (some ⟨Bs, 0, none⟩), .pointer (some ⟨Bv, 0, none⟩)] (fun x : Str => #[.string (bs x)]) (WrS Bs) (KpS Bs Bp Bv) (fun xs => xs = linesM s) (fun pre => pre <+: linesM s) (fun pre x => ∃ rest, linesM s = pre ++ x :: rest) w := by
  intro l J Jx W hW hJ hJx hY h0
  have hlt : ∀ b c, w.heap[b]? = some c → b < w.heap.size := fun b c h => (Array.getElem?_eq_some_iff.1 h).1
  have hh0 : Held3 Bs Bp Bv W s := ⟨(hW.block _ (hlt _ _ hh.1)).trans hh.1, (hW.block _ (hlt _ _ hh.2.1)).trans hh.2.1, (hW.block _ (hlt _ _ hh.2.2)).trans hh.2.2⟩
  clear hh
  have hc1 : W.cell? ⟨Bp, 0, none⟩ = some (.string ⟨#[10]⟩) := by rw [Lib.cell_of_heap hh0.2.1]; rfl
  refine callsIn_of_wp Tryd.func42 rfl trivial ?_ rfl
  simp only [Tryd.ntmps42, List.size_toArray, List.length_cons, List.length_nil, Nat.reduceAdd, Nat.reduceSub, Array.replicate_succ, Array.replicate_zero, List.push_toArray, List.append_toArray, List.nil_append, List.cons_append]
  gi_wp2
  gi_loopw [7] (fun _ wr => ∃ (pre : List Str) (rest : Str), Hid (linesM s = pre ++ linesM rest) ∧ rest.length ≤ 1000000 ∧ Held3 Bs Bp Bv wr rest ∧ J pre wr) (fun _ wr => szOf (wr.cell? ⟨Bs, 0, none⟩))
  case atStart => exact ⟨[], s, rfl, hls, hh0, h0⟩
  case round =>
    obtain ⟨pre, rest, hx, hrl, hH, hJs⟩ := hrel
    have hs1 : wr.cell? ⟨Bs, 0, none⟩ = some (.string (bs rest)) := by rw [Lib.cell_of_heap hH.1]; rfl
    have hp1 : wr.cell? ⟨Bp, 0, none⟩ = some (.string ⟨#[10]⟩) := by rw [Lib.cell_of_heap hH.2.1]; rfl
    have hv1 : wr.cell? ⟨Bv, 0, none⟩ = some (.int .i64 0) := by rw [Lib.cell_of_heap hH.2.2]; rfl
    have hf1 : wr.frozen? ⟨Bs, 0, none⟩ = false := Lib.frozen_of_heap hH.1 0
    rcases index_cases rest with ⟨hi, hl⟩ | ⟨i, hi, hilt, hl⟩
    · have hlen : ∃ q, linesM s = pre ++ rest :: q := ⟨[], by rw [hx.out, hl]⟩
      obtain ⟨fn, tmps, assign, body, hy, hR⟩ := hY pre rest wr hJs hlen
      have hfin : linesM s = pre ++ [rest] := by rw [hx.out, hl]
      have HF := Lib.hid hfin
      clear hfin hl hlen hx
      gi_wp2_with fail
      refine ⟨trivial, fun _ => by omega, ?_⟩
      refine (callsIn_wide.2 (Tryd.strings_Index_one _ _ _)).mono ?_
      rintro e w2 ⟨rfl, rfl⟩
      rw [bs_data, hi]
      clear hi
      gi_wp2_with fail
      refine ⟨fun _ => by omega, hR.mono ?_⟩
      rintro e B (⟨rfl, hJ2, hk⟩ | ⟨rfl, hJ2⟩)
      · gi_wp2
        go_end0
        exact ⟨⟨_, rfl⟩, .inl ⟨_, HF.out.symm, hJ2⟩⟩
      · gi_wp2
        go_end0
        exact ⟨⟨_, rfl⟩, .inr ⟨_, ⟨[], by rw [HF.out]; simp⟩, hJ2⟩⟩
    · have hlen : ∃ q, linesM s = pre ++ rest.take i :: q := ⟨_, by rw [hx.out, hl]⟩
      obtain ⟨fn, tmps, assign, body, hy, hR⟩ := hY pre (rest.take i) wr hJs hlen
      have hfin : linesM s = (pre ++ [rest.take i]) ++ linesM (rest.drop (i + 1)) := by rw [hx.out, hl]; simp
      have HF := Lib.hid hfin
      have hes : (bs rest).extract 0 i = bs (rest.take i) := by rw [ext_bs]; simp [bs_data]
      have hed : (bs rest).extract (i + 1) rest.length = bs (rest.drop (i + 1)) := by rw [ext_bs, bs_data, List.take_of_length_le (by simp)]
      have hnn : ¬ ((i : Int) < 0) := by omega
      clear hfin hl hlen hx
      have hszr : (bs rest).size = rest.length := rfl
      gi_wp2_with fail
      refine ⟨trivial, fun _ => by omega, ?_⟩
      refine (callsIn_wide.2 (Tryd.strings_Index_one _ _ _)).mono ?_
      rintro e w2 ⟨rfl, rfl⟩
      rw [bs_data, hi]
      have HI := Lib.hid hi
      clear hi
      gi_wp2_with fail
      refine ⟨fun _ => by omega, hR.mono ?_⟩
      rintro e B (⟨rfl, hJ2, hk⟩ | ⟨rfl, hJ2⟩)
      · have hH2 := hH.kept hk
        have gs1 : B.cell? ⟨Bs, 0, none⟩ = some (.string (bs rest)) := by rw [Lib.cell_of_heap hH2.1]; rfl
        have gp1 : B.cell? ⟨Bp, 0, none⟩ = some (.string ⟨#[10]⟩) := by rw [Lib.cell_of_heap hH2.2.1]; rfl
        have gf1 : B.frozen? ⟨Bs, 0, none⟩ = false := Lib.frozen_of_heap hH2.1 0
        gi_wp2
        go_roundw
        case rel => exact ⟨_, _, HF, by simp; omega, hH2.put h1 h2 _, hJ _ _ _ hJ2 ⟨_, rfl⟩⟩
        case measure =>
          have hH3 := hH2.put h1 h2 (rest.drop (i + 1))
          rw [Lib.cell_of_heap hH3.1, hs1]
          show (bs (rest.drop (i + 1))).size < (bs rest).size
          rw [bs_size, bs_size, List.length_drop]; omega
      · gi_wp2
        refine bodyPost_ret (results_none rfl _ _ _) rfl ?_
        exact ⟨⟨_, rfl⟩, .inr ⟨_, ⟨linesM (rest.drop (i + 1)), HF.out.symm⟩, hJ2⟩⟩
end Go.Proofs.YtfpegmeppgdklaaDoor
