/-
  (*quick.Index).Keys: how many selectors have a key of each kind, whatever the order of its range.
-/
import Derived.Test.YtlnaihkombcbcaaGreatQSum
import Derived.Test.YtlnaihkombcbcaaGreatBase
import Derived.Test.YtlnaihkombcbcaaGreatChecked
import Derived.Lib.Hide
import Derived.Maps.RangeWalk
import Derived.WalkLawsBesides
namespace Go.Proofs.YtlnaihkombcbcaaGreat
open Go.RowKit Go.ChangeMaps
/-- block m is a map from keys to slices -/
structure MapOf (w : World) (m : Nat) (es : Array MapEntry) (c0 : Nat) : Prop where
  at_ : w.heap[m]? = some (.map es c0)
  old : ∀ x ∈ es.toList, x.born < c0
  nodup : (es.toList.map (·.born)).Nodup
  shape : ∀ x ∈ es.toList, ∃ k s ad n c, x.key = .agg #[.int .i64 k, .string s] ∧ x.val = .slice ad n c
theorem results_tmp4 {fn : Func} {t u v x : Tmp} (h : fn.results = #[.tmp t, .tmp u, .tmp v, .tmp x]) (tmps : Array Value) (P : Program) (w : World) :
    (results fn tmps).run P w = .ok (.tuple #[tmps.getD t undef, tmps.getD u undef, tmps.getD v undef, tmps.getD x undef]) w := by
  simp [results, h]
theorem ret_i {a b : Nat} (h : a = b) : Value.int .i64 (b : Int) = Value.int .i64 (a : Int) := by rw [h]
theorem ret_n {a b n : Nat} (h : a = b + n) : Value.int .i64 ((b : Int) + (n : Int)) = Value.int .i64 (a : Int) := by rw [h, Int.natCast_add]
def isK (k : Int) : Int → Bool := fun x => x == k
def isRest : Int → Bool := fun x => !(x == 3) && !(x == 4) && !(x == 2)
theorem part_of (p : Int → Bool) {e : MapEntry} {k : Int} {s : ByteArray} {ad : Option Addr} {n c : Nat} (h1 : e.key = .agg #[.int .i64 k, .string s]) (h2 : e.val = .slice ad n c) : partK p e = if p k then n else 0 := by
  unfold partK; rw [h1, h2]; rfl
set_option maxHeartbeats 2000000 in
theorem keys_any (w : World) (bx bo m c0 : Nat) (es : Array MapEntry) (hx : w.cell? ⟨bx, bo, none⟩ = some (.map (some m))) (hm : MapOf w m es c0) (hT : sumK (fun _ => true) es.toList ≤ 1000000000) :
    Calls Tryz.prog 47 #[.pointer (some ⟨bx, bo, none⟩)] w fun e w' => e = .returned (.tuple #[.int .i64 (sumK (isK 3) es.toList : Nat), .int .i64 (sumK (isK 4) es.toList : Nat), .int .i64 (sumK (isK 2) es.toList : Nat), .int .i64 (sumK isRest es.toList : Nat)]) ∧ Below w.heap.size w w' := by
  have hmlt : m < w.heap.size := (Array.getElem?_eq_some_iff.1 hm.at_).1
  have hrange := run_range_map (P := Tryz.prog) w 158 162 164 m es c0 Tryz.underlying158 hm.at_

  have hne : m ≠ w.heap.size := by omega
  obtain ⟨hm1, hold, hnd, hsh⟩ := hm
  have HS := Lib.hid hsh
  have HO := Lib.hid hold
  have HN := Lib.hid hnd
  clear hsh hold hnd
  go_enter Tryz.func47, Tryz.ntmps47
  go_wp2
  go_loopw [2, 3, 4, 5] (fun v2 v3 v4 v5 wr => ∃ seen : Array Nat, wr.heap[w.heap.size]? = some (.mapIter (some m) c0 seen c0) ∧ v2 = .int .i64 (seenK (isK 3) es.toList seen : Nat) ∧ v3 = .int .i64 (seenK (isK 4) es.toList seen : Nat) ∧
      v4 = .int .i64 (seenK (isK 2) es.toList seen : Nat) ∧ v5 = .int .i64 (seenK isRest es.toList seen : Nat) ∧ Below w.heap.size w wr ∧ w.heap.size < wr.heap.size) (fun _ _ _ _ wr => (leftOf es (wr.iterSeen w.heap.size)).size)
  case atStart =>
    refine ⟨#[], heap_alloc_new _ _, ?_, ?_, ?_, ?_, (Below.refl _ w).alloc (Nat.le_refl _) _, by simp⟩
    all_goals rw [seenK_none]; rfl
  case round =>
    obtain ⟨seen, hit, rfl, rfl, rfl, rfl, hB, hlt⟩ := hrel
    have hb : wr.heap[m]? = some (.map es c0) := by rw [hB.block m hmlt]; exact hm1
    go_wp2_with (at_next; refine wpList_next_at _ rfl _ rfl w.heap.size m c0 seen es rfl hit hb hne HO.out HN.out HS.out ?_ ?_)
    · intro h0
      have hall := all_seen es seen (by rw [h0]; rfl)
      have e3 := seenK_full (isK 3) seen es.toList hall
      have e4 := seenK_full (isK 4) seen es.toList hall
      have e2 := seenK_full (isK 2) seen es.toList hall
      have er := seenK_full isRest seen es.toList hall
      rw [e3, e4, e2, er]
      clear e3 e4 e2 er hall
      go_wp2
      try simp only [Exit.inBlock, Exit.then]
      refine bodyPost_ret (results_tmp4 rfl _ _ _) rfl ?_
      exact ⟨rfl, hB⟩
    · intro e k s ad n c w2 he h1 h2 hst hr2 hen
      have he' : e ∈ (leftOf es seen).toList := by simpa using he
      obtain ⟨hmem, hs0⟩ := mem_left he'
      have hl1 := left_shrinks es seen e he'
      have hp := fun p => seenK_push p seen e hs0 es.toList HN.out hmem
      have hq := fun p => seenK_le p (seen.push e.born) es.toList
      have hpart := fun p => part_of p h1 h2
      have hB2 : Below w.heap.size w w2 := hB.trans (hst.below (Nat.le_refl _))
      have hz2 : w.heap.size < w2.heap.size := by rw [hst.size]; exact hlt
      have hA := fun x => below_alloc w2 x
      have HE : ∀ (o : Obj), (w2.alloc o).heap[w.heap.size]? = some (.mapIter (some m) c0 (seen.push e.born) c0) := fun o => by rw [Below.heap_alloc w2 o _ hz2]; exact hr2
      have HM : ∀ (o : Obj), (leftOf es ((w2.alloc o).iterSeen w.heap.size)).size < (leftOf es (wr.iterSeen w.heap.size)).size := fun o => by
        rw [iterSeen_of (HE o), iterSeen_of hit]; exact hl1
      have P3 := hp (isK 3)
      have P4 := hp (isK 4)
      have P2 := hp (isK 2)
      have PR := hp isRest
      rw [hpart] at P3 P4 P2 PR
      have HHE := Lib.hid HE
      have HHM := Lib.hid HM
      clear HE HM hp hpart he he' h1 h2 hst hl1 hs0 hmem
      by_cases k3 : k = 3
      · subst k3
        rw [show isK 3 3 = true from rfl, if_pos rfl] at P3
        rw [show isK 4 3 = false from rfl, if_neg Bool.false_ne_true, Nat.add_zero] at P4
        rw [show isK 2 3 = false from rfl, if_neg Bool.false_ne_true, Nat.add_zero] at P2
        rw [show isRest 3 = false from rfl, if_neg Bool.false_ne_true, Nat.add_zero] at PR
        have hb1 := hq (isK 3)
        rw [P3] at hb1
        have hb2 : (seenK (isK 3) es.toList seen : Int) + (n : Int) ≤ 1000000000 := by omega
        clear hq hb1
        try go_frame
        go_wp2
        go_roundw
        case rel => exact ⟨_, HHE.out _, ret_n P3, ret_i P4, ret_i P2, ret_i PR, bup hB2 (hA _), by simp; omega⟩
        case measure => exact HHM.out _
      · by_cases k4 : k = 4
        · subst k4
          rw [show isK 3 4 = false from rfl, if_neg Bool.false_ne_true, Nat.add_zero] at P3
          rw [show isK 4 4 = true from rfl, if_pos rfl] at P4
          rw [show isK 2 4 = false from rfl, if_neg Bool.false_ne_true, Nat.add_zero] at P2
          rw [show isRest 4 = false from rfl, if_neg Bool.false_ne_true, Nat.add_zero] at PR
          have hb1 := hq (isK 4)
          rw [P4] at hb1
          have hb2 : (seenK (isK 4) es.toList seen : Int) + (n : Int) ≤ 1000000000 := by omega
          clear hq hb1
          try go_frame
          go_wp2
          go_roundw
          case rel => exact ⟨_, HHE.out _, ret_i P3, ret_n P4, ret_i P2, ret_i PR, bup hB2 (hA _), by simp; omega⟩
          case measure => exact HHM.out _
        · by_cases k2 : k = 2
          · subst k2
            rw [show isK 3 2 = false from rfl, if_neg Bool.false_ne_true, Nat.add_zero] at P3
            rw [show isK 4 2 = false from rfl, if_neg Bool.false_ne_true, Nat.add_zero] at P4
            rw [show isK 2 2 = true from rfl, if_pos rfl] at P2
            rw [show isRest 2 = false from rfl, if_neg Bool.false_ne_true, Nat.add_zero] at PR
            have hb1 := hq (isK 2)
            rw [P2] at hb1
            have hb2 : (seenK (isK 2) es.toList seen : Int) + (n : Int) ≤ 1000000000 := by omega
            clear hq hb1
            try go_frame
            go_wp2
            go_roundw
            case rel => exact ⟨_, HHE.out _, ret_i P3, ret_i P4, ret_n P2, ret_i PR, bup hB2 (hA _), by simp; omega⟩
            case measure => exact HHM.out _
          · have b3 : (k == 3) = false := by simpa using k3
            have b4 : (k == 4) = false := by simpa using k4
            have b2 : (k == 2) = false := by simpa using k2
            rw [show isK 3 k = false from b3, if_neg Bool.false_ne_true, Nat.add_zero] at P3
            rw [show isK 4 k = false from b4, if_neg Bool.false_ne_true, Nat.add_zero] at P4
            rw [show isK 2 k = false from b2, if_neg Bool.false_ne_true, Nat.add_zero] at P2
            rw [show isRest k = true by unfold isRest; rw [b3, b4, b2]; rfl, if_pos rfl] at PR
            have hb1 := hq (isRest)
            rw [PR] at hb1
            have hb2 : (seenK (isRest) es.toList seen : Int) + (n : Int) ≤ 1000000000 := by omega
            clear hq hb1
            try go_frame
            go_wp2
            go_roundw
            case rel => exact ⟨_, HHE.out _, ret_i P3, ret_i P4, ret_i P2, ret_n PR, bup hB2 (hA _), by simp; omega⟩
            case measure => exact HHM.out _
end Go.Proofs.YtlnaihkombcbcaaGreat
