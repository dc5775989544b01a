/-
  quick.keyOf: the kind of a selector's key.
-/
import Derived.Test.YtlnaihkombcbcaaGreatQIndex
import Derived.Laws.Rows
import Derived.Deep.RegionHeld3
import Derived.Deep.RegionWith
namespace Go.Proofs.YtlnaihkombcbcaaGreat
open Go.RowKit Go.Ev
def hasK (k : Int) (l : List Simp) : Bool := l.any fun x => x.kind == k
/-- the kind of the key of a last part; 0 : none -/
def kindS (l : List Simp) : Int := if hasK 3 l then 3 else if hasK 4 l then 4 else if hasK 2 l then 2 else 0
def kindC (c : Cx) : Int := match c.parts.getLast? with
  | some p => kindS p.l
  | none => 0
theorem put_same {W : World} {b o : Nat} {cs : Array Value} {t : TypeId} {f : Nat × Nat} (v : Value) (h : W.heap[b]? = some (.cells cs t f)) : (W.setCell ⟨b, o, none⟩ v).heap[b]? = some (.cells (cs.setIfInBounds o v) t f) := by
  simp only [World.setCell, Array.getElem?_modify]
  rw [if_pos trivial, h]
  rfl
theorem below_set {B : Nat} {w w' : World} (h : Below B w w') {p : Addr} (hp : B ≤ p.block) (v : Value) : Below B w (w'.setCell p v) :=
  ⟨h.os, h.tape, h.output, by show _ ≤ (w'.heap.modify _ _).size; simp; exact h.size, fun k hk => (Below.heap_setCell w' p v k (by omega)).trans (h.block k hk)⟩
/-- what quick.keyOf tells -/
def KeyPost (c : Cx) (w : World) (e : Ending) (w' : World) : Prop := ∃ nm : ByteArray, e = .returned (.agg #[.int .i64 (kindC c), .string nm]) ∧ nm.size ≤ 100 ∧ Below w.heap.size w w'
theorem u_key : (Tryz.prog.info? 162).map (·.size) = some 2 := by kernel_rfl
/-- keyOf's end: what lies in its result's block -/
theorem key_ret {R : Ending → World → Prop} {a : Act} {W : World} {k : Int} {nm : ByteArray} (g : Nat) (hp : a.tmps.getD 2 undef = .pointer (some ⟨g, 0, none⟩)) (hg : W.heap[g]? = some (.cells #[.int .i64 k, .string nm] 162 (0, 0))) (hd : a.defers = [])
    (h : R (.returned (.agg #[.int .i64 k, .string nm])) W) : bodyPost Tryz.prog Tryz.f99 R .ret a W :=
  bodyPost_ret (results_cell_row rfl _ _ g 162 #[.int .i64 k, .string nm] (0, 0) _ hp hg Tryz.underlying162 rfl u_key) hd h
def ks : Nat → Int
  | 0 => 3
  | 1 => 4
  | _ => 2
theorem kind_last {c : Cx} {m : Nat} (hm : c.parts.length = m + 1) (hlt : m < c.parts.length) : kindC c = kindS c.parts[m].l := by
  unfold kindC
  rw [List.getLast?_eq_getElem?, hm, Nat.add_sub_cancel, List.getElem?_eq_getElem hlt]
set_option maxRecDepth 100000 in
set_option maxHeartbeats 4000000 in
theorem keyOf_any (c : Cx) (pv : Value) (w : World) (hv : At w (.sl c.parts.length 2 (c.parts.flatMap encP)) pv) (hn : c.parts.length ≤ 1000) (hs : ∀ p ∈ c.parts, p.l.length ≤ 1000 ∧ shortS p.l) :
    Calls Tryz.prog 99 #[.agg #[pv, .string c.pseudo]] w (KeyPost c w) := by
  obtain ⟨pa, pc, rfl, hpc⟩ := At.sl_form hv
  by_cases h0 : c.parts.length = 0
  · have hk : kindC c = 0 := by unfold kindC; rw [List.eq_nil_of_length_eq_zero h0]; rfl
    rw [h0]
    go_enter Tryz.func99, Tryz.ntmps99
    go_wp2
    try simp only [Exit.inBlock, Exit.then]
    refine key_ret (w.heap.size + 1) rfl (by have := heap_al_new (w.alloc (.cells #[.slice pa 0 pc, .string c.pseudo] 90)) (.cells #[.int .i64 0, .string ⟨#[]⟩] 162); rw [World.size_alloc] at this; exact this) rfl ?_
    exact ⟨_, by rw [hk], by decide, (below_alloc _ _).alloc (by simp) _⟩
  · obtain ⟨m, hm⟩ : ∃ m, c.parts.length = m + 1 := ⟨c.parts.length - 1, by omega⟩
    have hlt : m < c.parts.length := by omega
    have hkd := kind_last hm hlt
    rcases sl_cells encP 2 (fun _ => rfl) hv with ⟨hnil, -⟩ | ⟨b, o, cap, e9, hcap, hpos, hc⟩
    · rw [hnil] at hlt; simp at hlt
    · obtain ⟨rfl, rfl⟩ : pa = some ⟨b, o, none⟩ ∧ pc = cap := by cases e9; exact ⟨rfl, rfl⟩
      obtain ⟨-, ad, cp, cl, ha⟩ := part_cells hc hlt
      have hp := hs _ (List.getElem_mem hlt)
      clear hc hs e9 hv hpos
      rw [hm] at hpc hcap hn ⊢
      generalize c.parts[m].l = L at *
      obtain ⟨bL, oL, hadL, HN'⟩ : ∃ bL oL, (∀ i, i < L.length → ad = some ⟨bL, oL, none⟩) ∧ ∀ i (hi : i < L.length), w.cell? ⟨bL, oL + i * 6, none⟩ = some (.int .i64 L[i].kind) ∧ w.cell? ⟨bL, oL + i * 6 + 1, none⟩ = some (.string L[i].name) ∧ True := by
        rcases sl_cells encS 6 encS_len ha with ⟨rfl, -⟩ | ⟨b5, o5, cap5, e5, -, -, hc5⟩
        · exact ⟨0, 0, fun i hi => by simp at hi, fun i hi => by simp at hi⟩
        · refine ⟨b5, o5, fun i _ => by cases e5; rfl, fun i hi => ?_⟩
          obtain ⟨g0, g1, -⟩ := simp_cells hc5 hi
          exact ⟨g0, g1, trivial⟩
      have HN := Lib.hid HN'
      clear HN'
      have HA0 := ha
      have HA := Lib.hid fun w' (hb : Below w.heap.size w w') => ha.below hb
      have hA0 : Below w.heap.size w (((w.alloc (.cells #[.slice (some ⟨b, o, none⟩) (m + 1) pc, .string c.pseudo] 90)).alloc (.cells #[.int .i64 0, .string ⟨#[]⟩] 162)).alloc (.cells #[.int .i64 3, .int .i64 4, .int .i64 2] 3)) := ((below_alloc _ _).alloc (by simp) _).alloc (by simp; omega) _
      have cl2 := cell_up cl ((below_alloc w (.cells #[.slice (some ⟨b, o, none⟩) (m + 1) pc, .string c.pseudo] 90)).alloc (by simp) (.cells #[.int .i64 0, .string ⟨#[]⟩] 162))
      have hm0 : ((m : Int) + 1 == 0) = false := by rw [beq_eq_false_iff_ne]; omega
      clear ha
      go_enter Tryz.func99, Tryz.ntmps99
      go_wp2
      go_loopw [5, 6, 23] (fun _ _ v23 wr => ∃ j : Nat, j ≤ 3 ∧ v23 = .int .i64 j ∧ Hid (∀ i, i < j → hasK (ks i) L = false) ∧ wr.heap[w.heap.size + 1]? = some (.cells #[.int .i64 0, .string ⟨#[]⟩] 162 (0, 0)) ∧ wr.heap[w.heap.size + 2]? = some (.cells #[.int .i64 3, .int .i64 4, .int .i64 2] 3 (0, 0)) ∧ Below w.heap.size w wr) (fun _ _ v23 _ => 3 - (intOf v23).toNat)
      case atStart =>
        refine ⟨0, by omega, rfl, Lib.hid (by simp), ?_, ?_, hA0⟩
        · rw [Below.heap_alloc _ _ _ (by simp)]
          have := heap_al_new (w.alloc (.cells #[.slice (some ⟨b, o, none⟩) (m + 1) pc, .string c.pseudo] 90)) (.cells #[.int .i64 0, .string ⟨#[]⟩] 162)
          rw [World.size_alloc] at this; exact this
        · have := heap_al_new ((w.alloc (.cells #[.slice (some ⟨b, o, none⟩) (m + 1) pc, .string c.pseudo] 90)).alloc (.cells #[.int .i64 0, .string ⟨#[]⟩] 162)) (.cells #[.int .i64 3, .int .i64 4, .int .i64 2] 3)
          rw [World.size_alloc, World.size_alloc] at this; exact this
      case round =>
        obtain ⟨j, hj, rfl, hno, hR, hS, hB⟩ := hrel
        have hS0 : wr.cell? ⟨w.heap.size + 2, 0, none⟩ = some (.int .i64 3) := by rw [Lib.cell_of_heap hS]; rfl
        have hS1 : wr.cell? ⟨w.heap.size + 2, 1, none⟩ = some (.int .i64 4) := by rw [Lib.cell_of_heap hS]; rfl
        have hS2 : wr.cell? ⟨w.heap.size + 2, 2, none⟩ = some (.int .i64 2) := by rw [Lib.cell_of_heap hS]; rfl
        have hR0 : wr.cell? ⟨w.heap.size + 1, 0, none⟩ = some (.int .i64 0) := by rw [Lib.cell_of_heap hR]; rfl
        have hR1 : wr.cell? ⟨w.heap.size + 1, 1, none⟩ = some (.string ⟨#[]⟩) := by rw [Lib.cell_of_heap hR]; rfl
        have hF0 : wr.frozen? ⟨w.heap.size + 1, 0, none⟩ = false := by simp [World.frozen?, hR]
        have hF1 : wr.frozen? ⟨w.heap.size + 1, 1, none⟩ = false := by simp [World.frozen?, hR]
        have hz : w.heap.size + 2 < wr.heap.size := (Array.getElem?_eq_some_iff.1 hS).1
        have hbl := hB.size
        have hbl2 := hbl
        have hj4 : j = 0 ∨ j = 1 ∨ j = 2 ∨ j = 3 := by omega
        rcases hj4 with rfl | rfl | rfl | rfl
        · skip
          have HI := Lib.hid (index_any L 3 wr.heap.size _ (wr.alloc (.cells #[.int .i64 3] 3)) (HA.out _ (hB.alloc hbl _)) (by have := hp.1; omega) (by rw [Lib.cell_of_heap (heap_al_new _ _)]; rfl))
          go_wp2_with fail
          refine HI.out.mono ?_
          rintro e w2 ⟨z, rfl, hz2, hB2⟩
          obtain ⟨hd2, hf2⟩ := bcell hB2
          rcases hz2 with ⟨rfl, hno2⟩ | ⟨i, rfl, hi, hyes⟩
          · go_wp2
            go_roundw
            case rel =>
              refine ⟨1, by omega, by go_num, Lib.hid fun i hi => ?_, ?_, ?_, ?_⟩
              · obtain rfl : i = 0 := by omega
                exact hno2.out
              · rw [hB2.block _ (by simp; omega), Below.heap_alloc _ _ _ (by omega)]; exact hR
              · rw [hB2.block _ (by simp; omega), Below.heap_alloc _ _ _ (by omega)]; exact hS
              · exact bup (hB.alloc hbl _) hB2
            case measure => simp [intOf]
          · have hkk : kindC c = 3 := by rw [hkd]; unfold kindS; rw [show hasK 3 L = true from hyes.out]; rfl
            have hRw : w2.heap[w.heap.size + 1]? = some (.cells #[.int .i64 0, .string ⟨#[]⟩] 162 (0, 0)) := by rw [hB2.block _ (by simp; omega), Below.heap_alloc _ _ _ (by omega)]; exact hR
            obtain ⟨-, hnm0, -⟩ := HN.out i hi
            have hnl := hp.2 _ (List.getElem_mem hi)
            generalize L[i].name = nm at *
            have hB3 := bup (hB.alloc hbl (.cells #[.int .i64 3] 3)) hB2
            have hnm1 := cell_up hnm0 hB3
            have hK : w2.cell? ⟨wr.heap.size, 0, none⟩ = some (.int .i64 3) := by rw [hB2.cell (by simp)]; rw [Lib.cell_of_heap (heap_al_new _ _)]; rfl
            have q0 : w2.cell? ⟨w.heap.size + 1, 0, none⟩ = some (.int .i64 0) := by rw [Lib.cell_of_heap hRw]; rfl
            have q1 : w2.cell? ⟨w.heap.size + 1, 1, none⟩ = some (.string ⟨#[]⟩) := by rw [Lib.cell_of_heap hRw]; rfl
            have q2 : w2.frozen? ⟨w.heap.size + 1, 0, none⟩ = false := by simp [World.frozen?, hRw]
            have q3 : w2.frozen? ⟨w.heap.size + 1, 1, none⟩ = false := by simp [World.frozen?, hRw]
            obtain rfl := hadL i hi
            have hRw' : w2.drew.heap[w.heap.size + 1]? = some (.cells #[.int .i64 0, .string ⟨#[]⟩] 162 (0, 0)) := hRw
            have hB3' := Below.drew hB3
            have hi9 : (i : Int) < (L.length : Int) := by omega
            go_wp2_with fail
            go_region_with (fail)
            all_goals
              go_wp2
              try simp only [Exit.inBlock, Exit.then]
              refine key_ret (w.heap.size + 1) rfl (by have := put_same (o := 1) (.string nm) (put_same (o := 0) (.int .i64 3) hRw'); exact this) rfl ?_
              exact ⟨_, by rw [hkk], hnl, below_set (below_set hB3' (by simp) _) (by simp) _⟩
        · skip
          have g3 : hasK 3 L = false := hno.out 0 (by omega)
          have GG := Lib.hid g3
          clear g3
          have HI := Lib.hid (index_any L 4 wr.heap.size _ (wr.alloc (.cells #[.int .i64 4] 3)) (HA.out _ (hB.alloc hbl _)) (by have := hp.1; omega) (by rw [Lib.cell_of_heap (heap_al_new _ _)]; rfl))
          go_wp2_with fail
          refine HI.out.mono ?_
          rintro e w2 ⟨z, rfl, hz2, hB2⟩
          obtain ⟨hd2, hf2⟩ := bcell hB2
          rcases hz2 with ⟨rfl, hno2⟩ | ⟨i, rfl, hi, hyes⟩
          · go_wp2
            go_roundw
            case rel =>
              refine ⟨2, by omega, by go_num, Lib.hid fun i hi => ?_, ?_, ?_, ?_⟩
              · have hi2 : i = 0 ∨ i = 1 := by omega
                rcases hi2 with rfl | rfl
                · exact GG.out
                · exact hno2.out
              · rw [hB2.block _ (by simp; omega), Below.heap_alloc _ _ _ (by omega)]; exact hR
              · rw [hB2.block _ (by simp; omega), Below.heap_alloc _ _ _ (by omega)]; exact hS
              · exact bup (hB.alloc hbl _) hB2
            case measure => simp [intOf]
          · have hkk : kindC c = 4 := by rw [hkd]; unfold kindS; rw [GG.out, show hasK 4 L = true from hyes.out]; rfl
            have hRw : w2.heap[w.heap.size + 1]? = some (.cells #[.int .i64 0, .string ⟨#[]⟩] 162 (0, 0)) := by rw [hB2.block _ (by simp; omega), Below.heap_alloc _ _ _ (by omega)]; exact hR
            obtain ⟨-, hnm0, -⟩ := HN.out i hi
            have hnl := hp.2 _ (List.getElem_mem hi)
            generalize L[i].name = nm at *
            have hB3 := bup (hB.alloc hbl (.cells #[.int .i64 4] 3)) hB2
            have hnm1 := cell_up hnm0 hB3
            have hK : w2.cell? ⟨wr.heap.size, 0, none⟩ = some (.int .i64 4) := by rw [hB2.cell (by simp)]; rw [Lib.cell_of_heap (heap_al_new _ _)]; rfl
            have q0 : w2.cell? ⟨w.heap.size + 1, 0, none⟩ = some (.int .i64 0) := by rw [Lib.cell_of_heap hRw]; rfl
            have q1 : w2.cell? ⟨w.heap.size + 1, 1, none⟩ = some (.string ⟨#[]⟩) := by rw [Lib.cell_of_heap hRw]; rfl
            have q2 : w2.frozen? ⟨w.heap.size + 1, 0, none⟩ = false := by simp [World.frozen?, hRw]
            have q3 : w2.frozen? ⟨w.heap.size + 1, 1, none⟩ = false := by simp [World.frozen?, hRw]
            obtain rfl := hadL i hi
            have hRw' : w2.drew.heap[w.heap.size + 1]? = some (.cells #[.int .i64 0, .string ⟨#[]⟩] 162 (0, 0)) := hRw
            have hB3' := Below.drew hB3
            have hi9 : (i : Int) < (L.length : Int) := by omega
            go_wp2_with fail
            go_region_with (fail)
            all_goals
              go_wp2
              try simp only [Exit.inBlock, Exit.then]
              refine key_ret (w.heap.size + 1) rfl (by have := put_same (o := 1) (.string nm) (put_same (o := 0) (.int .i64 4) hRw'); exact this) rfl ?_
              exact ⟨_, by rw [hkk], hnl, below_set (below_set hB3' (by simp) _) (by simp) _⟩
        · skip
          have g3 : hasK 3 L = false := hno.out 0 (by omega)
          have g4 : hasK 4 L = false := hno.out 1 (by omega)
          have GG := Lib.hid (And.intro g3 g4)
          clear g3 g4
          have HI := Lib.hid (index_any L 2 wr.heap.size _ (wr.alloc (.cells #[.int .i64 2] 3)) (HA.out _ (hB.alloc hbl _)) (by have := hp.1; omega) (by rw [Lib.cell_of_heap (heap_al_new _ _)]; rfl))
          go_wp2_with fail
          refine HI.out.mono ?_
          rintro e w2 ⟨z, rfl, hz2, hB2⟩
          obtain ⟨hd2, hf2⟩ := bcell hB2
          rcases hz2 with ⟨rfl, hno2⟩ | ⟨i, rfl, hi, hyes⟩
          · go_wp2
            go_roundw
            case rel =>
              refine ⟨3, by omega, by go_num, Lib.hid fun i hi => ?_, ?_, ?_, ?_⟩
              · have hi2 : i = 0 ∨ i = 1 ∨ i = 2 := by omega
                rcases hi2 with rfl | rfl | rfl
                · exact GG.out.1
                · exact GG.out.2
                · exact hno2.out
              · rw [hB2.block _ (by simp; omega), Below.heap_alloc _ _ _ (by omega)]; exact hR
              · rw [hB2.block _ (by simp; omega), Below.heap_alloc _ _ _ (by omega)]; exact hS
              · exact bup (hB.alloc hbl _) hB2
            case measure => simp [intOf]
          · have hkk : kindC c = 2 := by rw [hkd]; unfold kindS; rw [GG.out.1, GG.out.2, show hasK 2 L = true from hyes.out]; rfl
            have hRw : w2.heap[w.heap.size + 1]? = some (.cells #[.int .i64 0, .string ⟨#[]⟩] 162 (0, 0)) := by rw [hB2.block _ (by simp; omega), Below.heap_alloc _ _ _ (by omega)]; exact hR
            obtain ⟨-, hnm0, -⟩ := HN.out i hi
            have hnl := hp.2 _ (List.getElem_mem hi)
            generalize L[i].name = nm at *
            have hB3 := bup (hB.alloc hbl (.cells #[.int .i64 2] 3)) hB2
            have hnm1 := cell_up hnm0 hB3
            have hK : w2.cell? ⟨wr.heap.size, 0, none⟩ = some (.int .i64 2) := by rw [hB2.cell (by simp)]; rw [Lib.cell_of_heap (heap_al_new _ _)]; rfl
            have q0 : w2.cell? ⟨w.heap.size + 1, 0, none⟩ = some (.int .i64 0) := by rw [Lib.cell_of_heap hRw]; rfl
            have q1 : w2.cell? ⟨w.heap.size + 1, 1, none⟩ = some (.string ⟨#[]⟩) := by rw [Lib.cell_of_heap hRw]; rfl
            have q2 : w2.frozen? ⟨w.heap.size + 1, 0, none⟩ = false := by simp [World.frozen?, hRw]
            have q3 : w2.frozen? ⟨w.heap.size + 1, 1, none⟩ = false := by simp [World.frozen?, hRw]
            obtain rfl := hadL i hi
            have hRw' : w2.drew.heap[w.heap.size + 1]? = some (.cells #[.int .i64 0, .string ⟨#[]⟩] 162 (0, 0)) := hRw
            have hB3' := Below.drew hB3
            have hi9 : (i : Int) < (L.length : Int) := by omega
            go_wp2_with fail
            go_region_with (fail)
            all_goals
              go_wp2
              try simp only [Exit.inBlock, Exit.then]
              refine key_ret (w.heap.size + 1) rfl (by have := put_same (o := 1) (.string nm) (put_same (o := 0) (.int .i64 2) hRw'); exact this) rfl ?_
              exact ⟨_, by rw [hkk], hnl, below_set (below_set hB3' (by simp) _) (by simp) _⟩
        · have h3 : hasK 3 L = false := hno.out 0 (by omega)
          have h4 : hasK 4 L = false := hno.out 1 (by omega)
          have h2 : hasK 2 L = false := hno.out 2 (by omega)
          have hk0 : kindC c = 0 := by rw [hkd]; unfold kindS; rw [h3, h4, h2]; rfl
          clear h3 h4 h2
          go_wp2
          try simp only [Exit.inBlock, Exit.then]
          refine key_ret (w.heap.size + 1) rfl (by have := put_same (o := 1) (.string ⟨#[]⟩) (put_same (o := 0) (.int .i64 0) hR); exact this) rfl ?_
          exact ⟨_, by rw [hk0], by decide, below_set (below_set hB (by simp) _) (by simp) _⟩
end Go.Proofs.YtlnaihkombcbcaaGreat
