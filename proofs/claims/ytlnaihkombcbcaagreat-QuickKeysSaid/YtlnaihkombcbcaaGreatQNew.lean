/-
  quick.New: the index that is made of selectors.
-/
import Derived.Test.YtlnaihkombcbcaaGreatQGrp
import Derived.Deep.RegionHeld3
namespace Go.Proofs.YtlnaihkombcbcaaGreat
open Go.RowKit Go.Ev Go.ChangeMaps
theorem Tryz.infoEnt : (Tryz.prog.info? 167).map (fun i => (i.zero, i.size, i.bytes)) = some (some (.agg #[.slice none 0 0, .string ByteArray.empty, .int .i64 0, .slice none 0 0]), 4, 72) := by kernel_rfl
theorem zeroEnts (u : World) : (zeroValue 164).run Tryz.prog u = .ok (.slice none 0 0) u := by kernel_rfl
/-- append onto a row of the call's own, and where it lies, as one step of a region that draws -/
theorem step_append_at {P : Program} {ops : Array Oper} {o : Oper} {a : Act} {w : World} {K : Act → World → Prop} {Q : Exit → Act → World → Prop} {E : Prop}
    (hg : o.guard = none) (s x : Operand) (t : TypeId) (hop : o.op = Op.call { callee := Callee.builtin Builtin.append, args := #[s, x], argTypes := #[t, t] })
    (base : Nat) (e : TypeId) (i : TypeInfo) (z : Value) (size bytes : Nat) (ht : P.underlying t = some (.slice e)) (hi : P.info? e = some i) (hz : i.zero = some z) (hsize : i.size = size) (hby : i.bytes = bytes) (hzs : z.cells.size = size) (hsz : 0 < size)
    (v : Value) (n : Nat) (xs : List Value) (hs : a.eval s = v) (hown : w.ownsRow base e size v n xs)
    (ad : Addr) (m c : Nat) (news : List Value) (hx : a.eval x = .slice (some ad) m c) (hl : news.length = m * size) (hnews : ∀ j u, news[j]? = some u → w.cell? (ad.add j) = some u) (h1 : ∀ u ∈ news, u.oneCell' = true)
    (h63 : n + m ≤ maxLen) (hbytes : (n + m) * bytes ≤ 140737488355328) (hbase : base ≤ w.heap.size)
    (hK : ∀ v' w', w'.ownsRow base e size v' (n + m) (xs ++ news) → w.grownBy w' v.ownBlock → (v'.ownBlock = v.ownBlock ∨ v'.ownBlock = some w.heap.size) → K (a.put o.dst v') w') :
    if Region.wanted o (yielded ops a.tmps) = true then Oper.wp P o a w K Q else E := by
  have hw : Region.wanted o (yielded ops a.tmps) = true := by simp [Region.wanted, hg]
  rw [if_pos hw]
  obtain ⟨v', w', hrun, r1, r2, -, r3⟩ := run_append_own_at (P := P) w base t o.type e i z size bytes ht hi hz hsize hby hzs hsz v n xs hown ad m c news hl hnews h1 h63 hbytes hbase
  unfold Oper.wp
  simp [execOp, hop, resolve, invoke, builtin, hs, hx, hrun, Result.andThen]
  exact hK v' w' r1 r2 r3
theorem below_setBlock {B k : Nat} {w w' : World} (h : Below B w w') (hk : B ≤ k) (o : Obj) : Below B w (setBlock w' k o) :=
  ⟨h.os, h.tape, h.output, by rw [setBlock_size']; exact h.size, fun i hi => (setBlock_ne' _ (by omega)).trans (h.block i hi)⟩
/-- what the loads of a round read -/
theorem sq_same {b1 K C : Nat} {x y z p q : Value} {w0 w1 : World} (h : w0.cell? ⟨b1, 0, none⟩ = some x ∧ w0.cell? ⟨K, 0, none⟩ = some y ∧ w0.cell? ⟨K, 1, none⟩ = some z ∧ w0.cell? ⟨C, 0, none⟩ = some p ∧ w0.cell? ⟨C, 1, none⟩ = some q)
    (hs : ∀ g, g = b1 ∨ g = K ∨ g = C → w1.heap[g]? = w0.heap[g]?) : w1.cell? ⟨b1, 0, none⟩ = some x ∧ w1.cell? ⟨K, 0, none⟩ = some y ∧ w1.cell? ⟨K, 1, none⟩ = some z ∧ w1.cell? ⟨C, 0, none⟩ = some p ∧ w1.cell? ⟨C, 1, none⟩ = some q := by
  obtain ⟨h1, h2, h3, h4, h5⟩ := h
  exact ⟨by rw [World.cell?_of_block (hs b1 (.inl rfl))]; exact h1, by rw [World.cell?_of_block (hs K (.inr (.inl rfl)))]; exact h2, by rw [World.cell?_of_block (hs K (.inr (.inl rfl)))]; exact h3,
    by rw [World.cell?_of_block (hs C (.inr (.inr rfl)))]; exact h4, by rw [World.cell?_of_block (hs C (.inr (.inr rfl)))]; exact h5⟩
theorem row4_new (w8 : World) (B : Nat) (M : Obj) (t : TypeId) (x0 x1 x2 x3 : Value) (hB : B < w8.heap.size) :
    ∀ (j : Nat) (u : Value), [x0, x1, x2, x3][j]? = some u → (setBlock (w8.alloc (.cells #[x0, x1, x2, x3] t)) B M).cell? ((⟨w8.heap.size, 0, none⟩ : Addr).add j) = some u := by
  intro j u hj
  have hg : (setBlock (w8.alloc (.cells #[x0, x1, x2, x3] t)) B M).heap[w8.heap.size]? = some (.cells #[x0, x1, x2, x3] t) := by rw [setBlock_ne' _ (by omega)]; exact heap_al_new _ _
  rw [Addr.add_lit, Nat.zero_add, Lib.cell_of_heap hg]
  simpa using hj
/-- what quick.New tells -/
def NewPost (l : List Cx) (w : World) (e : Ending) (w' : World) : Prop :=
  ∃ es clk, e = .returned (.pointer (some ⟨w.heap.size + 1, 0, none⟩)) ∧ Grp w' w.heap.size es clk l ∧ w'.cell? ⟨w.heap.size + 1, 0, none⟩ = some (.map (some w.heap.size)) ∧ Below w.heap.size w w'
theorem wf_kind (c : Cx) : (Lit.int .i64 (kindC c)).wf = true := by
  have : kindC c = 3 ∨ kindC c = 4 ∨ kindC c = 2 ∨ kindC c = 0 := by
    unfold kindC
    split
    · unfold kindS
      split
      · exact .inl rfl
      · split
        · exact .inr (.inl rfl)
        · split
          · exact .inr (.inr (.inl rfl))
          · exact .inr (.inr (.inr rfl))
    · exact .inr (.inr (.inr rfl))
  rcases this with h | h | h | h <;> rw [h] <;> rfl
set_option maxRecDepth 100000 in
set_option maxHeartbeats 8000000 in
theorem new_any (l : List Cx) (v : Value) (w : World) (hv : At w (.sl l.length 2 (l.flatMap encC)) v) (hl : l.length ≤ 1000) (hp : ∀ c ∈ l, c.parts.length ≤ 1000 ∧ ∀ p ∈ c.parts, p.l.length ≤ 1000 ∧ shortS p.l) :
    Calls Tryz.prog 46 #[v] w (NewPost l w) := by
  obtain ⟨i0, hi, hz0, hz1, hz2⟩ := info_parts Tryz.infoEnt
  obtain ⟨ad, cap, rfl, hcap⟩ := At.sl_form hv
  have hmm := @run_makeMap Tryz.prog
  have hA0 : Below w.heap.size w ((w.alloc (.map #[] 0)).alloc (.cells #[.map (some w.heap.size)] 160)) := ((Below.refl _ w).alloc (Nat.le_refl _) _).alloc (by simp) _
  go_enter Tryz.func46, Tryz.ntmps46
  go_wp2
  go_loopw [4, 5, 6, 12] (fun _ _ _ v12 wr => ∃ (k : Nat) (es : Array MapEntry) (clk : Nat), k ≤ l.length ∧ v12 = .int .i64 k ∧ Grp wr w.heap.size es clk (l.take k) ∧ wr.cell? ⟨w.heap.size + 1, 0, none⟩ = some (.map (some w.heap.size)) ∧ Below w.heap.size w wr ∧ w.heap.size + 1 < wr.heap.size) (fun _ _ _ v12 _ => l.length - (intOf v12).toNat)
  case atStart =>
    refine ⟨0, #[], 0, Nat.zero_le _, rfl, ?_, ?_, hA0, by simp⟩
    · have := (Grp.start w).below (below_alloc (w.alloc (.map #[] 0)) (.cells #[.map (some w.heap.size)] 160))
      simpa using this
    · have := heap_al_new (w.alloc (.map #[] 0)) (.cells #[.map (some w.heap.size)] 160)
      rw [World.size_alloc] at this
      rw [Lib.cell_of_heap this]; rfl
  case round =>
    obtain ⟨k, es, clk, hk, rfl, hgrp, hbx, hB, hz⟩ := hrel
    by_cases hlt : k < l.length
    · rcases sl_cells encC 2 (fun _ => rfl) hv with ⟨rfl, -⟩ | ⟨b, o, cap', e9, hcap', hpos, hc⟩
      · simp at hlt
      · obtain ⟨rfl, rfl⟩ : ad = some ⟨b, o, none⟩ ∧ cap = cap' := by cases e9; exact ⟨rfl, rfl⟩
        obtain ⟨pa, pc, c0, ha, c1⟩ := cx_cells hc hlt
        have c0' := cell_up c0 hB
        have c1' := cell_up c1 hB
        have hpc := hp _ (List.getElem_mem hlt)
        have hAt : ∀ w', Below w.heap.size w w' → At w' (.sl l[k].parts.length 2 (l[k].parts.flatMap encP)) (.slice pa l[k].parts.length pc) := fun w' hb => ha.below hb
        have htake : l.take (k + 1) = l.take k ++ [l[k]] := List.take_succ_eq_append_getElem hlt
        clear hc e9 hpos c0 c1 ha hp
        generalize l[k] = c at *
        have HKEY := Lib.hid fun w' hb => keyOf_any c _ w' (hAt w' hb) hpc.1 hpc.2
        have HWRD := Lib.hid fun w' hb => words_any c _ w' (hAt w' hb) hpc.1 hpc.2
        have hsz := hB.size
        have hB1 : Below w.heap.size w (wr.alloc (.cells #[.slice pa c.parts.length pc, .string c.pseudo] 90)) := hB.alloc hsz _
        go_wp2_with fail
        refine (HKEY.out _ hB1).mono ?_
        rintro e w6 ⟨nm, rfl, hnm, hB6⟩
        obtain ⟨hd6, hf6⟩ := bcell hB6
        have hz6 : wr.heap.size < w6.heap.size := by have := hB6.size; simp at this; omega
        go_wp2_with fail
        have hkk := wf_kind c
        have hq : IsQ (.agg #[.int .i64 (kindC c), .string nm]) := key_lit hkk hnm
        obtain ⟨-, -, -, kl, hkl⟩ := hq
        have hq : IsQ (.agg #[.int .i64 (kindC c), .string nm]) := key_lit hkk hnm
        have hks : ∀ x ∈ es.toList, ∃ l, keyOf Tryz.prog 162 x.key = some l := fun x hx => by obtain ⟨-, -, -, h⟩ := hgrp.keys x hx; exact h
        have hBr6 : Below wr.heap.size wr w6 := (below_alloc wr (.cells #[.slice pa c.parts.length pc, .string c.pseudo] 90)).trans (hB6.mono (by simp))
        have hBr7 : Below wr.heap.size wr (w6.alloc (.cells #[.int .i64 (kindC c), .string nm] 162)).drew := Below.drew (hBr6.alloc (Nat.le_of_lt hz6) _)
        have hBw7 : Below w.heap.size w (w6.alloc (.cells #[.int .i64 (kindC c), .string nm] 162)).drew := bup hB hBr7
        have hC6 : w6.heap[wr.heap.size]? = some (.cells #[.slice pa c.parts.length pc, .string c.pseudo] 90) := by rw [hB6.block _ (by simp)]; exact heap_al_new _ _
        have hS7 : (w6.alloc (.cells #[.int .i64 (kindC c), .string nm] 162)).cell? ⟨w.heap.size + 1, 0, none⟩ = some (.map (some w.heap.size)) ∧ (w6.alloc (.cells #[.int .i64 (kindC c), .string nm] 162)).cell? ⟨w6.heap.size, 0, none⟩ = some (.int .i64 (kindC c)) ∧ (w6.alloc (.cells #[.int .i64 (kindC c), .string nm] 162)).cell? ⟨w6.heap.size, 1, none⟩ = some (.string nm) ∧
            (w6.alloc (.cells #[.int .i64 (kindC c), .string nm] 162)).cell? ⟨wr.heap.size, 0, none⟩ = some (.slice pa c.parts.length pc) ∧ (w6.alloc (.cells #[.int .i64 (kindC c), .string nm] 162)).cell? ⟨wr.heap.size, 1, none⟩ = some (.string c.pseudo) := by
          refine ⟨?_, ?_, ?_, ?_, ?_⟩
          · rw [cell_alloc_far _ _ _ _ (by omega), hBr6.cell (by simp; omega)]; exact hbx
          · rw [Lib.cell_of_heap (heap_al_new _ _)]; rfl
          · rw [Lib.cell_of_heap (heap_al_new _ _)]; rfl
          · rw [cell_alloc_far _ _ _ _ hz6, Lib.cell_of_heap hC6]; rfl
          · rw [cell_alloc_far _ _ _ _ hz6, Lib.cell_of_heap hC6]; rfl
        have hS7d : (w6.alloc (.cells #[.int .i64 (kindC c), .string nm] 162)).drew.cell? ⟨w.heap.size + 1, 0, none⟩ = some (.map (some w.heap.size)) ∧ (w6.alloc (.cells #[.int .i64 (kindC c), .string nm] 162)).drew.cell? ⟨w6.heap.size, 0, none⟩ = some (.int .i64 (kindC c)) ∧ (w6.alloc (.cells #[.int .i64 (kindC c), .string nm] 162)).drew.cell? ⟨w6.heap.size, 1, none⟩ = some (.string nm) ∧
            (w6.alloc (.cells #[.int .i64 (kindC c), .string nm] 162)).drew.cell? ⟨wr.heap.size, 0, none⟩ = some (.slice pa c.parts.length pc) ∧ (w6.alloc (.cells #[.int .i64 (kindC c), .string nm] 162)).drew.cell? ⟨wr.heap.size, 1, none⟩ = some (.string c.pseudo) := hS7
        have hsz7 : (w6.alloc (.cells #[.int .i64 (kindC c), .string nm] 162)).drew.heap.size = w6.heap.size + 1 := World.size_alloc _ _
        clear hd6 hf6 hC6 hB1
        have hWC := HWRD.out _ hBw7
        by_cases hex : ∃ (j : Nat) (e0 : MapEntry), es.toList[j]? = some e0 ∧ e0.key = .agg #[.int .i64 (kindC c), .string nm]
        · obtain ⟨j, e0, hj, he0⟩ := hex
          obtain ⟨n0, ys0, ho0, hn0⟩ := hgrp.vals j e0 hj
          obtain ⟨a0, q0, hv0⟩ := owns_slice ho0
          have hn00 : lenE e0.val = n0 := owns_len ho0
          have hn0k : n0 ≤ 1000 := Nat.le_trans hn0 (Nat.le_trans (List.length_take_le k l) (by omega))
          have HX := Lib.hid fun (w8 : World) (a8 : Option Addr) (n8 c8 : Nat) (hB8 : Below (w6.alloc (.cells #[.int .i64 (kindC c), .string nm] 162)).drew.heap.size (w6.alloc (.cells #[.int .i64 (kindC c), .string nm] 162)).drew w8) =>
            (hgrp.below ((bup hBr7 hB8).alloc (Nat.le_trans (Nat.le_of_lt hz6) (by have := hB8.size; rw [hsz7] at this; omega)) (.cells #[.slice pa c.parts.length pc, .string c.pseudo, .int .i64 k, .slice a8 n8 c8] Ent)))
          have HEF := Lib.hid fun (w8 : World) (a8 : Option Addr) (n8 c8 : Nat) (hB8 : Below (w6.alloc (.cells #[.int .i64 (kindC c), .string nm] 162)).drew.heap.size (w6.alloc (.cells #[.int .i64 (kindC c), .string nm] 162)).drew w8) =>
            entry_found key_law Tryz.underlying158 (HX.out w8 a8 n8 c8 hB8).at_ hgrp.st hks hkl hj he0
          rw [hv0] at HEF
          have HO := Lib.hid fun (w8 : World) (a8 : Option Addr) (n8 c8 : Nat) (hB8 : Below (w6.alloc (.cells #[.int .i64 (kindC c), .string nm] 162)).drew.heap.size (w6.alloc (.cells #[.int .i64 (kindC c), .string nm] 162)).drew w8) =>
            owns_same (W' := setBlock (w8.alloc (.cells #[.slice pa c.parts.length pc, .string c.pseudo, .int .i64 k, .slice a8 n8 c8] Ent)) w.heap.size (.map es clk)) ho0 fun g hg => by
              have hr := hgrp.row_lt hj hg
              have h8 := hB8.size
              rw [hsz7] at h8
              rw [setBlock_ne' _ (by omega), Below.heap_alloc _ _ _ (by omega), (bup hBr7 hB8).block g hr.2]
          rw [hv0] at HO
          have hrow : ∀ g, (Value.slice a0 n0 q0).ownBlock = some g → w.heap.size + 2 ≤ g ∧ g < wr.heap.size := by rw [← hv0]; exact fun g hg => hgrp.row_lt hj hg
          clear hks hv ho0
          go_region_held3 (fun w' => w'.cell? ⟨w.heap.size + 1, 0, none⟩ = some (.map (some w.heap.size)) ∧ w'.cell? ⟨w6.heap.size, 0, none⟩ = some (.int .i64 (kindC c)) ∧ w'.cell? ⟨w6.heap.size, 1, none⟩ = some (.string nm) ∧ w'.cell? ⟨wr.heap.size, 0, none⟩ = some (.slice pa c.parts.length pc) ∧ w'.cell? ⟨wr.heap.size, 1, none⟩ = some (.string c.pseudo))
            (first | exact hS7 | exact hS7d | exact hS8 | exact hS8a | exact hS8m | exact hS9 | exact hS9s)
            ((first
              | (go_at_call 100
                 refine hWC.mono ?_
                 rintro e w8 ⟨⟨a8, n8, c8, rfl⟩, hB8⟩
                 have hsz8 : w6.heap.size + 1 ≤ w8.heap.size := by have := hB8.size; rw [hsz7] at this; exact this
                 have hS8 := sq_same (w1 := w8) hS7d (fun g hg => hB8.block g (by rw [hsz7]; omega))
                 have hS8a := sq_same (w1 := w8.alloc (.cells #[.slice pa c.parts.length pc, .string c.pseudo, .int .i64 k, .slice a8 n8 c8] Ent)) hS8 (fun g hg => Below.heap_alloc _ _ _ (by omega))
                 have hS8m := sq_same (w1 := setBlock (w8.alloc (.cells #[.slice pa c.parts.length pc, .string c.pseudo, .int .i64 k, .slice a8 n8 c8] Ent)) w.heap.size (.map es clk)) hS8a (fun g hg => setBlock_ne' _ (by omega))
                 have hE8 := (HEF.out w8 a8 n8 c8 hB8).1
                 have hO8 := HO.out w8 a8 n8 c8 hB8)
              | (refine step_append_at rfl (.tmp 24) (.tmp 30) 164 rfl (w.heap.size + 2) Ent i0 _ 4 72 Tryz.underlying164 hi hz0 hz1 hz2 rfl (by decide) (.slice a0 n0 q0) n0 ys0 rfl hO8 ⟨w8.heap.size, 0, none⟩ 1 1 _ rfl rfl (row4_new w8 w.heap.size _ _ _ _ _ _ (by omega)) (by simp [Value.oneCell']) (by unfold maxLen; omega) (by omega) (by rw [setBlock_size', World.size_alloc]; omega) ?_
                 intro v9 w9 hown9 hgrow9 hloc9
                 have hW1 : (setBlock (w8.alloc (.cells #[.slice pa c.parts.length pc, .string c.pseudo, .int .i64 k, .slice a8 n8 c8] Ent)) w.heap.size (.map es clk)).heap.size = w8.heap.size + 1 := by rw [setBlock_size', World.size_alloc]
                 have hS9 := sq_same (w1 := w9) hS8m (fun g hg => hgrow9.block g (by rw [hW1]; omega) (fun e => by have := hrow g e.symm; omega))
                 have hM9 : w9.heap[w.heap.size]? = some (.map es clk) := by
                   rw [hgrow9.block _ (by rw [hW1]; omega) (fun e => by have := hrow _ e.symm; omega)]
                   exact setBlock_same' _ (by rw [World.size_alloc]; omega)
                 have hE9 := (HEF.out w8 a8 n8 c8 hB8).2 w9 v9 hM9
                 have hS9s := sq_same (w1 := setBlock w9 w.heap.size (.map (es.modify j (fun e' => { e' with val := v9 })) clk)) hS9 (fun g hg => setBlock_ne' _ (by omega)))))
          have hg9 := Grp.found (W := w8.alloc (.cells #[.slice pa c.parts.length pc, .string c.pseudo, .int .i64 k, .slice a8 n8 c8] Ent)) (c := c) (nm := nm) (HX.out w8 a8 n8 c8 hB8) hj he0 (by rw [hn00]; exact hown9) (by rw [hv0]; exact hgrow9) (by rw [hv0]; exact hloc9)
          have hBw8 : Below w.heap.size w (w8.alloc (.cells #[.slice pa c.parts.length pc, .string c.pseudo, .int .i64 k, .slice a8 n8 c8] Ent)) := (bup hBw7 hB8).alloc (by omega) _
          have hBw9 : Below w.heap.size w w9 := (below_setBlock hBw8 (Nat.le_refl _) _).grown hgrow9 (by rw [hW1]; omega) (fun g e => by have := hrow g e; omega)
          have hfin := below_setBlock hBw9 (Nat.le_refl _) (.map (es.modify j (fun e' => { e' with val := v9 })) clk)
          have hz9 : w.heap.size + 1 < w9.heap.size := by have := hgrow9.size; rw [hW1] at this; omega
          go_wp2
          go_roundw
          case rel => exact ⟨k + 1, _, _, by omega, by go_num, by rw [htake]; exact hg9, hS9s.1, hfin, by rw [setBlock_size']; exact hz9⟩
          case measure => simp [intOf]; omega
        · have hno : ∀ x ∈ es.toList, x.key ≠ .agg #[.int .i64 (kindC c), .string nm] := fun x hx e => by
            obtain ⟨j, hj⟩ := List.getElem?_of_mem hx
            exact hex ⟨j, x, hj, e⟩
          have HX := Lib.hid fun (w8 : World) (a8 : Option Addr) (n8 c8 : Nat) (hB8 : Below (w6.alloc (.cells #[.int .i64 (kindC c), .string nm] 162)).drew.heap.size (w6.alloc (.cells #[.int .i64 (kindC c), .string nm] 162)).drew w8) =>
            (hgrp.below ((bup hBr7 hB8).alloc (Nat.le_trans (Nat.le_of_lt hz6) (by have := hB8.size; rw [hsz7] at this; omega)) (.cells #[.slice pa c.parts.length pc, .string c.pseudo, .int .i64 k, .slice a8 n8 c8] Ent)))
          have HEF := Lib.hid fun (w8 : World) (a8 : Option Addr) (n8 c8 : Nat) (hB8 : Below (w6.alloc (.cells #[.int .i64 (kindC c), .string nm] 162)).drew.heap.size (w6.alloc (.cells #[.int .i64 (kindC c), .string nm] 162)).drew w8) =>
            entry_new key_law Tryz.underlying158 zeroEnts (HX.out w8 a8 n8 c8 hB8).at_ hgrp.st hks hkl hno
          clear hks hv hex
          go_region_held3 (fun w' => w'.cell? ⟨w.heap.size + 1, 0, none⟩ = some (.map (some w.heap.size)) ∧ w'.cell? ⟨w6.heap.size, 0, none⟩ = some (.int .i64 (kindC c)) ∧ w'.cell? ⟨w6.heap.size, 1, none⟩ = some (.string nm) ∧ w'.cell? ⟨wr.heap.size, 0, none⟩ = some (.slice pa c.parts.length pc) ∧ w'.cell? ⟨wr.heap.size, 1, none⟩ = some (.string c.pseudo))
            (first | exact hS7 | exact hS7d | exact hS8 | exact hS8a | exact hS8m | exact hS9 | exact hS9s)
            ((first
              | (go_at_call 100
                 refine hWC.mono ?_
                 rintro e w8 ⟨⟨a8, n8, c8, rfl⟩, hB8⟩
                 have hsz8 : w6.heap.size + 1 ≤ w8.heap.size := by have := hB8.size; rw [hsz7] at this; exact this
                 have hS8 := sq_same (w1 := w8) hS7d (fun g hg => hB8.block g (by rw [hsz7]; omega))
                 have hS8a := sq_same (w1 := w8.alloc (.cells #[.slice pa c.parts.length pc, .string c.pseudo, .int .i64 k, .slice a8 n8 c8] Ent)) hS8 (fun g hg => Below.heap_alloc _ _ _ (by omega))
                 have hS8m := sq_same (w1 := setBlock (w8.alloc (.cells #[.slice pa c.parts.length pc, .string c.pseudo, .int .i64 k, .slice a8 n8 c8] Ent)) w.heap.size (.map (es.push ⟨.agg #[.int .i64 (kindC c), .string nm], .slice none 0 0, clk⟩) (clk + 1))) hS8a (fun g hg => setBlock_ne' _ (by omega))
                 have hE8 := (HEF.out w8 a8 n8 c8 hB8).1)
              | (refine step_append_at rfl (.tmp 24) (.tmp 30) 164 rfl (w.heap.size + 2) Ent i0 _ 4 72 Tryz.underlying164 hi hz0 hz1 hz2 rfl (by decide) (.slice none 0 0) 0 [] rfl (World.ownsRow_nil _ _ _ _) ⟨w8.heap.size, 0, none⟩ 1 1 _ rfl rfl (row4_new w8 w.heap.size _ _ _ _ _ _ (by omega)) (by simp [Value.oneCell']) (by unfold maxLen; omega) (by omega) (by rw [setBlock_size', World.size_alloc]; omega) ?_
                 intro v9 w9 hown9 hgrow9 hloc9
                 have hW1 : (setBlock (w8.alloc (.cells #[.slice pa c.parts.length pc, .string c.pseudo, .int .i64 k, .slice a8 n8 c8] Ent)) w.heap.size (.map (es.push ⟨.agg #[.int .i64 (kindC c), .string nm], .slice none 0 0, clk⟩) (clk + 1))).heap.size = w8.heap.size + 1 := by rw [setBlock_size', World.size_alloc]
                 have hS9 := sq_same (w1 := w9) hS8m (fun g hg => hgrow9.block g (by rw [hW1]; omega) (fun e => by cases e))
                 have hM9 : w9.heap[w.heap.size]? = some (.map (es.push ⟨.agg #[.int .i64 (kindC c), .string nm], .slice none 0 0, clk⟩) (clk + 1)) := by
                   rw [hgrow9.block _ (by rw [hW1]; omega) (fun e => by cases e)]
                   exact setBlock_same' _ (by rw [World.size_alloc]; omega)
                 have hE9 := (HEF.out w8 a8 n8 c8 hB8).2 w9 v9 hM9
                 have hS9s := sq_same (w1 := setBlock w9 w.heap.size (.map (es.push ⟨.agg #[.int .i64 (kindC c), .string nm], v9, clk⟩) (clk + 1))) hS9 (fun g hg => setBlock_ne' _ (by omega)))))
          have hg9 := Grp.new (W := w8.alloc (.cells #[.slice pa c.parts.length pc, .string c.pseudo, .int .i64 k, .slice a8 n8 c8] Ent)) (c := c) (nm := nm) (z := .slice none 0 0) (HX.out w8 a8 n8 c8 hB8) hq hno hown9 hgrow9 hloc9
          have hBw8 : Below w.heap.size w (w8.alloc (.cells #[.slice pa c.parts.length pc, .string c.pseudo, .int .i64 k, .slice a8 n8 c8] Ent)) := (bup hBw7 hB8).alloc (by omega) _
          have hBw9 : Below w.heap.size w w9 := (below_setBlock hBw8 (Nat.le_refl _) _).grown hgrow9 (by rw [hW1]; omega) (fun g e => by cases e)
          have hfin := below_setBlock hBw9 (Nat.le_refl _) (.map (es.push ⟨.agg #[.int .i64 (kindC c), .string nm], v9, clk⟩) (clk + 1))
          have hz9 : w.heap.size + 1 < w9.heap.size := by have := hgrow9.size; rw [hW1] at this; omega
          go_wp2
          go_roundw
          case rel => exact ⟨k + 1, _, _, by omega, by go_num, by rw [htake]; exact hg9, hS9s.1, hfin, by rw [setBlock_size']; exact hz9⟩
          case measure => simp [intOf]; omega
    · obtain rfl : k = l.length := by omega
      rw [List.take_length] at hgrp
      go_wp2
      go_ret
      exact ⟨_, _, rfl, hgrp, hbx, hB⟩
end Go.Proofs.YtlnaihkombcbcaaGreat
