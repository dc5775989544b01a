/-
  winnowinglaw22.ToolLines: the walk where the first text is taken.
-/
import Derived.Test.YtfpegmeppgdklaaDoorToolL
import Derived.Deep.CutRange
namespace Go.Proofs.YtfpegmeppgdklaaDoor
open Go.RowKit
/-- three cells of a block, laid anew -/
def put3 (W : World) (z : Nat) (x0 x1 x2 : Value) : World := ((W.setCell ⟨z, 0, none⟩ x0).setCell ⟨z, 1, none⟩ x1).setCell ⟨z, 2, none⟩ x2
theorem put3_fold (W : World) (z : Nat) (x0 x1 x2 : Value) : ((W.setCell ⟨z, 0, none⟩ x0).setCell ⟨z, 1, none⟩ x1).setCell ⟨z, 2, none⟩ x2 = put3 W z x0 x1 x2 := rfl
theorem put3_cells {W : World} {z : Nat} {a0 a1 a2 : Value} {t : TypeId} (h : W.heap[z]? = some (.cells #[a0, a1, a2] t (0, 0))) (x0 x1 x2 : Value) : (put3 W z x0 x1 x2).heap[z]? = some (.cells #[x0, x1, x2] t (0, 0)) := by
  have := put_same (o := 2) x2 (put_same (o := 1) x1 (put_same (o := 0) x0 h))
  rw [set3] at this
  exact this
theorem put3_only (W : World) (z : Nat) (x0 x1 x2 : Value) : OnlyB z W (put3 W z x0 x1 x2) := fun b o h => by
  unfold put3
  rw [cell_set_far _ _ _ _ _ h, cell_set_far _ _ _ _ _ h, cell_set_far _ _ _ _ _ h]
theorem put3_far {W : World} {z c : Nat} {x : Option Obj} (x0 x1 x2 : Value) (h : W.heap[c]? = x) (hne : c ≠ z) : (put3 W z x0 x1 x2).heap[c]? = x := put_far _ (put_far _ (put_far _ h hne) hne) hne
theorem put3_below {w W : World} {z B : Nat} (hb : Below B w W) (hz : B ≤ z) (x0 x1 x2 : Value) : Below B w (put3 W z x0 x1 x2) :=
  ((hb.setCell (p := ⟨z, 0, none⟩) hz x0).setCell (p := ⟨z, 1, none⟩) hz x1).setCell (p := ⟨z, 2, none⟩) hz x2
/-- behind the call of Line and the new variable -/
def LR (wr : World) (d : Cfg) (ok : Bool) (v16 v17 : Value) (wx : World) : Prop :=
  ∃ z r1 s1 t1 r2 s2 t2 q, v16 = .pointer (some ⟨z, 0, none⟩) ∧ v17 = .bool ok ∧ wx.heap[z]? = some (.cells #[.slice r1 s1 t1, .slice r2 s2 t2, .bool q] 26 (0, 0)) ∧
    CfgAt wx (.agg #[.slice r1 s1 t1, .slice r2 s2 t2, .bool q]) d ∧ wr.heap.size ≤ z ∧ Below wr.heap.size wr wx
theorem LR1 {wr w7 : World} {d : Cfg} {ok : Bool} {r1 r2 : Option Addr} {s1 t1 s2 t2 : Nat} {q : Bool} (hB : Below wr.heap.size wr w7) (hc : CfgAt w7 (.agg #[.slice r1 s1 t1, .slice r2 s2 t2, .bool q]) d) :
    LR wr d ok (.pointer (some ⟨w7.heap.size, 0, none⟩)) (.bool ok) (w7.alloc (.cells #[.slice r1 s1 t1, .slice r2 s2 t2, .bool q] 26)) :=
  ⟨_, _, _, _, _, _, _, _, rfl, rfl, heap_al_new _ _, hc.below (below_alloc _ _), hB.size, bup hB (below_alloc _ _)⟩
theorem noStr_of {W : World} {z : Nat} {r1 r2 : Option Addr} {s1 t1 s2 t2 : Nat} {q : Bool} {t : TypeId} (h : W.heap[z]? = some (.cells #[.slice r1 s1 t1, .slice r2 s2 t2, .bool q] t (0, 0))) : NoStr W z :=
  ⟨_, _, _, _, h, (fun _ e => by cases e), (fun _ e => by cases e), (fun _ e => by cases e)⟩
theorem LR2 {wr w7 : World} {d : Cfg} {ok : Bool} {r1 r2 : Option Addr} {s1 t1 s2 t2 : Nat} {q : Bool} (hB : Below wr.heap.size wr w7) (hZ : w7.heap[wr.heap.size]? = some (.cells #[.slice none 0 0, .slice none 0 0, .bool false] 26 (0, 0)))
    (hc : CfgAt w7 (.agg #[.slice r1 s1 t1, .slice r2 s2 t2, .bool q]) d) :
    LR wr d ok (.pointer (some ⟨wr.heap.size, 0, none⟩)) (.bool ok) (put3 w7 wr.heap.size (.slice r1 s1 t1) (.slice r2 s2 t2) (.bool q)) :=
  ⟨_, _, _, _, _, _, _, _, rfl, rfl, put3_cells hZ _ _ _, hc.only (noStr_of hZ) (put3_only _ _ _ _ _), Nat.le_refl _, put3_below hB (Nat.le_refl _) _ _ _⟩
theorem lineM_no (c : Cfg) (x : Str) (h : (lineM c x).2 = false) : (lineM c x).1 = c := by
  unfold lineM at *
  split
  · rename_i h1; rw [if_pos h1] at h; cases h
  · rename_i h1
    rw [if_neg h1] at h
    split
    · rename_i h2
      rw [if_pos h2] at h
      split
      · rename_i h3; rw [if_pos h3] at h; cases h
      · rfl
    · rename_i h2
      rw [if_neg h2] at h
      split
      · rename_i h4
        rw [if_pos h4] at h
        split
        · rename_i h3; rw [if_pos h3] at h; cases h
        · rfl
      · rfl
/-- behind the store -/
theorem TL.next {w wr wx : World} {Ba Bb b off k : Nat} {A D d : Cfg} {L : List Str} {bc : Array Value} {r1 r2 : Option Addr} {s1 t1 s2 t2 : Nat} {q : Bool}
    (h : TL w Ba Bb b off A D L bc k wr) (hrun : runM A (L.take (k + 1)) = some d) (hne : Ba ≠ Bb) (hw : w.heap.size ≤ Ba)
    (hx : CfgAt wx (.agg #[.slice r1 s1 t1, .slice r2 s2 t2, .bool q]) d) (hB : Below wr.heap.size wr wx) : TL w Ba Bb b off A D L bc (k + 1) (put3 wx Ba (.slice r1 s1 t1) (.slice r2 s2 t2) (.bool q)) := by
  obtain ⟨c, a1, n1, c1, a2, n2, c2, q0, hr, ha, hac, hb, hbc, hcl, hBw⟩ := h
  have ha' := (hB.block _ (Array.getElem?_eq_some_iff.1 ha).1).trans ha
  have hb' := (hB.block _ (Array.getElem?_eq_some_iff.1 hb).1).trans hb
  have hN := noStr_of ha'
  have hO := put3_only wx Ba (.slice r1 s1 t1) (.slice r2 s2 t2) (.bool q)
  refine ⟨d, _, _, _, _, _, _, _, Lib.hid hrun, put3_cells ha' _ _ _, hx.only hN hO, put3_far _ _ _ hb' (Ne.symm hne), (hbc.below hB).only hN hO, Lib.hid fun j hj => ?_, put3_below (bup hBw hB) hw _ _ _⟩
  have hc := cell_up (hcl.out j hj) hB
  have hbne : b ≠ Ba := fun e => by subst e; exact hN.off hc
  rw [hO b _ hbne]
  exact hc
theorem TL.skip {w wr : World} {Ba Bb b off k : Nat} {A D : Cfg} {L : List Str} {bc : Array Value} (h : TL w Ba Bb b off A D L bc k wr) {hk : k < L.length} (hs : skipB L[k] = true) : TL w Ba Bb b off A D L bc (k + 1) wr := by
  obtain ⟨c, a1, n1, c1, a2, n2, c2, q, hr, h2⟩ := h
  refine ⟨c, a1, n1, c1, a2, n2, c2, q, Lib.hid ?_, h2⟩
  rw [← List.take_append_getElem hk, runM_snoc, hr.out]
  show stepM c L[k] = _
  rw [stepM, if_pos hs]
set_option maxRecDepth 100000 in
set_option maxHeartbeats 4000000 in
theorem toolLines_some (s t : ByteArray) (w : World) (hg : Glob w) (h1 : s.size ≤ 400) (h2 : t.size ≤ 400) (A : Cfg) (h : runM emptyC (linesM s.data.toList) = some A) :
    Calls Tryd.prog 4 #[.string s, .string t] w fun e w' => e = .returned (.bool true) ∧ Below w.heap.size w w' := by
  obtain ⟨n, hn⟩ : ∃ n, n = (linesM s.data.toList).length := ⟨_, rfl⟩
  obtain ⟨L, hL⟩ : ∃ L, L = linesM t.data.toList := ⟨_, rfl⟩
  have hx : (s ++ (⟨#[10]⟩ : ByteArray) ++ t).size ≤ 1000000 := by
    simp only [ByteArray.size_append]; have z : (⟨#[10]⟩ : ByteArray).size = 1 := rfl; omega
  have hy : (s ++ (⟨#[10, 35, 120, 10, 10]⟩ : ByteArray) ++ s).size ≤ 1000000 := by
    simp only [ByteArray.size_append]; have z : (⟨#[10, 35, 120, 10, 10]⟩ : ByteArray).size = 5 := rfl; omega
  have hn4 : n ≤ 401 := by have := linesM_len s.data.toList; rw [ba_len] at this; omega
  have hL4 : L.length ≤ 401 := by have := linesM_len t.data.toList; rw [ba_len] at this; rw [hL]; omega
  have hL0 : 0 < L.length := by rw [hL]; exact linesAux_pos [] _
  have e1 := parse_some h
  rw [← hn] at e1
  obtain ⟨pm, hpm⟩ : ∃ pm, pm = parseM (s.data.toList ++ 10 :: t.data.toList) := ⟨_, rfl⟩
  obtain ⟨D, m, o⟩ := pm
  have HF := Lib.hid (show ∀ k (hk : k < L.length) c, runM A (L.take k) = some c → stepM c L[k] = none → o = false ∧ m = n + k from by
    subst hL hn
    intro k hk c e2 e3
    have := hpm.trans (then_bad hk h e2 e3)
    cases this
    exact ⟨rfl, rfl⟩)
  have HE := Lib.hid (show ∀ c, runM A L = some c → o = true ∧ m = n + L.length ∧ c = D from by
    subst hL hn
    intro c e2
    have := hpm.trans (then_all h e2)
    cases this
    exact ⟨rfl, rfl, rfl⟩)
  have HLL := Lib.hid (show ∀ y ∈ L, y.length ≤ 1000000 from fun y hy => by
    have := linesAux_mem [] t.data.toList y (by rw [hL] at hy; exact hy)
    rw [ba_len] at this; simp at this; omega)
  have A20 := Lib.hid (runM_20 emptyC A _ ⟨by decide, by decide⟩ h)
  have P1 := Lib.hid fun w hg => parse_tell s A n true w (by omega) hg e1
  have p2 := fun w hg => parse_tell _ D m o w hx hg (by rw [tail_x]; exact hpm.symm)
  generalize hev : (if o = true then (0 : Int) else 220) = ev at p2
  have P2 := Lib.hid p2
  have HV := Lib.hid hev
  clear p2 hev
  have P3 := Lib.hid fun w hg => parse_tell _ A (2 * n + 2) true w hy hg (by rw [tail_y, twice_some h, hn])
  have PL := Lib.hid fun w => lines_tell t L w (by omega) hL.symm hL0
  clear e1 hn h hx hy hpm hL
  go_enter Tryd.func4, Tryd.ntmps4
  go_wp2_with fail
  refine (fixed_any _ hg).mono ?_
  rintro e w1 ⟨rfl, hB1⟩
  go_wp2_with fail
  refine (P1.out _ (hg.below hB1)).mono ?_
  rintro e w2 ⟨a1, n1, c1, a2, n2, c2, q, rfl, hc2, hB2⟩
  have hA2 := below_alloc w2 (.cells #[.slice a1 n1 c1, .slice a2 n2 c2, .bool q] 26)
  have hB12 := bup (bup hB1 hB2) hA2
  go_wp2_with fail
  refine (P2.out _ (hg.below hB12)).mono ?_
  rintro e w3 ⟨b1, m1, d1, b2, m2, d2, q2, rfl, hc3, hB3⟩
  have hA3 := below_alloc w3 (.cells #[.slice b1 m1 d1, .slice b2 m2 d2, .bool q2] 26)
  have hB13 := bup (bup hB12 hB3) hA3
  obtain ⟨hd3, hf3⟩ := bcell hB3
  have hz3 : w2.heap.size < w3.heap.size := by have := hB3.size; simp at this; omega
  go_wp2_with fail
  refine (P3.out _ (hg.below hB13)).mono ?_
  rintro e w4 ⟨f1, k1, g1, f2, k2, g2, q3, rfl, hc4, hB4⟩
  have hA4 := below_alloc w4 (.cells #[.slice f1 k1 g1, .slice f2 k2 g2, .bool q3] 26)
  obtain ⟨hd4, hf4⟩ := bcell hB4
  have hz4 : w3.heap.size < w4.heap.size := by have := hB4.size; simp at this; omega
  have hz5 : w2.heap.size < w4.heap.size := by omega
  have hB24 := bup (bup (bup hA2 hB3) hA3) hB4
  have hB14 := bup (bup hB1 hB2) hB24
  have hca := hc2.below (bup hB24 hA4)
  have hcb := (hc3.below (bup hA3 hB4)).below hA4
  go_wp2_with fail
  refine (rsame_any _ _ _ _ _ hca (hc4.below hA4)).mono ?_
  rintro e w5 ⟨rfl, hB5⟩
  rw [same_refl]
  have hha : w5.heap[w2.heap.size]? = some (.cells #[.slice a1 n1 c1, .slice a2 n2 c2, .bool q] 26 (0, 0)) := by
    rw [(bup (bup (bup (bup hB3 hA3) hB4) hA4) hB5).block _ (by simp)]; exact heap_al_new _ _
  have hhb : w5.heap[w3.heap.size]? = some (.cells #[.slice b1 m1 d1, .slice b2 m2 d2, .bool q2] 26 (0, 0)) := by
    rw [(bup (bup hB4 hA4) hB5).block _ (by simp)]; exact heap_al_new _ _
  have hB15 := bup (bup hB14 hA4) hB5
  have hca5 := hca.below hB5
  have hcb5 := hcb.below hB5
  have hww : w.heap.size ≤ w2.heap.size := Nat.le_trans hB1.size hB2.size
  clear hA2 hA3 hA4 hd3 hf3 hd4 hf4 hz4 hz5 hca hcb hB24 hB14 hB12 hB13 hc2 hc3 hc4 hB1 hB2 hB3 hB4 hB5
  go_wp2_with fail
  refine (PL.out _).mono ?_
  rintro e w6 ⟨b, off, vc, rfl, hvc, hcells, hB6⟩
  have hstart : TL w w2.heap.size w3.heap.size b off A D L #[.slice b1 m1 d1, .slice b2 m2 d2, .bool q2] 0 w6 :=
    ⟨A, a1, n1, c1, a2, n2, c2, q, Lib.hid rfl, (hB6.block _ (by have := (Array.getElem?_eq_some_iff.1 hha).1; exact this)).trans hha, hca5.below hB6,
      (hB6.block _ (by have := (Array.getElem?_eq_some_iff.1 hhb).1; exact this)).trans hhb, hcb5.below hB6, hcells, bup hB15 hB6⟩
  have HS := Lib.hid hstart
  clear hstart hcells hha hhb hca5 hcb5 hB15 hB6
  go_wp2_with fail
  go_loopw [15] (fun i wr => ∃ k : Nat, k ≤ L.length ∧ i = .int .i64 k ∧ TL w w2.heap.size w3.heap.size b off A D L #[.slice b1 m1 d1, .slice b2 m2 d2, .bool q2] k wr) (fun i _ => L.length - (intOf i).toNat)
  case atStart => exact ⟨0, Nat.zero_le _, rfl, HS.out⟩
  case round =>
    obtain ⟨k, hk, rfl, hTL⟩ := hrel
    by_cases hlt : k < L.length
    · obtain ⟨c, x1, y1, z1, x2, y2, z2, qq, hrun, ha, hac, hb, hbc, hcl, hBw⟩ := hTL
      have hck := hcl.out k hlt
      obtain ⟨x, hx⟩ : ∃ x, x = L[k] := ⟨_, rfl⟩
      rw [← hx] at hck
      have HX := Lib.hid hx
      have HTL := Lib.hid (show TL w w2.heap.size w3.heap.size b off A D L #[.slice b1 m1 d1, .slice b2 m2 d2, .bool q2] k wr from ⟨c, x1, y1, z1, x2, y2, z2, qq, hrun, ha, hac, hb, hbc, hcl, hBw⟩)
      clear hx
      cases hsk : skipB x
      · rcases x with _ | ⟨ch, xr⟩
        · cases hsk
        · have hbt := bs_toList (ch :: xr)
          have hz : 0 < (bs (ch :: xr)).size := by rw [bs_size]; simp
          have hc0 : (bs (ch :: xr))[0] = ch := rfl
          have hch : ((ch.toNat : Int) == 35) = false := by
            have : ch ≠ 35 := by simpa [skipB] using hsk
            rw [beq_eq_false_iff_ne]
            intro e
            exact this (UInt8.toNat_inj.1 (by have e3 : (35 : UInt8).toNat = 35 := rfl; omega))
          have hstep : stepM c (ch :: xr) = if (lineM c (ch :: xr)).2 then some (lineM c (ch :: xr)).1 else none := by rw [stepM, hsk]; rfl
          have hxl : (ch :: xr).length ≤ 1000000 := by rw [HX.out]; exact HLL.out _ (List.getElem_mem _)
          have h20 := runM_20 A c _ A20.out hrun.out
          have HLn := Lib.hid fun w' (hb : Below wr.heap.size wr w') => line_to (.agg #[.slice x1 y1 z1, .slice x2 y2 z2, .bool qq]) c (ch :: xr) w' (hac.below hb) hxl ((hg.below hBw).below hb) h20
          generalize bs (ch :: xr) = sx at *
          have hno := lineM_no c (ch :: xr)
          generalize lineM c (ch :: xr) = d at *
          have HSt := Lib.hid hstep
          have HAC := Lib.hid hac
          have HBW := Lib.hid hBw
          clear hstep h20 hxl hsk hac hb hbc hBw
          obtain ⟨d, ok⟩ := d
          dsimp only at HLn HSt hno
          have HNo := Lib.hid hno
          clear hno
          have ha0 : wr.cell? ⟨w2.heap.size, 0, none⟩ = some (.slice x1 y1 z1) := by rw [Lib.cell_of_heap ha]; rfl
          have ha1 : wr.cell? ⟨w2.heap.size, 1, none⟩ = some (.slice x2 y2 z2) := by rw [Lib.cell_of_heap ha]; rfl
          have ha2 : wr.cell? ⟨w2.heap.size, 2, none⟩ = some (.bool qq) := by rw [Lib.cell_of_heap ha]; rfl
          have hza : w2.heap.size < wr.heap.size := (Array.getElem?_eq_some_iff.1 ha).1
          have hzb : b < wr.heap.size := cell_lt hck
          have hfa := Lib.frozen_of_heap ha
          clear ha
          go_upto_region 15 with fail
          go_cut [16, 17] from 111 to 119 (fun v16 v17 wx => LR wr d ok v16 v17 wx)
          case first =>
            go_region_with (go_at_call 15; refine (HLn.out _ (by first | exact Below.drew (Below.refl _ _) | exact (below_alloc _ _).drew | exact below_alloc _ _ | exact Below.alloc (Below.drew (Below.refl _ _)) (Nat.le_refl _) _)).mono ?_; rintro e w7 ⟨r1, s1, t1, r2, s2, t2, qs, rfl, hc7, hB7⟩; obtain ⟨hd7, hf7⟩ := bcell hB7)
            all_goals (go_wp2_with fail; go_meet)
            all_goals first
              | exact LR1 (bup (Below.drew (Below.refl _ _)) hB7) hc7
              | exact LR2 (bup (below_alloc _ _).drew hB7) ((hB7.block _ (by simp)).trans (heap_al_new wr _)) hc7
              | exact LR2 (bup (Below.alloc (Below.drew (Below.refl _ _)) (Nat.le_refl _) _) hB7) ((hB7.block _ (by simp)).trans (heap_al_new wr _)) hc7
          case rest =>
            obtain ⟨z, r1, s1, t1, r2, s2, t2, qs, rfl, rfl, hzc, hxc, hzz', hBx⟩ := hcut
            obtain ⟨hdx, hfx⟩ := bcell hBx
            have ha0' := (hdx _ _ hza).trans ha0
            have ha1' := (hdx _ _ hza).trans ha1
            have ha2' := (hdx _ _ hza).trans ha2
            have hfa' := fun o => (hfx _ o hza).trans (hfa o)
            have hz0 : wc.cell? ⟨z, 0, none⟩ = some (.slice r1 s1 t1) := by rw [Lib.cell_of_heap hzc]; rfl
            have hz1 : wc.cell? ⟨z, 1, none⟩ = some (.slice r2 s2 t2) := by rw [Lib.cell_of_heap hzc]; rfl
            have hz2 : wc.cell? ⟨z, 2, none⟩ = some (.bool qs) := by rw [Lib.cell_of_heap hzc]; rfl
            have hzn : z ≠ w2.heap.size := by omega
            clear hdx hfx ha0 ha1 ha2 hfa hzc HLn hck hc0 hch hbt hz
            cases ok
            · obtain ⟨ho, hm⟩ := HF.out k hlt c hrun.out (by rw [← HX.out]; have := HSt.out; simpa using this)
              have hdc : d = c := HNo.out rfl
              have hv := HV.out
              rw [ho, if_neg (by simp)] at hv
              subst hdc hv hm
              have HR := Lib.hid (rsame_any _ _ _ _ _ hxc (HAC.out.below hBx))
              have HBX := Lib.hid hBx
              clear hxc hBx
              go_wp2_with fail
              refine HR.out.mono ?_
              rintro e w8 ⟨rfl, hB8⟩
              rw [same_refl]
              go_wp2
              go_ret
              exact ⟨rfl, bup (bup HBW.out HBX.out) hB8⟩
            · have hrn : runM A (L.take (k + 1)) = some d := by
                rw [← List.take_append_getElem hlt, runM_snoc, hrun.out]
                show stepM c L[k] = _
                rw [← HX.out]
                have := HSt.out
                simpa using this
              have HN := Lib.hid (TL.next HTL.out hrn (by omega) hww hxc hBx)
              clear hxc hBx hrn
              go_wp2
              go_roundw
              case rel => exact ⟨k + 1, by omega, by go_num, HN.out⟩
              case measure => simp [intOf]; omega
      · rcases x with _ | ⟨ch, xr⟩
        · have hbt := bs_toList []
          clear ha hac hb hbc hBw hsk
          go_wp2
          go_roundw
          case rel => exact ⟨k + 1, by omega, by go_num, TL.skip HTL.out (by rw [← HX.out]; rfl)⟩
          case measure => simp [intOf]; omega
        · have hbt := bs_toList (ch :: xr)
          have hz : 0 < (bs (ch :: xr)).size := by rw [bs_size]; simp
          have hc0 : (bs (ch :: xr))[0] = ch := rfl
          have hch : ((ch.toNat : Int) == 35) = true := by
            have : ch = 35 := by simpa [skipB] using hsk
            rw [this]; rfl
          have hsk' := Lib.hid (HX.out ▸ hsk : skipB L[k] = true)
          clear ha hac hb hbc hBw hsk HX
          generalize bs (ch :: xr) = sx at *
          go_wp2
          go_roundw
          case rel => exact ⟨k + 1, by omega, by go_num, TL.skip HTL.out hsk'.out⟩
          case measure => simp [intOf]; omega
    · obtain rfl : k = L.length := by omega
      obtain ⟨c, x1, y1, z1, x2, y2, z2, qq, hrun, ha, hac, hb, hbc, hcl, hBw⟩ := hTL
      obtain ⟨ho, hm, rfl⟩ := HE.out c (by have := hrun.out; rwa [List.take_length] at this)
      have hv := HV.out
      rw [ho, if_pos rfl] at hv
      subst hv hm
      have ha0 : wr.cell? ⟨w2.heap.size, 0, none⟩ = some (.slice x1 y1 z1) := by rw [Lib.cell_of_heap ha]; rfl
      have ha1 : wr.cell? ⟨w2.heap.size, 1, none⟩ = some (.slice x2 y2 z2) := by rw [Lib.cell_of_heap ha]; rfl
      have ha2 : wr.cell? ⟨w2.heap.size, 2, none⟩ = some (.bool qq) := by rw [Lib.cell_of_heap ha]; rfl
      have hb0 : wr.cell? ⟨w3.heap.size, 0, none⟩ = some (.slice b1 m1 d1) := by rw [Lib.cell_of_heap hb]; rfl
      have hb1 : wr.cell? ⟨w3.heap.size, 1, none⟩ = some (.slice b2 m2 d2) := by rw [Lib.cell_of_heap hb]; rfl
      have hb2 : wr.cell? ⟨w3.heap.size, 2, none⟩ = some (.bool q2) := by rw [Lib.cell_of_heap hb]; rfl
      have HR := Lib.hid (rsame_any _ _ _ _ _ hac hbc)
      clear ha hb hac hbc
      go_wp2_with fail
      refine HR.out.mono ?_
      rintro e w7 ⟨rfl, hB7⟩
      rw [same_refl]
      go_wp2
      go_ret
      exact ⟨rfl, bup hBw hB7⟩
end Go.Proofs.YtfpegmeppgdklaaDoor
