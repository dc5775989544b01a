/-
  subst.refs: what it hands on.
  subst.Refs.
-/
import Derived.Test.YtlnaihkombcbcaaGreatPRead
import Derived.Test.YtlnaihkombcbcaaGreatPSorted
namespace Go.Proofs.YtlnaihkombcbcaaGreat
open Go.RowKit Go.Ev
attribute [local go_sem] Oper.semAt_some
mutual
/-- texts of no great length -/
def okV : Vl → Bool
  | .mk _ _ s _ l => decide (s.size ≤ 1000000) && okVs l
def okVs : List Vl → Bool
  | [] => true
  | x :: xs => okV x && okVs xs
end
theorem okV_eq (x : Vl) : okV x = (decide (x.text.size ≤ 1000000) && okVs x.l) := by cases x; rw [okV]; rfl
theorem okVs_at : ∀ {l : List Vl}, okVs l = true → ∀ x ∈ l, x.text.size ≤ 1000000 ∧ okVs x.l = true
  | [], _, x, hx => by simp at hx
  | y :: l, h, x, hx => by
    rw [okVs, Bool.and_eq_true, okV_eq, Bool.and_eq_true] at h
    rcases List.mem_cons.1 hx with rfl | hx
    · exact ⟨of_decide_eq_true h.1.1, h.1.2⟩
    · exact okVs_at h.2 x hx
def ownR (k : Int) (s : ByteArray) (l : List Vl) : List ByteArray := if isVarK k s = true ∧ (readM l).is = true then [(readM l).name] else []
mutual
def rfV : Vl → List ByteArray
  | .mk k _ s _ l => ownR k s l ++ (if 2 ≤ k ∧ k ≤ 5 then rfVs l else [])
def rfVs : List Vl → List ByteArray
  | [] => []
  | x :: xs => rfV x ++ rfVs xs
end
theorem rfV_eq (x : Vl) : rfV x = ownR x.kind x.text x.l ++ (if 2 ≤ x.kind ∧ x.kind ≤ 5 then rfVs x.l else []) := by cases x; rw [rfV]; rfl
theorem rfVs_append : ∀ (a b : List Vl), rfVs (a ++ b) = rfVs a ++ rfVs b
  | [], b => by simp [rfVs]
  | x :: a, b => by simp only [List.cons_append, rfVs, rfVs_append a b, List.append_assoc]
theorem rfVs_snoc {l : List Vl} {k : Nat} (hk : k < l.length) : rfVs (l.take (k + 1)) = rfVs (l.take k) ++ rfV l[k] := by
  rw [List.take_succ_eq_append_getElem hk, rfVs_append]
  simp only [rfVs, List.append_nil]
theorem rfVs_le {l : List Vl} (k : Nat) : (rfVs (l.take k)).length ≤ (rfVs l).length := by
  have h := rfVs_append (l.take k) (l.drop k)
  rw [List.take_append_drop] at h
  rw [h, List.length_append]; omega
theorem ownR_le (k : Int) (s : ByteArray) (l : List Vl) : (ownR k s l).length ≤ 1 := by unfold ownR; split <;> simp
mutual
theorem rfV_cnt : ∀ x : Vl, (rfV x).length ≤ cntV x
  | .mk k t s n l => by
    have := rfVs_cnt l
    have h2 := ownR_le k s l
    rw [rfV, cntV, List.length_append]
    split <;> simp <;> omega
theorem rfVs_cnt : ∀ l : List Vl, (rfVs l).length ≤ cntVs l
  | [] => by simp [rfVs]
  | x :: xs => by
    have h1 := rfV_cnt x
    have h2 := rfVs_cnt xs
    rw [rfVs, cntVs, List.length_append]
    omega
end
set_option maxRecDepth 100000 in
set_option maxHeartbeats 2000000 in
theorem refs_in (l z m0 Nb : Nat) (Ow : World → Nat → Prop) (J : List ByteArray → World → Prop) (hJ : ∀ s A B, J s A → Below A.heap.size A B → J s B) (hO : ∀ A B k, m0 ≤ A.heap.size → Below A.heap.size A B → Ow B k → Ow A k) (hzm : z ≤ m0)
    (hY : ∀ m pre x A, J pre A → pre.length < Nb → m0 ≤ A.heap.size → YieldAt Fence.wide m Tryz.prog l #[.string x] A fun e B => e = .returned (.bool true) ∧ J (pre ++ [x]) B ∧ KO Ow z A B) (N : Nat) :
    ∀ (vs : List Vl), SizeOf.sizeOf vs ≤ N → cntVs vs ≤ 1000000 → okVs vs = true → ∀ (n : Nat) (v : Value) (pre : List ByteArray) (W : World), pre.length + (rfVs vs).length ≤ Nb → m0 ≤ W.heap.size → AtB z W (.sl vs.length 5 (vs.flatMap encV)) v → J pre W → (∀ k, Ow W k → k < W.heap.size) →
      CallsIn Fence.wide n Tryz.prog 183 #[v, .func (.yield l) #[] #[]] W fun e B => e = .returned (.bool true) ∧ J (pre ++ rfVs vs) B ∧ KO Ow z W B := by
  induction N with
  | zero => intro vs hl; cases vs <;> simp at hl <;> omega
  | succ N ih =>
    intro vs hl hcn hok n v pre W hNb hm hv hj hOW
    have hlen := cntVs_len vs
    rcases slB_cells encV 5 encV_len (by decide) hv with ⟨rfl, ad, cap, rfl⟩ | ⟨b, o, cap, rfl, hcap, hpos, hbz, hc⟩
    · refine callsIn_of_wp Tryz.func183 rfl trivial ?_ rfl
      simp only [Tryz.ntmps183, List.size_toArray, List.length_cons, List.length_nil, Nat.reduceAdd, Nat.reduceSub, Array.replicate_succ, Array.replicate_zero, List.push_toArray, List.append_toArray, List.nil_append, List.cons_append]
      gi_wp2
      gi_loopw [11] (fun i wr => i = .int .i64 0 ∧ J pre wr ∧ KO Ow z W wr) (fun _ _ => 0)
      case atStart => exact ⟨rfl, hj, KO.refl hOW⟩
      case round =>
        obtain ⟨rfl, hj2, hB⟩ := hrel
        gi_wp2
        go_ret
        exact ⟨rfl, by simpa [rfVs] using hj2, hB⟩
    · have IH := Lib.hid fun k (hk : k < vs.length) => ih vs[k].l (by have := vl_lt (List.getElem_mem hk); omega) (by have := cntVs_at hk; omega) ((okVs_at hok _ (List.getElem_mem hk)).2)
      have HC := Lib.hid fun k (hk : k < vs.length) => vlB_cells hc hk
      have HS := Lib.hid fun k (hk : k < vs.length) => rfVs_snoc hk
      have HL := Lib.hid fun k (hk : k < vs.length) => And.intro (okVs_at hok _ (List.getElem_mem hk)).1 (Nat.le_trans (cntVs_len vs[k].l) (by have := cntVs_at hk; omega) : vs[k].l.length ≤ 1000000)
      clear ih hc hl hv hok
      refine callsIn_of_wp Tryz.func183 rfl trivial ?_ rfl
      simp only [Tryz.ntmps183, List.size_toArray, List.length_cons, List.length_nil, Nat.reduceAdd, Nat.reduceSub, Array.replicate_succ, Array.replicate_zero, List.push_toArray, List.append_toArray, List.nil_append, List.cons_append]
      gi_wp2
      gi_loopw [11] (fun i wr => ∃ k : Nat, k ≤ vs.length ∧ i = .int .i64 k ∧ J (pre ++ rfVs (vs.take k)) wr ∧ KO Ow z W wr) (fun i _ => vs.length - (intOf i).toNat)
      case atStart => exact ⟨0, Nat.zero_le _, rfl, by simpa [rfVs] using hj, KO.refl hOW⟩
      case round =>
        obtain ⟨k, hk, rfl, hj2, hK⟩ := hrel
        have hB := hK.below
        by_cases hlt : k < vs.length
        · obtain ⟨c0, c1, c2, c3, ad, cp, c4, ha⟩ := HC.out k hlt
          have c0' := (hB.cell (p := ⟨b, o + k * 5, none⟩) hbz).trans c0
          have c1' := (hB.cell (p := ⟨b, o + k * 5 + 1, none⟩) hbz).trans c1
          have c2' := (hB.cell (p := ⟨b, o + k * 5 + 2, none⟩) hbz).trans c2
          have c3' := (hB.cell (p := ⟨b, o + k * 5 + 3, none⟩) hbz).trans c3
          have c4' := (hB.cell (p := ⟨b, o + k * 5 + 4, none⟩) hbz).trans c4
          have ha' := ha.below hB
          have HSN := HS.out k hlt
          rw [rfV_eq] at HSN
          obtain ⟨hts, hll⟩ := HL.out k hlt
          have HREC := Lib.hid (IH.out k hlt)
          have hle := rfVs_le (l := vs) (k + 1)
          have hmr : m0 ≤ wr.heap.size := Nat.le_trans hm hB.size
          have hzr : z ≤ wr.heap.size := Nat.le_trans hzm hmr
          have hOwr := hK.lt
          clear c0 c1 c2 c3 c4 ha IH HC HS HL
          generalize vs[k].kind = kd at *
          generalize vs[k].tk = tk at *
          generalize vs[k].text = tx at *
          generalize vs[k].n = nn at *
          generalize vs[k].l = ll at *
          -- the new variable
          obtain ⟨X, hX⟩ : ∃ X : Obj, X = .cells #[.int .i64 kd, .int .i64 tk, .string tx, .int .i64 nn, .slice ad ll.length cp] 67 := ⟨_, rfl⟩
          have hgr : ∀ B, Below (wr.alloc X).heap.size (wr.alloc X) B → Below wr.heap.size wr B ∧ B.heap[wr.heap.size]? = some X ∧ J (pre ++ rfVs (vs.take k)) B ∧ KO Ow z wr B := fun B hB2 => by
            have h1 := bup (below_alloc wr X) hB2
            refine ⟨h1, (hB2.block _ (by simp)).trans (World.alloc_heap_new wr X), hJ _ _ _ hj2 h1, KO.grow h1 hzr (fun k hk => hO _ _ _ hmr h1 hk) hOwr⟩
          have HGR := Lib.hid hgr
          clear hgr
          subst hX
          have hiv := fun m => (callsIn_wide (n := m)).2 (isVar_any kd tk nn tx (.slice ad ll.length cp) (wr.alloc (.cells #[.int .i64 kd, .int .i64 tk, .string tx, .int .i64 nn, .slice ad ll.length cp] 67)) hts)
          have HIV := Lib.hid hiv
          clear hiv
          gi_wp2_with fail
          refine ⟨trivial, fun h => (by cases h), (HIV.out _).mono ?_⟩
          rintro e w2 ⟨rfl, hB2⟩
          obtain ⟨hb2, hx2, hj3, hK3⟩ := HGR.out _ hB2
          have hKW := hK.trans hK3
          have hz2 : z ≤ w2.heap.size := Nat.le_trans hzr hb2.size
          have hm2 : m0 ≤ w2.heap.size := Nat.le_trans hmr hb2.size
          have d0 : w2.cell? ⟨wr.heap.size, 0, none⟩ = some (.int .i64 kd) := by rw [Lib.cell_of_heap hx2]; rfl
          have d1 : w2.cell? ⟨wr.heap.size, 1, none⟩ = some (.int .i64 tk) := by rw [Lib.cell_of_heap hx2]; rfl
          have d2 : w2.cell? ⟨wr.heap.size, 2, none⟩ = some (.string tx) := by rw [Lib.cell_of_heap hx2]; rfl
          have d3 : w2.cell? ⟨wr.heap.size, 3, none⟩ = some (.int .i64 nn) := by rw [Lib.cell_of_heap hx2]; rfl
          have d4 : w2.cell? ⟨wr.heap.size, 4, none⟩ = some (.slice ad ll.length cp) := by rw [Lib.cell_of_heap hx2]; rfl
          have ha2 := ha'.below (hb2.mono hzr)
          clear HGR HIV hB2 c0' c1' c2' c3' c4' ha'
          cases hiv : isVarK kd tx
          · rw [ownR, if_neg (by rw [hiv]; simp), List.nil_append] at HSN
            by_cases hkk : 2 ≤ kd ∧ kd ≤ 5
            · obtain ⟨hk2, hk5⟩ := hkk
              rw [if_pos ⟨hk2, hk5⟩] at HSN
              have hpb : (pre ++ rfVs (vs.take k)).length + (rfVs ll).length ≤ Nb := by
                have h9 := congrArg List.length HSN
                simp only [List.length_append] at h9 ⊢
                omega
              have HR := Lib.hid (HREC.out (n - 1) (.slice ad ll.length cp) (pre ++ rfVs (vs.take k)) w2 hpb hm2 ha2 hj3 hKW.lt)
              clear HREC
              gi_wp2_with fail
              refine ⟨trivial, fun h => (by cases h), HR.out.mono ?_⟩
              rintro e W9 ⟨rfl, hj9, hK9⟩
              have hKW9 := hKW.trans hK9
              rw [List.append_assoc, ← HSN] at hj9
              gi_wp2
              go_roundw
              case rel => exact ⟨k + 1, by omega, by go_num, hj9, hKW9⟩
              case measure => simp [intOf]; omega
            · rw [if_neg hkk, List.append_nil] at HSN
              rw [← HSN] at hj3
              clear HREC
              by_cases hk2 : 2 ≤ kd
              · have hk5 : ¬ kd ≤ 5 := fun h => hkk ⟨hk2, h⟩
                gi_wp2
                refine ⟨trivial, ?_⟩
                gi_wp2
                go_roundw
                case rel => exact ⟨k + 1, by omega, by go_num, hj3, hKW⟩
                case measure => simp [intOf]; omega
              · gi_wp2
                refine ⟨trivial, ?_⟩
                gi_wp2
                go_roundw
                case rel => exact ⟨k + 1, by omega, by go_num, hj3, hKW⟩
                case measure => simp [intOf]; omega
          · have hk5 : kd = 5 := by
              rw [isVarK, Bool.and_eq_true, beq_iff_eq] at hiv
              exact hiv.1
            subst hk5
            have hown : ownR 5 tx ll = if (readM ll).is = true then [(readM ll).name] else [] := by simp [ownR, hiv]
            rw [hown, if_pos (by omega : (2 : Int) ≤ 5 ∧ (5 : Int) ≤ 5)] at HSN
            have HRD := Lib.hid fun m => (callsIn_wide (n := m)).2 (read_any 5 tk nn tx (.slice ad ll.length cp) ll w2 (ha2.toAt hz2) hll)
            clear hown
            generalize readM ll = f at *
            obtain ⟨nm, fb, fl, is⟩ := f
            simp only at HSN HRD
            gi_wp2_with fail
            refine ⟨trivial, fun h => (by cases h), (HRD.out _).mono ?_⟩
            rintro e w3 ⟨⟨fa, fn, fc, rfl⟩, hB3⟩
            have hb4 : Below w2.heap.size w2 (w3.alloc (.cells #[.string nm, .slice fa fn fc, .bool fl] 278)) := hB3.alloc hB3.size _
            have hx4 := (hb4.block _ (Array.getElem?_eq_some_iff.1 hx2).1).trans hx2
            have hj4 := hJ _ _ _ hj3 hb4
            have hK4 : KO Ow z w2 (w3.alloc (.cells #[.string nm, .slice fa fn fc, .bool fl] 278)) := KO.grow hb4 hz2 (fun k hk => hO _ _ _ hm2 hb4 hk) hK3.lt
            have hm4 : m0 ≤ (w3.alloc (.cells #[.string nm, .slice fa fn fc, .bool fl] 278)).heap.size := Nat.le_trans hm2 hb4.size
            have hno : ¬ Ow (w3.alloc (.cells #[.string nm, .slice fa fn fc, .bool fl] 278)) wr.heap.size := fun h => by
              have := hOwr _ (hO wr _ _ hmr (bup hb2 hb4) h)
              omega
            have hwr4 : wr.heap.size < (w3.alloc (.cells #[.string nm, .slice fa fn fc, .bool fl] 278)).heap.size := Nat.lt_of_lt_of_le (Array.getElem?_eq_some_iff.1 hx2).1 hb4.size
            have H4 := Lib.hid (And.intro hx4 (And.intro hj4 (And.intro hK4 (And.intro hm4 (And.intro hno hwr4)))))
            clear hx4 hj4 hK4 hm4 hno hwr4 HRD d0 d1 d2 d3 d4
            cases is
            · simp only [Bool.false_eq_true, if_false, List.nil_append] at HSN
              have hpb : (pre ++ rfVs (vs.take k)).length + (rfVs ll).length ≤ Nb := by
                have h9 := congrArg List.length HSN
                simp only [List.length_append] at h9 ⊢
                omega
              have HR := Lib.hid (HREC.out (n - 1) (.slice ad ll.length cp) (pre ++ rfVs (vs.take k)) _ hpb H4.out.2.2.2.1 (ha2.below (hb4.mono hz2)) H4.out.2.1 H4.out.2.2.1.lt)
              have e0 : (w3.alloc (.cells #[.string nm, .slice fa fn fc, .bool fl] 278)).cell? ⟨wr.heap.size, 0, none⟩ = some (.int .i64 5) := by rw [Lib.cell_of_heap H4.out.1]; rfl
              have e4 : (w3.alloc (.cells #[.string nm, .slice fa fn fc, .bool fl] 278)).cell? ⟨wr.heap.size, 4, none⟩ = some (.slice ad ll.length cp) := by rw [Lib.cell_of_heap H4.out.1]; rfl
              clear HREC
              gi_wp2_with fail
              refine ⟨fun _ h => (by cases h), ?_⟩
              gi_wp2_with fail
              refine ⟨trivial, fun h => (by cases h), HR.out.mono ?_⟩
              rintro e W9 ⟨rfl, hj9, hK9⟩
              have hKW9 := (hKW.trans H4.out.2.2.1).trans hK9
              rw [List.append_assoc, ← HSN] at hj9
              clear e0 e4
              gi_wp2
              go_roundw
              case rel => exact ⟨k + 1, by omega, by go_num, hj9, hKW9⟩
              case measure => simp [intOf]; omega
            · simp only [if_true] at HSN
              have hlen9 := congrArg List.length HSN
              simp only [List.length_append, List.length_cons, List.length_nil] at hlen9
              gi_wp2_with fail
              refine upon_yield rfl (hY _ _ _ _ H4.out.2.1 (by simp only [List.length_append]; omega) H4.out.2.2.2.1) ?_
              rintro W5 ⟨hj5, hK5⟩
              have hx5 := (hK5.same _ H4.out.2.2.2.2.2 H4.out.2.2.2.2.1).trans H4.out.1
              have hKW5 := (hKW.trans H4.out.2.2.1).trans hK5
              have e0 : W5.cell? ⟨wr.heap.size, 0, none⟩ = some (.int .i64 5) := by rw [Lib.cell_of_heap hx5]; rfl
              have e4 : W5.cell? ⟨wr.heap.size, 4, none⟩ = some (.slice ad ll.length cp) := by rw [Lib.cell_of_heap hx5]; rfl
              have HR := Lib.hid (HREC.out (n - 1) (.slice ad ll.length cp) _ _ (by simp only [List.length_append, List.length_cons, List.length_nil]; omega) (Nat.le_trans H4.out.2.2.2.1 hK5.below.size) ((ha2.below (hb4.mono hz2)).below hK5.below) hj5 hKW5.lt)
              clear HREC hj5 hx5
              gi_wp2_with fail
              refine ⟨trivial, fun h => (by cases h), HR.out.mono ?_⟩
              rintro e W9 ⟨rfl, hj9, hK9⟩
              have hKW9 := hKW5.trans hK9
              rw [List.append_assoc, List.append_assoc, ← List.append_assoc (rfVs (vs.take k)), List.append_assoc (rfVs (vs.take k)), ← HSN] at hj9
              clear e0 e4
              gi_wp2
              go_roundw
              case rel => exact ⟨k + 1, by omega, by go_num, hj9, hKW9⟩
              case measure => simp [intOf]; omega
        · obtain rfl : k = vs.length := by omega
          rw [List.take_length] at hj2
          gi_wp2
          go_ret
          exact ⟨rfl, hj2, hK⟩
end Go.Proofs.YtlnaihkombcbcaaGreat
noncomputable section
namespace Go.Proofs.YtlnaihkombcbcaaGreat
open Go.RowKit Go.Sort Go.Ev
attribute [local go_sem] Oper.semAt_some
theorem names_any (v : Value) (hv : ∃ a n c, v = .slice a n c) (w : World) :
    Calls Tryz.prog 114 #[v] w fun e w' => e = .returned (.func (.func 182) #[] #[.pointer (some ⟨w.heap.size, 0, none⟩)]) ∧ w' = w.alloc (.cells #[v] 27) := by
  obtain ⟨a, n, c, rfl⟩ := hv
  go_enter Tryz.func114, Tryz.ntmps114
  go_wp2
  go_ret
  exact ⟨rfl, rfl⟩
theorem names_iter (z : Nat) (Bl : Nat) (v : Value) (vs : List Vl) (w : World) (hcn : cntVs vs ≤ 1000000) (hok : okVs vs = true) (hz : z ≤ w.heap.size) (hv : AtB z w (.sl vs.length 5 (vs.flatMap encV)) v)
    (hl : w.cell? ⟨Bl, 0, none⟩ = some v) (hlz : Bl < w.heap.size) :
    IterAll Tryz.prog 182 #[.pointer (some ⟨Bl, 0, none⟩)] (fun x : ByteArray => #[.string x]) z (rfVs vs).length (fun xs => xs = rfVs vs) w := by
  intro n l Ow J W hW hOs hJ hO hY h0
  have hWz : Below z w W := hW.mono hz
  have hl' := (hW.cell (p := ⟨Bl, 0, none⟩) hlz).trans hl
  have HT := Lib.hid (refs_in l z W.heap.size (rfVs vs).length Ow J hJ hO (Nat.le_trans hz hW.size) hY _ vs (Nat.le_refl _) hcn hok (n - 1) v [] W (by simp) (Nat.le_refl _) (hv.below hWz) h0 hOs)
  obtain ⟨ad, cap, rfl, -⟩ := AtB.sl_form hv
  clear hv
  refine callsIn_of_wp Tryz.func182 rfl trivial ?_ rfl
  simp only [Tryz.ntmps182, List.size_toArray, List.length_cons, List.length_nil, Nat.reduceAdd, Nat.reduceSub, Array.replicate_succ, Array.replicate_zero, List.push_toArray, List.append_toArray, List.nil_append, List.cons_append]
  gi_wp2_with fail
  refine ⟨trivial, fun h => (by cases h), HT.out.mono ?_⟩
  rintro e B ⟨rfl, hj, hK⟩
  gi_wp2
  go_end0
  exact ⟨⟨_, rfl⟩, _, rfl, by simpa using hj, hK⟩
/-- each once -/
def ddS (a : List ByteArray) (x : ByteArray) : List ByteArray := if Lib.containsS a x = true then a else a ++ [x]
def dd (l : List ByteArray) : List ByteArray := l.foldl ddS []
theorem dd_snoc (l : List ByteArray) (x : ByteArray) : dd (l ++ [x]) = ddS (dd l) x := by rw [dd, List.foldl_append]; rfl
theorem ddS_len (a : List ByteArray) (x : ByteArray) : (ddS a x).length ≤ a.length + 1 := by unfold ddS; split <;> simp
theorem foldl_dd_len : ∀ (l a : List ByteArray), (l.foldl ddS a).length ≤ a.length + l.length
  | [], a => by simp
  | x :: l, a => by
    have h1 := foldl_dd_len l (ddS a x)
    have h2 := ddS_len a x
    simp only [List.foldl_cons, List.length_cons]
    omega
theorem dd_len (l : List ByteArray) : (dd l).length ≤ l.length := by have := foldl_dd_len l []; simpa [dd] using this
/-- slices.Contains over a row of its own -/
theorem contains_owns {w : World} {z e : Nat} {v : Value} {zs : List ByteArray} (h : w.ownsRow z e 1 v zs.length (zs.map Value.string)) (x : ByteArray) (hl : zs.length ≤ 1000000) :
    Calls Tryz.prog 115 #[v, .string x] w fun e w' => e = .returned (.bool (Lib.containsS zs x)) ∧ w' = w := by
  rcases h.2 with ⟨rfl, h0⟩ | ⟨g, cap, cur, rfl, hg, hb, hc, -, -, ht⟩
  · obtain rfl : zs = [] := List.eq_nil_of_length_eq_zero h0
    refine (Tryz.slices_Contains_string_empty none 0 x w).mono ?_
    rintro e w' ⟨rfl, rfl⟩
    exact ⟨rfl, rfl⟩
  · have hcell : ∀ j, j < zs.length → w.cell? ⟨g, 0 + j, none⟩ = some (.string (zs.getD j ByteArray.empty)) := fun j hj => by
      rw [Nat.zero_add, h.cellAt j (by omega)]
      simp [hj]
    refine (Tryz.slices_Contains_string g 0 zs.length cap zs x w (Nat.le_refl _) (by omega) hcell).mono ?_
    rintro e w' ⟨rfl, rfl⟩
    exact ⟨by rw [List.take_length], rfl⟩
set_option maxRecDepth 100000 in
set_option maxHeartbeats 4000000 in
theorem refs_any (v : Value) (vs : List Vl) (w : World) (hcn : cntVs vs ≤ 1000000) (hok : okVs vs = true) (hv : At w (.sl vs.length 5 (vs.flatMap encV)) v) :
    Calls Tryz.prog 58 #[v] w fun e w' => ∃ v', e = .returned v' ∧ w'.ownsRow w.heap.size 9 1 v' (dd (rfVs vs)).length ((dd (rfVs vs)).map Value.string) ∧ Below w.heap.size w w' := by
  obtain ⟨i0, hi, hz0, hz1, hz2⟩ := info_parts Tryz.infoS
  have hNle := rfVs_cnt vs
  have hB1 := below_alloc w (.cells #[.slice none 0 0] 25)
  have hsz1 : (w.alloc (.cells #[.slice none 0 0] 25)).heap.size = w.heap.size + 1 := by simp
  have hB2 : Below w.heap.size w ((w.alloc (.cells #[.slice none 0 0] 25)).alloc (.cells #[v] 27)) := hB1.alloc hB1.size _
  have hsz2 : ((w.alloc (.cells #[.slice none 0 0] 25)).alloc (.cells #[v] 27)).heap.size = w.heap.size + 2 := by simp
  have hc2 : ((w.alloc (.cells #[.slice none 0 0] 25)).alloc (.cells #[v] 27)).cell? ⟨w.heap.size + 1, 0, none⟩ = some v := by
    have := World.alloc_heap_new (w.alloc (.cells #[.slice none 0 0] 25)) (.cells #[v] 27)
    rw [hsz1] at this
    rw [Lib.cell_of_heap this]; rfl
  have hbx : ((w.alloc (.cells #[.slice none 0 0] 25)).alloc (.cells #[v] 27)).heap[w.heap.size]? = some (.cells #[.slice none 0 0] 25 (0, 0)) := by
    rw [Below.heap_alloc _ _ _ (by omega)]
    exact World.alloc_heap_new w _
  have HSEQ := Lib.hid (names_iter w.heap.size (w.heap.size + 1) v vs _ hcn hok (by omega) (AtB.below (At.toB hv) hB2) hc2 (by omega))
  have hform : ∃ a n c, v = .slice a n c := by
    obtain ⟨ad, cap, rfl, -⟩ := At.sl_form hv
    exact ⟨_, _, _, rfl⟩
  have HNM := Lib.hid (names_any v hform (w.alloc (.cells #[.slice none 0 0] 25)))
  rw [hsz1] at HNM
  obtain ⟨ad, an, ac, rfl⟩ := hform
  have hst : AIb (w.heap.size + 4) w.heap.size w (dd []) ((w.alloc (.cells #[.slice none 0 0] 25)).alloc (.cells #[.slice ad an ac] 27)) := ⟨_, hbx, World.ownsRow_nil _ _ _ _, hB2⟩
  have HST := Lib.hid hst
  clear hv hc2 hbx hst hB1
  refine callsIn_wide (n := 7).1 (callsIn_of_wp_marks Tryz.func58 rfl trivial ?_ rfl)
  simp only [Tryz.ntmps58, List.size_toArray, List.length_cons, List.length_nil, Nat.reduceAdd, Nat.reduceSub, Array.replicate_succ, Array.replicate_zero, List.push_toArray, List.append_toArray, List.nil_append, List.cons_append]
  gi_wp2_with fail
  refine ⟨trivial, ((callsIn_wide (n := _)).2 HNM.out).mono ?_⟩
  rintro e w2 ⟨rfl, rfl⟩
  gi_wp2
  refine range_all (α := ByteArray) (gf := 182) (lb := #[.pointer (some ⟨w.heap.size + 1, 0, none⟩)]) rfl (enters_of Tryz.func182 (by kernel_rfl) rfl) (encs := fun x : ByteArray => #[.string x]) (fun _ => rfl) (z := w.heap.size) (N := (rfVs vs).length) (S := fun xs => xs = rfVs vs) (by rw [hsz2]; omega)
    (fun pre W => AIb (w.heap.size + 4) w.heap.size w (dd pre) W) (OwB w.heap.size) HST.out ?ia ?il ?ow ?oa ?ol ?od ?seq (fun x => { tmps := #[.slice ad an ac, undef, .slice none 0 0, .pointer (some ⟨w.heap.size, 0, none⟩), .string x, .slice ad an ac, .func (.func 182) #[] #[.pointer (some ⟨w.heap.size + 1, 0, none⟩)], .string x, undef, undef, undef, undef, undef, undef, undef, undef, undef], defers := [] }) ?assign ?body ?done
  case ia => exact fun s A B h hb => h.below hb
  case il =>
    rw [hsz2]
    exact fun s A r r' h hr => h.put (by omega) hr
  case ow => exact fun k hk => (HST.out.own hk).1
  case oa =>
    intro A B k hA hb hk
    rw [hsz2] at hA
    rcases hk with h | ⟨v, h1, h2⟩
    · exact .inl h
    · exact .inr ⟨v, (hb.block _ (by omega)).symm.trans h1, h2⟩
  case ol =>
    rw [hsz2]
    intro A r r' k hr
    have hz : ∀ x, (A.putObj (w.heap.size + 2 + 1) (.loop r')).heap[w.heap.size]? = some x ↔ A.heap[w.heap.size]? = some x := fun x => by rw [World.putObj_heap_other (by omega)]
    exact or_congr Iff.rfl (exists_congr fun v => and_congr (hz _) Iff.rfl)
  case od =>
    rw [hsz2]
    intro s A h
    exact ⟨fun hk => by have := (h.own hk).2; omega, fun hk => by have := (h.own hk).2; omega⟩
  case seq => exact HSEQ.out
  case assign =>
    intro l x W m K hK
    gi_wp2
    exact hK
  case body =>
    rintro l pre x W m ⟨v1, h1, h2, h3⟩ hpl hWs
    rw [hsz2] at hWs
    have hddl := dd_len pre
    have hc1 : W.cell? ⟨w.heap.size, 0, none⟩ = some v1 := by rw [Lib.cell_of_heap h1]; rfl
    have hf1 : W.frozen? ⟨w.heap.size, 0, none⟩ = false := Lib.frozen_of_heap h1 0
    gi_wp2_with fail
    refine ⟨trivial, fun h => (by cases h), (((callsIn_wide (n := _)).2 (contains_owns h2 x (by omega))).inRound l).mono ?_⟩
    rintro e w' ⟨rfl, rfl⟩
    cases hcx : Lib.containsS (dd pre) x
    · have hdd : dd (pre ++ [x]) = dd pre ++ [x] := by rw [dd_snoc, ddS, hcx]; rfl
      gi_wp2_with (gi_at_builtin; refine wpListIn_append_own_at _ rfl _ _ 25 rfl (w.heap.size + 4) 9 i0 (.string ByteArray.empty) 1 16 Tryz.underlying25 hi hz0 hz1 hz2 rfl (by decide) _ _ _ rfl (h2.alloc _) ⟨w'.heap.size, 0, none⟩ 1 1 [.string x] rfl rfl ?c1 ?c2 ?c3 ?c4 ?c5 ?_)
      case c1 => exact cell_one_new _ _ _
      case c2 => simp [Value.oneCell']
      case c3 => unfold maxLen; omega
      case c4 => omega
      case c5 => simp; omega
      intro v' w1 hown' hgrow _ hblk
      obtain ⟨g', cap', rfl⟩ := ownsRow_succ hown'
      have HE := Lib.hid (aib_snoc (by omega) h1 h2 h3 (by omega) hgrow hown' (by rw [World.size_alloc]; exact hblk))
      have hb1 : w1.heap[w.heap.size]? = some (.cells #[v1] 25 (0, 0)) := by
        rw [hgrow.block _ (by simp; omega) (row_ne_low h2 (b := w.heap.size) (by omega)), Below.heap_alloc _ _ _ (by omega)]
        exact h1
      clear hc1 hf1
      have hc1 : w1.cell? ⟨w.heap.size, 0, none⟩ = some v1 := by rw [Lib.cell_of_heap hb1]; rfl
      have hf1 : w1.frozen? ⟨w.heap.size, 0, none⟩ = false := Lib.frozen_of_heap hb1 0
      have HDD := Lib.hid hdd
      clear hb1 h1 h2 h3 hown' hblk hdd
      gi_wp2
      rw [HDD.out]
      exact HE.out
    · have hdd : dd (pre ++ [x]) = dd pre := by rw [dd_snoc, ddS, hcx]; rfl
      have HE : Hid (AIb (w.heap.size + 4) w.heap.size w (dd pre) w') := Lib.hid ⟨v1, h1, h2, h3⟩
      have HDD := Lib.hid hdd
      clear h1 h2 h3 hdd
      gi_wp2
      rw [HDD.out]
      exact ⟨HE.out, KO.refl fun k hk => (HE.out.own hk).1⟩
  case done =>
    rintro D xs W hD rfl ⟨v1, h1, h2, h3⟩ hbel hdef
    have hc1 : W.cell? ⟨w.heap.size, 0, none⟩ = some v1 := by rw [Lib.cell_of_heap h1]; rfl
    gi_wp2
    refine ⟨by simp, .inl ⟨_, _, rfl, run_takeDeferred hdef, ?_⟩⟩
    refine ⟨_, results_tmp rfl _ _ _, v1, rfl, owns_mono (ownsRow_putObj h2 _ hdef rfl) (by omega), ?_⟩
    exact h3.grown (grownBy_putObj' W D _) h3.size fun k e => by cases e; simp at hD; omega
end Go.Proofs.YtlnaihkombcbcaaGreat
end
