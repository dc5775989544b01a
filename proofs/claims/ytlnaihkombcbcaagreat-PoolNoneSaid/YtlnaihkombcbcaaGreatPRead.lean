/-
  decls.Custom, subst.isVar, subst.read.
-/
import Derived.Test.YtlnaihkombcbcaaGreatPTrim
namespace Go.Proofs.YtlnaihkombcbcaaGreat
open Go.RowKit Go.Ev Go.Sort
/-- a custom property's name -/
def customB (s : ByteArray) : Bool := decide (2 ≤ s.size) && ((s.extract 0 2).toList == [45, 45])
set_option maxRecDepth 100000 in
theorem prefix_any (s : ByteArray) (w : World) :
    Calls Tryz.prog 266 #[.string s, .string ⟨#[45, 45]⟩] w fun e w' => e = .returned (.bool (customB s)) ∧ w' = w := by
  have h2 : (⟨#[45, 45]⟩ : ByteArray).size = 2 := rfl
  have h3 : (⟨#[45, 45]⟩ : ByteArray).toList = [45, 45] := by rw [ByteArray.toList_eq]
  generalize (⟨#[45, 45]⟩ : ByteArray) = p at *
  by_cases hs : 2 ≤ s.size
  · go_enter Tryz.func266, Tryz.ntmps266
    go_wp2
    go_ret
    refine ⟨ret_bool ?_, rfl⟩
    simp [customB, hs]
  · go_enter Tryz.func266, Tryz.ntmps266
    go_wp2
    go_ret
    refine ⟨ret_bool ?_, rfl⟩
    simp [customB, hs]
set_option maxRecDepth 100000 in
theorem prefix2_any (s : ByteArray) (w : World) :
    Calls Tryz.prog 209 #[.string s, .string ⟨#[45, 45]⟩] w fun e w' => e = .returned (.bool (customB s)) ∧ w' = w := by
  go_enter Tryz.func209, Tryz.ntmps209
  go_wp2_with fail
  refine (prefix_any s _).mono ?_
  rintro e w' ⟨rfl, rfl⟩
  go_wp2
  go_ret
  exact ⟨rfl, rfl⟩
set_option maxRecDepth 100000 in
theorem custom_any (s : ByteArray) (w : World) :
    Calls Tryz.prog 143 #[.string s] w fun e w' => e = .returned (.bool (customB s)) ∧ w' = w := by
  go_enter Tryz.func143, Tryz.ntmps143
  go_wp2_with fail
  refine (prefix2_any s _).mono ?_
  rintro e w' ⟨rfl, rfl⟩
  go_wp2
  go_ret
  exact ⟨rfl, rfl⟩
/-- a function var -/
def isVarK (k : Int) (s : ByteArray) : Bool := k == 5 && lowS (sOf s) == [118, 97, 114]
set_option maxRecDepth 100000 in
theorem isVar_any (k t n : Int) (s : ByteArray) (lv : Value) (w : World) (hs : s.size ≤ 1000000) :
    Calls Tryz.prog 131 #[.agg #[.int .i64 k, .int .i64 t, .string s, .int .i64 n, lv]] w fun e w' => e = .returned (.bool (isVarK k s)) ∧ Below w.heap.size w w' := by
  by_cases hk : k = 5
  · subst hk
    go_enter Tryz.func131, Tryz.ntmps131
    go_wp2_with fail
    refine (small_any s _ hs).mono ?_
    rintro e w2 ⟨rfl, hB⟩
    have hC := bup (below_alloc w _) hB
    have hbt : (bs (lowS (sOf s))).toList = lowS (sOf s) := bs_toList _
    go_wp2
    go_ret
    refine ⟨ret_bool ?_, hC⟩
    simp [isVarK]
  · have hb : (k == 5) = false := by simpa using hk
    go_enter Tryz.func131, Tryz.ntmps131
    go_wp2
    go_ret
    exact ⟨ret_bool (by simp [isVarK, hb]), below_alloc _ _⟩
/-- what a function var refers to -/
structure Rf where
  name : ByteArray
  fb : List Vl
  falls : Bool
  is : Bool
def commaB (z : Vl) : Bool := z.kind == 1 && (z.tk == 7 && z.text.toList == [44] && z.n == 0)
def restM (name : ByteArray) : List Vl → Rf
  | [] => ⟨name, [], false, true⟩
  | z :: q => ⟨name, trimM q, commaB z, commaB z⟩
def headM : List Vl → Rf
  | [] => ⟨ByteArray.empty, [], false, false⟩
  | y :: r => if y.kind = 1 ∧ y.tk = 1 ∧ customB y.text = true then restM y.text (trimM r) else ⟨ByteArray.empty, [], false, false⟩
def readM (l : List Vl) : Rf := headM (trimM l)
def ReadPost (f : Rf) (e : Ending) : Prop := ∃ a m c, e = .returned (.tuple #[.agg #[.string f.name, .slice a m c, .bool f.falls], .bool f.is])
theorem results_row_tmp {P : Program} {fn : Func} {p u : Tmp} {ty : TypeId} (h : fn.results = #[.cell p ty, .tmp u]) (tmps : Array Value) (w : World) (g : Nat) (t : TypeId) (cs : Array Value) (fr : Nat × Nat) (d : TypeDesc)
    (hp : tmps.getD p undef = .pointer (some ⟨g, 0, none⟩)) (hg : w.heap[g]? = some (.cells cs t fr))
    (hu : P.underlying ty = some d) (hd : (match d with | .struct _ | .array _ _ => true | _ => false) = true) (hi : (P.info? ty).map (·.size) = some cs.size) :
    (results fn tmps).run P w = .ok (.tuple #[.agg cs, tmps.getD u undef]) w := by
  have hp' : tmps[p]?.getD undef = .pointer (some ⟨g, 0, none⟩) := by simpa using hp
  simp [results, h, hp', asAddr, run_loadVar_row w g t ty cs fr d hg hu hd hi]
theorem set3 {W : World} {g : Nat} {t : TypeId} {cs : Array Value} (x y z : Value) (h : W.heap[g]? = some (.cells cs t (0, 0))) (hs : cs.size = 3) :
    (((W.setCell ⟨g, 0, none⟩ x).setCell ⟨g, 1, none⟩ y).setCell ⟨g, 2, none⟩ z).heap[g]? = some (.cells #[x, y, z] t (0, 0)) := by
  rw [put_same (o := 2) z (put_same (o := 1) y (put_same (o := 0) x h))]
  obtain ⟨l⟩ := cs
  match l, hs with
  | [a, b, c], _ => rfl
theorem below3 {w W : World} {g : Nat} (x y z : Value) (h : Below w.heap.size w W) (hg : w.heap.size ≤ g) : Below w.heap.size w (((W.setCell ⟨g, 0, none⟩ x).setCell ⟨g, 1, none⟩ y).setCell ⟨g, 2, none⟩ z) :=
  ((h.setCell hg _).setCell hg _).setCell hg _
theorem Tryz.sizeRef : (Tryz.prog.info? 278).map (·.size) = some 3 := by kernel_rfl
set_option maxRecDepth 100000 in
set_option maxHeartbeats 4000000 in
theorem read_any (k t n : Int) (s : ByteArray) (lv : Value) (l : List Vl) (w : World) (hv : At w (.sl l.length 5 (l.flatMap encV)) lv) (hl : l.length ≤ 1000000) :
    Calls Tryz.prog 198 #[.agg #[.int .i64 k, .int .i64 t, .string s, .int .i64 n, lv]] w fun e w' => ReadPost (readM l) e ∧ Below w.heap.size w w' := by
  have hB2 : Below w.heap.size w ((w.alloc (.cells #[.int .i64 k, .int .i64 t, .string s, .int .i64 n, lv] 67)).alloc (.cells #[.string ByteArray.empty, .slice none 0 0, .bool false] 278)) := ((Below.refl _ w).alloc (Nat.le_refl _) _).alloc (by simp) _
  have HT := Lib.hid (trim_any w.heap.size lv l _ hB2.size ((VlS.of_at hv).below (Nat.le_refl _) hB2) hl)
  have hlen := trimM_len l
  have HR : Hid (readM l = headM (trimM l)) := Lib.hid rfl
  obtain ⟨ad, cap, rfl, -⟩ := At.sl_form hv
  clear hv
  generalize trimM l = l1 at *
  generalize readM l = f at *
  go_enter Tryz.func198, Tryz.ntmps198
  go_wp2_with fail
  refine HT.out.mono ?_
  rintro e w3 ⟨v1, rfl, hn1, hB3⟩
  have hC3 := bup hB2 hB3
  have hz3 : w.heap.size + 2 ≤ w3.heap.size := by have := hB3.size; simpa using this
  have d2 : w3.heap[w.heap.size + 1]? = some (.cells #[.string ByteArray.empty, .slice none 0 0, .bool false] 278) := by
    rw [hB3.block _ (by simp)]
    have := World.alloc_heap_new (w.alloc (.cells #[.int .i64 k, .int .i64 t, .string s, .int .i64 n, .slice ad l.length cap] 67)) (.cells #[.string ByteArray.empty, .slice none 0 0, .bool false] 278)
    rw [World.size_alloc] at this
    exact this
  clear hB3
  have e0 : w3.cell? ⟨w.heap.size + 1, 0, none⟩ = some (.string ByteArray.empty) := by rw [Lib.cell_of_heap d2]; rfl
  have e1 : w3.cell? ⟨w.heap.size + 1, 1, none⟩ = some (.slice none 0 0) := by rw [Lib.cell_of_heap d2]; rfl
  have e2 : w3.cell? ⟨w.heap.size + 1, 2, none⟩ = some (.bool false) := by rw [Lib.cell_of_heap d2]; rfl
  have f0 : w3.frozen? ⟨w.heap.size + 1, 0, none⟩ = false := Lib.frozen_of_heap d2 0
  have f1 : w3.frozen? ⟨w.heap.size + 1, 1, none⟩ = false := Lib.frozen_of_heap d2 1
  have f2 : w3.frozen? ⟨w.heap.size + 1, 2, none⟩ = false := Lib.frozen_of_heap d2 2
  cases l1 with
  | nil =>
    obtain ⟨a1, c1, rfl⟩ := hn1.form
    have HF : Hid (f = ⟨ByteArray.empty, [], false, false⟩) := HR
    go_wp2
    refine bodyPost_ret (results_row_tmp rfl _ _ (w.heap.size + 1) 278 _ (0, 0) _ rfl (set3 _ _ _ d2 rfl) Tryz.underlying278 rfl Tryz.sizeRef) rfl ?_
    refine ⟨⟨none, 0, 0, by rw [HF.out]; rfl⟩, below3 _ _ _ hC3 (Nat.le_succ _)⟩
  | cons y r =>
    have hs1 := hn1.vls
    rcases hs1.form with ⟨h0, -⟩ | ⟨-, b, o, c1, rfl, hcap1, -⟩
    · cases h0
    · obtain ⟨c0, c1', c2, c3, ad1, cp1, c4, -⟩ := hs1.cells (k := 0) (by simp)
      simp only [List.getElem_cons_zero, Nat.zero_mul, Nat.add_zero] at c0 c1' c2 c3 c4
      have HSUB := Lib.hid fun a ha => hs1.sub 1 r.length (c1 - 1) (by simp; omega) (by simp at hcap1; omega) a ha
      simp only [List.drop_succ_cons, List.drop_zero, List.take_length] at HSUB
      rw [List.length_cons] at hcap1 hlen ⊢
      have HY : Hid (f = if y.kind = 1 ∧ y.tk = 1 ∧ customB y.text = true then restM y.text (trimM r) else ⟨ByteArray.empty, [], false, false⟩) := HR
      clear hs1 hn1 HR
      generalize y.kind = kd at *
      generalize y.tk = tk at *
      generalize y.text = tx at *
      generalize y.n = nn at *
      generalize y.l.length = ln at *
      by_cases hk : kd = 1
      · subst hk
        by_cases ht : tk = 1
        · subst ht
          go_wp2_with fail
          refine (custom_any tx _).mono ?_
          rintro e w4 ⟨rfl, rfl⟩
          cases hcu : customB tx
          · have HF : Hid (f = ⟨ByteArray.empty, [], false, false⟩) := Lib.hid (by rw [HY.out, hcu]; simp)
            clear HY HSUB
            go_wp2
            refine bodyPost_ret (results_row_tmp rfl _ _ (w.heap.size + 1) 278 _ (0, 0) _ rfl (set3 _ _ _ d2 rfl) Tryz.underlying278 rfl Tryz.sizeRef) rfl ?_
            refine ⟨⟨none, 0, 0, by rw [HF.out]; rfl⟩, below3 _ _ _ hC3 (Nat.le_succ _)⟩
          · have HF : Hid (f = restM tx (trimM r)) := Lib.hid (by rw [HY.out, hcu]; simp)
            clear HY
            have hC4 : Below w.heap.size w (w4.alloc (.cells #[.string tx, .slice none 0 0, .bool false] 278)) := hC3.alloc hC3.size _
            have TR := Lib.hid fun A hA => trim_any w.heap.size (.slice A r.length (c1 - 1)) r _ hC4.size ((HSUB.out A hA).below hC3.size (below_alloc w4 (.cells #[.string tx, .slice none 0 0, .bool false] 278))) (by omega)
            have HD2 := Lib.hid d2
            clear HSUB c0 c1' c3 c4 e0 e1 e2 f0 f1 f2 d2
            have hl2 := trimM_len r
            by_cases hc1 : c1 = 1
            · subst hc1
              obtain rfl : r = [] := List.eq_nil_of_length_eq_zero (by omega)
              go_wp2_with fail
              refine (TR.out (some ⟨b, o, none⟩) (fun h => absurd h (Nat.lt_irrefl 0))).mono ?_
              rintro e w5 ⟨v6, rfl, hn6, hB5⟩
              have hC5 := bup hC4 hB5
              have hz5 := hB5.size
              rw [World.size_alloc] at hz5
              have d2' : w5.heap[w.heap.size + 1]? = some (.cells #[.string ByteArray.empty, .slice none 0 0, .bool false] 278) := by
                rw [hB5.block _ (by simp; omega), Below.heap_alloc _ _ _ (by omega)]
                exact HD2.out
              have d4 : w5.heap[w4.heap.size]? = some (.cells #[.string tx, .slice none 0 0, .bool false] 278) := by
                rw [hB5.block _ (by simp)]
                exact World.alloc_heap_new w4 _
              have e0 : w5.cell? ⟨w.heap.size + 1, 0, none⟩ = some (.string ByteArray.empty) := by rw [Lib.cell_of_heap d2']; rfl
              have e1 : w5.cell? ⟨w.heap.size + 1, 1, none⟩ = some (.slice none 0 0) := by rw [Lib.cell_of_heap d2']; rfl
              have e2 : w5.cell? ⟨w.heap.size + 1, 2, none⟩ = some (.bool false) := by rw [Lib.cell_of_heap d2']; rfl
              have f0 : w5.frozen? ⟨w.heap.size + 1, 0, none⟩ = false := Lib.frozen_of_heap d2' 0
              have f1 : w5.frozen? ⟨w.heap.size + 1, 1, none⟩ = false := Lib.frozen_of_heap d2' 1
              have f2 : w5.frozen? ⟨w.heap.size + 1, 2, none⟩ = false := Lib.frozen_of_heap d2' 2
              have g0 : w5.cell? ⟨w4.heap.size, 0, none⟩ = some (.string tx) := by rw [Lib.cell_of_heap d4]; rfl
              have g1 : w5.cell? ⟨w4.heap.size, 1, none⟩ = some (.slice none 0 0) := by rw [Lib.cell_of_heap d4]; rfl
              have g2 : w5.cell? ⟨w4.heap.size, 2, none⟩ = some (.bool false) := by rw [Lib.cell_of_heap d4]; rfl
              have gf2 : w5.frozen? ⟨w4.heap.size, 2, none⟩ = false := Lib.frozen_of_heap d4 2
              obtain ⟨a6, c6, rfl⟩ := hn6.form
              go_wp2
              refine bodyPost_ret (results_row_tmp rfl _ _ (w.heap.size + 1) 278 _ (0, 0) _ rfl (set3 _ _ _ d2' rfl) Tryz.underlying278 rfl Tryz.sizeRef) rfl ?_
              exact ⟨⟨none, 0, 0, by rw [HF.out]; rfl⟩, below3 _ _ _ hC5 (Nat.le_succ _)⟩
            · go_wp2_with fail
              refine (TR.out (some ⟨b, o + 5, none⟩) (fun _ => rfl)).mono ?_
              rintro e w5 ⟨v6, rfl, hn6, hB5⟩
              have hC5 := bup hC4 hB5
              have hz5 := hB5.size
              rw [World.size_alloc] at hz5
              have d2' : w5.heap[w.heap.size + 1]? = some (.cells #[.string ByteArray.empty, .slice none 0 0, .bool false] 278) := by
                rw [hB5.block _ (by simp; omega), Below.heap_alloc _ _ _ (by omega)]
                exact HD2.out
              have d4 : w5.heap[w4.heap.size]? = some (.cells #[.string tx, .slice none 0 0, .bool false] 278) := by
                rw [hB5.block _ (by simp)]
                exact World.alloc_heap_new w4 _
              have e0 : w5.cell? ⟨w.heap.size + 1, 0, none⟩ = some (.string ByteArray.empty) := by rw [Lib.cell_of_heap d2']; rfl
              have e1 : w5.cell? ⟨w.heap.size + 1, 1, none⟩ = some (.slice none 0 0) := by rw [Lib.cell_of_heap d2']; rfl
              have e2 : w5.cell? ⟨w.heap.size + 1, 2, none⟩ = some (.bool false) := by rw [Lib.cell_of_heap d2']; rfl
              have f0 : w5.frozen? ⟨w.heap.size + 1, 0, none⟩ = false := Lib.frozen_of_heap d2' 0
              have f1 : w5.frozen? ⟨w.heap.size + 1, 1, none⟩ = false := Lib.frozen_of_heap d2' 1
              have f2 : w5.frozen? ⟨w.heap.size + 1, 2, none⟩ = false := Lib.frozen_of_heap d2' 2
              have g0 : w5.cell? ⟨w4.heap.size, 0, none⟩ = some (.string tx) := by rw [Lib.cell_of_heap d4]; rfl
              have g1 : w5.cell? ⟨w4.heap.size, 1, none⟩ = some (.slice none 0 0) := by rw [Lib.cell_of_heap d4]; rfl
              have g2 : w5.cell? ⟨w4.heap.size, 2, none⟩ = some (.bool false) := by rw [Lib.cell_of_heap d4]; rfl
              have gf2 : w5.frozen? ⟨w4.heap.size, 2, none⟩ = false := Lib.frozen_of_heap d4 2
              generalize trimM r = l2 at *
              cases l2 with
              | nil =>
                obtain ⟨a6, c6, rfl⟩ := hn6.form
                go_wp2
                refine bodyPost_ret (results_row_tmp rfl _ _ (w.heap.size + 1) 278 _ (0, 0) _ rfl (set3 _ _ _ d2' rfl) Tryz.underlying278 rfl Tryz.sizeRef) rfl ?_
                exact ⟨⟨none, 0, 0, by rw [HF.out]; rfl⟩, below3 _ _ _ hC5 (Nat.le_succ _)⟩
              | cons z q =>
                have hz4 : w.heap.size ≤ w4.heap.size := hC3.size
                have hs6 := fun B : Bool => (hn6.set (p := ⟨w4.heap.size, 2, none⟩) (.bool B) hz4 (by simp)).vls
                have hs5 := hn6.vls
                rcases hs5.form with ⟨h0, -⟩ | ⟨-, b6, o6, c6, rfl, hcap6, -⟩
                · cases h0
                · obtain ⟨zc0, zc1, zc2, zc3, ad6, cp6, zc4, -⟩ := hs5.cells (k := 0) (by simp)
                  simp only [List.getElem_cons_zero, Nat.zero_mul, Nat.add_zero] at zc0 zc1 zc2 zc3 zc4
                  have HSUB := Lib.hid fun (B : Bool) (C : Nat) (hC : q.length ≤ C) A hA => (show VlS w.heap.size (w5.setCell ⟨w4.heap.size, 2, none⟩ (.bool B)) (.slice A q.length C) q by
                    have := (hs6 B).sub 1 q.length C (by simp; omega) hC A hA
                    simpa using this)
                  rw [List.length_cons] at hcap6 hl2 ⊢
                  have hcm : commaB z = (z.kind == 1 && (z.tk == 7 && z.text.toList == [44] && z.n == 0)) := rfl
                  have HF2 : Hid (f = ⟨tx, trimM q, commaB z, commaB z⟩) := HF
                  rw [hcm] at HF2
                  clear hs5 hs6 hn6 HF hcm
                  generalize z.kind = zk at *
                  generalize z.tk = zt at *
                  generalize z.text = zs at *
                  generalize z.n = zn at *
                  generalize z.l.length = zl at *
                  have HD5 := Lib.hid (And.intro d2' d4)
                  by_cases hzk : zk = 1
                  · subst hzk
                    by_cases hzt : zt = 7
                    · subst hzt
                      by_cases hzs : zs.toList = [44]
                      · by_cases hzn : zn = 0
                        · subst hzn
                          have HF : Hid (f = ⟨tx, trimM q, true, true⟩) := Lib.hid (by rw [HF2.out]; simp [*])
                          clear HF2
                          by_cases hc6 : c6 = 1
                          · subst hc6
                            obtain rfl : q = [] := List.eq_nil_of_length_eq_zero (by omega)
                            go_wp2_with fail
                            refine (trim_any w.heap.size (.slice (some ⟨b6, o6, none⟩) 0 0) [] _ (by simp [World.setCell]; omega) (HSUB.out true 0 (Nat.le_refl _) _ (fun h => absurd h (Nat.lt_irrefl 0))) (by simp)).mono ?_
                            rintro e w7 ⟨v7, rfl, hn7, hB7⟩
                            have hz7 := hB7.size
                            rw [show (w5.setCell ⟨w4.heap.size, 2, none⟩ (.bool true)).heap.size = w5.heap.size by simp [World.setCell]] at hz7
                            have hC7 : Below w.heap.size w w7 := (hC5.setCell (p := ⟨w4.heap.size, 2, none⟩) hz4 (.bool true)).trans (hB7.mono (by simp [World.setCell]; omega))
                            have d2'' : w7.heap[w.heap.size + 1]? = some (.cells #[.string ByteArray.empty, .slice none 0 0, .bool false] 278) := by
                              rw [hB7.block _ (by simp [World.setCell]; omega), put_far _ rfl (by show w.heap.size + 1 ≠ w4.heap.size; omega)]
                              exact HD5.out.1
                            have d4' : w7.heap[w4.heap.size]? = some (.cells #[.string tx, .slice none 0 0, .bool true] 278) := by
                              rw [hB7.block _ (by simp [World.setCell]; omega)]
                              exact put_same (o := 2) (.bool true) HD5.out.2
                            have e0 : w7.cell? ⟨w.heap.size + 1, 0, none⟩ = some (.string ByteArray.empty) := by rw [Lib.cell_of_heap d2'']; rfl
                            have e1 : w7.cell? ⟨w.heap.size + 1, 1, none⟩ = some (.slice none 0 0) := by rw [Lib.cell_of_heap d2'']; rfl
                            have e2 : w7.cell? ⟨w.heap.size + 1, 2, none⟩ = some (.bool false) := by rw [Lib.cell_of_heap d2'']; rfl
                            have f0 : w7.frozen? ⟨w.heap.size + 1, 0, none⟩ = false := Lib.frozen_of_heap d2'' 0
                            have f1 : w7.frozen? ⟨w.heap.size + 1, 1, none⟩ = false := Lib.frozen_of_heap d2'' 1
                            have f2 : w7.frozen? ⟨w.heap.size + 1, 2, none⟩ = false := Lib.frozen_of_heap d2'' 2
                            have g0 : w7.cell? ⟨w4.heap.size, 0, none⟩ = some (.string tx) := by rw [Lib.cell_of_heap d4']; rfl
                            have g1 : w7.cell? ⟨w4.heap.size, 1, none⟩ = some (.slice none 0 0) := by rw [Lib.cell_of_heap d4']; rfl
                            have g2 : w7.cell? ⟨w4.heap.size, 2, none⟩ = some (.bool true) := by rw [Lib.cell_of_heap d4']; rfl
                            have gf1 : w7.frozen? ⟨w4.heap.size, 1, none⟩ = false := Lib.frozen_of_heap d4' 1
                            have hne1 : ¬ w.heap.size + 1 = w4.heap.size := by omega
                            have hne2 : ¬ w4.heap.size = w.heap.size + 1 := by omega
                            obtain ⟨a7, c7, rfl⟩ := hn7.form
                            clear hn7 hB7
                            go_wp2
                            go_region
                            go_wp2
                            refine bodyPost_ret (results_row_tmp rfl _ _ (w.heap.size + 1) 278 _ (0, 0) _ rfl (set3 _ _ _ ((put_far _ rfl (by show w.heap.size + 1 ≠ w4.heap.size; omega)).trans d2'') rfl) Tryz.underlying278 rfl Tryz.sizeRef) rfl ?_
                            refine ⟨⟨a7, (trimM ([] : List Vl)).length, c7, by rw [HF.out]; rfl⟩, ?_⟩
                            exact (below3 _ _ _ (hC7.setCell (p := ⟨w4.heap.size, 1, none⟩) hz4 _) (Nat.le_succ _)).drew
                          · go_wp2_with fail
                            refine (trim_any w.heap.size (.slice (some ⟨b6, o6 + 5, none⟩) q.length (c6 - 1)) q _ (by simp [World.setCell]; omega) (HSUB.out true (c6 - 1) (by omega) _ (fun _ => by rw [Nat.one_mul])) (by omega)).mono ?_
                            rintro e w7 ⟨v7, rfl, hn7, hB7⟩
                            have hz7 := hB7.size
                            rw [show (w5.setCell ⟨w4.heap.size, 2, none⟩ (.bool true)).heap.size = w5.heap.size by simp [World.setCell]] at hz7
                            have hC7 : Below w.heap.size w w7 := (hC5.setCell (p := ⟨w4.heap.size, 2, none⟩) hz4 (.bool true)).trans (hB7.mono (by simp [World.setCell]; omega))
                            have d2'' : w7.heap[w.heap.size + 1]? = some (.cells #[.string ByteArray.empty, .slice none 0 0, .bool false] 278) := by
                              rw [hB7.block _ (by simp [World.setCell]; omega), put_far _ rfl (by show w.heap.size + 1 ≠ w4.heap.size; omega)]
                              exact HD5.out.1
                            have d4' : w7.heap[w4.heap.size]? = some (.cells #[.string tx, .slice none 0 0, .bool true] 278) := by
                              rw [hB7.block _ (by simp [World.setCell]; omega)]
                              exact put_same (o := 2) (.bool true) HD5.out.2
                            have e0 : w7.cell? ⟨w.heap.size + 1, 0, none⟩ = some (.string ByteArray.empty) := by rw [Lib.cell_of_heap d2'']; rfl
                            have e1 : w7.cell? ⟨w.heap.size + 1, 1, none⟩ = some (.slice none 0 0) := by rw [Lib.cell_of_heap d2'']; rfl
                            have e2 : w7.cell? ⟨w.heap.size + 1, 2, none⟩ = some (.bool false) := by rw [Lib.cell_of_heap d2'']; rfl
                            have f0 : w7.frozen? ⟨w.heap.size + 1, 0, none⟩ = false := Lib.frozen_of_heap d2'' 0
                            have f1 : w7.frozen? ⟨w.heap.size + 1, 1, none⟩ = false := Lib.frozen_of_heap d2'' 1
                            have f2 : w7.frozen? ⟨w.heap.size + 1, 2, none⟩ = false := Lib.frozen_of_heap d2'' 2
                            have g0 : w7.cell? ⟨w4.heap.size, 0, none⟩ = some (.string tx) := by rw [Lib.cell_of_heap d4']; rfl
                            have g1 : w7.cell? ⟨w4.heap.size, 1, none⟩ = some (.slice none 0 0) := by rw [Lib.cell_of_heap d4']; rfl
                            have g2 : w7.cell? ⟨w4.heap.size, 2, none⟩ = some (.bool true) := by rw [Lib.cell_of_heap d4']; rfl
                            have gf1 : w7.frozen? ⟨w4.heap.size, 1, none⟩ = false := Lib.frozen_of_heap d4' 1
                            have hne1 : ¬ w.heap.size + 1 = w4.heap.size := by omega
                            have hne2 : ¬ w4.heap.size = w.heap.size + 1 := by omega
                            obtain ⟨a7, c7, rfl⟩ := hn7.form
                            clear hn7 hB7
                            go_wp2
                            go_region
                            go_wp2
                            refine bodyPost_ret (results_row_tmp rfl _ _ (w.heap.size + 1) 278 _ (0, 0) _ rfl (set3 _ _ _ ((put_far _ rfl (by show w.heap.size + 1 ≠ w4.heap.size; omega)).trans d2'') rfl) Tryz.underlying278 rfl Tryz.sizeRef) rfl ?_
                            refine ⟨⟨a7, (trimM q).length, c7, by rw [HF.out]; rfl⟩, ?_⟩
                            exact (below3 _ _ _ (hC7.setCell (p := ⟨w4.heap.size, 1, none⟩) hz4 _) (Nat.le_succ _)).drew
                        · have hzn' : (zn == 0) = false := by simpa using hzn
                          have HF : Hid (f = ⟨tx, trimM q, false, false⟩) := Lib.hid (by rw [HF2.out]; simp [*])
                          clear HF2
                          by_cases hc6 : c6 = 1
                          · subst hc6
                            obtain rfl : q = [] := List.eq_nil_of_length_eq_zero (by omega)
                            go_wp2_with fail
                            refine (trim_any w.heap.size (.slice (some ⟨b6, o6, none⟩) 0 0) [] _ (by simp [World.setCell]; omega) (HSUB.out false 0 (Nat.le_refl _) _ (fun h => absurd h (Nat.lt_irrefl 0))) (by simp)).mono ?_
                            rintro e w7 ⟨v7, rfl, hn7, hB7⟩
                            have hz7 := hB7.size
                            rw [show (w5.setCell ⟨w4.heap.size, 2, none⟩ (.bool false)).heap.size = w5.heap.size by simp [World.setCell]] at hz7
                            have hC7 : Below w.heap.size w w7 := (hC5.setCell (p := ⟨w4.heap.size, 2, none⟩) hz4 (.bool false)).trans (hB7.mono (by simp [World.setCell]; omega))
                            have d2'' : w7.heap[w.heap.size + 1]? = some (.cells #[.string ByteArray.empty, .slice none 0 0, .bool false] 278) := by
                              rw [hB7.block _ (by simp [World.setCell]; omega), put_far _ rfl (by show w.heap.size + 1 ≠ w4.heap.size; omega)]
                              exact HD5.out.1
                            have d4' : w7.heap[w4.heap.size]? = some (.cells #[.string tx, .slice none 0 0, .bool false] 278) := by
                              rw [hB7.block _ (by simp [World.setCell]; omega)]
                              exact put_same (o := 2) (.bool false) HD5.out.2
                            have e0 : w7.cell? ⟨w.heap.size + 1, 0, none⟩ = some (.string ByteArray.empty) := by rw [Lib.cell_of_heap d2'']; rfl
                            have e1 : w7.cell? ⟨w.heap.size + 1, 1, none⟩ = some (.slice none 0 0) := by rw [Lib.cell_of_heap d2'']; rfl
                            have e2 : w7.cell? ⟨w.heap.size + 1, 2, none⟩ = some (.bool false) := by rw [Lib.cell_of_heap d2'']; rfl
                            have f0 : w7.frozen? ⟨w.heap.size + 1, 0, none⟩ = false := Lib.frozen_of_heap d2'' 0
                            have f1 : w7.frozen? ⟨w.heap.size + 1, 1, none⟩ = false := Lib.frozen_of_heap d2'' 1
                            have f2 : w7.frozen? ⟨w.heap.size + 1, 2, none⟩ = false := Lib.frozen_of_heap d2'' 2
                            have g0 : w7.cell? ⟨w4.heap.size, 0, none⟩ = some (.string tx) := by rw [Lib.cell_of_heap d4']; rfl
                            have g1 : w7.cell? ⟨w4.heap.size, 1, none⟩ = some (.slice none 0 0) := by rw [Lib.cell_of_heap d4']; rfl
                            have g2 : w7.cell? ⟨w4.heap.size, 2, none⟩ = some (.bool false) := by rw [Lib.cell_of_heap d4']; rfl
                            have gf1 : w7.frozen? ⟨w4.heap.size, 1, none⟩ = false := Lib.frozen_of_heap d4' 1
                            have hne1 : ¬ w.heap.size + 1 = w4.heap.size := by omega
                            have hne2 : ¬ w4.heap.size = w.heap.size + 1 := by omega
                            obtain ⟨a7, c7, rfl⟩ := hn7.form
                            clear hn7 hB7
                            go_wp2
                            go_region
                            go_wp2
                            refine bodyPost_ret (results_row_tmp rfl _ _ (w.heap.size + 1) 278 _ (0, 0) _ rfl (set3 _ _ _ ((put_far _ rfl (by show w.heap.size + 1 ≠ w4.heap.size; omega)).trans d2'') rfl) Tryz.underlying278 rfl Tryz.sizeRef) rfl ?_
                            refine ⟨⟨a7, (trimM ([] : List Vl)).length, c7, by rw [HF.out]; rfl⟩, ?_⟩
                            exact (below3 _ _ _ (hC7.setCell (p := ⟨w4.heap.size, 1, none⟩) hz4 _) (Nat.le_succ _)).drew
                          · go_wp2_with fail
                            refine (trim_any w.heap.size (.slice (some ⟨b6, o6 + 5, none⟩) q.length (c6 - 1)) q _ (by simp [World.setCell]; omega) (HSUB.out false (c6 - 1) (by omega) _ (fun _ => by rw [Nat.one_mul])) (by omega)).mono ?_
                            rintro e w7 ⟨v7, rfl, hn7, hB7⟩
                            have hz7 := hB7.size
                            rw [show (w5.setCell ⟨w4.heap.size, 2, none⟩ (.bool false)).heap.size = w5.heap.size by simp [World.setCell]] at hz7
                            have hC7 : Below w.heap.size w w7 := (hC5.setCell (p := ⟨w4.heap.size, 2, none⟩) hz4 (.bool false)).trans (hB7.mono (by simp [World.setCell]; omega))
                            have d2'' : w7.heap[w.heap.size + 1]? = some (.cells #[.string ByteArray.empty, .slice none 0 0, .bool false] 278) := by
                              rw [hB7.block _ (by simp [World.setCell]; omega), put_far _ rfl (by show w.heap.size + 1 ≠ w4.heap.size; omega)]
                              exact HD5.out.1
                            have d4' : w7.heap[w4.heap.size]? = some (.cells #[.string tx, .slice none 0 0, .bool false] 278) := by
                              rw [hB7.block _ (by simp [World.setCell]; omega)]
                              exact put_same (o := 2) (.bool false) HD5.out.2
                            have e0 : w7.cell? ⟨w.heap.size + 1, 0, none⟩ = some (.string ByteArray.empty) := by rw [Lib.cell_of_heap d2'']; rfl
                            have e1 : w7.cell? ⟨w.heap.size + 1, 1, none⟩ = some (.slice none 0 0) := by rw [Lib.cell_of_heap d2'']; rfl
                            have e2 : w7.cell? ⟨w.heap.size + 1, 2, none⟩ = some (.bool false) := by rw [Lib.cell_of_heap d2'']; rfl
                            have f0 : w7.frozen? ⟨w.heap.size + 1, 0, none⟩ = false := Lib.frozen_of_heap d2'' 0
                            have f1 : w7.frozen? ⟨w.heap.size + 1, 1, none⟩ = false := Lib.frozen_of_heap d2'' 1
                            have f2 : w7.frozen? ⟨w.heap.size + 1, 2, none⟩ = false := Lib.frozen_of_heap d2'' 2
                            have g0 : w7.cell? ⟨w4.heap.size, 0, none⟩ = some (.string tx) := by rw [Lib.cell_of_heap d4']; rfl
                            have g1 : w7.cell? ⟨w4.heap.size, 1, none⟩ = some (.slice none 0 0) := by rw [Lib.cell_of_heap d4']; rfl
                            have g2 : w7.cell? ⟨w4.heap.size, 2, none⟩ = some (.bool false) := by rw [Lib.cell_of_heap d4']; rfl
                            have gf1 : w7.frozen? ⟨w4.heap.size, 1, none⟩ = false := Lib.frozen_of_heap d4' 1
                            have hne1 : ¬ w.heap.size + 1 = w4.heap.size := by omega
                            have hne2 : ¬ w4.heap.size = w.heap.size + 1 := by omega
                            obtain ⟨a7, c7, rfl⟩ := hn7.form
                            clear hn7 hB7
                            go_wp2
                            go_region
                            go_wp2
                            refine bodyPost_ret (results_row_tmp rfl _ _ (w.heap.size + 1) 278 _ (0, 0) _ rfl (set3 _ _ _ ((put_far _ rfl (by show w.heap.size + 1 ≠ w4.heap.size; omega)).trans d2'') rfl) Tryz.underlying278 rfl Tryz.sizeRef) rfl ?_
                            refine ⟨⟨a7, (trimM q).length, c7, by rw [HF.out]; rfl⟩, ?_⟩
                            exact (below3 _ _ _ (hC7.setCell (p := ⟨w4.heap.size, 1, none⟩) hz4 _) (Nat.le_succ _)).drew
                      · have hzs' : (zs.toList == [44]) = false := by simpa using hzs
                        have HF : Hid (f = ⟨tx, trimM q, false, false⟩) := Lib.hid (by rw [HF2.out]; simp [*])
                        clear HF2
                        by_cases hc6 : c6 = 1
                        · subst hc6
                          obtain rfl : q = [] := List.eq_nil_of_length_eq_zero (by omega)
                          go_wp2_with fail
                          refine (trim_any w.heap.size (.slice (some ⟨b6, o6, none⟩) 0 0) [] _ (by simp [World.setCell]; omega) (HSUB.out false 0 (Nat.le_refl _) _ (fun h => absurd h (Nat.lt_irrefl 0))) (by simp)).mono ?_
                          rintro e w7 ⟨v7, rfl, hn7, hB7⟩
                          have hz7 := hB7.size
                          rw [show (w5.setCell ⟨w4.heap.size, 2, none⟩ (.bool false)).heap.size = w5.heap.size by simp [World.setCell]] at hz7
                          have hC7 : Below w.heap.size w w7 := (hC5.setCell (p := ⟨w4.heap.size, 2, none⟩) hz4 (.bool false)).trans (hB7.mono (by simp [World.setCell]; omega))
                          have d2'' : w7.heap[w.heap.size + 1]? = some (.cells #[.string ByteArray.empty, .slice none 0 0, .bool false] 278) := by
                            rw [hB7.block _ (by simp [World.setCell]; omega), put_far _ rfl (by show w.heap.size + 1 ≠ w4.heap.size; omega)]
                            exact HD5.out.1
                          have d4' : w7.heap[w4.heap.size]? = some (.cells #[.string tx, .slice none 0 0, .bool false] 278) := by
                            rw [hB7.block _ (by simp [World.setCell]; omega)]
                            exact put_same (o := 2) (.bool false) HD5.out.2
                          have e0 : w7.cell? ⟨w.heap.size + 1, 0, none⟩ = some (.string ByteArray.empty) := by rw [Lib.cell_of_heap d2'']; rfl
                          have e1 : w7.cell? ⟨w.heap.size + 1, 1, none⟩ = some (.slice none 0 0) := by rw [Lib.cell_of_heap d2'']; rfl
                          have e2 : w7.cell? ⟨w.heap.size + 1, 2, none⟩ = some (.bool false) := by rw [Lib.cell_of_heap d2'']; rfl
                          have f0 : w7.frozen? ⟨w.heap.size + 1, 0, none⟩ = false := Lib.frozen_of_heap d2'' 0
                          have f1 : w7.frozen? ⟨w.heap.size + 1, 1, none⟩ = false := Lib.frozen_of_heap d2'' 1
                          have f2 : w7.frozen? ⟨w.heap.size + 1, 2, none⟩ = false := Lib.frozen_of_heap d2'' 2
                          have g0 : w7.cell? ⟨w4.heap.size, 0, none⟩ = some (.string tx) := by rw [Lib.cell_of_heap d4']; rfl
                          have g1 : w7.cell? ⟨w4.heap.size, 1, none⟩ = some (.slice none 0 0) := by rw [Lib.cell_of_heap d4']; rfl
                          have g2 : w7.cell? ⟨w4.heap.size, 2, none⟩ = some (.bool false) := by rw [Lib.cell_of_heap d4']; rfl
                          have gf1 : w7.frozen? ⟨w4.heap.size, 1, none⟩ = false := Lib.frozen_of_heap d4' 1
                          have hne1 : ¬ w.heap.size + 1 = w4.heap.size := by omega
                          have hne2 : ¬ w4.heap.size = w.heap.size + 1 := by omega
                          obtain ⟨a7, c7, rfl⟩ := hn7.form
                          clear hn7 hB7
                          go_wp2
                          go_region
                          go_wp2
                          refine bodyPost_ret (results_row_tmp rfl _ _ (w.heap.size + 1) 278 _ (0, 0) _ rfl (set3 _ _ _ ((put_far _ rfl (by show w.heap.size + 1 ≠ w4.heap.size; omega)).trans d2'') rfl) Tryz.underlying278 rfl Tryz.sizeRef) rfl ?_
                          refine ⟨⟨a7, (trimM ([] : List Vl)).length, c7, by rw [HF.out]; rfl⟩, ?_⟩
                          exact (below3 _ _ _ (hC7.setCell (p := ⟨w4.heap.size, 1, none⟩) hz4 _) (Nat.le_succ _)).drew
                        · go_wp2_with fail
                          refine (trim_any w.heap.size (.slice (some ⟨b6, o6 + 5, none⟩) q.length (c6 - 1)) q _ (by simp [World.setCell]; omega) (HSUB.out false (c6 - 1) (by omega) _ (fun _ => by rw [Nat.one_mul])) (by omega)).mono ?_
                          rintro e w7 ⟨v7, rfl, hn7, hB7⟩
                          have hz7 := hB7.size
                          rw [show (w5.setCell ⟨w4.heap.size, 2, none⟩ (.bool false)).heap.size = w5.heap.size by simp [World.setCell]] at hz7
                          have hC7 : Below w.heap.size w w7 := (hC5.setCell (p := ⟨w4.heap.size, 2, none⟩) hz4 (.bool false)).trans (hB7.mono (by simp [World.setCell]; omega))
                          have d2'' : w7.heap[w.heap.size + 1]? = some (.cells #[.string ByteArray.empty, .slice none 0 0, .bool false] 278) := by
                            rw [hB7.block _ (by simp [World.setCell]; omega), put_far _ rfl (by show w.heap.size + 1 ≠ w4.heap.size; omega)]
                            exact HD5.out.1
                          have d4' : w7.heap[w4.heap.size]? = some (.cells #[.string tx, .slice none 0 0, .bool false] 278) := by
                            rw [hB7.block _ (by simp [World.setCell]; omega)]
                            exact put_same (o := 2) (.bool false) HD5.out.2
                          have e0 : w7.cell? ⟨w.heap.size + 1, 0, none⟩ = some (.string ByteArray.empty) := by rw [Lib.cell_of_heap d2'']; rfl
                          have e1 : w7.cell? ⟨w.heap.size + 1, 1, none⟩ = some (.slice none 0 0) := by rw [Lib.cell_of_heap d2'']; rfl
                          have e2 : w7.cell? ⟨w.heap.size + 1, 2, none⟩ = some (.bool false) := by rw [Lib.cell_of_heap d2'']; rfl
                          have f0 : w7.frozen? ⟨w.heap.size + 1, 0, none⟩ = false := Lib.frozen_of_heap d2'' 0
                          have f1 : w7.frozen? ⟨w.heap.size + 1, 1, none⟩ = false := Lib.frozen_of_heap d2'' 1
                          have f2 : w7.frozen? ⟨w.heap.size + 1, 2, none⟩ = false := Lib.frozen_of_heap d2'' 2
                          have g0 : w7.cell? ⟨w4.heap.size, 0, none⟩ = some (.string tx) := by rw [Lib.cell_of_heap d4']; rfl
                          have g1 : w7.cell? ⟨w4.heap.size, 1, none⟩ = some (.slice none 0 0) := by rw [Lib.cell_of_heap d4']; rfl
                          have g2 : w7.cell? ⟨w4.heap.size, 2, none⟩ = some (.bool false) := by rw [Lib.cell_of_heap d4']; rfl
                          have gf1 : w7.frozen? ⟨w4.heap.size, 1, none⟩ = false := Lib.frozen_of_heap d4' 1
                          have hne1 : ¬ w.heap.size + 1 = w4.heap.size := by omega
                          have hne2 : ¬ w4.heap.size = w.heap.size + 1 := by omega
                          obtain ⟨a7, c7, rfl⟩ := hn7.form
                          clear hn7 hB7
                          go_wp2
                          go_region
                          go_wp2
                          refine bodyPost_ret (results_row_tmp rfl _ _ (w.heap.size + 1) 278 _ (0, 0) _ rfl (set3 _ _ _ ((put_far _ rfl (by show w.heap.size + 1 ≠ w4.heap.size; omega)).trans d2'') rfl) Tryz.underlying278 rfl Tryz.sizeRef) rfl ?_
                          refine ⟨⟨a7, (trimM q).length, c7, by rw [HF.out]; rfl⟩, ?_⟩
                          exact (below3 _ _ _ (hC7.setCell (p := ⟨w4.heap.size, 1, none⟩) hz4 _) (Nat.le_succ _)).drew
                    · have hzt' : (zt == 7) = false := by simpa using hzt
                      have HF : Hid (f = ⟨tx, trimM q, false, false⟩) := Lib.hid (by rw [HF2.out]; simp [*])
                      clear HF2
                      by_cases hc6 : c6 = 1
                      · subst hc6
                        obtain rfl : q = [] := List.eq_nil_of_length_eq_zero (by omega)
                        go_wp2_with fail
                        refine (trim_any w.heap.size (.slice (some ⟨b6, o6, none⟩) 0 0) [] _ (by simp [World.setCell]; omega) (HSUB.out false 0 (Nat.le_refl _) _ (fun h => absurd h (Nat.lt_irrefl 0))) (by simp)).mono ?_
                        rintro e w7 ⟨v7, rfl, hn7, hB7⟩
                        have hz7 := hB7.size
                        rw [show (w5.setCell ⟨w4.heap.size, 2, none⟩ (.bool false)).heap.size = w5.heap.size by simp [World.setCell]] at hz7
                        have hC7 : Below w.heap.size w w7 := (hC5.setCell (p := ⟨w4.heap.size, 2, none⟩) hz4 (.bool false)).trans (hB7.mono (by simp [World.setCell]; omega))
                        have d2'' : w7.heap[w.heap.size + 1]? = some (.cells #[.string ByteArray.empty, .slice none 0 0, .bool false] 278) := by
                          rw [hB7.block _ (by simp [World.setCell]; omega), put_far _ rfl (by show w.heap.size + 1 ≠ w4.heap.size; omega)]
                          exact HD5.out.1
                        have d4' : w7.heap[w4.heap.size]? = some (.cells #[.string tx, .slice none 0 0, .bool false] 278) := by
                          rw [hB7.block _ (by simp [World.setCell]; omega)]
                          exact put_same (o := 2) (.bool false) HD5.out.2
                        have e0 : w7.cell? ⟨w.heap.size + 1, 0, none⟩ = some (.string ByteArray.empty) := by rw [Lib.cell_of_heap d2'']; rfl
                        have e1 : w7.cell? ⟨w.heap.size + 1, 1, none⟩ = some (.slice none 0 0) := by rw [Lib.cell_of_heap d2'']; rfl
                        have e2 : w7.cell? ⟨w.heap.size + 1, 2, none⟩ = some (.bool false) := by rw [Lib.cell_of_heap d2'']; rfl
                        have f0 : w7.frozen? ⟨w.heap.size + 1, 0, none⟩ = false := Lib.frozen_of_heap d2'' 0
                        have f1 : w7.frozen? ⟨w.heap.size + 1, 1, none⟩ = false := Lib.frozen_of_heap d2'' 1
                        have f2 : w7.frozen? ⟨w.heap.size + 1, 2, none⟩ = false := Lib.frozen_of_heap d2'' 2
                        have g0 : w7.cell? ⟨w4.heap.size, 0, none⟩ = some (.string tx) := by rw [Lib.cell_of_heap d4']; rfl
                        have g1 : w7.cell? ⟨w4.heap.size, 1, none⟩ = some (.slice none 0 0) := by rw [Lib.cell_of_heap d4']; rfl
                        have g2 : w7.cell? ⟨w4.heap.size, 2, none⟩ = some (.bool false) := by rw [Lib.cell_of_heap d4']; rfl
                        have gf1 : w7.frozen? ⟨w4.heap.size, 1, none⟩ = false := Lib.frozen_of_heap d4' 1
                        have hne1 : ¬ w.heap.size + 1 = w4.heap.size := by omega
                        have hne2 : ¬ w4.heap.size = w.heap.size + 1 := by omega
                        obtain ⟨a7, c7, rfl⟩ := hn7.form
                        clear hn7 hB7
                        go_wp2
                        go_region
                        go_wp2
                        refine bodyPost_ret (results_row_tmp rfl _ _ (w.heap.size + 1) 278 _ (0, 0) _ rfl (set3 _ _ _ ((put_far _ rfl (by show w.heap.size + 1 ≠ w4.heap.size; omega)).trans d2'') rfl) Tryz.underlying278 rfl Tryz.sizeRef) rfl ?_
                        refine ⟨⟨a7, (trimM ([] : List Vl)).length, c7, by rw [HF.out]; rfl⟩, ?_⟩
                        exact (below3 _ _ _ (hC7.setCell (p := ⟨w4.heap.size, 1, none⟩) hz4 _) (Nat.le_succ _)).drew
                      · go_wp2_with fail
                        refine (trim_any w.heap.size (.slice (some ⟨b6, o6 + 5, none⟩) q.length (c6 - 1)) q _ (by simp [World.setCell]; omega) (HSUB.out false (c6 - 1) (by omega) _ (fun _ => by rw [Nat.one_mul])) (by omega)).mono ?_
                        rintro e w7 ⟨v7, rfl, hn7, hB7⟩
                        have hz7 := hB7.size
                        rw [show (w5.setCell ⟨w4.heap.size, 2, none⟩ (.bool false)).heap.size = w5.heap.size by simp [World.setCell]] at hz7
                        have hC7 : Below w.heap.size w w7 := (hC5.setCell (p := ⟨w4.heap.size, 2, none⟩) hz4 (.bool false)).trans (hB7.mono (by simp [World.setCell]; omega))
                        have d2'' : w7.heap[w.heap.size + 1]? = some (.cells #[.string ByteArray.empty, .slice none 0 0, .bool false] 278) := by
                          rw [hB7.block _ (by simp [World.setCell]; omega), put_far _ rfl (by show w.heap.size + 1 ≠ w4.heap.size; omega)]
                          exact HD5.out.1
                        have d4' : w7.heap[w4.heap.size]? = some (.cells #[.string tx, .slice none 0 0, .bool false] 278) := by
                          rw [hB7.block _ (by simp [World.setCell]; omega)]
                          exact put_same (o := 2) (.bool false) HD5.out.2
                        have e0 : w7.cell? ⟨w.heap.size + 1, 0, none⟩ = some (.string ByteArray.empty) := by rw [Lib.cell_of_heap d2'']; rfl
                        have e1 : w7.cell? ⟨w.heap.size + 1, 1, none⟩ = some (.slice none 0 0) := by rw [Lib.cell_of_heap d2'']; rfl
                        have e2 : w7.cell? ⟨w.heap.size + 1, 2, none⟩ = some (.bool false) := by rw [Lib.cell_of_heap d2'']; rfl
                        have f0 : w7.frozen? ⟨w.heap.size + 1, 0, none⟩ = false := Lib.frozen_of_heap d2'' 0
                        have f1 : w7.frozen? ⟨w.heap.size + 1, 1, none⟩ = false := Lib.frozen_of_heap d2'' 1
                        have f2 : w7.frozen? ⟨w.heap.size + 1, 2, none⟩ = false := Lib.frozen_of_heap d2'' 2
                        have g0 : w7.cell? ⟨w4.heap.size, 0, none⟩ = some (.string tx) := by rw [Lib.cell_of_heap d4']; rfl
                        have g1 : w7.cell? ⟨w4.heap.size, 1, none⟩ = some (.slice none 0 0) := by rw [Lib.cell_of_heap d4']; rfl
                        have g2 : w7.cell? ⟨w4.heap.size, 2, none⟩ = some (.bool false) := by rw [Lib.cell_of_heap d4']; rfl
                        have gf1 : w7.frozen? ⟨w4.heap.size, 1, none⟩ = false := Lib.frozen_of_heap d4' 1
                        have hne1 : ¬ w.heap.size + 1 = w4.heap.size := by omega
                        have hne2 : ¬ w4.heap.size = w.heap.size + 1 := by omega
                        obtain ⟨a7, c7, rfl⟩ := hn7.form
                        clear hn7 hB7
                        go_wp2
                        go_region
                        go_wp2
                        refine bodyPost_ret (results_row_tmp rfl _ _ (w.heap.size + 1) 278 _ (0, 0) _ rfl (set3 _ _ _ ((put_far _ rfl (by show w.heap.size + 1 ≠ w4.heap.size; omega)).trans d2'') rfl) Tryz.underlying278 rfl Tryz.sizeRef) rfl ?_
                        refine ⟨⟨a7, (trimM q).length, c7, by rw [HF.out]; rfl⟩, ?_⟩
                        exact (below3 _ _ _ (hC7.setCell (p := ⟨w4.heap.size, 1, none⟩) hz4 _) (Nat.le_succ _)).drew
                  · have hzk' : (zk == 1) = false := by simpa using hzk
                    have HF : Hid (f = ⟨tx, trimM q, false, false⟩) := Lib.hid (by rw [HF2.out]; simp [*])
                    clear HF2
                    by_cases hc6 : c6 = 1
                    · subst hc6
                      obtain rfl : q = [] := List.eq_nil_of_length_eq_zero (by omega)
                      go_wp2_with fail
                      refine (trim_any w.heap.size (.slice (some ⟨b6, o6, none⟩) 0 0) [] _ (by simp [World.setCell]; omega) (HSUB.out false 0 (Nat.le_refl _) _ (fun h => absurd h (Nat.lt_irrefl 0))) (by simp)).mono ?_
                      rintro e w7 ⟨v7, rfl, hn7, hB7⟩
                      have hz7 := hB7.size
                      rw [show (w5.setCell ⟨w4.heap.size, 2, none⟩ (.bool false)).heap.size = w5.heap.size by simp [World.setCell]] at hz7
                      have hC7 : Below w.heap.size w w7 := (hC5.setCell (p := ⟨w4.heap.size, 2, none⟩) hz4 (.bool false)).trans (hB7.mono (by simp [World.setCell]; omega))
                      have d2'' : w7.heap[w.heap.size + 1]? = some (.cells #[.string ByteArray.empty, .slice none 0 0, .bool false] 278) := by
                        rw [hB7.block _ (by simp [World.setCell]; omega), put_far _ rfl (by show w.heap.size + 1 ≠ w4.heap.size; omega)]
                        exact HD5.out.1
                      have d4' : w7.heap[w4.heap.size]? = some (.cells #[.string tx, .slice none 0 0, .bool false] 278) := by
                        rw [hB7.block _ (by simp [World.setCell]; omega)]
                        exact put_same (o := 2) (.bool false) HD5.out.2
                      have e0 : w7.cell? ⟨w.heap.size + 1, 0, none⟩ = some (.string ByteArray.empty) := by rw [Lib.cell_of_heap d2'']; rfl
                      have e1 : w7.cell? ⟨w.heap.size + 1, 1, none⟩ = some (.slice none 0 0) := by rw [Lib.cell_of_heap d2'']; rfl
                      have e2 : w7.cell? ⟨w.heap.size + 1, 2, none⟩ = some (.bool false) := by rw [Lib.cell_of_heap d2'']; rfl
                      have f0 : w7.frozen? ⟨w.heap.size + 1, 0, none⟩ = false := Lib.frozen_of_heap d2'' 0
                      have f1 : w7.frozen? ⟨w.heap.size + 1, 1, none⟩ = false := Lib.frozen_of_heap d2'' 1
                      have f2 : w7.frozen? ⟨w.heap.size + 1, 2, none⟩ = false := Lib.frozen_of_heap d2'' 2
                      have g0 : w7.cell? ⟨w4.heap.size, 0, none⟩ = some (.string tx) := by rw [Lib.cell_of_heap d4']; rfl
                      have g1 : w7.cell? ⟨w4.heap.size, 1, none⟩ = some (.slice none 0 0) := by rw [Lib.cell_of_heap d4']; rfl
                      have g2 : w7.cell? ⟨w4.heap.size, 2, none⟩ = some (.bool false) := by rw [Lib.cell_of_heap d4']; rfl
                      have gf1 : w7.frozen? ⟨w4.heap.size, 1, none⟩ = false := Lib.frozen_of_heap d4' 1
                      have hne1 : ¬ w.heap.size + 1 = w4.heap.size := by omega
                      have hne2 : ¬ w4.heap.size = w.heap.size + 1 := by omega
                      obtain ⟨a7, c7, rfl⟩ := hn7.form
                      clear hn7 hB7
                      go_wp2
                      go_region
                      go_wp2
                      refine bodyPost_ret (results_row_tmp rfl _ _ (w.heap.size + 1) 278 _ (0, 0) _ rfl (set3 _ _ _ ((put_far _ rfl (by show w.heap.size + 1 ≠ w4.heap.size; omega)).trans d2'') rfl) Tryz.underlying278 rfl Tryz.sizeRef) rfl ?_
                      refine ⟨⟨a7, (trimM ([] : List Vl)).length, c7, by rw [HF.out]; rfl⟩, ?_⟩
                      exact (below3 _ _ _ (hC7.setCell (p := ⟨w4.heap.size, 1, none⟩) hz4 _) (Nat.le_succ _)).drew
                    · go_wp2_with fail
                      refine (trim_any w.heap.size (.slice (some ⟨b6, o6 + 5, none⟩) q.length (c6 - 1)) q _ (by simp [World.setCell]; omega) (HSUB.out false (c6 - 1) (by omega) _ (fun _ => by rw [Nat.one_mul])) (by omega)).mono ?_
                      rintro e w7 ⟨v7, rfl, hn7, hB7⟩
                      have hz7 := hB7.size
                      rw [show (w5.setCell ⟨w4.heap.size, 2, none⟩ (.bool false)).heap.size = w5.heap.size by simp [World.setCell]] at hz7
                      have hC7 : Below w.heap.size w w7 := (hC5.setCell (p := ⟨w4.heap.size, 2, none⟩) hz4 (.bool false)).trans (hB7.mono (by simp [World.setCell]; omega))
                      have d2'' : w7.heap[w.heap.size + 1]? = some (.cells #[.string ByteArray.empty, .slice none 0 0, .bool false] 278) := by
                        rw [hB7.block _ (by simp [World.setCell]; omega), put_far _ rfl (by show w.heap.size + 1 ≠ w4.heap.size; omega)]
                        exact HD5.out.1
                      have d4' : w7.heap[w4.heap.size]? = some (.cells #[.string tx, .slice none 0 0, .bool false] 278) := by
                        rw [hB7.block _ (by simp [World.setCell]; omega)]
                        exact put_same (o := 2) (.bool false) HD5.out.2
                      have e0 : w7.cell? ⟨w.heap.size + 1, 0, none⟩ = some (.string ByteArray.empty) := by rw [Lib.cell_of_heap d2'']; rfl
                      have e1 : w7.cell? ⟨w.heap.size + 1, 1, none⟩ = some (.slice none 0 0) := by rw [Lib.cell_of_heap d2'']; rfl
                      have e2 : w7.cell? ⟨w.heap.size + 1, 2, none⟩ = some (.bool false) := by rw [Lib.cell_of_heap d2'']; rfl
                      have f0 : w7.frozen? ⟨w.heap.size + 1, 0, none⟩ = false := Lib.frozen_of_heap d2'' 0
                      have f1 : w7.frozen? ⟨w.heap.size + 1, 1, none⟩ = false := Lib.frozen_of_heap d2'' 1
                      have f2 : w7.frozen? ⟨w.heap.size + 1, 2, none⟩ = false := Lib.frozen_of_heap d2'' 2
                      have g0 : w7.cell? ⟨w4.heap.size, 0, none⟩ = some (.string tx) := by rw [Lib.cell_of_heap d4']; rfl
                      have g1 : w7.cell? ⟨w4.heap.size, 1, none⟩ = some (.slice none 0 0) := by rw [Lib.cell_of_heap d4']; rfl
                      have g2 : w7.cell? ⟨w4.heap.size, 2, none⟩ = some (.bool false) := by rw [Lib.cell_of_heap d4']; rfl
                      have gf1 : w7.frozen? ⟨w4.heap.size, 1, none⟩ = false := Lib.frozen_of_heap d4' 1
                      have hne1 : ¬ w.heap.size + 1 = w4.heap.size := by omega
                      have hne2 : ¬ w4.heap.size = w.heap.size + 1 := by omega
                      obtain ⟨a7, c7, rfl⟩ := hn7.form
                      clear hn7 hB7
                      go_wp2
                      go_region
                      go_wp2
                      refine bodyPost_ret (results_row_tmp rfl _ _ (w.heap.size + 1) 278 _ (0, 0) _ rfl (set3 _ _ _ ((put_far _ rfl (by show w.heap.size + 1 ≠ w4.heap.size; omega)).trans d2'') rfl) Tryz.underlying278 rfl Tryz.sizeRef) rfl ?_
                      refine ⟨⟨a7, (trimM q).length, c7, by rw [HF.out]; rfl⟩, ?_⟩
                      exact (below3 _ _ _ (hC7.setCell (p := ⟨w4.heap.size, 1, none⟩) hz4 _) (Nat.le_succ _)).drew
        · have HF : Hid (f = ⟨ByteArray.empty, [], false, false⟩) := Lib.hid (by rw [HY.out, if_neg (fun h => ht h.2.1)])
          clear HY HSUB
          go_wp2
          refine bodyPost_ret (results_row_tmp rfl _ _ (w.heap.size + 1) 278 _ (0, 0) _ rfl (set3 _ _ _ d2 rfl) Tryz.underlying278 rfl Tryz.sizeRef) rfl ?_
          refine ⟨⟨none, 0, 0, by rw [HF.out]; rfl⟩, below3 _ _ _ hC3 (Nat.le_succ _)⟩
      · have HF : Hid (f = ⟨ByteArray.empty, [], false, false⟩) := Lib.hid (by rw [HY.out, if_neg (fun h => hk h.1)])
        clear HY HSUB
        go_wp2
        refine bodyPost_ret (results_row_tmp rfl _ _ (w.heap.size + 1) 278 _ (0, 0) _ rfl (set3 _ _ _ d2 rfl) Tryz.underlying278 rfl Tryz.sizeRef) rfl ?_
        refine ⟨⟨none, 0, 0, by rw [HF.out]; rfl⟩, below3 _ _ _ hC3 (Nat.le_succ _)⟩
end Go.Proofs.YtlnaihkombcbcaaGreat
