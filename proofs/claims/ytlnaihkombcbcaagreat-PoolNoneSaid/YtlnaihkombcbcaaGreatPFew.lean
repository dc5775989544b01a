/-
  Values of style sheets as they lie in memory.
  R2.few, R2.Small: what they bound.
-/
import Derived.Test.YtlnaihkombcbcaaGreatQOpen
import Derived.Test.YtlnaihkombcbcaaGreatQCount
noncomputable section
namespace Go.Proofs.YtlnaihkombcbcaaGreat
open Go.ChangeShapes Go.WideShapes Go.RowKit Go.Ev
inductive Vl where
  | mk (kind tk : Int) (text : ByteArray) (n : Int) (l : List Vl)
namespace Vl
def kind : Vl → Int | .mk k _ _ _ _ => k
def tk : Vl → Int | .mk _ k _ _ _ => k
def text : Vl → ByteArray | .mk _ _ t _ _ => t
def n : Vl → Int | .mk _ _ _ n _ => n
def l : Vl → List Vl | .mk _ _ _ _ l => l
end Vl
mutual
def encV : Vl → List AV
  | .mk k t s n l => [.g (.int .i64 k), .g (.int .i64 t), .g (.string s), .g (.int .i64 n), .sl l.length 5 (encVs l)]
def encVs : List Vl → List AV
  | [] => []
  | x :: xs => encV x ++ encVs xs
end
theorem encVs_flat : ∀ l : List Vl, encVs l = l.flatMap encV
  | [] => by rw [encVs]; rfl
  | x :: xs => by rw [encVs, encVs_flat xs, List.flatMap_cons]
theorem encV_len (x : Vl) : (encV x).length = 5 := by cases x; rw [encV]; rfl
theorem vl_lt {l : List Vl} {x : Vl} (h : x ∈ l) : SizeOf.sizeOf x.l < SizeOf.sizeOf l := by
  have h1 := List.sizeOf_lt_of_mem h
  cases x
  simp [Vl.l] at h1 ⊢
  omega
/-- the cells of a list's k-th value -/
theorem vl_cells {w : World} {b o : Nat} {l : List Vl} (h : ∀ k (hk : k < l.length) j a, (encV l[k])[j]? = some a → ∃ x, w.cell? ⟨b, o + (k * 5 + j), none⟩ = some x ∧ At w a x) {k : Nat} (hk : k < l.length) :
    w.cell? ⟨b, o + k * 5, none⟩ = some (.int .i64 l[k].kind) ∧ w.cell? ⟨b, o + k * 5 + 1, none⟩ = some (.int .i64 l[k].tk) ∧ w.cell? ⟨b, o + k * 5 + 2, none⟩ = some (.string l[k].text) ∧
      w.cell? ⟨b, o + k * 5 + 3, none⟩ = some (.int .i64 l[k].n) ∧
      ∃ ad cap, w.cell? ⟨b, o + k * 5 + 4, none⟩ = some (.slice ad l[k].l.length cap) ∧ At w (.sl l[k].l.length 5 (l[k].l.flatMap encV)) (.slice ad l[k].l.length cap) := by
  have h9 := h k hk
  generalize l[k] = x at *
  obtain ⟨kd, tk, tx, n, ll⟩ := x
  rw [encV, encVs_flat] at h9
  obtain ⟨x0, e0, v0⟩ := h9 0 _ rfl
  obtain ⟨x1, e1, v1⟩ := h9 1 _ rfl
  obtain ⟨x2, e2, v2⟩ := h9 2 _ rfl
  obtain ⟨x3, e3, v3⟩ := h9 3 _ rfl
  obtain ⟨x4, e4, v4⟩ := h9 4 _ rfl
  obtain rfl : x0 = _ := v0
  obtain rfl : x1 = _ := v1
  obtain rfl : x2 = _ := v2
  obtain rfl : x3 = _ := v3
  have v4' := v4
  obtain ⟨ad, cap, rfl, -⟩ := At.sl_form v4
  simp only [Nat.add_zero, ← Nat.add_assoc] at e0 e1 e2 e3 e4
  exact ⟨e0, e1, e2, e3, ad, cap, e4, v4'⟩
theorem c_val : Tryz.prog.cellsOf 67 = 5 := by kernel_rfl
theorem c_vals : Tryz.prog.cellsOf 27 = 1 := by kernel_rfl
theorem c_tok : Tryz.prog.cellsOf 65 = 3 := by kernel_rfl
section
variable {H : Type} {enc : TypeId × Value → H} {W : World} {sp : Nat → Bool} {held : Bool}
set_option maxRecDepth 100000 in
theorem open_tok : ∀ (fuel : Nat) (cs : List Value) (x : DataW H × List MemPlace), DataW.trod enc Tryz.prog W 0 sp held fuel 65 cs = some x → ∃ k s n, cs = [.int .i64 k, .string s, .int .i64 n] := by
  intro fuel cs x h
  obtain ⟨hl, n, rfl, hf⟩ := field_of Tryz.underlying65 h
  rw [c_tok] at hl
  obtain ⟨c0, c1, c2, rfl⟩ : ∃ c0 c1 c2, cs = [c0, c1, c2] := by
    match cs, hl with
    | [a, b, c], _ => exact ⟨a, b, c, rfl⟩
  obtain ⟨y0, h0, -⟩ : ∃ y, DataW.trod enc Tryz.prog W 0 sp held n 3 ((List.drop 0 [c0, c1, c2]).take (Tryz.prog.cellsOf 3)) = some y ∧ (Fits Tryz.prog 65 x.1 → Fits Tryz.prog 3 y.1) := hf 0 _ rfl
  obtain ⟨y1, h1, -⟩ : ∃ y, DataW.trod enc Tryz.prog W 0 sp held n 9 ((List.drop 1 [c0, c1, c2]).take (Tryz.prog.cellsOf 9)) = some y ∧ (Fits Tryz.prog 65 x.1 → Fits Tryz.prog 9 y.1) := hf 1 _ rfl
  obtain ⟨y2, h2, -⟩ : ∃ y, DataW.trod enc Tryz.prog W 0 sp held n 3 ((List.drop 2 [c0, c1, c2]).take (Tryz.prog.cellsOf 3)) = some y ∧ (Fits Tryz.prog 65 x.1 → Fits Tryz.prog 3 y.1) := hf 2 _ rfl
  simp only [c_int, c_str, List.drop, List.take] at h0 h1 h2
  obtain ⟨k, e0, -⟩ := DataW.trod_int Tryz.underlying3 h0
  obtain ⟨s, e1, -⟩ := DataW.trod_string Tryz.underlying9 h1
  obtain ⟨m, e2, -⟩ := DataW.trod_int Tryz.underlying3 h2
  simp only [List.cons.injEq, and_true] at e0 e1 e2
  subst e0 e1 e2
  exact ⟨k, s, m, rfl⟩
set_option maxRecDepth 100000 in
theorem open_val : ∀ (fuel : Nat) (cs : List Value) (x : DataW H × List MemPlace), DataW.trod enc Tryz.prog W 0 sp held fuel 67 cs = some x → Fits Tryz.prog 67 x.1 → ∃ a : Vl, Ats W (encV a) cs ∧ True := by
  intro fuel
  induction fuel using Nat.strongRecOn with
  | ind fuel ih =>
    intro cs x h hfit
    obtain ⟨hl, n, rfl, hf⟩ := field_of Tryz.underlying67 h
    rw [c_val] at hl
    obtain ⟨c0, c1, c2, c3, c4, rfl⟩ : ∃ c0 c1 c2 c3 c4, cs = [c0, c1, c2, c3, c4] := by
      match cs, hl with
      | [a, b, c, d, e], _ => exact ⟨a, b, c, d, e, rfl⟩
    obtain ⟨y0, h0, -⟩ : ∃ y, DataW.trod enc Tryz.prog W 0 sp held n 3 ((List.drop 0 [c0, c1, c2, c3, c4]).take (Tryz.prog.cellsOf 3)) = some y ∧ (Fits Tryz.prog 67 x.1 → Fits Tryz.prog 3 y.1) := hf 0 _ rfl
    obtain ⟨y1, h1, -⟩ : ∃ y, DataW.trod enc Tryz.prog W 0 sp held n 65 ((List.drop 1 [c0, c1, c2, c3, c4]).take (Tryz.prog.cellsOf 65)) = some y ∧ (Fits Tryz.prog 67 x.1 → Fits Tryz.prog 65 y.1) := hf 1 _ rfl
    obtain ⟨y2, h2, f2⟩ : ∃ y, DataW.trod enc Tryz.prog W 0 sp held n 27 ((List.drop 4 [c0, c1, c2, c3, c4]).take (Tryz.prog.cellsOf 27)) = some y ∧ (Fits Tryz.prog 67 x.1 → Fits Tryz.prog 27 y.1) := hf 2 _ rfl
    simp only [c_int, c_tok, c_vals, List.drop, List.take] at h0 h1 h2
    obtain ⟨k, e0, -⟩ := DataW.trod_int Tryz.underlying3 h0
    obtain ⟨tk, s, m, e1⟩ := open_tok _ _ _ h1
    obtain ⟨l, v, e5, hv, -, -⟩ := open_sl (fun _ => True) encV 5 encV_len (by decide) Tryz.underlying27 c_val (fun m hm => ih m (by omega)) h2 (f2 hfit)
    simp only [List.cons.injEq, and_true] at e0 e1 e5
    obtain ⟨r1, r2, r3⟩ := e1
    subst e0 r1 r2 r3 e5
    refine ⟨.mk k tk s m l, ?_, trivial⟩
    rw [encV, encVs_flat]
    exact VRs.cons_mk rfl (VRs.cons_mk rfl (VRs.cons_mk rfl (VRs.cons_mk rfl (VRs.cons_mk hv (by rw [VRs])))))
set_option maxRecDepth 1000000 in
/-- values that come in -/
theorem open_vals {base : Nat} {v : Value} {d : DataW H} {ps : List MemPlace} (hval : Value.okWide Tryz.prog W .any base 27 v) (h : DataW.Trod enc Tryz.prog W 0 sp held 27 v d ps) (hfit : Fits Tryz.prog 27 d) :
    ∃ l : List Vl, At W (.sl l.length 5 (l.flatMap encV)) v := by
  obtain ⟨fuel, hv⟩ := h
  obtain ⟨a, n, c, rfl⟩ := okWide_slice Tryz.underlying27 hval
  obtain ⟨l, v, e, hl, -, -⟩ := open_sl (fun _ => True) encV 5 encV_len (by decide) Tryz.underlying27 c_val (fun m _ => open_val m) hv hfit
  simp only [Value.cells, List.cons.injEq, and_true] at e
  subst e
  exact ⟨l, hl⟩
end
end Go.Proofs.YtlnaihkombcbcaaGreat
end
namespace Go.Proofs.YtlnaihkombcbcaaGreat
open Go.RowKit Go.Ev
mutual
def cntV : Vl → Nat
  | .mk _ _ _ _ l => 1 + cntVs l
def cntVs : List Vl → Nat
  | [] => 0
  | x :: xs => cntV x + cntVs xs
end
theorem cntV_eq (x : Vl) : cntV x = 1 + cntVs x.l := by cases x; rw [cntV]; rfl
theorem cntVs_append : ∀ (a b : List Vl), cntVs (a ++ b) = cntVs a + cntVs b
  | [], b => by simp [cntVs]
  | x :: a, b => by simp only [List.cons_append, cntVs, cntVs_append a b]; omega
theorem cntVs_len : ∀ (a : List Vl), a.length ≤ cntVs a
  | [] => by simp [cntVs]
  | x :: a => by
    have := cntVs_len a
    simp only [List.length_cons, cntVs, cntV_eq]
    omega
theorem cntVs_snoc {l : List Vl} {k : Nat} (hk : k < l.length) : cntVs (l.take (k + 1)) = cntVs (l.take k) + 1 + cntVs l[k].l := by
  rw [List.take_succ_eq_append_getElem hk, cntVs_append]
  simp only [cntVs, cntV_eq]
  omega
/-- what R2.few tells -/
def FewPost (l : List Vl) (left : Int) (w : World) (e : Ending) (w' : World) : Prop :=
  ∃ r : Int, e = .returned (.int .i64 r) ∧ -1 ≤ r ∧ r ≤ left ∧ Hid (0 ≤ r → (cntVs l : Int) + r ≤ left) ∧ Below w.heap.size w w'
set_option maxHeartbeats 4000000 in
theorem few2_any (N : Nat) : ∀ (l : List Vl), SizeOf.sizeOf l ≤ N → ∀ (v : Value) (left deep : Int) (w : World), At w (.sl l.length 5 (l.flatMap encV)) v → 0 ≤ left → left ≤ 1000 → -1000 ≤ deep → deep ≤ 1000 →
    Calls Tryz.prog 73 #[v, .int .i64 left, .int .i64 deep] w (FewPost l left w) := by
  induction N with
  | zero => intro l hl; cases l <;> simp at hl <;> omega
  | succ N ih =>
    intro l hl v left deep w hv h0 h1 h2 h3
    by_cases hd : deep < 1
    · obtain ⟨ad, cap, rfl, -⟩ := At.sl_form hv
      clear ih
      go_enter Tryz.func73, Tryz.ntmps73
      go_wp2
      go_ret
      exact ⟨-1, rfl, by omega, by omega, Lib.hid fun h => by omega, Below.refl _ _⟩
    rcases sl_cells encV 5 encV_len hv with ⟨rfl, ad, cap, rfl⟩ | ⟨b, o, cap, rfl, hcap, hpos, hc⟩
    · go_enter Tryz.func73, Tryz.ntmps73
      go_wp2
      go_loopw [1, 7] (fun v1 i wr => i = .int .i64 0 ∧ v1 = .int .i64 left ∧ wr = w) (fun _ _ _ => 0)
      case atStart => exact ⟨rfl, rfl, rfl⟩
      case round =>
        obtain ⟨rfl, rfl, rfl⟩ := hrel
        go_wp2
        go_ret
        exact ⟨left, rfl, by omega, Int.le_refl _, Lib.hid fun _ => by simp [cntVs], Below.refl _ _⟩
    · have IH := Lib.hid fun k (hk : k < l.length) => ih l[k].l (by have := vl_lt (List.getElem_mem hk); omega)
      have HC := Lib.hid fun k (hk : k < l.length) => vl_cells hc hk
      have HS := Lib.hid fun k (hk : k < l.length) => cntVs_snoc hk
      have hlen := cntVs_len
      have HL := Lib.hid hlen
      clear ih hc hl hv hlen
      go_enter Tryz.func73, Tryz.ntmps73
      go_wp2
      go_loopw [1, 7] (fun v1 i wr => ∃ (k : Nat) (m : Int), k ≤ l.length ∧ (k : Int) ≤ left + 1 ∧ i = .int .i64 k ∧ v1 = .int .i64 m ∧ -1 ≤ m ∧ m ≤ left ∧ Hid (0 ≤ m → (cntVs (l.take k) : Int) + m ≤ left) ∧ Below w.heap.size w wr) (fun _ i _ => l.length - (intOf i).toNat)
      case atStart => exact ⟨0, left, Nat.zero_le _, by omega, rfl, rfl, by omega, Int.le_refl _, Lib.hid fun _ => by simp [cntVs], Below.refl _ _⟩
      case round =>
        obtain ⟨k, m, hk, hkl, rfl, rfl, hm1, hm2, hh, hB⟩ := hrel
        by_cases hlt : k < l.length
        · by_cases hm : 0 ≤ m
          · have hkm : (k : Int) + m ≤ left := by
              have g1 := hh.out hm
              have g2 := HL.out (l.take k)
              rw [List.length_take] at g2
              omega
            obtain ⟨-, -, c2, -, ad, cp, c4, ha⟩ := HC.out k hlt
            have c2' := cell_up c2 hB
            have c4' := cell_up c4 hB
            have HREC := Lib.hid fun hm9 : 0 ≤ m - 1 => IH.out k hlt _ (m - 1) (deep - 1) wr (ha.below hB) hm9 (by omega) (by omega) (by omega)
            have HSN := HS.out k hlt
            have HN := Lib.hid (HL.out l[k].l)
            have hcn0 : l[k].l.length = 0 → cntVs l[k].l = 0 := by
              intro h9
              rw [List.eq_nil_of_length_eq_zero h9]; simp [cntVs]
            have HN0 := Lib.hid hcn0
            clear c2 c4 ha hcn0
            generalize l[k].text = tx at *
            generalize l[k].l = ll at *
            by_cases hn1 : tx.size ≤ 100
            · by_cases hm9 : 0 ≤ m - 1
              · by_cases hll : 0 < ll.length
                · go_wp2_with fail
                  refine (HREC.out hm9).mono ?_
                  rintro e w2 ⟨r, rfl, hr1, hr2, hr3, hB2⟩
                  go_wp2
                  go_roundw
                  case rel =>
                    refine ⟨k + 1, r, by omega, by push_cast; omega, by go_num, rfl, hr1, by omega, Lib.hid fun hr => ?_, bup hB hB2⟩
                    have g1 := hh.out hm
                    have g2 := hr3.out hr
                    rw [HSN]
                    push_cast
                    omega
                  case measure => simp [intOf]; omega
                · have g3 := HN0.out (by omega)
                  go_wp2
                  go_roundw
                  case rel =>
                    refine ⟨k + 1, m - 1, by omega, by push_cast; omega, by go_num, by go_num, by omega, by omega, Lib.hid fun hr => ?_, hB⟩
                    have g1 := hh.out hm
                    rw [HSN, g3]
                    push_cast
                    omega
                  case measure => simp [intOf]; omega
              · go_wp2
                go_roundw
                case rel =>
                  refine ⟨k + 1, m - 1, by omega, by push_cast; omega, by go_num, by go_num, by omega, by omega, Lib.hid fun hr => by omega, hB⟩
                case measure => simp [intOf]; omega
            · go_wp2
              go_ret
              exact ⟨-1, rfl, by omega, by omega, Lib.hid fun h => by omega, hB⟩
          · go_wp2
            go_ret
            exact ⟨m, rfl, hm1, hm2, Lib.hid fun h => by omega, hB⟩
        · obtain rfl : k = l.length := by omega
          have hh' := hh.out
          rw [List.take_length] at hh'
          have HH := Lib.hid hh'
          clear hh' hh
          go_wp2
          go_ret
          exact ⟨m, rfl, hm1, hm2, HH, hB⟩
/-- what R2.Small tells -/
def Small2Post (l : List Vl) (most : Int) (w : World) (e : Ending) (w' : World) : Prop := ∃ b : Bool, e = .returned (.bool b) ∧ Hid (b = true → (cntVs l : Int) ≤ most) ∧ Below w.heap.size w w'
theorem small2_any (l : List Vl) (v : Value) (most : Int) (w : World) (hv : At w (.sl l.length 5 (l.flatMap encV)) v) (h0 : 0 ≤ most) (h1 : most ≤ 1000) :
    Calls Tryz.prog 25 #[v, .int .i64 most] w (Small2Post l most w) := by
  have H := Lib.hid (few2_any _ l (Nat.le_refl _) v most 100 w hv h0 h1 (by omega) (by omega))
  obtain ⟨ad, cap, rfl, -⟩ := At.sl_form hv
  clear hv
  go_enter Tryz.func25, Tryz.ntmps25
  go_wp2_with fail
  refine H.out.mono ?_
  rintro e w2 ⟨r, rfl, hr1, hr2, hr3, hB⟩
  by_cases hr : 0 ≤ r
  · go_wp2
    go_ret
    exact ⟨true, by simp, Lib.hid fun _ => by have := hr3.out hr; omega, hB⟩
  · go_wp2
    go_ret
    exact ⟨false, by simp; omega, Lib.hid (fun h => Bool.noConfusion h), hB⟩
end Go.Proofs.YtlnaihkombcbcaaGreat
