/-
  Selectors that come in: opened.
-/
import Derived.Test.YtlnaihkombcbcaaGreatQData
import Derived.ProofKit
namespace Go.Proofs.YtlnaihkombcbcaaGreat
open Go.ChangeShapes Go.WideShapes Go.RowKit Go.Ev
theorem c_simp : Tryz.prog.cellsOf 239 = 6 := by kernel_rfl
theorem c_simps : Tryz.prog.cellsOf 178 = 1 := by kernel_rfl
theorem c_part : Tryz.prog.cellsOf 180 = 2 := by kernel_rfl
theorem c_parts : Tryz.prog.cellsOf 88 = 1 := by kernel_rfl
theorem c_cx : Tryz.prog.cellsOf 90 = 2 := by kernel_rfl
theorem b_part : Tryz.prog.bytesOf 180 = 32 := by kernel_rfl
theorem c_int : Tryz.prog.cellsOf 3 = 1 := by kernel_rfl
theorem c_str : Tryz.prog.cellsOf 9 = 1 := by kernel_rfl
section
variable {H : Type} {enc : TypeId × Value → H} {W : World} {sp : Nat → Bool} {held : Bool}
/-- a field of a struct that can be read -/
theorem field_of {t : TypeId} {fs : Array Field} (ht : Tryz.prog.underlying t = some (.struct fs)) {fuel : Nat} {cs : List Value} {x : DataW H × List MemPlace} (h : DataW.trod enc Tryz.prog W 0 sp held fuel t cs = some x) :
    cs.length = Tryz.prog.cellsOf t ∧ ∃ n, fuel = n + 1 ∧ ∀ (i : Nat) (f : Field), fs[i]? = some f → ∃ y, DataW.trod enc Tryz.prog W 0 sp held n f.type ((cs.drop f.offset).take (Tryz.prog.cellsOf f.type)) = some y ∧ (Fits Tryz.prog t x.1 → Fits Tryz.prog f.type y.1) := by
  obtain ⟨xs, n, hf, rfl, hl, hlen, hfi⟩ := DataW.trod_struct ht h
  refine ⟨hl, n, hf, fun i f hi => ?_⟩
  have hlt : i < xs.length := by rw [hlen]; exact (Array.getElem?_eq_some_iff.1 hi).1
  refine ⟨xs[i], by rw [hfi i f hi, List.getElem?_eq_getElem hlt], fun hfit z hz => hfit z ?_⟩
  rw [DataW.weights, ht]
  exact mem_weightsEach (i := i) (by rw [List.getElem?_map, Array.getElem?_toList, hi]; rfl) (by rw [List.getElem?_map, List.getElem?_eq_getElem hlt]; rfl) z hz
theorem at_int {k : IntKind} {n : Int} : At W (.g (.int k n)) (.int k n) := rfl
set_option maxRecDepth 100000 in
theorem open_simp : ∀ (fuel : Nat) (cs : List Value) (x : DataW H × List MemPlace), DataW.trod enc Tryz.prog W 0 sp held fuel 239 cs = some x → Fits Tryz.prog 239 x.1 → ∃ a : Simp, Ats W (encS a) cs ∧ True := by
  intro fuel
  induction fuel using Nat.strongRecOn with
  | ind fuel ih =>
    intro cs x h hfit
    obtain ⟨hl, n, rfl, hf⟩ := field_of Tryz.underlying239 h
    rw [c_simp] at hl
    obtain ⟨c0, c1, c2, c3, c4, c5, rfl⟩ : ∃ c0 c1 c2 c3 c4 c5, cs = [c0, c1, c2, c3, c4, c5] := by
      match cs, hl with
      | [a, b, c, d, e, f], _ => exact ⟨a, b, c, d, e, f, rfl⟩
    obtain ⟨y0, h0, f0⟩ : ∃ y, DataW.trod enc Tryz.prog W 0 sp held n 3 ((List.drop 0 [c0, c1, c2, c3, c4, c5]).take (Tryz.prog.cellsOf 3)) = some y ∧ (Fits Tryz.prog 239 x.1 → Fits Tryz.prog 3 y.1) := hf 0 _ rfl
    obtain ⟨y1, h1, f1⟩ : ∃ y, DataW.trod enc Tryz.prog W 0 sp held n 9 ((List.drop 1 [c0, c1, c2, c3, c4, c5]).take (Tryz.prog.cellsOf 9)) = some y ∧ (Fits Tryz.prog 239 x.1 → Fits Tryz.prog 9 y.1) := hf 1 _ rfl
    obtain ⟨y2, h2, f2⟩ : ∃ y, DataW.trod enc Tryz.prog W 0 sp held n 9 ((List.drop 2 [c0, c1, c2, c3, c4, c5]).take (Tryz.prog.cellsOf 9)) = some y ∧ (Fits Tryz.prog 239 x.1 → Fits Tryz.prog 9 y.1) := hf 2 _ rfl
    obtain ⟨y3, h3, f3⟩ : ∃ y, DataW.trod enc Tryz.prog W 0 sp held n 3 ((List.drop 3 [c0, c1, c2, c3, c4, c5]).take (Tryz.prog.cellsOf 3)) = some y ∧ (Fits Tryz.prog 239 x.1 → Fits Tryz.prog 3 y.1) := hf 3 _ rfl
    obtain ⟨y4, h4, f4⟩ : ∃ y, DataW.trod enc Tryz.prog W 0 sp held n 3 ((List.drop 4 [c0, c1, c2, c3, c4, c5]).take (Tryz.prog.cellsOf 3)) = some y ∧ (Fits Tryz.prog 239 x.1 → Fits Tryz.prog 3 y.1) := hf 4 _ rfl
    obtain ⟨y5, h5, f5⟩ : ∃ y, DataW.trod enc Tryz.prog W 0 sp held n 178 ((List.drop 5 [c0, c1, c2, c3, c4, c5]).take (Tryz.prog.cellsOf 178)) = some y ∧ (Fits Tryz.prog 239 x.1 → Fits Tryz.prog 178 y.1) := hf 5 _ rfl
    simp only [c_int, c_str, c_simps, List.drop, List.take] at h0 h1 h2 h3 h4 h5
    obtain ⟨k, e0, -⟩ := DataW.trod_int Tryz.underlying3 h0
    obtain ⟨nm, e1, -⟩ := DataW.trod_string Tryz.underlying9 h1
    obtain ⟨vl, e2, -⟩ := DataW.trod_string Tryz.underlying9 h2
    obtain ⟨a, e3, -⟩ := DataW.trod_int Tryz.underlying3 h3
    obtain ⟨b, e4, -⟩ := DataW.trod_int Tryz.underlying3 h4
    obtain ⟨l, v, e5, hv, -, -⟩ := open_sl (fun _ => True) encS 6 encS_len (by decide) Tryz.underlying178 c_simp (fun m hm => ih m (by omega)) h5 (f5 hfit)
    simp only [List.cons.injEq, and_true] at e0 e1 e2 e3 e4 e5
    subst e0 e1 e2 e3 e4 e5
    refine ⟨.mk k nm vl a b l, ?_, trivial⟩
    rw [encS, encSs_flat]
    exact VRs.cons_mk rfl (VRs.cons_mk rfl (VRs.cons_mk rfl (VRs.cons_mk rfl (VRs.cons_mk rfl (VRs.cons_mk hv (by rw [VRs]))))))
set_option maxRecDepth 100000 in
theorem open_part (fuel : Nat) (cs : List Value) (x : DataW H × List MemPlace) (h : DataW.trod enc Tryz.prog W 0 sp held fuel 180 cs = some x) (hfit : Fits Tryz.prog 180 x.1) : ∃ a : Part, Ats W (encP a) cs ∧ True := by
  obtain ⟨hl, n, rfl, hf⟩ := field_of Tryz.underlying180 h
  rw [c_part] at hl
  obtain ⟨c0, c1, rfl⟩ : ∃ c0 c1, cs = [c0, c1] := by
    match cs, hl with
    | [a, b], _ => exact ⟨a, b, rfl⟩
  obtain ⟨y0, h0, f0⟩ : ∃ y, DataW.trod enc Tryz.prog W 0 sp held n 3 ((List.drop 0 [c0, c1]).take (Tryz.prog.cellsOf 3)) = some y ∧ (Fits Tryz.prog 180 x.1 → Fits Tryz.prog 3 y.1) := hf 0 _ rfl
  obtain ⟨y1, h1, f1⟩ : ∃ y, DataW.trod enc Tryz.prog W 0 sp held n 178 ((List.drop 1 [c0, c1]).take (Tryz.prog.cellsOf 178)) = some y ∧ (Fits Tryz.prog 180 x.1 → Fits Tryz.prog 178 y.1) := hf 1 _ rfl
  simp only [c_int, c_simps, List.drop, List.take] at h0 h1
  obtain ⟨k, e0, -⟩ := DataW.trod_int Tryz.underlying3 h0
  obtain ⟨l, v, e1, hv, -, -⟩ := open_sl (fun _ => True) encS 6 encS_len (by decide) Tryz.underlying178 c_simp (fun m _ => open_simp m) h1 (f1 hfit)
  simp only [List.cons.injEq, and_true] at e0 e1
  subst e0 e1
  exact ⟨⟨k, l⟩, VRs.cons_mk rfl (VRs.cons_mk hv (by rw [VRs])), trivial⟩
set_option maxRecDepth 100000 in
theorem open_cx (fuel : Nat) (cs : List Value) (x : DataW H × List MemPlace) (h : DataW.trod enc Tryz.prog W 0 sp held fuel 90 cs = some x) (hfit : Fits Tryz.prog 90 x.1) : ∃ a : Cx, Ats W (encC a) cs ∧ a.parts.length ≤ reachBytes := by
  obtain ⟨hl, n, rfl, hf⟩ := field_of Tryz.underlying90 h
  rw [c_cx] at hl
  obtain ⟨c0, c1, rfl⟩ : ∃ c0 c1, cs = [c0, c1] := by
    match cs, hl with
    | [a, b], _ => exact ⟨a, b, rfl⟩
  obtain ⟨y0, h0, f0⟩ : ∃ y, DataW.trod enc Tryz.prog W 0 sp held n 88 ((List.drop 0 [c0, c1]).take (Tryz.prog.cellsOf 88)) = some y ∧ (Fits Tryz.prog 90 x.1 → Fits Tryz.prog 88 y.1) := hf 0 _ rfl
  obtain ⟨y1, h1, f1⟩ : ∃ y, DataW.trod enc Tryz.prog W 0 sp held n 9 ((List.drop 1 [c0, c1]).take (Tryz.prog.cellsOf 9)) = some y ∧ (Fits Tryz.prog 90 x.1 → Fits Tryz.prog 9 y.1) := hf 1 _ rfl
  simp only [c_str, c_parts, List.drop, List.take] at h0 h1
  obtain ⟨l, v, e0, hv, -, hb⟩ := open_sl (fun _ => True) encP 2 (fun _ => rfl) (by decide) Tryz.underlying88 c_part (fun m _ => open_part m) h0 (f0 hfit)
  obtain ⟨s, e1, -⟩ := DataW.trod_string Tryz.underlying9 h1
  simp only [List.cons.injEq, and_true] at e0 e1
  subst e0 e1
  rw [b_part] at hb
  exact ⟨⟨l, s⟩, VRs.cons_mk hv (VRs.cons_mk rfl (by rw [VRs])), by show l.length ≤ _; omega⟩
set_option maxRecDepth 1000000 in
/-- a list of selectors that comes in -/
theorem open_cxs {base : Nat} {v : Value} {d : DataW H} {ps : List MemPlace} (hval : Value.okWide Tryz.prog W .any base 50 v) (h : DataW.Trod enc Tryz.prog W 0 sp held 50 v d ps) (hfit : Fits Tryz.prog 50 d) :
    ∃ l : List Cx, At W (.sl l.length 2 (l.flatMap encC)) v ∧ ∀ c ∈ l, c.parts.length ≤ reachBytes := by
  obtain ⟨fuel, hv⟩ := h
  obtain ⟨a, n, c, rfl⟩ := okWide_slice Tryz.underlying50 hval
  obtain ⟨l, v, e, hl, hg, -⟩ := open_sl (fun c : Cx => c.parts.length ≤ reachBytes) encC 2 (fun _ => rfl) (by decide) Tryz.underlying50 c_cx (fun m _ => open_cx m) hv hfit
  simp only [Value.cells, List.cons.injEq, and_true] at e
  subst e
  exact ⟨l, hl, hg⟩
end
end Go.Proofs.YtlnaihkombcbcaaGreat
