/-
  A config that comes in: opened; what its bulk bounds.
-/
import Derived.Test.YtfpegmeppgdklaaDoorCfg
import Derived.Test.YtfpegmeppgdklaaDoorRows
import Derived.SliceStrings
import Derived.ChangeSame
import Derived.Carry
import Derived.ProofKit
import Derived.RowKit
namespace Go.Proofs.YtfpegmeppgdklaaDoor
open Go.ChangeShapes Go.WideShapes Go.ChangeAt Go.RowKit
theorem cellsCfg : Tryd.prog.cellsOf 26 = 3 := by kernel_rfl
theorem cellsSafe : Tryd.prog.cellsOf 24 = 2 := by kernel_rfl
theorem cellsStrs : Tryd.prog.cellsOf 22 = 1 := by kernel_rfl
theorem cellsStr : Tryd.prog.cellsOf 9 = 1 := by kernel_rfl
theorem cellsBool : Tryd.prog.cellsOf 4 = 1 := by kernel_rfl
theorem bulk_one {H : Type} (d : DataW H) : 1 ≤ Rows.uptoBulk d := by
  cases d with
  | lit l => cases l <;> simp [Rows.uptoBulk]
  | nil => simp [Rows.uptoBulk]
  | ptr d => simp [Rows.uptoBulk]
  | slice elems spare => simp [Rows.uptoBulk]
  | agg parts => simp [Rows.uptoBulk]
  | iface t d => simp [Rows.uptoBulk]
  | map entries => simp [Rows.uptoBulk]
  | held h => simp [Rows.uptoBulk]
theorem bulk_len {H : Type} (l : List (DataW H)) : l.length ≤ Rows.uptoBulkAll l := by
  induction l with
  | nil => simp [Rows.uptoBulkAll]
  | cons x r ih => have := bulk_one x; simp only [Rows.uptoBulkAll, List.length_cons]; omega
section
variable {H : Type} {enc : TypeId × Value → H} {W : World}
/-- a slice of strings that comes in -/
theorem open_sat {fuel : Nat} {cs : List Value} {x : DataW H × List MemPlace} (h : DataW.trod enc Tryd.prog W 0 (fun _ => true) true fuel 22 cs = some x) :
    ∃ v ss, cs = [v] ∧ SAt W v ss ∧ (v = .slice none 0 0 ∨ ∃ a n c, v = .slice (some a) n c) ∧ ss.length ≤ Rows.uptoBulk x.1 := by
  rcases open_strings Tryd.underlying22 Tryd.underlying9 cellsStr h with ⟨rfl, rfl⟩ | ⟨a, len, cap, ss, rfl, -, hl, -, hz, rfl, hcell, -⟩
  · exact ⟨_, [], rfl, .inl ⟨rfl, _, _, rfl⟩, .inl rfl, by simp⟩
  · have hz' : ss.length = cap := by simpa using hz
    have e : ((ss.take len).map (fun s => s.data.toList)).map bs = ss.take len := by
      rw [List.map_map]; exact List.map_id _
    refine ⟨_, (ss.take len).map (fun s => s.data.toList), rfl, ?_, .inr ⟨_, _, _, rfl⟩, ?_⟩
    · by_cases h0 : len = 0
      · subst h0
        exact .inl ⟨by simp, _, _, rfl⟩
      · have hsp : a = ⟨a.block, a.off, none⟩ := by
          have := hcell 0 (by omega)
          obtain ⟨b, o, sp⟩ := a
          cases sp with
          | none => rfl
          | some _ =>
            exfalso
            revert this
            simp only [Addr.add, World.cell?]
            split <;> simp
        refine .inr ⟨a.block, a.off, cap, ?_, ?_, ?_, ?_⟩
        · rw [← hsp]; simp; omega
        · simp; omega
        · simp; omega
        · intro j hj
          simp at hj
          have := hcell j (by omega)
          rw [hsp] at this
          simp only [e]
          rw [show (⟨a.block, a.off + j, none⟩ : Addr) = (⟨a.block, a.off, none⟩ : Addr).add j from by simp [Addr.add], this]
          congr 2
          rw [List.getD_eq_getElem?_getD, List.getElem_take, List.getElem?_eq_getElem (by omega)]
          rfl
    · have h1 := bulk_len (strs (ss.take len) : List (DataW H))
      simp only [Rows.uptoBulk, strs, List.length_map] at h1 ⊢
      omega
set_option maxRecDepth 1000000 in
/-- a config that comes in -/
theorem open_cfg {base : Nat} {v : Value} {d : DataW H} {ps : List MemPlace} (hval : Value.okWide Tryd.prog W .any base 26 v) (h : DataW.Trod enc Tryd.prog W 0 (fun _ => true) true 26 v d ps) :
    ∃ v1 v2 cls att crit, v = .agg #[v1, v2, .bool crit] ∧ SAt W v1 cls ∧ SAt W v2 att ∧ (v1 = .slice none 0 0 ∨ ∃ a n c, v1 = .slice (some a) n c) ∧ (v2 = .slice none 0 0 ∨ ∃ a n c, v2 = .slice (some a) n c) ∧ cls.length + att.length ≤ Rows.uptoBulk d := by
  obtain ⟨cs, rfl, hsz⟩ := okWide_struct Tryd.underlying26 hval
  obtain ⟨fuel, hv⟩ := h
  obtain ⟨y0, y1, n, hx, hl, u0, u1⟩ := trod_struct2 Tryd.underlying26 hv
  rw [cellsCfg] at hl hsz
  obtain ⟨c0, c1, c2, rfl⟩ : ∃ c0 c1 c2, cs = #[c0, c1, c2] := by
    match cs, hsz with
    | ⟨[a, b, c]⟩, _ => exact ⟨a, b, c, rfl⟩
  obtain ⟨z0, z1, m, hz, hl2, w0, w1⟩ := trod_struct2 Tryd.underlying24 u0
  simp only [Value.cells, cellsSafe, cellsStrs, cellsBool, List.drop, List.take] at u1 w0 w1
  obtain ⟨a1, s1, e1, hs1, hn1, hb1⟩ := open_sat w0
  obtain ⟨a2, s2, e2, hs2, hn2, hb2⟩ := open_sat w1
  obtain ⟨b, e3, -⟩ := DataW.trod_bool Tryd.underlying4 u1
  simp only [List.cons.injEq, and_true] at e1 e2 e3
  subst e1 e2 e3
  refine ⟨_, _, s1, s2, b, rfl, hs1, hs2, hn1, hn2, ?_⟩
  rw [(Prod.mk.inj hx).1, hz]
  simp only [Rows.uptoBulk, Rows.uptoBulkAll]
  omega
end
end Go.Proofs.YtfpegmeppgdklaaDoor
