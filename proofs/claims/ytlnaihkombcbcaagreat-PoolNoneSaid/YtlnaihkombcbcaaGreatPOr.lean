/-
  What the evaluations of winnowinglaw18.fixed share.
-/
import Derived.Test.YtlnaihkombcbcaaGreatEvD
import Derived.Test.YtlnaihkombcbcaaGreatShelf
import Derived.Test.YtlnaihkombcbcaaGreatProg
import Derived.KernelRfl
noncomputable section
namespace Go.Proofs.YtlnaihkombcbcaaGreat
open Go.RowKit Go.Ev
def orCH (A B : CH) : CH := fun f args rd cur nx => match A f args rd cur nx with
  | some r => some r
  | none => B f args rd cur nx
theorem orCH_cases {A B : CH} {f : FuncId} {args : List AV} {rd : List Mem} {cur : Mem} {nx : Nat} {r : AO × Mem × Nat} (h : orCH A B f args rd cur nx = some r) : A f args rd cur nx = some r ∨ B f args rd cur nx = some r := by
  unfold orCH at h
  split at h
  · rename_i r' hr; cases h; exact .inl hr
  · exact .inr h
theorem orCH_ok {P : Program} {GT : GTab} {A B : CH} (hA : ChOk P GT A) (hB : ChOk P GT B) : ChOk P GT (orCH A B) :=
  ⟨fun h => (orCH_cases h).elim hA.tri hB.tri, fun h => (orCH_cases h).elim hA.nx hB.nx, fun h => (orCH_cases h).elim hA.fn hB.fn⟩
theorem PStep.refl {w : World} {I : Nat → Prop} (h : ∀ rb, I rb → rb < w.heap.size) : PStep w I w I := ⟨fun _ h => h, fun _ h => .inl h, h, rfl, rfl, rfl, Nat.le_refl _, fun _ _ => rfl⟩
def idxO : FuncId → List AV → Option AV := fun f args => match Nat.beq f 352, args with
  | true, [.g (.string s), .g (.int .u8 c)] => some (.g (.int .i64 (Lib.indexByte s.data.toList c.toNat.toUInt8)))
  | _, _ => none
theorem idxO_ok {GT : GTab} : ChOk Tryz.prog GT (tabCH idxO) := by
  refine tabCH_ok fun f args a h => ?_
  unfold idxO at h
  split at h
  · rename_i s c hf
    cases h
    obtain rfl : f = 352 := Nat.eq_of_beq_eq_true hf
    refine ⟨fun w I rargs hI hgt ha => ?_, _, Tryz.func352, by kernel_rfl, by kernel_rfl⟩
    obtain ⟨v0, vs, e0, h0, v1, vs1, rfl, h1, h2⟩ := ha
    rw [VRs] at h2
    subst h2
    obtain rfl : rargs = #[v0, v1] := by rw [← Array.toList_inj]; exact e0
    obtain rfl : v0 = .string s := h0
    obtain rfl : v1 = .int .u8 c := h1
    refine (Tryz.stringslite_IndexByte s c w).mono ?_
    rintro e w' ⟨rfl, rfl⟩
    exact ⟨I, PStep.refl hI, _, rfl, rfl⟩
  · cases h
theorem prOk : PrOk Tryz.prog := PrOk.of_all (by kernel_rfl) (by kernel_rfl)
def pol18 : FuncId → Bool := fun f => !(Nat.beq f 141 || Nat.beq f 130)
end Go.Proofs.YtlnaihkombcbcaaGreat
end
