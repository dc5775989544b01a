/-
  winnowinglaw18.fixed comes out true.
-/
import Derived.Test.YtlnaihkombcbcaaGreatPKnown
import Derived.Test.YtlnaihkombcbcaaGreatPLitA
import Derived.Test.YtlnaihkombcbcaaGreatPLitB
noncomputable section
namespace Go.Proofs.YtlnaihkombcbcaaGreat
open Go.RowKit Go.Ev
/-- a call whose answer is a text, over what is read out of memory -/
def textO : FuncId → List AV → Option AV := oneO 76 argB textB
theorem textO_ok {GT : GTab} : ChOk Tryz.prog GT (shutCH (fun f => Nat.beq f 76) 1000 textO) := by
  refine shutCH_ok fun f args a _ h => ?_
  obtain ⟨rfl, rfl, rfl⟩ := oneO_spec h
  refine ⟨fun w rargs ha => ?_, _, Tryz.func76, by kernel_rfl, by kernel_rfl⟩
  refine (textB_pure.at w rargs (fun g cs h => by cases h) ha).mono ?_
  rintro e w' ⟨r, rfl, hr, hB⟩
  exact ⟨r, rfl, hr, hB⟩
def ch18 : CH := orCH addCH (orCH (shutCH pick18 1000 known18) (orCH (tabCH (oneO 135 argA parseA)) (orCH (shutCH (fun f => Nat.beq f 76) 1000 textO) (tabCH idxO))))
theorem ch18_ok : ChOk Tryz.prog (fun _ => none) ch18 := orCH_ok addCH_ok (orCH_ok known18_ok (orCH_ok (oneO_ok parseA_pure ⟨_, Tryz.func135, by kernel_rfl, by kernel_rfl⟩) (orCH_ok textO_ok idxO_ok)))
def polF : FuncId → Bool := fun f => pol18 f && !(Nat.beq f 146 || Nat.beq f 212)
theorem fixed18_ev : evF Tryz.prog (fun _ => none) ch18 polF 100000 300 26 [] [] .e 0 = some (.ret (.g (.bool true)), .e, 0) := by kernel_rfl
theorem fixed18_any (w : World) : Calls Tryz.prog 26 #[] w fun e w' => e = .returned (.bool true) ∧ Below w.heap.size w w' := by
  have hp : Pure Tryz.prog (fun _ => none) 26 [] (.ret (.g (.bool true))) := evF_pure prOk ch18_ok fixed18_ev rfl
  refine (hp.at w #[] (fun g cs h => by cases h) (by rw [Ats, VRs])).mono ?_
  rintro e w' ⟨r, rfl, hr, hB⟩
  obtain rfl : r = .bool true := hr
  exact ⟨rfl, hB⟩
end Go.Proofs.YtlnaihkombcbcaaGreat
end
