/- What the row of the law QuickTells asks of the program: closed facts, each by itself. -/
import Derived.Test.YtlnaihkombcbcaaGreatRows
import Derived.JoinedOf
set_option linter.unusedSimpArgs false
noncomputable section
namespace Go.Proofs.YtlnaihkombcbcaaGreat
theorem and_mk {a b:Bool} (ha:a=true) (hb:b=true):(a&&b)=true:=by subst ha hb;rfl
theorem p_laid:laidOutB Tryz.prog=true:=by kernel_rfl
theorem p_rowed:mapsRowed Tryz.prog=true:=by kernel_rfl
theorem p_keys:Tryz.prog.plainKeys=false:=by kernel_rfl
theorem p_heard:Tryz.prog.stopsHeard=true:=by kernel_rfl
theorem p_enter:Tryz.prog.mayEnter=true:=by kernel_rfl
namespace quickTells
theorem row_named:Tryz.prog.funcNamed Rows.quickTellsRow.func=some 10:=by kernel_rfl
theorem row_inPlace:Rows.quickTellsRow.inPlace=Tryz.prog.inPlace 10:=by kernel_rfl
theorem row_unfollowed:Rows.quickTellsRow.unfollowed=Tryz.prog.unfollowed 10:=by kernel_rfl
theorem row_recurses:Rows.quickTellsRow.recurses=Tryz.prog.recurses 10:=by kernel_rfl
theorem row_vars:Rows.quickTellsRow.named=Tryz.prog.varsNamed 10:=by kernel_rfl
theorem row_wrapper:Tryz.f10.isWrapper Tryz.prog Rows.quickTellsRow.wrapper Rows.quickTellsRow.mainSum:=by
 unfold Func.isWrapper
 first | (rw [if_pos (by decide +kernel)];kernel_rfl) | (rw [if_neg (by decide +kernel)];exact ⟨rfl,rfl⟩)
theorem closed:joinedFacts Tryz.prog 10 Tryz.f10 Rows.quickTellsSpec Rows.quickTellsRow=true:=by
 unfold joinedFacts;exact and_mk (and_mk (and_mk (and_mk (and_mk (and_mk (and_mk (and_mk (and_mk (and_mk (and_mk (and_mk (and_mk (and_mk (and_mk (and_mk (and_mk (and_mk (and_mk (and_mk (and_mk (and_mk (and_mk (and_mk (and_mk (and_mk (and_mk (and_mk (and_mk (and_mk (and_mk (by kernel_rfl) p_laid) p_rowed) (by kernel_rfl)) (by kernel_rfl)) (by kernel_rfl)) (by kernel_rfl)) (by kernel_rfl)) (by kernel_rfl)) (beq_iff_eq.2 row_inPlace)) (beq_iff_eq.2 row_unfollowed)) (beq_iff_eq.2 row_recurses)) (beq_iff_eq.2 row_vars)) (by kernel_rfl)) (by kernel_rfl)) (by kernel_rfl)) (by kernel_rfl)) (by kernel_rfl)) (by kernel_rfl)) (by kernel_rfl)) (by kernel_rfl)) (by kernel_rfl)) (beq_iff_eq.2 p_keys.symm)) (by kernel_rfl)) p_heard) p_enter) (by kernel_rfl)) (by kernel_rfl)) (by kernel_rfl)) (by kernel_rfl)) (by kernel_rfl)) (by kernel_rfl)
end quickTells
end Go.Proofs.YtlnaihkombcbcaaGreat
end
