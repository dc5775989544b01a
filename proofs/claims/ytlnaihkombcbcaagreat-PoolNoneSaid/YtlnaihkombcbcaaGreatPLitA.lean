/-
  What the long text of winnowinglaw18.fixed is parsed as.
-/
import Derived.Test.YtlnaihkombcbcaaGreatPLitN
noncomputable section
namespace Go.Proofs.YtlnaihkombcbcaaGreat
open Go.RowKit Go.Ev
/-- the text -/
def argA : AV := .g (.string longS)
/-- its items -/
def parseA : AV := (.tup [(.sl 7 8 [(.g (.int .i64 (1))), (.sl 1 2 [(.sl 1 2 [(.g (.int .i64 (0))), (.sl 1 6 [(.g (.int .i64 (2))), (.g (.string ⟨#[112]⟩)), (.g (.string ⟨#[]⟩)),
  (.g (.int .i64 (0))), (.g (.int .i64 (0))), (.g (.slice none 0 0))])]), (.g (.string ⟨#[]⟩))]), (.sl 2 3 [(.g (.string ⟨#[99, 111, 108, 111, 114]⟩)), (.sl 1 5 [(.g (.int .i64 (5))),
  (.g (.int .i64 (2))), (.g (.string ⟨#[118, 97, 114]⟩)), (.g (.int .i64 (0))), (.sl 1 5 [(.g (.int .i64 (1))), (.g (.int .i64 (1))), (.g (.string ⟨#[45, 45,
  97]⟩)), (.g (.int .i64 (0))), (.g (.slice none 0 0))])]), (.g (.bool false)), (.g (.string ⟨#[97, 110, 105, 109, 97, 116, 105, 111, 110]⟩)), (.sl 3 5 [(.g (.int .i64 (1))),
  (.g (.int .i64 (1))), (.g (.string ⟨#[107]⟩)), (.g (.int .i64 (0))), (.g (.slice none 0 0)), (.g (.int .i64 (1))), (.g (.int .i64 (8))), (.g (.string ⟨#[10]⟩)),
  (.g (.int .i64 (0))), (.g (.slice none 0 0)), (.g (.int .i64 (1))), (.g (.int .i64 (5))), (.g (.string ⟨#[115]⟩)), (.g (.int .i64 (1))), (.g (.slice none 0 0))]),
  (.g (.bool false))]), (.g (.slice none 0 0)), (.g (.int .i64 (0))), (.g (.int .i64 (0))), (.g (.slice none 0 0)), (.g (.slice none 0 0)), (.g (.int .i64 (3))),
  (.g (.slice none 0 0)), (.g (.slice none 0 0)), (.sl 1 1 [(.g (.string ⟨#[108]⟩))]), (.g (.int .i64 (0))), (.g (.int .i64 (0))), (.g (.slice none 0 0)),
  (.sl 1 8 [(.g (.int .i64 (1))), (.sl 1 2 [(.sl 1 2 [(.g (.int .i64 (0))), (.sl 1 6 [(.g (.int .i64 (2))), (.g (.string ⟨#[113]⟩)), (.g (.string ⟨#[]⟩)),
  (.g (.int .i64 (0))), (.g (.int .i64 (0))), (.g (.slice none 0 0))])]), (.g (.string ⟨#[]⟩))]), (.sl 1 3 [(.g (.string ⟨#[45, 45, 99]⟩)), (.sl 1 5 [(.g (.int .i64 (1))),
  (.g (.int .i64 (5))), (.g (.string ⟨#[]⟩)), (.g (.int .i64 (1))), (.g (.slice none 0 0))]), (.g (.bool false))]), (.g (.slice none 0 0)), (.g (.int .i64 (0))),
  (.g (.int .i64 (0))), (.g (.slice none 0 0)), (.g (.slice none 0 0))]), (.g (.int .i64 (1))), (.sl 1 2 [(.sl 1 2 [(.g (.int .i64 (0))), (.sl 1 6 [(.g (.int .i64 (2))),
  (.g (.string ⟨#[112]⟩)), (.g (.string ⟨#[]⟩)), (.g (.int .i64 (0))), (.g (.int .i64 (0))), (.g (.slice none 0 0))])]), (.g (.string ⟨#[]⟩))]), (.sl 2 3 [(.g (.string ⟨#[45,
  45, 97]⟩)), (.sl 1 5 [(.g (.int .i64 (5))), (.g (.int .i64 (2))), (.g (.string ⟨#[118, 97, 114]⟩)), (.g (.int .i64 (0))), (.sl 3 5 [(.g (.int .i64 (1))),
  (.g (.int .i64 (1))), (.g (.string ⟨#[45, 45, 98]⟩)), (.g (.int .i64 (0))), (.g (.slice none 0 0)), (.g (.int .i64 (1))), (.g (.int .i64 (7))), (.g (.string ⟨#[44]⟩)),
  (.g (.int .i64 (0))), (.g (.slice none 0 0)), (.g (.int .i64 (5))), (.g (.int .i64 (2))), (.g (.string ⟨#[118, 97, 114]⟩)), (.g (.int .i64 (0))), (.sl 1 5 [(.g (.int .i64 (1))),
  (.g (.int .i64 (1))), (.g (.string ⟨#[45, 45, 100]⟩)), (.g (.int .i64 (0))), (.g (.slice none 0 0))])])]), (.g (.bool false)), (.g (.string ⟨#[45, 45, 99]⟩)),
  (.sl 1 5 [(.g (.int .i64 (1))), (.g (.int .i64 (5))), (.g (.string ⟨#[]⟩)), (.g (.int .i64 (2))), (.g (.slice none 0 0))]), (.g (.bool false))]), (.g (.slice none 0 0)),
  (.g (.int .i64 (0))), (.g (.int .i64 (0))), (.g (.slice none 0 0)), (.g (.slice none 0 0)), (.g (.int .i64 (5))), (.g (.slice none 0 0)), (.g (.slice none 0 0)),
  (.sl 1 1 [(.g (.string ⟨#[107]⟩))]), (.g (.int .i64 (0))), (.g (.int .i64 (0))), (.sl 3 5 [(.g (.int .i64 (1))), (.g (.int .i64 (1))), (.g (.string ⟨#[120]⟩)),
  (.g (.int .i64 (0))), (.g (.slice none 0 0)), (.g (.int .i64 (1))), (.g (.int .i64 (7))), (.g (.string ⟨#[58]⟩)), (.g (.int .i64 (0))), (.g (.slice none 0 0)),
  (.g (.int .i64 (5))), (.g (.int .i64 (2))), (.g (.string ⟨#[118, 97, 114]⟩)), (.g (.int .i64 (0))), (.sl 1 5 [(.g (.int .i64 (1))), (.g (.int .i64 (1))),
  (.g (.string ⟨#[45, 45, 101]⟩)), (.g (.int .i64 (0))), (.g (.slice none 0 0))])]), (.g (.slice none 0 0)), (.g (.int .i64 (5))), (.g (.slice none 0 0)),
  (.g (.slice none 0 0)), (.sl 1 1 [(.g (.string ⟨#[109]⟩))]), (.g (.int .i64 (0))), (.g (.int .i64 (0))), (.sl 0 5 []), (.g (.slice none 0 0)), (.g (.int .i64 (6))),
  (.g (.slice none 0 0)), (.sl 1 3 [(.g (.string ⟨#[102, 111, 110, 116, 45, 102, 97, 109, 105, 108, 121]⟩)), (.sl 1 5 [(.g (.int .i64 (1))), (.g (.int .i64 (6))),
  (.g (.string ⟨#[70]⟩)), (.g (.int .i64 (39))), (.g (.slice none 0 0))]), (.g (.bool false))]), (.g (.slice none 0 0)), (.g (.int .i64 (0))), (.g (.int .i64 (0))),
  (.g (.slice none 0 0)), (.g (.slice none 0 0)), (.g (.int .i64 (2))), (.g (.slice none 0 0)), (.g (.slice none 0 0)), (.g (.slice none 0 0)), (.g (.int .i64 (1))),
  (.g (.int .i64 (-1))), (.g (.slice none 0 0)), (.sl 1 8 [(.g (.int .i64 (1))), (.sl 1 2 [(.sl 1 2 [(.g (.int .i64 (0))), (.sl 1 6 [(.g (.int .i64 (2))),
  (.g (.string ⟨#[114]⟩)), (.g (.string ⟨#[]⟩)), (.g (.int .i64 (0))), (.g (.int .i64 (0))), (.g (.slice none 0 0))])]), (.g (.string ⟨#[]⟩))]), (.sl 2 3 [(.g (.string ⟨#[45,
  45, 100]⟩)), (.sl 1 5 [(.g (.int .i64 (1))), (.g (.int .i64 (1))), (.g (.string ⟨#[109]⟩)), (.g (.int .i64 (0))), (.g (.slice none 0 0))]), (.g (.bool false)),
  (.g (.string ⟨#[45, 45, 122]⟩)), (.sl 1 5 [(.g (.int .i64 (1))), (.g (.int .i64 (1))), (.g (.string ⟨#[121]⟩)), (.g (.int .i64 (0))), (.g (.slice none 0 0))]),
  (.g (.bool false))]), (.g (.slice none 0 0)), (.g (.int .i64 (0))), (.g (.int .i64 (0))), (.g (.slice none 0 0)), (.g (.slice none 0 0))])]), (.g (.int .i64 (0)))])
def chA : CH := orCH (tabCH (tabI 203 longS nextT)) (tabCH idxO)
theorem parseA_ev : evF Tryz.prog (fun _ => none) chA pol18 100000 300 135 [argA] [] .e 0 = some (.ret parseA, .e, 0) := by kernel_rfl
theorem parseA_seal : sealV .e 1000 parseA = some parseA := by kernel_rfl
theorem parseA_pure : Pure Tryz.prog (fun _ => none) 135 [argA] (.ret parseA) := evF_pureK prOk (orCH_ok nextT_ok idxO_ok) parseA_ev parseA_seal
end Go.Proofs.YtlnaihkombcbcaaGreat
end
