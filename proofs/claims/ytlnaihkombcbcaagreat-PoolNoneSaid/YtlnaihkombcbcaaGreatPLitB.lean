/-
  The text of what is left of the items of winnowinglaw18.fixed.
-/
import Derived.Test.YtlnaihkombcbcaaGreatPLitT
noncomputable section
namespace Go.Proofs.YtlnaihkombcbcaaGreat
open Go.RowKit Go.Ev
/-- what is left -/
def argB : AV := (.sl 6 8 [(.g (.int .i64 (1))), (.sl 1 2 [(.sl 1 2 [(.g (.int .i64 (0))), (.sl 1 6 [(.g (.int .i64 (2))), (.g (.string ⟨#[112]⟩)), (.g (.string ⟨#[]⟩)),
  (.g (.int .i64 (0))), (.g (.int .i64 (0))), (.g (.slice none 0 0))])]), (.g (.string ⟨#[]⟩))]), (.sl 2 3 [(.g (.string ⟨#[99, 111, 108, 111, 114]⟩)), (.sl 1 5 [(.g (.int .i64 (5))),
  (.g (.int .i64 (2))), (.g (.string ⟨#[118, 97, 114]⟩)), (.g (.int .i64 (0))), (.sl 1 5 [(.g (.int .i64 (1))), (.g (.int .i64 (1))), (.g (.string ⟨#[45, 45,
  97]⟩)), (.g (.int .i64 (0))), (.g (.slice none 0 0))])]), (.g (.bool false)), (.g (.string ⟨#[97, 110, 105, 109, 97, 116, 105, 111, 110]⟩)), (.sl 3 5 [(.g (.int .i64 (1))),
  (.g (.int .i64 (1))), (.g (.string ⟨#[107]⟩)), (.g (.int .i64 (0))), (.g (.slice none 0 0)), (.g (.int .i64 (1))), (.g (.int .i64 (8))), (.g (.string ⟨#[10]⟩)),
  (.g (.int .i64 (0))), (.g (.slice none 0 0)), (.g (.int .i64 (1))), (.g (.int .i64 (5))), (.g (.string ⟨#[115]⟩)), (.g (.int .i64 (1))), (.g (.slice none 0 0))]),
  (.g (.bool false))]), (.g (.slice none 0 0)), (.g (.int .i64 (0))), (.g (.int .i64 (0))), (.g (.slice none 0 0)), (.g (.slice none 0 0)), (.g (.int .i64 (4))),
  (.g (.slice none 0 0)), (.g (.slice none 0 0)), (.sl 1 1 [(.g (.string ⟨#[108]⟩))]), (.g (.int .i64 (0))), (.g (.int .i64 (0))), (.g (.slice none 0 0)),
  (.g (.slice none 0 0)), (.g (.int .i64 (1))), (.sl 1 2 [(.sl 1 2 [(.g (.int .i64 (0))), (.sl 1 6 [(.g (.int .i64 (2))), (.g (.string ⟨#[112]⟩)), (.g (.string ⟨#[]⟩)),
  (.g (.int .i64 (0))), (.g (.int .i64 (0))), (.g (.slice none 0 0))])]), (.g (.string ⟨#[]⟩))]), (.sl 1 3 [(.g (.string ⟨#[45, 45, 97]⟩)), (.sl 1 5 [(.g (.int .i64 (5))),
  (.g (.int .i64 (2))), (.g (.string ⟨#[118, 97, 114]⟩)), (.g (.int .i64 (0))), (.sl 3 5 [(.g (.int .i64 (1))), (.g (.int .i64 (1))), (.g (.string ⟨#[45, 45,
  98]⟩)), (.g (.int .i64 (0))), (.g (.slice none 0 0)), (.g (.int .i64 (1))), (.g (.int .i64 (7))), (.g (.string ⟨#[44]⟩)), (.g (.int .i64 (0))), (.g (.slice none 0 0)),
  (.g (.int .i64 (5))), (.g (.int .i64 (2))), (.g (.string ⟨#[118, 97, 114]⟩)), (.g (.int .i64 (0))), (.sl 1 5 [(.g (.int .i64 (1))), (.g (.int .i64 (1))),
  (.g (.string ⟨#[45, 45, 100]⟩)), (.g (.int .i64 (0))), (.g (.slice none 0 0))])])]), (.g (.bool false))]), (.g (.slice none 0 0)), (.g (.int .i64 (0))),
  (.g (.int .i64 (0))), (.g (.slice none 0 0)), (.g (.slice none 0 0)), (.g (.int .i64 (5))), (.g (.slice none 0 0)), (.g (.slice none 0 0)), (.sl 1 1 [(.g (.string ⟨#[107]⟩))]),
  (.g (.int .i64 (0))), (.g (.int .i64 (0))), (.sl 3 5 [(.g (.int .i64 (1))), (.g (.int .i64 (1))), (.g (.string ⟨#[120]⟩)), (.g (.int .i64 (0))), (.g (.slice none 0 0)),
  (.g (.int .i64 (1))), (.g (.int .i64 (7))), (.g (.string ⟨#[58]⟩)), (.g (.int .i64 (0))), (.g (.slice none 0 0)), (.g (.int .i64 (5))), (.g (.int .i64 (2))),
  (.g (.string ⟨#[118, 97, 114]⟩)), (.g (.int .i64 (0))), (.sl 1 5 [(.g (.int .i64 (1))), (.g (.int .i64 (1))), (.g (.string ⟨#[45, 45, 101]⟩)), (.g (.int .i64 (0))),
  (.g (.slice none 0 0))])]), (.g (.slice none 0 0)), (.g (.int .i64 (5))), (.g (.slice none 0 0)), (.g (.slice none 0 0)), (.sl 1 1 [(.g (.string ⟨#[109]⟩))]),
  (.g (.int .i64 (0))), (.g (.int .i64 (0))), (.sl 0 5 []), (.g (.slice none 0 0)), (.g (.int .i64 (2))), (.g (.slice none 0 0)), (.g (.slice none 0 0)), (.g (.slice none 0 0)),
  (.g (.int .i64 (1))), (.g (.int .i64 (-1))), (.g (.slice none 0 0)), (.sl 1 8 [(.g (.int .i64 (1))), (.sl 1 2 [(.sl 1 2 [(.g (.int .i64 (0))), (.sl 1 6 [(.g (.int .i64 (2))),
  (.g (.string ⟨#[114]⟩)), (.g (.string ⟨#[]⟩)), (.g (.int .i64 (0))), (.g (.int .i64 (0))), (.g (.slice none 0 0))])]), (.g (.string ⟨#[]⟩))]), (.sl 1 3 [(.g (.string ⟨#[45,
  45, 100]⟩)), (.sl 1 5 [(.g (.int .i64 (1))), (.g (.int .i64 (1))), (.g (.string ⟨#[109]⟩)), (.g (.int .i64 (0))), (.g (.slice none 0 0))]), (.g (.bool false))]),
  (.g (.slice none 0 0)), (.g (.int .i64 (0))), (.g (.int .i64 (0))), (.g (.slice none 0 0)), (.g (.slice none 0 0))])])
/-- its text -/
def textB : AV := (.g (.string ⟨#[112, 123, 99, 111, 108, 111, 114, 58, 118, 97, 114, 40, 45, 45, 97, 41, 59, 97, 110, 105, 109, 97, 116, 105, 111, 110, 58, 107, 10, 49, 115,
  125, 64, 108, 97, 121, 101, 114, 10, 108, 59, 112, 123, 45, 45, 97, 58, 118, 97, 114, 40, 45, 45, 98, 44, 118, 97, 114, 40, 45, 45, 100, 41, 41, 125, 64,
  107, 101, 121, 102, 114, 97, 109, 101, 115, 10, 107, 123, 120, 58, 118, 97, 114, 40, 45, 45, 101, 41, 125, 64, 107, 101, 121, 102, 114, 97, 109, 101, 115,
  10, 109, 123, 125, 64, 109, 101, 100, 105, 97, 10, 40, 109, 105, 110, 45, 119, 105, 100, 116, 104, 58, 49, 112, 120, 41, 123, 114, 123, 45, 45, 100, 58,
  109, 125, 125]⟩))
def chB : CH := orCH (tabCH (tabF 179 twoT)) (tabCH idxO)
theorem textB_ev : evF Tryz.prog (fun _ => none) chB pol18 100000 300 76 [argB] [] .e 0 = some (.ret textB, .e, 0) := by kernel_rfl
theorem textB_pure : Pure Tryz.prog (fun _ => none) 76 [argB] (.ret textB) := evF_pure prOk (orCH_ok twoT_ok idxO_ok) textB_ev rfl
end Go.Proofs.YtlnaihkombcbcaaGreat
end
