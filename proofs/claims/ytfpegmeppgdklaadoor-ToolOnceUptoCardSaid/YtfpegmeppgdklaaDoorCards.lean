/-
  DERIVED. GIVEN WITH THE SEED: THE CARDS: each row of YtfpegmeppgdklaaDoorRows.lean that lists a variable, with what it lists TIED to the program's text (the seventh form; the later family's looks); each row that meets fmt, with fmt's text TOLD by the authors' own Lean function (tested against real Go, not proved from fmt's source: count such statements apart). THE CARD IS WHAT COUNTS. Prove the row's statement (the work); the ties are given (YtfpegmeppgdklaaDoorTie.lean); close each card by the builder's one call (the guide's Derived/Test/ToyasCard.lean, 'card_holds'). Laid BY PROGRAM, IN A SANDBOX (cutbox-door.mjs). By AI agents, Wed Nov 11 2026. No macro, syntax, notation, axiom, sorry.
-/
import Derived.Test.YtfpegmeppgdklaaDoorRows
import GoSem.ClaimSeven
namespace Go.Proofs.YtfpegmeppgdklaaDoor
namespace Rows

/-- THE TIED CARD OF 'winnowinglaw22.ToolBack'. -/
def toolBackCard : Claim7 := { stood := { row := toolBackRow, standIns := [], harness := (true, "df5e90931ff30ad54eae416b48190018cb24c720b14e5a01953959d3c3c9710b"), looks := false }, kinds := [], alts := [], laidByText := true, laidKinds := [.data, .pinned], laidTests := true, laidLooks := .later }
def ToolBackCardSaid : Prop := Claim7.holds Tryd.pinned (.plain (OpenSpec.ofChange toolBackSpec)) toolBackCard

/-- THE TIED CARD OF 'winnowinglaw22.ToolLines'. -/
def toolLinesCard : Claim7 := { stood := { row := toolLinesRow, standIns := [], harness := (true, "df5e90931ff30ad54eae416b48190018cb24c720b14e5a01953959d3c3c9710b"), looks := false }, kinds := [], alts := [], laidByText := true, laidKinds := [.data, .pinned], laidTests := true, laidLooks := .later }
def ToolLinesCardSaid : Prop := Claim7.holds Tryd.pinned (.plain (OpenSpec.ofChange toolLinesSpec)) toolLinesCard

/-- THE TIED CARD OF 'winnowinglaw22.ToolOnce'. -/
def toolOnceCard : Claim7 := { stood := { row := toolOnceRow, standIns := [], harness := (true, "df5e90931ff30ad54eae416b48190018cb24c720b14e5a01953959d3c3c9710b"), looks := false }, kinds := [], alts := [], laidByText := true, laidKinds := [.data, .pinned], laidTests := true, laidLooks := .later }
def ToolOnceCardSaid : Prop := Claim7.holds Tryd.pinned (.plain (OpenSpec.ofChange toolOnceSpec)) toolOnceCard

/-- THE TIED CARD OF 'winnowinglaw22.ToolOrder'. -/
def toolOrderCard : Claim7 := { stood := { row := toolOrderRow, standIns := [], harness := (true, "df5e90931ff30ad54eae416b48190018cb24c720b14e5a01953959d3c3c9710b"), looks := false }, kinds := [], alts := [], laidByText := true, laidKinds := [.data, .pinned], laidTests := true, laidLooks := .later }
def ToolOrderCardSaid : Prop := Claim7.holds Tryd.pinned (.plain (OpenSpec.ofChange toolOrderSpec)) toolOrderCard

/-- THE SECOND FORM's CARD OF 'winnowinglaw22.ToolBack'. -/
def toolBackUptoCard : Claim7 := { stood := { row := toolBackUptoRow, standIns := [], harness := (true, "df5e90931ff30ad54eae416b48190018cb24c720b14e5a01953959d3c3c9710b"), looks := false }, kinds := [], alts := [], laidByText := true, laidKinds := [.data, .pinned], laidTests := true, laidLooks := .later }
def ToolBackUptoCardSaid : Prop := Claim7.holds Tryd.pinned (.plain (OpenSpec.upto toolBackSpec)) toolBackUptoCard

/-- THE SECOND FORM's CARD OF 'winnowinglaw22.ToolLines'. -/
def toolLinesUptoCard : Claim7 := { stood := { row := toolLinesUptoRow, standIns := [], harness := (true, "df5e90931ff30ad54eae416b48190018cb24c720b14e5a01953959d3c3c9710b"), looks := false }, kinds := [], alts := [], laidByText := true, laidKinds := [.data, .pinned], laidTests := true, laidLooks := .later }
def ToolLinesUptoCardSaid : Prop := Claim7.holds Tryd.pinned (.plain (OpenSpec.upto toolLinesSpec)) toolLinesUptoCard

/-- THE SECOND FORM's CARD OF 'winnowinglaw22.ToolOnce'. -/
def toolOnceUptoCard : Claim7 := { stood := { row := toolOnceUptoRow, standIns := [], harness := (true, "df5e90931ff30ad54eae416b48190018cb24c720b14e5a01953959d3c3c9710b"), looks := false }, kinds := [], alts := [], laidByText := true, laidKinds := [.data, .pinned], laidTests := true, laidLooks := .later }
def ToolOnceUptoCardSaid : Prop := Claim7.holds Tryd.pinned (.plain (OpenSpec.upto toolOnceSpec)) toolOnceUptoCard

/-- THE SECOND FORM's CARD OF 'winnowinglaw22.ToolOrder'. -/
def toolOrderUptoCard : Claim7 := { stood := { row := toolOrderUptoRow, standIns := [], harness := (true, "df5e90931ff30ad54eae416b48190018cb24c720b14e5a01953959d3c3c9710b"), looks := false }, kinds := [], alts := [], laidByText := true, laidKinds := [.data, .pinned], laidTests := true, laidLooks := .later }
def ToolOrderUptoCardSaid : Prop := Claim7.holds Tryd.pinned (.plain (OpenSpec.upto toolOrderSpec)) toolOrderUptoCard
end Rows
end Go.Proofs.YtfpegmeppgdklaaDoor
