/-
  NARROWER THAN 'FOR EVERY INPUT', by the rows' own cells (each row's printed sentence says how): CritFits: loops · ShakeTells: loops · ShakeParts: loops · ShakeExact: loops · ShakeTurns: loops · ShakeMore: loops.
  DERIVED. THE GIVEN ROWS OF THIS SEAT. 7 by the template 'for every input the law returns true; each argument reads behind the call as it read before'; 0 by the template 'total and deterministic' (their statements: YtabliahkhafddaaGreatTotals.lean).
  GIVEN WITH THE SEED: the statements are not yours to turn. If you find one false, say at which input.
  Laid BY PROGRAM, IN A SANDBOX (cutbox-rows.mjs): the forced cells as the released guide's own fill.sh prints them over the translation cab7f733a4aa19a4… (all of the seat's roots in one cut). By AI agents, Wed Nov 11 2026. No macro, syntax, notation, axiom, sorry.
-/
import Derived.Test.YtabliahkhafddaaGreatChecked
import GoSem.Claim
import GoSem.ClaimJoined
import GoSem.ClaimMapViews
import Derived.JoinedTies
import Derived.KernelRfl
namespace Go.Proofs.YtabliahkhafddaaGreat
/- THE CELL 'sum', in the pinned program and in every row, IS THE sha256 OF THE DUMP (.gsa) THAT YtabliahkhafddaaGreatProg.lean LOADS. Nothing in Lean hashes anything: it is a label: what it is worth is what the hold of that sum in a sandbox is worth. -/
noncomputable def Tryz.pinned : Pinned := { name := "ytabliahkhafddaagreat", sum := "cab7f733a4aa19a4c80c5a0d5690821760991c3d45b9f2c34badd8fd256501cf", checked := Tryz.checked }
namespace Rows
def none {H : Type} : Left H := { results := [], args := [] }

/-- 'winnowinglaw21.CritUp': WHATEVER THE INPUT: true; the input reads as it did. -/
def critUpSpec : ChangeSpec := { name := "critUp", fn := fun _ => fun
  | [d] => { results := [.lit (.bool true)], args := [d] }
  | _ => none }
def critUpRow : OpenClaim := { program := "ytabliahkhafddaagreat", sum := "cab7f733a4aa19a4c80c5a0d5690821760991c3d45b9f2c34badd8fd256501cf", func := "winnowing/winnowinglaw21.CritUp", spec := "critUp", inPlace := ["internal/bytealg.IndexByteString", "internal/bytealg.IndexString", "slices.overlaps[string]"], unfollowed := true, recurses := true, named := ["internal/bytealg.MaxLen"], plainKeys := false, apart := false }
def CritUpSaid : Prop := critUpRow.holds Tryz.pinned (OpenSpec.ofChange critUpSpec)

/-- ITS FALSE NEIGHBOUR: 'it returns false'. Refute it at one input. -/
def critUpWrong : ChangeSpec := { name := "critUp", fn := fun _ => fun
  | [d] => { results := [.lit (.bool false)], args := [d] }
  | _ => none }
def CritUpWrongFalsely : Prop := critUpRow.holds Tryz.pinned (OpenSpec.ofChange critUpWrong)

/-- 'winnowinglaw21.CritFits': WHATEVER THE INPUT: true; the input reads as it did. -/
def critFitsSpec : ChangeSpec := { name := "critFits", fn := fun _ => fun
  | [d1, d2, d3] => { results := [.lit (.bool true)], args := [d1, d2, d3] }
  | _ => none }
def critFitsRow : OpenClaim := { program := "ytabliahkhafddaagreat", sum := "cab7f733a4aa19a4c80c5a0d5690821760991c3d45b9f2c34badd8fd256501cf", func := "winnowing/winnowinglaw21.CritFits", spec := "critFits", inPlace := ["internal/bytealg.IndexByteString", "internal/bytealg.IndexString", "slices.overlaps[string]"], unfollowed := true, recurses := true, named := ["internal/bytealg.MaxLen"], loops := true, plainKeys := false, apart := false }
def CritFitsSaid : Prop := critFitsRow.holds Tryz.pinned (OpenSpec.ofChange critFitsSpec)

/-- ITS FALSE NEIGHBOUR: 'it returns false'. Refute it at one input. -/
def critFitsWrong : ChangeSpec := { name := "critFits", fn := fun _ => fun
  | [d1, d2, d3] => { results := [.lit (.bool false)], args := [d1, d2, d3] }
  | _ => none }
def CritFitsWrongFalsely : Prop := critFitsRow.holds Tryz.pinned (OpenSpec.ofChange critFitsWrong)

/-- 'winnowinglaw19.ShakeTells': WHATEVER THE INPUT: true; the input reads as it did. -/
def shakeTellsSpec : ChangeSpec := { name := "shakeTells", fn := fun _ => fun
  | [d1, d2, d3] => { results := [.lit (.bool true)], args := [d1, d2, d3] }
  | _ => none }
def shakeTellsRow : OpenClaim := { program := "ytabliahkhafddaagreat", sum := "cab7f733a4aa19a4c80c5a0d5690821760991c3d45b9f2c34badd8fd256501cf", func := "winnowing/winnowinglaw19.ShakeTells", spec := "shakeTells", inPlace := ["internal/bytealg.IndexByteString", "internal/bytealg.IndexString", "slices.overlaps[string]"], unfollowed := true, recurses := true, named := ["internal/bytealg.MaxLen"], loops := true, plainKeys := false, apart := false }
def ShakeTellsSaid : Prop := shakeTellsRow.holds Tryz.pinned (OpenSpec.ofChange shakeTellsSpec)

/-- ITS FALSE NEIGHBOUR: 'it returns false'. Refute it at one input. -/
def shakeTellsWrong : ChangeSpec := { name := "shakeTells", fn := fun _ => fun
  | [d1, d2, d3] => { results := [.lit (.bool false)], args := [d1, d2, d3] }
  | _ => none }
def ShakeTellsWrongFalsely : Prop := shakeTellsRow.holds Tryz.pinned (OpenSpec.ofChange shakeTellsWrong)

/-- 'winnowinglaw19.ShakeParts': WHATEVER THE INPUT: true; the input reads as it did. -/
def shakePartsSpec : ChangeSpec := { name := "shakeParts", fn := fun _ => fun
  | [d] => { results := [.lit (.bool true)], args := [d] }
  | _ => none }
def shakePartsRow : OpenClaim := { program := "ytabliahkhafddaagreat", sum := "cab7f733a4aa19a4c80c5a0d5690821760991c3d45b9f2c34badd8fd256501cf", func := "winnowing/winnowinglaw19.ShakeParts", spec := "shakeParts", inPlace := ["internal/bytealg.IndexByteString", "internal/bytealg.IndexString", "slices.overlaps[string]"], unfollowed := true, recurses := true, named := ["internal/bytealg.MaxLen"], loops := true, plainKeys := false, apart := false }
def ShakePartsSaid : Prop := shakePartsRow.holds Tryz.pinned (OpenSpec.ofChange shakePartsSpec)

/-- ITS FALSE NEIGHBOUR: 'it returns false'. Refute it at one input. -/
def shakePartsWrong : ChangeSpec := { name := "shakeParts", fn := fun _ => fun
  | [d] => { results := [.lit (.bool false)], args := [d] }
  | _ => none }
def ShakePartsWrongFalsely : Prop := shakePartsRow.holds Tryz.pinned (OpenSpec.ofChange shakePartsWrong)

/-- 'winnowinglaw19.ShakeExact': WHATEVER THE INPUT: true; the input reads as it did. -/
def shakeExactSpec : ChangeSpec := { name := "shakeExact", fn := fun _ => fun
  | [d1, d2] => { results := [.lit (.bool true)], args := [d1, d2] }
  | _ => none }
def shakeExactRow : OpenClaim := { program := "ytabliahkhafddaagreat", sum := "cab7f733a4aa19a4c80c5a0d5690821760991c3d45b9f2c34badd8fd256501cf", func := "winnowing/winnowinglaw19.ShakeExact", spec := "shakeExact", inPlace := ["internal/bytealg.IndexByteString", "internal/bytealg.IndexString", "slices.overlaps[string]"], unfollowed := true, recurses := true, named := ["internal/bytealg.MaxLen"], loops := true, plainKeys := false, apart := false }
def ShakeExactSaid : Prop := shakeExactRow.holds Tryz.pinned (OpenSpec.ofChange shakeExactSpec)

/-- ITS FALSE NEIGHBOUR: 'it returns false'. Refute it at one input. -/
def shakeExactWrong : ChangeSpec := { name := "shakeExact", fn := fun _ => fun
  | [d1, d2] => { results := [.lit (.bool false)], args := [d1, d2] }
  | _ => none }
def ShakeExactWrongFalsely : Prop := shakeExactRow.holds Tryz.pinned (OpenSpec.ofChange shakeExactWrong)

/-- 'winnowinglaw19.ShakeTurns': WHATEVER THE INPUT: true; the input reads as it did. -/
def shakeTurnsSpec : ChangeSpec := { name := "shakeTurns", fn := fun _ => fun
  | [d1, d2] => { results := [.lit (.bool true)], args := [d1, d2] }
  | _ => none }
def shakeTurnsRow : OpenClaim := { program := "ytabliahkhafddaagreat", sum := "cab7f733a4aa19a4c80c5a0d5690821760991c3d45b9f2c34badd8fd256501cf", func := "winnowing/winnowinglaw19.ShakeTurns", spec := "shakeTurns", inPlace := ["internal/bytealg.IndexByteString", "internal/bytealg.IndexString", "slices.overlaps[string]"], unfollowed := true, recurses := true, named := ["internal/bytealg.MaxLen"], loops := true, plainKeys := false, apart := false }
def ShakeTurnsSaid : Prop := shakeTurnsRow.holds Tryz.pinned (OpenSpec.ofChange shakeTurnsSpec)

/-- ITS FALSE NEIGHBOUR: 'it returns false'. Refute it at one input. -/
def shakeTurnsWrong : ChangeSpec := { name := "shakeTurns", fn := fun _ => fun
  | [d1, d2] => { results := [.lit (.bool false)], args := [d1, d2] }
  | _ => none }
def ShakeTurnsWrongFalsely : Prop := shakeTurnsRow.holds Tryz.pinned (OpenSpec.ofChange shakeTurnsWrong)

/-- 'winnowinglaw19.ShakeMore': WHATEVER THE INPUT: true; the input reads as it did. -/
def shakeMoreSpec : ChangeSpec := { name := "shakeMore", fn := fun _ => fun
  | [d1, d2] => { results := [.lit (.bool true)], args := [d1, d2] }
  | _ => none }
def shakeMoreRow : OpenClaim := { program := "ytabliahkhafddaagreat", sum := "cab7f733a4aa19a4c80c5a0d5690821760991c3d45b9f2c34badd8fd256501cf", func := "winnowing/winnowinglaw19.ShakeMore", spec := "shakeMore", inPlace := ["internal/bytealg.IndexByteString", "internal/bytealg.IndexString", "slices.overlaps[string]"], unfollowed := true, recurses := true, named := ["internal/bytealg.MaxLen"], loops := true, plainKeys := false, apart := false }
def ShakeMoreSaid : Prop := shakeMoreRow.holds Tryz.pinned (OpenSpec.ofChange shakeMoreSpec)

/-- ITS FALSE NEIGHBOUR: 'it returns false'. Refute it at one input. -/
def shakeMoreWrong : ChangeSpec := { name := "shakeMore", fn := fun _ => fun
  | [d1, d2] => { results := [.lit (.bool false)], args := [d1, d2] }
  | _ => none }
def ShakeMoreWrongFalsely : Prop := shakeMoreRow.holds Tryz.pinned (OpenSpec.ofChange shakeMoreWrong)

/- THE SECOND FORM. 'bulk': how many values and letters a reading holds, each counted each time it is reached (what is shared counts as often as it is met; a slice's spare places count too). A statement '..UptoSaid' is the law's where the arguments, and the package variables that the reading takes, are together of bulk at most 1048576: NARROWER than '..Said'. Prove '..Said' where nothing that the law and all that it calls make is longer than what came in: it says more and counts as full. Else prove '..UptoSaid'. A law counts once. -/
mutual
def uptoBulk {H : Type} : DataW H → Nat
  | .lit (.string bytes) => bytes.length + 1
  | .lit _ => 1
  | .nil => 1
  | .ptr d => uptoBulk d + 1
  | .slice elems spare => uptoBulkAll elems + uptoBulkAll spare + 1
  | .agg parts => uptoBulkAll parts + 1
  | .iface _ d => uptoBulk d + 1
  | .map entries => uptoBulkEntries entries + 1
  | .held _ => 1
def uptoBulkAll {H : Type} : List (DataW H) → Nat
  | [] => 0
  | d :: r => uptoBulk d + uptoBulkAll r
def uptoBulkEntries {H : Type} : List (Lit × DataW H) → Nat
  | [] => 0
  | x :: r => uptoBulkEntry x + uptoBulkEntries r
def uptoBulkEntry {H : Type} : Lit × DataW H → Nat
  | (.string bytes, d) => bytes.length + uptoBulk d + 1
  | (_, d) => uptoBulk d + 1
 end
def uptoSmall : (H : Type) → List (DataW H) → Bool := fun _ ds => decide (uptoBulkAll ds ≤ 1048576)
def OpenSpec.upto (s : _root_.Go.ChangeSpec) : _root_.Go.OpenSpec := { _root_.Go.OpenSpec.ofChange s with cond := some uptoSmall }

/-- 'winnowinglaw21.CritUp', WHERE WHAT IT READS IS OF BULK AT MOST 1048576: true; the input reads as it did. -/
def critUpUptoRow : OpenClaim := { program := "ytabliahkhafddaagreat", sum := "cab7f733a4aa19a4c80c5a0d5690821760991c3d45b9f2c34badd8fd256501cf", func := "winnowing/winnowinglaw21.CritUp", spec := "critUp", inPlace := ["internal/bytealg.IndexByteString", "internal/bytealg.IndexString", "slices.overlaps[string]"], unfollowed := true, recurses := true, named := ["internal/bytealg.MaxLen"], plainKeys := false, apart := false, narrowed := true }
def CritUpUptoSaid : Prop := critUpUptoRow.holds Tryz.pinned (OpenSpec.upto critUpSpec)

/-- 'winnowinglaw21.CritFits', WHERE WHAT IT READS IS OF BULK AT MOST 1048576: true; the input reads as it did. -/
def critFitsUptoRow : OpenClaim := { program := "ytabliahkhafddaagreat", sum := "cab7f733a4aa19a4c80c5a0d5690821760991c3d45b9f2c34badd8fd256501cf", func := "winnowing/winnowinglaw21.CritFits", spec := "critFits", inPlace := ["internal/bytealg.IndexByteString", "internal/bytealg.IndexString", "slices.overlaps[string]"], unfollowed := true, recurses := true, named := ["internal/bytealg.MaxLen"], loops := true, plainKeys := false, apart := false, narrowed := true }
def CritFitsUptoSaid : Prop := critFitsUptoRow.holds Tryz.pinned (OpenSpec.upto critFitsSpec)

/-- 'winnowinglaw19.ShakeTells', WHERE WHAT IT READS IS OF BULK AT MOST 1048576: true; the input reads as it did. -/
def shakeTellsUptoRow : OpenClaim := { program := "ytabliahkhafddaagreat", sum := "cab7f733a4aa19a4c80c5a0d5690821760991c3d45b9f2c34badd8fd256501cf", func := "winnowing/winnowinglaw19.ShakeTells", spec := "shakeTells", inPlace := ["internal/bytealg.IndexByteString", "internal/bytealg.IndexString", "slices.overlaps[string]"], unfollowed := true, recurses := true, named := ["internal/bytealg.MaxLen"], loops := true, plainKeys := false, apart := false, narrowed := true }
def ShakeTellsUptoSaid : Prop := shakeTellsUptoRow.holds Tryz.pinned (OpenSpec.upto shakeTellsSpec)

/-- 'winnowinglaw19.ShakeParts', WHERE WHAT IT READS IS OF BULK AT MOST 1048576: true; the input reads as it did. -/
def shakePartsUptoRow : OpenClaim := { program := "ytabliahkhafddaagreat", sum := "cab7f733a4aa19a4c80c5a0d5690821760991c3d45b9f2c34badd8fd256501cf", func := "winnowing/winnowinglaw19.ShakeParts", spec := "shakeParts", inPlace := ["internal/bytealg.IndexByteString", "internal/bytealg.IndexString", "slices.overlaps[string]"], unfollowed := true, recurses := true, named := ["internal/bytealg.MaxLen"], loops := true, plainKeys := false, apart := false, narrowed := true }
def ShakePartsUptoSaid : Prop := shakePartsUptoRow.holds Tryz.pinned (OpenSpec.upto shakePartsSpec)

/-- 'winnowinglaw19.ShakeExact', WHERE WHAT IT READS IS OF BULK AT MOST 1048576: true; the input reads as it did. -/
def shakeExactUptoRow : OpenClaim := { program := "ytabliahkhafddaagreat", sum := "cab7f733a4aa19a4c80c5a0d5690821760991c3d45b9f2c34badd8fd256501cf", func := "winnowing/winnowinglaw19.ShakeExact", spec := "shakeExact", inPlace := ["internal/bytealg.IndexByteString", "internal/bytealg.IndexString", "slices.overlaps[string]"], unfollowed := true, recurses := true, named := ["internal/bytealg.MaxLen"], loops := true, plainKeys := false, apart := false, narrowed := true }
def ShakeExactUptoSaid : Prop := shakeExactUptoRow.holds Tryz.pinned (OpenSpec.upto shakeExactSpec)

/-- 'winnowinglaw19.ShakeTurns', WHERE WHAT IT READS IS OF BULK AT MOST 1048576: true; the input reads as it did. -/
def shakeTurnsUptoRow : OpenClaim := { program := "ytabliahkhafddaagreat", sum := "cab7f733a4aa19a4c80c5a0d5690821760991c3d45b9f2c34badd8fd256501cf", func := "winnowing/winnowinglaw19.ShakeTurns", spec := "shakeTurns", inPlace := ["internal/bytealg.IndexByteString", "internal/bytealg.IndexString", "slices.overlaps[string]"], unfollowed := true, recurses := true, named := ["internal/bytealg.MaxLen"], loops := true, plainKeys := false, apart := false, narrowed := true }
def ShakeTurnsUptoSaid : Prop := shakeTurnsUptoRow.holds Tryz.pinned (OpenSpec.upto shakeTurnsSpec)

/-- 'winnowinglaw19.ShakeMore', WHERE WHAT IT READS IS OF BULK AT MOST 1048576: true; the input reads as it did. -/
def shakeMoreUptoRow : OpenClaim := { program := "ytabliahkhafddaagreat", sum := "cab7f733a4aa19a4c80c5a0d5690821760991c3d45b9f2c34badd8fd256501cf", func := "winnowing/winnowinglaw19.ShakeMore", spec := "shakeMore", inPlace := ["internal/bytealg.IndexByteString", "internal/bytealg.IndexString", "slices.overlaps[string]"], unfollowed := true, recurses := true, named := ["internal/bytealg.MaxLen"], loops := true, plainKeys := false, apart := false, narrowed := true }
def ShakeMoreUptoSaid : Prop := shakeMoreUptoRow.holds Tryz.pinned (OpenSpec.upto shakeMoreSpec)

end Rows
end Go.Proofs.YtabliahkhafddaaGreat
