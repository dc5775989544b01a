/-
  NARROWER THAN 'FOR EVERY INPUT', by the rows' own cells (each row's printed sentence says how): SubstFixed: loops · SubstNone: loops · PoolTells: loops · PoolLeft: loops · PoolGrows: loops · PoolNone: loops · PoolNames: loops · QuickTells: loops · QuickSame: loops · QuickAll: loops · QuickKeys: loops.
  DERIVED. THE GIVEN ROWS OF THIS SEAT. 11 by the template 'for every input the law returns true; each argument reads behind the call as it read before'; 0 by the template 'total and deterministic' (their statements: YtlnaihkombcbcaaGreatTotals.lean).
  GIVEN WITH THE SEED: the statements are not yours to turn. If you find one false, say at which input.
  Laid BY PROGRAM, IN A SANDBOX (cutbox-rows.mjs): the forced cells as the released guide's own fill.sh prints them over the translation d0346e3ff80ffe2a… (all of the seat's roots in one cut). By AI agents, Wed Nov 11 2026. No macro, syntax, notation, axiom, sorry.
-/
import Derived.Test.YtlnaihkombcbcaaGreatChecked
import GoSem.Claim
import GoSem.ClaimJoined
import GoSem.ClaimMapViews
import Derived.JoinedTies
import Derived.KernelRfl
namespace Go.Proofs.YtlnaihkombcbcaaGreat
/- THE CELL 'sum', in the pinned program and in every row, IS THE sha256 OF THE DUMP (.gsa) THAT YtlnaihkombcbcaaGreatProg.lean LOADS. Nothing in Lean hashes anything: it is a label: what it is worth is what the hold of that sum in a sandbox is worth. -/
noncomputable def Tryz.pinned : Pinned := { name := "ytlnaihkombcbcaagreat", sum := "d0346e3ff80ffe2a6039c32253078a6bf7bf236c6bd00ac1098df3887970a636", checked := Tryz.checked }
namespace Rows
def none {H : Type} : Left H := { results := [], args := [] }

/-- 'winnowinglaw16.SubstFixed': WHATEVER THE INPUT: true; the input reads as it did. -/
def substFixedSpec : ChangeSpec := { name := "substFixed", fn := fun _ => fun
  | [d1, d2] => { results := [.lit (.bool true)], args := [d1, d2] }
  | _ => none }
def substFixedRow : OpenClaim := { program := "ytlnaihkombcbcaagreat", sum := "d0346e3ff80ffe2a6039c32253078a6bf7bf236c6bd00ac1098df3887970a636", func := "winnowing/winnowinglaw16.SubstFixed", spec := "substFixed", unfollowed := true, recurses := true, loops := true, plainKeys := false, apart := false }
def SubstFixedSaid : Prop := substFixedRow.holds Tryz.pinned (OpenSpec.ofChange substFixedSpec)

/-- ITS FALSE NEIGHBOUR: 'it returns false'. Refute it at one input. -/
def substFixedWrong : ChangeSpec := { name := "substFixed", fn := fun _ => fun
  | [d1, d2] => { results := [.lit (.bool false)], args := [d1, d2] }
  | _ => none }
def SubstFixedWrongFalsely : Prop := substFixedRow.holds Tryz.pinned (OpenSpec.ofChange substFixedWrong)

/-- 'winnowinglaw16.SubstNone': WHATEVER THE INPUT: true; the input reads as it did. -/
def substNoneSpec : ChangeSpec := { name := "substNone", fn := fun _ => fun
  | [d1, d2] => { results := [.lit (.bool true)], args := [d1, d2] }
  | _ => none }
def substNoneRow : OpenClaim := { program := "ytlnaihkombcbcaagreat", sum := "d0346e3ff80ffe2a6039c32253078a6bf7bf236c6bd00ac1098df3887970a636", func := "winnowing/winnowinglaw16.SubstNone", spec := "substNone", unfollowed := true, recurses := true, loops := true, plainKeys := false, apart := false }
def SubstNoneSaid : Prop := substNoneRow.holds Tryz.pinned (OpenSpec.ofChange substNoneSpec)

/-- ITS FALSE NEIGHBOUR: 'it returns false'. Refute it at one input. -/
def substNoneWrong : ChangeSpec := { name := "substNone", fn := fun _ => fun
  | [d1, d2] => { results := [.lit (.bool false)], args := [d1, d2] }
  | _ => none }
def SubstNoneWrongFalsely : Prop := substNoneRow.holds Tryz.pinned (OpenSpec.ofChange substNoneWrong)

/-- 'winnowinglaw18.PoolTells': WHATEVER THE INPUT: true; the input reads as it did. -/
def poolTellsSpec : ChangeSpec := { name := "poolTells", fn := fun _ => fun
  | [d1, d2, d3] => { results := [.lit (.bool true)], args := [d1, d2, d3] }
  | _ => none }
def poolTellsRow : OpenClaim := { program := "ytlnaihkombcbcaagreat", sum := "d0346e3ff80ffe2a6039c32253078a6bf7bf236c6bd00ac1098df3887970a636", func := "winnowing/winnowinglaw18.PoolTells", spec := "poolTells", inPlace := ["slices.overlaps[string]"], unfollowed := true, recurses := true, loops := true, plainKeys := false, apart := false }
def PoolTellsSaid : Prop := poolTellsRow.holds Tryz.pinned (OpenSpec.ofChange poolTellsSpec)

/-- ITS FALSE NEIGHBOUR: 'it returns false'. Refute it at one input. -/
def poolTellsWrong : ChangeSpec := { name := "poolTells", fn := fun _ => fun
  | [d1, d2, d3] => { results := [.lit (.bool false)], args := [d1, d2, d3] }
  | _ => none }
def PoolTellsWrongFalsely : Prop := poolTellsRow.holds Tryz.pinned (OpenSpec.ofChange poolTellsWrong)

/-- 'winnowinglaw18.PoolLeft': WHATEVER THE INPUT: true; the input reads as it did. -/
def poolLeftSpec : ChangeSpec := { name := "poolLeft", fn := fun _ => fun
  | [d] => { results := [.lit (.bool true)], args := [d] }
  | _ => none }
def poolLeftRow : OpenClaim := { program := "ytlnaihkombcbcaagreat", sum := "d0346e3ff80ffe2a6039c32253078a6bf7bf236c6bd00ac1098df3887970a636", func := "winnowing/winnowinglaw18.PoolLeft", spec := "poolLeft", inPlace := ["slices.overlaps[string]"], unfollowed := true, recurses := true, loops := true, plainKeys := false, apart := false }
def PoolLeftSaid : Prop := poolLeftRow.holds Tryz.pinned (OpenSpec.ofChange poolLeftSpec)

/-- ITS FALSE NEIGHBOUR: 'it returns false'. Refute it at one input. -/
def poolLeftWrong : ChangeSpec := { name := "poolLeft", fn := fun _ => fun
  | [d] => { results := [.lit (.bool false)], args := [d] }
  | _ => none }
def PoolLeftWrongFalsely : Prop := poolLeftRow.holds Tryz.pinned (OpenSpec.ofChange poolLeftWrong)

/-- 'winnowinglaw18.PoolGrows': WHATEVER THE INPUT: true; the input reads as it did. -/
def poolGrowsSpec : ChangeSpec := { name := "poolGrows", fn := fun _ => fun
  | [d1, d2] => { results := [.lit (.bool true)], args := [d1, d2] }
  | _ => none }
def poolGrowsRow : OpenClaim := { program := "ytlnaihkombcbcaagreat", sum := "d0346e3ff80ffe2a6039c32253078a6bf7bf236c6bd00ac1098df3887970a636", func := "winnowing/winnowinglaw18.PoolGrows", spec := "poolGrows", inPlace := ["slices.overlaps[string]"], unfollowed := true, recurses := true, loops := true, plainKeys := false, apart := false }
def PoolGrowsSaid : Prop := poolGrowsRow.holds Tryz.pinned (OpenSpec.ofChange poolGrowsSpec)

/-- ITS FALSE NEIGHBOUR: 'it returns false'. Refute it at one input. -/
def poolGrowsWrong : ChangeSpec := { name := "poolGrows", fn := fun _ => fun
  | [d1, d2] => { results := [.lit (.bool false)], args := [d1, d2] }
  | _ => none }
def PoolGrowsWrongFalsely : Prop := poolGrowsRow.holds Tryz.pinned (OpenSpec.ofChange poolGrowsWrong)

/-- 'winnowinglaw18.PoolNone': WHATEVER THE INPUT: true; the input reads as it did. -/
def poolNoneSpec : ChangeSpec := { name := "poolNone", fn := fun _ => fun
  | [d] => { results := [.lit (.bool true)], args := [d] }
  | _ => none }
def poolNoneRow : OpenClaim := { program := "ytlnaihkombcbcaagreat", sum := "d0346e3ff80ffe2a6039c32253078a6bf7bf236c6bd00ac1098df3887970a636", func := "winnowing/winnowinglaw18.PoolNone", spec := "poolNone", inPlace := ["slices.overlaps[string]"], unfollowed := true, recurses := true, loops := true, plainKeys := false, apart := false }
def PoolNoneSaid : Prop := poolNoneRow.holds Tryz.pinned (OpenSpec.ofChange poolNoneSpec)

/-- ITS FALSE NEIGHBOUR: 'it returns false'. Refute it at one input. -/
def poolNoneWrong : ChangeSpec := { name := "poolNone", fn := fun _ => fun
  | [d] => { results := [.lit (.bool false)], args := [d] }
  | _ => none }
def PoolNoneWrongFalsely : Prop := poolNoneRow.holds Tryz.pinned (OpenSpec.ofChange poolNoneWrong)

/-- 'winnowinglaw18.PoolNames': WHATEVER THE INPUT: true; the input reads as it did. -/
def poolNamesSpec : ChangeSpec := { name := "poolNames", fn := fun _ => fun
  | [d1, d2] => { results := [.lit (.bool true)], args := [d1, d2] }
  | _ => none }
def poolNamesRow : OpenClaim := { program := "ytlnaihkombcbcaagreat", sum := "d0346e3ff80ffe2a6039c32253078a6bf7bf236c6bd00ac1098df3887970a636", func := "winnowing/winnowinglaw18.PoolNames", spec := "poolNames", inPlace := ["slices.overlaps[string]"], unfollowed := true, recurses := true, loops := true, plainKeys := false, apart := false }
def PoolNamesSaid : Prop := poolNamesRow.holds Tryz.pinned (OpenSpec.ofChange poolNamesSpec)

/-- ITS FALSE NEIGHBOUR: 'it returns false'. Refute it at one input. -/
def poolNamesWrong : ChangeSpec := { name := "poolNames", fn := fun _ => fun
  | [d1, d2] => { results := [.lit (.bool false)], args := [d1, d2] }
  | _ => none }
def PoolNamesWrongFalsely : Prop := poolNamesRow.holds Tryz.pinned (OpenSpec.ofChange poolNamesWrong)

/-- 'winnowinglaw13.QuickTells': WHATEVER THE INPUT: true; the input reads as it did. -/
def quickTellsSpec : ChangeSpec := { name := "quickTells", fn := fun _ => fun
  | [d1, d2, d3] => { results := [.lit (.bool true)], args := [d1, d2, d3] }
  | _ => none }
def quickTellsRow : OpenClaim := { program := "ytlnaihkombcbcaagreat", sum := "d0346e3ff80ffe2a6039c32253078a6bf7bf236c6bd00ac1098df3887970a636", func := "winnowing/winnowinglaw13.QuickTells", spec := "quickTells", inPlace := ["internal/bytealg.IndexByteString", "internal/bytealg.IndexString"], unfollowed := true, recurses := true, named := ["internal/bytealg.MaxLen"], loops := true, plainKeys := false, apart := false }
def QuickTellsSaid : Prop := quickTellsRow.holds Tryz.pinned (OpenSpec.ofChange quickTellsSpec)

/-- ITS FALSE NEIGHBOUR: 'it returns false'. Refute it at one input. -/
def quickTellsWrong : ChangeSpec := { name := "quickTells", fn := fun _ => fun
  | [d1, d2, d3] => { results := [.lit (.bool false)], args := [d1, d2, d3] }
  | _ => none }
def QuickTellsWrongFalsely : Prop := quickTellsRow.holds Tryz.pinned (OpenSpec.ofChange quickTellsWrong)

/-- 'winnowinglaw13.QuickSame': WHATEVER THE INPUT: true; the input reads as it did. -/
def quickSameSpec : ChangeSpec := { name := "quickSame", fn := fun _ => fun
  | [d1, d2, d3] => { results := [.lit (.bool true)], args := [d1, d2, d3] }
  | _ => none }
def quickSameRow : OpenClaim := { program := "ytlnaihkombcbcaagreat", sum := "d0346e3ff80ffe2a6039c32253078a6bf7bf236c6bd00ac1098df3887970a636", func := "winnowing/winnowinglaw13.QuickSame", spec := "quickSame", inPlace := ["internal/bytealg.IndexByteString", "internal/bytealg.IndexString"], unfollowed := true, recurses := true, named := ["internal/bytealg.MaxLen"], loops := true, plainKeys := false, apart := false }
def QuickSameSaid : Prop := quickSameRow.holds Tryz.pinned (OpenSpec.ofChange quickSameSpec)

/-- ITS FALSE NEIGHBOUR: 'it returns false'. Refute it at one input. -/
def quickSameWrong : ChangeSpec := { name := "quickSame", fn := fun _ => fun
  | [d1, d2, d3] => { results := [.lit (.bool false)], args := [d1, d2, d3] }
  | _ => none }
def QuickSameWrongFalsely : Prop := quickSameRow.holds Tryz.pinned (OpenSpec.ofChange quickSameWrong)

/-- 'winnowinglaw13.QuickAll': WHATEVER THE INPUT: true; the input reads as it did. -/
def quickAllSpec : ChangeSpec := { name := "quickAll", fn := fun _ => fun
  | [d1, d2] => { results := [.lit (.bool true)], args := [d1, d2] }
  | _ => none }
def quickAllRow : OpenClaim := { program := "ytlnaihkombcbcaagreat", sum := "d0346e3ff80ffe2a6039c32253078a6bf7bf236c6bd00ac1098df3887970a636", func := "winnowing/winnowinglaw13.QuickAll", spec := "quickAll", inPlace := ["internal/bytealg.IndexByteString", "internal/bytealg.IndexString"], unfollowed := true, recurses := true, named := ["internal/bytealg.MaxLen"], loops := true, plainKeys := false, apart := false }
def QuickAllSaid : Prop := quickAllRow.holds Tryz.pinned (OpenSpec.ofChange quickAllSpec)

/-- ITS FALSE NEIGHBOUR: 'it returns false'. Refute it at one input. -/
def quickAllWrong : ChangeSpec := { name := "quickAll", fn := fun _ => fun
  | [d1, d2] => { results := [.lit (.bool false)], args := [d1, d2] }
  | _ => none }
def QuickAllWrongFalsely : Prop := quickAllRow.holds Tryz.pinned (OpenSpec.ofChange quickAllWrong)

/-- 'winnowinglaw13.QuickKeys': WHATEVER THE INPUT: true; the input reads as it did. -/
def quickKeysSpec : ChangeSpec := { name := "quickKeys", fn := fun _ => fun
  | [d1, d2] => { results := [.lit (.bool true)], args := [d1, d2] }
  | _ => none }
def quickKeysRow : OpenClaim := { program := "ytlnaihkombcbcaagreat", sum := "d0346e3ff80ffe2a6039c32253078a6bf7bf236c6bd00ac1098df3887970a636", func := "winnowing/winnowinglaw13.QuickKeys", spec := "quickKeys", inPlace := ["internal/bytealg.IndexByteString", "internal/bytealg.IndexString"], unfollowed := true, recurses := true, named := ["internal/bytealg.MaxLen"], loops := true, plainKeys := false, apart := false }
def QuickKeysSaid : Prop := quickKeysRow.holds Tryz.pinned (OpenSpec.ofChange quickKeysSpec)

/-- ITS FALSE NEIGHBOUR: 'it returns false'. Refute it at one input. -/
def quickKeysWrong : ChangeSpec := { name := "quickKeys", fn := fun _ => fun
  | [d1, d2] => { results := [.lit (.bool false)], args := [d1, d2] }
  | _ => none }
def QuickKeysWrongFalsely : Prop := quickKeysRow.holds Tryz.pinned (OpenSpec.ofChange quickKeysWrong)

/- THE SECOND FORM. 'bulk': how many values and letters a reading holds, each counted each time it is reached (what is shared counts as often as it is met; a slice's spare places count too). A statement '..UptoSaid' is the law's where the arguments, and the package variables that the reading takes, are together of bulk at most 1048576: NARROWER than '..Said'. Prove '..Said' where nothing that the law and all that it calls make is longer than what came in: it says more and counts as full. Else prove '..UptoSaid'. A law counts once. -/
mutual
def uptoBulk {H : Type} : DataW H → Nat
  | .lit (.string bytes) => bytes.length + 1
  | .lit _ => 1
  | .nil => 1
  | .ptr d => uptoBulk d + 1
  | .slice elems spare => uptoBulkAll elems + uptoBulkAll spare + 1
  | .agg parts => uptoBulkAll parts + 1
  | .iface _ d => uptoBulk d + 1
  | .map entries => uptoBulkEntries entries + 1
  | .held _ => 1
def uptoBulkAll {H : Type} : List (DataW H) → Nat
  | [] => 0
  | d :: r => uptoBulk d + uptoBulkAll r
def uptoBulkEntries {H : Type} : List (Lit × DataW H) → Nat
  | [] => 0
  | x :: r => uptoBulkEntry x + uptoBulkEntries r
def uptoBulkEntry {H : Type} : Lit × DataW H → Nat
  | (.string bytes, d) => bytes.length + uptoBulk d + 1
  | (_, d) => uptoBulk d + 1
 end
def uptoSmall : (H : Type) → List (DataW H) → Bool := fun _ ds => decide (uptoBulkAll ds ≤ 1048576)
def OpenSpec.upto (s : _root_.Go.ChangeSpec) : _root_.Go.OpenSpec := { _root_.Go.OpenSpec.ofChange s with cond := some uptoSmall }

/-- 'winnowinglaw16.SubstFixed', WHERE WHAT IT READS IS OF BULK AT MOST 1048576: true; the input reads as it did. -/
def substFixedUptoRow : OpenClaim := { program := "ytlnaihkombcbcaagreat", sum := "d0346e3ff80ffe2a6039c32253078a6bf7bf236c6bd00ac1098df3887970a636", func := "winnowing/winnowinglaw16.SubstFixed", spec := "substFixed", unfollowed := true, recurses := true, loops := true, plainKeys := false, apart := false, narrowed := true }
def SubstFixedUptoSaid : Prop := substFixedUptoRow.holds Tryz.pinned (OpenSpec.upto substFixedSpec)

/-- 'winnowinglaw16.SubstNone', WHERE WHAT IT READS IS OF BULK AT MOST 1048576: true; the input reads as it did. -/
def substNoneUptoRow : OpenClaim := { program := "ytlnaihkombcbcaagreat", sum := "d0346e3ff80ffe2a6039c32253078a6bf7bf236c6bd00ac1098df3887970a636", func := "winnowing/winnowinglaw16.SubstNone", spec := "substNone", unfollowed := true, recurses := true, loops := true, plainKeys := false, apart := false, narrowed := true }
def SubstNoneUptoSaid : Prop := substNoneUptoRow.holds Tryz.pinned (OpenSpec.upto substNoneSpec)

/-- 'winnowinglaw18.PoolTells', WHERE WHAT IT READS IS OF BULK AT MOST 1048576: true; the input reads as it did. -/
def poolTellsUptoRow : OpenClaim := { program := "ytlnaihkombcbcaagreat", sum := "d0346e3ff80ffe2a6039c32253078a6bf7bf236c6bd00ac1098df3887970a636", func := "winnowing/winnowinglaw18.PoolTells", spec := "poolTells", inPlace := ["slices.overlaps[string]"], unfollowed := true, recurses := true, loops := true, plainKeys := false, apart := false, narrowed := true }
def PoolTellsUptoSaid : Prop := poolTellsUptoRow.holds Tryz.pinned (OpenSpec.upto poolTellsSpec)

/-- 'winnowinglaw18.PoolLeft', WHERE WHAT IT READS IS OF BULK AT MOST 1048576: true; the input reads as it did. -/
def poolLeftUptoRow : OpenClaim := { program := "ytlnaihkombcbcaagreat", sum := "d0346e3ff80ffe2a6039c32253078a6bf7bf236c6bd00ac1098df3887970a636", func := "winnowing/winnowinglaw18.PoolLeft", spec := "poolLeft", inPlace := ["slices.overlaps[string]"], unfollowed := true, recurses := true, loops := true, plainKeys := false, apart := false, narrowed := true }
def PoolLeftUptoSaid : Prop := poolLeftUptoRow.holds Tryz.pinned (OpenSpec.upto poolLeftSpec)

/-- 'winnowinglaw18.PoolGrows', WHERE WHAT IT READS IS OF BULK AT MOST 1048576: true; the input reads as it did. -/
def poolGrowsUptoRow : OpenClaim := { program := "ytlnaihkombcbcaagreat", sum := "d0346e3ff80ffe2a6039c32253078a6bf7bf236c6bd00ac1098df3887970a636", func := "winnowing/winnowinglaw18.PoolGrows", spec := "poolGrows", inPlace := ["slices.overlaps[string]"], unfollowed := true, recurses := true, loops := true, plainKeys := false, apart := false, narrowed := true }
def PoolGrowsUptoSaid : Prop := poolGrowsUptoRow.holds Tryz.pinned (OpenSpec.upto poolGrowsSpec)

/-- 'winnowinglaw18.PoolNone', WHERE WHAT IT READS IS OF BULK AT MOST 1048576: true; the input reads as it did. -/
def poolNoneUptoRow : OpenClaim := { program := "ytlnaihkombcbcaagreat", sum := "d0346e3ff80ffe2a6039c32253078a6bf7bf236c6bd00ac1098df3887970a636", func := "winnowing/winnowinglaw18.PoolNone", spec := "poolNone", inPlace := ["slices.overlaps[string]"], unfollowed := true, recurses := true, loops := true, plainKeys := false, apart := false, narrowed := true }
def PoolNoneUptoSaid : Prop := poolNoneUptoRow.holds Tryz.pinned (OpenSpec.upto poolNoneSpec)

/-- 'winnowinglaw18.PoolNames', WHERE WHAT IT READS IS OF BULK AT MOST 1048576: true; the input reads as it did. -/
def poolNamesUptoRow : OpenClaim := { program := "ytlnaihkombcbcaagreat", sum := "d0346e3ff80ffe2a6039c32253078a6bf7bf236c6bd00ac1098df3887970a636", func := "winnowing/winnowinglaw18.PoolNames", spec := "poolNames", inPlace := ["slices.overlaps[string]"], unfollowed := true, recurses := true, loops := true, plainKeys := false, apart := false, narrowed := true }
def PoolNamesUptoSaid : Prop := poolNamesUptoRow.holds Tryz.pinned (OpenSpec.upto poolNamesSpec)

/-- 'winnowinglaw13.QuickTells', WHERE WHAT IT READS IS OF BULK AT MOST 1048576: true; the input reads as it did. -/
def quickTellsUptoRow : OpenClaim := { program := "ytlnaihkombcbcaagreat", sum := "d0346e3ff80ffe2a6039c32253078a6bf7bf236c6bd00ac1098df3887970a636", func := "winnowing/winnowinglaw13.QuickTells", spec := "quickTells", inPlace := ["internal/bytealg.IndexByteString", "internal/bytealg.IndexString"], unfollowed := true, recurses := true, named := ["internal/bytealg.MaxLen"], loops := true, plainKeys := false, apart := false, narrowed := true }
def QuickTellsUptoSaid : Prop := quickTellsUptoRow.holds Tryz.pinned (OpenSpec.upto quickTellsSpec)

/-- 'winnowinglaw13.QuickSame', WHERE WHAT IT READS IS OF BULK AT MOST 1048576: true; the input reads as it did. -/
def quickSameUptoRow : OpenClaim := { program := "ytlnaihkombcbcaagreat", sum := "d0346e3ff80ffe2a6039c32253078a6bf7bf236c6bd00ac1098df3887970a636", func := "winnowing/winnowinglaw13.QuickSame", spec := "quickSame", inPlace := ["internal/bytealg.IndexByteString", "internal/bytealg.IndexString"], unfollowed := true, recurses := true, named := ["internal/bytealg.MaxLen"], loops := true, plainKeys := false, apart := false, narrowed := true }
def QuickSameUptoSaid : Prop := quickSameUptoRow.holds Tryz.pinned (OpenSpec.upto quickSameSpec)

/-- 'winnowinglaw13.QuickAll', WHERE WHAT IT READS IS OF BULK AT MOST 1048576: true; the input reads as it did. -/
def quickAllUptoRow : OpenClaim := { program := "ytlnaihkombcbcaagreat", sum := "d0346e3ff80ffe2a6039c32253078a6bf7bf236c6bd00ac1098df3887970a636", func := "winnowing/winnowinglaw13.QuickAll", spec := "quickAll", inPlace := ["internal/bytealg.IndexByteString", "internal/bytealg.IndexString"], unfollowed := true, recurses := true, named := ["internal/bytealg.MaxLen"], loops := true, plainKeys := false, apart := false, narrowed := true }
def QuickAllUptoSaid : Prop := quickAllUptoRow.holds Tryz.pinned (OpenSpec.upto quickAllSpec)

/-- 'winnowinglaw13.QuickKeys', WHERE WHAT IT READS IS OF BULK AT MOST 1048576: true; the input reads as it did. -/
def quickKeysUptoRow : OpenClaim := { program := "ytlnaihkombcbcaagreat", sum := "d0346e3ff80ffe2a6039c32253078a6bf7bf236c6bd00ac1098df3887970a636", func := "winnowing/winnowinglaw13.QuickKeys", spec := "quickKeys", inPlace := ["internal/bytealg.IndexByteString", "internal/bytealg.IndexString"], unfollowed := true, recurses := true, named := ["internal/bytealg.MaxLen"], loops := true, plainKeys := false, apart := false, narrowed := true }
def QuickKeysUptoSaid : Prop := quickKeysUptoRow.holds Tryz.pinned (OpenSpec.upto quickKeysSpec)

end Rows
end Go.Proofs.YtlnaihkombcbcaaGreat
