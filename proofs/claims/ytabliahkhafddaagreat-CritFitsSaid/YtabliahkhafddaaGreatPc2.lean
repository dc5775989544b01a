/- A range over a function whose iterator writes cells of its own between two rounds (a captured variable): the caller's invariant abides the iterator's steps 'Wr'. Of no program. -/
import Derived.RangeFuncNested
import Derived.RangeFuncBound
import Derived.RangeFuncCalls
import Derived.RangeFuncLeaves
import Derived.Shelf.Abstract
import Derived.Shelf.RegionOpen
import Derived.WalkKit
import Derived.OwnWalkIn
import Derived.TacticsInMore
import Derived.LoopNIn
import Derived.LoopIn
set_option linter.unusedSimpArgs false
noncomputable section
namespace Go.Proofs.YtabliahkhafddaaGreat
open Go.RowKit
section
variable {F:Fence} {n:Nat} {P:Program} {α:Type}
def IterTo (F:Fence) (n:Nat) (P:Program) (g:Nat) (lb:Array Value) (encs:α→Array Value) (Wr Kp:World→World→Prop) (S Sp:List α→Prop) (G:List α→α→Prop) (w:World):Prop :=
 ∀ (l:Nat) (J Jx:List α→World→Prop) (W:World),Below w.heap.size w W→(∀ s A B,J s A→Wr A B→J s B)→(∀ s A B,Jx s A→Wr A B→Jx s B) →
   (∀ pre x A,J pre A→G pre x→YieldAt F (n - 1) P l (encs x) A fun e B=>(e=.returned (.bool true)∧J (pre++[x]) B∧Kp A B)∨(e=.returned (.bool false)∧Jx (pre++[x]) B)) →
   J [] W →
   CallsIn F n P g (#[.func (.yield l) #[] #[]]++lb) W fun e B=>(∃ v,e=.returned v)∧((∃ xs,S xs∧J xs B)∨(∃ pre,Sp pre∧Jx pre B))
def Book (L D:Nat) (r:Loop) (W:World):Prop:=W.heap[L]?=some (.loop r)∧W.heap[D]?=some (.deferred (some []))
theorem Book.step {L D:Nat} {r:Loop} {A B:World} (h:Book L D r A) (hk:∀ (k:Nat) (o:Obj),A.heap[k]?=some o→o.isCells=false→B.heap[k]?=some o):Book L D r B :=
 ⟨hk _ _ h.1 rfl,hk _ _ h.2 rfl⟩
theorem Book.put {L D:Nat} {r r':Loop} {A:World} (h:Book L D r A) (hne:D≠L):Book L D r' (A.putObj L (.loop r')) :=
 ⟨World.putObj_heap_same (Array.getElem?_eq_some_iff.1 h.1).1,(World.putObj_heap_other hne).trans h.2⟩
end
theorem Q0u {W:World} {b o:Nat} {cs:Array Value} {t:TypeId} {f:Nat×Nat} (v:Value) (h:W.heap[b]?=some (.cells cs t f)):(W.setCell ⟨b,o,none⟩ v).heap[b]?=some (.cells (cs.setIfInBounds o v) t f):=by
 simp only [World.setCell,Array.getElem?_modify];rw [if_pos trivial,h]
 rfl
theorem Q0q {W:World} {b c o:Nat} {x:Option Obj} (v:Value) (h:W.heap[c]?=x) (hne:c≠b):(W.setCell ⟨b,o,none⟩ v).heap[c]?=x :=
 (Below.heap_setCell W ⟨b,o,none⟩ v c hne).trans h
end Go.Proofs.YtabliahkhafddaaGreat
end
