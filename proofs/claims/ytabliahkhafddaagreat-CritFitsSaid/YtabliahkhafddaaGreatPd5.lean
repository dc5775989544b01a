/- R7.Small, R8.Small, law18.small: what they bound. -/
import Derived.Test.YtabliahkhafddaaGreatPd2
import Derived.Test.YtabliahkhafddaaGreatPc9
set_option linter.unusedSimpArgs false
noncomputable section
namespace Go.Proofs.YtabliahkhafddaaGreat
open Go.ChangeShapes Go.WideShapes Go.RowKit Go.Ev
def encN (s:ByteArray):List AV:=[.g (.string s)]
inductive Itm where
 | mk (kind:Int) (sels:List Cx) (decls:List Dl) (names:List ByteArray) (mn mx:Int) (vals:List Vl) (l:List Itm)
namespace Itm
def kind:Itm→Int | .mk k _ _ _ _ _ _ _=>k
def sels:Itm→List Cx | .mk _ s _ _ _ _ _ _=>s
def decls:Itm→List Dl | .mk _ _ d _ _ _ _ _=>d
def names:Itm→List ByteArray | .mk _ _ _ n _ _ _ _=>n
def mn:Itm→Int | .mk _ _ _ _ m _ _ _=>m
def mx:Itm→Int | .mk _ _ _ _ _ m _ _=>m
def vals:Itm→List Vl | .mk _ _ _ _ _ _ v _=>v
def l:Itm→List Itm | .mk _ _ _ _ _ _ _ l=>l
end Itm
mutual
def encI:Itm→List AV
 | .mk k s d n mn mx v l=>[.g (.int .i64 k),.sl s.length 2 (s.flatMap encC),.sl d.length 3 (d.flatMap encD),.sl n.length 1 (n.flatMap encN),.g (.int .i64 mn),.g (.int .i64 mx),.sl v.length 5 (v.flatMap encV),.sl l.length 8 (encIs l)]
def encIs:List Itm→List AV
 | []=>[]
 | x::xs=>encI x++encIs xs
end
theorem encI_len (x:Itm):(encI x).length=8:=by cases x;rw [encI];rfl
section
variable {H:Type} {enc:TypeId×Value→H} {W:World} {sp:Nat→Bool} {held:Bool}
end
end Go.Proofs.YtabliahkhafddaaGreat
namespace Go.Proofs.YtabliahkhafddaaGreat
open Go.RowKit Go.Ev
def okD (d:Dl):Prop:=cntVs d.l≤40∧okVs d.l=true∧d.name.size≤100
end Go.Proofs.YtabliahkhafddaaGreat
end
