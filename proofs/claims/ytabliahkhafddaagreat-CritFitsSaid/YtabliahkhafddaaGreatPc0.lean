/- What a value stands for in a world whose blocks so far nobody writes; closed calls as contracts. Of no program. -/
import Derived.Test.YtabliahkhafddaaGreatPb9
set_option linter.unusedSimpArgs false
noncomputable section
namespace Go.Ev
open Go.RowKit
def At (w:World) (a:AV) (v:Value):Prop:=VR w ⟨fun _=>none,fun b=>b<w.heap.size⟩ a v
def Ats (w:World) (as:List AV) (vs:List Value):Prop:=VRs w ⟨fun _=>none,fun b=>b<w.heap.size⟩ as vs
def RowAt (w:World) (b o:Nat) (as:List AV):Prop:=RowR w ⟨fun _=>none,fun b=>b<w.heap.size⟩ b o as
theorem Pure.at {P:Program} {GT:GTab} {f:FuncId} {args:List AV} {a:AV} (h:Pure P GT f args (.ret a)) (w:World) (rargs:Array Value)
 (hgt:∀ g cs,GT g=some cs→RowAt w g 0 cs) (ha:Ats w args rargs.toList) :
 Calls P f rargs w fun e w'=>∃ r,e=.returned r∧At w' a r∧Below w.heap.size w w':=by
 refine (h w (fun b=>b<w.heap.size) rargs (fun _ h=>h) hgt ha).mono ?_;rintro e w' ⟨I',hs,r,rfl,hr⟩;exact ⟨r,rfl,VR.mono (G:=⟨fun _=>none,I'⟩) ⟨fun _ _ e=>(by cases e),fun rb hb=>hs.lt rb hb,fun _ _=>rfl,fun _ c _ fr hc=>⟨c,fr,hc,rfl⟩⟩ a hr,hs.os,hs.tape,hs.output,hs.size,hs.same⟩
end Go.Ev
end
