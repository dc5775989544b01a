/- What a value stands for in a world whose blocks so far nobody writes; closed calls as contracts. Of no program. -/
import Derived.Test.YtlnaihkombcbcaaGreatTb9
set_option linter.unusedSimpArgs false
noncomputable section
namespace Go.Ev
open Go.RowKit
def At (w:World) (a:AV) (v:Value):Prop:=VR w ⟨fun _=>none,fun b=>b<w.heap.size⟩ a v
def Ats (w:World) (as:List AV) (vs:List Value):Prop:=VRs w ⟨fun _=>none,fun b=>b<w.heap.size⟩ as vs
def RowAt (w:World) (b o:Nat) (as:List AV):Prop:=RowR w ⟨fun _=>none,fun b=>b<w.heap.size⟩ b o as
theorem ext_below {w w':World} (h:Below w.heap.size w w'):Ext w w' ⟨fun _=>none,fun b=>b<w.heap.size⟩ ⟨fun _=>none,fun b=>b<w'.heap.size⟩ :=
 ⟨fun _ _ e=>(by cases e),fun _ hb=>Nat.lt_of_lt_of_le hb h.size,fun rb hb=>h.block rb hb,fun rb c e fr hc =>
   ⟨c,fr,(h.block rb (Array.getElem?_eq_some_iff.1 hc).1).trans hc,rfl⟩⟩
theorem At.below {w w':World} {a:AV} {v:Value} (h:At w a v) (hb:Below w.heap.size w w'):At w' a v:=VR.mono (ext_below hb) a h
theorem Ats.below {w w':World} {a:List AV} {v:List Value} (h:Ats w a v) (hb:Below w.heap.size w w'):Ats w' a v:=VRs.mono (ext_below hb) a h
theorem RowAt.below {w w':World} {b o:Nat} {a:List AV} (h:RowAt w b o a) (hb:Below w.heap.size w w'):RowAt w' b o a:=RowR.mono (ext_below hb) a h
theorem Pure.at {P:Program} {GT:GTab} {f:FuncId} {args:List AV} {a:AV} (h:Pure P GT f args (.ret a)) (w:World) (rargs:Array Value)
 (hgt:∀ g cs,GT g=some cs→RowAt w g 0 cs) (ha:Ats w args rargs.toList) :
 Calls P f rargs w fun e w'=>∃ r,e=.returned r∧At w' a r∧Below w.heap.size w w':=by
 refine (h w (fun b=>b<w.heap.size) rargs (fun _ h=>h) hgt ha).mono ?_;rintro e w' ⟨I',hs,r,rfl,hr⟩;exact ⟨r,rfl,VR.mono (G:=⟨fun _=>none,I'⟩) ⟨fun _ _ e=>(by cases e),fun rb hb=>hs.lt rb hb,fun _ _=>rfl,fun _ c _ fr hc=>⟨c,fr,hc,rfl⟩⟩ a hr,hs.os,hs.tape,hs.output,hs.size,hs.same⟩
end Go.Ev
end
