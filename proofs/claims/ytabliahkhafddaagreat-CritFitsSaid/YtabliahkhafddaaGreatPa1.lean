/- An evaluator of a program's functions over known values: what its values stand for in memory. Of no program. -/
import Derived.WalkKit
import Derived.Orders
import Derived.Below
import Derived.Test.YtabliahkhafddaaGreatPa0
set_option linter.unusedSimpArgs false
noncomputable section
namespace Go.Ev
open Go.RowKit
inductive AV where
 | any
 | g (v:Value)
 | ptr (b o:Nat)
 | ept (cs:List AV) (o:Nat)
 | sl (n sz:Nat) (cs:List AV)
 | gs (b o n sz k:Nat)
 | z0
 | mp (b:Nat)
 | fn (f:Fn) (first captured:List AV)
 | agg (cs:List AV)
 | tup (vs:List AV)
 | ifc (t:TypeId) (v:AV)
deriving Inhabited
inductive Blk where
 | cells (cs:List AV)
   | map (es:List (Nat×AV×AV)) (clock:Nat)
   | sit (s:ByteArray) (pos:Nat)
deriving Inhabited
abbrev Mem:=Tri Blk
abbrev Mem.put (m:Mem) (b:Nat) (k:Blk):Mem:=Tri.put k m b
abbrev Mem.set (m:Mem) (b:Nat) (k:Blk):Mem:=Tri.set k m b
def getR:List Mem→Nat→Option Blk
 | [],_=>none
 | m::ms,b=>match m.get b with
   | some k=>some k
   | none=>getR ms b
theorem nbeq_ne {i b:Nat} (h:i≠b):Nat.beq i b=false:=by
 rw [←Bool.not_eq_true];intro e;exact h (Nat.eq_of_beq_eq_true e)
theorem Mem.get_nil (b:Nat):Tri.get (.e:Mem) b=none:=rfl
theorem Mem.get_cons (i:Nat) (k:Blk) (m:Mem) (b:Nat):(m.put i k).get b=if i=b then some k else m.get b:=Tri.get_put k m i b
theorem Mem.get_del (m:Mem) (b c:Nat):(m.del b).get c=if b=c then none else m.get c:=Tri.get_del m b c
theorem Mem.get_set (m:Mem) (b c:Nat) (x:Blk):(m.set b x).get c=if b=c then (m.get c).map (fun _=>x) else m.get c:=Tri.get_set x m b c
theorem Q0c (m:Mem) (ms:List Mem) (b:Nat):getR (m::ms) b=(m.get b).or (getR ms b):=by
 show (match m.get b with | some k=>some k | none=>getR ms b)=_
 cases m.get b <;> rfl
structure Gh where
 μ:Nat→Option (Nat×Nat)
 I:Nat→Prop
def Gh.bare (G:Gh):Gh:=⟨fun _=>none,G.I⟩
mutual
def VR (w:World) (G:Gh):AV→Value→Prop
 | .any,_=>True
 | .g v,r=>r=v
 | .ptr b o,r=>∃ rb ro,G.μ b=some (rb,ro)∧r=.pointer (some ⟨rb,ro+o,none⟩)
 | .ept cs o,r=>∃ rb ro,r=.pointer (some ⟨rb,ro+o,none⟩)∧RowR w G rb ro cs
 | .sl n _ cs,r=>∃ a cap,r=.slice a n cap∧n≤cap∧(n=0∨∃ rb ro,a=some ⟨rb,ro,none⟩∧RowR w G rb ro cs)
 | .gs b o n sz k,r=>∃ rb ro o' cap c e fr,G.μ b=some (rb,ro)∧r=.slice (some ⟨rb,o',none⟩) n cap∧(o'=ro+o∨cap=0)∧n≤cap ∧
    w.heap[rb]?=some (.cells c e fr)∧ro+o+cap*sz≤c.size∧n≤k∧k≤cap∧cap≤9223372036854775807
 | .z0,r=>∃ a,r=.slice a 0 0
 | .mp b,r=>∃ rb,G.μ b=some (rb,0)∧r=.map (some rb)
 | .fn f x y,r=>∃ rx ry,r=.func f rx ry∧VRs w G x rx.toList∧VRs w G y ry.toList
 | .agg cs,r=>∃ rc,r=.agg rc∧VRs w G cs rc.toList
 | .tup vs,r=>∃ rc,r=.tuple rc∧VRs w G vs rc.toList
 | .ifc t v,r=>∃ x,r=.iface t x∧VR w G v x
def VRs (w:World) (G:Gh):List AV→List Value→Prop
 | [],l=>l=[]
 | a::as,l=>∃ v vs,l=v::vs∧VR w G a v∧VRs w G as vs
def RowR (w:World) (G:Gh) (rb:Nat) (o:Nat):List AV→Prop
 | []=>True
 | a::as=>G.I rb∧(∃ v,w.cell? ⟨rb,o,none⟩=some v∧VR w G.bare a v)∧RowR w G rb (o+1) as
end

structure Ext (w w':World) (G G':Gh):Prop where
 mu:∀ b x,G.μ b=some x→G'.μ b=some x
 im:∀ rb,G.I rb→G'.I rb
 same:∀ rb,G.I rb→w'.heap[rb]?=w.heap[rb]?
 shape:∀ (rb:Nat) (c:Array Value) (e:TypeId) (fr:Nat×Nat),w.heap[rb]?=some (Obj.cells c e fr)→∃ (c':Array Value) (fr':Nat×Nat),w'.heap[rb]?=some (Obj.cells c' e fr')∧c'.size=c.size
theorem Ext.refl (w:World) (G:Gh):Ext w w G G:=⟨fun _ _ h=>h,fun _ h=>h,fun _ _=>rfl,fun _ c _ fr h=>⟨c,fr,h,rfl⟩⟩
theorem Ext.trans {w1 w2 w3:World} {G1 G2 G3:Gh} (h:Ext w1 w2 G1 G2) (k:Ext w2 w3 G2 G3):Ext w1 w3 G1 G3 :=
 ⟨fun b x hb=>k.mu b x (h.mu b x hb),fun rb hr=>k.im rb (h.im rb hr),fun rb hr=>(k.same rb (h.im rb hr)).trans (h.same rb hr),
  fun rb c e fr hc=>by
   obtain ⟨c1,f1,h1,s1⟩:=h.shape rb c e fr hc;obtain ⟨c2,f2,h2,s2⟩:=k.shape rb c1 e f1 h1
   exact ⟨c2,f2,h2,s2.trans s1⟩⟩
theorem Ext.bare {w w':World} {G G':Gh} (h:Ext w w' G G'):Ext w w' G.bare G'.bare:=⟨fun _ _ e=>(by cases e),h.im,h.same,h.shape⟩
theorem Ext.unbare (w:World) (G:Gh):Ext w w G.bare G:=⟨fun _ _ e=>(by cases e),fun _ h=>h,fun _ _=>rfl,fun _ c _ fr h=>⟨c,fr,h,rfl⟩⟩
mutual
theorem VR.mono {w w':World} {G G':Gh} (h:Ext w w' G G'):∀ (a:AV) {v:Value},VR w G a v→VR w' G' a v
 | .any,_,_=>trivial
 | .g _,_,hv=>hv
 | .ptr b o,_,⟨rb,ro,h1,h2⟩=>⟨rb,ro,h.mu _ _ h1,h2⟩
 | .ept cs o,_,⟨rb,ro,h1,h2⟩=>⟨rb,ro,h1,RowR.mono h cs h2⟩
 | .sl n _ cs,_,⟨a,cap,h1,hc,h2⟩=>⟨a,cap,h1,hc,h2.imp id fun ⟨rb,ro,h3,h4⟩=>⟨rb,ro,h3,RowR.mono h cs h4⟩⟩
 | .gs b o n sz k,_,⟨rb,ro,o',cap,c,e,fr,h1,h2,h3,h4,h5,h6⟩ =>
   let ⟨c',fr',h7,h8⟩:=h.shape _ _ _ _ h5
   ⟨rb,ro,o',cap,c',e,fr',h.mu _ _ h1,h2,h3,h4,h7,by rw [h8];exact h6.1,h6.2⟩
 | .z0,_,hv=>hv
 | .mp b,_,⟨rb,h1,h2⟩=>⟨rb,h.mu _ _ h1,h2⟩
 | .fn f x y,_,⟨rx,ry,h1,h2,h3⟩=>⟨rx,ry,h1,VRs.mono h x h2,VRs.mono h y h3⟩
 | .agg cs,_,⟨rc,h1,h2⟩=>⟨rc,h1,VRs.mono h cs h2⟩
 | .tup vs,_,⟨rc,h1,h2⟩=>⟨rc,h1,VRs.mono h vs h2⟩
 | .ifc t v,_,⟨x,h1,h2⟩=>⟨x,h1,VR.mono h v h2⟩
theorem VRs.mono {w w':World} {G G':Gh} (h:Ext w w' G G'):∀ (a:List AV) {v:List Value},VRs w G a v→VRs w' G' a v
 | [],_,hv=>hv
 | a::as,_,⟨v,vs,h1,h2,h3⟩=>⟨v,vs,h1,VR.mono h a h2,VRs.mono h as h3⟩
theorem RowR.mono {w w':World} {G G':Gh} (h:Ext w w' G G') {rb:Nat}:∀ {o:Nat} (a:List AV),RowR w G rb o a→RowR w' G' rb o a
 | _,[],_=>trivial
 | _,a::as,⟨h1,⟨v,h2,h3⟩,h4⟩=>⟨h.im _ h1,⟨v,by rw [World.cell?_of_block (w:=w) (h.same _ h1)];exact h2,VR.mono h.bare a h3⟩,RowR.mono h as h4⟩
end
end Go.Ev
end
