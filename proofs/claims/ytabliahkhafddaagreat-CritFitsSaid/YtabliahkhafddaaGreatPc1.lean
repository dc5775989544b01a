/- Calls that are known ahead over values whose blocks are read out of memory: their results lie in new blocks. Of no program. -/
import Derived.Test.YtabliahkhafddaaGreatPc0
set_option linter.unusedSimpArgs false
noncomputable section
namespace Go.Ev
open Go.RowKit
def closeV (ms:List Mem):Nat→AV→Option AV
 | 0,_=>none
 | n + 1,a=>match a with
   | .gs b o k sz _=>match getR ms b with
     | some (.cells cs)=>if o+k*sz≤cs.length then match closeL ms n ((cs.drop o).take (k*sz)) with
        | some l=>some (.sl k sz l)
        | none=>none
       else none
     | _=>none
   | .agg cs=>match closeL ms n cs with
     | some l=>some (.agg l)
     | none=>none
   | .sl k sz cs=>some (.sl k sz cs)
   | .z0=>some .z0
   | .g v=>some (.g v)
   | _=>none
where
 closeL (ms:List Mem):Nat→List AV→Option (List AV)
 | 0,_=>none
 | n + 1,l=>match l with
   | []=>some []
   | a::as=>match closeV ms n a,closeL ms n as with
     | some x,some y=>some (x::y)
     | _,_=>none
section
variable {P:Program} {GT:GTab} {base:Nat} {F:Nat→Prop} {rd:List Mem} {cur:Mem} {nx:Nat} {w:World} {G:Gh}
theorem closeV_spec (hm:MR base GT F rd cur nx w G):∀ (n:Nat),(∀ {a a':AV} {r:Value},closeV (cur::rd) n a=some a'→VR w G a r→At w a' r) ∧
 (∀ {l l':List AV} {rs:List Value},closeV.closeL (cur::rd) n l=some l'→VRs w G l rs→Ats w l' rs):=by
 have hx:Ext w w G.bare ⟨fun _=>none,fun b=>b<w.heap.size⟩:=⟨fun _ _ e=>(by cases e),fun rb h=>hm.imm rb h,fun _ _=>rfl,fun _ c _ fr h=>⟨c,fr,h,rfl⟩⟩;have same:∀ {a:AV} {r:Value},noIds a=true→VR w G a r→At w a r:=fun hn hv=>VR.mono hx _ (Q2i _ hn hv);intro n
 induction n with
 | zero=>exact ⟨fun h=>by simp [closeV] at h,fun h=>by simp [closeV.closeL] at h⟩
 | succ n ih =>
   refine ⟨fun {a a' r} h hv=>?_,fun {l l' rs} h hv=>?_⟩
   ·cases a with
    | gs b o k sz kc =>
      simp only [closeV] at h
      split at h
      ·rename_i cs hg
       split at h
       ·rename_i hle
        split at h
        ·rename_i l hl
         cases h
         obtain ⟨rb,ro,o',cap,c,e,fr,hmu,rfl,ho,hk,hheap,hsz⟩:=hv;obtain ⟨rb',ro',e1,_,_,c',e',fr',h1,_,h2⟩:=hm.blk b _ hg;rw [hmu] at e1;cases e1;refine ⟨_,cap,rfl,hk,?_⟩
         by_cases h0:k=0
         ·exact .inl h0
         ·refine .inr ⟨rb,ro+o,by rw [ho.resolve_right (by omega)],?_⟩
          have hcs:VRs w G ((cs.drop o).take (k*sz)) ((c'.toList.drop (ro+o)).take (k*sz)):=by
           have hcl:ro+cs.length≤c'.size∨cs.length=0:=by
            rcases CellsR.le h2 with h5 | h5
            ·right;simp [h5]
            ·left;exact h5
           refine VRs.mk ?_ fun i a v ha hvv=>?_
           ·simp;omega
           ·rw [List.getElem?_take] at ha hvv
            split at ha
            ·rename_i hi
             rw [if_pos hi] at hvv;rw [List.getElem?_drop] at ha hvv;obtain ⟨u,h6,h7⟩:=h2 _ a ha;have:u=v:=by
              have h8:c'[ro+o+i]?=some v:=by simpa using hvv
              rw [Nat.add_assoc,h6] at h8;exact Option.some.inj h8
             subst this;exact h7
            ·cases ha
          have hl2:=ih.2 hl hcs;refine RowR.mk (show rb<w.heap.size from (Array.getElem?_eq_some_iff.1 h1).1) fun i a hi=>?_;obtain ⟨v,h6,h7⟩:=hl2.get hi;refine ⟨v,?_,h7⟩;rw [cell_of h1];rw [List.getElem?_take] at h6
          split at h6
          ·rw [List.getElem?_drop] at h6;simpa using h6
          ·cases h6
        ·cases h
       ·cases h
      ·cases h
    | agg cs =>
      simp only [closeV] at h
      split at h
      ·rename_i l hl;cases h
       obtain ⟨rc,rfl,h1⟩:=hv;exact ⟨rc,rfl,ih.2 hl h1⟩
      ·cases h
    | sl k sz cs=>simp only [closeV,Option.some.injEq] at h;subst h;exact same rfl hv
    | z0=>simp only [closeV,Option.some.injEq] at h;subst h;exact hv
    | g v=>simp only [closeV,Option.some.injEq] at h;subst h;exact hv
    | _=>simp [closeV] at h
   ·cases l with
    | nil=>simp only [closeV.closeL,Option.some.injEq] at h;subst h;exact hv
    | cons a as =>
      simp only [closeV.closeL] at h
      split at h
      ·rename_i x y h1 h2;cases h
       obtain ⟨v,vs,rfl,h3,h4⟩:=hv;exact VRs.cons_mk (ih.1 h1 h3) (ih.2 h2 h4)
      ·cases h
def New (z:Nat) (w:World) (a:AV) (v:Value):Prop:=VR w ⟨fun _=>none,fun b=>z≤b∧b<w.heap.size⟩ a v
def Shut (P:Program) (f:FuncId) (args:List AV) (a:AV):Prop :=
 ∀ (w:World) (rargs:Array Value),Ats w args rargs.toList→Calls P f rargs w fun e w'=>∃ r,e=.returned r∧New w.heap.size w' a r∧Below w.heap.size w w'
theorem tri_of_step {f:FuncId} {rargs:Array Value} {out:AO} (hm:MR base GT F rd cur nx w G)
 (h:Calls P f rargs w fun e w'=>∃ I',PStep w G.I w' I'∧OutR w' ⟨fun _=>none,I'⟩ out e):Calls P f rargs w fun e w'=>∃ G',Stp base GT F rd cur nx w G cur nx w' G'∧OutR w' G' out e:=by
 refine h.mono ?_;rintro e w' ⟨I',hp,ho⟩;have hx:Ext w w' G ⟨G.μ,I'⟩:=⟨fun _ _ h=>h,hp.im,fun rb hr=>hp.same rb (hm.imm rb hr),fun rb c e fr hc=>⟨c,fr,(hp.same rb (Array.getElem?_eq_some_iff.1 hc).1).trans hc,rfl⟩⟩;have hx2:Ext w' w' ⟨fun _=>none,I'⟩ ⟨G.μ,I'⟩:=⟨fun _ _ e=>(by cases e),fun _ h=>h,fun _ _=>rfl,fun _ c _ fr h=>⟨c,fr,h,rfl⟩⟩
 refine ⟨⟨G.μ, I'⟩, { mr:={ fresh:=hm.fresh,blk:=fun b k hb=>?_,inj:=hm.inj,imm:=hp.lt,base:=Nat.le_trans hm.base hp.size,gt:=fun g cs hg=>RowR.mono hx cs (hm.gt g cs hg),dj:=hm.dj }
                      ext:=hx,os:=hp.os,tape:=hp.tape,output:=hp.output,size:=hp.size,fr:=fun rb hl _=>hp.same rb hl
                      prov:=fun b k rb ro hb hmu=>.inr ⟨b,k,ro,hb,hmu⟩,impr:=fun rb hi=>(hp.new rb hi).imp id .inl,mus:=fun _ _ h=>.inl h,nx:=Nat.le_refl _ },?_⟩
 ·obtain ⟨rb,ro,h1,h2,h3,h4⟩:=hm.blk b k hb
  refine ⟨rb,ro,h1,h2,fun hi=>?_,h4.mono hx (hp.same rb h4.lt)⟩;rcases hp.new rb hi with h5 | h5
  ·exact h3 h5
  ·have:=h4.lt;omega
 ·cases out with
  | ret a=>obtain ⟨r,h1,h2⟩:=ho;exact ⟨r,h1,VR.mono hx2 a h2⟩
  | pan a=>obtain ⟨r,h1,h2⟩:=ho;exact ⟨r,h1,VR.mono hx2 a h2⟩
theorem Shut.tri {f:FuncId} {args as:List AV} {a:AV} {K:Nat} (h:Shut P f as a) (hc:closeV.closeL (cur::rd) K args=some as):ATri P GT f args rd cur nx (.ret a) cur nx:=by
 intro base F w G rargs hm ha _;refine tri_of_step hm ((h w rargs ((closeV_spec hm K).2 hc ha)).mono ?_);rintro e w' ⟨r,rfl,hn,hB⟩;have hs:=hB.size;refine ⟨fun b=>G.I b∨(w.heap.size≤b∧b<w'.heap.size),⟨fun _ h=>.inl h,fun rb h=>h.imp id (·.1),fun rb h=>h.elim (fun h=>Nat.lt_of_lt_of_le (hm.imm rb h) hs) (·.2),hB.os,hB.tape,hB.output,hs,fun k hk=>hB.block k hk⟩,r,rfl,?_⟩;exact VR.mono (G':=⟨fun _=>none,fun b=>G.I b∨(w.heap.size≤b∧b<w'.heap.size)⟩) ⟨fun _ _ e=>(by cases e),fun _ h=>Or.inr h,fun _ _=>rfl,fun _ c _ fr h=>⟨c,fr,h,rfl⟩⟩ a hn
def shutCH (pick:FuncId→Bool) (K:Nat) (O:FuncId→List AV→Option AV):CH:=fun f args rd cur nx=>match pick f with
 | false=>none
 | true=>match closeV.closeL (cur::rd) K args with
   | some as=>match O f as with
     | some a=>some (.ret a,cur,nx)
     | none=>none
   | none=>none
theorem shutCH_ok {pick:FuncId→Bool} {K:Nat} {O:FuncId→List AV→Option AV}
 (hO:∀ f args a,pick f=true→O f args=some a→Shut P f args a∧∃ fn,P.funcs[f]?=some fn∧(fn.name == "runtime.NumGoroutine")=false∧fn.body.isNone=false):ChOk P GT (shutCH pick K O):=by
 have key:∀ {f args rd cur nx r},shutCH pick K O f args rd cur nx=some r→∃ as a,pick f=true∧closeV.closeL (cur::rd) K args=some as∧O f as=some a∧r=(.ret a,cur,nx):=by
  intro f args rd cur nx r h;unfold shutCH at h
  split at h
  ·cases h
  ·rename_i hp
   split at h
   ·rename_i as ha
    split at h
    ·rename_i a ho
     cases h;exact ⟨as,a,hp,ha,ho,rfl⟩
    ·cases h
   ·cases h
 refine ⟨fun h=>?_,fun h=>?_,fun h=>?_⟩
 ·obtain ⟨as,a,h1,h2,h3,h4⟩:=key h
  cases h4
  exact (hO _ _ _ h1 h3).1.tri h2
 ·obtain ⟨as,a,h1,h2,h3,h4⟩:=key h
  cases h4;exact Nat.le_refl _
 ·obtain ⟨as,a,h1,h2,h3,h4⟩:=key h
  exact (hO _ _ _ h1 h3).2
end
end Go.Ev
end
