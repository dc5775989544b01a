/- The evaluator at functions: what a call gives. -/
import Derived.Test.YtabliahkhafddaaGreatPb8
set_option linter.unusedSimpArgs false
noncomputable section
namespace Go.Ev
open Go.RowKit
mutual
def noIds:AV→Bool
 | .any | .g _ | .ept _ _ | .sl _ _ _ | .z0=>true
 | .ptr _ _ | .gs _ _ _ _ _ | .mp _=>false
 | .fn _ x y=>noIdsL x&&noIdsL y
 | .agg cs=>noIdsL cs
 | .tup cs=>noIdsL cs
 | .ifc _ v=>noIds v
def noIdsL:List AV→Bool
 | []=>true
 | a::as=>noIds a&&noIdsL as
end
def sealV (m:Mem):Nat→AV→Option AV
 | 0,_=>none
 | n + 1,a=>match a with
   | .gs b o k sz _=>match m.get b with
     | some (.cells cs)=>if o+k*sz≤cs.length then match sealL m n ((cs.drop o).take (k*sz)) with
        | some l=>some (.sl k sz l)
        | none=>none
       else none
     | _=>none
   | .agg cs=>match sealL m n cs with
     | some l=>some (.agg l)
     | none=>none
   | .tup cs=>match sealL m n cs with
     | some l=>some (.tup l)
     | none=>none
   | .ifc t v=>match sealV m n v with
     | some x=>some (.ifc t x)
     | none=>none
   | .fn f [] []=>some (.fn f [] [])
   | .ptr _ _ | .mp _ | .fn _ _ _=>none
   | a=>some a
where
 sealL (m:Mem):Nat→List AV→Option (List AV)
 | 0,_=>none
 | n + 1,l=>match l with
   | []=>some []
   | a::as=>match sealV m n a,sealL m n as with
     | some x,some y=>some (x::y)
     | _,_=>none
def resOne (P:Program) (ms:List Mem) (tm:Tm):ResultVar→Option AV
 | .tmp t=>some (tm.getA t)
 | .cell a t=>match rowAt ms (tm.getA a) with
   | some (cs,o)=>partA P t cs o
   | none=>none
def resL (P:Program) (ms:List Mem) (tm:Tm):List ResultVar→Option (List AV)
 | []=>some []
 | r::rs=>match resOne P ms tm r,resL P ms tm rs with
   | some x,some l=>some (x::l)
   | _,_=>none
def resA (P:Program) (ms:List Mem) (tm:Tm) (rs:List ResultVar):Option AV :=
 match resL P ms tm rs with
 | some [x]=>some x
 | some l=>some (.tup l)
 | none=>none
def undefT:Nat→Nat→Tm
 | 0,_=>.e
 | n+1,i=>Tri.put (.g undef) (undefT n (i+1)) i
def putArgs:List AV→Nat→Tm→Tm
 | [],_,tm=>tm
 | a::as,i,tm=>putArgs as (i+1) (Tri.put a tm i)
noncomputable def runF (P:Program) (GT:GTab) (ch:CH) (K:Nat) (rd:List Mem) (fn:Func) (c:Code) (args:List AV) (cur:Mem) (nx:Nat):Option (AO×Mem×Nat) :=
 match evC P GT ch rd K c ⟨putArgs args 0 (undefT fn.ntmps 0),cur,nx⟩ with
 | some (.nrm,s) | some (.ret,s)=>match resA P (s.cur::rd) s.tm fn.results.toList with
   | some v=>some (.ret v,s.cur,s.nx)
   | none=>none
 | some (.pan a,s)=>some (.pan a,s.cur,s.nx)
 | _=>none
noncomputable def evF (P:Program) (GT:GTab) (B:CH) (pol:FuncId→Bool) (K:Nat) (n:Nat):CH :=
 Nat.rec B (fun _ ih f args rd cur nx=>match B f args rd cur nx with
  | some r=>some r
  | none => match P.funcs[f]? with
    | none=>none
    | some fn=>match fn.body with
      | none=>none
      | some c=>match pol f&&noIdsL args with
        | true=>match runF P GT ih K [] fn c args .e 0 with
          | some (.ret v,m,_)=>match sealV m K v with
            | some x=>some (.ret x,cur,nx)
            | none=>none
          | some (.pan v,m,_)=>match sealV m K v with
            | some x=>some (.pan x,cur,nx)
            | none=>none
          | none=>none
        | false=>runF P GT ih K rd fn c args cur nx) n
def noCH:CH:=fun _ _ _ _ _=>none
theorem Q2t {P:Program} {GT:GTab}:ChOk P GT noCH:=⟨fun h=>(by cases h),fun h=>(by cases h),fun h=>(by cases h)⟩
structure PStep (w:World) (I:Nat→Prop) (w':World) (I':Nat→Prop):Prop where
 im:∀ rb,I rb→I' rb
 new:∀ rb,I' rb→I rb∨w.heap.size≤rb
 lt:∀ rb,I' rb→rb<w'.heap.size
 os:w'.os=w.os
 tape:w'.tape=w.tape
 output:w'.output=w.output
 size:w.heap.size≤w'.heap.size
 same:∀ k,k<w.heap.size→w'.heap[k]?=w.heap[k]?
def Pure (P:Program) (GT:GTab) (f:FuncId) (args:List AV) (out:AO):Prop :=
 ∀ (w:World) (I:Nat→Prop) (rargs:Array Value),(∀ rb,I rb→rb<w.heap.size)→(∀ g cs,GT g=some cs→RowR w ⟨fun _=>none,I⟩ g 0 cs)→VRs w ⟨fun _=>none,I⟩ args rargs.toList →
   Calls P f rargs w fun e w'=>∃ I',PStep w I w' I'∧OutR w' ⟨fun _=>none,I'⟩ out e
structure PrOk (P:Program):Prop where
 mix:P.follows .mixedOrders=true
 names:∀ (f:Nat) (fn:Func),P.funcs[f]?=some fn→(fn.name == "runtime.NumGoroutine")=false
 stat:∀ (f:Nat) (fn:Func) (c:Code),P.funcs[f]?=some fn→fn.body=some c→codeOk c=true
section
variable {P:Program} {GT:GTab} {ch:CH} {base:Nat} {F:Nat→Prop} {rd:List Mem} {cur:Mem} {nx:Nat} {w:World} {G:Gh}
mutual
theorem Q2i:∀ (a:AV) {r:Value},noIds a=true→VR w G a r→VR w G.bare a r
 | .any,_,_,_=>trivial
 | .g _,_,_,h=>h
 | .ptr _ _,_,h,_=>by simp [noIds] at h
 | .ept cs o,_,_,⟨rb,ro,h1,h2⟩=>⟨rb,ro,h1,bareRow cs h2⟩
 | .sl n _ cs,_,_,⟨a,cap,h1,hc,h2⟩=>⟨a,cap,h1,hc,h2.imp id fun ⟨rb,ro,h3,h4⟩=>⟨rb,ro,h3,bareRow cs h4⟩⟩
 | .gs _ _ _ _ _,_,h,_=>by simp [noIds] at h
 | .z0,_,_,h=>h
 | .mp _,_,h,_=>by simp [noIds] at h
 | .fn f x y,_,h,⟨rx,ry,h1,h2,h3⟩=>by
   simp only [noIds,Bool.and_eq_true] at h;exact ⟨rx,ry,h1,Q2j x h.1 h2,Q2j y h.2 h3⟩
 | .agg cs,_,h,⟨rc,h1,h2⟩=>⟨rc,h1,Q2j cs (by simpa [noIds] using h) h2⟩
 | .tup cs,_,h,⟨rc,h1,h2⟩=>⟨rc,h1,Q2j cs (by simpa [noIds] using h) h2⟩
 | .ifc t v,_,h,⟨x,h1,h2⟩=>⟨x,h1,Q2i v (by simpa [noIds] using h) h2⟩
theorem Q2j:∀ (a:List AV) {r:List Value},noIdsL a=true→VRs w G a r→VRs w G.bare a r
 | [],_,_,h=>h
 | a::as,_,h,⟨v,vs,h1,h2,h3⟩=>by
   simp only [noIdsL,Bool.and_eq_true] at h;exact ⟨v,vs,h1,Q2i a h.1 h2,Q2j as h.2 h3⟩
theorem bareRow:∀ (cs:List AV) {rb o:Nat},RowR w G rb o cs→RowR w G.bare rb o cs
 | [],_,_,_=>trivial
 | _::as,_,_,⟨h1,h2,h3⟩=>⟨h1,h2,bareRow as h3⟩
end

theorem Pure.tri {f : FuncId} {args:List AV} {out:AO} (h:Pure P GT f args out) (hn:noIdsL args=true):ATri P GT f args rd cur nx out cur nx:=by
 intro base F w G rargs hm ha _;refine (h w G.I rargs hm.imm (fun g cs hg=>bareRow cs (hm.gt g cs hg)) (Q2j args hn ha)).mono ?_;rintro e w' ⟨I',hp,ho⟩;have hx:Ext w w' G ⟨G.μ,I'⟩:=⟨fun _ _ h=>h,hp.im,fun rb hr=>hp.same rb (hm.imm rb hr),fun rb c e fr hc=>⟨c,fr,(hp.same rb (Array.getElem?_eq_some_iff.1 hc).1).trans hc,rfl⟩⟩;have hx2:Ext w' w' ⟨fun _=>none,I'⟩ ⟨G.μ,I'⟩:=⟨fun _ _ e=>(by cases e),fun _ h=>h,fun _ _=>rfl,fun _ c _ fr h=>⟨c,fr,h,rfl⟩⟩
 refine ⟨⟨G.μ, I'⟩, { mr:={ fresh:=hm.fresh,blk:=fun b k hb=>?_,inj:=hm.inj,imm:=hp.lt,base:=Nat.le_trans hm.base hp.size,gt:=fun g cs hg=>RowR.mono hx cs (hm.gt g cs hg),dj:=hm.dj }
                      ext:=hx,os:=hp.os,tape:=hp.tape,output:=hp.output,size:=hp.size,fr:=fun rb hl _=>hp.same rb hl
                      prov:=fun b k rb ro hb hmu=>.inr ⟨b,k,ro,hb,hmu⟩,impr:=fun rb hi=>(hp.new rb hi).imp id .inl,mus:=fun _ _ h=>.inl h,nx:=Nat.le_refl _ },?_⟩
 ·obtain ⟨rb,ro,h1,h2,h3,h4⟩:=hm.blk b k hb
  refine ⟨rb,ro,h1,h2,fun hi=>?_,h4.mono hx (hp.same rb h4.lt)⟩;rcases hp.new rb hi with h5 | h5
  ·exact h3 h5
  ·have:=h4.lt;omega
 ·cases out with
  | ret a=>obtain ⟨r,h1,h2⟩:=ho;exact ⟨r,h1,VR.mono hx2 a h2⟩
  | pan a=>obtain ⟨r,h1,h2⟩:=ho;exact ⟨r,h1,VR.mono hx2 a h2⟩
def resF (a:Act):ResultVar→Sem Value
 | .tmp t=>pure (a.tmps.getD t undef)
 | .cell b t=>do loadVar t (←asAddr (a.tmps.getD b undef))
theorem results_eq (fn:Func) (a:Act):results fn a.tmps=(fn.results.mapM (resF a) >>= fun (vs:Array Value)=>pure (if h:vs.size=1 then vs[0] else .tuple vs)):=by
 unfold results;refine congrArg (· >>= fun (vs:Array Value)=>pure (if h:vs.size=1 then vs[0] else .tuple vs)) ?_;refine congrArg (fun g=>fn.results.mapM g) ?_
 funext x
 cases x <;> rfl
theorem resOne_run (hm:MR base GT F rd cur nx w G) {tm:Tm} {a:Act} (ht:TmR w G tm a.tmps) {r:ResultVar} {x:AV} (h:resOne P (cur::rd) tm r=some x) :
 ∃ v,(resF a r).run P w=.ok v w∧VR w G x v:=by
 cases r with
 | tmp t =>
   simp only [resOne,Option.some.injEq] at h;subst h;exact ⟨_,rfl,Q2y (GT:=GT) hm ht (.tmp t)⟩
 | cell b t =>
   simp only [resOne] at h
   split at h
   ·rename_i cs o hr
    obtain ⟨rb,ro,h1,h2⟩:=rowAt_spec hm hr (Q2y (GT:=GT) hm ht (.tmp b));obtain ⟨v,h3,h4⟩:=run_partA (P:=P) h2 h;have h1':a.tmps.getD b undef=.pointer (some ⟨rb,ro+o,none⟩):=h1;exact ⟨v,by simp [resF,h1',asAddr,h3],h4⟩
   ·cases h
theorem resA_run (hm:MR base GT F rd cur nx w G) {tm:Tm} {a:Act} (ht:TmR w G tm a.tmps) {fn:Func} {x:AV} (h:resA P (cur::rd) tm fn.results.toList=some x) :
 ∃ v,(results fn a.tmps).run P w=.ok v w∧VR w G x v:=by
 have hl:∀ {rs:List ResultVar} {l:List AV},resL P (cur::rd) tm rs=some l→∃ vs:List Value,(rs.mapM (resF a)).run P w=.ok vs w∧VRs w G l vs:=by
  intro rs
  induction rs with
  | nil=>intro l h;simp only [resL,Option.some.injEq] at h;subst h;exact ⟨[],rfl,by rw [VRs]⟩
  | cons r rs ih =>
    intro l h;simp only [resL] at h
    split at h
    ·rename_i y l' h1 h2
     cases h
     obtain ⟨v,h3,h4⟩:=resOne_run hm ht h1;obtain ⟨vs,h5,h6⟩:=ih h2;refine ⟨v::vs,?_,VRs.cons_mk h4 h6⟩;simp only [List.mapM_cons,Sem.run_bind,h3,Result.andThen_ok,h5,Sem.run_pure]
    ·cases h
 unfold resA at h
 cases hr:resL P (cur::rd) tm fn.results.toList with
 | none=>rw [hr] at h;cases h
 | some l =>
   rw [hr] at h;obtain ⟨vs,h1,h2⟩:=hl hr;have hrun:(results fn a.tmps).run P w=.ok (if h:vs.toArray.size=1 then vs.toArray[0] else .tuple vs.toArray) w:=by
    rw [results_eq,Sem.run_bind,Array.mapM_eq_mapM_toList,Sem.run_map];rw [h1]
    rfl
   cases l with
   | nil =>
     cases h
     rw [VRs] at h2;subst h2;exact ⟨_,hrun,#[],rfl,by simp [VRs]⟩
   | cons y l =>
     obtain ⟨v,vs',rfl,h3,h4⟩:=h2
     cases l with
     | nil =>
       cases h
       rw [VRs] at h4;subst h4;exact ⟨_,hrun,h3⟩
     | cons z l =>
       cases h
       obtain ⟨v2,vs2,rfl,h5,h6⟩:=h4;refine ⟨_,hrun,?_⟩;rw [dif_neg (by simp)];exact ⟨_,rfl,VRs.cons_mk h3 (VRs.cons_mk h5 h6)⟩
theorem Q2h:∀ (n i t:Nat),(undefT n i).get t=if i≤t∧t<i+n then some (.g undef) else none
 | 0,i,t=>by rw [if_neg (by omega)];rfl
 | n+1,i,t=>by
   simp only [undefT,Tri.get_put,Q2h n (i+1) t]
   by_cases h:i=t
   ·subst h;simp
   ·rw [if_neg h]
    by_cases h2:i+1≤t∧t<i+1+n
    ·rw [if_pos h2,if_pos (by omega)]
    ·rw [if_neg h2,if_neg (by omega)]
theorem Q1x:∀ (l:List AV) (i t:Nat) (tm:Tm),(putArgs l i tm).get t=if i≤t∧t<i+l.length then l[t - i]? else tm.get t
 | [],i,t,tm=>by rw [if_neg (by simp)];rfl
 | a::as,i,t,tm=>by
   simp only [putArgs,List.length_cons];rw [Q1x as (i+1) t,Tri.get_put]
   by_cases h:i=t
   ·subst h
    rw [if_neg (by omega),if_pos rfl,if_pos (by omega),Nat.sub_self];rfl
   ·by_cases h2:i+1≤t∧t<i+1+as.length
    ·rw [if_pos h2,if_pos (by omega),show t - i=(t - (i+1))+1 by omega,List.getElem?_cons_succ]
    ·rw [if_neg h2,if_neg h,if_neg (by omega)]
theorem run_calls {f:FuncId} {fn:Func} {c:Code} {args:List AV} {s':St} {x:AX} {out:AO} (hf:P.funcs[f]?=some fn) (hb:fn.body=some c)
 (ht:Tr P GT rd c ⟨putArgs args 0 (undefT fn.ntmps 0),cur,nx⟩ x s')
 (hout:(x=.nrm∨x=.ret)∧(∃ v,resA P (s'.cur::rd) s'.tm fn.results.toList=some v∧out=.ret v)∨∃ a,x=.pan a∧out=.pan a):ATri P GT f args rd cur nx out s'.cur s'.nx:=by
 intro base F w G rargs hm ha hF;have hlen:=ha.len;refine calls_of_wp hf hb ?_;have htm:TmR w G (putArgs args 0 (undefT fn.ntmps 0)) (rargs++Array.replicate (fn.ntmps - rargs.size) undef):=by
  intro t x hx;rw [Q1x,Q2h] at hx;have hsz:rargs.size=args.length:=by simpa using hlen
  by_cases h:t<args.length
  ·have ha':args[t]?=some args[t]:=by simp [h]
   rw [if_pos ⟨Nat.zero_le _,by omega⟩,Nat.sub_zero,ha'] at hx
   cases hx
   obtain ⟨v,h1,h2⟩:=ha.get ha';refine ⟨v,?_,h2⟩;rw [Array.getElem?_append_left (by omega),←h1];simp
  ·rw [if_neg (by omega)] at hx
   split at hx
   ·rename_i ht'
    cases hx
    refine ⟨undef,?_,rfl⟩;rw [Array.getElem?_append_right (by omega),Array.getElem?_replicate,if_pos (by omega)]
   ·cases hx
 refine wp_mono (ht.wp base F [] w G { tmps:=rargs++Array.replicate (fn.ntmps - rargs.size) undef,defers:=[] } hm htm rfl hF) fun e a' w' h1=>?_;obtain ⟨G',he,hs,ht',hd⟩:=h1;rcases hout with ⟨hx,v,hv,rfl⟩ | ⟨a,rfl,rfl⟩
 ·have ht2:=ht' (fun u e=>by rcases hx with rfl | rfl <;> cases e)
  obtain ⟨r,h2,h3⟩:=resA_run hs.mr ht2 hv;rcases hx with rfl | rfl
  ·obtain rfl:e=.normal:=he
   exact ⟨hd,r,h2,G',hs,r,rfl,h3⟩
  ·obtain rfl:e=.ret:=he
   exact ⟨hd,r,h2,G',hs,r,rfl,h3⟩
 ·obtain ⟨r,rfl,h2⟩:=he
  exact ⟨hd,G',hs,r,rfl,h2⟩
def frz (m:Mem) (G:Gh):Nat→Prop:=fun rb=>G.I rb∨∃ b k ro,m.get b=some k∧G.μ b=some (rb,ro)
theorem sealV_spec {m:Mem} (hm:MR base GT F [] m nx w G):∀ (n:Nat),(∀ {a a':AV} {r:Value},sealV m n a=some a'→VR w G a r→VR w ⟨fun _=>none,frz m G⟩ a' r) ∧
 (∀ {l l':List AV} {rs:List Value},sealV.sealL m n l=some l'→VRs w G l rs→VRs w ⟨fun _=>none,frz m G⟩ l' rs):=by
 have hx:Ext w w G.bare ⟨fun _=>none,frz m G⟩:=⟨fun _ _ e=>(by cases e),fun _ h=>.inl h,fun _ _=>rfl,fun _ c _ fr h=>⟨c,fr,h,rfl⟩⟩;have same:∀ {a:AV} {r:Value},noIds a=true→VR w G a r→VR w ⟨fun _=>none,frz m G⟩ a r:=fun hn hv=>VR.mono hx _ (Q2i _ hn hv);intro n
 induction n with
 | zero=>exact ⟨fun h=>by simp [sealV] at h,fun h=>by simp [sealV.sealL] at h⟩
 | succ n ih =>
   refine ⟨fun {a a' r} h hv=>?_,fun {l l' rs} h hv=>?_⟩
   ·cases a with
    | gs b o k sz kc =>
      simp only [sealV] at h
      split at h
      ·rename_i cs hg
       split at h
       ·rename_i hle
        split at h
        ·rename_i l hl
         cases h
         obtain ⟨rb,ro,o',cap,c,e,fr,hmu,rfl,ho,hk,hheap,hsz⟩:=hv;obtain ⟨rb',ro',e1,_,_,c',e',fr',h1,_,h2⟩:=hm.blk b _ (Q0b hg);rw [hmu] at e1;cases e1;refine ⟨_,cap,rfl,hk,?_⟩
         by_cases h0:k=0
         ·exact .inl h0
         ·refine .inr ⟨rb,ro+o,by rw [ho.resolve_right (by omega)],?_⟩
          have hcs:VRs w G ((cs.drop o).take (k*sz)) ((c'.toList.drop (ro+o)).take (k*sz)):=by
           have hcl:ro+cs.length≤c'.size∨cs.length=0:=by
            rcases CellsR.le h2 with h5 | h5
            ·right;simp [h5]
            ·left;exact h5
           refine VRs.mk ?_ fun i a v ha hvv=>?_
           ·simp;omega
           ·rw [List.getElem?_take] at ha hvv
            split at ha
            ·rename_i hi
             rw [if_pos hi] at hvv;rw [List.getElem?_drop] at ha hvv;obtain ⟨u,h6,h7⟩:=h2 _ a ha;have:u=v:=by
              have h8:c'[ro+o+i]?=some v:=by simpa using hvv
              rw [Nat.add_assoc,h6] at h8;exact Option.some.inj h8
             subst this;exact h7
            ·cases ha
          have hl2:=ih.2 hl hcs;refine RowR.mk (show frz m G rb from Or.inr ⟨b,_,ro,hg,hmu⟩) fun i a hi=>?_;obtain ⟨v,h6,h7⟩:=hl2.get hi;refine ⟨v,?_,h7⟩;rw [cell_of h1];rw [List.getElem?_take] at h6
          split at h6
          ·rw [List.getElem?_drop] at h6;simpa using h6
          ·cases h6
        ·cases h
       ·cases h
      ·cases h
    | agg cs =>
      simp only [sealV] at h
      split at h
      ·rename_i l hl;cases h
       obtain ⟨rc,rfl,h1⟩:=hv;exact ⟨rc,rfl,ih.2 hl h1⟩
      ·cases h
    | tup cs =>
      simp only [sealV] at h
      split at h
      ·rename_i l hl;cases h
       obtain ⟨rc,rfl,h1⟩:=hv;exact ⟨rc,rfl,ih.2 hl h1⟩
      ·cases h
    | ifc t v =>
      simp only [sealV] at h
      split at h
      ·rename_i x hx';cases h
       obtain ⟨y,rfl,h1⟩:=hv;exact ⟨y,rfl,ih.1 hx' h1⟩
      ·cases h
    | fn f x y =>
      cases x with
      | nil =>
        cases y with
        | nil=>simp only [sealV,Option.some.injEq] at h;subst h;exact same (by simp [noIds,noIdsL]) hv
        | cons _ _=>simp [sealV] at h
      | cons _ _=>simp [sealV] at h
    | ptr b o=>simp [sealV] at h
    | mp b=>simp [sealV] at h
    | any=>simp only [sealV,Option.some.injEq] at h;subst h;trivial
    | g v=>simp only [sealV,Option.some.injEq] at h;subst h;exact hv
    | ept cs o=>simp only [sealV,Option.some.injEq] at h;subst h;exact same rfl hv
    | sl k sz cs=>simp only [sealV,Option.some.injEq] at h;subst h;exact same rfl hv
    | z0=>simp only [sealV,Option.some.injEq] at h;subst h;exact hv
   ·cases l with
    | nil=>simp only [sealV.sealL,Option.some.injEq] at h;subst h;exact hv
    | cons a as =>
      simp only [sealV.sealL] at h
      split at h
      ·rename_i x y h1 h2;cases h
       obtain ⟨v,vs,rfl,h3,h4⟩:=hv;exact VRs.cons_mk (ih.1 h1 h3) (ih.2 h2 h4)
      ·cases h
theorem Q3x {f:FuncId} {args:List AV} {m:Mem} {n K:Nat} {out out':AO} (h:ATri P GT f args [] .e 0 out m n)
 (ho:(∃ v x,out=.ret v∧out'=.ret x∧sealV m K v=some x)∨∃ v x,out=.pan v∧out'=.pan x∧sealV m K v=some x):Pure P GT f args out':=by
 intro w I rargs hI hgt ha
 have hm:MR w.heap.size GT (fun _=>True) [] .e 0 w ⟨fun _=>none,I⟩ :=
  { fresh:=fun _ _ _=>rfl,blk:=fun b k hb=>by simp [getR,Tri.get_e] at hb,inj:=fun b b' k k' rb ro ro' h1=>by simp [getR,Tri.get_e] at h1
    imm:=hI,base:=Nat.le_refl _,gt:=hgt,dj:=fun b k hb=>by cases hb }
 refine (h _ _ w _ rargs hm ha fun _ _ _=>trivial).mono ?_;rintro e w' ⟨G',hs,hout⟩;refine ⟨frz m G',{ im:=fun rb hi=>.inl (hs.ext.im rb hi),new:=fun rb hi=>?_,lt:=fun rb hi=>?_,os:=hs.os,tape:=hs.tape,output:=hs.output,size:=hs.size,same:=fun k hk=>hs.fr k hk fun b x ro hb=>by cases hb },?_⟩
 ·rcases hi with hi | ⟨b,k,ro,h1,h2⟩
  ·rcases hs.impr rb hi with h3 | h3 | ⟨b0,k0,ro0,h3,_⟩
   ·exact .inl h3
   ·exact .inr h3
   ·cases h3
  ·rcases hs.prov b k rb ro h1 h2 with h3 | ⟨b0,k0,ro0,h3,_⟩
   ·exact .inr h3
   ·cases h3
 ·rcases hi with hi | ⟨b,k,ro,h1,h2⟩
  ·exact hs.mr.imm rb hi
  ·obtain ⟨rb',ro',h3,_,_,h4⟩:=hs.mr.blk b k (Q0b h1)
   rw [h2] at h3;cases h3;exact h4.lt
 ·rcases ho with ⟨v,x,rfl,rfl,h1⟩ | ⟨v,x,rfl,rfl,h1⟩
  ·obtain ⟨r,h2,h3⟩:=hout
   exact ⟨r,h2,(sealV_spec hs.mr K).1 h1 h3⟩
  ·obtain ⟨r,h2,h3⟩:=hout
   exact ⟨r,h2,(sealV_spec hs.mr K).1 h1 h3⟩
theorem runF_tri (hp:PrOk P) (hch:ChOk P GT ch) {K:Nat} {f:FuncId} {fn:Func} {c:Code} {args:List AV} {out:AO} {m:Mem} {n:Nat} (hf:P.funcs[f]?=some fn) (hb:fn.body=some c)
 (h:runF P GT ch K rd fn c args cur nx=some (out,m,n)):ATri P GT f args rd cur nx out m n∧nx≤n:=by
 have hok:=hp.stat f fn c hf hb;unfold runF at h
 split at h
 ·rename_i s hs
  have ht:=evC_sound hch hp.mix hok hs
  split at h
  ·rename_i v hv;cases h
   exact ⟨run_calls hf hb ht (.inl ⟨.inl rfl,v,hv,rfl⟩),ht.nx⟩
  ·cases h
 ·rename_i s hs
  have ht:=evC_sound hch hp.mix hok hs
  split at h
  ·rename_i v hv;cases h
   exact ⟨run_calls hf hb ht (.inl ⟨.inr rfl,v,hv,rfl⟩),ht.nx⟩
  ·cases h
 ·rename_i a s hs
  have ht:=evC_sound hch hp.mix hok hs
  cases h
  exact ⟨run_calls hf hb ht (.inr ⟨a,rfl,rfl⟩),ht.nx⟩
 ·cases h
theorem evF_ok (hp:PrOk P) {B:CH} {pol:FuncId→Bool} {K:Nat} (hB:ChOk P GT B):∀ n,ChOk P GT (evF P GT B pol K n):=by
 intro n
 induction n with
 | zero=>exact hB
 | succ n ih =>
   have key:∀ {f args rd cur nx out cur' nx'},evF P GT B pol K (n+1) f args rd cur nx=some (out,cur',nx')→(ATri P GT f args rd cur nx out cur' nx'∧nx≤nx')∧∃ fn,P.funcs[f]?=some fn∧fn.body.isNone=false:=by
    intro f args rd cur nx out cur' nx' h
    change (match B f args rd cur nx with
     | some r=>some r
     | none => match P.funcs[f]? with
       | none=>none
       | some fn=>match fn.body with
         | none=>none
         | some c=>match pol f&&noIdsL args with
           | true=>match runF P GT (evF P GT B pol K n) K [] fn c args .e 0 with
             | some (.ret v,m,_)=>match sealV m K v with
               | some x=>some (.ret x,cur,nx)
               | none=>none
             | some (.pan v,m,_)=>match sealV m K v with
               | some x=>some (.pan x,cur,nx)
               | none=>none
             | none=>none
           | false=>runF P GT (evF P GT B pol K n) K rd fn c args cur nx)=some (out,cur',nx') at h
    split at h
    ·rename_i r hr
     cases h
     obtain ⟨fn,h1,_,h2⟩:=hB.fn hr;exact ⟨⟨hB.tri hr,hB.nx hr⟩,fn,h1,h2⟩
    ·split at h
     ·cases h
     ·rename_i fn hf
      split at h
      ·cases h
      ·rename_i c hb
       refine ⟨?_,fn,hf,by rw [hb];rfl⟩
       split at h
       ·rename_i hni
        simp only [Bool.and_eq_true] at hni
        split at h
        ·rename_i v m k hr
         split at h
         ·rename_i x hx;cases h
          have:=(runF_tri hp ih hf hb hr).1;exact ⟨(Q3x this (.inl ⟨v,x,rfl,rfl,hx⟩)).tri hni.2,Nat.le_refl _⟩
         ·cases h
        ·rename_i v m k hr
         split at h
         ·rename_i x hx;cases h
          have:=(runF_tri hp ih hf hb hr).1;exact ⟨(Q3x this (.inr ⟨v,x,rfl,rfl,hx⟩)).tri hni.2,Nat.le_refl _⟩
         ·cases h
        ·cases h
       ·exact runF_tri hp ih hf hb h
   refine ⟨fun h=>(key h).1.1,fun h=>(key h).1.2,fun {f args rd cur nx r} h=>?_⟩;obtain ⟨fn,h1,h2⟩:=(key (out:=r.1) (cur':=r.2.1) (nx':=r.2.2) h).2;exact ⟨fn,h1,hp.names f fn h1,h2⟩
def tabCH (O:FuncId→List AV→Option AV):CH:=fun f args _ cur nx=>match O f args with
 | some a=>match noIdsL args with
   | true=>some (.ret a,cur,nx)
   | false=>none
 | none=>none
theorem tabCH_ok {O:FuncId→List AV→Option AV} (hO:∀ f args a,O f args=some a→Pure P GT f args (.ret a)∧∃ fn,P.funcs[f]?=some fn∧(fn.name == "runtime.NumGoroutine")=false∧fn.body.isNone=false):ChOk P GT (tabCH O):=by
 have key:∀ {f args rd cur nx r},tabCH O f args rd cur nx=some r→∃ a,O f args=some a∧noIdsL args=true∧r=(.ret a,cur,nx):=by
  intro f args rd cur nx r h;unfold tabCH at h
  split at h
  ·rename_i a ha
   split at h
   ·rename_i hn;cases h;exact ⟨a,ha,hn,rfl⟩
   ·cases h
  ·cases h
 refine ⟨fun h=>?_,fun h=>?_,fun h=>?_⟩
 ·obtain ⟨a,h1,h2,h3⟩:=key h
  cases h3
  exact (hO _ _ _ h1).1.tri h2
 ·obtain ⟨a,h1,h2,h3⟩:=key h
  cases h3;exact Nat.le_refl _
 ·obtain ⟨a,h1,h2,h3⟩:=key h
  exact (hO _ _ _ h1).2
def fnOk (fn:Func):Bool:=!(fn.name == "runtime.NumGoroutine")&&match fn.body with | some c=>codeOk c | none=>true
theorem PrOk.of_all {P:Program} (hm:P.follows .mixedOrders=true) (h:P.funcs.toList.all fnOk=true):PrOk P:=by
 have hk:∀ (f:Nat) (fn:Func),P.funcs[f]?=some fn→fnOk fn=true:=fun f fn hf=>List.all_eq_true.1 h fn (by rw [Array.mem_toList_iff];exact Array.mem_of_getElem? hf);refine ⟨hm,fun f fn hf=>?_,fun f fn c hf hb=>?_⟩
 ·have:=hk f fn hf
  simp only [fnOk,Bool.and_eq_true,Bool.not_eq_true'] at this;exact this.1
 ·have:=hk f fn hf
  simp only [fnOk,hb,Bool.and_eq_true] at this;exact this.2
theorem evF_pure (hp:PrOk P) {B:CH} {pol:FuncId→Bool} {K n:Nat} (hB:ChOk P GT B) {f:FuncId} {args:List AV} {v:AV}
 (h:evF P GT B pol K n f args [] .e 0=some (.ret v,.e,0)) (hs:sealV .e 1 v=some v):Pure P GT f args (.ret v) :=
 Q3x ((evF_ok hp hB n).tri h) (.inl ⟨v,v,rfl,rfl,hs⟩)
end
end Go.Ev
end
