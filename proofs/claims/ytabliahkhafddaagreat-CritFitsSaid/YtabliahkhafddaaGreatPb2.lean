/- The evaluator at a region: its operations one after the other. -/
import Derived.Test.YtabliahkhafddaaGreatPb1
set_option linter.unusedSimpArgs false
noncomputable section
namespace Go.Ev
open Go.RowKit
abbrev Tm:=Tri AV
def Tm.getA (tm:Tm) (t:Nat):AV:=Option.casesOn (motive:=fun _=>AV) (tm.get t) .any (fun a=>a)
structure St where
 tm:Tm
 cur:Mem
 nx:Nat
deriving Inhabited
inductive AO where
 | ret (a:AV)
 | pan (a:AV)
inductive AX where
 | nrm
 | exit (id:Nat)
 | gto (l:Nat)
 | ret
 | pan (a:AV)
abbrev CH:=FuncId→List AV→List Mem→Mem→Nat→Option (AO×Mem×Nat)
def OutR (w:World) (G:Gh):AO→Ending→Prop
 | .ret a,e=>∃ r,e=.returned r∧VR w G a r
 | .pan a,e=>∃ r,e=.panicked [{ v:=r,recovered:=false }]∧VR w G a r
def ATri (P:Program) (GT:GTab) (f:FuncId) (args:List AV) (rd:List Mem) (cur:Mem) (nx:Nat) (out:AO) (cur':Mem) (nx':Nat):Prop :=
 ∀ (base:Nat) (F:Nat→Prop) (w:World) (G:Gh) (rargs:Array Value),MR base GT F rd cur nx w G→VRs w G args rargs.toList→(∀ b,nx≤b→b<nx'→F b) →
   Calls P f rargs w fun e w'=>∃ G',Stp base GT F rd cur nx w G cur' nx' w' G'∧OutR w' G' out e
structure ChOk (P:Program) (GT:GTab) (ch:CH):Prop where
 tri:∀ {f args rd cur nx out cur' nx'},ch f args rd cur nx=some (out,cur',nx')→ATri P GT f args rd cur nx out cur' nx'
 nx:∀ {f args rd cur nx out cur' nx'},ch f args rd cur nx=some (out,cur',nx')→nx≤nx'
 fn:∀ {f args rd cur nx r},ch f args rd cur nx=some r→∃ fn,P.funcs[f]?=some fn∧(fn.name == "runtime.NumGoroutine")=false∧fn.body.isNone=false
def evO (GT:GTab) (tm:Tm):Operand→AV
 | .tmp t=>tm.getA t
 | .const v=>avc v
 | .global g=>match GT g with
   | some cs=>.ept cs 0
   | none=>.any
 | .func f=>.fn (.func f) [] []
def putT (tm:Tm):Option Tmp→AV→Tm
 | some d,v=>Tri.set v tm d
 | none,_=>tm
def wantA (ops:Array Oper) (o:Oper) (tm:Tm):Option Bool :=
 match o.guard with
 | none=>some true
 | some (j,want)=>match (ops[j]?).bind (·.dst) with
   | none=>some false
   | some t=>match tm.get t with
     | some (.g v)=>some (match v with | .bool b=>b==want | _=>false)
     | _=>none
inductive OR where
 | val (v:Option AV)
 | pan (a:AV)
def calleeA (ev:Operand→AV) (c:Call):Option (FuncId×List AV) :=
 match c.callee with
 | .value x=>match ev x with
   | .fn (.func f) first cap=>some (f,first++c.args.toList.map ev++cap)
   | _=>none
 | _=>none
def evOne (P:Program) (GT:GTab) (ch:CH) (rd:List Mem) (cur:Mem) (nx:Nat) (tm:Tm) (o:Oper):Option (OR×Mem×Nat) :=
 match o.op with
 | .call c=>match c.callee with
   | .builtin _=>match evMem P rd cur nx (evO GT tm) o.op o.type with
     | some (v,m,n)=>some (.val v,m,n)
     | none=>none
   | _ => match calleeA (evO GT tm) c with
     | some (f,args)=>match ch f args rd cur nx with
       | some (.ret a,m,n)=>some (.val (some a),m,n)
       | some (.pan a,m,n)=>some (.pan a,m,n)
       | none=>none
     | none=>none
 | .panic x=>match evO GT tm x with
   | .ifc t v=>some (.pan (.ifc t v),cur,nx)
   | _=>none
 | op=>match evMem P rd cur nx (evO GT tm) op o.type with
   | some (v,m,n)=>some (.val v,m,n)
   | none=>none
def evOps (P:Program) (GT:GTab) (ch:CH) (rd:List Mem) (ops:Array Oper):List Nat→St→Option (AX×St)
 | [],s=>some (.nrm,s)
 | i :: is,s=>match ops[i]? with
   | none=>evOps P GT ch rd ops is s
   | some o=>match wantA ops o s.tm with
     | none=>none
     | some false=>evOps P GT ch rd ops is { s with tm:=putT s.tm o.dst (.g undef) }
     | some true=>match evOne P GT ch rd s.cur s.nx s.tm o with
       | some (.val v,m,n)=>evOps P GT ch rd ops is ⟨putT s.tm o.dst (v.getD (.g undef)),m,n⟩
       | some (.pan a,m,n)=>some (.pan a,⟨s.tm,m,n⟩)
       | none=>none
def TmR (w:World) (G:Gh) (tm:Tm) (ts:Array Value):Prop:=∀ t a,tm.get t=some a→∃ v,ts[t]?=some v∧VR w G a v
section
variable {P:Program} {GT:GTab} {ch:CH} {base:Nat} {F:Nat→Prop} {rd:List Mem} {cur:Mem} {nx:Nat} {w:World} {G:Gh}
theorem getA_some {tm:Tm} {t:Nat} {a:AV} (h:tm.get t=some a):tm.getA t=a:=by unfold Tm.getA;rw [h]
theorem getA_none {tm:Tm} {t:Nat} (h:tm.get t=none):tm.getA t=.any:=by unfold Tm.getA;rw [h]
theorem getA_congr {tm tm':Tm} {t:Nat} (h:tm.get t=tm'.get t):tm.getA t=tm'.getA t:=by unfold Tm.getA;rw [h]
theorem TmR.mono {w':World} {G':Gh} {tm:Tm} {ts:Array Value} (h:Ext w w' G G') (ht:TmR w G tm ts):TmR w' G' tm ts:=fun t a e=>by
 obtain ⟨v,h1,h2⟩:=ht t a e;exact ⟨v,h1,VR.mono h a h2⟩
theorem TmR.ext {tm tm':Tm} {ts:Array Value} (ht:TmR w G tm ts) (h:∀ t,tm'.get t=tm.get t):TmR w G tm' ts:=fun t a e=>ht t a (by rw [←h];exact e)
theorem TmR.getA {tm:Tm} {ts:Array Value} (ht:TmR w G tm ts) (t:Nat):VR w G (tm.getA t) (ts.getD t undef):=by
 cases h:tm.get t with
 | none=>rw [getA_none h];trivial
 | some y =>
   obtain ⟨v,h1,h2⟩:=ht t y h;rw [getA_some h];simp [Array.getD_eq_getD_getElem?,h1];exact h2
theorem Q2y (hm:MR base GT F rd cur nx w G) {tm:Tm} {a:Act} (ht:TmR w G tm a.tmps) (x:Operand):VR w G (evO GT tm x) (a.eval x):=by
 cases x with
 | tmp t=>exact ht.getA t
 | const v=>exact avc_spec v
 | global g =>
   show VR w G (match GT g with | some cs=>.ept cs 0 | none=>.any) _
   split
   ·rename_i cs hg;exact ⟨g,0,rfl,hm.gt g cs hg⟩
   ·trivial
 | func f=>exact ⟨#[],#[],rfl,by simp [VRs],by simp [VRs]⟩
theorem Q1w (tm:Tm) (d:Option Tmp) (v:AV) (t:Nat):(putT tm d v).get t=if d=some t then (tm.get t).map (fun _=>v) else tm.get t:=by
 cases d with
 | none=>simp [putT]
 | some d=>simp only [putT,Tri.get_set,Option.some.injEq]
theorem Q1g {tm:Tm} {a:Act} (ht:TmR w G tm a.tmps) {x:AV} {v:Value} (hv:VR w G x v) (dst:Option Tmp):TmR w G (putT tm dst x) (a.put dst v).tmps:=by
 cases dst with
 | none=>exact ht
 | some d =>
   intro t y hy;rw [Q1w] at hy;simp only [Act.put]
   by_cases h:d=t
   ·subst h
    rw [if_pos rfl] at hy
    cases hg:tm.get d with
    | none=>rw [hg] at hy;cases hy
    | some z =>
      rw [hg] at hy
      cases hy
      obtain ⟨u,h1,_⟩:=ht d z hg;have hlt:=(Array.getElem?_eq_some_iff.1 h1).1;exact ⟨v,by simp [hlt],hv⟩
   ·rw [if_neg (by simpa using h)] at hy
    obtain ⟨u,h1,h2⟩:=ht t y hy;exact ⟨u,by rw [Array.getElem?_setIfInBounds_ne h];exact h1,h2⟩
theorem Q1i {ops:Array Oper} {o:Oper} {tm:Tm} {a:Act} {b:Bool} (ht:TmR w G tm a.tmps) (h:wantA ops o tm=some b):Region.wanted o (yielded ops a.tmps)=b:=by
 unfold wantA at h;unfold Region.wanted
 split at h
 ·rename_i hg;cases h;rw [hg]
 ·rename_i j want hg
  rw [hg];simp only
  split at h
  ·rename_i hd
   cases h
   unfold yielded;rw [hd];rfl
  ·rename_i t hd
   split at h
   ·rename_i v hv
    cases h
    obtain ⟨u,h3,h2⟩:=ht _ _ hv;obtain rfl:u=v:=h2;unfold yielded;rw [hd];simp only [Option.bind_some,h3]
    cases u <;> simp
   ·cases h
theorem evMapSet_nx {t:TypeId} {m k x:AV} {v:Option AV} {c:Mem} {n:Nat} (h:evMapSet P cur nx t m k x=some (v,c,n)):nx≤n:=by
 unfold evMapSet at h
 split at h
 ·split at h
  ·split at h <;> cases h <;> exact Nat.le_refl _
  ·cases h
 ·cases h
theorem evMapEntry_nx {t:TypeId} {m k:AV} {v:Option AV} {c:Mem} {n:Nat} (h:evMapEntry P cur nx t m k=some (v,c,n)):nx≤n:=by
 unfold evMapEntry at h
 split at h
 ·split at h
  ·split at h
   ·split at h <;> cases h;exact Nat.le_refl _
   ·split at h <;> cases h;exact Nat.le_refl _
   ·cases h
  ·cases h
 ·cases h
theorem evEntryStore_nx {m k x:AV} {v:Option AV} {c:Mem} {n:Nat} (h:evEntryStore cur nx m k x=some (v,c,n)):nx≤n:=by
 unfold evEntryStore at h
 split at h
 ·split at h
  ·split at h <;> cases h;exact Nat.le_refl _
  ·cases h
 ·cases h
theorem evDelete_nx {t:TypeId} {m k:AV} {v:Option AV} {c:Mem} {n:Nat} (h:evDelete P cur nx t m k=some (v,c,n)):nx≤n:=by
 unfold evDelete at h
 split at h
 ·split at h
  ·split at h <;> cases h <;> exact Nat.le_refl _
  ·cases h
 ·cases h
theorem evMakeMap_nx {t:TypeId} {r:Option AV} {v:Option AV} {c:Mem} {n:Nat} (h:evMakeMap P cur nx t r=some (v,c,n)):nx≤n:=by
 unfold evMakeMap at h
 split at h
 ·cases h;omega
 ·split at h <;> cases h;omega
 ·cases h
theorem evMem_nx {ev:Operand→AV} {op:Op} {ty:TypeId} {v:Option AV} {m:Mem} {n:Nat} (h:evMem P rd cur nx ev op ty=some (v,m,n)):nx≤n:=by
 have pureCase:∀ {op:Op},(evPure P (cur::rd) ev op ty).map (fun a=>(some a,cur,nx))=some (v,m,n)→nx≤n:=by
  intro op h
  cases hp:evPure P (cur::rd) ev op ty with
  | none=>rw [hp] at h;cases h
  | some a=>rw [hp] at h;cases h;exact Nat.le_refl _
 unfold evMem evStore at h
 split at h
 ·split at h <;> cases h;omega
 ·split at h <;> cases h;omega
 ·split at h <;> cases h;omega
 ·split at h
  ·split at h
   ·split at h
    ·split at h <;> cases h;omega
    ·cases h
   ·cases h
  ·cases h
 ·split at h
  ·split at h
   ·split at h
    ·split at h <;> cases h;omega
    ·cases h
   ·cases h
  ·cases h
 ·split at h
  ·split at h
   ·split at h <;> cases h;omega
   ·cases h
  ·cases h
 ·exact evMakeMap_nx h
 ·split at h <;> cases h;omega
 ·split at h
  ·split at h
   ·split at h <;> cases h <;> exact Nat.le_refl _
   ·cases h
  ·cases h
 ·exact evMapSet_nx h
 ·exact evMapSet_nx h
 ·exact evMapEntry_nx h
 ·exact evEntryStore_nx h
 ·split at h
  ·split at h
   ·cases h;omega
   ·cases h
  ·exact pureCase h
 ·split at h
  ·unfold evAppend at h
   split at h
   ·split at h
    ·split at h
     ·split at h
      ·split at h <;> cases h;omega
      ·split at h
       ·split at h
        ·split at h <;> cases h;omega
        ·split at h <;> cases h;omega
        ·split at h
         ·split at h
          ·cases h;omega
          ·split at h <;> cases h;omega
         ·cases h
        ·cases h
       ·cases h
     ·cases h
    ·unfold evAppZ at h
     split at h
     ·split at h <;> cases h;omega
     ·cases h
    ·cases h
   ·cases h
  ·exact evDelete_nx h
  ·unfold evClear at h
   split at h
   ·split at h
    ·split at h <;> cases h;exact Nat.le_refl _
    ·cases h
   ·cases h
  ·exact pureCase h
 ·exact pureCase h
theorem Q4e (hch:ChOk P GT ch) {tm:Tm} {o:Oper} {r:OR} {m:Mem} {n:Nat} (h:evOne P GT ch rd cur nx tm o=some (r,m,n)):nx≤n:=by
 unfold evOne at h
 split at h
 ·split at h
  ·split at h
   ·rename_i hm;cases h;exact evMem_nx hm
   ·cases h
  ·split at h
   ·split at h
    ·rename_i hc;cases h;exact hch.nx hc
    ·rename_i hc;cases h;exact hch.nx hc
    ·cases h
   ·cases h
 ·split at h <;> cases h;exact Nat.le_refl _
 ·split at h
  ·rename_i hm;cases h;exact evMem_nx hm
  ·cases h
theorem evOps_nx (hch:ChOk P GT ch) {ops:Array Oper}:∀ {is:List Nat} {s:St} {x:AX} {s':St},evOps P GT ch rd ops is s=some (x,s')→s.nx≤s'.nx:=by
 intro is
 induction is with
 | nil=>intro s x s' h;simp only [evOps,Option.some.injEq,Prod.mk.injEq] at h;rw [h.2];exact Nat.le_refl _
 | cons i is ih =>
   intro s x s' h;simp only [evOps] at h
   split at h
   ·exact ih h
   ·split at h
    ·cases h
    ·have:=ih h;exact this
    ·split at h
     ·rename_i h1;have h2:=Q4e hch h1;have:=ih h;simp only at this;omega
     ·rename_i h1;have h2:=Q4e hch h1;cases h;exact h2
     ·cases h
theorem oper_wp {o:Oper} {a:Act} {K:Act→World→Prop} {Q:Exit→Act→World→Prop} {n:Next} {w':World} (h:(execOp a.eval o).run P w=.ok n w')
 (hn:match n with | .value v=>K (a.put o.dst v) w' | .skip=>K (a.put o.dst undef) w' | _=>False):o.wp P a w K Q:=by
 unfold Oper.wp;rw [h]
 cases n <;> first | exact hn | exact hn.elim
theorem Q2w (hch:ChOk P GT ch) (hm:MR base GT F rd cur nx w G) {tm:Tm} {a:Act} (ht:TmR w G tm a.tmps) {o:Oper} {r:OR} {m:Mem} {n:Nat} (h:evOne P GT ch rd cur nx tm o=some (r,m,n))
 (hF:∀ b,nx≤b→b<n→F b) {K:Act→World→Prop} {Q:Exit→Act→World→Prop}
 (hval:∀ (av:Option AV) (v:Value) (w':World) (G':Gh),r=.val av→Stp base GT F rd cur nx w G m n w' G'→VR w' G' (av.getD (.g undef)) v→K (a.put o.dst v) w')
 (hpan:∀ (av:AV) (v:Value) (w':World) (G':Gh),r=.pan av→Stp base GT F rd cur nx w G m n w' G'→VR w' G' av v→Q (.panic [{ v:=v,recovered:=false }]) a w'):o.wp P a w K Q:=by
 have H:=Q2y hm ht;have viaMem:∀ {v:Option AV},r=.val v→evMem P rd cur nx (evO GT tm) o.op o.type=some (v,m,n)→o.wp P a w K Q:=by
  intro v hr he;obtain ⟨nn,w',G',h1,h2,h3⟩:=evMem_sound (P:=P) hm H he hF;rw [←execOp_mkO] at h1;refine oper_wp h1 ?_
  cases nn with
  | value u =>
    cases v with
    | none=>exact h2.elim
    | some x=>exact hval (some x) u w' G' hr h3 h2
  | skip =>
    cases v with
    | none=>exact hval none undef w' G' hr h3 rfl
    | some x=>exact h2.elim
  | _=>cases v <;> exact h2.elim
 unfold evOne at h
 split at h
 ·rename_i c hop
  split at h
  ·split at h
   ·rename_i v m' n' he
    cases h
    exact viaMem rfl he
   ·cases h
  ·split at h
   ·rename_i f args hca
    have call:∀ {out:AO},ch f args rd cur nx=some (out,m,n)→(∀ e w' G',Stp base GT F rd cur nx w G m n w' G'→OutR w' G' out e→(match e with
     | .returned v=>K (a.put o.dst v) w'
     | .panicked chain=>Q (.panic chain) a w'
     | .outgrown=>LetsOut Q))→o.wp P a w K Q:=by
     intro out hc hk;obtain ⟨fn,hf1,hf2,hf3⟩:=hch.fn hc;unfold calleeA at hca
     split at hca
     ·rename_i x hcx
      split at hca
      ·rename_i f' first cap hfx
       cases hca
       have hx:=H x;rw [hfx] at hx;obtain ⟨rx,ry,hr,h1,h2⟩:=hx;have hargs:VRs w G (first++c.args.toList.map (evO GT tm)++cap) (rx++c.args.map a.eval++ry).toList:=by
        simp only [Array.toList_append];exact (h1.append (VRs.of_map H c.args)).append h2
       have hcall:=hch.tri hc base F w G _ hm hargs hF;have hrun:(execOp a.eval o).run P w=.ok (.enter f (rx++c.args.map a.eval++ry)) w:=by
        have hprog:program.run P w=.ok P w:=rfl;simp only [execOp,hop,resolve,hcx,hr,Deferred.ofValue,Sem.run_bind,Sem.run_pure,Result.andThen_ok,invoke,callFunc,hprog,hf1];rw [Sem.run_ite,if_neg (by simp [hf2]),Sem.run_ite,if_neg (by simp [hf3])]
        rfl
       unfold Oper.wp;rw [hrun];exact hcall.mono fun e w' ⟨G',h5,h6⟩=>by have:=hk e w' G' h5 h6;cases e <;> exact this
      ·cases hca
     ·cases hca
    split at h
    ·rename_i x m' n' hc
     cases h
     exact call hc fun e w' G' h5 h6=>by
      obtain ⟨v,rfl,h7⟩:=h6;exact hval (some x) v w' G' rfl h5 h7
    ·rename_i x m' n' hc
     cases h
     exact call hc fun e w' G' h5 h6=>by
      obtain ⟨v,rfl,h7⟩:=h6;exact hpan x v w' G' rfl h5 h7
    ·cases h
   ·cases h
 ·rename_i x hop
  split at h
  ·rename_i t v hx
   cases h
   have h1:=H x;rw [hx] at h1;obtain ⟨u,h2,h3⟩:=h1;unfold Oper.wp;have hrun:(execOp a.eval o).run P w=.halt (.panic (.iface t u)) w:=by simp [execOp,hop,Instr.panic,h2,goPanic]
   rw [hrun];exact hpan _ _ w G rfl (.refl hm) ⟨u,rfl,h3⟩
  ·cases h
 ·split at h
  ·rename_i v m' n' he
   cases h
   exact viaMem rfl he
  ·cases h
def XR (w:World) (G:Gh):AX→Exit→Prop
 | .nrm,e=>e=.normal
 | .exit id,e=>e=.exit id
 | .gto l,e=>e=.goto l
 | .ret,e=>e=.ret
 | .pan a,e=>∃ v,e=.panic [{ v:=v,recovered:=false }]∧VR w G a v
def Aft (base:Nat) (GT:GTab) (F:Nat→Prop) (rd:List Mem) (D:List Deferred) (s:St) (w:World) (G:Gh) (x:AX) (s':St) (e:Exit) (a':Act) (w':World):Prop :=
 ∃ G',XR w' G' x e∧Stp base GT F rd s.cur s.nx w G s'.cur s'.nx w' G'∧((∀ v,x≠.pan v)→TmR w' G' s'.tm a'.tmps)∧a'.defers=D
theorem Aft.trans {D:List Deferred} {s1 s2 s3:St} {w1 w2:World} {G1 G2:Gh} {x:AX} {e:Exit} {a':Act} {w':World} (h:Stp base GT F rd s1.cur s1.nx w1 G1 s2.cur s2.nx w2 G2)
 (k:Aft base GT F rd D s2 w2 G2 x s3 e a' w'):Aft base GT F rd D s1 w1 G1 x s3 e a' w':=by
 obtain ⟨G',h1,h2,h3,h4⟩:=k;exact ⟨G',h1,h.trans h2,h3,h4⟩
theorem put_defers (a:Act) (d:Option Tmp) (v:Value):(a.put d v).defers=a.defers:=by cases d <;> rfl
theorem evOps_sound (hch:ChOk P GT ch) {ops:Array Oper} {D:List Deferred}:∀ {is:List Nat} {s:St} {x:AX} {s':St} {a:Act} {w:World} {G:Gh},evOps P GT ch rd ops is s=some (x,s') →
 MR base GT F rd s.cur s.nx w G→TmR w G s.tm a.tmps→a.defers=D→(∀ b,s.nx≤b→b<s'.nx→F b)→wpOps P ops (fun e a' w'=>Aft base GT F rd D s w G x s' e a' w') is a w:=by
 intro is
 induction is with
 | nil =>
   intro s x s' a w G h hm ht hd _;simp only [evOps,Option.some.injEq,Prod.mk.injEq] at h;obtain ⟨rfl,rfl⟩:=h;exact ⟨G,rfl,.refl hm,fun _=>ht,hd⟩
 | cons i is ih =>
   intro s x s' a w G h hm ht hd hF;simp only [evOps] at h;simp only [wpOps]
   split at h
   ·rename_i ho
    rw [ho];exact ih h hm ht hd hF
   ·rename_i o ho
    rw [ho];simp only
    split at h
    ·cases h
    ·rename_i hw
     rw [Q1i ht hw,if_neg (by simp)];exact ih (s:=⟨putT s.tm o.dst (.g undef),s.cur,s.nx⟩) h hm (Q1g (x:=.g undef) (v:=undef) ht rfl _) (by rw [put_defers];exact hd) hF
    ·rename_i hw
     rw [Q1i ht hw,if_pos rfl];refine .inl ?_
     split at h
     ·rename_i v m n he
      have hnx:=evOps_nx hch h;simp only at hnx;have hnx0:=Q4e hch he;refine Q2w hch hm ht he (fun b h1 h2=>hF b h1 (by omega)) (fun av u w' G' hr hs hv=>?_) (fun av u w' G' hr _ _=>by cases hr)
      cases hr
      have hm':=hs.mr;have:=ih (a:=a.put o.dst u) (w:=w') (G:=G') h hm' (Q1g (TmR.mono hs.ext ht) hv _) (by rw [put_defers];exact hd) (fun b h1 h2=>hF b (by simp only at h1;omega) h2);have hmono:∀ (is:List Nat) (a1:Act) (w1:World) {Q Q':Exit→Act→World→Prop},(∀ e a w,Q e a w→Q' e a w)→wpOps P ops Q is a1 w1→wpOps P ops Q' is a1 w1:=by
       intro is
       induction is with
       | nil=>intro a1 w1 Q Q' hq h;exact hq _ _ _ h
       | cons i is ih2 =>
         intro a1 w1 Q Q' hq h;simp only [wpOps] at h ⊢
         split
         ·rename_i ho';rw [ho'] at h;exact ih2 _ _ hq h
         ·rename_i o' ho'
          rw [ho'] at h;simp only at h
          split
          ·rename_i hw'
           rw [if_pos hw'] at h;rcases h with h | ⟨h1,h2⟩
           ·refine .inl ?_
            unfold Oper.wp at *;generalize (execOp a1.eval o').run P w1=rr at *
            cases rr with
            | ok nn w2 =>
              cases nn <;> simp only [Oper.upon] at h ⊢ <;> first
               | exact ih2 _ _ hq h
               | exact h
               | (refine Calls.mono h fun e w3 he=>?_
                  cases e with
                  | returned v=>exact ih2 _ _ hq he
                  | panicked c=>exact hq _ _ _ he
                  | outgrown=>obtain ⟨a3,w4,h9⟩:=he;exact ⟨a3,w4,hq _ _ _ h9⟩)
               | exact Rows.mono h fun v w3 hv=>ih2 _ _ hq hv
            | halt hh w2=>cases hh <;> simp only [Oper.upon] at h ⊢ <;> first | exact hq _ _ _ h | exact h
           ·obtain ⟨a3,w4,h9⟩:=h2
            exact .inr ⟨h1,a3,w4,hq _ _ _ h9⟩
          ·rename_i hw'
           rw [if_neg hw'] at h;exact ih2 _ _ hq h
      exact hmono is _ _ (fun e a2 w2 h2=>Aft.trans hs h2) this
     ·rename_i v m n he
      cases h
      refine Q2w hch hm ht he hF (fun av u w' G' hr _ _=>by cases hr) (fun av u w' G' hr hs hv=>?_)
      cases hr
      exact ⟨G',⟨u,rfl,hv⟩,hs,fun h=>absurd rfl (h _),hd⟩
     ·cases h
end
end Go.Ev
end
