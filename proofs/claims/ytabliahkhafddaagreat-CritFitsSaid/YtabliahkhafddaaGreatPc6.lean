/- Walks over known shapes: calls that turn memory, calls that read it, blocks that are written no more. Of no program. -/
import Derived.Test.YtabliahkhafddaaGreatPc5
set_option linter.unusedSimpArgs false
noncomputable section
namespace Go.Ev
open Go.RowKit
def wantG (a:AV) (want:Bool):Option Bool:=match a with
 | .g v=>some (match v with | .bool b=>b==want | _=>false)
 | _=>none
def wantL (os:List Oper) (l:List AV) (g:Option (Nat×Bool)):Option Bool:=match g with
 | none=>some true
 | some (j,want)=>match (os[j]?).bind (·.dst) with
   | none=>some false
   | some t=>match l[t]? with
     | some a=>wantG a want
     | none=>none
theorem wantG_bool {b want:Bool}:wantG (.g (.bool b)) want=some (b==want):=Eq.trans rfl rfl
theorem wantG_undef {want:Bool}:wantG (.g undef) want=some false:=Eq.trans rfl rfl
def callL (GT:GTab) (l:List AV):Op→Option (FuncId×List AV)
 | .call c=>match c.callee with
   | .value _=>calleeA (evL GT l) c
   | _=>none
 | _=>none
structure PureN (P:Program) (GT:GTab) (f:FuncId) (args:List AV) (a:AV):Prop where
 pure:Pure P GT f args (.ret a)
 ids:noIdsL args=true
 fn:∃ fn,P.funcs[f]?=some fn∧(fn.name == "runtime.NumGoroutine")=false∧fn.body.isNone=false
def CallM (P:Program) (GT:GTab) (rd:List Mem) (m:ML) (n:Nat) (f:FuncId) (args:List AV) (a:AV) (m':ML) (n':Nat):Prop :=
 (∀ (base:Nat) (w:World) (G:Gh) (rargs:Array Value),MR base GT allF rd (memL m) n w G→VRs w G args rargs.toList →
   Calls P f rargs w fun e w'=>∃ r G',e=.returned r∧Stp base GT allF rd (memL m) n w G (memL m') n' w' G'∧VR w' G' a r) ∧
 ∃ fn,P.funcs[f]?=some fn∧(fn.name == "runtime.NumGoroutine")=false∧fn.body.isNone=false
def CallN (P:Program) (GT:GTab) (rd:List Mem) (m:ML) (n:Nat) (f:FuncId) (args:List AV) (R:AV→ML→Nat→Prop):Prop :=
 (∀ (base:Nat) (w:World) (G:Gh) (rargs:Array Value),MR base GT allF rd (memL m) n w G→VRs w G args rargs.toList →
   Calls P f rargs w fun e w'=>∃ r G' a m' n',R a m' n'∧e=.returned r∧Stp base GT allF rd (memL m) n w G (memL m') n' w' G'∧VR w' G' a r) ∧
 ∃ fn,P.funcs[f]?=some fn∧(fn.name == "runtime.NumGoroutine")=false∧fn.body.isNone=false
theorem CallM.callN {P:Program} {GT:GTab} {rd:List Mem} {m m':ML} {n n':Nat} {f:FuncId} {args:List AV} {a:AV} (h:CallM P GT rd m n f args a m' n'):CallN P GT rd m n f args (fun b k i=>b=a∧k=m'∧i=n'):=by
 refine ⟨fun base w G rargs hm ha=>?_,h.2⟩;refine (h.1 base w G rargs hm ha).mono ?_;rintro e w' ⟨r,G',h1,h2,h3⟩;exact ⟨r,G',a,m',n',⟨rfl,rfl,rfl⟩,h1,h2,h3⟩
theorem PureN.callM {P:Program} {GT:GTab} {rd:List Mem} {m:ML} {n:Nat} {f:FuncId} {args:List AV} {a:AV} (h:PureN P GT f args a):CallM P GT rd m n f args a m n:=by
 refine ⟨fun base w G rargs hm ha=>?_,h.fn⟩;refine ((h.pure.tri h.ids) base allF w G rargs hm ha fun _ _ _=>trivial).mono ?_;rintro e w' ⟨G',h1,r,rfl,h2⟩;exact ⟨r,G',rfl,h1,h2⟩
def nilT (P:Program) (GT:GTab) (l:List AV):Op→Option (Bool×Nat)
 | .binOp op t x y _=>match elemO P t,evL GT l x,evL GT l y,op with
   | some _,.sl n _ _,.g (.slice none 0 0),.eql=>some (false,n)
   | some _,.sl n _ _,.g (.slice none 0 0),.neq=>some (true,n)
   | some _,.z0,.g (.slice none 0 0),.eql=>some (false,0)
   | some _,.z0,.g (.slice none 0 0),.neq=>some (true,0)
   | _,_,_,_=>none
 | _=>none
def runL (P:Program) (GT:GTab) (E:Beg) (ops:List Oper):List Oper→List AV→ML→Nat→(AX→St→Prop)→Prop
 | [],l,m,n,Q=>Q .nrm (stL l m n)
 | o :: os,l,m,n,Q=>match wantL ops l o.guard with
   | some true=>match callL GT l o.op with
     | some (f,args)=>∃ R,CallN P GT E.rd m n f args R∧∀ a m' n',R a m' n'→runL P GT E ops os (setO l o.dst a) m' n' Q
     | none=>match stepO P GT E.rd m n l o.op with
       | some (v,m',n')=>runL P GT E ops os (setO l o.dst v) m' n' Q
       | none=>match nilT P GT l o.op with
         | some (neg,k)=>∀ b:Bool,(0<k→b=neg)→runL P GT E ops os (setO l o.dst (.g (.bool b))) m n Q
         | none=>False
   | some false=>runL P GT E ops os (setO l o.dst (.g undef)) m n Q
   | none=>False
def AtCall (P:Program) (GT:GTab) (E:Beg) (ops:List Oper) (f:FuncId) (args:List AV) (dst:Option Tmp) (os:List Oper) (l:List AV) (m:ML) (n:Nat) (Q:AX→St→Prop):Prop :=
 ∃ R,CallN P GT E.rd m n f args R∧∀ a m' n',R a m' n'→runL P GT E ops os (setO l dst a) m' n' Q
def nilK (P:Program) (GT:GTab) (E:Beg) (ops:List Oper) (r:Option (Bool×Nat)) (dst:Option Tmp) (os:List Oper) (l:List AV) (m:ML) (n:Nat) (Q:AX→St→Prop):Prop:=match r with
 | some (neg,k)=>∀ b:Bool,(0<k→b=neg)→runL P GT E ops os (setO l dst (.g (.bool b))) m n Q
 | none=>False
def nextK (P:Program) (GT:GTab) (E:Beg) (ops:List Oper) (r:Option (AV×ML×Nat)) (op:Op) (dst:Option Tmp) (os:List Oper) (l:List AV) (m:ML) (n:Nat) (Q:AX→St→Prop):Prop:=match r with
 | some (v,m',n')=>runL P GT E ops os (setO l dst v) m' n' Q
 | none=>nilK P GT E ops (nilT P GT l op) dst os l m n Q
def callK (P:Program) (GT:GTab) (E:Beg) (ops:List Oper) (r:Option (FuncId×List AV)) (op:Op) (dst:Option Tmp) (os:List Oper) (l:List AV) (m:ML) (n:Nat) (Q:AX→St→Prop):Prop:=match r with
 | some (f,args)=>AtCall P GT E ops f args dst os l m n Q
 | none=>nextK P GT E ops (stepO P GT E.rd m n l op) op dst os l m n Q
def wantK (P:Program) (GT:GTab) (E:Beg) (ops:List Oper) (r:Option Bool) (op:Op) (dst:Option Tmp) (os:List Oper) (l:List AV) (m:ML) (n:Nat) (Q:AX→St→Prop):Prop:=match r with
 | some true=>callK P GT E ops (callL GT l op) op dst os l m n Q
 | some false=>runL P GT E ops os (setO l dst (.g undef)) m n Q
 | none=>False
section
variable {P:Program} {GT:GTab} {E:Beg} {ops os:List Oper} {l:List AV} {m m':ML} {n n':Nat} {Q:AX→St→Prop} {dst:Option Tmp} {op:Op} {o:Oper}
theorem runL_nil:runL P GT E ops [] l m n Q=Q .nrm (stL l m n):=Eq.trans rfl rfl
theorem runL_cons:runL P GT E ops (o::os) l m n Q=wantK P GT E ops (wantL ops l o.guard) o.op o.dst os l m n Q:=Eq.trans rfl rfl
theorem wantK_true:wantK P GT E ops (some true) op dst os l m n Q=callK P GT E ops (callL GT l op) op dst os l m n Q:=Eq.trans rfl rfl
theorem wantK_false:wantK P GT E ops (some false) op dst os l m n Q=runL P GT E ops os (setO l dst (.g undef)) m n Q:=Eq.trans rfl rfl
theorem callK_none:callK P GT E ops none op dst os l m n Q=nextK P GT E ops (stepO P GT E.rd m n l op) op dst os l m n Q:=Eq.trans rfl rfl
theorem callK_some {f:FuncId} {args:List AV}:callK P GT E ops (some (f,args)) op dst os l m n Q=AtCall P GT E ops f args dst os l m n Q:=Eq.trans rfl rfl
theorem nextK_none:nextK P GT E ops none op dst os l m n Q=nilK P GT E ops (nilT P GT l op) dst os l m n Q:=Eq.trans rfl rfl
theorem nextK_some {v:AV}:nextK P GT E ops (some (v,m',n')) op dst os l m n Q=runL P GT E ops os (setO l dst v) m' n' Q:=Eq.trans rfl rfl
theorem AtCall.mk {f:FuncId} {args:List AV} {a:AV} (h:PureN P GT f args a) (k:runL P GT E ops os (setO l dst a) m n Q):AtCall P GT E ops f args dst os l m n Q:=⟨_,h.callM.callN,fun _ _ _ ⟨e1,e2,e3⟩=>by subst e1 e2 e3;exact k⟩
theorem AtCall.mem {f:FuncId} {args:List AV} {a:AV} (h:CallM P GT E.rd m n f args a m' n') (k:runL P GT E ops os (setO l dst a) m' n' Q):AtCall P GT E ops f args dst os l m n Q:=⟨_,h.callN,fun _ _ _ ⟨e1,e2,e3⟩=>by subst e1 e2 e3;exact k⟩
theorem wantL_ok {b:Bool} (h:wantL ops l o.guard=some b):wantA ⟨ops⟩ o (tmL l)=some b:=by
 unfold wantL at h;unfold wantA
 split at h
 ·rename_i hg;rw [hg];exact h
 ·rename_i j want hg
  rw [hg];simp only [List.getElem?_toArray,Q0l]
  split at h
  ·rename_i hd;rw [hd];exact h
  ·rename_i t hd
   rw [hd];simp only
   split at h
   ·rename_i a ha
    rw [ha];unfold wantG at h
    split at h
    ·exact h
    ·cases h
   ·cases h
theorem PureN.ok {f:FuncId} {args:List AV} {a:AV} (h:PureN P GT f args a):∃ ch,ChOk P GT ch∧∀ rd cur nx,ch f args rd cur nx=some (.ret a,cur,nx):=by
 classical
 refine ⟨tabCH fun f' as=>if f'=f∧as=args then some a else none,tabCH_ok fun f' as a' h1=>?_,fun rd cur nx=>?_⟩
 ·split at h1
  ·rename_i h2;obtain ⟨rfl,rfl⟩:=h2;cases h1;exact ⟨h.pure,h.fn⟩
  ·cases h1
 ·simp only [tabCH,and_self,if_true,h.ids]
theorem tmR_ext {w:World} {G:Gh} {tm tm':Tm} {ts:Array Value} (h:TmR w G tm ts) (e:∀ t,tm'.get t=tm.get t):TmR w G tm' ts:=TmR.ext h e
theorem stp_mem {base:Nat} {F:Nat→Prop} {rd:List Mem} {cur cur1 cur2:Mem} {nx nx1:Nat} {w w1:World} {G G1:Gh} (h:Stp base GT F rd cur nx w G cur1 nx1 w1 G1) (e:∀ b,cur2.get b=cur1.get b):Stp base GT F rd cur nx w G cur2 nx1 w1 G1:=by
 have er:∀ b,getR (cur2::rd) b=getR (cur1::rd) b:=fun b=>by rw [Q0c,Q0c,e]
 exact { h with
  mr:={ h.mr with blk:=fun b k hb=>h.mr.blk b k (by rw [←er];exact hb),inj:=fun b b' k k' rb ro ro' h1 h2=>h.mr.inj b b' k k' rb ro ro' (by rw [←er];exact h1) (by rw [←er];exact h2),dj:=fun b k hb=>h.mr.dj b k (by rw [←e];exact hb) }
  prov:=fun b k rb ro hb hm=>h.prov b k rb ro (by rw [←e];exact hb) hm }
theorem setO_get (l:List AV) (d:Option Tmp) (v:AV) (t:Nat):(tmL (setO l d v)).get t=(putT (tmL l) d v).get t:=by
 rw [Q0l,Q1w,Q0l]
 cases d with
 | none=>simp [setO]
 | some d =>
   simp only [setO,Option.some.injEq,List.getElem?_set]
   by_cases h:d=t
   ·subst h
    rw [if_pos rfl,if_pos rfl]
    by_cases h2:d<l.length
    ·rw [if_pos h2,List.getElem?_eq_getElem h2];rfl
    ·rw [if_neg h2,List.getElem?_eq_none (Nat.le_of_not_lt h2)];rfl
   ·rw [if_neg h,if_neg h]
theorem call_op_wp {o:Oper} {c:Call} {x:Operand} {f:FuncId} {fn:Func} {first cap:List AV} {a:Act} {w:World} {G:Gh} {ev:Operand→AV} {K:Act→World→Prop} {Q:Exit→Act→World→Prop}
 (hop:o.op=.call c) (hx:c.callee=.value x) (hfn:P.funcs[f]?=some fn) (hnm:(fn.name == "runtime.NumGoroutine")=false) (hbd:fn.body.isNone=false)
 (Hx:VR w G (ev x) (a.eval x)) (hfx:ev x=.fn (.func f) first cap) (H:∀ y,VR w G (ev y) (a.eval y))
 (h:∀ rargs:Array Value,VRs w G (first++c.args.toList.map ev++cap) rargs.toList→Calls P f rargs w fun e w'=>∃ r,e=.returned r∧K (a.put o.dst r) w'):o.wp P a w K Q:=by
 have h0:=Hx;rw [hfx] at h0;obtain ⟨rx,ry,hr,h1,h2⟩:=h0;have hargs:VRs w G (first++c.args.toList.map ev++cap) (rx++c.args.map a.eval++ry).toList:=by
  simp only [Array.toList_append];exact (h1.append (VRs.of_map H c.args)).append h2
 have hrun:(execOp a.eval o).run P w=.ok (.enter f (rx++c.args.map a.eval++ry)) w:=by
  have hprog:program.run P w=.ok P w:=rfl;simp only [execOp,hop,resolve,hx,hr,Deferred.ofValue,Sem.run_bind,Sem.run_pure,Result.andThen_ok,invoke,callFunc,hprog,hfn];rw [Sem.run_ite,if_neg (by simp [hnm]),Sem.run_ite,if_neg (by simp [hbd])]
  rfl
 unfold Oper.wp;rw [hrun];exact (h _ hargs).mono fun e w' ⟨r,he,hk⟩=>by subst he;exact hk
abbrev PostW (base:Nat) (GT:GTab) (E:Beg) (w1:World) (G1:Gh) (D:List Deferred) (Q:AX→St→Prop):Exit→Act→World→Prop :=
 fun e a' w'=>∃ x s' G',XR w' G' x e∧Stpd base GT E w1 G1 s' w' G'∧((∀ v,x≠.pan v)→TmR w' G' s'.tm a'.tmps)∧a'.defers=D∧Q x s'
theorem run_eqnil {t e:TypeId} {a:Option Addr} {n c:Nat} {op:BinOp} {x y:Operand} (hu:P.underlying t=some (.slice e)) (hop:op=.eql∨op=.neq) (w:World) :
 (do eqGuard op t x y (.slice a n c) (.slice none 0 0);binOp op t (.slice a n c) (.slice none 0 0):Sem Value).run P w=.ok (.bool (if op=.eql then a.isNone else !a.isNone)) w:=by
 have h0:pv P (eqGuard op t x y (.slice a n c) (.slice none 0 0))=some ():=by
  unfold eqGuard
  cases op <;> simp [pv,pure,Pure.pure]
 have h1:pv P (Op.equal t (.slice a n c) (.slice none 0 0))=some a.isNone:=by
  show pv P (Op.equalIn (9999+1) t (.slice a n c) (.slice none 0 0))=_;rw [Op.equalIn,Q0t,Q2n hu,Option.bind_some]
  cases a <;> rfl
 refine pv_run ?_ w;rw [Q0t,h0,Option.bind_some];rcases hop with rfl | rfl
 ·show pv P (do pure (Value.bool (←Op.equal t (.slice a n c) (.slice none 0 0))))=_
  rw [Q0t,h1];rfl
 ·show pv P (do pure (Value.bool (!(←Op.equal t (.slice a n c) (.slice none 0 0)))))=_
  rw [Q0t,h1];rfl
theorem nilT_run {base:Nat} {w:World} {G:Gh} {a:Act} {o:Oper} {neg:Bool} {k:Nat} (hm:MR base GT allF E.rd (memL m) n w G) (ht:TmR w G (tmL l) a.tmps) (h:nilT P GT l o.op=some (neg,k)) :
 ∃ b:Bool,(0<k→b=neg)∧(execOp a.eval o).run P w=.ok (.value (.bool b)) w:=by
 have H:=Q2y hm (a:=a) ht;rw [evL_eq] at H;unfold nilT at h
 split at h
 ·rename_i op t x y yt hop
  have main:∀ (kk:Nat) (e:TypeId),P.underlying t=some (.slice e)→(∃ ad cap,a.eval x=.slice ad kk cap∧(0<kk→ad.isNone=false))→a.eval y=.slice none 0 0→((op=.eql∧neg=false)∨(op=.neq∧neg=true))→k=kk →
   ∃ b:Bool,(0<k→b=neg)∧(execOp a.eval o).run P w=.ok (.value (.bool b)) w:=by
   rintro kk e hu ⟨ad,cap,hx,had⟩ hy ho rfl;refine ⟨if op=.eql then ad.isNone else !ad.isNone,fun hk=>?_,?_⟩
   ·have:=had hk
    rcases ho with ⟨rfl,rfl⟩ | ⟨rfl,rfl⟩
    ·simpa using this
    ·simp [this]
   ·have hr:=run_eqnil (P:=P) (x:=x) (y:=y) (a:=ad) (n:=k) (c:=cap) hu (ho.imp (·.1) (·.1)) w
    have:execOp a.eval o=(do let r ←(do eqGuard op t x y (a.eval x) (a.eval y);binOp op t (a.eval x) (a.eval y));pure (Next.value r)):=by
     unfold execOp;rw [hop]
    rw [this,hx,hy,Sem.run_bind,hr];rfl
  have slv:∀ {nn sz:Nat} {cs:List AV},evL GT l x=.sl nn sz cs→∃ ad cap,a.eval x=.slice ad nn cap∧(0<nn→ad.isNone=false):=by
   intro nn sz cs hx;have h1:=H x;rw [hx] at h1;obtain ⟨ad,cap,e1,-,e2⟩:=h1;refine ⟨ad,cap,e1,fun hp=>?_⟩;rcases e2 with e2 | ⟨rb,ro,rfl,-⟩
   ·omega
   ·rfl
  have nilv:evL GT l y=.g (.slice none 0 0)→a.eval y=.slice none 0 0:=fun hy=>by have h1:=H y;rw [hy] at h1;exact h1
  have z0v:evL GT l x=.z0→∃ ad cap,a.eval x=.slice ad 0 cap∧(0<0→ad.isNone=false):=fun hx=>by
   have h1:=H x;rw [hx] at h1;obtain ⟨ad,e1⟩:=h1;exact ⟨ad,0,e1,fun h=>absurd h (Nat.lt_irrefl 0)⟩
  split at h
  ·rename_i z nn sz cs he hx hy
   cases h
   obtain ⟨e,i,hu,-,-⟩:=Q1s he;exact main _ e hu (slv hx) (nilv hy) (.inl ⟨rfl,rfl⟩) rfl
  ·rename_i z nn sz cs he hx hy
   cases h
   obtain ⟨e,i,hu,-,-⟩:=Q1s he;exact main _ e hu (slv hx) (nilv hy) (.inr ⟨rfl,rfl⟩) rfl
  ·rename_i z he hx hy
   cases h
   obtain ⟨e,i,hu,-,-⟩:=Q1s he;exact main 0 e hu (z0v hx) (nilv hy) (.inl ⟨rfl,rfl⟩) rfl
  ·rename_i z he hx hy
   cases h
   obtain ⟨e,i,hu,-,-⟩:=Q1s he;exact main 0 e hu (z0v hx) (nilv hy) (.inr ⟨rfl,rfl⟩) rfl
  ·cases h
 ·cases h
theorem runL_sound:∀ (os:List Oper) (k:Nat) {l:List AV} {m:ML} {n:Nat},ops.drop k=os→runL P GT E ops os l m n Q →
 ∀ (base:Nat) (D:List Deferred) (w1:World) (G1:Gh) (w:World) (G:Gh) (a:Act),Stpd base GT E w1 G1 (stL l m n) w G→TmR w G (tmL l) a.tmps→a.defers=D →
   wpOps P ⟨ops⟩ (PostW base GT E w1 G1 D Q) (List.range' k os.length) a w:=by
 intro os
 induction os with
 | nil=>intro k l m n _ h base D w1 G1 w G a hs ht hd;exact ⟨.nrm,_,G,rfl,hs,fun _=>ht,hd,h⟩
 | cons o os ih =>
   intro k l m n hk h base D w1 G1 w G a hs ht hd;have ho:(⟨ops⟩:Array Oper)[k]?=some o:=by
    have:(ops.drop k)[0]?=some o:=by rw [hk];rfl
    rw [List.getElem?_drop,Nat.add_zero] at this;simpa using this
   have hk':ops.drop (k+1)=os:=by
    have:(ops.drop k).drop 1=os:=by rw [hk];rfl
    rwa [List.drop_drop] at this
   rw [List.length_cons,List.range'_succ];simp only [wpOps,ho];unfold runL at h
   split at h
   ·rename_i hw
    have hw':=wantL_ok (o:=o) hw;rw [Q1i ht hw',if_pos rfl];refine .inl ?_
    split at h
    ·rename_i f args hc
     obtain ⟨R,⟨hp,fn,hfn,hnm,hbd⟩,h⟩:=h;unfold callL at hc
     split at hc
     ·rename_i c hop
      split at hc
      ·rename_i x hx
       have H:=Q2y hs.mr (a:=a) ht;rw [evL_eq] at H;unfold calleeA at hc;simp only [hx] at hc
       split at hc
       ·rename_i f' first cap hfx
        cases hc
        refine call_op_wp hop hx hfn hnm hbd (H x) hfx (fun y=>H y) fun rargs hr=>?_;refine (hp base w G rargs hs.mr hr).mono ?_;rintro e w' ⟨r,G',v,m',n',h0,rfl,h1,h2⟩;exact ⟨r,rfl,ih (k+1) hk' (h _ _ _ h0) base D w1 G1 w' G' _ (Stp.trans hs h1) (tmR_ext (Q1g (TmR.mono h1.ext ht) h2 _) (setO_get l o.dst v)) (by rw [put_defers];exact hd)⟩
       ·cases hc
      ·cases hc
     ·cases hc
    ·split at h
     ·rename_i v m' n' hst
      obtain ⟨av,mt,he,hv,hm⟩:=Q3b (ch:=noCH) hst;refine Q2w Q2t hs.mr ht he (fun _ _ _=>trivial) (fun av' u w' G' hr hs' hv'=>?_) (fun av u w' G' hr _ _=>by cases hr)
      cases hr
      rw [hv] at hv';exact ih (k+1) hk' h base D w1 G1 w' G' _ (stp_mem (Stp.trans hs hs') fun b=>by rw [hm b];exact Q0d _ _) (tmR_ext (Q1g (TmR.mono hs'.ext ht) hv' _) (setO_get l o.dst v)) (by rw [put_defers];exact hd)
     ·split at h
      ·rename_i neg kk hnil
       obtain ⟨b,hb,hrun⟩:=nilT_run (P:=P) hs.mr ht hnil;exact oper_wp hrun (ih (k+1) hk' (h b hb) base D w1 G1 w G _ hs (tmR_ext (Q1g (x:=.g (.bool b)) (v:=.bool b) ht rfl _) (setO_get l o.dst _)) (by rw [put_defers];exact hd))
      ·exact h.elim
   ·rename_i hw
    have hw':=wantL_ok (o:=o) hw;rw [Q1i ht hw',if_neg (by simp)];exact ih (k+1) hk' h base D w1 G1 w G _ hs (tmR_ext (Q1g (x:=.g undef) (v:=undef) ht rfl _) (setO_get l o.dst _)) (by rw [put_defers];exact hd)
   ·exact h.elim
theorem W.region {id:Nat} (h:runL P GT E ops ops l m n Q):W P GT E (.region id ⟨ops⟩ false) (stL l m n) Q:=by
 intro base D w1 G1 w G a _ hs ht hd;refine wp_region ?_;have:=runL_sound ops 0 (by simp) h base D w1 G1 w G a hs ht hd
 rwa [←List.range_eq_range'] at this
end
section
variable {P:Program} {GT:GTab} {E:Beg} {l l':List AV} {m m':ML} {n n':Nat} {Q:AX→St→Prop} {c:Code}
def leL:List AV→List AV→Prop
 | [],[]=>True
 | a::as,b::bs=>(b=.any∨a=b)∧leL as bs
 | _,_=>False
theorem leL_get:∀ {l l':List AV},leL l l'→∀ (t:Nat) (v:AV),l'[t]?=some v→l[t]?=some v∨(v=.any∧∃ u,l[t]?=some u)
 | [],[],_,t,v,h=>by simp at h
 | a::as,b::bs,h,0,v,hv=>by
   simp only [List.getElem?_cons_zero,Option.some.injEq] at hv ⊢;rcases h.1 with h | h
   ·exact .inr ⟨by rw [←hv,h],a,rfl⟩
   ·exact .inl (h.trans hv)
 | a::as,b::bs,h,t+1,v,hv=>by
   simp only [List.getElem?_cons_succ] at hv ⊢;exact leL_get h.2 t v hv
 | [],b::bs,h,_,_,_=>h.elim
 | a::as,[],h,_,_,_=>h.elim
theorem VS.refl (s:St):VS GT E s s:=fun _ _ _ w G _ _ hs ht=>⟨G,.refl w _,hs,ht⟩
theorem VS.trans {s1 s2 s3:St} (h:VS GT E s1 s2) (k:VS GT E s2 s3):VS GT E s1 s3:=fun base w1 G1 w G ts hm hs ht=>by
 obtain ⟨G2,h1,h2,h3⟩:=h base w1 G1 w G ts hm hs ht;obtain ⟨G3,k1,k2,k3⟩:=k base w1 G1 w G2 ts hm h2 h3;exact ⟨G3,h1.trans k1,k2,k3⟩
theorem VS.tm (h:leL l l'):VS GT E (stL l m n) (stL l' m n):=fun _ _ _ w G _ _ hs ht=>⟨G,.refl w _,hs,fun t v hv=>by
 rw [Q0l] at hv;rcases leL_get h t v hv with h1 | ⟨rfl,u,h1⟩
 ·exact ht t v (by rw [Q0l];exact h1)
 ·obtain ⟨x,h2,-⟩:=ht t u (by rw [Q0l];exact h1)
  exact ⟨x,h2,trivial⟩⟩
theorem pure_of_w {f:FuncId} {fn:Func} {args:List AV} {v:AV} (hf:P.funcs[f]?=some fn) (hb:fn.body=some c) (hn:(fn.name == "runtime.NumGoroutine")=false) (hi:noIdsL args=true)
 (h:W P GT .none c ⟨putArgs args 0 (undefT fn.ntmps 0),.e,0⟩ fun x s=>(x=.nrm∨x=.ret)∧∃ r K,resA P [s.cur] s.tm fn.results.toList=some r∧sealV s.cur K r=some v):PureN P GT f args v:=by
 refine ⟨fun w I rargs hI hgt ha=>?_,hi,fn,hf,hn,by rw [hb];rfl⟩
 have hm:MR w.heap.size GT allF [] .e 0 w ⟨fun _=>none,I⟩ :=
  { fresh:=fun _ _ _=>rfl,blk:=fun b k hb=>by simp [getR,Tri.get_e] at hb,inj:=fun b b' k k' rb ro ro' h1=>by simp [getR,Tri.get_e] at h1
    imm:=hI,base:=Nat.le_refl _,gt:=hgt,dj:=fun b k hb=>by cases hb }
 refine calls_of_wp hf hb ?_;have hlen:=ha.len;have htm:TmR w ⟨fun _=>none,I⟩ (putArgs args 0 (undefT fn.ntmps 0)) (rargs++Array.replicate (fn.ntmps - rargs.size) undef):=by
  intro t x hx;rw [Q1x,Q2h] at hx;have hsz:rargs.size=args.length:=by simpa using hlen
  by_cases h:t<args.length
  ·have ha':args[t]?=some args[t]:=by simp [h]
   rw [if_pos ⟨Nat.zero_le _,by omega⟩,Nat.sub_zero,ha'] at hx
   cases hx
   obtain ⟨v,h1,h2⟩:=ha.get ha';refine ⟨v,?_,h2⟩;rw [Array.getElem?_append_left (by omega),←h1];simp
  ·rw [if_neg (by omega)] at hx
   split at hx
   ·rename_i ht'
    cases hx
    refine ⟨undef,?_,rfl⟩;rw [Array.getElem?_append_right (by omega),Array.getElem?_replicate,if_pos (by omega)]
   ·cases hx
 refine wp_mono (h w.heap.size [] w ⟨fun _=>none,I⟩ w ⟨fun _=>none,I⟩ { tmps:=rargs++Array.replicate (fn.ntmps - rargs.size) undef,defers:=[] } hm (Stp.refl hm) htm rfl) fun e a' w' h1=>?_;obtain ⟨x,s',G',he,hs,ht',hd,hx,r,K,hr,hsv⟩:=h1;have ht2:=ht' (fun u e=>by rcases hx with rfl | rfl <;> cases e)
 obtain ⟨rv,h2,h3⟩:=resA_run hs.mr ht2 hr;have fin:∃ I',PStep w I w' I'∧OutR w' ⟨fun _=>none,I'⟩ (.ret v) (.returned rv):=by
  refine ⟨frz s'.cur G',{ im:=fun rb hi=>.inl (hs.ext.im rb hi),new:=fun rb hi=>?_,lt:=fun rb hi=>?_,os:=hs.os,tape:=hs.tape,output:=hs.output,size:=hs.size,same:=fun k hk=>hs.fr k hk fun b x ro hb=>by cases hb },?_⟩
  ·rcases hi with hi | ⟨b,k,ro,h1,h2⟩
   ·rcases hs.impr rb hi with h3 | h3 | ⟨b0,k0,ro0,h3,_⟩
    ·exact .inl h3
    ·exact .inr h3
    ·cases h3
   ·rcases hs.prov b k rb ro h1 h2 with h3 | ⟨b0,k0,ro0,h3,_⟩
    ·exact .inr h3
    ·cases h3
  ·rcases hi with hi | ⟨b,k,ro,h1,h2⟩
   ·exact hs.mr.imm rb hi
   ·obtain ⟨rb',ro',h3,_,_,h4⟩:=hs.mr.blk b k (Q0b h1)
    rw [h2] at h3;cases h3;exact h4.lt
  ·exact ⟨rv,rfl,(sealV_spec hs.mr K).1 hsv h3⟩
 rcases hx with rfl | rfl
 ·obtain rfl:e=.normal:=he
  exact ⟨hd,rv,h2,fin⟩
 ·obtain rfl:e=.ret:=he
  exact ⟨hd,rv,h2,fin⟩
def SealTo (m:ML) (a b:AV):Prop:=∃ K,sealV (memL m) K a=some b
def plainA:AV→Bool
 | .any | .g _ | .ept _ _ | .sl _ _ _ | .z0=>true
 | _=>false
theorem seal_plain {a:AV} (h:plainA a=true) (K:Nat) (mm:Mem):sealV mm (K+1) a=some a:=by
 cases a <;> first | rfl | (cases h;done)
theorem sealL_plain:∀ {cs:List AV} (_:∀ a∈cs,plainA a=true) (K:Nat) (mm:Mem),cs.length<K→sealV.sealL mm (K+1) cs=some cs
 | [],_,K,mm,_=>rfl
 | a::cs,h,K,mm,hk=>by
   obtain ⟨K,rfl⟩:∃ K',K=K'+1:=⟨K - 1,by simp at hk;omega⟩;have h1:=seal_plain (h a List.mem_cons_self) K mm;have h2:=sealL_plain (fun b hb=>h b (List.mem_cons_of_mem _ hb)) K mm (by simp at hk;omega);show (match sealV mm (K+1) a,sealV.sealL mm (K+1) cs with | some x,some y=>some (x::y) | _,_=>none)=_;rw [h1,h2]
theorem SealTo.plain {a:AV} (h:plainA a=true):SealTo m a a:=⟨1,seal_plain h 0 _⟩
theorem SealTo.gs {b o k sz c:Nat} {cs:List AV} (hg:getL m b=some (.cells cs)) (hl:o+k*sz≤cs.length) (hp:∀ a∈(cs.drop o).take (k*sz),plainA a=true):SealTo m (.gs b o k sz c) (.sl k sz ((cs.drop o).take (k*sz))):=by
 refine ⟨((cs.drop o).take (k*sz)).length+3,?_⟩;have hg':(memL m).get b=some (.cells cs):=(Q0d m b).trans hg;have h2:=sealL_plain hp (((cs.drop o).take (k*sz)).length+1) (memL m) (by omega);simp only [sealV,hg',if_pos hl];rw [h2]
theorem seal_mono {mm:Mem}:∀ (K:Nat),(∀ {a b:AV},sealV mm K a=some b→sealV mm (K+1) a=some b)∧(∀ {a b:List AV},sealV.sealL mm K a=some b→sealV.sealL mm (K+1) a=some b):=by
 intro K
 induction K with
 | zero=>exact ⟨fun h=>by simp [sealV] at h,fun h=>by simp [sealV.sealL] at h⟩
 | succ K ih =>
   refine ⟨fun {a b} h=>?_,fun {a b} h=>?_⟩
   ·cases a with
    | gs c o k sz r =>
      simp only [sealV] at h ⊢
      split at h
      ·split at h
       ·rename_i hle
        split at h
        ·rename_i l hl
         rw [if_pos hle,ih.2 hl];exact h
        ·cases h
       ·cases h
      ·cases h
    | agg cs =>
      simp only [sealV] at h ⊢
      split at h
      ·rename_i l hl;rw [ih.2 hl];exact h
      ·cases h
    | tup cs =>
      simp only [sealV] at h ⊢
      split at h
      ·rename_i l hl;rw [ih.2 hl];exact h
      ·cases h
    | ifc t v =>
      simp only [sealV] at h;show (match sealV mm (K+1) v with | some x=>some (AV.ifc t x) | none=>none)=some b
      split at h
      ·rename_i l hl;rw [ih.1 hl];exact h
      ·cases h
    | fn f x y =>
      cases x <;> cases y <;> first | exact h | (simp [sealV] at h;done)
    | _=>first | exact h | (simp [sealV] at h;done)
   ·cases a with
    | nil=>exact h
    | cons a as =>
      simp only [sealV.sealL] at h;show (match sealV mm (K+1) a,sealV.sealL mm (K+1) as with | some x,some y=>some (x::y) | _,_=>none)=some b
      split at h
      ·rename_i x y hx hy;rw [ih.1 hx,ih.2 hy];exact h
      ·cases h
def resV (P:Program) (l:List AV) (m:ML):ResultVar→Option AV
 | .tmp t=>some (l.getD t .any)
 | .cell a t=>loadL P m t (l.getD a .any)
def postP (P:Program) (rs:List ResultVar) (v:AV):AX→St→Prop:=fun x s=>(x=.nrm∨x=.ret)∧∃ r K,resA P [s.cur] s.tm rs=some r∧sealV s.cur K r=some v
theorem resV_ok {r:ResultVar} {v:AV} (h:resV P l m r=some v):resOne P [memL m] (tmL l) r=some v:=by
 cases r with
 | tmp t =>
   have:evO (fun _=>none) (tmL l) (.tmp t)=evL (fun _=>none) l (.tmp t):=by rw [evL_eq]
   simp only [resV,Option.some.injEq] at h;rw [←h];exact congrArg some this
 | cell a t =>
   have:evO (fun _=>none) (tmL l) (.tmp a)=evL (fun _=>none) l (.tmp a):=by rw [evL_eq]
   have h2:=loadL_ok (rd:=[]) h;unfold evLoad at h2;have h3:(tmL l).getA a=l.getD a .any:=this;simp only [resOne,h3];exact h2
theorem Q0a {r:ResultVar} {v u:AV} (x:AX) (hx:x=.nrm∨x=.ret) (h:resV P l m r=some u) (hs:SealTo m u v):postP P [r] v x (stL l m n):=by
 obtain ⟨K,hk⟩:=hs;refine ⟨hx,u,K,?_,hk⟩;simp only [resA,resL,resV_ok h]
theorem postP_two {r1 r2:ResultVar} {v1 v2 u1 u2:AV} (x:AX) (hx:x=.nrm∨x=.ret) (h1:resV P l m r1=some u1) (h2:resV P l m r2=some u2) (hs1:SealTo m u1 v1) (hs2:SealTo m u2 v2):postP P [r1,r2] (.tup [v1,v2]) x (stL l m n):=by
 obtain ⟨K1,hk1⟩:=hs1;obtain ⟨K2,hk2⟩:=hs2;have mono:∀ (d K:Nat) {a b:AV},sealV (memL m) K a=some b→sealV (memL m) (K+d) a=some b:=by
  intro d
  induction d with
  | zero=>intro K a b h;exact h
  | succ d ih=>intro K a b h;exact (seal_mono (K+d)).1 (ih K h)
 refine ⟨hx,.tup [u1,u2],K1+K2+5,by simp only [resA,resL,resV_ok h1,resV_ok h2],?_⟩;have e1:sealV (memL m) (K1+K2+3) u1=some v1:=by
  have:=mono (K2+3) K1 hk1
  rwa [show K1+(K2+3)=K1+K2+3 by omega] at this
 have e2:sealV (memL m) (K1+K2+2) u2=some v2:=by
  have:=mono (K1+2) K2 hk2
  rwa [show K2+(K1+2)=K1+K2+2 by omega] at this
 show (match sealV.sealL (memL m) (K1+K2+4) [u1,u2] with | some l=>some (AV.tup l) | none=>none)=_;have e3:sealV.sealL (memL m) (K1+K2+4) [u1,u2]=some [v1,v2]:=by
  show (match sealV (memL m) (K1+K2+3) u1,sealV.sealL (memL m) (K1+K2+3) [u2] with | some x,some y=>some (x::y) | _,_=>none)=_;have e4:sealV.sealL (memL m) (K1+K2+3) [u2]=some [v2]:=by
   show (match sealV (memL m) (K1+K2+2) u2,sealV.sealL (memL m) (K1+K2+2) [] with | some x,some y=>some (x::y) | _,_=>none)=_;rw [e2];rfl
  rw [e1,e4]
 rw [e3]
end
def quietOp:Op→Bool
 | .move _ | .assign _ | .pick _ _ _ | .binOp _ _ _ _ _ | .unOp _ _ _ | .load _ _ | .fieldAddr _ _ _ | .indexAddr _ _ _ | .index _ _ _ | .extract _ _ | .nilCheck _ | .makeFunc _ _ _ | .slice _ _ _ _ _ | .lookup _ _ _ _ | .field _ _ _=>true
 | .call c=>match c.callee with
   | .builtin .len=>true
   | .value _=>true
   | _=>false
 | _=>false
section
variable {P:Program} {GT:GTab} {E:Beg} {ops os:List Oper} {l l':List AV} {m m':ML} {n n':Nat} {Q:AX→St→Prop} {ev:Operand→AV} {ty:TypeId}
theorem rowAt_getR {ms ms':List Mem} (h:∀ b,getR ms b=getR ms' b) (a:AV):rowAt ms a=rowAt ms' a:=by
 cases a <;> simp [rowAt,h]
theorem evSlice_getR {ms ms':List Mem} (h:∀ b,getR ms b=getR ms' b) (t:TypeId) (x:AV) (lo hi mx:Option AV):evSlice P ms t x lo hi mx=evSlice P ms' t x lo hi mx:=by
 unfold evSlice;simp only [h]
theorem lenA_getR {ms ms':List Mem} (h:∀ b,getR ms b=getR ms' b) (a:AV):lenA ms a=lenA ms' a:=by
 cases a <;> simp [lenA,h]
theorem evLookup_getR {ms ms':List Mem} (h:∀ b,getR ms b=getR ms' b) (t:TypeId) (x k:AV) (ok:Bool):evLookup P ms t x k ok=evLookup P ms' t x k ok:=by
 have:entsOf ms x=entsOf ms' x:=by
  cases x <;> simp only [entsOf,h]
 unfold evLookup;simp only [this]
theorem quiet_mem {ch:CH} {rd:List Mem} {cur:Mem} {nx nx':Nat} {tm:Tm} {o:Oper} {v:Option AV} {mt:Mem} (hq:quietOp o.op=true) (hc:∀ c x,o.op=.call c→c.callee≠.value x)
 (h:evOne P GT ch rd cur nx tm o=some (.val v,mt,nx')):mt=cur∧nx'=nx∧evOne P GT ch (cur::rd) .e nx tm o=some (.val v,.e,nx):=by
 have hg:∀ b,getR (.e::cur::rd) b=getR (cur::rd) b:=fun b=>by rw [Q0c .e];simp [Tri.get_e]
 have key:∀ {op:Op},o.op=op→(∀ c,op≠.call c)→(∀ x,op≠.panic x)→(∀ rd cur nx,evMem P rd cur nx (evO GT tm) op o.type=(evPure P (cur::rd) (evO GT tm) op o.type).map fun a=>(some a,cur,nx))→evPure P (.e::cur::rd) (evO GT tm) op o.type=evPure P (cur::rd) (evO GT tm) op o.type →
  mt=cur∧nx'=nx∧evOne P GT ch (cur::rd) .e nx tm o=some (.val v,.e,nx):=by
  intro op hop hnc hnp he hpp;have e1:∀ rd cur nx,evOne P GT ch rd cur nx tm o=(match evMem P rd cur nx (evO GT tm) o.op o.type with | some (v,m,n)=>some (.val v,m,n) | none=>none):=by
   intro rd cur nx;unfold evOne
   split
   ·rename_i c hcc;exact absurd (hop.symm.trans hcc) (hnc c)
   ·rename_i x hcc;exact absurd (hop.symm.trans hcc) (hnp x)
   ·rfl
  rw [e1,hop,he] at h;rw [e1,hop,he,hpp]
  cases hp:evPure P (cur::rd) (evO GT tm) op o.type with
  | none=>rw [hp] at h;cases h
  | some a=>rw [hp] at h;cases h;exact ⟨rfl,rfl,rfl⟩
 cases hop:o.op <;> rw [hop] at hq <;> try (cases hq;done)
 case call c =>
  unfold quietOp at hq;simp only at hq
  split at hq
  ·rename_i hb
   obtain ⟨cal,args,ats⟩:=c;simp only at hb;subst hb;have e1:∀ rd cur nx,evOne P GT ch rd cur nx tm o=(match evMem P rd cur nx (evO GT tm) o.op o.type with | some (v,m,n)=>some (.val v,m,n) | none=>none):=by
    intro rd cur nx;unfold evOne;simp only [hop]
    rfl
   have e2:∀ rd cur nx,evMem P rd cur nx (evO GT tm) o.op o.type=(evPure P (cur::rd) (evO GT tm) o.op o.type).map fun a=>(some a,cur,nx):=by
    intro rd cur nx;rw [hop];simp only [evMem]
   have e3:evPure P (.e::cur::rd) (evO GT tm) o.op o.type=evPure P (cur::rd) (evO GT tm) o.op o.type:=by
    rw [hop];simp only [evPure,evBuiltin,lenA_getR hg]
   rw [e1,e2] at h;rw [e1,e2,e3]
   cases hp:evPure P (cur::rd) (evO GT tm) o.op o.type with
   | none=>rw [hp] at h;cases h
   | some a=>rw [hp] at h;cases h;exact ⟨rfl,rfl,rfl⟩
  ·rename_i x hx;exact absurd hx (hc c x hop)
  ·cases hq
 case load t a=>exact key hop (by simp) (by simp) (fun _ _ _=>rfl) (by simp only [evPure,rowAt_getR hg])
 case slice t x lo hi mx=>exact key hop (by simp) (by simp) (fun _ _ _=>rfl) (by simp only [evPure,evSlice_getR hg])
 case lookup t x k ok=>exact key hop (by simp) (by simp) (fun _ _ _=>rfl) (by simp only [evPure,evLookup_getR hg])
 all_goals exact key hop (by simp) (by simp) (fun _ _ _=>rfl) (by simp only [evPure])
def runQ (P:Program) (GT:GTab) (E:Beg) (ops:List Oper):List Oper→List AV→ML→Nat→(AX→St→Prop)→Prop
 | [],l,m,n,Q=>Q .nrm (stL l m n)
 | o :: os,l,m,n,Q=>match wantL ops l o.guard with
   | some true=>match callL GT l o.op with
     | some (f,args)=>∃ a,PureN P GT f args a∧runQ P GT E ops os (setO l o.dst a) m n Q
     | none=>match stepO P GT E.rd m n l o.op with
       | some (v,_,_)=>quietOp o.op=true∧runQ P GT E ops os (setO l o.dst v) m n Q
       | none=>False
   | some false=>runQ P GT E ops os (setO l o.dst (.g undef)) m n Q
   | none=>False
theorem wpAny_mono {o2:Array Oper} {Q Q':Exit→Act→World→Prop} (hq:∀ e a w,Q e a w→Q' e a w):∀ (fuel:Nat) (listed:Array Bool) (a1:Act) (w1:World),wpAny P .any o2 Q fuel listed a1 w1→wpAny P .any o2 Q' fuel listed a1 w1:=by
 intro fuel
 induction fuel with
 | zero=>intro listed a1 w1 h;exact ⟨h.1,hq _ _ _ h.2⟩
 | succ fuel ih =>
   intro listed a1 w1 h;refine ⟨fun hr=>hq _ _ _ (h.1 hr),fun i hi=>?_⟩;have h1:=h.2 i hi;unfold wpOp at h1 ⊢
   split
   ·rename_i ho;rw [ho] at h1;exact ih _ _ _ h1
   ·rename_i o ho
    rw [ho] at h1;simp only at h1
    split
    ·rename_i hw
     rw [if_pos hw] at h1;rcases h1 with h1 | ⟨h2,a3,w3,h3⟩
     ·refine .inl ?_
      unfold Oper.wp at *;generalize (execOp a1.eval o).run P w1=rr at *
      cases rr with
      | ok nn w2 =>
        cases nn <;> simp only [Oper.upon] at h1 ⊢ <;> first
         | exact ih _ _ _ h1
         | exact h1
         | (refine Calls.mono h1 fun e w3 he=>?_
            cases e with
            | returned v=>exact ih _ _ _ he
            | panicked c=>exact hq _ _ _ he
            | outgrown=>obtain ⟨a3,w4,h9⟩:=he;exact ⟨a3,w4,hq _ _ _ h9⟩)
         | exact Rows.mono h1 fun v w3 hv=>ih _ _ _ hv
      | halt hh w2=>cases hh <;> simp only [Oper.upon] at h1 ⊢ <;> first | exact hq _ _ _ h1 | exact h1
     ·exact .inr ⟨h2,a3,w3,hq _ _ _ h3⟩
    ·rename_i hw
     rw [if_neg hw] at h1;exact ih _ _ _ h1
structure QR (n:Nat) (r:Rec):Prop where
 curl:r.curl=.e
 cur':r.cur'=.e
 nx:r.nx=n
 nx':r.nx'=n
 W:r.W=[]
 light:r.heavy=false
theorem QR.step {r:Rec} {s:St} (h:QR n r):(stepSt s r).cur=s.cur∧(stepSt s r).nx=n∧(stepSt s r).tm=putT s.tm r.dst r.out:=by
 refine ⟨?_,h.nx',rfl⟩;show Tri.over r.cur' (delAll s.cur r.W)=s.cur;rw [h.cur',h.W];rfl
theorem fold_QR:∀ (rs:List Rec) (i:Nat) (s:St) (S:Nat→Bool),(∀ r∈rs,QR n r)→s.nx=n→(foldS S i rs s).cur=s.cur∧(foldS S i rs s).nx=n
 | [],_,s,_,_,hs=>⟨rfl,hs⟩
 | r::rs,i,s,S,h,hs=>by
   simp only [foldS];have h1:=h r List.mem_cons_self
   cases S i
   ·exact fold_QR rs (i+1) s S (fun q hq=>h q (List.mem_cons_of_mem _ hq)) hs
   ·obtain ⟨h2,h3,-⟩:=h1.step
    obtain ⟨h4,h5⟩:=fold_QR rs (i+1) (stepSt s r) S (fun q hq=>h q (List.mem_cons_of_mem _ hq)) h3;exact ⟨h4.trans h2,h5⟩
theorem fold_lt (rs ext:List Rec) (s:St):foldS (fun k=>decide (k<rs.length)) 0 (rs++ext) s=foldS (fun _=>true) 0 rs s:=by
 rw [Q0w];have hn:∀ (qs:List Rec) (i:Nat) (s:St),rs.length≤i→foldS (fun k=>decide (k<rs.length)) i qs s=s:=by
  intro qs
  induction qs with
  | nil=>intro i s _;rfl
  | cons q qs ih=>intro i s hi;simp only [foldS];rw [if_neg (by simp;omega)];exact ih _ _ (by omega)
 rw [hn _ _ _ (by omega)];exact Q1q fun k hk=>by simp;omega
theorem runQ_recs {s0:St} (hn:s0.nx=n) (hm:∀ b k,s0.cur.get b=some k→b<n) (hM:s0.cur=memL m):∀ (os:List Oper) (l:List AV) (rs:List Rec),ops.drop rs.length=os→(∀ t,(foldS (fun _=>true) 0 rs s0).tm.get t=l[t]?)→(∀ r∈rs,QR n r)→runQ P GT E ops os l m n Q →
 ∃ ext l',ext.length=os.length∧(∀ r∈rs++ext,QR n r)∧(∀ t,(foldS (fun _=>true) 0 (rs++ext) s0).tm.get t=l'[t]?)∧Q .nrm (stL l' m n) ∧
   ∀ (i:Nat) (o:Oper),os[i]?=some o→∃ r ch,ChOk P GT ch∧(rs++ext)[rs.length+i]?=some r ∧
     RecOk P GT ch E.rd ⟨ops⟩ (befs ops []) ((rs++ext).take (rs.length+i)) (rs.length+i) o (foldS (fun k=>decide (k<rs.length+i)) 0 (rs++ext) s0) r:=by
 intro os
 induction os with
 | nil=>intro l rs _ ht hq h;exact ⟨[],l,rfl,by simpa using hq,by simpa using ht,h,fun i o hi=>by simp at hi⟩
 | cons o os ih =>
   intro l rs hd ht hq h;have hd':ops.drop (rs.length+1)=os:=by
    have:(ops.drop rs.length).drop 1=os:=by rw [hd];rfl
    rwa [List.drop_drop] at this
   obtain ⟨fc,fn⟩:=fold_QR rs 0 s0 (fun _=>true) hq hn;have hget:∀ t,(foldS (fun _=>true) 0 rs s0).tm.getA t=(tmL l).getA t:=fun t=>getA_congr (by rw [ht,Q0l]);have hwant:wantA ⟨ops⟩ o (foldS (fun _=>true) 0 rs s0).tm=wantA ⟨ops⟩ o (tmL l):=Q3t fun t _=>by rw [ht,Q0l]
   have more:∀ (v:AV) (r:Rec) (ch:CH),ChOk P GT ch→QR n r→r.dst=o.dst→r.out=v →
    (∀ rs':List Rec,(∀ q∈rs',QR n q)→RecOk P GT ch E.rd ⟨ops⟩ (befs ops []) rs' rs.length o (foldS (fun _=>true) 0 rs s0) r)→runQ P GT E ops os (setO l o.dst v) m n Q →
    ∃ ext l',ext.length=(o::os).length∧(∀ r∈rs++ext,QR n r)∧(∀ t,(foldS (fun _=>true) 0 (rs++ext) s0).tm.get t=l'[t]?)∧Q .nrm (stL l' m n) ∧
    ∀ (i:Nat) (o':Oper),(o::os)[i]?=some o'→∃ r ch,ChOk P GT ch∧(rs++ext)[rs.length+i]?=some r ∧
      RecOk P GT ch E.rd ⟨ops⟩ (befs ops []) ((rs++ext).take (rs.length+i)) (rs.length+i) o' (foldS (fun k=>decide (k<rs.length+i)) 0 (rs++ext) s0) r:=by
    intro v r ch hch hr hdst hout hrec hrun;have hq':∀ q∈rs++[r],QR n q:=fun q hqm=>by
     rcases List.mem_append.1 hqm with h1 | h1
     ·exact hq q h1
     ·rw [List.mem_singleton.1 h1];exact hr
    have hf:foldS (fun _=>true) 0 (rs++[r]) s0=stepSt (foldS (fun _=>true) 0 rs s0) r:=by rw [Q0w];rfl
    have ht':∀ t,(foldS (fun _=>true) 0 (rs++[r]) s0).tm.get t=(setO l o.dst v)[t]?:=by
     intro t;rw [hf,hr.step.2.2,Q1w,ht,←Q0l (setO l o.dst v),setO_get,Q1w,Q0l,hdst,hout]
    obtain ⟨ext,l',g1,g2,g3,g4,g5⟩:=ih (setO l o.dst v) (rs++[r]) (by simpa using hd') ht' hq' hrun;rw [List.append_assoc] at g2 g3 g5;refine ⟨r::ext,l',by simp [g1],g2,g3,g4,fun i o' hi=>?_⟩
    cases i with
    | zero =>
      simp only [List.getElem?_cons_zero,Option.some.injEq] at hi;subst hi;refine ⟨r,ch,hch,by simp,?_⟩;rw [Nat.add_zero,fold_lt,List.take_left']
      ·exact hrec rs hq
      ·rfl
    | succ i =>
      obtain ⟨r',ch',k1,k2,k3⟩:=g5 i o' (by simpa using hi);rw [List.length_append,List.length_singleton,show rs.length+1+i=rs.length+(i+1) by omega] at k2 k3;exact ⟨r',ch',k1,by simpa using k2,by simpa using k3⟩
   have mkrec:∀ (v:AV) (ch:CH) (av:Option AV),wantA ⟨ops⟩ o (tmL l)=some true→evOne P GT ch (s0.cur::E.rd) .e n (tmL l) o=some (.val av,.e,n)→av.getD (.g undef)=v→∀ rs':List Rec,(∀ q∈rs',QR n q) →
    RecOk P GT ch E.rd ⟨ops⟩ (befs ops []) rs' rs.length o (foldS (fun _=>true) 0 rs s0) ⟨o.dst,v,true,s0.cur::E.rd,.e,.e,n,n,[],fun b=>Nat.blt b n,false⟩:=by
    intro v ch av hw he hv rs' hrs';refine ⟨rfl,fn.symm,Nat.le_refl _,.inr ⟨rfl,hwant.trans hw,av,?_,hv.symm⟩,fun b x hb=>by simp [Tri.get_e] at hb,fun b hb=>by simp at hb,fun b x hb=>?_,fun b x hb=>by simp [Tri.get_e] at hb,fun b hb=>?_,fun b hb=>by simp at hb,fun b x hb=>by simp [Tri.get_e] at hb,fun i q hq=>.inr ⟨fun b hb=>?_,fun b hb=>by simp at hb⟩,fun _=>⟨rfl,Nat.le_refl _⟩⟩
    ·rw [Q2x fun t _=>hget t];exact he
    ·rw [Q0c .e] at hb
     simp only [Tri.get_e,Option.none_or] at hb;rw [fc]
     cases hc:s0.cur.get b with
     | none=>rw [Q0c,hc,Option.none_or] at hb;exact .inr hb
     | some y=>exact .inl ⟨Nat.ble_eq_true_of_le (hm b y hc),hb⟩
    ·exact Nat.le_of_ble_eq_true hb
    ·have:=hrs' q (List.mem_of_getElem? hq)
     rw [this.W,this.nx,this.nx'];exact ⟨by simp,by omega⟩
   unfold runQ at h
   split at h
   ·rename_i hw
    have hw':=wantL_ok (o:=o) hw
    split at h
    ·rename_i f args hc
     obtain ⟨v,hp,h⟩:=h;obtain ⟨ch,hch,hca⟩:=hp.ok;have he:evOne P GT ch (s0.cur::E.rd) .e n (tmL l) o=some (.val (some v),.e,n):=by
      unfold callL at hc
      split at hc
      ·rename_i c hop
       split at hc
       ·rename_i x hx
        unfold evOne;rw [evL_eq,hop];simp only [hx,hc,hca]
       ·cases hc
      ·cases hc
     exact more v _ ch hch ⟨rfl,rfl,rfl,rfl,rfl,rfl⟩ rfl rfl (mkrec v ch (some v) hw' he rfl) h
    ·rename_i hcn
     split at h
     ·rename_i v m' n' hst
      obtain ⟨hqo,h⟩:=h;obtain ⟨av,mt,he,hv,-⟩:=Q3b (ch:=noCH) hst
      obtain ⟨-,-,he2⟩:=quiet_mem hqo (fun c x hop hcal=>by
       rw [hop] at hst;obtain ⟨cal,args,ats⟩:=c;simp only at hcal;subst hcal
       simp [stepO] at hst) he
      have hmm:evOne P GT noCH (s0.cur::E.rd) .e n (tmL l) o=some (.val av,.e,n):=by rw [hM];exact he2
      exact more v _ noCH Q2t ⟨rfl,rfl,rfl,rfl,rfl,rfl⟩ rfl rfl (mkrec v noCH av hw' hmm hv) h
     ·exact h.elim
   ·rename_i hw
    have hw':=wantL_ok (o:=o) hw;refine more (.g undef) ⟨o.dst,.g undef,false,[],.e,.e,n,n,[],fun _=>false,false⟩ noCH Q2t ⟨rfl,rfl,rfl,rfl,rfl,rfl⟩ rfl rfl (fun rs' hrs'=>?_) h;refine ⟨rfl,fn.symm,Nat.le_refl _,.inl ⟨rfl,hwant.trans hw',rfl,rfl,rfl,rfl⟩,fun b x hb=>by simp [Tri.get_e] at hb,fun b hb=>by simp at hb,fun b x hb=>by simp [getR,Tri.get_e] at hb,fun b x hb=>by simp [Tri.get_e] at hb,fun b hb=>by simp at hb,fun b hb=>by simp at hb,fun b x hb=>by simp [Tri.get_e] at hb,fun i q hq=>.inr ⟨fun b hb=>by simp at hb,fun b hb=>by simp at hb⟩,fun _=>⟨rfl,Nat.le_refl _⟩⟩
   ·exact h.elim
theorem W.regionQ {id:Nat} (hmix:P.follows .mixedOrders=true) (hst:statOk ⟨ops⟩=true) (h:runQ P GT E ops ops l m n Q):W P GT E (.region id ⟨ops⟩ true) (stL l m n) Q:=by
 intro base D w1 G1 w G a _ hs ht hd;have hm:∀ b k,(stL l m n).cur.get b=some k→b<n:=by
  intro b k hb;obtain ⟨rb,ro,h1,-⟩:=hs.mr.blk b k (Q0b hb);rcases Nat.lt_or_ge b n with h2 | h2
  ·exact h2
  ·rw [hs.mr.fresh b h2 trivial] at h1;cases h1
 obtain ⟨recs,l',h1,h2,h3,h4,h5⟩:=runQ_recs (s0:=stL l m n) rfl hm rfl ops l [] (by simp) (fun t=>by show (tmL l).get t=_;rw [Q0l]) (fun r hr=>by simp at hr) h;simp only [List.nil_append,List.length_nil,Nat.zero_add] at h1 h2 h3 h5;obtain ⟨fc,fn⟩:=fold_QR recs 0 (stL l m n) (fun _=>true) h2 rfl;refine wp_region_any hmix ?_;have hs':Stp base GT allF E.rd (stL l m n).cur n w G (stL l m n).cur n { w with drawn:=w.drawn+1 } G:=Stp.world hs.mr rfl rfl rfl (Nat.le_refl _) fun _ _=>rfl
 have:=recs_sound (P:=P) (GT:=GT) (ops:=⟨ops⟩) (base:=base) (F:=allF) (D:=D) (s0:=stL l m n) (a0:=a) (w0:={ w with drawn:=w.drawn+1 }) (G0:=G) hst h1 rfl
  (fun j o ho=>by
    obtain ⟨r,ch,k1,k2,k3⟩:=h5 j o (by simpa using ho)
    exact ⟨r,ch,k1,k2,k3⟩) hs'.mr (TmR.mono hs'.ext ht) hd (fun _ _ _=>trivial)
 refine wpAny_mono (fun e a2 w2 h6=>?_) _ _ _ _ this;obtain ⟨G',g1,g2,g3,g4⟩:=h6;refine ⟨.nrm,stL l' m n,G',g1,?_,fun hp=>?_,g4,h4⟩
 ·have g5:=Stp.trans hs (Stp.trans hs' g2)
  rw [fc,fn] at g5;exact g5
 ·refine tmR_ext (g3 hp) fun t=>?_
  rw [Q0l,h3]
end
def AtCallQ (P:Program) (GT:GTab) (E:Beg) (ops:List Oper) (f:FuncId) (args:List AV) (dst:Option Tmp) (os:List Oper) (l:List AV) (m:ML) (n:Nat) (Q:AX→St→Prop):Prop :=
 ∃ a,PureN P GT f args a∧runQ P GT E ops os (setO l dst a) m n Q
def nextQ (P:Program) (GT:GTab) (E:Beg) (ops:List Oper) (r:Option (AV×ML×Nat)) (op:Op) (dst:Option Tmp) (os:List Oper) (l:List AV) (m:ML) (n:Nat) (Q:AX→St→Prop):Prop:=match r with
 | some (v,_,_)=>quietOp op=true∧runQ P GT E ops os (setO l dst v) m n Q
 | none=>False
def callQ (P:Program) (GT:GTab) (E:Beg) (ops:List Oper) (r:Option (FuncId×List AV)) (op:Op) (dst:Option Tmp) (os:List Oper) (l:List AV) (m:ML) (n:Nat) (Q:AX→St→Prop):Prop:=match r with
 | some (f,args)=>AtCallQ P GT E ops f args dst os l m n Q
 | none=>nextQ P GT E ops (stepO P GT E.rd m n l op) op dst os l m n Q
def wantQ (P:Program) (GT:GTab) (E:Beg) (ops:List Oper) (r:Option Bool) (op:Op) (dst:Option Tmp) (os:List Oper) (l:List AV) (m:ML) (n:Nat) (Q:AX→St→Prop):Prop:=match r with
 | some true=>callQ P GT E ops (callL GT l op) op dst os l m n Q
 | some false=>runQ P GT E ops os (setO l dst (.g undef)) m n Q
 | none=>False
def condK (P:Program) (GT:GTab) (E:Beg) (v:AV) (p q:Code) (s:St) (Q:AX→St→Prop):Prop:=match v with
 | .g (.bool true)=>W P GT E p s Q
 | .g (.bool false)=>W P GT E q s Q
 | _=>False
section
variable {P:Program} {GT:GTab} {E:Beg} {ops os:List Oper} {l:List AV} {m m':ML} {n n':Nat} {Q:AX→St→Prop} {dst:Option Tmp} {op:Op} {o:Oper} {s:St} {p q:Code} {x:AV}
theorem runQ_nil:runQ P GT E ops [] l m n Q=Q .nrm (stL l m n):=Eq.trans rfl rfl
theorem runQ_cons:runQ P GT E ops (o::os) l m n Q=wantQ P GT E ops (wantL ops l o.guard) o.op o.dst os l m n Q:=Eq.trans rfl rfl
theorem wantQ_true:wantQ P GT E ops (some true) op dst os l m n Q=callQ P GT E ops (callL GT l op) op dst os l m n Q:=Eq.trans rfl rfl
theorem wantQ_false:wantQ P GT E ops (some false) op dst os l m n Q=runQ P GT E ops os (setO l dst (.g undef)) m n Q:=Eq.trans rfl rfl
theorem callQ_none:callQ P GT E ops none op dst os l m n Q=nextQ P GT E ops (stepO P GT E.rd m n l op) op dst os l m n Q:=Eq.trans rfl rfl
theorem callQ_some {f:FuncId} {args:List AV}:callQ P GT E ops (some (f,args)) op dst os l m n Q=AtCallQ P GT E ops f args dst os l m n Q:=Eq.trans rfl rfl
theorem nextQ_some {v:AV}:nextQ P GT E ops (some (v,m',n')) op dst os l m n Q=(quietOp op=true∧runQ P GT E ops os (setO l dst v) m n Q):=Eq.trans rfl rfl
theorem AtCallQ.mk {f:FuncId} {args:List AV} {a:AV} (h:PureN P GT f args a) (k:runQ P GT E ops os (setO l dst a) m n Q):AtCallQ P GT E ops f args dst os l m n Q:=⟨a,h,k⟩
theorem setO_some {d:Tmp} {v:AV}:setO l (some d) v=l.set d v:=Eq.trans rfl rfl
theorem setO_none {v:AV}:setO l none v=l:=Eq.trans rfl rfl
theorem wantL_none:wantL os l none=some true:=rfl
theorem callL_value {f:Operand} {args:Array Operand} {ats:Array TypeId}:callL GT l (.call ⟨.value f,args,ats⟩)=calleeA (evL GT l) ⟨.value f,args,ats⟩:=Eq.trans rfl rfl
theorem callL_builtin {b:Builtin} {args:Array Operand} {ats:Array TypeId}:callL GT l (.call ⟨.builtin b,args,ats⟩)=none:=Eq.trans rfl rfl
theorem callL_move {x:Operand}:callL GT l (.move x)=none:=Eq.trans rfl rfl
theorem callL_assign {x:Operand}:callL GT l (.assign x)=none:=Eq.trans rfl rfl
theorem callL_pick {x:Operand} {y:Operand} {z:Operand}:callL GT l (.pick x y z)=none:=Eq.trans rfl rfl
theorem callL_alloc {t:TypeId}:callL GT l (.alloc t)=none:=Eq.trans rfl rfl
theorem callL_box {t:TypeId} {x:Operand}:callL GT l (.box t x)=none:=Eq.trans rfl rfl
theorem callL_build {t:TypeId} {ps:Array (Nat×Operand)}:callL GT l (.build t ps)=none:=Eq.trans rfl rfl
theorem callL_buildSlice {t:TypeId} {k:Nat} {ps:Array (Nat×Operand)}:callL GT l (.buildSlice t k ps)=none:=Eq.trans rfl rfl
theorem callL_insert {t:TypeId} {x:Operand} {y:Operand} {z:Operand}:callL GT l (.insert t x y z)=none:=Eq.trans rfl rfl
theorem callL_load {t:TypeId} {x:Operand}:callL GT l (.load t x)=none:=Eq.trans rfl rfl
theorem callL_store {t:TypeId} {x:Operand} {y:Operand}:callL GT l (.store t x y)=none:=Eq.trans rfl rfl
theorem callL_nilCheck {x:Operand}:callL GT l (.nilCheck x)=none:=Eq.trans rfl rfl
theorem callL_binOp {bo:BinOp} {t:TypeId} {x:Operand} {y:Operand} {t2:TypeId}:callL GT l (.binOp bo t x y t2)=none:=Eq.trans rfl rfl
theorem callL_unOp {uo:UnOp} {t:TypeId} {x:Operand}:callL GT l (.unOp uo t x)=none:=Eq.trans rfl rfl
theorem callL_convert {t:TypeId} {t2:TypeId} {x:Operand}:callL GT l (.convert t t2 x)=none:=Eq.trans rfl rfl
theorem callL_makeInterface {t:TypeId} {x:Operand}:callL GT l (.makeInterface t x)=none:=Eq.trans rfl rfl
theorem callL_makeFunc {fn:Fn} {xs:Array Operand} {ys:Array Operand}:callL GT l (.makeFunc fn xs ys)=none:=Eq.trans rfl rfl
theorem callL_makeMap {t:TypeId} {ox:Option Operand}:callL GT l (.makeMap t ox)=none:=Eq.trans rfl rfl
theorem callL_makeSlice {t:TypeId} {x:Operand} {y:Operand}:callL GT l (.makeSlice t x y)=none:=Eq.trans rfl rfl
theorem callL_slice {t:TypeId} {x:Operand} {ox:Option Operand} {oy:Option Operand} {oz:Option Operand}:callL GT l (.slice t x ox oy oz)=none:=Eq.trans rfl rfl
theorem callL_fieldAddr {t:TypeId} {x:Operand} {k:Nat}:callL GT l (.fieldAddr t x k)=none:=Eq.trans rfl rfl
theorem callL_field {t:TypeId} {x:Operand} {k:Nat}:callL GT l (.field t x k)=none:=Eq.trans rfl rfl
theorem callL_indexAddr {t:TypeId} {x:Operand} {y:Operand}:callL GT l (.indexAddr t x y)=none:=Eq.trans rfl rfl
theorem callL_index {t:TypeId} {x:Operand} {y:Operand}:callL GT l (.index t x y)=none:=Eq.trans rfl rfl
theorem callL_lookup {t:TypeId} {x:Operand} {y:Operand} {b:Bool}:callL GT l (.lookup t x y b)=none:=Eq.trans rfl rfl
theorem callL_mapUpdate {t:TypeId} {x:Operand} {y:Operand} {z:Operand}:callL GT l (.mapUpdate t x y z)=none:=Eq.trans rfl rfl
theorem callL_mapEntry {t:TypeId} {x:Operand} {y:Operand}:callL GT l (.mapEntry t x y)=none:=Eq.trans rfl rfl
theorem callL_entryStore {t:TypeId} {x:Operand} {y:Operand} {z:Operand}:callL GT l (.entryStore t x y z)=none:=Eq.trans rfl rfl
theorem callL_range {t:TypeId} {x:Operand}:callL GT l (.range t x)=none:=Eq.trans rfl rfl
theorem callL_next {x:Operand} {b:Bool}:callL GT l (.next x b)=none:=Eq.trans rfl rfl
theorem callL_extract {x:Operand} {k:Nat}:callL GT l (.extract x k)=none:=Eq.trans rfl rfl
theorem callL_panic {x:Operand}:callL GT l (.panic x)=none:=Eq.trans rfl rfl
theorem callee_func {f:FuncId} {args:Array Operand} {ats:Array TypeId}:calleeA (evL GT l) ⟨.value (.func f),args,ats⟩=some (f,args.toList.map (evL GT l)):=by
 show some (f,[]++args.toList.map (evL GT l)++[])=_;rw [List.nil_append,List.append_nil]
theorem evL_tmp {t:Tmp}:evL GT l (.tmp t)=l.getD t .any:=rfl
theorem evL_const {v:Value}:evL GT l (.const v)=avc v:=rfl
theorem evL_func {f:FuncId}:evL GT l (.func f)=.fn (.func f) [] []:=rfl
theorem avc_bool {b:Bool}:avc (.bool b)=.g (.bool b):=rfl
theorem avc_int {k:IntKind} {i:Int}:avc (.int k i)=.g (.int k i):=rfl
theorem avc_string {s:ByteArray}:avc (.string s)=.g (.string s):=rfl
theorem avc_slice {a:Option Addr} {n c:Nat}:avc (.slice a n c)=.g (.slice a n c):=rfl
theorem avc_ptr {a:Option Addr}:avc (.pointer a)=.g (.pointer a):=rfl
theorem thenW_nrm:thenW P GT E p Q .nrm s=W P GT E p s Q:=Eq.trans rfl rfl
theorem thenW_exit {i:Nat}:thenW P GT E p Q (.exit i) s=Q (.exit i) s:=Eq.trans rfl rfl
theorem thenW_ret:thenW P GT E p Q .ret s=Q .ret s:=Eq.trans rfl rfl
theorem blkW_nrm {i:Nat}:blkW i Q .nrm s=Q .nrm s:=Eq.trans rfl rfl
theorem blkW_ret {i:Nat}:blkW i Q .ret s=Q .ret s:=Eq.trans rfl rfl
theorem blkW_exit {i j:Nat}:blkW i Q (.exit j) s=if j=i then Q .nrm s else Q (.exit j) s:=Eq.trans rfl rfl
theorem scopeW_nrm:scopeW Q .nrm s=Q .nrm s:=Eq.trans rfl rfl
theorem scopeW_ret:scopeW Q .ret s=Q .ret s:=Eq.trans rfl rfl
theorem scopeW_exit {i:Nat}:scopeW Q (.exit i) s=Q (.exit i) s:=Eq.trans rfl rfl
theorem roundW_ret {ι:Type} {I:ι→St→Prop} {μ:ι→Nat} {k:Nat}:roundW GT E I μ k Q .ret s=Q .ret s:=Eq.trans rfl rfl
theorem roundW_exit {ι:Type} {I:ι→St→Prop} {μ:ι→Nat} {k i:Nat}:roundW GT E I μ k Q (.exit i) s=Q (.exit i) s:=Eq.trans rfl rfl
theorem condK_true:condK P GT E (.g (.bool true)) p q s Q=W P GT E p s Q:=Eq.trans rfl rfl
theorem condK_false:condK P GT E (.g (.bool false)) p q s Q=W P GT E q s Q:=Eq.trans rfl rfl
theorem W.condL {c:Operand} (h:condK P GT E (evL GT l c) p q (stL l m n) Q):W P GT E (.cond c p q) (stL l m n) Q:=by
 unfold condK at h
 split at h
 ·rename_i hc;exact .cond (t:=true) (by rw [evL_eq];exact hc) h
 ·rename_i hc;exact .cond (t:=false) (by rw [evL_eq];exact hc) h
 ·exact h.elim
theorem condK_split {b:Bool} (ht:b=true→W P GT E p s Q) (hf:b=false→W P GT E q s Q):condK P GT E (.g (.bool b)) p q s Q:=by
 cases b
 ·exact hf rfl
 ·exact ht rfl
theorem W.enter {nt:Nat} {args:List AV} {c:Code} (h:W P GT .none c (stL (args++List.replicate (nt - args.length) (.g undef)) [] 0) Q):W P GT .none c ⟨putArgs args 0 (undefT nt 0),.e,0⟩ Q:=by
 refine W.vs (s1:=stL (args++List.replicate (nt - args.length) (.g undef)) [] 0) (fun base w1 G1 w G ts _ hs ht=>⟨G,.refl w _,hs,fun t v hv=>?_⟩) h;refine ht t v ?_;rw [Q0l] at hv;rw [Q1x,Q2h]
 by_cases h1:t<args.length
 ·rw [List.getElem?_append_left h1] at hv
  rw [if_pos ⟨Nat.zero_le _,by omega⟩,Nat.sub_zero];exact hv
 ·rw [List.getElem?_append_right (by omega),List.getElem?_replicate] at hv
  rw [if_neg (by omega)]
  split at hv
  ·rw [if_pos (by omega)];exact hv
  ·cases hv
end
attribute [go_sem] runQ_nil runQ_cons wantQ_true wantQ_false callQ_none callQ_some nextQ_some setO_some setO_none wantL_none callL_value callL_builtin callL_move callL_assign callL_pick callL_alloc callL_box callL_build callL_buildSlice callL_insert callL_load callL_store callL_nilCheck callL_binOp callL_unOp callL_convert callL_makeInterface callL_makeFunc callL_makeMap callL_makeSlice callL_slice callL_fieldAddr callL_field callL_indexAddr callL_index callL_lookup callL_mapUpdate callL_mapEntry callL_entryStore callL_range callL_next callL_extract callL_panic callee_func evL_tmp evL_const evL_func avc_bool avc_int avc_string avc_slice avc_ptr
 thenW_nrm thenW_exit thenW_ret blkW_nrm blkW_ret blkW_exit scopeW_nrm scopeW_ret scopeW_exit roundW_ret roundW_exit condK_true condK_false runL_nil runL_cons wantK_true wantK_false callK_none callK_some nextK_some nextK_none
 stepO quietOp wantL wantG_bool wantG_undef loadL partL fieldL indexL lenL storeL binA intA strA getL setL delL nilT nilK nilA nilP indexS sliceS evInt lookL msetL mentL estL idxA fldA convA divI bitI shI makeL nextS negA mnA mxA appZ clearL
abbrev Ren:=List (Nat×Nat)
def lk:Ren→Nat→Option Nat
 | [],_=>none
 | (c,b)::r,x=>if c=x then some b else lk r x
def lkE (n1:Nat) (q:Ren) (c:Nat):Option Nat:=if c<n1 then some c else lk q c
mutual
def reA (n1:Nat) (q:Ren):AV→AV→Prop
 | .any,_=>True
 | .ptr c o,a=>∃ b,a=.ptr b o∧lkE n1 q c=some b
 | .gs c o n sz k,a=>∃ b k',a=.gs b o n sz k'∧lkE n1 q c=some b∧n≤k∧k≤k'
 | .mp c,a=>∃ b,a=.mp b∧lkE n1 q c=some b
 | .fn f x y,a=>∃ x' y',a=.fn f x' y'∧reL n1 q x x'∧reL n1 q y y'
 | .agg x,a=>∃ x',a=.agg x'∧reL n1 q x x'
 | .tup x,a=>∃ x',a=.tup x'∧reL n1 q x x'
 | .ifc t x,a=>∃ x',a=.ifc t x'∧reA n1 q x x'
 | .g v,a=>a=.g v
 | .ept cs o,a=>a=.ept cs o
 | .sl n sz cs,a=>a=.sl n sz cs
 | .z0,a=>a=.z0
def reL (n1:Nat) (q:Ren):List AV→List AV→Prop
 | [],l=>l=[]
 | a::as,l=>∃ b bs,l=b::bs∧reA n1 q a b∧reL n1 q as bs
end
def reB (n1:Nat) (q:Ren):Blk→Blk→Prop
 | .cells cs,k=>∃ cs',k=.cells cs'∧((cs=cs'∧noIdsL cs=true)∨reL n1 q cs cs')
 | .sit s p,k=>k=.sit s p
 | .map _ _,_=>False
def reM (n1:Nat) (q:Ren) (m:ML):ML→Prop
 | []=>True
 | (c,k)::m'=>(∃ b k',lkE n1 q c=some b∧getL m b=some k'∧reB n1 q k k')∧reM n1 q m m'
def renG (n1:Nat) (q:Ren) (G:Gh):Gh:=⟨fun c=>(lkE n1 q c).bind G.μ,G.I⟩
section
variable {w:World} {G:Gh} {q:Ren} {n1:Nat}
theorem ren_plain {a:AV} {v:Value} (hn:noIds a=true) (h:VR w G a v):VR w (renG n1 q G) a v:=VR.mono (G:=(renG n1 q G).bare) (Ext.unbare w (renG n1 q G)) a (show VR w (renG n1 q G).bare a v from Q2i (G:=G) a hn h)
mutual
theorem reA_spec:∀ (a:AV) {b:AV} {v:Value},reA n1 q a b→VR w G b v→VR w (renG n1 q G) a v
 | .any,_,_,_,_=>trivial
 | .ptr c o,_,_,h,hv=>by
   obtain ⟨b,rfl,hq⟩:=h;obtain ⟨rb,ro,h1,h2⟩:=hv;exact ⟨rb,ro,by show (lkE n1 q c).bind G.μ=_;rw [hq];exact h1,h2⟩
 | .gs c o n sz k,_,_,h,hv=>by
   obtain ⟨b,k',rfl,hq,hk1,hk2⟩:=h;obtain ⟨rb,ro,o',cap,cc,e,fr,h1,h2,h3,h4,h5,h6,h7,h8,h9⟩:=hv;exact ⟨rb,ro,o',cap,cc,e,fr,by show (lkE n1 q c).bind G.μ=_;rw [hq];exact h1,h2,h3,h4,h5,h6,hk1,Nat.le_trans hk2 h8,h9⟩
 | .mp c,_,_,h,hv=>by
   obtain ⟨b,rfl,hq⟩:=h;obtain ⟨rb,h1,h2⟩:=hv;exact ⟨rb,by show (lkE n1 q c).bind G.μ=_;rw [hq];exact h1,h2⟩
 | .fn f x y,_,_,h,hv=>by
   obtain ⟨x',y',rfl,hx,hy⟩:=h;obtain ⟨rx,ry,h1,h2,h3⟩:=hv;exact ⟨rx,ry,h1,reL_spec x hx h2,reL_spec y hy h3⟩
 | .agg x,_,_,h,hv=>by
   obtain ⟨x',rfl,hx⟩:=h;obtain ⟨rc,h1,h2⟩:=hv;exact ⟨rc,h1,reL_spec x hx h2⟩
 | .tup x,_,_,h,hv=>by
   obtain ⟨x',rfl,hx⟩:=h;obtain ⟨rc,h1,h2⟩:=hv;exact ⟨rc,h1,reL_spec x hx h2⟩
 | .ifc t x,_,_,h,hv=>by
   obtain ⟨x',rfl,hx⟩:=h;obtain ⟨y,h1,h2⟩:=hv;exact ⟨y,h1,reA_spec x hx h2⟩
 | .g v,_,_,h,hv=>by obtain rfl:=h;exact hv
 | .ept cs o,_,_,h,hv=>by obtain rfl:=h;exact ren_plain rfl hv
 | .sl n sz cs,_,_,h,hv=>by obtain rfl:=h;exact ren_plain rfl hv
 | .z0,_,_,h,hv=>by obtain rfl:=h;exact hv
theorem reL_spec:∀ (a:List AV) {b:List AV} {v:List Value},reL n1 q a b→VRs w G b v→VRs w (renG n1 q G) a v
 | [],_,_,h,hv=>by obtain rfl:=h;exact hv
 | a::as,_,_,h,hv=>by
   obtain ⟨b,bs,rfl,h1,h2⟩:=h;obtain ⟨v,vs,rfl,h3,h4⟩:=hv;exact ⟨v,vs,rfl,reA_spec a h1 h3,reL_spec as h2 h4⟩
end
theorem reL_get:∀ {l l':List AV},reL n1 q l' l→∀ (t:Nat) (a:AV),l'[t]?=some a→∃ b,l[t]?=some b∧reA n1 q a b
 | _,[],_,t,a,h=>by simp at h
 | _,a::as,h,t,x,hx=>by
   obtain ⟨b,bs,rfl,h1,h2⟩:=h
   cases t with
   | zero=>simp only [List.getElem?_cons_zero,Option.some.injEq] at hx;subst hx;exact ⟨b,rfl,h1⟩
   | succ t=>simp only [List.getElem?_cons_succ] at hx ⊢;exact reL_get h2 t x hx
theorem reB_spec {k k':Blk} {rb ro:Nat} (h:reB n1 q k k') (hk:BlkR w G rb ro k'):BlkR w (renG n1 q G) rb ro k:=by
 cases k with
 | cells cs =>
   obtain ⟨cs',rfl,h⟩:=h;obtain ⟨c,e,fr,h1,h2,h3⟩:=hk;refine ⟨c,e,fr,h1,h2,fun i a hi=>?_⟩;rcases h with ⟨rfl,hn⟩ | h
   ·obtain ⟨v,h4,h5⟩:=h3 i a hi
    have:noIds a=true:=by
     clear h3 h4 h5
     induction cs generalizing i with
     | nil=>simp at hi
     | cons x xs ih =>
       simp only [noIdsL,Bool.and_eq_true] at hn
       cases i with
       | zero=>simp only [List.getElem?_cons_zero,Option.some.injEq] at hi;rw [←hi];exact hn.1
       | succ i=>exact ih i (by simpa using hi) hn.2
    exact ⟨v,h4,ren_plain this h5⟩
   ·obtain ⟨b,h6,h7⟩:=reL_get h i a hi
    obtain ⟨v,h4,h5⟩:=h3 i b h6;exact ⟨v,h4,reA_spec a h7 h5⟩
 | sit s p=>obtain rfl:=h;exact hk
 | map es c=>exact h.elim
theorem reM_get {m:ML}:∀ {m':ML},reM n1 q m m'→∀ (c:Nat) (k:Blk),getL m' c=some k→∃ b k',lkE n1 q c=some b∧getL m b=some k'∧reB n1 q k k'
 | [],_,c,k,h=>by simp [getL] at h
 | (d,x)::m',h,c,k,hc=>by
   rw [getL] at hc
   split at hc
   ·rename_i hd;subst hd;cases hc;exact h.1
   ·exact reM_get h.2 c k hc
theorem lk_mem:∀ {q:Ren} {c b:Nat},lk q c=some b→(c,b)∈q
 | [],c,b,h=>by simp [lk] at h
 | (d,e)::q,c,b,h=>by
   rw [lk] at h
   split at h
   ·rename_i hd;subst hd;cases h;exact List.mem_cons_self
   ·exact List.mem_cons_of_mem _ (lk_mem h)
theorem lk_inj:∀ {q:Ren} {c c' b:Nat},(q.map (·.2)).Nodup→lk q c=some b→lk q c'=some b→c=c'
 | [],c,c',b,_,h,_=>by simp [lk] at h
 | (d,e)::q,c,c',b,hn,h,h'=>by
   simp only [List.map_cons,List.nodup_cons] at hn;rw [lk] at h h'
   split at h
   ·rename_i hd
    cases h
    split at h'
    ·rename_i hd';exact hd.symm.trans hd'
    ·exact absurd (List.mem_map.2 ⟨_,lk_mem h',rfl⟩) hn.1
   ·split at h'
    ·cases h'
     exact absurd (List.mem_map.2 ⟨_,lk_mem h,rfl⟩) hn.1
    ·exact lk_inj hn.2 h h'
variable {GT:GTab} {l l':List AV} {m m':ML} {n n':Nat}
variable {E:Beg}
theorem lkE_lt {c b:Nat} (hn:∀ p∈q,n1≤p.1∧n1≤p.2) (h:lkE n1 q c=some b):(c<n1∧b=c)∨(n1≤c∧n1≤b∧lk q c=some b):=by
 unfold lkE at h
 split at h
 ·rename_i hc;cases h;exact .inl ⟨hc,rfl⟩
 ·rename_i hc;have:=hn _ (lk_mem h);exact .inr ⟨by omega,this.2,h⟩
theorem lkE_inj {c c' b:Nat} (hn:∀ p∈q,n1≤p.1∧n1≤p.2) (hd:(q.map (·.2)).Nodup) (h:lkE n1 q c=some b) (h':lkE n1 q c'=some b):c=c':=by
 rcases lkE_lt hn h with ⟨h1,h2⟩ | ⟨h1,h2,h3⟩ <;> rcases lkE_lt hn h' with ⟨k1,k2⟩ | ⟨k1,k2,k3⟩
 ·omega
 ·omega
 ·omega
 ·exact lk_inj hd h3 k3
theorem VS.ren (q:Ren) (h1:∀ p∈q,E.nx≤p.1∧E.nx≤p.2∧p.1<n') (h2:(q.map (·.2)).Nodup) (hn':E.nx≤n') (h3:reL E.nx q l' l) (h4:reM E.nx q m m'):VS GT E (stL l m n) (stL l' m' n'):=by
 intro base w1 G1 w G ts hm1 hs ht;have hb1:∀ p∈q,E.nx≤p.1∧E.nx≤p.2:=fun p hp=>⟨(h1 p hp).1,(h1 p hp).2.1⟩;have hbl:∀ c k,(memL m').get c=some k→∃ b k',lkE E.nx q c=some b∧(memL m).get b=some k'∧reB E.nx q k k':=by
  intro c k hc;rw [Q0d] at hc;obtain ⟨b,k',g1,g2,g3⟩:=reM_get h4 c k hc;exact ⟨b,k',g1,(Q0d m b).trans g2,g3⟩
 have mu:∀ c b x,lkE E.nx q c=some b→(renG E.nx q G).μ c=some x→G.μ b=some x:=by
  intro c b x hq hx;have:(lkE E.nx q c).bind G.μ=some x:=hx;rw [hq] at this;exact this
 have mu1:∀ (c:Nat) (x:Nat×Nat),c<E.nx→(renG E.nx q G).μ c=G.μ c:=by
  intro c _ hc;show (lkE E.nx q c).bind G.μ=_;rw [lkE,if_pos hc];rfl
 have low:∀ (b:Nat) (x:Nat×Nat),G1.μ b=some x→b<E.nx:=by
  intro b x hb;rcases Nat.lt_or_ge b E.nx with h | h
  ·exact h
  ·rw [hm1.fresh b h trivial] at hb;cases hb
 have rdlow:∀ c k,getR E.rd c=some k→E.cur.get c=none∧c<E.nx∧∃ rb ro,G1.μ c=some (rb,ro):=by
  intro c k hc;have hcn:E.cur.get c=none:=by
   cases hx:E.cur.get c with
   | none=>rfl
   | some y=>rw [hm1.dj c y hx] at hc;cases hc
  obtain ⟨rb,ro,e1,-⟩:=hm1.blk c k (by rw [Q0c,hcn];exact hc);exact ⟨hcn,low c _ e1,rb,ro,e1⟩
 have hext:Ext w1 w G1 (renG E.nx q G):=⟨fun b x hb=>by rw [mu1 b x (low b x hb)];exact hs.ext.mu b x hb,hs.ext.im,hs.ext.same,hs.ext.shape⟩;have hdj:∀ c k,(memL m').get c=some k→getR E.rd c=none:=by
  intro c k hc
  cases hr:getR E.rd c with
  | none=>rfl
  | some y =>
    obtain ⟨-,hlt,-⟩:=rdlow c y hr;obtain ⟨b,k',g1,g2,-⟩:=hbl c k hc;rcases lkE_lt hb1 g1 with ⟨-,rfl⟩ | ⟨h5,-⟩
    ·rw [hs.mr.dj b k' g2] at hr;cases hr
    ·omega
 have hblk:∀ c k,getR (memL m'::E.rd) c=some k→∃ rb ro,(renG E.nx q G).μ c=some (rb,ro)∧base≤rb∧¬(renG E.nx q G).I rb∧BlkR w (renG E.nx q G) rb ro k:=by
  intro c k hc;rw [Q0c] at hc
  cases hcm:(memL m').get c with
  | some y =>
    rw [hcm,Option.some_or] at hc;obtain rfl:y=k:=by simpa using hc
    obtain ⟨b,k',g1,g2,g3⟩:=hbl c y hcm;obtain ⟨rb,ro,e1,e2,e3,e4⟩:=hs.mr.blk b k' (Q0b g2);exact ⟨rb,ro,by show (lkE E.nx q c).bind G.μ=_;rw [g1];exact e1,e2,e3,reB_spec g3 e4⟩
  | none =>
    rw [hcm,Option.none_or] at hc;obtain ⟨hcn,hlt,-⟩:=rdlow c k hc;obtain ⟨rb,ro,e1,e2,e3,e4⟩:=hm1.blk c k (by rw [Q0c,hcn];exact hc);have hg:G.μ c=some (rb,ro):=hs.ext.mu c _ e1;have hcn2:(memL m).get c=none:=by
     cases hx:(memL m).get c with
     | none=>rfl
     | some y=>rw [hs.mr.dj c y hx] at hc;cases hc
    obtain ⟨rb',ro',f1,f2,f3,-⟩:=hs.mr.blk c k (by rw [Q0c,hcn2];exact hc);rw [hg] at f1;cases f1;refine ⟨rb,ro,by rw [mu1 c (rb,ro) hlt];exact hg,f2,f3,e4.mono hext (hs.fr rb e4.lt fun b k0 ro0 hb0 he0=>?_)⟩;have:=hm1.inj b c k0 k rb ro0 ro (Q0b hb0) (by rw [Q0c,hcn];exact hc) he0 e1;subst this;rw [hcn] at hb0;cases hb0
 refine ⟨renG E.nx q G,.refl w _,?_,fun t a ha=>?_⟩
 ·exact {
   mr := {
    fresh:=fun b hb _=>by
     show (lkE E.nx q b).bind G.μ=none;have hb':n'≤b:=hb
     cases hq:lkE E.nx q b with
     | none=>rfl
     | some c =>
       rcases lkE_lt hb1 hq with ⟨h5,-⟩ | ⟨-,-,h5⟩
       ·omega
       ·have:=(h1 _ (lk_mem h5)).2.2;omega
    blk:=hblk
    inj := fun c c' k k' rb ro ro' hc hc' e1 e2=>by
     have back:∀ c k,getR (memL m'::E.rd) c=some k→∃ b x,lkE E.nx q c=some b∧getR (memL m::E.rd) b=some x:=by
      intro c k hc;rw [Q0c] at hc
      cases hcm:(memL m').get c with
      | some y =>
        obtain ⟨b,x,g1,g2,-⟩:=hbl c y hcm;exact ⟨b,x,g1,Q0b g2⟩
      | none =>
        rw [hcm,Option.none_or] at hc;obtain ⟨-,hlt,-⟩:=rdlow c k hc;have hcn2:(memL m).get c=none:=by
         cases hx:(memL m).get c with
         | none=>rfl
         | some y=>rw [hs.mr.dj c y hx] at hc;cases hc
        exact ⟨c,k,by rw [lkE,if_pos hlt],by rw [Q0c,hcn2];exact hc⟩
     obtain ⟨b,x,g1,g2⟩:=back c k hc;obtain ⟨b',x',g1',g2'⟩:=back c' k' hc';have:=hs.mr.inj b b' x x' rb ro ro' g2 g2' (mu c b _ g1 e1) (mu c' b' _ g1' e2);subst this;exact lkE_inj hb1 h2 g1 g1'
    imm:=hs.mr.imm,base:=hs.mr.base
    gt:=fun g cs hg=>RowR.mono (Ext.unbare w (renG E.nx q G)) cs (show RowR w (renG E.nx q G).bare g 0 cs from bareRow (G:=G) cs (hs.mr.gt g cs hg))
    dj:=hdj }
   ext:=hext
   os:=hs.os,tape:=hs.tape,output:=hs.output,size:=hs.size,fr:=hs.fr
   prov:=fun c k rb ro hc hx=>by
    obtain ⟨b,k',g1,g2,-⟩:=hbl c k hc;exact hs.prov b k' rb ro g2 (mu c b _ g1 hx)
   impr:=hs.impr
   mus:=fun b x hb=>by
    rcases Nat.lt_or_ge b E.nx with h5 | h5
    ·rw [mu1 b x h5] at hb;exact hs.mus b x hb
    ·exact .inr h5
   nx:=hn' }
 ·rw [Q0l] at ha
  obtain ⟨b,g1,g2⟩:=reL_get h3 t a ha;obtain ⟨v,g3,g4⟩:=ht t b (by rw [Q0l];exact g1);exact ⟨v,g3,reA_spec a g2 g4⟩
theorem PureN.of_w {P:Program} {GT:GTab} {c:Code} {f:FuncId} {fn:Func} {args:List AV} {v:AV} (hf:P.funcs[f]?=some fn) (hb:fn.body=some c) (hn:(fn.name == "runtime.NumGoroutine")=false) (hi:noIdsL args=true)
 (h:W P GT .none c (stL (args++List.replicate (fn.ntmps - args.length) (.g undef)) [] 0) (postP P fn.results.toList v)):PureN P GT f args v:=pure_of_w hf hb hn hi (W.enter h)
end
def postM (P:Program) (GT:GTab) (E:Beg) (rs:List ResultVar) (a:AV) (m':ML) (n':Nat):AX→St→Prop :=
 fun x s=>(x=.nrm∨x=.ret)∧∃ l1,VS GT E s (stL l1 m' n')∧resA P (memL m'::E.rd) (tmL l1) rs=some a
section
variable {P:Program} {GT:GTab} {rd:List Mem} {m m':ML} {n n':Nat} {l l':List AV} {E:Beg}
theorem VS.enter {args:List AV} {nt:Nat} (s1:St) (hc:s1.cur=memL m) (hn:s1.nx=n) (ht:s1.tm=putArgs args 0 (undefT nt 0)):VS GT E s1 (stL (args++List.replicate (nt - args.length) (.g undef)) m n):=by
 obtain ⟨tm,cur,nx⟩:=s1;simp only at hc hn ht;subst hc hn ht;intro base w1 G1 w G ts _ hs hv;refine ⟨G,.refl w _,hs,fun t v h=>hv t v ?_⟩;rw [Q0l] at h;show (putArgs args 0 (undefT nt 0)).get t=some v;rw [Q1x,Q2h]
 by_cases h1:t<args.length
 ·rw [List.getElem?_append_left h1] at h
  rw [if_pos ⟨Nat.zero_le _,by omega⟩,Nat.sub_zero];exact h
 ·rw [List.getElem?_append_right (by omega),List.getElem?_replicate] at h
  rw [if_neg (by omega)]
  split at h
  ·rw [if_pos (by omega)];exact h
  ·cases h
theorem Q0m {c:Code} {f:FuncId} {fn:Func} {args:List AV} {a:AV} (hf:P.funcs[f]?=some fn) (hb:fn.body=some c) (hnm:(fn.name == "runtime.NumGoroutine")=false)
 (h:W P GT ⟨rd,memL m,n⟩ c (stL (args++List.replicate (fn.ntmps - args.length) (.g undef)) m n) (postM P GT ⟨rd,memL m,n⟩ fn.results.toList a m' n')):CallM P GT rd m n f args a m' n':=by
 refine ⟨fun base w G rargs hm ha=>?_,fn,hf,hnm,by rw [hb];rfl⟩;refine calls_of_wp hf hb ?_;have hlen:=ha.len;have htm:TmR w G (putArgs args 0 (undefT fn.ntmps 0)) (rargs++Array.replicate (fn.ntmps - rargs.size) undef):=by
  intro t x hx;rw [Q1x,Q2h] at hx;have hsz:rargs.size=args.length:=by simpa using hlen
  by_cases h:t<args.length
  ·have ha':args[t]?=some args[t]:=by simp [h]
   rw [if_pos ⟨Nat.zero_le _,by omega⟩,Nat.sub_zero,ha'] at hx
   cases hx
   obtain ⟨v,h1,h2⟩:=ha.get ha';refine ⟨v,?_,h2⟩;rw [Array.getElem?_append_left (by omega),←h1];simp
  ·rw [if_neg (by omega)] at hx
   split at hx
   ·rename_i ht'
    cases hx
    refine ⟨undef,?_,rfl⟩;rw [Array.getElem?_append_right (by omega),Array.getElem?_replicate,if_pos (by omega)]
   ·cases hx
 have hw:W P GT ⟨rd,memL m,n⟩ c ⟨putArgs args 0 (undefT fn.ntmps 0),memL m,n⟩ (postM P GT ⟨rd,memL m,n⟩ fn.results.toList a m' n'):=W.vs (VS.enter _ rfl rfl rfl) h;refine wp_mono (hw base [] w G w G { tmps:=rargs++Array.replicate (fn.ntmps - rargs.size) undef,defers:=[] } hm (Stp.refl hm) htm rfl) fun e a' w' h1=>?_;obtain ⟨x,s',G',he,hs,ht',hd,hx,l1,hvs,hr⟩:=h1;have ht2:=ht' (fun u e=>by rcases hx with rfl | rfl <;> cases e)
 obtain ⟨G2,-,hs2,ht3⟩:=hvs base w G w' G' a'.tmps hm hs ht2;obtain ⟨rv,h2,h3⟩:=resA_run hs2.mr ht3 hr;rcases hx with rfl | rfl
 ·obtain rfl:e=.normal:=he
  exact ⟨hd,rv,h2,rv,G2,rfl,hs2,h3⟩
 ·obtain rfl:e=.ret:=he
  exact ⟨hd,rv,h2,rv,G2,rfl,hs2,h3⟩
def CloseTo (rd:List Mem) (m:ML) (as bs:List AV):Prop:=∃ K,closeV.closeL (memL m::rd) K as=some bs
theorem Pure.read {f:FuncId} {args as:List AV} {v:Value} (h:Pure P GT f as (.ret (.g v))) (hfn:∃ fn,P.funcs[f]?=some fn∧(fn.name == "runtime.NumGoroutine")=false∧fn.body.isNone=false)
 (hc:CloseTo rd m args as):CallM P GT rd m n f args (.g v) m n:=by
 obtain ⟨K,hc⟩:=hc;refine ⟨fun base w G rargs hm ha=>?_,hfn⟩;have hx:Ext w w G.bare ⟨fun _=>none,fun b=>b<w.heap.size⟩:=⟨fun _ _ e=>(by cases e),fun rb h=>hm.imm rb h,fun _ _=>rfl,fun _ c _ fr h=>⟨c,fr,h,rfl⟩⟩;have h1:=h w (fun b=>b<w.heap.size) rargs (fun _ h=>h) (fun g cs hg=>RowR.mono hx cs (bareRow cs (hm.gt g cs hg))) ((closeV_spec hm K).2 hc ha);refine (tri_of_step hm (out:=.ret (.g v)) (h1.mono ?_)).mono ?_
 ·rintro e w' ⟨I',hp,ho⟩
  obtain ⟨r,rfl,hr⟩:=ho;exact ⟨G.I,⟨fun _ h=>h,fun _ h=>.inl h,fun rb h=>Nat.lt_of_lt_of_le (hm.imm rb h) hp.size,hp.os,hp.tape,hp.output,hp.size,hp.same⟩,r,rfl,hr⟩
 ·rintro e w' ⟨G',h2,r,rfl,h3⟩
  exact ⟨r,G',rfl,h2,h3⟩
def plainC:AV→Bool
 | .g _ | .sl _ _ _ | .z0=>true
 | _=>false
theorem close_plain {a:AV} (h:plainC a=true) (K:Nat) (ms:List Mem):closeV ms (K+1) a=some a:=by
 cases a <;> first | rfl | (cases h;done)
theorem closeL_plain:∀ {cs:List AV} (_:∀ a∈cs,plainC a=true) (K:Nat) (ms:List Mem),cs.length<K→closeV.closeL ms (K+1) cs=some cs
 | [],_,K,ms,_=>rfl
 | a::cs,h,K,ms,hk=>by
   obtain ⟨K,rfl⟩:∃ K',K=K'+1:=⟨K - 1,by simp at hk;omega⟩;have h1:=close_plain (h a List.mem_cons_self) K ms;have h2:=closeL_plain (fun b hb=>h b (List.mem_cons_of_mem _ hb)) K ms (by simp at hk;omega);show (match closeV ms (K+1) a,closeV.closeL ms (K+1) cs with | some x,some y=>some (x::y) | _,_=>none)=_;rw [h1,h2]
theorem close_mono {ms:List Mem}:∀ (K:Nat),(∀ {a b:AV},closeV ms K a=some b→closeV ms (K+1) a=some b)∧(∀ {a b:List AV},closeV.closeL ms K a=some b→closeV.closeL ms (K+1) a=some b):=by
 intro K
 induction K with
 | zero=>exact ⟨fun h=>by simp [closeV] at h,fun h=>by simp [closeV.closeL] at h⟩
 | succ K ih =>
   refine ⟨fun {a b} h=>?_,fun {a b} h=>?_⟩
   ·cases a with
    | gs c o k sz r =>
      simp only [closeV] at h ⊢
      split at h
      ·split at h
       ·rename_i hle
        split at h
        ·rename_i l hl
         rw [if_pos hle,ih.2 hl];exact h
        ·cases h
       ·cases h
      ·cases h
    | agg cs =>
      simp only [closeV] at h ⊢
      split at h
      ·rename_i l hl;rw [ih.2 hl];exact h
      ·cases h
    | _=>first | exact h | (simp [closeV] at h;done)
   ·cases a with
    | nil=>exact h
    | cons a as =>
      simp only [closeV.closeL] at h;show (match closeV ms (K+1) a,closeV.closeL ms (K+1) as with | some x,some y=>some (x::y) | _,_=>none)=some b
      split at h
      ·rename_i x y hx hy;rw [ih.1 hx,ih.2 hy];exact h
      ·cases h
theorem close_up {ms:List Mem} {K:Nat} (d:Nat):(∀ {a b:AV},closeV ms K a=some b→closeV ms (K+d) a=some b)∧(∀ {a b:List AV},closeV.closeL ms K a=some b→closeV.closeL ms (K+d) a=some b):=by
 induction d with
 | zero=>exact ⟨fun h=>h,fun h=>h⟩
 | succ d ih=>exact ⟨fun h=>(close_mono (K+d)).1 (ih.1 h),fun h=>(close_mono (K+d)).2 (ih.2 h)⟩
theorem CloseTo.nil:CloseTo rd m [] []:=⟨1,rfl⟩
theorem CloseTo.plain {a:AV} {as bs:List AV} (h:plainC a=true) (k:CloseTo rd m as bs):CloseTo rd m (a::as) (a::bs):=by
 obtain ⟨K,hk⟩:=k;refine ⟨K+2,?_⟩;show (match closeV (memL m::rd) (K+1) a,closeV.closeL (memL m::rd) (K+1) as with | some x,some y=>some (x::y) | _,_=>none)=_;rw [close_plain h,(close_mono K).2 hk]
theorem CloseTo.gs {b o k sz c:Nat} {cs as bs:List AV} (hg:getL m b=some (.cells cs)) (hl:o+k*sz≤cs.length) (hp:∀ a∈(cs.drop o).take (k*sz),plainC a=true) (h:CloseTo rd m as bs) :
 CloseTo rd m (.gs b o k sz c::as) (.sl k sz ((cs.drop o).take (k*sz))::bs):=by
 obtain ⟨K,hk⟩:=h;have hg':getR (memL m::rd) b=some (.cells cs):=Q0b ((Q0d m b).trans hg);have h1:closeV (memL m::rd) (((cs.drop o).take (k*sz)).length+3) (.gs b o k sz c)=some (.sl k sz ((cs.drop o).take (k*sz))):=by
  simp only [closeV,hg',if_pos hl];rw [closeL_plain hp _ _ (Nat.lt_succ_self _)]
 refine ⟨((cs.drop o).take (k*sz)).length+3+K+1,?_⟩;show (match closeV (memL m::rd) (((cs.drop o).take (k*sz)).length+3+K) (.gs b o k sz c),closeV.closeL (memL m::rd) (((cs.drop o).take (k*sz)).length+3+K) as with | some x,some y=>some (x::y) | _,_=>none)=_;rw [(close_up K).1 h1,Nat.add_comm _ K,(close_up _).2 hk]
def frA (b:Nat) (cs:List AV) (a' a:AV):Prop:=a'=.any∨a'=a∨∃ o n sz k,a=.gs b o n sz k∧a'=.sl n sz ((cs.drop o).take (n*sz))∧o+n*sz≤cs.length
def frL (b:Nat) (cs:List AV):List AV→List AV→Prop
 | [],l=>l=[]
 | a::as,l=>∃ x xs,l=x::xs∧frA b cs a x∧frL b cs as xs
theorem frL_get {b:Nat} {cs:List AV}:∀ {l' l:List AV},frL b cs l' l→∀ (t:Nat) (a:AV),l'[t]?=some a→∃ x,l[t]?=some x∧frA b cs a x
 | [],_,_,t,a,h=>by simp at h
 | a::as,_,h,t,x,hx=>by
   obtain ⟨y,ys,rfl,h1,h2⟩:=h
   cases t with
   | zero=>simp only [List.getElem?_cons_zero,Option.some.injEq] at hx;subst hx;exact ⟨y,rfl,h1⟩
   | succ t=>simp only [List.getElem?_cons_succ] at hx ⊢;exact frL_get h2 t x hx
def frM (b:Nat) (cs:List AV) (m:ML):ML→Prop
 | []=>True
 | (c,k)::m'=>(c≠b∧(getL m c=some k∨∃ x y,k=.cells x∧getL m c=some (.cells y)∧frL b cs x y))∧frM b cs m m'
theorem frM_get {b:Nat} {cs:List AV}:∀ {m':ML},frM b cs m m'→∀ (c:Nat) (k:Blk),getL m' c=some k→c≠b∧(getL m c=some k∨∃ x y,k=.cells x∧getL m c=some (.cells y)∧frL b cs x y)
 | [],_,c,k,h=>by simp [getL] at h
 | (d,x)::m',h,c,k,hc=>by
   rw [getL] at hc
   split at hc
   ·rename_i hd;subst hd;cases hc;exact h.1
   ·exact frM_get h.2 c k hc
theorem VS.sealT (b:Nat) (cs:List AV) (hg:getL m b=some (.cells cs)) (hp:∀ a∈cs,plainA a=true) (hl:frL b cs l' l) (hm:frM b cs m m'):VS GT E (stL l m n) (stL l' m' n):=by
 intro base w1 G1 w G ts hm1 hs ht;have hgb:(memL m).get b=some (.cells cs):=(Q0d m b).trans hg;obtain ⟨rb,ro,e1,e2,e3,c,e,fr,e4,e5,e6⟩:=hs.mr.blk b _ (Q0b hgb);have hlt:rb<w.heap.size:=(Array.getElem?_eq_some_iff.1 e4).1;have plainIds:∀ {a:AV},plainA a=true→noIds a=true:=fun {a} h=>by cases a <;> first | rfl | (cases h;done)
 have hx:Ext w w G ⟨G.μ,fun r=>G.I r∨r=rb⟩:=⟨fun _ _ h=>h,fun _ h=>.inl h,fun _ _=>rfl,fun _ c _ fr h=>⟨c,fr,h,rfl⟩⟩;have hv:∀ {a' a:AV} {v:Value},frA b cs a' a→VR w G a v→VR w ⟨G.μ,fun r=>G.I r∨r=rb⟩ a' v:=by
  intro a' a v h hva;rcases h with rfl | rfl | ⟨o,k,sz,kc,rfl,rfl,hle⟩
  ·trivial
  ·exact VR.mono hx _ hva
  ·obtain ⟨rb',ro',o',cap,c',e',fr',g1,rfl,g3,g4,-⟩:=hva
   rw [e1] at g1;cases g1;refine ⟨_,cap,rfl,g4,?_⟩
   by_cases h0:k=0
   ·exact .inl h0
   ·refine .inr ⟨rb,ro+o,by rw [g3.resolve_right (by omega)],RowR.mk (G:=⟨G.μ,fun r=>G.I r∨r=rb⟩) (show G.I rb∨rb=rb from .inr rfl) fun i a hi=>?_⟩
    rw [List.getElem?_take] at hi
    split at hi
    ·rw [List.getElem?_drop] at hi
     obtain ⟨u,g5,g6⟩:=e6 _ a hi;refine ⟨u,?_,VR.mono hx.bare a (Q2i a (plainIds (hp a (List.mem_of_getElem? hi))) g6)⟩;rw [cell_of e4,Nat.add_assoc];exact g5
    ·cases hi
 have hback:∀ c k,getR (memL m'::E.rd) c=some k→c≠b∧((getR (memL m::E.rd) c=some k)∨∃ x y,k=.cells x∧getR (memL m::E.rd) c=some (.cells y)∧frL b cs x y):=by
  intro c k hc;rw [Q0c] at hc
  cases hcm:(memL m').get c with
  | some y =>
    rw [hcm,Option.some_or] at hc;obtain rfl:y=k:=by simpa using hc
    rw [Q0d] at hcm;obtain ⟨g1,g2⟩:=frM_get hm c y hcm;refine ⟨g1,?_⟩;rcases g2 with g2 | ⟨x,z,g2,g3,g4⟩
    ·exact .inl (getR_memL g2)
    ·exact .inr ⟨x,z,g2,getR_memL g3,g4⟩
  | none =>
    rw [hcm,Option.none_or] at hc;have hcn:(memL m).get c=none:=by
     cases hy:(memL m).get c with
     | none=>rfl
     | some y=>rw [hs.mr.dj c y hy] at hc;cases hc
    refine ⟨fun h=>?_,.inl (by rw [Q0c,hcn];exact hc)⟩;subst h;rw [hgb] at hcn;cases hcn
 have hold:∀ c k,getR (memL m'::E.rd) c=some k→c≠b∧∃ k',getR (memL m::E.rd) c=some k':=by
  intro c k hc;obtain ⟨g1,g2 | ⟨x,y,-,g3,-⟩⟩:=hback c k hc
  ·exact ⟨g1,k,g2⟩
  ·exact ⟨g1,_,g3⟩
 refine ⟨⟨G.μ,fun r=>G.I r∨r=rb⟩,hx.bare,?_,fun t a ha=>?_⟩
 ·exact {
   mr := {
    fresh:=hs.mr.fresh
    blk:=fun d k hd=>by
     obtain ⟨g1,g2⟩:=hback d k hd;obtain ⟨k',g3⟩:=(hold d k hd).2;obtain ⟨r,o,f1,f2,f3,f4⟩:=hs.mr.blk d k' g3;refine ⟨r,o,f1,f2,fun hi=>?_,?_⟩
     ·rcases hi with hi | rfl
      ·exact f3 hi
      ·exact g1 (hs.mr.inj d b k' _ r o ro g3 (Q0b hgb) f1 e1)
     ·rcases g2 with g2 | ⟨x,y,rfl,g4,g5⟩
      ·rw [g2] at g3;cases g3;exact f4.mono hx rfl
      ·rw [g4] at g3;cases g3
       obtain ⟨c',e',fr',h1,h2,h3⟩:=f4;refine ⟨c',e',fr',h1,h2,fun i a hi=>?_⟩;obtain ⟨z,h4,h5⟩:=frL_get g5 i a hi;obtain ⟨u,h6,h7⟩:=h3 i z h4;exact ⟨u,h6,hv h5 h7⟩
    inj:=fun d d' k k' r o o' hd hd' f1 f2=>by
     obtain ⟨x,g1⟩:=(hold d k hd).2;obtain ⟨y,g2⟩:=(hold d' k' hd').2;exact hs.mr.inj d d' x y r o o' g1 g2 f1 f2
    imm:=fun r hi=>by
     rcases hi with hi | rfl
     ·exact hs.mr.imm r hi
     ·exact hlt
    base:=hs.mr.base
    gt:=fun g cs hg=>RowR.mono hx cs (hs.mr.gt g cs hg)
    dj:=fun d k hd=>by
     rw [Q0d] at hd;obtain ⟨g1,g2⟩:=frM_get hm d k hd;rcases g2 with g2 | ⟨x,y,-,g3,-⟩
     ·exact hs.mr.dj d k ((Q0d m d).trans g2)
     ·exact hs.mr.dj d _ ((Q0d m d).trans g3) }
   ext:=hs.ext.trans hx
   os:=hs.os,tape:=hs.tape,output:=hs.output,size:=hs.size,fr:=hs.fr
   prov:=fun d k r o hd f1=>by
    rw [Q0d] at hd;obtain ⟨g1,g2⟩:=frM_get hm d k hd;rcases g2 with g2 | ⟨x,y,-,g3,-⟩
    ·exact hs.prov d k r o ((Q0d m d).trans g2) f1
    ·exact hs.prov d _ r o ((Q0d m d).trans g3) f1
   impr:=fun r hi=>by
    rcases hi with hi | rfl
    ·exact hs.impr r hi
    ·exact .inr (hs.prov b _ r ro hgb e1)
   mus:=hs.mus,nx:=hs.nx }
 ·rw [Q0l] at ha
  obtain ⟨z,g1,g2⟩:=frL_get hl t a ha;obtain ⟨v,g3,g4⟩:=ht t z (by rw [Q0l];exact g1);exact ⟨v,g3,hv g2 g4⟩
end
end Go.Ev
end
