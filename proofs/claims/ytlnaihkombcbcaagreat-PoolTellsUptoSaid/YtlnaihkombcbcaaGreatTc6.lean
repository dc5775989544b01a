/- Walks over known shapes: more equations that simp takes. Of no program. -/
import Derived.Test.YtlnaihkombcbcaaGreatTc5
set_option linter.unusedSimpArgs false
noncomputable section
namespace Go.Ev
open Go.RowKit
def quietOp:Op→Bool
 | .move _ | .assign _ | .pick _ _ _ | .binOp _ _ _ _ _ | .unOp _ _ _ | .load _ _ | .fieldAddr _ _ _ | .indexAddr _ _ _ | .index _ _ _ | .extract _ _ | .nilCheck _ | .makeFunc _ _ _ | .slice _ _ _ _ _=>true
 | .call c=>match c.callee with
   | .builtin .len=>true
   | .value _=>true
   | _=>false
 | _=>false
section
variable {P:Program} {GT:GTab} {E:Beg} {ops os:List Oper} {l l':List AV} {m m':ML} {n n':Nat} {Q:AX→St→Prop} {ev:Operand→AV} {ty:TypeId}
theorem rowAt_getR {ms ms':List Mem} (h:∀ b,getR ms b=getR ms' b) (a:AV):rowAt ms a=rowAt ms' a:=by
 cases a <;> simp [rowAt,h]
theorem evSlice_getR {ms ms':List Mem} (h:∀ b,getR ms b=getR ms' b) (t:TypeId) (x:AV) (lo hi mx:Option AV):evSlice P ms t x lo hi mx=evSlice P ms' t x lo hi mx:=by
 unfold evSlice;simp only [h]
theorem lenA_getR {ms ms':List Mem} (h:∀ b,getR ms b=getR ms' b) (a:AV):lenA ms a=lenA ms' a:=by
 cases a <;> simp [lenA,h]
theorem quiet_mem {ch:CH} {rd:List Mem} {cur:Mem} {nx nx':Nat} {tm:Tm} {o:Oper} {v:Option AV} {mt:Mem} (hq:quietOp o.op=true) (hc:∀ c x,o.op=.call c→c.callee≠.value x)
 (h:evOne P GT ch rd cur nx tm o=some (.val v,mt,nx')):mt=cur∧nx'=nx∧evOne P GT ch (cur::rd) .e nx tm o=some (.val v,.e,nx):=by
 have hg:∀ b,getR (.e::cur::rd) b=getR (cur::rd) b:=fun b=>by rw [getR_cons .e];simp [Tri.get_e]
 have key:∀ {op:Op},o.op=op→(∀ c,op≠.call c)→(∀ x,op≠.panic x)→(∀ rd cur nx,evMem P rd cur nx (evO GT tm) op o.type=(evPure P (cur::rd) (evO GT tm) op o.type).map fun a=>(some a,cur,nx))→evPure P (.e::cur::rd) (evO GT tm) op o.type=evPure P (cur::rd) (evO GT tm) op o.type →
  mt=cur∧nx'=nx∧evOne P GT ch (cur::rd) .e nx tm o=some (.val v,.e,nx):=by
  intro op hop hnc hnp he hpp;have e1:∀ rd cur nx,evOne P GT ch rd cur nx tm o=(match evMem P rd cur nx (evO GT tm) o.op o.type with | some (v,m,n)=>some (.val v,m,n) | none=>none):=by
   intro rd cur nx;unfold evOne
   split
   ·rename_i c hcc;exact absurd (hop.symm.trans hcc) (hnc c)
   ·rename_i x hcc;exact absurd (hop.symm.trans hcc) (hnp x)
   ·rfl
  rw [e1,hop,he] at h;rw [e1,hop,he,hpp]
  cases hp:evPure P (cur::rd) (evO GT tm) op o.type with
  | none=>rw [hp] at h;cases h
  | some a=>rw [hp] at h;cases h;exact ⟨rfl,rfl,rfl⟩
 cases hop:o.op <;> rw [hop] at hq <;> try (cases hq;done)
 case call c =>
  unfold quietOp at hq;simp only at hq
  split at hq
  ·rename_i hb
   obtain ⟨cal,args,ats⟩:=c;simp only at hb;subst hb;have e1:∀ rd cur nx,evOne P GT ch rd cur nx tm o=(match evMem P rd cur nx (evO GT tm) o.op o.type with | some (v,m,n)=>some (.val v,m,n) | none=>none):=by
    intro rd cur nx;unfold evOne;simp only [hop]
    rfl
   have e2:∀ rd cur nx,evMem P rd cur nx (evO GT tm) o.op o.type=(evPure P (cur::rd) (evO GT tm) o.op o.type).map fun a=>(some a,cur,nx):=by
    intro rd cur nx;rw [hop];simp only [evMem]
   have e3:evPure P (.e::cur::rd) (evO GT tm) o.op o.type=evPure P (cur::rd) (evO GT tm) o.op o.type:=by
    rw [hop];simp only [evPure,evBuiltin,lenA_getR hg]
   rw [e1,e2] at h;rw [e1,e2,e3]
   cases hp:evPure P (cur::rd) (evO GT tm) o.op o.type with
   | none=>rw [hp] at h;cases h
   | some a=>rw [hp] at h;cases h;exact ⟨rfl,rfl,rfl⟩
  ·rename_i x hx;exact absurd hx (hc c x hop)
  ·cases hq
 case load t a=>exact key hop (by simp) (by simp) (fun _ _ _=>rfl) (by simp only [evPure,rowAt_getR hg])
 case slice t x lo hi mx=>exact key hop (by simp) (by simp) (fun _ _ _=>rfl) (by simp only [evPure,evSlice_getR hg])
 all_goals exact key hop (by simp) (by simp) (fun _ _ _=>rfl) (by simp only [evPure])
def runQ (P:Program) (GT:GTab) (E:Beg) (ops:List Oper):List Oper→List AV→ML→Nat→(AX→St→Prop)→Prop
 | [],l,m,n,Q=>Q .nrm (stL l m n)
 | o :: os,l,m,n,Q=>match wantL ops l o.guard with
   | some true=>match callL GT l o.op with
     | some (f,args)=>∃ a,PureN P GT f args a∧runQ P GT E ops os (setO l o.dst a) m n Q
     | none=>match stepO P GT E.rd m n l o.op with
       | some (v,_,_)=>quietOp o.op=true∧runQ P GT E ops os (setO l o.dst v) m n Q
       | none=>False
   | some false=>runQ P GT E ops os (setO l o.dst (.g undef)) m n Q
   | none=>False
theorem wpAny_mono {o2:Array Oper} {Q Q':Exit→Act→World→Prop} (hq:∀ e a w,Q e a w→Q' e a w):∀ (fuel:Nat) (listed:Array Bool) (a1:Act) (w1:World),wpAny P .any o2 Q fuel listed a1 w1→wpAny P .any o2 Q' fuel listed a1 w1:=by
 intro fuel
 induction fuel with
 | zero=>intro listed a1 w1 h;exact ⟨h.1,hq _ _ _ h.2⟩
 | succ fuel ih =>
   intro listed a1 w1 h;refine ⟨fun hr=>hq _ _ _ (h.1 hr),fun i hi=>?_⟩;have h1:=h.2 i hi;unfold wpOp at h1 ⊢
   split
   ·rename_i ho;rw [ho] at h1;exact ih _ _ _ h1
   ·rename_i o ho
    rw [ho] at h1;simp only at h1
    split
    ·rename_i hw
     rw [if_pos hw] at h1;rcases h1 with h1 | ⟨h2,a3,w3,h3⟩
     ·refine .inl ?_
      unfold Oper.wp at *;generalize (execOp a1.eval o).run P w1=rr at *
      cases rr with
      | ok nn w2 =>
        cases nn <;> simp only [Oper.upon] at h1 ⊢ <;> first
         | exact ih _ _ _ h1
         | exact h1
         | (refine Calls.mono h1 fun e w3 he=>?_
            cases e with
            | returned v=>exact ih _ _ _ he
            | panicked c=>exact hq _ _ _ he
            | outgrown=>obtain ⟨a3,w4,h9⟩:=he;exact ⟨a3,w4,hq _ _ _ h9⟩)
         | exact Rows.mono h1 fun v w3 hv=>ih _ _ _ hv
      | halt hh w2=>cases hh <;> simp only [Oper.upon] at h1 ⊢ <;> first | exact hq _ _ _ h1 | exact h1
     ·exact .inr ⟨h2,a3,w3,hq _ _ _ h3⟩
    ·rename_i hw
     rw [if_neg hw] at h1;exact ih _ _ _ h1
structure QR (n:Nat) (r:Rec):Prop where
 curl:r.curl=.e
 cur':r.cur'=.e
 nx:r.nx=n
 nx':r.nx'=n
 W:r.W=[]
 light:r.heavy=false
theorem QR.step {r:Rec} {s:St} (h:QR n r):(stepSt s r).cur=s.cur∧(stepSt s r).nx=n∧(stepSt s r).tm=putT s.tm r.dst r.out:=by
 refine ⟨?_,h.nx',rfl⟩;show Tri.over r.cur' (delAll s.cur r.W)=s.cur;rw [h.cur',h.W];rfl
theorem fold_QR:∀ (rs:List Rec) (i:Nat) (s:St) (S:Nat→Bool),(∀ r∈rs,QR n r)→s.nx=n→(foldS S i rs s).cur=s.cur∧(foldS S i rs s).nx=n
 | [],_,s,_,_,hs=>⟨rfl,hs⟩
 | r::rs,i,s,S,h,hs=>by
   simp only [foldS];have h1:=h r List.mem_cons_self
   cases S i
   ·exact fold_QR rs (i+1) s S (fun q hq=>h q (List.mem_cons_of_mem _ hq)) hs
   ·obtain ⟨h2,h3,-⟩:=h1.step
    obtain ⟨h4,h5⟩:=fold_QR rs (i+1) (stepSt s r) S (fun q hq=>h q (List.mem_cons_of_mem _ hq)) h3;exact ⟨h4.trans h2,h5⟩
theorem fold_lt (rs ext:List Rec) (s:St):foldS (fun k=>decide (k<rs.length)) 0 (rs++ext) s=foldS (fun _=>true) 0 rs s:=by
 rw [foldS_append];have hn:∀ (qs:List Rec) (i:Nat) (s:St),rs.length≤i→foldS (fun k=>decide (k<rs.length)) i qs s=s:=by
  intro qs
  induction qs with
  | nil=>intro i s _;rfl
  | cons q qs ih=>intro i s hi;simp only [foldS];rw [if_neg (by simp;omega)];exact ih _ _ (by omega)
 rw [hn _ _ _ (by omega)];exact foldS_same fun k hk=>by simp;omega
theorem runQ_recs {s0:St} (hn:s0.nx=n) (hm:∀ b k,s0.cur.get b=some k→b<n) (hM:s0.cur=memL m):∀ (os:List Oper) (l:List AV) (rs:List Rec),ops.drop rs.length=os→(∀ t,(foldS (fun _=>true) 0 rs s0).tm.get t=l[t]?)→(∀ r∈rs,QR n r)→runQ P GT E ops os l m n Q →
 ∃ ext l',ext.length=os.length∧(∀ r∈rs++ext,QR n r)∧(∀ t,(foldS (fun _=>true) 0 (rs++ext) s0).tm.get t=l'[t]?)∧Q .nrm (stL l' m n) ∧
   ∀ (i:Nat) (o:Oper),os[i]?=some o→∃ r ch,ChOk P GT ch∧(rs++ext)[rs.length+i]?=some r ∧
     RecOk P GT ch E.rd ⟨ops⟩ (befs ops []) ((rs++ext).take (rs.length+i)) (rs.length+i) o (foldS (fun k=>decide (k<rs.length+i)) 0 (rs++ext) s0) r:=by
 intro os
 induction os with
 | nil=>intro l rs _ ht hq h;exact ⟨[],l,rfl,by simpa using hq,by simpa using ht,h,fun i o hi=>by simp at hi⟩
 | cons o os ih =>
   intro l rs hd ht hq h;have hd':ops.drop (rs.length+1)=os:=by
    have:(ops.drop rs.length).drop 1=os:=by rw [hd];rfl
    rwa [List.drop_drop] at this
   obtain ⟨fc,fn⟩:=fold_QR rs 0 s0 (fun _=>true) hq hn;have hget:∀ t,(foldS (fun _=>true) 0 rs s0).tm.getA t=(tmL l).getA t:=fun t=>getA_congr (by rw [ht,tmL_get]);have hwant:wantA ⟨ops⟩ o (foldS (fun _=>true) 0 rs s0).tm=wantA ⟨ops⟩ o (tmL l):=wantA_congr fun t _=>by rw [ht,tmL_get]
   have more:∀ (v:AV) (r:Rec) (ch:CH),ChOk P GT ch→QR n r→r.dst=o.dst→r.out=v →
    (∀ rs':List Rec,(∀ q∈rs',QR n q)→RecOk P GT ch E.rd ⟨ops⟩ (befs ops []) rs' rs.length o (foldS (fun _=>true) 0 rs s0) r)→runQ P GT E ops os (setO l o.dst v) m n Q →
    ∃ ext l',ext.length=(o::os).length∧(∀ r∈rs++ext,QR n r)∧(∀ t,(foldS (fun _=>true) 0 (rs++ext) s0).tm.get t=l'[t]?)∧Q .nrm (stL l' m n) ∧
    ∀ (i:Nat) (o':Oper),(o::os)[i]?=some o'→∃ r ch,ChOk P GT ch∧(rs++ext)[rs.length+i]?=some r ∧
      RecOk P GT ch E.rd ⟨ops⟩ (befs ops []) ((rs++ext).take (rs.length+i)) (rs.length+i) o' (foldS (fun k=>decide (k<rs.length+i)) 0 (rs++ext) s0) r:=by
    intro v r ch hch hr hdst hout hrec hrun;have hq':∀ q∈rs++[r],QR n q:=fun q hqm=>by
     rcases List.mem_append.1 hqm with h1 | h1
     ·exact hq q h1
     ·rw [List.mem_singleton.1 h1];exact hr
    have hf:foldS (fun _=>true) 0 (rs++[r]) s0=stepSt (foldS (fun _=>true) 0 rs s0) r:=by rw [foldS_append];rfl
    have ht':∀ t,(foldS (fun _=>true) 0 (rs++[r]) s0).tm.get t=(setO l o.dst v)[t]?:=by
     intro t;rw [hf,hr.step.2.2,putT_get,ht,←tmL_get (setO l o.dst v),setO_get,putT_get,tmL_get,hdst,hout]
    obtain ⟨ext,l',g1,g2,g3,g4,g5⟩:=ih (setO l o.dst v) (rs++[r]) (by simpa using hd') ht' hq' hrun;rw [List.append_assoc] at g2 g3 g5;refine ⟨r::ext,l',by simp [g1],g2,g3,g4,fun i o' hi=>?_⟩
    cases i with
    | zero =>
      simp only [List.getElem?_cons_zero,Option.some.injEq] at hi;subst hi;refine ⟨r,ch,hch,by simp,?_⟩;rw [Nat.add_zero,fold_lt,List.take_left']
      ·exact hrec rs hq
      ·rfl
    | succ i =>
      obtain ⟨r',ch',k1,k2,k3⟩:=g5 i o' (by simpa using hi);rw [List.length_append,List.length_singleton,show rs.length+1+i=rs.length+(i+1) by omega] at k2 k3;exact ⟨r',ch',k1,by simpa using k2,by simpa using k3⟩
   have mkrec:∀ (v:AV) (ch:CH) (av:Option AV),wantA ⟨ops⟩ o (tmL l)=some true→evOne P GT ch (s0.cur::E.rd) .e n (tmL l) o=some (.val av,.e,n)→av.getD (.g undef)=v→∀ rs':List Rec,(∀ q∈rs',QR n q) →
    RecOk P GT ch E.rd ⟨ops⟩ (befs ops []) rs' rs.length o (foldS (fun _=>true) 0 rs s0) ⟨o.dst,v,true,s0.cur::E.rd,.e,.e,n,n,[],fun b=>Nat.blt b n,false⟩:=by
    intro v ch av hw he hv rs' hrs';refine ⟨rfl,fn.symm,Nat.le_refl _,.inr ⟨rfl,hwant.trans hw,av,?_,hv.symm⟩,fun b x hb=>by simp [Tri.get_e] at hb,fun b hb=>by simp at hb,fun b x hb=>?_,fun b x hb=>by simp [Tri.get_e] at hb,fun b hb=>?_,fun b hb=>by simp at hb,fun b x hb=>by simp [Tri.get_e] at hb,fun i q hq=>.inr ⟨fun b hb=>?_,fun b hb=>by simp at hb⟩,fun _=>⟨rfl,Nat.le_refl _⟩⟩
    ·rw [evOne_congr fun t _=>hget t];exact he
    ·rw [getR_cons .e] at hb
     simp only [Tri.get_e,Option.none_or] at hb;rw [fc]
     cases hc:s0.cur.get b with
     | none=>rw [getR_cons,hc,Option.none_or] at hb;exact .inr hb
     | some y=>exact .inl ⟨Nat.ble_eq_true_of_le (hm b y hc),hb⟩
    ·exact Nat.le_of_ble_eq_true hb
    ·have:=hrs' q (List.mem_of_getElem? hq)
     rw [this.W,this.nx,this.nx'];exact ⟨by simp,by omega⟩
   unfold runQ at h
   split at h
   ·rename_i hw
    have hw':=wantL_ok (o:=o) hw
    split at h
    ·rename_i f args hc
     obtain ⟨v,hp,h⟩:=h;obtain ⟨ch,hch,hca⟩:=hp.ok;have he:evOne P GT ch (s0.cur::E.rd) .e n (tmL l) o=some (.val (some v),.e,n):=by
      unfold callL at hc
      split at hc
      ·rename_i c hop
       split at hc
       ·rename_i x hx
        unfold evOne;rw [evL_eq,hop];simp only [hx,hc,hca]
       ·cases hc
      ·cases hc
     exact more v _ ch hch ⟨rfl,rfl,rfl,rfl,rfl,rfl⟩ rfl rfl (mkrec v ch (some v) hw' he rfl) h
    ·rename_i hcn
     split at h
     ·rename_i v m' n' hst
      obtain ⟨hqo,h⟩:=h;obtain ⟨av,mt,he,hv,-⟩:=stepO_ok (ch:=noCH) hst
      obtain ⟨-,-,he2⟩:=quiet_mem hqo (fun c x hop hcal=>by
       rw [hop] at hst;obtain ⟨cal,args,ats⟩:=c;simp only at hcal;subst hcal
       simp [stepO] at hst) he
      have hmm:evOne P GT noCH (s0.cur::E.rd) .e n (tmL l) o=some (.val av,.e,n):=by rw [hM];exact he2
      exact more v _ noCH noCH_ok ⟨rfl,rfl,rfl,rfl,rfl,rfl⟩ rfl rfl (mkrec v noCH av hw' hmm hv) h
     ·exact h.elim
   ·rename_i hw
    have hw':=wantL_ok (o:=o) hw;refine more (.g undef) ⟨o.dst,.g undef,false,[],.e,.e,n,n,[],fun _=>false,false⟩ noCH noCH_ok ⟨rfl,rfl,rfl,rfl,rfl,rfl⟩ rfl rfl (fun rs' hrs'=>?_) h;refine ⟨rfl,fn.symm,Nat.le_refl _,.inl ⟨rfl,hwant.trans hw',rfl,rfl,rfl,rfl⟩,fun b x hb=>by simp [Tri.get_e] at hb,fun b hb=>by simp at hb,fun b x hb=>by simp [getR,Tri.get_e] at hb,fun b x hb=>by simp [Tri.get_e] at hb,fun b hb=>by simp at hb,fun b hb=>by simp at hb,fun b x hb=>by simp [Tri.get_e] at hb,fun i q hq=>.inr ⟨fun b hb=>by simp at hb,fun b hb=>by simp at hb⟩,fun _=>⟨rfl,Nat.le_refl _⟩⟩
   ·exact h.elim
theorem W.regionQ {id:Nat} (hmix:P.follows .mixedOrders=true) (hst:statOk ⟨ops⟩=true) (h:runQ P GT E ops ops l m n Q):W P GT E (.region id ⟨ops⟩ true) (stL l m n) Q:=by
 intro base D w1 G1 w G a _ hs ht hd;have hm:∀ b k,(stL l m n).cur.get b=some k→b<n:=by
  intro b k hb;obtain ⟨rb,ro,h1,-⟩:=hs.mr.blk b k (getR_of_cur hb);rcases Nat.lt_or_ge b n with h2 | h2
  ·exact h2
  ·rw [hs.mr.fresh b h2 trivial] at h1;cases h1
 obtain ⟨recs,l',h1,h2,h3,h4,h5⟩:=runQ_recs (s0:=stL l m n) rfl hm rfl ops l [] (by simp) (fun t=>by show (tmL l).get t=_;rw [tmL_get]) (fun r hr=>by simp at hr) h;simp only [List.nil_append,List.length_nil,Nat.zero_add] at h1 h2 h3 h5;obtain ⟨fc,fn⟩:=fold_QR recs 0 (stL l m n) (fun _=>true) h2 rfl;refine wp_region_any hmix ?_;have hs':Stp base GT allF E.rd (stL l m n).cur n w G (stL l m n).cur n { w with drawn:=w.drawn+1 } G:=Stp.world hs.mr rfl rfl rfl (Nat.le_refl _) fun _ _=>rfl
 have:=recs_sound (P:=P) (GT:=GT) (ops:=⟨ops⟩) (base:=base) (F:=allF) (D:=D) (s0:=stL l m n) (a0:=a) (w0:={ w with drawn:=w.drawn+1 }) (G0:=G) hst h1 rfl
  (fun j o ho=>by
    obtain ⟨r,ch,k1,k2,k3⟩:=h5 j o (by simpa using ho)
    exact ⟨r,ch,k1,k2,k3⟩) hs'.mr (TmR.mono hs'.ext ht) hd (fun _ _ _=>trivial)
 refine wpAny_mono (fun e a2 w2 h6=>?_) _ _ _ _ this;obtain ⟨G',g1,g2,g3,g4⟩:=h6;refine ⟨.nrm,stL l' m n,G',g1,?_,fun hp=>?_,g4,h4⟩
 ·have g5:=Stp.trans hs (Stp.trans hs' g2)
  rw [fc,fn] at g5;exact g5
 ·refine tmR_ext (g3 hp) fun t=>?_
  rw [tmL_get,h3]
end
def AtCallQ (P:Program) (GT:GTab) (E:Beg) (ops:List Oper) (f:FuncId) (args:List AV) (dst:Option Tmp) (os:List Oper) (l:List AV) (m:ML) (n:Nat) (Q:AX→St→Prop):Prop :=
 ∃ a,PureN P GT f args a∧runQ P GT E ops os (setO l dst a) m n Q
def nextQ (P:Program) (GT:GTab) (E:Beg) (ops:List Oper) (r:Option (AV×ML×Nat)) (op:Op) (dst:Option Tmp) (os:List Oper) (l:List AV) (m:ML) (n:Nat) (Q:AX→St→Prop):Prop:=match r with
 | some (v,_,_)=>quietOp op=true∧runQ P GT E ops os (setO l dst v) m n Q
 | none=>False
def callQ (P:Program) (GT:GTab) (E:Beg) (ops:List Oper) (r:Option (FuncId×List AV)) (op:Op) (dst:Option Tmp) (os:List Oper) (l:List AV) (m:ML) (n:Nat) (Q:AX→St→Prop):Prop:=match r with
 | some (f,args)=>AtCallQ P GT E ops f args dst os l m n Q
 | none=>nextQ P GT E ops (stepO P GT E.rd m n l op) op dst os l m n Q
def wantQ (P:Program) (GT:GTab) (E:Beg) (ops:List Oper) (r:Option Bool) (op:Op) (dst:Option Tmp) (os:List Oper) (l:List AV) (m:ML) (n:Nat) (Q:AX→St→Prop):Prop:=match r with
 | some true=>callQ P GT E ops (callL GT l op) op dst os l m n Q
 | some false=>runQ P GT E ops os (setO l dst (.g undef)) m n Q
 | none=>False
def condK (P:Program) (GT:GTab) (E:Beg) (v:AV) (p q:Code) (s:St) (Q:AX→St→Prop):Prop:=match v with
 | .g (.bool true)=>W P GT E p s Q
 | .g (.bool false)=>W P GT E q s Q
 | _=>False
section
variable {P:Program} {GT:GTab} {E:Beg} {ops os:List Oper} {l:List AV} {m m':ML} {n n':Nat} {Q:AX→St→Prop} {dst:Option Tmp} {op:Op} {o:Oper} {s:St} {p q:Code} {x:AV}
theorem runQ_nil:runQ P GT E ops [] l m n Q=Q .nrm (stL l m n):=Eq.trans rfl rfl
theorem runQ_cons:runQ P GT E ops (o::os) l m n Q=wantQ P GT E ops (wantL ops l o.guard) o.op o.dst os l m n Q:=Eq.trans rfl rfl
theorem wantQ_true:wantQ P GT E ops (some true) op dst os l m n Q=callQ P GT E ops (callL GT l op) op dst os l m n Q:=Eq.trans rfl rfl
theorem wantQ_false:wantQ P GT E ops (some false) op dst os l m n Q=runQ P GT E ops os (setO l dst (.g undef)) m n Q:=Eq.trans rfl rfl
theorem callQ_none:callQ P GT E ops none op dst os l m n Q=nextQ P GT E ops (stepO P GT E.rd m n l op) op dst os l m n Q:=Eq.trans rfl rfl
theorem callQ_some {f:FuncId} {args:List AV}:callQ P GT E ops (some (f,args)) op dst os l m n Q=AtCallQ P GT E ops f args dst os l m n Q:=Eq.trans rfl rfl
theorem nextQ_some {v:AV}:nextQ P GT E ops (some (v,m',n')) op dst os l m n Q=(quietOp op=true∧runQ P GT E ops os (setO l dst v) m n Q):=Eq.trans rfl rfl
theorem AtCallQ.mk {f:FuncId} {args:List AV} {a:AV} (h:PureN P GT f args a) (k:runQ P GT E ops os (setO l dst a) m n Q):AtCallQ P GT E ops f args dst os l m n Q:=⟨a,h,k⟩
theorem setO_some {d:Tmp} {v:AV}:setO l (some d) v=l.set d v:=Eq.trans rfl rfl
theorem setO_none {v:AV}:setO l none v=l:=Eq.trans rfl rfl
theorem wantL_none:wantL os l none=some true:=rfl
theorem callL_value {f:Operand} {args:Array Operand} {ats:Array TypeId}:callL GT l (.call ⟨.value f,args,ats⟩)=calleeA (evL GT l) ⟨.value f,args,ats⟩:=Eq.trans rfl rfl
theorem callL_builtin {b:Builtin} {args:Array Operand} {ats:Array TypeId}:callL GT l (.call ⟨.builtin b,args,ats⟩)=none:=Eq.trans rfl rfl
theorem callL_move {x:Operand}:callL GT l (.move x)=none:=Eq.trans rfl rfl
theorem callL_assign {x:Operand}:callL GT l (.assign x)=none:=Eq.trans rfl rfl
theorem callL_pick {x:Operand} {y:Operand} {z:Operand}:callL GT l (.pick x y z)=none:=Eq.trans rfl rfl
theorem callL_alloc {t:TypeId}:callL GT l (.alloc t)=none:=Eq.trans rfl rfl
theorem callL_box {t:TypeId} {x:Operand}:callL GT l (.box t x)=none:=Eq.trans rfl rfl
theorem callL_build {t:TypeId} {ps:Array (Nat×Operand)}:callL GT l (.build t ps)=none:=Eq.trans rfl rfl
theorem callL_buildSlice {t:TypeId} {k:Nat} {ps:Array (Nat×Operand)}:callL GT l (.buildSlice t k ps)=none:=Eq.trans rfl rfl
theorem callL_insert {t:TypeId} {x:Operand} {y:Operand} {z:Operand}:callL GT l (.insert t x y z)=none:=Eq.trans rfl rfl
theorem callL_load {t:TypeId} {x:Operand}:callL GT l (.load t x)=none:=Eq.trans rfl rfl
theorem callL_store {t:TypeId} {x:Operand} {y:Operand}:callL GT l (.store t x y)=none:=Eq.trans rfl rfl
theorem callL_nilCheck {x:Operand}:callL GT l (.nilCheck x)=none:=Eq.trans rfl rfl
theorem callL_binOp {bo:BinOp} {t:TypeId} {x:Operand} {y:Operand} {t2:TypeId}:callL GT l (.binOp bo t x y t2)=none:=Eq.trans rfl rfl
theorem callL_unOp {uo:UnOp} {t:TypeId} {x:Operand}:callL GT l (.unOp uo t x)=none:=Eq.trans rfl rfl
theorem callL_convert {t:TypeId} {t2:TypeId} {x:Operand}:callL GT l (.convert t t2 x)=none:=Eq.trans rfl rfl
theorem callL_makeInterface {t:TypeId} {x:Operand}:callL GT l (.makeInterface t x)=none:=Eq.trans rfl rfl
theorem callL_makeFunc {fn:Fn} {xs:Array Operand} {ys:Array Operand}:callL GT l (.makeFunc fn xs ys)=none:=Eq.trans rfl rfl
theorem callL_makeMap {t:TypeId} {ox:Option Operand}:callL GT l (.makeMap t ox)=none:=Eq.trans rfl rfl
theorem callL_makeSlice {t:TypeId} {x:Operand} {y:Operand}:callL GT l (.makeSlice t x y)=none:=Eq.trans rfl rfl
theorem callL_slice {t:TypeId} {x:Operand} {ox:Option Operand} {oy:Option Operand} {oz:Option Operand}:callL GT l (.slice t x ox oy oz)=none:=Eq.trans rfl rfl
theorem callL_fieldAddr {t:TypeId} {x:Operand} {k:Nat}:callL GT l (.fieldAddr t x k)=none:=Eq.trans rfl rfl
theorem callL_field {t:TypeId} {x:Operand} {k:Nat}:callL GT l (.field t x k)=none:=Eq.trans rfl rfl
theorem callL_indexAddr {t:TypeId} {x:Operand} {y:Operand}:callL GT l (.indexAddr t x y)=none:=Eq.trans rfl rfl
theorem callL_index {t:TypeId} {x:Operand} {y:Operand}:callL GT l (.index t x y)=none:=Eq.trans rfl rfl
theorem callL_lookup {t:TypeId} {x:Operand} {y:Operand} {b:Bool}:callL GT l (.lookup t x y b)=none:=Eq.trans rfl rfl
theorem callL_mapUpdate {t:TypeId} {x:Operand} {y:Operand} {z:Operand}:callL GT l (.mapUpdate t x y z)=none:=Eq.trans rfl rfl
theorem callL_mapEntry {t:TypeId} {x:Operand} {y:Operand}:callL GT l (.mapEntry t x y)=none:=Eq.trans rfl rfl
theorem callL_entryStore {t:TypeId} {x:Operand} {y:Operand} {z:Operand}:callL GT l (.entryStore t x y z)=none:=Eq.trans rfl rfl
theorem callL_range {t:TypeId} {x:Operand}:callL GT l (.range t x)=none:=Eq.trans rfl rfl
theorem callL_next {x:Operand} {b:Bool}:callL GT l (.next x b)=none:=Eq.trans rfl rfl
theorem callL_extract {x:Operand} {k:Nat}:callL GT l (.extract x k)=none:=Eq.trans rfl rfl
theorem callL_panic {x:Operand}:callL GT l (.panic x)=none:=Eq.trans rfl rfl
theorem callee_func {f:FuncId} {args:Array Operand} {ats:Array TypeId}:calleeA (evL GT l) ⟨.value (.func f),args,ats⟩=some (f,args.toList.map (evL GT l)):=by
 show some (f,[]++args.toList.map (evL GT l)++[])=_;rw [List.nil_append,List.append_nil]
theorem evL_tmp {t:Tmp}:evL GT l (.tmp t)=l.getD t .any:=rfl
theorem evL_const {v:Value}:evL GT l (.const v)=avc v:=rfl
theorem evL_func {f:FuncId}:evL GT l (.func f)=.fn (.func f) [] []:=rfl
theorem avc_bool {b:Bool}:avc (.bool b)=.g (.bool b):=rfl
theorem avc_int {k:IntKind} {i:Int}:avc (.int k i)=.g (.int k i):=rfl
theorem avc_string {s:ByteArray}:avc (.string s)=.g (.string s):=rfl
theorem avc_slice {a:Option Addr} {n c:Nat}:avc (.slice a n c)=.g (.slice a n c):=rfl
theorem avc_ptr {a:Option Addr}:avc (.pointer a)=.g (.pointer a):=rfl
theorem thenW_nrm:thenW P GT E p Q .nrm s=W P GT E p s Q:=Eq.trans rfl rfl
theorem thenW_exit {i:Nat}:thenW P GT E p Q (.exit i) s=Q (.exit i) s:=Eq.trans rfl rfl
theorem thenW_ret:thenW P GT E p Q .ret s=Q .ret s:=Eq.trans rfl rfl
theorem blkW_nrm {i:Nat}:blkW i Q .nrm s=Q .nrm s:=Eq.trans rfl rfl
theorem blkW_ret {i:Nat}:blkW i Q .ret s=Q .ret s:=Eq.trans rfl rfl
theorem blkW_exit {i j:Nat}:blkW i Q (.exit j) s=if j=i then Q .nrm s else Q (.exit j) s:=Eq.trans rfl rfl
theorem scopeW_nrm:scopeW Q .nrm s=Q .nrm s:=Eq.trans rfl rfl
theorem scopeW_ret:scopeW Q .ret s=Q .ret s:=Eq.trans rfl rfl
theorem scopeW_exit {i:Nat}:scopeW Q (.exit i) s=Q (.exit i) s:=Eq.trans rfl rfl
theorem roundW_ret {ι:Type} {I:ι→St→Prop} {μ:ι→Nat} {k:Nat}:roundW GT E I μ k Q .ret s=Q .ret s:=Eq.trans rfl rfl
theorem roundW_exit {ι:Type} {I:ι→St→Prop} {μ:ι→Nat} {k i:Nat}:roundW GT E I μ k Q (.exit i) s=Q (.exit i) s:=Eq.trans rfl rfl
theorem condK_true:condK P GT E (.g (.bool true)) p q s Q=W P GT E p s Q:=Eq.trans rfl rfl
theorem condK_false:condK P GT E (.g (.bool false)) p q s Q=W P GT E q s Q:=Eq.trans rfl rfl
theorem W.condL {c:Operand} (h:condK P GT E (evL GT l c) p q (stL l m n) Q):W P GT E (.cond c p q) (stL l m n) Q:=by
 unfold condK at h
 split at h
 ·rename_i hc;exact .cond (t:=true) (by rw [evL_eq];exact hc) h
 ·rename_i hc;exact .cond (t:=false) (by rw [evL_eq];exact hc) h
 ·exact h.elim
theorem condK_split {b:Bool} (ht:b=true→W P GT E p s Q) (hf:b=false→W P GT E q s Q):condK P GT E (.g (.bool b)) p q s Q:=by
 cases b
 ·exact hf rfl
 ·exact ht rfl
theorem W.enter {nt:Nat} {args:List AV} {c:Code} (h:W P GT .none c (stL (args++List.replicate (nt - args.length) (.g undef)) [] 0) Q):W P GT .none c ⟨putArgs args 0 (undefT nt 0),.e,0⟩ Q:=by
 refine W.vs (s1:=stL (args++List.replicate (nt - args.length) (.g undef)) [] 0) (fun base w1 G1 w G ts _ hs ht=>⟨G,.refl w _,hs,fun t v hv=>?_⟩) h;refine ht t v ?_;rw [tmL_get] at hv;rw [putArgs_get,undefT_get]
 by_cases h1:t<args.length
 ·rw [List.getElem?_append_left h1] at hv
  rw [if_pos ⟨Nat.zero_le _,by omega⟩,Nat.sub_zero];exact hv
 ·rw [List.getElem?_append_right (by omega),List.getElem?_replicate] at hv
  rw [if_neg (by omega)]
  split at hv
  ·rw [if_pos (by omega)];exact hv
  ·cases hv
end
attribute [go_sem] runQ_nil runQ_cons wantQ_true wantQ_false callQ_none callQ_some nextQ_some setO_some setO_none wantL_none callL_value callL_builtin callL_move callL_assign callL_pick callL_alloc callL_box callL_build callL_buildSlice callL_insert callL_load callL_store callL_nilCheck callL_binOp callL_unOp callL_convert callL_makeInterface callL_makeFunc callL_makeMap callL_makeSlice callL_slice callL_fieldAddr callL_field callL_indexAddr callL_index callL_lookup callL_mapUpdate callL_mapEntry callL_entryStore callL_range callL_next callL_extract callL_panic callee_func evL_tmp evL_const evL_func avc_bool avc_int avc_string avc_slice avc_ptr
 thenW_nrm thenW_exit thenW_ret blkW_nrm blkW_ret blkW_exit scopeW_nrm scopeW_ret scopeW_exit roundW_ret roundW_exit condK_true condK_false runL_nil runL_cons wantK_true wantK_false callK_none callK_some nextK_some nextK_none
 stepO quietOp wantL wantG_bool wantG_undef loadL partL fieldL indexL lenL storeL binA intA strA getL setL delL nilT nilK nilA nilP indexS sliceS evInt
abbrev Ren:=List (Nat×Nat)
def lk:Ren→Nat→Option Nat
 | [],_=>none
 | (c,b)::r,x=>if c=x then some b else lk r x
def lkE (n1:Nat) (q:Ren) (c:Nat):Option Nat:=if c<n1 then some c else lk q c
mutual
def reA (n1:Nat) (q:Ren):AV→AV→Prop
 | .any,_=>True
 | .ptr c o,a=>∃ b,a=.ptr b o∧lkE n1 q c=some b
 | .gs c o n sz k,a=>∃ b k',a=.gs b o n sz k'∧lkE n1 q c=some b∧n≤k∧k≤k'
 | .mp c,a=>∃ b,a=.mp b∧lkE n1 q c=some b
 | .fn f x y,a=>∃ x' y',a=.fn f x' y'∧reL n1 q x x'∧reL n1 q y y'
 | .agg x,a=>∃ x',a=.agg x'∧reL n1 q x x'
 | .tup x,a=>∃ x',a=.tup x'∧reL n1 q x x'
 | .ifc t x,a=>∃ x',a=.ifc t x'∧reA n1 q x x'
 | .g v,a=>a=.g v
 | .ept cs o,a=>a=.ept cs o
 | .sl n sz cs,a=>a=.sl n sz cs
 | .z0,a=>a=.z0
def reL (n1:Nat) (q:Ren):List AV→List AV→Prop
 | [],l=>l=[]
 | a::as,l=>∃ b bs,l=b::bs∧reA n1 q a b∧reL n1 q as bs
end
def reB (n1:Nat) (q:Ren):Blk→Blk→Prop
 | .cells cs,k=>∃ cs',k=.cells cs'∧((cs=cs'∧noIdsL cs=true)∨reL n1 q cs cs')
 | .sit s p,k=>k=.sit s p
 | .map _ _,_=>False
def reM (n1:Nat) (q:Ren) (m:ML):ML→Prop
 | []=>True
 | (c,k)::m'=>(∃ b k',lkE n1 q c=some b∧getL m b=some k'∧reB n1 q k k')∧reM n1 q m m'
def renG (n1:Nat) (q:Ren) (G:Gh):Gh:=⟨fun c=>(lkE n1 q c).bind G.μ,G.I⟩
section
variable {w:World} {G:Gh} {q:Ren} {n1:Nat}
theorem ren_plain {a:AV} {v:Value} (hn:noIds a=true) (h:VR w G a v):VR w (renG n1 q G) a v:=VR.mono (G:=(renG n1 q G).bare) (Ext.unbare w (renG n1 q G)) a (show VR w (renG n1 q G).bare a v from noIds_spec (G:=G) a hn h)
mutual
theorem reA_spec:∀ (a:AV) {b:AV} {v:Value},reA n1 q a b→VR w G b v→VR w (renG n1 q G) a v
 | .any,_,_,_,_=>trivial
 | .ptr c o,_,_,h,hv=>by
   obtain ⟨b,rfl,hq⟩:=h;obtain ⟨rb,ro,h1,h2⟩:=hv;exact ⟨rb,ro,by show (lkE n1 q c).bind G.μ=_;rw [hq];exact h1,h2⟩
 | .gs c o n sz k,_,_,h,hv=>by
   obtain ⟨b,k',rfl,hq,hk1,hk2⟩:=h;obtain ⟨rb,ro,o',cap,cc,e,fr,h1,h2,h3,h4,h5,h6,h7,h8,h9⟩:=hv;exact ⟨rb,ro,o',cap,cc,e,fr,by show (lkE n1 q c).bind G.μ=_;rw [hq];exact h1,h2,h3,h4,h5,h6,hk1,Nat.le_trans hk2 h8,h9⟩
 | .mp c,_,_,h,hv=>by
   obtain ⟨b,rfl,hq⟩:=h;obtain ⟨rb,h1,h2⟩:=hv;exact ⟨rb,by show (lkE n1 q c).bind G.μ=_;rw [hq];exact h1,h2⟩
 | .fn f x y,_,_,h,hv=>by
   obtain ⟨x',y',rfl,hx,hy⟩:=h;obtain ⟨rx,ry,h1,h2,h3⟩:=hv;exact ⟨rx,ry,h1,reL_spec x hx h2,reL_spec y hy h3⟩
 | .agg x,_,_,h,hv=>by
   obtain ⟨x',rfl,hx⟩:=h;obtain ⟨rc,h1,h2⟩:=hv;exact ⟨rc,h1,reL_spec x hx h2⟩
 | .tup x,_,_,h,hv=>by
   obtain ⟨x',rfl,hx⟩:=h;obtain ⟨rc,h1,h2⟩:=hv;exact ⟨rc,h1,reL_spec x hx h2⟩
 | .ifc t x,_,_,h,hv=>by
   obtain ⟨x',rfl,hx⟩:=h;obtain ⟨y,h1,h2⟩:=hv;exact ⟨y,h1,reA_spec x hx h2⟩
 | .g v,_,_,h,hv=>by obtain rfl:=h;exact hv
 | .ept cs o,_,_,h,hv=>by obtain rfl:=h;exact ren_plain rfl hv
 | .sl n sz cs,_,_,h,hv=>by obtain rfl:=h;exact ren_plain rfl hv
 | .z0,_,_,h,hv=>by obtain rfl:=h;exact hv
theorem reL_spec:∀ (a:List AV) {b:List AV} {v:List Value},reL n1 q a b→VRs w G b v→VRs w (renG n1 q G) a v
 | [],_,_,h,hv=>by obtain rfl:=h;exact hv
 | a::as,_,_,h,hv=>by
   obtain ⟨b,bs,rfl,h1,h2⟩:=h;obtain ⟨v,vs,rfl,h3,h4⟩:=hv;exact ⟨v,vs,rfl,reA_spec a h1 h3,reL_spec as h2 h4⟩
end
theorem reL_get:∀ {l l':List AV},reL n1 q l' l→∀ (t:Nat) (a:AV),l'[t]?=some a→∃ b,l[t]?=some b∧reA n1 q a b
 | _,[],_,t,a,h=>by simp at h
 | _,a::as,h,t,x,hx=>by
   obtain ⟨b,bs,rfl,h1,h2⟩:=h
   cases t with
   | zero=>simp only [List.getElem?_cons_zero,Option.some.injEq] at hx;subst hx;exact ⟨b,rfl,h1⟩
   | succ t=>simp only [List.getElem?_cons_succ] at hx ⊢;exact reL_get h2 t x hx
theorem reB_spec {k k':Blk} {rb ro:Nat} (h:reB n1 q k k') (hk:BlkR w G rb ro k'):BlkR w (renG n1 q G) rb ro k:=by
 cases k with
 | cells cs =>
   obtain ⟨cs',rfl,h⟩:=h;obtain ⟨c,e,fr,h1,h2,h3⟩:=hk;refine ⟨c,e,fr,h1,h2,fun i a hi=>?_⟩;rcases h with ⟨rfl,hn⟩ | h
   ·obtain ⟨v,h4,h5⟩:=h3 i a hi
    have:noIds a=true:=by
     clear h3 h4 h5
     induction cs generalizing i with
     | nil=>simp at hi
     | cons x xs ih =>
       simp only [noIdsL,Bool.and_eq_true] at hn
       cases i with
       | zero=>simp only [List.getElem?_cons_zero,Option.some.injEq] at hi;rw [←hi];exact hn.1
       | succ i=>exact ih i (by simpa using hi) hn.2
    exact ⟨v,h4,ren_plain this h5⟩
   ·obtain ⟨b,h6,h7⟩:=reL_get h i a hi
    obtain ⟨v,h4,h5⟩:=h3 i b h6;exact ⟨v,h4,reA_spec a h7 h5⟩
 | sit s p=>obtain rfl:=h;exact hk
 | map es c=>exact h.elim
theorem reM_get {m:ML}:∀ {m':ML},reM n1 q m m'→∀ (c:Nat) (k:Blk),getL m' c=some k→∃ b k',lkE n1 q c=some b∧getL m b=some k'∧reB n1 q k k'
 | [],_,c,k,h=>by simp [getL] at h
 | (d,x)::m',h,c,k,hc=>by
   rw [getL] at hc
   split at hc
   ·rename_i hd;subst hd;cases hc;exact h.1
   ·exact reM_get h.2 c k hc
theorem lk_mem:∀ {q:Ren} {c b:Nat},lk q c=some b→(c,b)∈q
 | [],c,b,h=>by simp [lk] at h
 | (d,e)::q,c,b,h=>by
   rw [lk] at h
   split at h
   ·rename_i hd;subst hd;cases h;exact List.mem_cons_self
   ·exact List.mem_cons_of_mem _ (lk_mem h)
theorem lk_inj:∀ {q:Ren} {c c' b:Nat},(q.map (·.2)).Nodup→lk q c=some b→lk q c'=some b→c=c'
 | [],c,c',b,_,h,_=>by simp [lk] at h
 | (d,e)::q,c,c',b,hn,h,h'=>by
   simp only [List.map_cons,List.nodup_cons] at hn;rw [lk] at h h'
   split at h
   ·rename_i hd
    cases h
    split at h'
    ·rename_i hd';exact hd.symm.trans hd'
    ·exact absurd (List.mem_map.2 ⟨_,lk_mem h',rfl⟩) hn.1
   ·split at h'
    ·cases h'
     exact absurd (List.mem_map.2 ⟨_,lk_mem h,rfl⟩) hn.1
    ·exact lk_inj hn.2 h h'
variable {GT:GTab} {l l':List AV} {m m':ML} {n n':Nat}
variable {E:Beg}
theorem lkE_lt {c b:Nat} (hn:∀ p∈q,n1≤p.1∧n1≤p.2) (h:lkE n1 q c=some b):(c<n1∧b=c)∨(n1≤c∧n1≤b∧lk q c=some b):=by
 unfold lkE at h
 split at h
 ·rename_i hc;cases h;exact .inl ⟨hc,rfl⟩
 ·rename_i hc;have:=hn _ (lk_mem h);exact .inr ⟨by omega,this.2,h⟩
theorem lkE_inj {c c' b:Nat} (hn:∀ p∈q,n1≤p.1∧n1≤p.2) (hd:(q.map (·.2)).Nodup) (h:lkE n1 q c=some b) (h':lkE n1 q c'=some b):c=c':=by
 rcases lkE_lt hn h with ⟨h1,h2⟩ | ⟨h1,h2,h3⟩ <;> rcases lkE_lt hn h' with ⟨k1,k2⟩ | ⟨k1,k2,k3⟩
 ·omega
 ·omega
 ·omega
 ·exact lk_inj hd h3 k3
theorem VS.ren (q:Ren) (h1:∀ p∈q,E.nx≤p.1∧E.nx≤p.2∧p.1<n') (h2:(q.map (·.2)).Nodup) (hn':E.nx≤n') (h3:reL E.nx q l' l) (h4:reM E.nx q m m'):VS GT E (stL l m n) (stL l' m' n'):=by
 intro base w1 G1 w G ts hm1 hs ht;have hb1:∀ p∈q,E.nx≤p.1∧E.nx≤p.2:=fun p hp=>⟨(h1 p hp).1,(h1 p hp).2.1⟩;have hbl:∀ c k,(memL m').get c=some k→∃ b k',lkE E.nx q c=some b∧(memL m).get b=some k'∧reB E.nx q k k':=by
  intro c k hc;rw [memL_get] at hc;obtain ⟨b,k',g1,g2,g3⟩:=reM_get h4 c k hc;exact ⟨b,k',g1,(memL_get m b).trans g2,g3⟩
 have mu:∀ c b x,lkE E.nx q c=some b→(renG E.nx q G).μ c=some x→G.μ b=some x:=by
  intro c b x hq hx;have:(lkE E.nx q c).bind G.μ=some x:=hx;rw [hq] at this;exact this
 have mu1:∀ (c:Nat) (x:Nat×Nat),c<E.nx→(renG E.nx q G).μ c=G.μ c:=by
  intro c _ hc;show (lkE E.nx q c).bind G.μ=_;rw [lkE,if_pos hc];rfl
 have low:∀ (b:Nat) (x:Nat×Nat),G1.μ b=some x→b<E.nx:=by
  intro b x hb;rcases Nat.lt_or_ge b E.nx with h | h
  ·exact h
  ·rw [hm1.fresh b h trivial] at hb;cases hb
 have rdlow:∀ c k,getR E.rd c=some k→E.cur.get c=none∧c<E.nx∧∃ rb ro,G1.μ c=some (rb,ro):=by
  intro c k hc;have hcn:E.cur.get c=none:=by
   cases hx:E.cur.get c with
   | none=>rfl
   | some y=>rw [hm1.dj c y hx] at hc;cases hc
  obtain ⟨rb,ro,e1,-⟩:=hm1.blk c k (by rw [getR_cons,hcn];exact hc);exact ⟨hcn,low c _ e1,rb,ro,e1⟩
 have hext:Ext w1 w G1 (renG E.nx q G):=⟨fun b x hb=>by rw [mu1 b x (low b x hb)];exact hs.ext.mu b x hb,hs.ext.im,hs.ext.same,hs.ext.shape⟩;have hdj:∀ c k,(memL m').get c=some k→getR E.rd c=none:=by
  intro c k hc
  cases hr:getR E.rd c with
  | none=>rfl
  | some y =>
    obtain ⟨-,hlt,-⟩:=rdlow c y hr;obtain ⟨b,k',g1,g2,-⟩:=hbl c k hc;rcases lkE_lt hb1 g1 with ⟨-,rfl⟩ | ⟨h5,-⟩
    ·rw [hs.mr.dj b k' g2] at hr;cases hr
    ·omega
 have hblk:∀ c k,getR (memL m'::E.rd) c=some k→∃ rb ro,(renG E.nx q G).μ c=some (rb,ro)∧base≤rb∧¬(renG E.nx q G).I rb∧BlkR w (renG E.nx q G) rb ro k:=by
  intro c k hc;rw [getR_cons] at hc
  cases hcm:(memL m').get c with
  | some y =>
    rw [hcm,Option.some_or] at hc;obtain rfl:y=k:=by simpa using hc
    obtain ⟨b,k',g1,g2,g3⟩:=hbl c y hcm;obtain ⟨rb,ro,e1,e2,e3,e4⟩:=hs.mr.blk b k' (getR_of_cur g2);exact ⟨rb,ro,by show (lkE E.nx q c).bind G.μ=_;rw [g1];exact e1,e2,e3,reB_spec g3 e4⟩
  | none =>
    rw [hcm,Option.none_or] at hc;obtain ⟨hcn,hlt,-⟩:=rdlow c k hc;obtain ⟨rb,ro,e1,e2,e3,e4⟩:=hm1.blk c k (by rw [getR_cons,hcn];exact hc);have hg:G.μ c=some (rb,ro):=hs.ext.mu c _ e1;have hcn2:(memL m).get c=none:=by
     cases hx:(memL m).get c with
     | none=>rfl
     | some y=>rw [hs.mr.dj c y hx] at hc;cases hc
    obtain ⟨rb',ro',f1,f2,f3,-⟩:=hs.mr.blk c k (by rw [getR_cons,hcn2];exact hc);rw [hg] at f1;cases f1;refine ⟨rb,ro,by rw [mu1 c (rb,ro) hlt];exact hg,f2,f3,e4.mono hext (hs.fr rb e4.lt fun b k0 ro0 hb0 he0=>?_)⟩;have:=hm1.inj b c k0 k rb ro0 ro (getR_of_cur hb0) (by rw [getR_cons,hcn];exact hc) he0 e1;subst this;rw [hcn] at hb0;cases hb0
 refine ⟨renG E.nx q G,.refl w _,?_,fun t a ha=>?_⟩
 ·exact {
   mr := {
    fresh:=fun b hb _=>by
     show (lkE E.nx q b).bind G.μ=none;have hb':n'≤b:=hb
     cases hq:lkE E.nx q b with
     | none=>rfl
     | some c =>
       rcases lkE_lt hb1 hq with ⟨h5,-⟩ | ⟨-,-,h5⟩
       ·omega
       ·have:=(h1 _ (lk_mem h5)).2.2;omega
    blk:=hblk
    inj := fun c c' k k' rb ro ro' hc hc' e1 e2=>by
     have back:∀ c k,getR (memL m'::E.rd) c=some k→∃ b x,lkE E.nx q c=some b∧getR (memL m::E.rd) b=some x:=by
      intro c k hc;rw [getR_cons] at hc
      cases hcm:(memL m').get c with
      | some y =>
        obtain ⟨b,x,g1,g2,-⟩:=hbl c y hcm;exact ⟨b,x,g1,getR_of_cur g2⟩
      | none =>
        rw [hcm,Option.none_or] at hc;obtain ⟨-,hlt,-⟩:=rdlow c k hc;have hcn2:(memL m).get c=none:=by
         cases hx:(memL m).get c with
         | none=>rfl
         | some y=>rw [hs.mr.dj c y hx] at hc;cases hc
        exact ⟨c,k,by rw [lkE,if_pos hlt],by rw [getR_cons,hcn2];exact hc⟩
     obtain ⟨b,x,g1,g2⟩:=back c k hc;obtain ⟨b',x',g1',g2'⟩:=back c' k' hc';have:=hs.mr.inj b b' x x' rb ro ro' g2 g2' (mu c b _ g1 e1) (mu c' b' _ g1' e2);subst this;exact lkE_inj hb1 h2 g1 g1'
    imm:=hs.mr.imm,base:=hs.mr.base
    gt:=fun g cs hg=>RowR.mono (Ext.unbare w (renG E.nx q G)) cs (show RowR w (renG E.nx q G).bare g 0 cs from bareRow (G:=G) cs (hs.mr.gt g cs hg))
    dj:=hdj }
   ext:=hext
   os:=hs.os,tape:=hs.tape,output:=hs.output,size:=hs.size,fr:=hs.fr
   prov:=fun c k rb ro hc hx=>by
    obtain ⟨b,k',g1,g2,-⟩:=hbl c k hc;exact hs.prov b k' rb ro g2 (mu c b _ g1 hx)
   impr:=hs.impr
   mus:=fun b x hb=>by
    rcases Nat.lt_or_ge b E.nx with h5 | h5
    ·rw [mu1 b x h5] at hb;exact hs.mus b x hb
    ·exact .inr h5
   nx:=hn' }
 ·rw [tmL_get] at ha
  obtain ⟨b,g1,g2⟩:=reL_get h3 t a ha;obtain ⟨v,g3,g4⟩:=ht t b (by rw [tmL_get];exact g1);exact ⟨v,g3,reA_spec a g2 g4⟩
theorem PureN.of_w {P:Program} {GT:GTab} {c:Code} {f:FuncId} {fn:Func} {args:List AV} {v:AV} (hf:P.funcs[f]?=some fn) (hb:fn.body=some c) (hn:(fn.name == "runtime.NumGoroutine")=false) (hi:noIdsL args=true)
 (h:W P GT .none c (stL (args++List.replicate (fn.ntmps - args.length) (.g undef)) [] 0) (postP P fn.results.toList v)):PureN P GT f args v:=pure_of_w hf hb hn hi (W.enter h)
end
section
variable {P:Program} {GT:GTab} {rd:List Mem} {m m':ML} {n n':Nat} {l l':List AV} {E:Beg}
theorem VS.enter {args:List AV} {nt:Nat} (s1:St) (hc:s1.cur=memL m) (hn:s1.nx=n) (ht:s1.tm=putArgs args 0 (undefT nt 0)):VS GT E s1 (stL (args++List.replicate (nt - args.length) (.g undef)) m n):=by
 obtain ⟨tm,cur,nx⟩:=s1;simp only at hc hn ht;subst hc hn ht;intro base w1 G1 w G ts _ hs hv;refine ⟨G,.refl w _,hs,fun t v h=>hv t v ?_⟩;rw [tmL_get] at h;show (putArgs args 0 (undefT nt 0)).get t=some v;rw [putArgs_get,undefT_get]
 by_cases h1:t<args.length
 ·rw [List.getElem?_append_left h1] at h
  rw [if_pos ⟨Nat.zero_le _,by omega⟩,Nat.sub_zero];exact h
 ·rw [List.getElem?_append_right (by omega),List.getElem?_replicate] at h
  rw [if_neg (by omega)]
  split at h
  ·rw [if_pos (by omega)];exact h
  ·cases h
def CloseTo (rd:List Mem) (m:ML) (as bs:List AV):Prop:=∃ K,closeV.closeL (memL m::rd) K as=some bs
theorem Pure.read {f:FuncId} {args as:List AV} {v:Value} (h:Pure P GT f as (.ret (.g v))) (hfn:∃ fn,P.funcs[f]?=some fn∧(fn.name == "runtime.NumGoroutine")=false∧fn.body.isNone=false)
 (hc:CloseTo rd m args as):CallM P GT rd m n f args (.g v) m n:=by
 obtain ⟨K,hc⟩:=hc;refine ⟨fun base w G rargs hm ha=>?_,hfn⟩;have hx:Ext w w G.bare ⟨fun _=>none,fun b=>b<w.heap.size⟩:=⟨fun _ _ e=>(by cases e),fun rb h=>hm.imm rb h,fun _ _=>rfl,fun _ c _ fr h=>⟨c,fr,h,rfl⟩⟩;have h1:=h w (fun b=>b<w.heap.size) rargs (fun _ h=>h) (fun g cs hg=>RowR.mono hx cs (bareRow cs (hm.gt g cs hg))) ((closeV_spec hm K).2 hc ha);refine (tri_of_step hm (out:=.ret (.g v)) (h1.mono ?_)).mono ?_
 ·rintro e w' ⟨I',hp,ho⟩
  obtain ⟨r,rfl,hr⟩:=ho;exact ⟨G.I,⟨fun _ h=>h,fun _ h=>.inl h,fun rb h=>Nat.lt_of_lt_of_le (hm.imm rb h) hp.size,hp.os,hp.tape,hp.output,hp.size,hp.same⟩,r,rfl,hr⟩
 ·rintro e w' ⟨G',h2,r,rfl,h3⟩
  exact ⟨r,G',rfl,h2,h3⟩
def plainC:AV→Bool
 | .g _ | .sl _ _ _ | .z0=>true
 | _=>false
theorem close_plain {a:AV} (h:plainC a=true) (K:Nat) (ms:List Mem):closeV ms (K+1) a=some a:=by
 cases a <;> first | rfl | (cases h;done)
theorem closeL_plain:∀ {cs:List AV} (_:∀ a∈cs,plainC a=true) (K:Nat) (ms:List Mem),cs.length<K→closeV.closeL ms (K+1) cs=some cs
 | [],_,K,ms,_=>rfl
 | a::cs,h,K,ms,hk=>by
   obtain ⟨K,rfl⟩:∃ K',K=K'+1:=⟨K - 1,by simp at hk;omega⟩;have h1:=close_plain (h a List.mem_cons_self) K ms;have h2:=closeL_plain (fun b hb=>h b (List.mem_cons_of_mem _ hb)) K ms (by simp at hk;omega);show (match closeV ms (K+1) a,closeV.closeL ms (K+1) cs with | some x,some y=>some (x::y) | _,_=>none)=_;rw [h1,h2]
theorem close_mono {ms:List Mem}:∀ (K:Nat),(∀ {a b:AV},closeV ms K a=some b→closeV ms (K+1) a=some b)∧(∀ {a b:List AV},closeV.closeL ms K a=some b→closeV.closeL ms (K+1) a=some b):=by
 intro K
 induction K with
 | zero=>exact ⟨fun h=>by simp [closeV] at h,fun h=>by simp [closeV.closeL] at h⟩
 | succ K ih =>
   refine ⟨fun {a b} h=>?_,fun {a b} h=>?_⟩
   ·cases a with
    | gs c o k sz r =>
      simp only [closeV] at h ⊢
      split at h
      ·split at h
       ·rename_i hle
        split at h
        ·rename_i l hl
         rw [if_pos hle,ih.2 hl];exact h
        ·cases h
       ·cases h
      ·cases h
    | agg cs =>
      simp only [closeV] at h ⊢
      split at h
      ·rename_i l hl;rw [ih.2 hl];exact h
      ·cases h
    | _=>first | exact h | (simp [closeV] at h;done)
   ·cases a with
    | nil=>exact h
    | cons a as =>
      simp only [closeV.closeL] at h;show (match closeV ms (K+1) a,closeV.closeL ms (K+1) as with | some x,some y=>some (x::y) | _,_=>none)=some b
      split at h
      ·rename_i x y hx hy;rw [ih.1 hx,ih.2 hy];exact h
      ·cases h
theorem close_up {ms:List Mem} {K:Nat} (d:Nat):(∀ {a b:AV},closeV ms K a=some b→closeV ms (K+d) a=some b)∧(∀ {a b:List AV},closeV.closeL ms K a=some b→closeV.closeL ms (K+d) a=some b):=by
 induction d with
 | zero=>exact ⟨fun h=>h,fun h=>h⟩
 | succ d ih=>exact ⟨fun h=>(close_mono (K+d)).1 (ih.1 h),fun h=>(close_mono (K+d)).2 (ih.2 h)⟩
theorem CloseTo.nil:CloseTo rd m [] []:=⟨1,rfl⟩
theorem CloseTo.plain {a:AV} {as bs:List AV} (h:plainC a=true) (k:CloseTo rd m as bs):CloseTo rd m (a::as) (a::bs):=by
 obtain ⟨K,hk⟩:=k;refine ⟨K+2,?_⟩;show (match closeV (memL m::rd) (K+1) a,closeV.closeL (memL m::rd) (K+1) as with | some x,some y=>some (x::y) | _,_=>none)=_;rw [close_plain h,(close_mono K).2 hk]
theorem CloseTo.gs {b o k sz c:Nat} {cs as bs:List AV} (hg:getL m b=some (.cells cs)) (hl:o+k*sz≤cs.length) (hp:∀ a∈(cs.drop o).take (k*sz),plainC a=true) (h:CloseTo rd m as bs) :
 CloseTo rd m (.gs b o k sz c::as) (.sl k sz ((cs.drop o).take (k*sz))::bs):=by
 obtain ⟨K,hk⟩:=h;have hg':getR (memL m::rd) b=some (.cells cs):=getR_of_cur ((memL_get m b).trans hg);have h1:closeV (memL m::rd) (((cs.drop o).take (k*sz)).length+3) (.gs b o k sz c)=some (.sl k sz ((cs.drop o).take (k*sz))):=by
  simp only [closeV,hg',if_pos hl];rw [closeL_plain hp _ _ (Nat.lt_succ_self _)]
 refine ⟨((cs.drop o).take (k*sz)).length+3+K+1,?_⟩;show (match closeV (memL m::rd) (((cs.drop o).take (k*sz)).length+3+K) (.gs b o k sz c),closeV.closeL (memL m::rd) (((cs.drop o).take (k*sz)).length+3+K) as with | some x,some y=>some (x::y) | _,_=>none)=_;rw [(close_up K).1 h1,Nat.add_comm _ K,(close_up _).2 hk]
def frA (b:Nat) (cs:List AV) (a' a:AV):Prop:=a'=.any∨a'=a∨∃ o n sz k,a=.gs b o n sz k∧a'=.sl n sz ((cs.drop o).take (n*sz))∧o+n*sz≤cs.length
def frL (b:Nat) (cs:List AV):List AV→List AV→Prop
 | [],l=>l=[]
 | a::as,l=>∃ x xs,l=x::xs∧frA b cs a x∧frL b cs as xs
theorem frL_get {b:Nat} {cs:List AV}:∀ {l' l:List AV},frL b cs l' l→∀ (t:Nat) (a:AV),l'[t]?=some a→∃ x,l[t]?=some x∧frA b cs a x
 | [],_,_,t,a,h=>by simp at h
 | a::as,_,h,t,x,hx=>by
   obtain ⟨y,ys,rfl,h1,h2⟩:=h
   cases t with
   | zero=>simp only [List.getElem?_cons_zero,Option.some.injEq] at hx;subst hx;exact ⟨y,rfl,h1⟩
   | succ t=>simp only [List.getElem?_cons_succ] at hx ⊢;exact frL_get h2 t x hx
def frM (b:Nat) (cs:List AV) (m:ML):ML→Prop
 | []=>True
 | (c,k)::m'=>(c≠b∧(getL m c=some k∨∃ x y,k=.cells x∧getL m c=some (.cells y)∧frL b cs x y))∧frM b cs m m'
theorem frM_get {b:Nat} {cs:List AV}:∀ {m':ML},frM b cs m m'→∀ (c:Nat) (k:Blk),getL m' c=some k→c≠b∧(getL m c=some k∨∃ x y,k=.cells x∧getL m c=some (.cells y)∧frL b cs x y)
 | [],_,c,k,h=>by simp [getL] at h
 | (d,x)::m',h,c,k,hc=>by
   rw [getL] at hc
   split at hc
   ·rename_i hd;subst hd;cases hc;exact h.1
   ·exact frM_get h.2 c k hc
theorem VS.sealT (b:Nat) (cs:List AV) (hg:getL m b=some (.cells cs)) (hp:∀ a∈cs,plainA a=true) (hl:frL b cs l' l) (hm:frM b cs m m'):VS GT E (stL l m n) (stL l' m' n):=by
 intro base w1 G1 w G ts hm1 hs ht;have hgb:(memL m).get b=some (.cells cs):=(memL_get m b).trans hg;obtain ⟨rb,ro,e1,e2,e3,c,e,fr,e4,e5,e6⟩:=hs.mr.blk b _ (getR_of_cur hgb);have hlt:rb<w.heap.size:=(Array.getElem?_eq_some_iff.1 e4).1;have plainIds:∀ {a:AV},plainA a=true→noIds a=true:=fun {a} h=>by cases a <;> first | rfl | (cases h;done)
 have hx:Ext w w G ⟨G.μ,fun r=>G.I r∨r=rb⟩:=⟨fun _ _ h=>h,fun _ h=>.inl h,fun _ _=>rfl,fun _ c _ fr h=>⟨c,fr,h,rfl⟩⟩;have hv:∀ {a' a:AV} {v:Value},frA b cs a' a→VR w G a v→VR w ⟨G.μ,fun r=>G.I r∨r=rb⟩ a' v:=by
  intro a' a v h hva;rcases h with rfl | rfl | ⟨o,k,sz,kc,rfl,rfl,hle⟩
  ·trivial
  ·exact VR.mono hx _ hva
  ·obtain ⟨rb',ro',o',cap,c',e',fr',g1,rfl,g3,g4,-⟩:=hva
   rw [e1] at g1;cases g1;refine ⟨_,cap,rfl,g4,?_⟩
   by_cases h0:k=0
   ·exact .inl h0
   ·refine .inr ⟨rb,ro+o,by rw [g3.resolve_right (by omega)],RowR.mk (G:=⟨G.μ,fun r=>G.I r∨r=rb⟩) (show G.I rb∨rb=rb from .inr rfl) fun i a hi=>?_⟩
    rw [List.getElem?_take] at hi
    split at hi
    ·rw [List.getElem?_drop] at hi
     obtain ⟨u,g5,g6⟩:=e6 _ a hi;refine ⟨u,?_,VR.mono hx.bare a (noIds_spec a (plainIds (hp a (List.mem_of_getElem? hi))) g6)⟩;rw [cell_of e4,Nat.add_assoc];exact g5
    ·cases hi
 have hback:∀ c k,getR (memL m'::E.rd) c=some k→c≠b∧((getR (memL m::E.rd) c=some k)∨∃ x y,k=.cells x∧getR (memL m::E.rd) c=some (.cells y)∧frL b cs x y):=by
  intro c k hc;rw [getR_cons] at hc
  cases hcm:(memL m').get c with
  | some y =>
    rw [hcm,Option.some_or] at hc;obtain rfl:y=k:=by simpa using hc
    rw [memL_get] at hcm;obtain ⟨g1,g2⟩:=frM_get hm c y hcm;refine ⟨g1,?_⟩;rcases g2 with g2 | ⟨x,z,g2,g3,g4⟩
    ·exact .inl (getR_memL g2)
    ·exact .inr ⟨x,z,g2,getR_memL g3,g4⟩
  | none =>
    rw [hcm,Option.none_or] at hc;have hcn:(memL m).get c=none:=by
     cases hy:(memL m).get c with
     | none=>rfl
     | some y=>rw [hs.mr.dj c y hy] at hc;cases hc
    refine ⟨fun h=>?_,.inl (by rw [getR_cons,hcn];exact hc)⟩;subst h;rw [hgb] at hcn;cases hcn
 have hold:∀ c k,getR (memL m'::E.rd) c=some k→c≠b∧∃ k',getR (memL m::E.rd) c=some k':=by
  intro c k hc;obtain ⟨g1,g2 | ⟨x,y,-,g3,-⟩⟩:=hback c k hc
  ·exact ⟨g1,k,g2⟩
  ·exact ⟨g1,_,g3⟩
 refine ⟨⟨G.μ,fun r=>G.I r∨r=rb⟩,hx.bare,?_,fun t a ha=>?_⟩
 ·exact {
   mr := {
    fresh:=hs.mr.fresh
    blk:=fun d k hd=>by
     obtain ⟨g1,g2⟩:=hback d k hd;obtain ⟨k',g3⟩:=(hold d k hd).2;obtain ⟨r,o,f1,f2,f3,f4⟩:=hs.mr.blk d k' g3;refine ⟨r,o,f1,f2,fun hi=>?_,?_⟩
     ·rcases hi with hi | rfl
      ·exact f3 hi
      ·exact g1 (hs.mr.inj d b k' _ r o ro g3 (getR_of_cur hgb) f1 e1)
     ·rcases g2 with g2 | ⟨x,y,rfl,g4,g5⟩
      ·rw [g2] at g3;cases g3;exact f4.mono hx rfl
      ·rw [g4] at g3;cases g3
       obtain ⟨c',e',fr',h1,h2,h3⟩:=f4;refine ⟨c',e',fr',h1,h2,fun i a hi=>?_⟩;obtain ⟨z,h4,h5⟩:=frL_get g5 i a hi;obtain ⟨u,h6,h7⟩:=h3 i z h4;exact ⟨u,h6,hv h5 h7⟩
    inj:=fun d d' k k' r o o' hd hd' f1 f2=>by
     obtain ⟨x,g1⟩:=(hold d k hd).2;obtain ⟨y,g2⟩:=(hold d' k' hd').2;exact hs.mr.inj d d' x y r o o' g1 g2 f1 f2
    imm:=fun r hi=>by
     rcases hi with hi | rfl
     ·exact hs.mr.imm r hi
     ·exact hlt
    base:=hs.mr.base
    gt:=fun g cs hg=>RowR.mono hx cs (hs.mr.gt g cs hg)
    dj:=fun d k hd=>by
     rw [memL_get] at hd;obtain ⟨g1,g2⟩:=frM_get hm d k hd;rcases g2 with g2 | ⟨x,y,-,g3,-⟩
     ·exact hs.mr.dj d k ((memL_get m d).trans g2)
     ·exact hs.mr.dj d _ ((memL_get m d).trans g3) }
   ext:=hs.ext.trans hx
   os:=hs.os,tape:=hs.tape,output:=hs.output,size:=hs.size,fr:=hs.fr
   prov:=fun d k r o hd f1=>by
    rw [memL_get] at hd;obtain ⟨g1,g2⟩:=frM_get hm d k hd;rcases g2 with g2 | ⟨x,y,-,g3,-⟩
    ·exact hs.prov d k r o ((memL_get m d).trans g2) f1
    ·exact hs.prov d _ r o ((memL_get m d).trans g3) f1
   impr:=fun r hi=>by
    rcases hi with hi | rfl
    ·exact hs.impr r hi
    ·exact .inr (hs.prov b _ r ro hgb e1)
   mus:=hs.mus,nx:=hs.nx }
 ·rw [tmL_get] at ha
  obtain ⟨z,g1,g2⟩:=frL_get hl t a ha;obtain ⟨v,g3,g4⟩:=ht t z (by rw [tmL_get];exact g1);exact ⟨v,g3,hv g2 g4⟩
end
structure FP where
 W:List Nat
 U:List Nat
 n:Nat
 n':Nat
def footO (GT:GTab) (l:List AV):Op→Option (List Nat×List Nat)
 | .move _ | .assign _ | .pick _ _ _ | .binOp _ _ _ _ _ | .unOp _ _ _ | .fieldAddr _ _ _ | .indexAddr _ _ _ | .index _ _ _ | .extract _ _ | .nilCheck _ | .makeFunc _ _ _ | .build _ _ | .alloc _ | .box _ _ | .buildSlice _ _ _=>some ([],[])
 | .load _ a=>some ([],idOf (evL GT l a))
 | .slice _ x _ _ _=>some ([],idOf (evL GT l x))
 | .store _ a _=>some (idOf (evL GT l a),[])
 | .call c=>match c.callee with
   | .builtin .len=>some ([],[])
   | _=>none
 | _=>none
def freeFP (q:FP) (W U:List Nat):Bool:=(U++W).all (fun b=>!q.W.contains b&&!(Nat.ble q.n b&&Nat.blt b q.n'))&&W.all (fun b=>!(q.U++q.W).contains b)
def okD (B:List Nat) (j:Nat) (W U:List Nat):Nat→List FP→Bool
 | _,[]=>true
 | i,q::qs=>(bef B j i||freeFP q W U)&&okD B j W U (i+1) qs
def lowD (n:Nat) (W U:List Nat):Bool:=(U++W).all fun b=>Nat.blt b n
def runD (P:Program) (GT:GTab) (E:Beg) (ops:List Oper):List Oper→Nat→Bool→List FP→List AV→ML→Nat→(AX→St→Prop)→Prop
 | [],_,ok,_,l,m,n,Q=>ok=true∧Q .nrm (stL l m n)
 | o :: os,j,ok,fps,l,m,n,Q=>match wantL ops l o.guard with
   | some true=>match callL GT l o.op with
     | some (f,args)=>∃ a,PureN P GT f args a∧runD P GT E ops os (j+1) ok (fps++[⟨[],[],n,n⟩]) (setO l o.dst a) m n Q
     | none=>match stepO P GT E.rd m n l o.op with
       | some (v,m',n')=>match footO GT l o.op with
         | some (W,U)=>runD P GT E ops os (j+1) (ok&&(lowD n W U&&okD (befs ops []) j W U 0 fps)) (fps++[⟨W,U,n,n'⟩]) (setO l o.dst v) m' n' Q
         | none=>False
       | none=>False
   | some false=>runD P GT E ops os (j+1) ok (fps++[⟨[],[],n,n⟩]) (setO l o.dst (.g undef)) m n Q
   | none=>False
section
variable {P:Program} {GT:GTab} {E:Beg} {ops os:List Oper} {l l':List AV} {m m':ML} {n n':Nat} {Q:AX→St→Prop}
def restrL (m:ML) (W:List Nat):ML:=m.filter fun p=>W.contains p.1
theorem getL_restr (W:List Nat):∀ (m:ML) (b:Nat),getL (restrL m W) b=if W.contains b then getL m b else none
 | [],b=>by simp [restrL,getL]
 | (c,k)::m,b=>by
   have ih:=getL_restr W m b
   by_cases h:W.contains c
   ·have:restrL ((c,k)::m) W=(c,k)::restrL m W:=by simp only [restrL,List.filter_cons,h,if_true]
    rw [this,getL,getL,ih]
    by_cases hc:c=b
    ·subst hc;rw [if_pos rfl,if_pos rfl,if_pos h]
    ·rw [if_neg hc,if_neg hc]
   ·have:restrL ((c,k)::m) W=restrL m W:=by simp only [restrL,List.filter_cons,h];rfl
    rw [this,getL,ih]
    by_cases hc:c=b
    ·subst hc;rw [if_pos rfl,if_neg h,if_neg h]
    ·rw [if_neg hc]
def Local (P:Program) (GT:GTab) (rd:List Mem) (m:ML) (n:Nat) (l:List AV) (o:Oper) (W U:List Nat) (v:AV) (m':ML) (n':Nat):Prop :=
 ∃ av mt,evOne P GT noCH (memL (restrL m U)::rd) (memL (restrL m W)) n (tmL l) o=some (.val av,mt,n')∧av.getD (.g undef)=v∧n≤n' ∧
   (∀ b,getL m' b=(mt.get b).or (if W.contains b then none else getL m b))∧(∀ b x,mt.get b=some x→b∈W∨(n≤b∧b<n'))∧(∀ b∈W,∃ x,getL m b=some x)∧(∀ b∈W,b∉U)
theorem stepO_quiet_rd {rd rd':List Mem} {m2:ML} {op:Op} {v:AV} (hq:∀ t a,op≠.load t a) (hs:∀ t x lo hi mx,op≠.slice t x lo hi mx) (hqo:quietOp op=true) (h:stepO P GT rd m n l op=some (v,m',n')) :
 stepO P GT rd' m2 n l op=some (v,m2,n):=by
 cases op <;> try (cases hqo;done)
 case load t a=>exact absurd rfl (hq t a)
 case slice t x lo hi mx=>exact absurd rfl (hs t x lo hi mx)
 case call c =>
  obtain ⟨cal,args,ats⟩:=c;simp only [stepO] at h ⊢
  split at h
  ·split at h
   ·cases h;rfl
   ·cases h
  ·cases hqo
  ·cases h
 case unOp op t x =>
  cases op <;> simp only [stepO] at h ⊢ <;> first
   | (cases h;done)
   | (split at h
      ·cases h;rfl
      ·cases h)
 all_goals
  simp only [stepO] at h ⊢
 all_goals first
  | (cases h;rfl)
  | (split at h
     ·cases h;rfl
     ·cases h)
  | (split at h
     ·split at h
      ·cases h;rfl
      ·cases h
     ·cases h)
  | (split at h
     ·cases h;rfl
     ·cases h;rfl
     ·cases h)
theorem restr_nil (m:ML):restrL m []=[]:=by simp [restrL]
theorem evOne_nocall {rd:List Mem} {cur:Mem} {nx:Nat} {tm:Tm} {o:Oper} {v:Option AV} {mt:Mem} {nx':Nat} (h:evOne P GT noCH rd cur nx tm o=some (.val v,mt,nx')):∀ c x,o.op=.call c→c.callee≠.value x:=by
 intro c x hop hc;unfold evOne at h;rw [hop] at h;simp only [hc] at h
 split at h
 ·simp only [noCH] at h;cases h
 ·cases h
theorem local_quiet {o:Oper} {U:List Nat} {v:AV} {rd:List Mem} (hqo:quietOp o.op=true) (h:stepO P GT rd (restrL m U) n l o.op=some (v,restrL m U,n)):Local P GT rd m n l o [] U v m n:=by
 obtain ⟨av,mt,he,hv,-⟩:=stepO_ok (ch:=noCH) h;obtain ⟨-,-,he2⟩:=quiet_mem hqo (evOne_nocall he) he;exact ⟨av,.e,by rw [restr_nil];exact he2,hv,Nat.le_refl _,fun b=>by simp [Tri.get_e],fun b x hb=>by simp [Tri.get_e] at hb,fun b hb=>by simp at hb,fun b hb=>by simp at hb⟩
theorem local_new {o:Oper} {v:AV} {rd:List Mem} {k:Blk} (h:stepO P GT (.e::rd) [] n l o.op=some (v,[(n,k)],n+1)):Local P GT rd m n l o [] [] v ((n,k)::m) (n+1):=by
 obtain ⟨av,mt,he,hv,hm⟩:=stepO_ok (ch:=noCH) h;refine ⟨av,mt,by rw [restr_nil];exact he,hv,Nat.le_succ _,fun b=>?_,fun b x hb=>?_,fun b hb=>by simp at hb,fun b hb=>by simp at hb⟩
 ·rw [hm b]
  simp only [getL,List.contains_nil,Bool.false_eq_true,if_false]
  split
  ·rfl
  ·rw [Option.none_or]
 ·rw [hm b] at hb
  simp only [getL] at hb
  split at hb
  ·rename_i h1;exact .inr ⟨by omega,by omega⟩
  ·cases hb
theorem evSlice_at {ms ms':List Mem} {t:TypeId} {x:AV} {lo hi mx:Option AV} (h:∀ b∈idOf x,getR ms b=getR ms' b):evSlice P ms t x lo hi mx=evSlice P ms' t x lo hi mx:=by
 unfold evSlice
 cases hu:P.underlying t with
 | none=>rfl
 | some d =>
   cases d
   case array k e =>
    cases mx with
    | some _=>rfl
    | none =>
      simp only
      cases hi2:P.info? e with
      | none=>rfl
      | some i =>
        cases x
        case ptr b o =>
         simp only;rw [h b (by simp [idOf])]
        all_goals rfl
   case slice e=>cases mx <;> rfl
   all_goals rfl
theorem local_of {o:Oper} {W U:List Nat} {v:AV} {rd:List Mem} (hf:footO GT l o.op=some (W,U)) (h:stepO P GT rd m n l o.op=some (v,m',n')):Local P GT rd m n l o W U v m' n':=by
 have plain:(∀ t a,o.op≠.load t a)→(∀ t x lo hi mx,o.op≠.slice t x lo hi mx)→quietOp o.op=true→W=[]→U=[]→Local P GT rd m n l o W U v m' n':=by
  intro h1 h2 h3 h4 h5;subst h4 h5;have e:=stepO_quiet_rd (rd':=rd) (m2:=m) h1 h2 h3 h;rw [h] at e
  cases e
  exact local_quiet h3 (stepO_quiet_rd h1 h2 h3 h)
 cases hop:o.op <;> rw [hop] at hf <;> simp only [footO,Option.some.injEq,Prod.mk.injEq,reduceCtorEq] at hf
 case load t a =>
  obtain ⟨rfl,rfl⟩:=hf;rw [hop] at h;simp only [stepO] at h
  split at h
  ·rename_i u hu
   cases h
   refine local_quiet (by rw [hop];rfl) ?_;rw [hop];have:loadL P (restrL m (idOf (evL GT l a))) t (evL GT l a)=some v:=by
    rw [←hu]
    cases hx:evL GT l a <;> simp only [loadL,idOf]
    rw [getL_restr];simp
   simp only [stepO,this]
  ·cases h
 case slice t x lo hi mx =>
  obtain ⟨rfl,rfl⟩:=hf;rw [hop] at h;simp only [stepO] at h
  split at h
  ·rename_i s hx
   split at h
   ·rename_i u hu hv
    cases h
    refine local_quiet (by rw [hop];rfl) ?_;rw [hop];simp only [stepO,hx,hu,hv]
   ·cases h
  ·cases h
  ·rename_i hxs hx
   split at h
   ·rename_i u hu
    cases h
    refine local_quiet (by rw [hop];rfl) ?_;rw [hop];have e:evSlice P (memL (restrL m (idOf (evL GT l x)))::rd) t (evL GT l x) (lo.map (evL GT l)) (hi.map (evL GT l)) (mx.map (evL GT l))=some v:=by
     rw [←hu];refine evSlice_at fun b hb=>?_;rw [getR_cons,getR_cons,memL_get,memL_get,getL_restr,if_pos (by simpa using hb)]
    simp only [stepO];rw [e]
   ·cases h
 case alloc t =>
  obtain ⟨rfl,rfl⟩:=hf;rw [hop] at h;simp only [stepO] at h
  split at h
  ·rename_i cs hz;cases h;exact local_new (by rw [hop];simp only [stepO,hz])
  ·cases h
 case box t x =>
  obtain ⟨rfl,rfl⟩:=hf;rw [hop] at h;simp only [stepO] at h
  split at h
  ·rename_i cs hz;cases h;exact local_new (by rw [hop];simp only [stepO,hz])
  ·cases h
 case build t ps =>
  obtain ⟨rfl,rfl⟩:=hf;rw [hop] at h;simp only [stepO] at h
  split at h
  ·rename_i u hu
   cases h
   have h2:stepO P GT (.e::rd) [] n l o.op=some (v,[],n):=by rw [hop];simp only [stepO,hu]
   obtain ⟨av,mt,he,hv,hm⟩:=stepO_ok (ch:=noCH) h2;refine ⟨av,mt,by rw [restr_nil];exact he,hv,Nat.le_refl _,fun b=>?_,fun b x hb=>?_,fun b hb=>by simp at hb,fun b hb=>by simp at hb⟩
   ·rw [hm b];simp [getL]
   ·rw [hm b] at hb;cases hb
  ·cases h
 case buildSlice t k ps =>
  obtain ⟨rfl,rfl⟩:=hf;rw [hop] at h;simp only [stepO,buildSl] at h
  split at h
  ·rename_i sz bb z he
   split at h
   ·rename_i hc
    split at h
    ·rename_i cs hz;cases h;exact local_new (by rw [hop];simp only [stepO,buildSl,he,if_pos hc,hz])
    ·cases h
   ·cases h
  ·cases h
 case store t a x =>
  obtain ⟨rfl,rfl⟩:=hf;rw [hop] at h;simp only [stepO] at h
  split at h
  ·rename_i sz hsz
   unfold storeL at h
   split at h
   ·rename_i b off ha
    split at h
    ·rename_i pc cs hpc hg
     split at h
     ·rename_i hc
      cases h
      have e1:restrL m (idOf (evL GT l a))=restrL m [b]:=by rw [ha];rfl
      have hg1:getL (restrL m [b]) b=some (.cells cs):=by rw [getL_restr];simp [hg]
      have h2:stepO P GT (.e::rd) (restrL m [b]) n l o.op=some (.g undef,setL (restrL m [b]) b (.cells (putA cs off pc)),n):=by
       rw [hop];simp only [stepO,hsz,storeL,ha,hpc,hg1,if_pos hc]
      obtain ⟨av,mt,he,hv,hm⟩:=stepO_ok (ch:=noCH) h2;have hmt:∀ c,mt.get c=if b=c then some (.cells (putA cs off pc)) else none:=by
       intro c;rw [hm c,getL_set]
       by_cases hb:b=c
       ·subst hb;rw [if_pos rfl,if_pos rfl,hg1];rfl
       ·rw [if_neg hb,if_neg hb,getL_restr,if_neg (by simpa using fun e=>hb e.symm)]
      refine ⟨av,mt,by rw [restr_nil,e1];exact he,hv,Nat.le_refl _,fun c=>?_,fun c x hc2=>?_,fun c hc2=>?_,fun c hc2=>by simp⟩
      ·rw [hmt c,getL_set,ha]
       by_cases hb:b=c
       ·subst hb;rw [if_pos rfl,if_pos rfl,hg];rfl
       ·rw [if_neg hb,if_neg hb,Option.none_or,if_neg (by simpa [idOf] using fun e=>hb e.symm)]
      ·rw [hmt c] at hc2
       split at hc2
       ·rename_i hb;subst hb;left;rw [ha];simp [idOf]
       ·cases hc2
      ·rw [ha] at hc2
       simp only [idOf,List.mem_singleton] at hc2;subst hc2;exact ⟨_,hg⟩
     ·cases h
    ·cases h
   ·cases h
  ·cases h
 case call c =>
  obtain ⟨cal,args,ats⟩:=c;simp only at hf
  split at hf
  ·simp only [Option.some.injEq,Prod.mk.injEq] at hf
   refine plain (by simp [hop]) (by simp [hop]) ?_ hf.1.symm hf.2.symm;rw [hop]
   rfl
  ·cases hf
 all_goals exact plain (by simp [hop]) (by simp [hop]) (by rw [hop];rfl) hf.1.symm hf.2.symm
structure FR (r:Rec) (q:FP):Prop where
 W:r.W=q.W
 U:∀ b,r.U b=true→b∈q.U++q.W
 n:r.nx=q.n
 n':r.nx'=q.n'
def FRs (rs:List Rec) (fps:List FP):Prop:=rs.length=fps.length∧∀ (i:Nat) (r:Rec),rs[i]?=some r→∃ q:FP,fps[i]?=some q∧FR r q
theorem FRs.snoc {rs:List Rec} {fps:List FP} (h:FRs rs fps) {r:Rec} {q:FP} (hr:FR r q):FRs (rs++[r]) (fps++[q]):=by
 refine ⟨by simp [h.1],fun i x hx=>?_⟩
 by_cases hi:i<rs.length
 ·rw [List.getElem?_append_left hi] at hx
  obtain ⟨y,h1,h2⟩:=h.2 i x hx;exact ⟨y,by rw [List.getElem?_append_left (by rw [←h.1];exact hi)];exact h1,h2⟩
 ·rw [List.getElem?_append_right (by omega)] at hx
  have hlt:=(List.getElem?_eq_some_iff.1 hx).1;simp only [List.length_singleton] at hlt;have h0:i - rs.length=0:=by omega
  rw [h0] at hx;simp only [List.getElem?_cons_zero,Option.some.injEq] at hx;subst hx;exact ⟨q,by rw [List.getElem?_append_right (by rw [←h.1];omega),show i - fps.length=0 by rw [←h.1];omega];rfl,hr⟩
theorem okD_get {B:List Nat} {j:Nat} {W U:List Nat}:∀ {fps:List FP} {k:Nat},okD B j W U k fps=true→∀ (i:Nat) (q:FP),fps[i]?=some q→bef B j (k+i)=true∨freeFP q W U=true
 | [],k,_,i,q,h=>by simp at h
 | p :: ps,k,hk,i,q,h=>by
   simp only [okD,Bool.and_eq_true,Bool.or_eq_true] at hk
   cases i with
   | zero=>simp only [List.getElem?_cons_zero,Option.some.injEq] at h;subst h;exact hk.1
   | succ i =>
     have:=okD_get hk.2 i q (by simpa using h)
     rwa [show k+1+i=k+(i+1) by omega] at this
theorem freeFP_spec {q:FP} {W U:List Nat} (h:freeFP q W U=true):(∀ b,b∈U++W→b∉q.W∧¬(q.n≤b∧b<q.n'))∧∀ b∈W,b∉q.U++q.W:=by
 simp only [freeFP,Bool.and_eq_true,List.all_eq_true] at h;refine ⟨fun b hb=>?_,fun b hb=>?_⟩
 ·have:=h.1 b hb
  simp only [Bool.not_eq_true'] at this;refine ⟨fun h1=>?_,fun h1=>?_⟩
  ·have h2:=this.1
   rw [←Bool.not_eq_true] at h2;exact h2 (List.contains_iff_mem.2 h1)
  ·have h2:=this.2
   rw [Nat.ble_eq_true_of_le h1.1,show Nat.blt b q.n'=true from Nat.ble_eq_true_of_le h1.2] at h2
   cases h2
 ·have:=h.2 b hb
  intro h1;rw [Bool.not_eq_true',←Bool.not_eq_true] at this;exact this (List.contains_iff_mem.2 h1)
theorem runD_recs {s0:St}:∀ (os:List Oper) (l:List AV) (m:ML) (n:Nat) (rs:List Rec) (fps:List FP) (ok:Bool),ops.drop rs.length=os→(∀ t,(foldS (fun _=>true) 0 rs s0).tm.get t=l[t]?)→MemEq (foldS (fun _=>true) 0 rs s0).cur m →
 (foldS (fun _=>true) 0 rs s0).nx=n→FRs rs fps→runD P GT E ops os rs.length ok fps l m n Q →
 ∃ ext l' m' n',ok=true∧ext.length=os.length∧(∀ t,(foldS (fun _=>true) 0 (rs++ext) s0).tm.get t=l'[t]?)∧MemEq (foldS (fun _=>true) 0 (rs++ext) s0).cur m'∧(foldS (fun _=>true) 0 (rs++ext) s0).nx=n'∧Q .nrm (stL l' m' n') ∧
   ∀ (i:Nat) (o:Oper),os[i]?=some o→∃ r ch,ChOk P GT ch∧(rs++ext)[rs.length+i]?=some r ∧
     RecOk P GT ch E.rd ⟨ops⟩ (befs ops []) ((rs++ext).take (rs.length+i)) (rs.length+i) o (foldS (fun k=>decide (k<rs.length+i)) 0 (rs++ext) s0) r:=by
 intro os
 induction os with
 | nil=>intro l m n rs fps ok _ ht hm hn _ h;exact ⟨[],l,m,n,h.1,rfl,by simpa using ht,by simpa using hm,by simpa using hn,h.2,fun i o hi=>by simp at hi⟩
 | cons o os ih =>
   intro l m n rs fps ok hd ht hm hn hfr h;have hd':ops.drop (rs.length+1)=os:=by
    have:(ops.drop rs.length).drop 1=os:=by rw [hd];rfl
    rwa [List.drop_drop] at this
   have hget:∀ t,(foldS (fun _=>true) 0 rs s0).tm.getA t=(tmL l).getA t:=fun t=>getA_congr (by rw [ht,tmL_get]);have hwant:wantA ⟨ops⟩ o (foldS (fun _=>true) 0 rs s0).tm=wantA ⟨ops⟩ o (tmL l):=wantA_congr fun t _=>by rw [ht,tmL_get]
   have more:∀ (v:AV) (m2:ML) (n2:Nat) (r:Rec) (q:FP) (ok2:Bool) (ch:CH),ChOk P GT ch→FR r q→r.dst=o.dst→r.out=v→r.nx'=n2→(∀ b,getL m2 b=(r.cur'.get b).or (if b∈r.W then none else getL m b)) →
    (ok2=true→RecOk P GT ch E.rd ⟨ops⟩ (befs ops []) rs rs.length o (foldS (fun _=>true) 0 rs s0) r)→(ok2=true→ok=true)→runD P GT E ops os (rs.length+1) ok2 (fps++[q]) (setO l o.dst v) m2 n2 Q →
    ∃ ext l' m' n',ok=true∧ext.length=(o::os).length∧(∀ t,(foldS (fun _=>true) 0 (rs++ext) s0).tm.get t=l'[t]?)∧MemEq (foldS (fun _=>true) 0 (rs++ext) s0).cur m'∧(foldS (fun _=>true) 0 (rs++ext) s0).nx=n'∧Q .nrm (stL l' m' n') ∧
    ∀ (i:Nat) (o':Oper),(o::os)[i]?=some o'→∃ r ch,ChOk P GT ch∧(rs++ext)[rs.length+i]?=some r ∧
      RecOk P GT ch E.rd ⟨ops⟩ (befs ops []) ((rs++ext).take (rs.length+i)) (rs.length+i) o' (foldS (fun k=>decide (k<rs.length+i)) 0 (rs++ext) s0) r:=by
    intro v m2 n2 r q ok2 ch hch hr hdst hout hnx hmem hrec hok hrun;have hf:foldS (fun _=>true) 0 (rs++[r]) s0=stepSt (foldS (fun _=>true) 0 rs s0) r:=by rw [foldS_append];rfl
    have ht':∀ t,(foldS (fun _=>true) 0 (rs++[r]) s0).tm.get t=(setO l o.dst v)[t]?:=by
     intro t;rw [hf];show (putT _ r.dst r.out).get t=_;rw [putT_get,ht,←tmL_get (setO l o.dst v),setO_get,putT_get,tmL_get,hdst,hout]
    have hm':MemEq (foldS (fun _=>true) 0 (rs++[r]) s0).cur m2:=by
     intro b;rw [hf,stepSt_get,hm b,hmem b]
    obtain ⟨ext,l',m',n',g0,g1,g2,g3,g4,g5,g6⟩:=ih (setO l o.dst v) m2 n2 (rs++[r]) (fps++[q]) ok2 (by simpa using hd') ht' hm' (by rw [hf];exact hnx) (hfr.snoc hr) (by simpa using hrun);rw [List.append_assoc] at g2 g3 g4 g6;refine ⟨r::ext,l',m',n',hok g0,by simp [g1],g2,g3,g4,g5,fun i o' hi=>?_⟩
    cases i with
    | zero =>
      simp only [List.getElem?_cons_zero,Option.some.injEq] at hi;subst hi;refine ⟨r,ch,hch,by simp,?_⟩;rw [Nat.add_zero,fold_lt,List.take_left']
      ·exact hrec g0
      ·rfl
    | succ i =>
      obtain ⟨r',ch',k1,k2,k3⟩:=g6 i o' (by simpa using hi);rw [List.length_append,List.length_singleton,show rs.length+1+i=rs.length+(i+1) by omega] at k2 k3;exact ⟨r',ch',k1,by simpa using k2,by simpa using k3⟩
   have light:∀ (v:AV) (ch:CH) (W:Bool),ChOk P GT ch→(W=false→wantA ⟨ops⟩ o (tmL l)=some false∧v=.g undef)→(W=true→wantA ⟨ops⟩ o (tmL l)=some true∧∃ av,evOne P GT ch [] .e n (tmL l) o=some (.val av,.e,n)∧av.getD (.g undef)=v) →
    RecOk P GT ch E.rd ⟨ops⟩ (befs ops []) rs rs.length o (foldS (fun _=>true) 0 rs s0) ⟨o.dst,v,W,[],.e,.e,n,n,[],fun _=>false,false⟩:=by
    intro v ch W _ hw0 hw1;refine ⟨rfl,hn.symm,Nat.le_refl _,?_,fun b x hb=>by simp [Tri.get_e] at hb,fun b hb=>by simp at hb,fun b x hb=>by simp [getR,Tri.get_e] at hb,fun b x hb=>by simp [Tri.get_e] at hb,fun b hb=>by simp at hb,fun b hb=>by simp at hb,fun b x hb=>by simp [Tri.get_e] at hb,fun i q hq=>.inr ⟨fun b hb=>by simp at hb,fun b hb=>by simp at hb⟩,fun _=>⟨rfl,Nat.le_refl _⟩⟩
    cases W with
    | false=>obtain ⟨h1,rfl⟩:=hw0 rfl;exact .inl ⟨rfl,hwant.trans h1,rfl,rfl,rfl,rfl⟩
    | true =>
      obtain ⟨h1,av,h2,h3⟩:=hw1 rfl;exact .inr ⟨rfl,hwant.trans h1,av,by rw [evOne_congr fun t _=>hget t];exact h2,h3.symm⟩
   unfold runD at h
   split at h
   ·rename_i hw
    have hw':=wantL_ok (o:=o) hw
    split at h
    ·rename_i f args hc
     obtain ⟨v,hp,h⟩:=h;obtain ⟨ch,hch,hca⟩:=hp.ok;have he:evOne P GT ch [] .e n (tmL l) o=some (.val (some v),.e,n):=by
      unfold callL at hc
      split at hc
      ·rename_i c hop
       split at hc
       ·rename_i x hx
        unfold evOne;rw [evL_eq,hop];simp only [hx,hc,hca]
       ·cases hc
      ·cases hc
     exact more v m n _ ⟨[],[],n,n⟩ ok ch hch ⟨rfl,fun b hb=>by simp at hb,rfl,rfl⟩ rfl rfl rfl (fun b=>by simp [Tri.get_e]) (fun _=>light v ch true hch (fun h=>by cases h) (fun _=>⟨hw',some v,he,rfl⟩)) (fun h=>h) h
    ·split at h
     ·rename_i v m2 n2 hst
      split at h
      ·rename_i W U hf
       obtain ⟨av,mt,he,hv,hle,hmem,hids,hwm,hwu⟩:=local_of hf hst;refine more v m2 n2 ⟨o.dst,v,true,memL (restrL m U)::E.rd,memL (restrL m W),mt,n,n2,W,fun b=>(U++W).contains b,true⟩ ⟨W,U,n,n2⟩ _ noCH noCH_ok ⟨rfl,fun b hb=>List.contains_iff_mem.1 hb,rfl,rfl⟩ rfl rfl rfl (fun b=>?_) (fun hok2=>?_) (fun hok2=>?_) h
       ·rw [hmem b]
        by_cases hb:b∈W
        ·rw [if_pos (List.contains_iff_mem.2 hb),if_pos hb]
        ·rw [if_neg (fun e=>hb (List.contains_iff_mem.1 e)),if_neg hb]
       ·simp only [Bool.and_eq_true] at hok2
        obtain ⟨-,hlw,hokd⟩:=hok2;refine ⟨rfl,hn.symm,hle,.inr ⟨rfl,hwant.trans hw',av,by rw [evOne_congr fun t _=>hget t];exact he,hv.symm⟩,fun b x hb=>?_,fun b hb=>?_,fun b x hb=>?_,fun b x hb hr=>?_,fun b hb=>?_,fun b hb=>?_,fun b x hb=>hids b x hb,fun i q hq=>?_,fun h=>by cases h⟩
        ·rw [memL_get,getL_restr] at hb
         split at hb
         ·rename_i hbw;exact ⟨List.contains_iff_mem.1 hbw,(hm b).trans hb⟩
         ·cases hb
        ·obtain ⟨x,hx⟩:=hwm b hb
         exact ⟨x,by rw [memL_get,getL_restr,if_pos (List.contains_iff_mem.2 hb)];exact hx⟩
        ·rw [getR_cons,memL_get,getL_restr] at hb
         by_cases hbw:W.contains b=true
         ·rw [if_pos hbw] at hb
          cases hg:getL m b with
          | none =>
            obtain ⟨y,hy⟩:=hwm b (List.contains_iff_mem.1 hbw);rw [hg] at hy;cases hy
          | some y =>
            rw [hg,Option.some_or] at hb
            cases hb
            exact .inl ⟨List.contains_iff_mem.2 (List.mem_append.2 (.inr (List.contains_iff_mem.1 hbw))),getR_of_cur ((hm b).trans hg)⟩
         ·rw [if_neg hbw,Option.none_or,getR_cons,memL_get,getL_restr] at hb
          by_cases hbu:U.contains b=true
          ·rw [if_pos hbu] at hb
           cases hg:getL m b with
           | none=>rw [hg,Option.none_or] at hb;exact .inr hb
           | some y =>
             rw [hg,Option.some_or] at hb
             cases hb
             exact .inl ⟨List.contains_iff_mem.2 (List.mem_append.2 (.inl (List.contains_iff_mem.1 hbu))),getR_of_cur ((hm b).trans hg)⟩
          ·rw [if_neg hbu,Option.none_or] at hb;exact .inr hb
        ·rw [memL_get,getL_restr] at hb
         split at hb
         ·rename_i hbw
          rw [getR_cons,memL_get,getL_restr,if_neg (fun e=>hwu b (List.contains_iff_mem.1 hbw) (List.contains_iff_mem.1 e)),Option.none_or];exact hr
         ·cases hb
        ·simp only [lowD,List.all_eq_true] at hlw
         exact Nat.le_of_ble_eq_true (hlw b (List.contains_iff_mem.1 hb))
        ·exact List.contains_iff_mem.2 (List.mem_append.2 (.inr hb))
        ·obtain ⟨p,hp,hpr⟩:=hfr.2 i q hq
         have:=okD_get hokd i p hp;rw [Nat.zero_add] at this;refine this.imp id fun h1=>?_;obtain ⟨h2,h3⟩:=freeFP_spec h1;rw [hpr.W,hpr.n,hpr.n'];refine ⟨fun b hb=>h2 b (List.contains_iff_mem.1 hb),fun b hb=>?_⟩
         cases hu:q.U b with
         | false=>rfl
         | true=>exact absurd (hpr.U b hu) (h3 b hb)
       ·simp only [Bool.and_eq_true] at hok2;exact hok2.1
      ·exact h.elim
     ·exact h.elim
   ·rename_i hw
    have hw':=wantL_ok (o:=o) hw;exact more (.g undef) m n _ ⟨[],[],n,n⟩ ok noCH noCH_ok ⟨rfl,fun b hb=>by simp at hb,rfl,rfl⟩ rfl rfl rfl (fun b=>by simp [Tri.get_e]) (fun _=>light (.g undef) noCH false noCH_ok (fun _=>⟨hw',rfl⟩) (fun h=>by cases h)) (fun h=>h) h
   ·exact h.elim
theorem W.regionD {id:Nat} (hmix:P.follows .mixedOrders=true) (hst:statOk ⟨ops⟩=true) (h:runD P GT E ops ops 0 true [] l m n Q):W P GT E (.region id ⟨ops⟩ true) (stL l m n) Q:=by
 intro base D w1 G1 w G a _ hs ht hd;obtain ⟨recs,l',m',n',-,h1,h3,h3m,h3n,h4,h5⟩:=runD_recs (s0:=stL l m n) ops l m n [] [] true (by simp) (fun t=>by show (tmL l).get t=_;rw [tmL_get]) (memEq m) rfl ⟨rfl,fun i r hi=>by simp at hi⟩ h;simp only [List.nil_append,List.length_nil,Nat.zero_add] at h1 h3 h3m h3n h5;refine wp_region_any hmix ?_;have hs':Stp base GT allF E.rd (stL l m n).cur n w G (stL l m n).cur n { w with drawn:=w.drawn+1 } G:=Stp.world hs.mr rfl rfl rfl (Nat.le_refl _) fun _ _=>rfl
 have:=recs_sound (P:=P) (GT:=GT) (ops:=⟨ops⟩) (base:=base) (F:=allF) (D:=D) (s0:=stL l m n) (a0:=a) (w0:={ w with drawn:=w.drawn+1 }) (G0:=G) hst h1 rfl
  (fun j o ho=>by
    obtain ⟨r,ch,k1,k2,k3⟩:=h5 j o (by simpa using ho)
    exact ⟨r,ch,k1,k2,k3⟩) hs'.mr (TmR.mono hs'.ext ht) hd (fun _ _ _=>trivial)
 refine wpAny_mono (fun e a2 w2 h6=>?_) _ _ _ _ this;obtain ⟨G',g1,g2,g3,g4⟩:=h6;refine ⟨.nrm,stL l' m' n',G',g1,?_,fun hp=>?_,g4,h4⟩
 ·have g5:=Stp.trans hs (Stp.trans hs' g2)
  rw [h3n] at g5;exact stp_mem g5 fun b=>by rw [h3m b];exact memL_get _ _
 ·refine tmR_ext (g3 hp) fun t=>?_
  rw [tmL_get,h3]
def AtCallD (P:Program) (GT:GTab) (E:Beg) (ops:List Oper) (f:FuncId) (args:List AV) (dst:Option Tmp) (os:List Oper) (j:Nat) (ok:Bool) (fps:List FP) (l:List AV) (m:ML) (n:Nat) (Q:AX→St→Prop):Prop :=
 ∃ a,PureN P GT f args a∧runD P GT E ops os (j+1) ok (fps++[⟨[],[],n,n⟩]) (setO l dst a) m n Q
def footD (P:Program) (GT:GTab) (E:Beg) (ops:List Oper) (r:Option (List Nat×List Nat)) (v:AV) (m':ML) (n':Nat) (dst:Option Tmp) (os:List Oper) (j:Nat) (ok:Bool) (fps:List FP) (l:List AV) (n:Nat) (Q:AX→St→Prop):Prop:=match r with
 | some (W,U)=>runD P GT E ops os (j+1) (ok&&(lowD n W U&&okD (befs ops []) j W U 0 fps)) (fps++[⟨W,U,n,n'⟩]) (setO l dst v) m' n' Q
 | none=>False
def nextD (P:Program) (GT:GTab) (E:Beg) (ops:List Oper) (r:Option (AV×ML×Nat)) (op:Op) (dst:Option Tmp) (os:List Oper) (j:Nat) (ok:Bool) (fps:List FP) (l:List AV) (n:Nat) (Q:AX→St→Prop):Prop:=match r with
 | some (v,m',n')=>footD P GT E ops (footO GT l op) v m' n' dst os j ok fps l n Q
 | none=>False
def callD (P:Program) (GT:GTab) (E:Beg) (ops:List Oper) (r:Option (FuncId×List AV)) (op:Op) (dst:Option Tmp) (os:List Oper) (j:Nat) (ok:Bool) (fps:List FP) (l:List AV) (m:ML) (n:Nat) (Q:AX→St→Prop):Prop:=match r with
 | some (f,args)=>AtCallD P GT E ops f args dst os j ok fps l m n Q
 | none=>nextD P GT E ops (stepO P GT E.rd m n l op) op dst os j ok fps l n Q
def wantD (P:Program) (GT:GTab) (E:Beg) (ops:List Oper) (r:Option Bool) (op:Op) (dst:Option Tmp) (os:List Oper) (j:Nat) (ok:Bool) (fps:List FP) (l:List AV) (m:ML) (n:Nat) (Q:AX→St→Prop):Prop:=match r with
 | some true=>callD P GT E ops (callL GT l op) op dst os j ok fps l m n Q
 | some false=>runD P GT E ops os (j+1) ok (fps++[⟨[],[],n,n⟩]) (setO l dst (.g undef)) m n Q
 | none=>False
variable {dst:Option Tmp} {op:Op} {o:Oper} {j:Nat} {ok:Bool} {fps:List FP} {v:AV} {W U:List Nat}
theorem runD_nil:runD P GT E ops [] j ok fps l m n Q=(ok=true∧Q .nrm (stL l m n)):=Eq.trans rfl rfl
theorem runD_cons:runD P GT E ops (o::os) j ok fps l m n Q=wantD P GT E ops (wantL ops l o.guard) o.op o.dst os j ok fps l m n Q:=by
 show (match wantL ops l o.guard with | some true=>_ | some false=>_ | none=>_)=_;unfold wantD
 split
 ·unfold callD AtCallD nextD footD
  rfl
 ·rfl
 ·rfl
theorem wantD_true:wantD P GT E ops (some true) op dst os j ok fps l m n Q=callD P GT E ops (callL GT l op) op dst os j ok fps l m n Q:=Eq.trans rfl rfl
theorem wantD_false:wantD P GT E ops (some false) op dst os j ok fps l m n Q=runD P GT E ops os (j+1) ok (fps++[⟨[],[],n,n⟩]) (setO l dst (.g undef)) m n Q:=Eq.trans rfl rfl
theorem callD_none:callD P GT E ops none op dst os j ok fps l m n Q=nextD P GT E ops (stepO P GT E.rd m n l op) op dst os j ok fps l n Q:=Eq.trans rfl rfl
theorem callD_some {f:FuncId} {args:List AV}:callD P GT E ops (some (f,args)) op dst os j ok fps l m n Q=AtCallD P GT E ops f args dst os j ok fps l m n Q:=Eq.trans rfl rfl
theorem nextD_some:nextD P GT E ops (some (v,m',n')) op dst os j ok fps l n Q=footD P GT E ops (footO GT l op) v m' n' dst os j ok fps l n Q:=Eq.trans rfl rfl
theorem footD_some:footD P GT E ops (some (W,U)) v m' n' dst os j ok fps l n Q=runD P GT E ops os (j+1) (ok&&(lowD n W U&&okD (befs ops []) j W U 0 fps)) (fps++[⟨W,U,n,n'⟩]) (setO l dst v) m' n' Q:=Eq.trans rfl rfl
theorem AtCallD.mk {f:FuncId} {args:List AV} {a:AV} (h:PureN P GT f args a) (k:runD P GT E ops os (j+1) ok (fps++[⟨[],[],n,n⟩]) (setO l dst a) m n Q):AtCallD P GT E ops f args dst os j ok fps l m n Q:=⟨a,h,k⟩
end
attribute [go_sem] runD_nil runD_cons wantD_true wantD_false callD_none callD_some nextD_some footD_some footO idOf
theorem W.regionA {P:Program} {GT:GTab} {E:Beg} {id:Nat} {ops:Array Oper} {l:List AV} {m:ML} {n:Nat} {Q:AX→St→Prop} (h:runL P GT E ops.toList ops.toList l m n Q):W P GT E (.region id ops false) (stL l m n) Q:=W.region h
theorem W.regionQA {P:Program} {GT:GTab} {E:Beg} {id:Nat} {ops:Array Oper} {l:List AV} {m:ML} {n:Nat} {Q:AX→St→Prop} (hmix:P.follows .mixedOrders=true) (hst:statOk ops=true) (h:runQ P GT E ops.toList ops.toList l m n Q):W P GT E (.region id ops true) (stL l m n) Q:=W.regionQ hmix hst h
theorem W.regionDA {P:Program} {GT:GTab} {E:Beg} {id:Nat} {ops:Array Oper} {l:List AV} {m:ML} {n:Nat} {Q:AX→St→Prop} (hmix:P.follows .mixedOrders=true) (hst:statOk ops=true) (h:runD P GT E ops.toList ops.toList 0 true [] l m n Q):W P GT E (.region id ops true) (stL l m n) Q:=W.regionD hmix hst h
theorem beq_ft:(false==true)=false:=by decide
theorem beq_tf:(true==false)=false:=by decide
theorem beq_tt:(true==true)=true:=by decide
theorem beq_ff:(false==false)=true:=by decide
attribute [go_sem] beq_ft beq_tf beq_tt beq_ff
theorem getR_nil {b:Nat}:getR [] b=none:=Eq.trans rfl rfl
theorem postP_pl2 {P:Program} {l:List AV} {m:ML} {n:Nat} {r1 r2:ResultVar} {v1 v2:AV} (x:AX) (hx:x=.nrm∨x=.ret) (h1:resV P l m r1=some v1) (h2:resV P l m r2=some v2) (p1:plainA v1=true) (p2:plainA v2=true):postP P [r1,r2] (.tup [v1,v2]) x (stL l m n):=postP_two x hx h1 h2 (.plain p1) (.plain p2)
def exitW {ι:Type} (GT:GTab) (E:Beg) (id:Nat) (I:ι→Prop) (S:ι→St):AX→St→Prop:=fun x s=>x=.exit id∧∃ i,I i∧VS GT E s (S i)
theorem W.after {ι:Type} {P:Program} {GT:GTab} {E:Beg} {c:Code} {s:St} {Q:AX→St→Prop} (id:Nat) (I:ι→Prop) (S:ι→St) (h:W P GT E c s (exitW GT E id I S)) (k:∀ i s',I i→VS GT E s' (S i)→Q (.exit id) s'):W P GT E c s Q:=by
 refine h.mono ?_;rintro x s' ⟨rfl,i,hi,hv⟩;exact k i s' hi hv
def bldO (P:Program) (t:TypeId):Option (List AV×List (Nat×Nat)):=match (P.info? t).bind (·.zero),P.underlying t with
 | some z,some (.struct fs)=>match placesA P fs.toList with
   | some ps=>some (z.cells.toList.map .g,ps)
   | none=>none
 | _,_=>none
def fillL (ps:List (Nat×Nat)) (cells:List AV):List (Nat×AV)→Option (List AV)
 | []=>some cells
 | (i,v)::rest=>match ps[i]?,cellsA v with
   | some (off,size),some pc=>if pc.length=size∧off+pc.length≤cells.length then fillL ps (putA cells off pc) rest else none
   | _,_=>none
theorem fillL_eq (ps:List (Nat×Nat)):∀ (parts:List (Nat×AV)) (cells:List AV),fillA (ps[·]?) cells parts=fillL ps cells parts
 | [],_=>rfl
 | (i, v)::rest,cells=>by
   rw [fillA,fillL]
   cases ps[i]? with
   | none=>rfl
   | some p =>
     cases cellsA v with
     | none=>rfl
     | some pc =>
       simp only
       split
       ·exact fillL_eq ps rest _
       ·rfl
def aggM:Option (List AV)→Option AV
 | some l=>some (.agg l)
 | none=>none
theorem evBuild_eq {P:Program} {t:TypeId} {zs:List AV} {ps:List (Nat×Nat)} (h:bldO P t=some (zs,ps)) (parts:List (Nat×AV)):evBuild P t parts=aggM (fillL ps zs parts):=by
 unfold bldO at h;unfold evBuild
 split at h
 ·rename_i z fs h1 h2
  split at h
  ·rename_i ps' h3
   cases h
   simp only [h1,h2,h3,fillL_eq]
   cases fillL ps (z.cells.toList.map .g) parts <;> rfl
  ·cases h
 ·cases h
def rowsL (sz:Nat) (cells:List AV):List (Nat×AV)→Option (List AV)
 | []=>some cells
 | (i,v)::rest=>match cellsA v with
   | some pc=>if pc.length=sz∧i*sz+pc.length≤cells.length then rowsL sz (putA cells (i*sz) pc) rest else none
   | none=>none
theorem rowsL_eq (sz:Nat):∀ (parts:List (Nat×AV)) (cells:List AV),fillA (fun k=>some (k*sz,sz)) cells parts=rowsL sz cells parts
 | [],_=>rfl
 | (i,v)::rest,cells=>by
   rw [fillA,rowsL]
   cases cellsA v with
   | none=>rfl
   | some pc =>
     simp only
     split
     ·exact rowsL_eq sz rest _
     ·rfl
section
variable {m:ML}
theorem SealTo.agg {cs:List AV} (h:∀ a∈cs,plainA a=true):SealTo m (.agg cs) (.agg cs):=by
 refine ⟨cs.length+3,?_⟩;show (match sealV.sealL (memL m) (cs.length+2) cs with | some l=>some (AV.agg l) | none=>none)=_;rw [sealL_plain h (cs.length+1) (memL m) (by omega)]
theorem isCell_int {k:IntKind} {i:Int}:isCell (.g (.int k i))=true:=Eq.trans rfl rfl
theorem isCell_str {s:ByteArray}:isCell (.g (.string s))=true:=Eq.trans rfl rfl
theorem isCell_bool {b:Bool}:isCell (.g (.bool b))=true:=Eq.trans rfl rfl
theorem isCell_slice {a:Option Addr} {n c:Nat}:isCell (.g (.slice a n c))=true:=Eq.trans rfl rfl
theorem isCell_gptr {a:Option Addr}:isCell (.g (.pointer a))=true:=Eq.trans rfl rfl
theorem isCell_sl {n sz:Nat} {cs:List AV}:isCell (.sl n sz cs)=true:=Eq.trans rfl rfl
theorem isCell_gs {b o n sz k:Nat}:isCell (.gs b o n sz k)=true:=Eq.trans rfl rfl
theorem isCell_z0:isCell .z0=true:=Eq.trans rfl rfl
theorem isCell_ptr {b o:Nat}:isCell (.ptr b o)=true:=Eq.trans rfl rfl
theorem isCell_ept {cs:List AV} {o:Nat}:isCell (.ept cs o)=true:=Eq.trans rfl rfl
theorem isCell_fn {f:Fn} {x y:List AV}:isCell (.fn f x y)=true:=Eq.trans rfl rfl
theorem isCell_mp {b:Nat}:isCell (.mp b)=true:=Eq.trans rfl rfl
theorem cellsA_agg {cs:List AV}:cellsA (.agg cs)=if cs.all isCell then some cs else none:=rfl
theorem cellsA_g {v:Value}:cellsA (.g v)=if isCell (.g v) then some [.g v] else none:=rfl
theorem cellsA_sl {n sz:Nat} {cs:List AV}:cellsA (.sl n sz cs)=some [.sl n sz cs]:=rfl
theorem cellsA_gs {b o n sz k:Nat}:cellsA (.gs b o n sz k)=some [.gs b o n sz k]:=rfl
theorem cellsA_z0:cellsA .z0=some [.z0]:=rfl
theorem cellsA_ptr {b o:Nat}:cellsA (.ptr b o)=some [.ptr b o]:=rfl
theorem cellsA_ept {cs:List AV} {o:Nat}:cellsA (.ept cs o)=some [.ept cs o]:=rfl
theorem cellsA_fn {f:Fn} {x y:List AV}:cellsA (.fn f x y)=some [.fn f x y]:=rfl
theorem cellsA_mp {b:Nat}:cellsA (.mp b)=some [.mp b]:=rfl
end
section
variable {n1:Nat} {q:Ren}
theorem reL_cons {a b:AV} {as bs:List AV}:reL n1 q (a::as) (b::bs)=(reA n1 q a b∧reL n1 q as bs):=by
 rw [reL];refine propext ⟨fun h=>?_,fun h=>⟨b,bs,rfl,h.1,h.2⟩⟩;obtain ⟨_,_,e,h1,h2⟩:=h
 cases e
 exact ⟨h1,h2⟩
theorem reL_nil:reL n1 q [] []=True:=by rw [reL];simp
theorem reA_any {b:AV}:reA n1 q .any b=True:=by rw [reA]
theorem reA_g {v v':Value}:reA n1 q (.g v) (.g v')=(v'=v):=by rw [reA];simp
theorem reA_sl {n sz:Nat} {cs:List AV}:reA n1 q (.sl n sz cs) (.sl n sz cs)=True:=by rw [reA];simp
theorem reA_ept {o:Nat} {cs:List AV}:reA n1 q (.ept cs o) (.ept cs o)=True:=by rw [reA];simp
theorem reA_z0:reA n1 q .z0 .z0=True:=by rw [reA];simp
theorem reA_ptr {c b o:Nat}:reA n1 q (.ptr c o) (.ptr b o)=(lkE n1 q c=some b):=by rw [reA];simp
theorem reA_gs {c b o n sz k k':Nat}:reA n1 q (.gs c o n sz k) (.gs b o n sz k')=(lkE n1 q c=some b∧n≤k∧k≤k'):=by
 rw [reA];refine propext ⟨fun h=>?_,fun h=>⟨b,k',rfl,h⟩⟩;obtain ⟨_,_,e,h⟩:=h
 cases e
 exact h
theorem reA_mp {c b:Nat}:reA n1 q (.mp c) (.mp b)=(lkE n1 q c=some b):=by rw [reA];simp
theorem reA_fn {f:Fn} {x y x' y':List AV}:reA n1 q (.fn f x y) (.fn f x' y')=(reL n1 q x x'∧reL n1 q y y'):=by
 rw [reA];refine propext ⟨fun h=>?_,fun h=>⟨x',y',rfl,h⟩⟩;obtain ⟨_,_,e,h⟩:=h
 cases e
 exact h
theorem reA_agg {x x':List AV}:reA n1 q (.agg x) (.agg x')=reL n1 q x x':=by rw [reA];simp
theorem reA_tup {x x':List AV}:reA n1 q (.tup x) (.tup x')=reL n1 q x x':=by rw [reA];simp
theorem lkE_zero {c:Nat}:lkE 0 q c=lk q c:=by rw [lkE,if_neg (Nat.not_lt_zero c)]
theorem lk_cons {d b c:Nat}:lk ((d,b)::q) c=if d=c then some b else lk q c:=Eq.trans rfl rfl
theorem leL_cons {a b:AV} {as bs:List AV}:leL (a::as) (b::bs)=((b=.any∨a=b)∧leL as bs):=Eq.trans rfl rfl
theorem leL_nil:leL [] []=True:=rfl
end
theorem evSlice_sl {P:Program} {ms:List Mem} {t:TypeId} {n sz:Nat} {cs:List AV} {lo hi:Option AV} (he:elemO P t=some sz):evSlice P ms t (.sl n sz cs) lo hi none=(match evInt hi n,evInt lo 0 with
 | some h,some l=>if h≤n∧l≤h then some (.sl (h - l) sz ((cs.drop (l*sz)).take ((h - l)*sz))) else none
 | _,_=>none):=by
 obtain ⟨e,i,hu,hi,rfl⟩:=elemO_some he;simp only [evSlice,hu,hi,if_true]
 rfl
theorem evSlice_gs {P:Program} {ms:List Mem} {t:TypeId} {b o n sz k:Nat} {lo hi:Option AV} (he:elemO P t=some sz):evSlice P ms t (.gs b o n sz k) lo hi none=(match evInt hi n,evInt lo 0 with
 | some h,some l=>if h≤n∧l≤h then some (.gs b (o+l*sz) (h - l) sz (k - l)) else none
 | _,_=>none):=by
 obtain ⟨e,i,hu,hi,rfl⟩:=elemO_some he;simp only [evSlice,hu,hi,if_true]
 rfl
attribute [go_sem] evSlice_sl evSlice_gs rowsL_eq buildSl
attribute [go_sem] reL_cons reL_nil reA_any reA_g reA_sl reA_ept reA_z0 reA_ptr reA_gs reA_mp reA_fn reA_agg reA_tup lkE_zero lk_cons leL_cons leL_nil
attribute [go_sem] fillL rowsL aggM isCell_int isCell_str isCell_bool isCell_slice isCell_gptr isCell_sl isCell_gs isCell_z0 isCell_ptr isCell_ept isCell_fn isCell_mp cellsA_agg cellsA_g cellsA_sl cellsA_gs cellsA_z0 cellsA_ptr cellsA_ept cellsA_fn cellsA_mp toGs toG putA
def loopW (P:Program) (GT:GTab) (E:Beg) (c:Code) (l:List AV) (m:ML) (n:Nat) (Q:AX→St→Prop):Prop:=W P GT E (.loop c) (stL l m n) Q
def drawK (P:Program) (ops:Array Oper):Prop:=P.follows .mixedOrders=true∧statOk ops=true
theorem drawn {P:Program} {ops:Array Oper} {X:Prop} (h:P.follows .mixedOrders=true) (k:statOk ops=true) (x:X):drawK P ops∧X:=⟨⟨h,k⟩,x⟩
def stepW (P:Program) (GT:GTab) (E:Beg) (b:Bool):Code→List AV→ML→Nat→(AX→St→Prop)→Prop
 | .seq p q,l,m,n,Q=>stepW P GT E b p l m n (thenW P GT E q Q)
 | .block i p,l,m,n,Q=>stepW P GT E b p l m n (blkW i Q)
 | .scope p,l,m,n,Q=>stepW P GT E b p l m n (scopeW Q)
 | .skip,l,m,n,Q=>Q .nrm (stL l m n)
 | .label _,l,m,n,Q=>Q .nrm (stL l m n)
 | .exit i,l,m,n,Q=>Q (.exit i) (stL l m n)
 | .ret,l,m,n,Q=>Q .ret (stL l m n)
 | .cond o p q,l,m,n,Q=>condK P GT E (evL GT l o) p q (stL l m n) Q
 | .region _ ops false,l,m,n,Q=>runL P GT E ops.toList ops.toList l m n Q
 | .region _ ops true,l,m,n,Q=>drawK P ops∧(if b=true then runD P GT E ops.toList ops.toList 0 true [] l m n Q else runQ P GT E ops.toList ops.toList l m n Q)
 | .loop c,l,m,n,Q=>loopW P GT E c l m n Q
 | _,_,_,_,_=>False
section
variable {P:Program} {GT:GTab} {E:Beg} {b:Bool} {l:List AV} {m:ML} {n:Nat} {p q:Code} {Q:AX→St→Prop} {i:Nat} {ops:Array Oper} {o:Operand}
theorem stepW_seq:stepW P GT E b (.seq p q) l m n Q=stepW P GT E b p l m n (thenW P GT E q Q):=Eq.trans rfl rfl
theorem stepW_block:stepW P GT E b (.block i p) l m n Q=stepW P GT E b p l m n (blkW i Q):=Eq.trans rfl rfl
theorem stepW_scope:stepW P GT E b (.scope p) l m n Q=stepW P GT E b p l m n (scopeW Q):=Eq.trans rfl rfl
theorem stepW_skip:stepW P GT E b .skip l m n Q=Q .nrm (stL l m n):=Eq.trans rfl rfl
theorem stepW_label:stepW P GT E b (.label i) l m n Q=Q .nrm (stL l m n):=Eq.trans rfl rfl
theorem stepW_exit:stepW P GT E b (.exit i) l m n Q=Q (.exit i) (stL l m n):=Eq.trans rfl rfl
theorem stepW_ret:stepW P GT E b .ret l m n Q=Q .ret (stL l m n):=Eq.trans rfl rfl
theorem stepW_cond:stepW P GT E b (.cond o p q) l m n Q=condK P GT E (evL GT l o) p q (stL l m n) Q:=Eq.trans rfl rfl
theorem stepW_plain:stepW P GT E b (.region i ops false) l m n Q=runL P GT E ops.toList ops.toList l m n Q:=Eq.trans rfl rfl
theorem stepW_quiet:stepW P GT E false (.region i ops true) l m n Q=(drawK P ops∧runQ P GT E ops.toList ops.toList l m n Q):=Eq.trans rfl rfl
theorem stepW_drawn:stepW P GT E true (.region i ops true) l m n Q=(drawK P ops∧runD P GT E ops.toList ops.toList 0 true [] l m n Q):=Eq.trans rfl rfl
theorem stepW_loop:stepW P GT E b (.loop p) l m n Q=loopW P GT E p l m n Q:=Eq.trans rfl rfl
theorem W.step:∀ {c:Code} {l:List AV} {m:ML} {n:Nat} {Q:AX→St→Prop},stepW P GT E b c l m n Q→W P GT E c (stL l m n) Q
 | .seq _ _,_,_,_,_,h=>W.seq (W.step (c:=_) h)
 | .block _ _,_,_,_,_,h=>W.block (W.step h)
 | .scope _,_,_,_,_,h=>W.scope (W.step h)
 | .skip,_,_,_,_,h=>W.skip h
 | .label _,_,_,_,_,h=>W.label h
 | .exit _,_,_,_,_,h=>W.exit h
 | .ret,_,_,_,_,h=>W.ret h
 | .cond _ _ _,_,_,_,_,h=>W.condL h
 | .region _ _ false,_,_,_,_,h=>W.regionA h
 | .region _ _ true,_,_,_,_,h=>by
   obtain ⟨⟨h1,h2⟩,h3⟩:=h
   cases b
   ·exact W.regionQA h1 h2 h3
   ·exact W.regionDA h1 h2 h3
 | .loop _,_,_,_,_,h=>h
 | .rangeFunc _ _ _ _,_,_,_,_,h=>h.elim
 | .goto _,_,_,_,_,h=>h.elim
end
attribute [go_sem] stepW_seq stepW_block stepW_scope stepW_skip stepW_label stepW_exit stepW_ret stepW_cond stepW_plain stepW_quiet stepW_drawn stepW_loop
end Go.Ev
end
