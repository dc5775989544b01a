/- Walks over known shapes: a call's contract over few blocks, used at a caller's blocks. Of no program. -/
import Derived.Test.YtabliahkhafddaaGreatPc6
set_option linter.unusedSimpArgs false
noncomputable section
namespace Go.Ev
open Go.RowKit
structure FP where
 W:List Nat
 U:List Nat
 n:Nat
 n':Nat
def appF:List Nat→List Nat→Option (List Nat×List Nat)
 | [],U=>some ([],U)
 | [b],[]=>some ([b],[])
 | [b],[c]=>if b=c then none else some ([b],[c])
 | _,_=>none
def footO (GT:GTab) (l:List AV):Op→Option (List Nat×List Nat)
 | .move _ | .assign _ | .pick _ _ _ | .binOp _ _ _ _ _ | .unOp _ _ _ | .fieldAddr _ _ _ | .field _ _ _ | .indexAddr _ _ _ | .index _ _ _ | .extract _ _ | .nilCheck _ | .makeFunc _ _ _ | .build _ _ | .alloc _ | .box _ _ | .buildSlice _ _ _=>some ([],[])
 | .load _ a=>some ([],idOf (evL GT l a))
 | .slice _ x _ _ _=>some ([],idOf (evL GT l x))
 | .lookup _ x _ _=>some ([],idOf (evL GT l x))
 | .mapUpdate _ x _ _ | .mapEntry _ x _ | .entryStore _ x _ _=>some (idOf (evL GT l x),[])
 | .makeMap _ none=>some ([],[])
 | .makeSlice _ _ _=>some ([],[])
 | .store _ a _=>some (idOf (evL GT l a),[])
 | .call c=>match c.callee,c.args with
   | .builtin .len,_=>some ([],[])
   | .builtin .append,⟨[s,x]⟩=>appF (idOf (evL GT l s)) (idOf (evL GT l x))
   | _,_=>none
 | _=>none
def freeFP (q:FP) (W U:List Nat):Bool:=(U++W).all (fun b=>!q.W.contains b&&!(Nat.ble q.n b&&Nat.blt b q.n'))&&W.all (fun b=>!(q.U++q.W).contains b)
def okD (B:List Nat) (j:Nat) (W U:List Nat):Nat→List FP→Bool
 | _,[]=>true
 | i,q::qs=>(bef B j i||freeFP q W U)&&okD B j W U (i+1) qs
def lowD (n:Nat) (W U:List Nat):Bool:=(U++W).all fun b=>Nat.blt b n
def restrL (m:ML) (W:List Nat):ML:=m.filter fun p=>W.contains p.1
def CallD (P:Program) (GT:GTab) (rd:List Mem) (m:ML) (n:Nat) (f:FuncId) (args:List AV) (W:List Nat) (a:AV) (m':ML) (n':Nat):Prop :=
 n ≤ n'∧(∃ fn,P.funcs[f]?=some fn∧(fn.name == "runtime.NumGoroutine")=false∧fn.body.isNone=false)∧(∀ b∈W,∃ x,getL m b=some x) ∧
   ∃ mt:Mem,ATri P GT f args (.e::rd) (memL (restrL m W)) n (.ret a) mt n'∧(∀ b,getL m' b=(mt.get b).or (if W.contains b then none else getL m b))∧(∀ b x,mt.get b=some x→b∈W∨(n≤b∧b<n'))
def runD (P:Program) (GT:GTab) (E:Beg) (ops:List Oper):List Oper→Nat→Bool→List FP→List AV→ML→Nat→(AX→St→Prop)→Prop
 | [],_,ok,_,l,m,n,Q=>ok=true∧Q .nrm (stL l m n)
 | o :: os,j,ok,fps,l,m,n,Q=>match wantL ops l o.guard with
   | some true=>match callL GT l o.op with
     | some (f,args)=>(∃ a,PureN P GT f args a∧runD P GT E ops os (j+1) ok (fps++[⟨[],[],n,n⟩]) (setO l o.dst a) m n Q) ∨
        (∃ (a:AV) (W:List Nat) (m':ML) (n':Nat),CallD P GT E.rd m n f args W a m' n'∧runD P GT E ops os (j+1) (ok&&(lowD n W []&&okD (befs ops []) j W [] 0 fps)) (fps++[⟨W,[],n,n'⟩]) (setO l o.dst a) m' n' Q)
     | none=>match stepO P GT E.rd m n l o.op with
       | some (v,m',n')=>match footO GT l o.op with
         | some (W,U)=>runD P GT E ops os (j+1) (ok&&(lowD n W U&&okD (befs ops []) j W U 0 fps)) (fps++[⟨W,U,n,n'⟩]) (setO l o.dst v) m' n' Q
         | none=>False
       | none=>False
   | some false=>runD P GT E ops os (j+1) ok (fps++[⟨[],[],n,n⟩]) (setO l o.dst (.g undef)) m n Q
   | none=>False
section
variable {P:Program} {GT:GTab} {E:Beg} {ops os:List Oper} {l l':List AV} {m m':ML} {n n':Nat} {Q:AX→St→Prop}
theorem Q0j (W:List Nat):∀ (m:ML) (b:Nat),getL (restrL m W) b=if W.contains b then getL m b else none
 | [],b=>by simp [restrL,getL]
 | (c,k)::m,b=>by
   have ih:=Q0j W m b
   by_cases h:W.contains c
   ·have:restrL ((c,k)::m) W=(c,k)::restrL m W:=by simp only [restrL,List.filter_cons,h,if_true]
    rw [this,getL,getL,ih]
    by_cases hc:c=b
    ·subst hc;rw [if_pos rfl,if_pos rfl,if_pos h]
    ·rw [if_neg hc,if_neg hc]
   ·have:restrL ((c,k)::m) W=restrL m W:=by simp only [restrL,List.filter_cons,h];rfl
    rw [this,getL,ih]
    by_cases hc:c=b
    ·subst hc;rw [if_pos rfl,if_neg h,if_neg h]
    ·rw [if_neg hc]
def Local (P:Program) (GT:GTab) (rd:List Mem) (m:ML) (n:Nat) (l:List AV) (o:Oper) (W U:List Nat) (v:AV) (m':ML) (n':Nat):Prop :=
 ∃ (ch:CH) (av:Option AV) (mt:Mem),ChOk P GT ch∧evOne P GT ch (memL (restrL m U)::rd) (memL (restrL m W)) n (tmL l) o=some (.val av,mt,n')∧av.getD (.g undef)=v∧n≤n' ∧
   (∀ b,getL m' b=(mt.get b).or (if W.contains b then none else getL m b))∧(∀ b x,mt.get b=some x→b∈W∨(n≤b∧b<n'))∧(∀ b∈W,∃ x,getL m b=some x)∧(∀ b∈W,b∉U)
theorem stepO_quiet_rd {rd rd':List Mem} {m2:ML} {op:Op} {v:AV} (hq:∀ t a,op≠.load t a) (hs:∀ t x lo hi mx,op≠.slice t x lo hi mx) (hlk:∀ t x k ok,op≠.lookup t x k ok) (hqo:quietOp op=true) (h:stepO P GT rd m n l op=some (v,m',n')) :
 stepO P GT rd' m2 n l op=some (v,m2,n):=by
 cases op <;> try (cases hqo;done)
 case load t a=>exact absurd rfl (hq t a)
 case slice t x lo hi mx=>exact absurd rfl (hs t x lo hi mx)
 case lookup t x k ok=>exact absurd rfl (hlk t x k ok)
 case call c =>
  obtain ⟨cal,args,ats⟩:=c;simp only [stepO] at h ⊢
  split at h
  ·split at h
   ·cases h;rfl
   ·cases h
  all_goals first
   | (cases hqo;done)
   | (cases h;done)
 case unOp op t x =>
  cases op <;> simp only [stepO] at h ⊢ <;> first
   | (cases h;done)
   | (split at h
      ·cases h;rfl
      ·cases h)
 all_goals
  simp only [stepO] at h ⊢
 all_goals first
  | (cases h;rfl)
  | (split at h
     ·cases h;rfl
     ·cases h)
  | (split at h
     ·split at h
      ·cases h;rfl
      ·cases h
     ·cases h)
  | (split at h
     ·cases h;rfl
     ·cases h;rfl
     ·cases h)
  | (split at h
     ·cases h;rfl
     ·cases h;rfl
     ·cases h;rfl
     ·cases h)
  | (split at h
     ·split at h
      ·cases h;rfl
      ·cases h
     ·split at h
      ·cases h;rfl
      ·cases h)
theorem Q1v (m:ML):restrL m []=[]:=by simp [restrL]
theorem evOne_nocall {rd:List Mem} {cur:Mem} {nx:Nat} {tm:Tm} {o:Oper} {v:Option AV} {mt:Mem} {nx':Nat} (h:evOne P GT noCH rd cur nx tm o=some (.val v,mt,nx')):∀ c x,o.op=.call c→c.callee≠.value x:=by
 intro c x hop hc;unfold evOne at h;rw [hop] at h;simp only [hc] at h
 split at h
 ·simp only [noCH] at h;cases h
 ·cases h
theorem Q2u {o:Oper} {U:List Nat} {v:AV} {rd:List Mem} (hqo:quietOp o.op=true) (h:stepO P GT rd (restrL m U) n l o.op=some (v,restrL m U,n)):Local P GT rd m n l o [] U v m n:=by
 obtain ⟨av,mt,he,hv,-⟩:=Q3b (ch:=noCH) h;obtain ⟨-,-,he2⟩:=quiet_mem hqo (evOne_nocall he) he;exact ⟨noCH,av,.e,Q2t,by rw [Q1v];exact he2,hv,Nat.le_refl _,fun b=>by simp [Tri.get_e],fun b x hb=>by simp [Tri.get_e] at hb,fun b hb=>by simp at hb,fun b hb=>by simp at hb⟩
theorem local_new {o:Oper} {v:AV} {rd:List Mem} {k:Blk} (h:stepO P GT (.e::rd) [] n l o.op=some (v,[(n,k)],n+1)):Local P GT rd m n l o [] [] v ((n,k)::m) (n+1):=by
 obtain ⟨av,mt,he,hv,hm⟩:=Q3b (ch:=noCH) h;refine ⟨noCH,av,mt,Q2t,by rw [Q1v];exact he,hv,Nat.le_succ _,fun b=>?_,fun b x hb=>?_,fun b hb=>by simp at hb,fun b hb=>by simp at hb⟩
 ·rw [hm b]
  simp only [getL,List.contains_nil,Bool.false_eq_true,if_false]
  split
  ·rfl
  ·rw [Option.none_or]
 ·rw [hm b] at hb
  simp only [getL] at hb
  split at hb
  ·rename_i h1;exact .inr ⟨by omega,by omega⟩
  ·cases hb
theorem evSlice_at {ms ms':List Mem} {t:TypeId} {x:AV} {lo hi mx:Option AV} (h:∀ b∈idOf x,getR ms b=getR ms' b):evSlice P ms t x lo hi mx=evSlice P ms' t x lo hi mx:=by
 unfold evSlice
 cases hu:P.underlying t with
 | none=>rfl
 | some d =>
   cases d
   case array k e =>
    cases mx with
    | some _=>rfl
    | none =>
      simp only
      cases hi2:P.info? e with
      | none=>rfl
      | some i =>
        cases x
        case ptr b o =>
         simp only;rw [h b (by simp [idOf])]
        all_goals rfl
   case slice e=>cases mx <;> rfl
   all_goals rfl
theorem local_set {o:Oper} {b:Nat} {v:AV} {y old:Blk} {rd:List Mem} (hg:getL m b=some old) (h:stepO P GT (.e::rd) (restrL m [b]) n l o.op=some (v,setL (restrL m [b]) b y,n)):Local P GT rd m n l o [b] [] v (setL m b y) n:=by
 have hg1:getL (restrL m [b]) b=some old:=by rw [Q0j];simp [hg]
 obtain ⟨av,mt,he,hv,hm⟩:=Q3b (ch:=noCH) h;have hmt:∀ c,mt.get c=if b=c then some y else none:=by
  intro c;rw [hm c,Q2g]
  by_cases hb:b=c
  ·subst hb;rw [if_pos rfl,if_pos rfl,hg1];rfl
  ·rw [if_neg hb,if_neg hb,Q0j,if_neg (by simpa using fun e=>hb e.symm)]
 refine ⟨noCH,av,mt,Q2t,by rw [Q1v];exact he,hv,Nat.le_refl _,fun c=>?_,fun c x hc2=>?_,fun c hc2=>?_,fun c hc2=>by simp⟩
 ·rw [hmt c,Q2g]
  by_cases hb:b=c
  ·subst hb;rw [if_pos rfl,if_pos rfl,hg];rfl
  ·rw [if_neg hb,if_neg hb,Option.none_or,if_neg (by simpa using fun e=>hb e.symm)]
 ·rw [hmt c] at hc2
  split at hc2
  ·rename_i hb;subst hb;left;simp
  ·cases hc2
 ·simp only [List.mem_singleton] at hc2
  subst hc2;exact ⟨_,hg⟩
theorem newsA_at {ms ms':List Mem} {sz:Nat} {x:AV} (h:∀ b∈idOf x,getR ms b=getR ms' b):newsA ms sz x=newsA ms' sz x:=by
 cases x
 case gs b o k z kc=>simp only [newsA,h b (by simp [idOf])]
 case g v=>unfold newsA;split <;> first | rfl | (rename_i e;cases e)
 all_goals rfl
theorem appF_eq {W U W' U':List Nat} (h:appF W U=some (W',U')):W'=W∧U'=U∧∀ b∈W,b∉U:=by
 unfold appF at h
 split at h
 ·cases h;exact ⟨rfl,rfl,by simp⟩
 ·cases h;exact ⟨rfl,rfl,by simp⟩
 ·split at h
  ·cases h
  ·rename_i hne;cases h;exact ⟨rfl,rfl,by simpa using hne⟩
 ·cases h
theorem appL_local {rd:List Mem} {t xt:TypeId} {s x v:AV} (hd:∀ b∈idOf s,b∉idOf x) (h:appL P rd m n t xt s x=some (v,m',n')) :
 ∃ mr,appL P (memL (restrL m (idOf x))::rd) (restrL m (idOf s)) n t xt s x=some (v,mr,n')∧n≤n'∧(∀ b,getL m' b=(getL mr b).or (if (idOf s).contains b then none else getL m b)) ∧
   (∀ b y,getL mr b=some y→b∈idOf s∨(n≤b∧b<n'))∧(∀ b∈idOf s,∃ y,getL m b=some y):=by
 have hnews:∀ sz,newsA (memL (restrL m (idOf s))::memL (restrL m (idOf x))::rd) sz x=newsA (memL m::rd) sz x:=fun sz=>newsA_at fun b hb=>by
  rw [Q0c,Q0c,Q0c,Q0d,Q0d,Q0d,Q0j,Q0j,if_neg (by simpa using fun e=>hd b e hb),if_pos (by simpa using hb),Option.none_or]
 have keep:∀ b,getL m b=(getL (restrL m (idOf s)) b).or (if (idOf s).contains b then none else getL m b):=by
  intro b;rw [Q0j]
  cases (idOf s).contains b <;> simp
 have inW:∀ b y,getL (restrL m (idOf s)) b=some y→b∈idOf s:=by
  intro b y hb;rw [Q0j] at hb
  split at hb
  ·rename_i h1;simpa using h1
  ·cases hb
 unfold appL at h ⊢
 split at h
 ·rename_i sz bytes h1 h2
  split at h
  ·rename_i news k hn
   simp only [hnews,hn]
   split at h
   ·rename_i hk
    rw [if_pos hk];unfold appZ at h ⊢
    split at h
    ·rename_i b o c z kc
     split at h
     ·rename_i y hy
      cases h
      have hg:getL (restrL m (idOf (.gs b o c z kc))) b=some y:=by rw [Q0j];simpa [idOf] using hy
      simp only [hg];exact ⟨_,rfl,Nat.le_refl _,keep,fun b y hb=>.inl (inW b y hb),fun b' hb=>by simp only [idOf,List.mem_singleton] at hb;subst hb;exact ⟨y,hy⟩⟩
     ·cases h
    ·rename_i hne
     split at h
     ·rename_i hs
      cases h
      have hid:idOf s=[]:=by
       cases s <;> first | rfl | (cases hs;done) | exact (hne _ _ _ _ _ rfl).elim
      refine ⟨restrL m (idOf s),?_,Nat.le_refl _,keep,fun b y hb=>.inl (inW b y hb),fun b' hb=>by rw [hid] at hb;simp at hb⟩
      split
      ·rfl
      ·rename_i hn2;exact absurd hs hn2
     ·cases h
   ·rename_i hk
    rw [if_neg hk]
    split at h
    ·rename_i hc
     rw [if_pos hc]
     split at h
     ·split at h
      ·rename_i hb;cases h
       refine ⟨_,by rw [if_pos hb],Nat.le_succ _,fun b=>?_,fun b y hb=>?_,fun b hb=>by simp [idOf] at hb⟩
       ·simp only [idOf,Q1v,getL,List.contains_nil,Bool.false_eq_true,if_false]
        split <;> simp
       ·simp only [idOf,Q1v,getL] at hb
        split at hb
        ·exact .inr (by omega)
        ·cases hb
      ·cases h
     ·split at h
      ·rename_i hb;cases h
       refine ⟨_,by rw [if_pos hb],Nat.le_succ _,fun b=>?_,fun b y hb=>?_,fun b hb=>by simp [idOf] at hb⟩
       ·simp only [idOf,Q1v,getL,List.contains_nil,Bool.false_eq_true,if_false]
        split <;> simp
       ·simp only [idOf,Q1v,getL] at hb
        split at hb
        ·exact .inr (by omega)
        ·cases hb
      ·cases h
     ·rename_i b o c z kc
      split at h
      ·rename_i bc hg hr
       have hbx:b∉idOf x:=hd b (by simp [idOf]);have hg':getL (restrL m (idOf (.gs b o c z kc))) b=some (.cells bc):=by rw [Q0j];simpa [idOf] using hg
       have hr':getR (memL (restrL m (idOf x))::rd) b=none:=by
        rw [Q0c,Q0d,Q0j,if_neg (by simpa using hbx),Option.none_or];exact hr
       simp only [hg',hr'];have e1:∀ c',(idOf (.gs b o c z kc)).contains c'=decide (c'=b):=fun c'=>by simp [idOf]
       split at h
       ·rename_i hb;cases h
        refine ⟨_,by rw [if_pos hb],Nat.le_refl _,fun c'=>?_,fun c' y hc'=>?_,fun c' hc'=>?_⟩
        ·rw [Q2g,Q2g,Q0j,e1]
         by_cases h5:b=c'
         ·subst h5;simp [hg]
         ·rw [if_neg h5,if_neg h5]
          have h6:¬c'=b:=fun e=>h5 e.symm;simp [h6]
        ·rw [Q2g] at hc'
         split at hc'
         ·rename_i h5;subst h5;left;simp [idOf]
         ·exact .inl (inW c' y hc')
        ·simp only [idOf,List.mem_singleton] at hc';subst hc';exact ⟨_,hg⟩
       ·rename_i hb
        split at h
        ·rename_i hb2;cases h
         refine ⟨_,by rw [if_neg hb,if_pos hb2],Nat.le_succ _,fun c'=>?_,fun c' y hc'=>?_,fun c' hc'=>?_⟩
         ·rw [getL,getL,getL_del,getL_del,Q0j,e1]
          by_cases h4:n=c'
          ·rw [if_pos h4,if_pos h4];rfl
          ·rw [if_neg h4,if_neg h4]
           by_cases h5:b=c'
           ·subst h5;simp
           ·have h6:¬c'=b:=fun e=>h5 e.symm
            simp [h5,h6]
         ·rw [getL] at hc'
          split at hc'
          ·exact .inr (by omega)
          ·rw [getL_del] at hc'
           split at hc'
           ·cases hc'
           ·exact .inl (inW c' y hc')
         ·simp only [idOf,List.mem_singleton] at hc';subst hc';exact ⟨_,hg⟩
        ·cases h
      ·cases h
     ·cases h
    ·cases h
  ·cases h
 ·cases h
theorem local_of {o:Oper} {W U:List Nat} {v:AV} {rd:List Mem} (hf:footO GT l o.op=some (W,U)) (h:stepO P GT rd m n l o.op=some (v,m',n')):Local P GT rd m n l o W U v m' n':=by
 have plain:(∀ t a,o.op≠.load t a)→(∀ t x lo hi mx,o.op≠.slice t x lo hi mx)→(∀ t x k ok,o.op≠.lookup t x k ok)→quietOp o.op=true→W=[]→U=[]→Local P GT rd m n l o W U v m' n':=by
  intro h1 h2 hlk h3 h4 h5;subst h4 h5;have e:=stepO_quiet_rd (rd':=rd) (m2:=m) h1 h2 hlk h3 h;rw [h] at e
  cases e
  exact Q2u h3 (stepO_quiet_rd h1 h2 hlk h3 h)
 cases hop:o.op <;> rw [hop] at hf <;> simp only [footO,Option.some.injEq,Prod.mk.injEq,reduceCtorEq] at hf
 case load t a =>
  obtain ⟨rfl,rfl⟩:=hf;rw [hop] at h;simp only [stepO] at h
  split at h
  ·rename_i u hu
   cases h
   refine Q2u (by rw [hop];rfl) ?_;rw [hop];have:loadL P (restrL m (idOf (evL GT l a))) t (evL GT l a)=some v:=by
    rw [←hu]
    cases hx:evL GT l a <;> simp only [loadL,idOf]
    rw [Q0j];simp
   simp only [stepO,this]
  ·cases h
 case slice t x lo hi mx =>
  obtain ⟨rfl,rfl⟩:=hf;rw [hop] at h;simp only [stepO] at h
  split at h
  ·rename_i s hx
   split at h
   ·rename_i u hu hv
    cases h
    refine Q2u (by rw [hop];rfl) ?_;rw [hop];simp only [stepO,hx,hu,hv]
   ·cases h
  ·cases h
  ·rename_i hxs hx
   split at h
   ·rename_i u hu
    cases h
    refine Q2u (by rw [hop];rfl) ?_;rw [hop];have e:evSlice P (memL (restrL m (idOf (evL GT l x)))::rd) t (evL GT l x) (lo.map (evL GT l)) (hi.map (evL GT l)) (mx.map (evL GT l))=some v:=by
     rw [←hu];refine evSlice_at fun b hb=>?_;rw [Q0c,Q0c,Q0d,Q0d,Q0j,if_pos (by simpa using hb)]
    simp only [stepO];rw [e]
   ·cases h
 case lookup t x k ok =>
  obtain ⟨rfl,rfl⟩:=hf;rw [hop] at h;simp only [stepO] at h
  split at h
  ·rename_i u hu
   cases h
   refine Q2u (by rw [hop];rfl) ?_;rw [hop];have:lookL P (restrL m (idOf (evL GT l x))) t (evL GT l x) (evL GT l k) ok=some v:=by
    rw [←hu]
    cases hx:evL GT l x
    case mp b=>simp only [lookL,idOf];rw [Q0j];simp
    case g y=>unfold lookL;split <;> first | rfl | (rename_i h;cases h)
    all_goals rfl
   simp only [stepO,this]
  ·cases h
 case makeMap t r =>
  cases r with
  | some r=>simp at hf
  | none =>
    simp only [Option.some.injEq,Prod.mk.injEq] at hf;obtain ⟨rfl,rfl⟩:=hf;rw [hop] at h;simp only [stepO] at h
    cases h
    exact local_new (by rw [hop];rfl)
 case mapUpdate t x k y =>
  obtain ⟨rfl,rfl⟩:=hf;rw [hop] at h;simp only [stepO,msetL] at h
  split at h
  ·rename_i b hb
   split at h
   ·rename_i z hz
    cases h
    cases hg:getL m b with
    | none=>rw [hg] at hz;cases hz
    | some old =>
      rw [hb];refine local_set hg ?_;have hg1:getL (restrL m [b]) b=some old:=by rw [Q0j];simp [hg]
      rw [hg] at hz;rw [hop];simp only [stepO,msetL,hb,hg1,hz]
   ·cases h
  ·cases h
 case mapEntry t x k =>
  obtain ⟨rfl,rfl⟩:=hf;rw [hop] at h;simp only [stepO,mentL] at h
  split at h
  ·rename_i b hb
   split at h
   ·rename_i u z hz
    cases h
    cases hg:getL m b with
    | none=>rw [hg] at hz;cases hz
    | some old =>
      rw [hb];refine local_set hg ?_;have hg1:getL (restrL m [b]) b=some old:=by rw [Q0j];simp [hg]
      rw [hg] at hz;rw [hop];simp only [stepO,mentL,hb,hg1,hz]
   ·cases h
  ·cases h
 case entryStore t x k y =>
  obtain ⟨rfl,rfl⟩:=hf;rw [hop] at h;simp only [stepO,estL] at h
  split at h
  ·rename_i b hb
   split at h
   ·rename_i z hz
    cases h
    cases hg:getL m b with
    | none=>rw [hg] at hz;cases hz
    | some old =>
      rw [hb];refine local_set hg ?_;have hg1:getL (restrL m [b]) b=some old:=by rw [Q0j];simp [hg]
      rw [hg] at hz;rw [hop];simp only [stepO,estL,hb,hg1,hz]
   ·cases h
  ·cases h
 case makeSlice t a c =>
  obtain ⟨rfl,rfl⟩:=hf;rw [hop] at h;simp only [stepO,makeL] at h
  split at h
  ·rename_i ka a' kc c' ha hc
   split at h
   ·rename_i sz bytes he
    split at h
    ·rename_i hb;cases h;exact local_new (by rw [hop];simp only [stepO,makeL,ha,hc,he,if_pos hb])
    ·cases h
   ·cases h
  ·cases h
 case alloc t =>
  obtain ⟨rfl,rfl⟩:=hf;rw [hop] at h;simp only [stepO] at h
  split at h
  ·rename_i cs hz;cases h;exact local_new (by rw [hop];simp only [stepO,hz])
  ·cases h
 case box t x =>
  obtain ⟨rfl,rfl⟩:=hf;rw [hop] at h;simp only [stepO] at h
  split at h
  ·rename_i cs hz;cases h;exact local_new (by rw [hop];simp only [stepO,hz])
  ·cases h
 case build t ps =>
  obtain ⟨rfl,rfl⟩:=hf;rw [hop] at h;simp only [stepO] at h
  split at h
  ·rename_i u hu
   cases h
   have h2:stepO P GT (.e::rd) [] n l o.op=some (v,[],n):=by rw [hop];simp only [stepO,hu]
   obtain ⟨av,mt,he,hv,hm⟩:=Q3b (ch:=noCH) h2;refine ⟨noCH,av,mt,Q2t,by rw [Q1v];exact he,hv,Nat.le_refl _,fun b=>?_,fun b x hb=>?_,fun b hb=>by simp at hb,fun b hb=>by simp at hb⟩
   ·rw [hm b];simp [getL]
   ·rw [hm b] at hb;cases hb
  ·cases h
 case buildSlice t k ps =>
  obtain ⟨rfl,rfl⟩:=hf;rw [hop] at h;simp only [stepO,buildSl] at h
  split at h
  ·rename_i sz bb z he
   split at h
   ·rename_i hc
    split at h
    ·rename_i cs hz;cases h;exact local_new (by rw [hop];simp only [stepO,buildSl,he,if_pos hc,hz])
    ·cases h
   ·cases h
  ·cases h
 case store t a x =>
  obtain ⟨rfl,rfl⟩:=hf;rw [hop] at h;simp only [stepO] at h
  split at h
  ·rename_i sz hsz
   unfold storeL at h
   split at h
   ·rename_i b off ha
    split at h
    ·rename_i pc cs hpc hg
     split at h
     ·rename_i hc
      cases h
      have e1:restrL m (idOf (evL GT l a))=restrL m [b]:=by rw [ha];rfl
      have hg1:getL (restrL m [b]) b=some (.cells cs):=by rw [Q0j];simp [hg]
      have h2:stepO P GT (.e::rd) (restrL m [b]) n l o.op=some (.g undef,setL (restrL m [b]) b (.cells (putA cs off pc)),n):=by
       rw [hop];simp only [stepO,hsz,storeL,ha,hpc,hg1,if_pos hc]
      obtain ⟨av,mt,he,hv,hm⟩:=Q3b (ch:=noCH) h2;have hmt:∀ c,mt.get c=if b=c then some (.cells (putA cs off pc)) else none:=by
       intro c;rw [hm c,Q2g]
       by_cases hb:b=c
       ·subst hb;rw [if_pos rfl,if_pos rfl,hg1];rfl
       ·rw [if_neg hb,if_neg hb,Q0j,if_neg (by simpa using fun e=>hb e.symm)]
      refine ⟨noCH,av,mt,Q2t,by rw [Q1v,e1];exact he,hv,Nat.le_refl _,fun c=>?_,fun c x hc2=>?_,fun c hc2=>?_,fun c hc2=>by simp⟩
      ·rw [hmt c,Q2g,ha]
       by_cases hb:b=c
       ·subst hb;rw [if_pos rfl,if_pos rfl,hg];rfl
       ·rw [if_neg hb,if_neg hb,Option.none_or,if_neg (by simpa [idOf] using fun e=>hb e.symm)]
      ·rw [hmt c] at hc2
       split at hc2
       ·rename_i hb;subst hb;left;rw [ha];simp [idOf]
       ·cases hc2
      ·rw [ha] at hc2
       simp only [idOf,List.mem_singleton] at hc2;subst hc2;exact ⟨_,hg⟩
     ·cases h
    ·cases h
   ·cases h
  ·cases h
 case call c =>
  obtain ⟨cal,args,ats⟩:=c;simp only at hf
  split at hf
  ·simp only [Option.some.injEq,Prod.mk.injEq] at hf
   refine plain (by simp [hop]) (by simp [hop]) (by simp [hop]) ?_ hf.1.symm hf.2.symm;rw [hop]
   rfl
  ·rename_i s x
   obtain ⟨rfl,rfl,hd⟩:=appF_eq hf;rw [hop] at h;obtain ⟨ats⟩:=ats
   match ats,h with
   | [t,xt],h =>
     have h':appL P rd m n t xt (evL GT l s) (evL GT l x)=some (v,m',n'):=h;obtain ⟨mr,g1,g2,g3,g4,g5⟩:=appL_local hd h';have h2:stepO P GT (memL (restrL m (idOf (evL GT l x)))::rd) (restrL m (idOf (evL GT l s))) n l o.op=some (v,mr,n'):=by rw [hop];exact g1
     obtain ⟨av,mt,he,hv,hm⟩:=Q3b (ch:=noCH) h2;exact ⟨noCH,av,mt,Q2t,he,hv,g2,fun b=>by rw [hm b];exact g3 b,fun b y hb=>g4 b y (by rw [←hm b];exact hb),g5,hd⟩
  ·cases hf
 all_goals exact plain (by simp [hop]) (by simp [hop]) (by simp [hop]) (by rw [hop];rfl) hf.1.symm hf.2.symm
structure FR (r:Rec) (q:FP):Prop where
 W:r.W=q.W
 U:∀ b,r.U b=true→b∈q.U++q.W
 n:r.nx=q.n
 n':r.nx'=q.n'
def FRs (rs:List Rec) (fps:List FP):Prop:=rs.length=fps.length∧∀ (i:Nat) (r:Rec),rs[i]?=some r→∃ q:FP,fps[i]?=some q∧FR r q
theorem FRs.snoc {rs:List Rec} {fps:List FP} (h:FRs rs fps) {r:Rec} {q:FP} (hr:FR r q):FRs (rs++[r]) (fps++[q]):=by
 refine ⟨by simp [h.1],fun i x hx=>?_⟩
 by_cases hi:i<rs.length
 ·rw [List.getElem?_append_left hi] at hx
  obtain ⟨y,h1,h2⟩:=h.2 i x hx;exact ⟨y,by rw [List.getElem?_append_left (by rw [←h.1];exact hi)];exact h1,h2⟩
 ·rw [List.getElem?_append_right (by omega)] at hx
  have hlt:=(List.getElem?_eq_some_iff.1 hx).1;simp only [List.length_singleton] at hlt;have h0:i - rs.length=0:=by omega
  rw [h0] at hx;simp only [List.getElem?_cons_zero,Option.some.injEq] at hx;subst hx;exact ⟨q,by rw [List.getElem?_append_right (by rw [←h.1];omega),show i - fps.length=0 by rw [←h.1];omega];rfl,hr⟩
theorem okD_get {B:List Nat} {j:Nat} {W U:List Nat}:∀ {fps:List FP} {k:Nat},okD B j W U k fps=true→∀ (i:Nat) (q:FP),fps[i]?=some q→bef B j (k+i)=true∨freeFP q W U=true
 | [],k,_,i,q,h=>by simp at h
 | p :: ps,k,hk,i,q,h=>by
   simp only [okD,Bool.and_eq_true,Bool.or_eq_true] at hk
   cases i with
   | zero=>simp only [List.getElem?_cons_zero,Option.some.injEq] at h;subst h;exact hk.1
   | succ i =>
     have:=okD_get hk.2 i q (by simpa using h)
     rwa [show k+1+i=k+(i+1) by omega] at this
theorem freeFP_spec {q:FP} {W U:List Nat} (h:freeFP q W U=true):(∀ b,b∈U++W→b∉q.W∧¬(q.n≤b∧b<q.n'))∧∀ b∈W,b∉q.U++q.W:=by
 simp only [freeFP,Bool.and_eq_true,List.all_eq_true] at h;refine ⟨fun b hb=>?_,fun b hb=>?_⟩
 ·have:=h.1 b hb
  simp only [Bool.not_eq_true'] at this;refine ⟨fun h1=>?_,fun h1=>?_⟩
  ·have h2:=this.1
   rw [←Bool.not_eq_true] at h2;exact h2 (List.contains_iff_mem.2 h1)
  ·have h2:=this.2
   rw [Nat.ble_eq_true_of_le h1.1,show Nat.blt b q.n'=true from Nat.ble_eq_true_of_le h1.2] at h2
   cases h2
 ·have:=h.2 b hb
  intro h1;rw [Bool.not_eq_true',←Bool.not_eq_true] at this;exact this (List.contains_iff_mem.2 h1)
theorem oneCH {rd:List Mem} {cur mt:Mem} {f:FuncId} {args:List AV} {a:AV} (hle:n≤n') (hfn:∃ fn,P.funcs[f]?=some fn∧(fn.name == "runtime.NumGoroutine")=false∧fn.body.isNone=false) (h:ATri P GT f args rd cur n (.ret a) mt n'):∃ ch,ChOk P GT ch∧ch f args rd cur n=some (.ret a,mt,n'):=by
 classical
 refine ⟨fun f' as rd' cur' n2=>if f'=f∧as=args∧rd'=rd∧cur'=cur∧n2=n then some (.ret a,mt,n') else none,⟨fun {f' as rd' cur' n2 out c3 n3} h1=>?_,fun {f' as rd' cur' n2 out c3 n3} h1=>?_,fun {f' as rd' cur' n2 r} h1=>?_⟩,by simp⟩
 ·split at h1
  ·rename_i h2;obtain ⟨rfl,rfl,rfl,rfl,rfl⟩:=h2;cases h1;exact h
  ·cases h1
 ·split at h1
  ·rename_i h2;obtain ⟨rfl,rfl,rfl,rfl,rfl⟩:=h2;cases h1;exact hle
  ·cases h1
 ·split at h1
  ·rename_i h2;obtain ⟨rfl,rfl,rfl,rfl,rfl⟩:=h2;exact hfn
  ·cases h1
theorem runD_recs {s0:St}:∀ (os:List Oper) (l:List AV) (m:ML) (n:Nat) (rs:List Rec) (fps:List FP) (ok:Bool),ops.drop rs.length=os→(∀ t,(foldS (fun _=>true) 0 rs s0).tm.get t=l[t]?)→MemEq (foldS (fun _=>true) 0 rs s0).cur m →
 (foldS (fun _=>true) 0 rs s0).nx=n→FRs rs fps→runD P GT E ops os rs.length ok fps l m n Q →
 ∃ ext l' m' n',ok=true∧ext.length=os.length∧(∀ t,(foldS (fun _=>true) 0 (rs++ext) s0).tm.get t=l'[t]?)∧MemEq (foldS (fun _=>true) 0 (rs++ext) s0).cur m'∧(foldS (fun _=>true) 0 (rs++ext) s0).nx=n'∧Q .nrm (stL l' m' n') ∧
   ∀ (i:Nat) (o:Oper),os[i]?=some o→∃ r ch,ChOk P GT ch∧(rs++ext)[rs.length+i]?=some r ∧
     RecOk P GT ch E.rd ⟨ops⟩ (befs ops []) ((rs++ext).take (rs.length+i)) (rs.length+i) o (foldS (fun k=>decide (k<rs.length+i)) 0 (rs++ext) s0) r:=by
 intro os
 induction os with
 | nil=>intro l m n rs fps ok _ ht hm hn _ h;exact ⟨[],l,m,n,h.1,rfl,by simpa using ht,by simpa using hm,by simpa using hn,h.2,fun i o hi=>by simp at hi⟩
 | cons o os ih =>
   intro l m n rs fps ok hd ht hm hn hfr h;have hd':ops.drop (rs.length+1)=os:=by
    have:(ops.drop rs.length).drop 1=os:=by rw [hd];rfl
    rwa [List.drop_drop] at this
   have hget:∀ t,(foldS (fun _=>true) 0 rs s0).tm.getA t=(tmL l).getA t:=fun t=>getA_congr (by rw [ht,Q0l]);have hwant:wantA ⟨ops⟩ o (foldS (fun _=>true) 0 rs s0).tm=wantA ⟨ops⟩ o (tmL l):=Q3t fun t _=>by rw [ht,Q0l]
   have more:∀ (v:AV) (m2:ML) (n2:Nat) (r:Rec) (q:FP) (ok2:Bool) (ch:CH),ChOk P GT ch→FR r q→r.dst=o.dst→r.out=v→r.nx'=n2→(∀ b,getL m2 b=(r.cur'.get b).or (if b∈r.W then none else getL m b)) →
    (ok2=true→RecOk P GT ch E.rd ⟨ops⟩ (befs ops []) rs rs.length o (foldS (fun _=>true) 0 rs s0) r)→(ok2=true→ok=true)→runD P GT E ops os (rs.length+1) ok2 (fps++[q]) (setO l o.dst v) m2 n2 Q →
    ∃ ext l' m' n',ok=true∧ext.length=(o::os).length∧(∀ t,(foldS (fun _=>true) 0 (rs++ext) s0).tm.get t=l'[t]?)∧MemEq (foldS (fun _=>true) 0 (rs++ext) s0).cur m'∧(foldS (fun _=>true) 0 (rs++ext) s0).nx=n'∧Q .nrm (stL l' m' n') ∧
    ∀ (i:Nat) (o':Oper),(o::os)[i]?=some o'→∃ r ch,ChOk P GT ch∧(rs++ext)[rs.length+i]?=some r ∧
      RecOk P GT ch E.rd ⟨ops⟩ (befs ops []) ((rs++ext).take (rs.length+i)) (rs.length+i) o' (foldS (fun k=>decide (k<rs.length+i)) 0 (rs++ext) s0) r:=by
    intro v m2 n2 r q ok2 ch hch hr hdst hout hnx hmem hrec hok hrun;have hf:foldS (fun _=>true) 0 (rs++[r]) s0=stepSt (foldS (fun _=>true) 0 rs s0) r:=by rw [Q0w];rfl
    have ht':∀ t,(foldS (fun _=>true) 0 (rs++[r]) s0).tm.get t=(setO l o.dst v)[t]?:=by
     intro t;rw [hf];show (putT _ r.dst r.out).get t=_;rw [Q1w,ht,←Q0l (setO l o.dst v),setO_get,Q1w,Q0l,hdst,hout]
    have hm':MemEq (foldS (fun _=>true) 0 (rs++[r]) s0).cur m2:=by
     intro b;rw [hf,stepSt_get,hm b,hmem b]
    obtain ⟨ext,l',m',n',g0,g1,g2,g3,g4,g5,g6⟩:=ih (setO l o.dst v) m2 n2 (rs++[r]) (fps++[q]) ok2 (by simpa using hd') ht' hm' (by rw [hf];exact hnx) (hfr.snoc hr) (by simpa using hrun);rw [List.append_assoc] at g2 g3 g4 g6;refine ⟨r::ext,l',m',n',hok g0,by simp [g1],g2,g3,g4,g5,fun i o' hi=>?_⟩
    cases i with
    | zero =>
      simp only [List.getElem?_cons_zero,Option.some.injEq] at hi;subst hi;refine ⟨r,ch,hch,by simp,?_⟩;rw [Nat.add_zero,fold_lt,List.take_left']
      ·exact hrec g0
      ·rfl
    | succ i =>
      obtain ⟨r',ch',k1,k2,k3⟩:=g6 i o' (by simpa using hi);rw [List.length_append,List.length_singleton,show rs.length+1+i=rs.length+(i+1) by omega] at k2 k3;exact ⟨r',ch',k1,by simpa using k2,by simpa using k3⟩
   have light:∀ (v:AV) (ch:CH) (W:Bool),ChOk P GT ch→(W=false→wantA ⟨ops⟩ o (tmL l)=some false∧v=.g undef)→(W=true→wantA ⟨ops⟩ o (tmL l)=some true∧∃ av,evOne P GT ch [] .e n (tmL l) o=some (.val av,.e,n)∧av.getD (.g undef)=v) →
    RecOk P GT ch E.rd ⟨ops⟩ (befs ops []) rs rs.length o (foldS (fun _=>true) 0 rs s0) ⟨o.dst,v,W,[],.e,.e,n,n,[],fun _=>false,false⟩:=by
    intro v ch W _ hw0 hw1;refine ⟨rfl,hn.symm,Nat.le_refl _,?_,fun b x hb=>by simp [Tri.get_e] at hb,fun b hb=>by simp at hb,fun b x hb=>by simp [getR,Tri.get_e] at hb,fun b x hb=>by simp [Tri.get_e] at hb,fun b hb=>by simp at hb,fun b hb=>by simp at hb,fun b x hb=>by simp [Tri.get_e] at hb,fun i q hq=>.inr ⟨fun b hb=>by simp at hb,fun b hb=>by simp at hb⟩,fun _=>⟨rfl,Nat.le_refl _⟩⟩
    cases W with
    | false=>obtain ⟨h1,rfl⟩:=hw0 rfl;exact .inl ⟨rfl,hwant.trans h1,rfl,rfl,rfl,rfl⟩
    | true =>
      obtain ⟨h1,av,h2,h3⟩:=hw1 rfl;exact .inr ⟨rfl,hwant.trans h1,av,by rw [Q2x fun t _=>hget t];exact h2,h3.symm⟩
   have local_more:∀ (W U:List Nat) (v:AV) (m2:ML) (n2:Nat),wantA ⟨ops⟩ o (tmL l)=some true→Local P GT E.rd m n l o W U v m2 n2→runD P GT E ops os (rs.length+1) (ok&&(lowD n W U&&okD (befs ops []) rs.length W U 0 fps)) (fps++[⟨W,U,n,n2⟩]) (setO l o.dst v) m2 n2 Q →
    ∃ ext l' m' n',ok=true∧ext.length=(o::os).length∧(∀ t,(foldS (fun _=>true) 0 (rs++ext) s0).tm.get t=l'[t]?)∧MemEq (foldS (fun _=>true) 0 (rs++ext) s0).cur m'∧(foldS (fun _=>true) 0 (rs++ext) s0).nx=n'∧Q .nrm (stL l' m' n') ∧
    ∀ (i:Nat) (o':Oper),(o::os)[i]?=some o'→∃ r ch,ChOk P GT ch∧(rs++ext)[rs.length+i]?=some r ∧
      RecOk P GT ch E.rd ⟨ops⟩ (befs ops []) ((rs++ext).take (rs.length+i)) (rs.length+i) o' (foldS (fun k=>decide (k<rs.length+i)) 0 (rs++ext) s0) r:=by
    intro W U v m2 n2 hw' hloc h;obtain ⟨ch,av,mt,hch,he,hv,hle,hmem,hids,hwm,hwu⟩:=hloc;refine more v m2 n2 ⟨o.dst,v,true,memL (restrL m U)::E.rd,memL (restrL m W),mt,n,n2,W,fun b=>(U++W).contains b,true⟩ ⟨W,U,n,n2⟩ _ ch hch ⟨rfl,fun b hb=>List.contains_iff_mem.1 hb,rfl,rfl⟩ rfl rfl rfl (fun b=>?_) (fun hok2=>?_) (fun hok2=>?_) h
    ·rw [hmem b]
     by_cases hb:b∈W
     ·rw [if_pos (List.contains_iff_mem.2 hb),if_pos hb]
     ·rw [if_neg (fun e=>hb (List.contains_iff_mem.1 e)),if_neg hb]
    ·simp only [Bool.and_eq_true] at hok2
     obtain ⟨-,hlw,hokd⟩:=hok2;refine ⟨rfl,hn.symm,hle,.inr ⟨rfl,hwant.trans hw',av,by rw [Q2x fun t _=>hget t];exact he,hv.symm⟩,fun b x hb=>?_,fun b hb=>?_,fun b x hb=>?_,fun b x hb hr=>?_,fun b hb=>?_,fun b hb=>?_,fun b x hb=>hids b x hb,fun i q hq=>?_,fun h=>by cases h⟩
     ·rw [Q0d,Q0j] at hb
      split at hb
      ·rename_i hbw;exact ⟨List.contains_iff_mem.1 hbw,(hm b).trans hb⟩
      ·cases hb
     ·obtain ⟨x,hx⟩:=hwm b hb
      exact ⟨x,by rw [Q0d,Q0j,if_pos (List.contains_iff_mem.2 hb)];exact hx⟩
     ·rw [Q0c,Q0d,Q0j] at hb
      by_cases hbw:W.contains b=true
      ·rw [if_pos hbw] at hb
       cases hg:getL m b with
       | none =>
         obtain ⟨y,hy⟩:=hwm b (List.contains_iff_mem.1 hbw);rw [hg] at hy;cases hy
       | some y =>
         rw [hg,Option.some_or] at hb
         cases hb
         exact .inl ⟨List.contains_iff_mem.2 (List.mem_append.2 (.inr (List.contains_iff_mem.1 hbw))),Q0b ((hm b).trans hg)⟩
      ·rw [if_neg hbw,Option.none_or,Q0c,Q0d,Q0j] at hb
       by_cases hbu:U.contains b=true
       ·rw [if_pos hbu] at hb
        cases hg:getL m b with
        | none=>rw [hg,Option.none_or] at hb;exact .inr hb
        | some y =>
          rw [hg,Option.some_or] at hb
          cases hb
          exact .inl ⟨List.contains_iff_mem.2 (List.mem_append.2 (.inl (List.contains_iff_mem.1 hbu))),Q0b ((hm b).trans hg)⟩
       ·rw [if_neg hbu,Option.none_or] at hb;exact .inr hb
     ·rw [Q0d,Q0j] at hb
      split at hb
      ·rename_i hbw
       rw [Q0c,Q0d,Q0j,if_neg (fun e=>hwu b (List.contains_iff_mem.1 hbw) (List.contains_iff_mem.1 e)),Option.none_or];exact hr
      ·cases hb
     ·simp only [lowD,List.all_eq_true] at hlw
      exact Nat.le_of_ble_eq_true (hlw b (List.contains_iff_mem.1 hb))
     ·exact List.contains_iff_mem.2 (List.mem_append.2 (.inr hb))
     ·obtain ⟨p,hp,hpr⟩:=hfr.2 i q hq
      have:=okD_get hokd i p hp;rw [Nat.zero_add] at this;refine this.imp id fun h1=>?_;obtain ⟨h2,h3⟩:=freeFP_spec h1;rw [hpr.W,hpr.n,hpr.n'];refine ⟨fun b hb=>h2 b (List.contains_iff_mem.1 hb),fun b hb=>?_⟩
      cases hu:q.U b with
      | false=>rfl
      | true=>exact absurd (hpr.U b hu) (h3 b hb)
    ·simp only [Bool.and_eq_true] at hok2;exact hok2.1
   unfold runD at h
   split at h
   ·rename_i hw
    have hw':=wantL_ok (o:=o) hw
    split at h
    ·rename_i f args hc
     rcases h with ⟨v,hp,h⟩ | ⟨v,W,m2,n2,hp,h⟩
     rotate_left
     ·obtain ⟨hle,hfn,hwm,mt,htri,hmem,hids⟩:=hp
      obtain ⟨ch,hch,hca⟩:=oneCH hle hfn htri;refine local_more W [] v m2 n2 hw' ⟨ch,some v,mt,hch,?_,rfl,hle,hmem,hids,hwm,fun b _=>by simp⟩ h;rw [Q1v];unfold callL at hc
      split at hc
      ·rename_i c hop
       split at hc
       ·rename_i x hx
        unfold evOne;rw [evL_eq,hop];simp only [hx,hc];have:ch f args (memL []::E.rd) (memL (restrL m W)) n=some (.ret v,mt,n2):=hca;rw [this]
       ·cases hc
      ·cases hc
     obtain ⟨ch,hch,hca⟩:=hp.ok;have he:evOne P GT ch [] .e n (tmL l) o=some (.val (some v),.e,n):=by
      unfold callL at hc
      split at hc
      ·rename_i c hop
       split at hc
       ·rename_i x hx
        unfold evOne;rw [evL_eq,hop];simp only [hx,hc,hca]
       ·cases hc
      ·cases hc
     exact more v m n _ ⟨[],[],n,n⟩ ok ch hch ⟨rfl,fun b hb=>by simp at hb,rfl,rfl⟩ rfl rfl rfl (fun b=>by simp [Tri.get_e]) (fun _=>light v ch true hch (fun h=>by cases h) (fun _=>⟨hw',some v,he,rfl⟩)) (fun h=>h) h
    ·split at h
     ·rename_i v m2 n2 hst
      split at h
      ·rename_i W U hf
       exact local_more W U v m2 n2 hw' (local_of hf hst) h
      ·exact h.elim
     ·exact h.elim
   ·rename_i hw
    have hw':=wantL_ok (o:=o) hw;exact more (.g undef) m n _ ⟨[],[],n,n⟩ ok noCH Q2t ⟨rfl,fun b hb=>by simp at hb,rfl,rfl⟩ rfl rfl rfl (fun b=>by simp [Tri.get_e]) (fun _=>light (.g undef) noCH false Q2t (fun _=>⟨hw',rfl⟩) (fun h=>by cases h)) (fun h=>h) h
   ·exact h.elim
theorem W.regionD {id:Nat} (hmix:P.follows .mixedOrders=true) (hst:statOk ⟨ops⟩=true) (h:runD P GT E ops ops 0 true [] l m n Q):W P GT E (.region id ⟨ops⟩ true) (stL l m n) Q:=by
 intro base D w1 G1 w G a _ hs ht hd;obtain ⟨recs,l',m',n',-,h1,h3,h3m,h3n,h4,h5⟩:=runD_recs (s0:=stL l m n) ops l m n [] [] true (by simp) (fun t=>by show (tmL l).get t=_;rw [Q0l]) (memEq m) rfl ⟨rfl,fun i r hi=>by simp at hi⟩ h;simp only [List.nil_append,List.length_nil,Nat.zero_add] at h1 h3 h3m h3n h5;refine wp_region_any hmix ?_;have hs':Stp base GT allF E.rd (stL l m n).cur n w G (stL l m n).cur n { w with drawn:=w.drawn+1 } G:=Stp.world hs.mr rfl rfl rfl (Nat.le_refl _) fun _ _=>rfl
 have:=recs_sound (P:=P) (GT:=GT) (ops:=⟨ops⟩) (base:=base) (F:=allF) (D:=D) (s0:=stL l m n) (a0:=a) (w0:={ w with drawn:=w.drawn+1 }) (G0:=G) hst h1 rfl
  (fun j o ho=>by
    obtain ⟨r,ch,k1,k2,k3⟩:=h5 j o (by simpa using ho)
    exact ⟨r,ch,k1,k2,k3⟩) hs'.mr (TmR.mono hs'.ext ht) hd (fun _ _ _=>trivial)
 refine wpAny_mono (fun e a2 w2 h6=>?_) _ _ _ _ this;obtain ⟨G',g1,g2,g3,g4⟩:=h6;refine ⟨.nrm,stL l' m' n',G',g1,?_,fun hp=>?_,g4,h4⟩
 ·have g5:=Stp.trans hs (Stp.trans hs' g2)
  rw [h3n] at g5;exact stp_mem g5 fun b=>by rw [h3m b];exact Q0d _ _
 ·refine tmR_ext (g3 hp) fun t=>?_
  rw [Q0l,h3]
def AtCallD (P:Program) (GT:GTab) (E:Beg) (ops:List Oper) (f:FuncId) (args:List AV) (dst:Option Tmp) (os:List Oper) (j:Nat) (ok:Bool) (fps:List FP) (l:List AV) (m:ML) (n:Nat) (Q:AX→St→Prop):Prop :=
 (∃ a,PureN P GT f args a∧runD P GT E ops os (j+1) ok (fps++[⟨[],[],n,n⟩]) (setO l dst a) m n Q) ∨
   (∃ (a:AV) (W:List Nat) (m':ML) (n':Nat),CallD P GT E.rd m n f args W a m' n'∧runD P GT E ops os (j+1) (ok&&(lowD n W []&&okD (befs ops []) j W [] 0 fps)) (fps++[⟨W,[],n,n'⟩]) (setO l dst a) m' n' Q)
def footD (P:Program) (GT:GTab) (E:Beg) (ops:List Oper) (r:Option (List Nat×List Nat)) (v:AV) (m':ML) (n':Nat) (dst:Option Tmp) (os:List Oper) (j:Nat) (ok:Bool) (fps:List FP) (l:List AV) (n:Nat) (Q:AX→St→Prop):Prop:=match r with
 | some (W,U)=>runD P GT E ops os (j+1) (ok&&(lowD n W U&&okD (befs ops []) j W U 0 fps)) (fps++[⟨W,U,n,n'⟩]) (setO l dst v) m' n' Q
 | none=>False
def nextD (P:Program) (GT:GTab) (E:Beg) (ops:List Oper) (r:Option (AV×ML×Nat)) (op:Op) (dst:Option Tmp) (os:List Oper) (j:Nat) (ok:Bool) (fps:List FP) (l:List AV) (n:Nat) (Q:AX→St→Prop):Prop:=match r with
 | some (v,m',n')=>footD P GT E ops (footO GT l op) v m' n' dst os j ok fps l n Q
 | none=>False
def callD (P:Program) (GT:GTab) (E:Beg) (ops:List Oper) (r:Option (FuncId×List AV)) (op:Op) (dst:Option Tmp) (os:List Oper) (j:Nat) (ok:Bool) (fps:List FP) (l:List AV) (m:ML) (n:Nat) (Q:AX→St→Prop):Prop:=match r with
 | some (f,args)=>AtCallD P GT E ops f args dst os j ok fps l m n Q
 | none=>nextD P GT E ops (stepO P GT E.rd m n l op) op dst os j ok fps l n Q
def wantD (P:Program) (GT:GTab) (E:Beg) (ops:List Oper) (r:Option Bool) (op:Op) (dst:Option Tmp) (os:List Oper) (j:Nat) (ok:Bool) (fps:List FP) (l:List AV) (m:ML) (n:Nat) (Q:AX→St→Prop):Prop:=match r with
 | some true=>callD P GT E ops (callL GT l op) op dst os j ok fps l m n Q
 | some false=>runD P GT E ops os (j+1) ok (fps++[⟨[],[],n,n⟩]) (setO l dst (.g undef)) m n Q
 | none=>False
variable {dst:Option Tmp} {op:Op} {o:Oper} {j:Nat} {ok:Bool} {fps:List FP} {v:AV} {W U:List Nat}
theorem runD_nil:runD P GT E ops [] j ok fps l m n Q=(ok=true∧Q .nrm (stL l m n)):=Eq.trans rfl rfl
theorem runD_cons:runD P GT E ops (o::os) j ok fps l m n Q=wantD P GT E ops (wantL ops l o.guard) o.op o.dst os j ok fps l m n Q:=by
 show (match wantL ops l o.guard with | some true=>_ | some false=>_ | none=>_)=_;unfold wantD
 split
 ·unfold callD AtCallD nextD footD
  rfl
 ·rfl
 ·rfl
theorem wantD_true:wantD P GT E ops (some true) op dst os j ok fps l m n Q=callD P GT E ops (callL GT l op) op dst os j ok fps l m n Q:=Eq.trans rfl rfl
theorem wantD_false:wantD P GT E ops (some false) op dst os j ok fps l m n Q=runD P GT E ops os (j+1) ok (fps++[⟨[],[],n,n⟩]) (setO l dst (.g undef)) m n Q:=Eq.trans rfl rfl
theorem callD_none:callD P GT E ops none op dst os j ok fps l m n Q=nextD P GT E ops (stepO P GT E.rd m n l op) op dst os j ok fps l n Q:=Eq.trans rfl rfl
theorem callD_some {f:FuncId} {args:List AV}:callD P GT E ops (some (f,args)) op dst os j ok fps l m n Q=AtCallD P GT E ops f args dst os j ok fps l m n Q:=Eq.trans rfl rfl
theorem nextD_some:nextD P GT E ops (some (v,m',n')) op dst os j ok fps l n Q=footD P GT E ops (footO GT l op) v m' n' dst os j ok fps l n Q:=Eq.trans rfl rfl
theorem footD_some:footD P GT E ops (some (W,U)) v m' n' dst os j ok fps l n Q=runD P GT E ops os (j+1) (ok&&(lowD n W U&&okD (befs ops []) j W U 0 fps)) (fps++[⟨W,U,n,n'⟩]) (setO l dst v) m' n' Q:=Eq.trans rfl rfl
theorem AtCallD.mk {f:FuncId} {args:List AV} {a:AV} (h:PureN P GT f args a) (k:runD P GT E ops os (j+1) ok (fps++[⟨[],[],n,n⟩]) (setO l dst a) m n Q):AtCallD P GT E ops f args dst os j ok fps l m n Q:=.inl ⟨a,h,k⟩
theorem AtCallD.mem {f:FuncId} {args:List AV} {a:AV} {W:List Nat} {m':ML} {n':Nat} (h:CallD P GT E.rd m n f args W a m' n') (k:runD P GT E ops os (j+1) (ok&&(lowD n W []&&okD (befs ops []) j W [] 0 fps)) (fps++[⟨W,[],n,n'⟩]) (setO l dst a) m' n' Q):AtCallD P GT E ops f args dst os j ok fps l m n Q:=.inr ⟨a,W,m',n',h,k⟩
end
attribute [go_sem] runD_nil runD_cons wantD_true wantD_false callD_none callD_some nextD_some footD_some footO idOf appF
theorem W.regionA {P:Program} {GT:GTab} {E:Beg} {id:Nat} {ops:Array Oper} {l:List AV} {m:ML} {n:Nat} {Q:AX→St→Prop} (h:runL P GT E ops.toList ops.toList l m n Q):W P GT E (.region id ops false) (stL l m n) Q:=W.region h
theorem W.regionQA {P:Program} {GT:GTab} {E:Beg} {id:Nat} {ops:Array Oper} {l:List AV} {m:ML} {n:Nat} {Q:AX→St→Prop} (hmix:P.follows .mixedOrders=true) (hst:statOk ops=true) (h:runQ P GT E ops.toList ops.toList l m n Q):W P GT E (.region id ops true) (stL l m n) Q:=W.regionQ hmix hst h
theorem W.regionDA {P:Program} {GT:GTab} {E:Beg} {id:Nat} {ops:Array Oper} {l:List AV} {m:ML} {n:Nat} {Q:AX→St→Prop} (hmix:P.follows .mixedOrders=true) (hst:statOk ops=true) (h:runD P GT E ops.toList ops.toList 0 true [] l m n Q):W P GT E (.region id ops true) (stL l m n) Q:=W.regionD hmix hst h
theorem beq_ft:(false==true)=false:=by decide
theorem beq_tf:(true==false)=false:=by decide
theorem beq_tt:(true==true)=true:=by decide
theorem beq_ff:(false==false)=true:=by decide
attribute [go_sem] beq_ft beq_tf beq_tt beq_ff
theorem Q2f {b:Nat}:getR [] b=none:=Eq.trans rfl rfl
theorem Q3n {P:Program} {l:List AV} {m:ML} {n:Nat} {r1 r2:ResultVar} {v1 v2:AV} (x:AX) (hx:x=.nrm∨x=.ret) (h1:resV P l m r1=some v1) (h2:resV P l m r2=some v2) (p1:plainA v1=true) (p2:plainA v2=true):postP P [r1,r2] (.tup [v1,v2]) x (stL l m n):=postP_two x hx h1 h2 (.plain p1) (.plain p2)
def bldO (P:Program) (t:TypeId):Option (List AV×List (Nat×Nat)):=match (P.info? t).bind (·.zero),P.underlying t with
 | some z,some (.struct fs)=>match placesA P fs.toList with
   | some ps=>some (z.cells.toList.map .g,ps)
   | none=>none
 | _,_=>none
def fillL (ps:List (Nat×Nat)) (cells:List AV):List (Nat×AV)→Option (List AV)
 | []=>some cells
 | (i,v)::rest=>match ps[i]?,cellsA v with
   | some (off,size),some pc=>if pc.length=size∧off+pc.length≤cells.length then fillL ps (putA cells off pc) rest else none
   | _,_=>none
theorem fillL_eq (ps:List (Nat×Nat)):∀ (parts:List (Nat×AV)) (cells:List AV),fillA (ps[·]?) cells parts=fillL ps cells parts
 | [],_=>rfl
 | (i, v)::rest,cells=>by
   rw [fillA,fillL]
   cases ps[i]? with
   | none=>rfl
   | some p =>
     cases cellsA v with
     | none=>rfl
     | some pc =>
       simp only
       split
       ·exact fillL_eq ps rest _
       ·rfl
def aggM:Option (List AV)→Option AV
 | some l=>some (.agg l)
 | none=>none
theorem Q1d {P:Program} {t:TypeId} {zs:List AV} {ps:List (Nat×Nat)} (h:bldO P t=some (zs,ps)) (parts:List (Nat×AV)):evBuild P t parts=aggM (fillL ps zs parts):=by
 unfold bldO at h;unfold evBuild
 split at h
 ·rename_i z fs h1 h2
  split at h
  ·rename_i ps' h3
   cases h
   simp only [h1,h2,h3,fillL_eq]
   cases fillL ps (z.cells.toList.map .g) parts <;> rfl
  ·cases h
 ·cases h
def rowsL (sz:Nat) (cells:List AV):List (Nat×AV)→Option (List AV)
 | []=>some cells
 | (i,v)::rest=>match cellsA v with
   | some pc=>if pc.length=sz∧i*sz+pc.length≤cells.length then rowsL sz (putA cells (i*sz) pc) rest else none
   | none=>none
theorem rowsL_eq (sz:Nat):∀ (parts:List (Nat×AV)) (cells:List AV),fillA (fun k=>some (k*sz,sz)) cells parts=rowsL sz cells parts
 | [],_=>rfl
 | (i,v)::rest,cells=>by
   rw [fillA,rowsL]
   cases cellsA v with
   | none=>rfl
   | some pc =>
     simp only
     split
     ·exact rowsL_eq sz rest _
     ·rfl
section
variable {m:ML}
theorem SealTo.agg {cs:List AV} (h:∀ a∈cs,plainA a=true):SealTo m (.agg cs) (.agg cs):=by
 refine ⟨cs.length+3,?_⟩;show (match sealV.sealL (memL m) (cs.length+2) cs with | some l=>some (AV.agg l) | none=>none)=_;rw [sealL_plain h (cs.length+1) (memL m) (by omega)]
theorem isCell_int {k:IntKind} {i:Int}:isCell (.g (.int k i))=true:=Eq.trans rfl rfl
theorem isCell_str {s:ByteArray}:isCell (.g (.string s))=true:=Eq.trans rfl rfl
theorem isCell_bool {b:Bool}:isCell (.g (.bool b))=true:=Eq.trans rfl rfl
theorem isCell_slice {a:Option Addr} {n c:Nat}:isCell (.g (.slice a n c))=true:=Eq.trans rfl rfl
theorem isCell_gptr {a:Option Addr}:isCell (.g (.pointer a))=true:=Eq.trans rfl rfl
theorem isCell_sl {n sz:Nat} {cs:List AV}:isCell (.sl n sz cs)=true:=Eq.trans rfl rfl
theorem isCell_gs {b o n sz k:Nat}:isCell (.gs b o n sz k)=true:=Eq.trans rfl rfl
theorem isCell_z0:isCell .z0=true:=Eq.trans rfl rfl
theorem isCell_ptr {b o:Nat}:isCell (.ptr b o)=true:=Eq.trans rfl rfl
theorem isCell_ept {cs:List AV} {o:Nat}:isCell (.ept cs o)=true:=Eq.trans rfl rfl
theorem isCell_fn {f:Fn} {x y:List AV}:isCell (.fn f x y)=true:=Eq.trans rfl rfl
theorem isCell_mp {b:Nat}:isCell (.mp b)=true:=Eq.trans rfl rfl
theorem cellsA_agg {cs:List AV}:cellsA (.agg cs)=if cs.all isCell then some cs else none:=rfl
theorem cellsA_g {v:Value}:cellsA (.g v)=if isCell (.g v) then some [.g v] else none:=rfl
theorem cellsA_sl {n sz:Nat} {cs:List AV}:cellsA (.sl n sz cs)=some [.sl n sz cs]:=rfl
theorem cellsA_gs {b o n sz k:Nat}:cellsA (.gs b o n sz k)=some [.gs b o n sz k]:=rfl
theorem cellsA_z0:cellsA .z0=some [.z0]:=rfl
theorem cellsA_ptr {b o:Nat}:cellsA (.ptr b o)=some [.ptr b o]:=rfl
theorem cellsA_ept {cs:List AV} {o:Nat}:cellsA (.ept cs o)=some [.ept cs o]:=rfl
theorem cellsA_fn {f:Fn} {x y:List AV}:cellsA (.fn f x y)=some [.fn f x y]:=rfl
theorem cellsA_mp {b:Nat}:cellsA (.mp b)=some [.mp b]:=rfl
end
section
variable {n1:Nat} {q:Ren}
theorem reL_cons {a b:AV} {as bs:List AV}:reL n1 q (a::as) (b::bs)=(reA n1 q a b∧reL n1 q as bs):=by
 rw [reL];refine propext ⟨fun h=>?_,fun h=>⟨b,bs,rfl,h.1,h.2⟩⟩;obtain ⟨_,_,e,h1,h2⟩:=h
 cases e
 exact ⟨h1,h2⟩
theorem reL_nil:reL n1 q [] []=True:=by rw [reL];simp
theorem reA_any {b:AV}:reA n1 q .any b=True:=by rw [reA]
theorem reA_g {v v':Value}:reA n1 q (.g v) (.g v')=(v'=v):=by rw [reA];simp
theorem reA_sl {n sz:Nat} {cs:List AV}:reA n1 q (.sl n sz cs) (.sl n sz cs)=True:=by rw [reA];simp
theorem reA_ept {o:Nat} {cs:List AV}:reA n1 q (.ept cs o) (.ept cs o)=True:=by rw [reA];simp
theorem reA_z0:reA n1 q .z0 .z0=True:=by rw [reA];simp
theorem reA_ptr {c b o:Nat}:reA n1 q (.ptr c o) (.ptr b o)=(lkE n1 q c=some b):=by rw [reA];simp
theorem reA_gs {c b o n sz k k':Nat}:reA n1 q (.gs c o n sz k) (.gs b o n sz k')=(lkE n1 q c=some b∧n≤k∧k≤k'):=by
 rw [reA];refine propext ⟨fun h=>?_,fun h=>⟨b,k',rfl,h⟩⟩;obtain ⟨_,_,e,h⟩:=h
 cases e
 exact h
theorem reA_mp {c b:Nat}:reA n1 q (.mp c) (.mp b)=(lkE n1 q c=some b):=by rw [reA];simp
theorem reA_fn {f:Fn} {x y x' y':List AV}:reA n1 q (.fn f x y) (.fn f x' y')=(reL n1 q x x'∧reL n1 q y y'):=by
 rw [reA];refine propext ⟨fun h=>?_,fun h=>⟨x',y',rfl,h⟩⟩;obtain ⟨_,_,e,h⟩:=h
 cases e
 exact h
theorem reA_agg {x x':List AV}:reA n1 q (.agg x) (.agg x')=reL n1 q x x':=by rw [reA];simp
theorem reA_tup {x x':List AV}:reA n1 q (.tup x) (.tup x')=reL n1 q x x':=by rw [reA];simp
theorem lkE_zero {c:Nat}:lkE 0 q c=lk q c:=by rw [lkE,if_neg (Nat.not_lt_zero c)]
theorem lk_cons {d b c:Nat}:lk ((d,b)::q) c=if d=c then some b else lk q c:=Eq.trans rfl rfl
theorem leL_cons {a b:AV} {as bs:List AV}:leL (a::as) (b::bs)=((b=.any∨a=b)∧leL as bs):=Eq.trans rfl rfl
theorem leL_nil:leL [] []=True:=rfl
end
theorem evSlice_sl {P:Program} {ms:List Mem} {t:TypeId} {n sz:Nat} {cs:List AV} {lo hi:Option AV} (he:elemO P t=some sz):evSlice P ms t (.sl n sz cs) lo hi none=(match evInt hi n,evInt lo 0 with
 | some h,some l=>if h≤n∧l≤h then some (.sl (h - l) sz ((cs.drop (l*sz)).take ((h - l)*sz))) else none
 | _,_=>none):=by
 obtain ⟨e,i,hu,hi,rfl⟩:=Q1s he;simp only [evSlice,hu,hi,if_true]
 rfl
theorem evSlice_gs {P:Program} {ms:List Mem} {t:TypeId} {b o n sz k:Nat} {lo hi:Option AV} (he:elemO P t=some sz):evSlice P ms t (.gs b o n sz k) lo hi none=(match evInt hi n,evInt lo 0 with
 | some h,some l=>if h≤n∧l≤h then some (.gs b (o+l*sz) (h - l) sz (k - l)) else none
 | _,_=>none):=by
 obtain ⟨e,i,hu,hi,rfl⟩:=Q1s he;simp only [evSlice,hu,hi,if_true]
 rfl
attribute [go_sem] evSlice_sl evSlice_gs rowsL_eq buildSl
attribute [go_sem] reL_cons reL_nil reA_any reA_g reA_sl reA_ept reA_z0 reA_ptr reA_gs reA_mp reA_fn reA_agg reA_tup lkE_zero lk_cons leL_cons leL_nil
attribute [go_sem] fillL rowsL aggM isCell_int isCell_str isCell_bool isCell_slice isCell_gptr isCell_sl isCell_gs isCell_z0 isCell_ptr isCell_ept isCell_fn isCell_mp cellsA_agg cellsA_g cellsA_sl cellsA_gs cellsA_z0 cellsA_ptr cellsA_ept cellsA_fn cellsA_mp toGs toG putA
def loopW (P:Program) (GT:GTab) (E:Beg) (c:Code) (l:List AV) (m:ML) (n:Nat) (Q:AX→St→Prop):Prop:=W P GT E (.loop c) (stL l m n) Q
def drawK (P:Program) (ops:Array Oper):Prop:=P.follows .mixedOrders=true∧statOk ops=true
theorem drawn {P:Program} {ops:Array Oper} {X:Prop} (h:P.follows .mixedOrders=true) (k:statOk ops=true) (x:X):drawK P ops∧X:=⟨⟨h,k⟩,x⟩
def stepW (P:Program) (GT:GTab) (E:Beg) (b:Bool):Code→List AV→ML→Nat→(AX→St→Prop)→Prop
 | .seq p q,l,m,n,Q=>stepW P GT E b p l m n (thenW P GT E q Q)
 | .block i p,l,m,n,Q=>stepW P GT E b p l m n (blkW i Q)
 | .scope p,l,m,n,Q=>stepW P GT E b p l m n (scopeW Q)
 | .skip,l,m,n,Q=>Q .nrm (stL l m n)
 | .label _,l,m,n,Q=>Q .nrm (stL l m n)
 | .exit i,l,m,n,Q=>Q (.exit i) (stL l m n)
 | .ret,l,m,n,Q=>Q .ret (stL l m n)
 | .cond o p q,l,m,n,Q=>condK P GT E (evL GT l o) p q (stL l m n) Q
 | .region _ ops false,l,m,n,Q=>runL P GT E ops.toList ops.toList l m n Q
 | .region _ ops true,l,m,n,Q=>drawK P ops∧(if b=true then runD P GT E ops.toList ops.toList 0 true [] l m n Q else runQ P GT E ops.toList ops.toList l m n Q)
 | .loop c,l,m,n,Q=>loopW P GT E c l m n Q
 | _,_,_,_,_=>False
section
variable {P:Program} {GT:GTab} {E:Beg} {b:Bool} {l:List AV} {m:ML} {n:Nat} {p q:Code} {Q:AX→St→Prop} {i:Nat} {ops:Array Oper} {o:Operand}
theorem stepW_seq:stepW P GT E b (.seq p q) l m n Q=stepW P GT E b p l m n (thenW P GT E q Q):=Eq.trans rfl rfl
theorem stepW_block:stepW P GT E b (.block i p) l m n Q=stepW P GT E b p l m n (blkW i Q):=Eq.trans rfl rfl
theorem stepW_scope:stepW P GT E b (.scope p) l m n Q=stepW P GT E b p l m n (scopeW Q):=Eq.trans rfl rfl
theorem stepW_skip:stepW P GT E b .skip l m n Q=Q .nrm (stL l m n):=Eq.trans rfl rfl
theorem stepW_label:stepW P GT E b (.label i) l m n Q=Q .nrm (stL l m n):=Eq.trans rfl rfl
theorem stepW_exit:stepW P GT E b (.exit i) l m n Q=Q (.exit i) (stL l m n):=Eq.trans rfl rfl
theorem stepW_ret:stepW P GT E b .ret l m n Q=Q .ret (stL l m n):=Eq.trans rfl rfl
theorem stepW_cond:stepW P GT E b (.cond o p q) l m n Q=condK P GT E (evL GT l o) p q (stL l m n) Q:=Eq.trans rfl rfl
theorem stepW_plain:stepW P GT E b (.region i ops false) l m n Q=runL P GT E ops.toList ops.toList l m n Q:=Eq.trans rfl rfl
theorem stepW_quiet:stepW P GT E false (.region i ops true) l m n Q=(drawK P ops∧runQ P GT E ops.toList ops.toList l m n Q):=Eq.trans rfl rfl
theorem stepW_drawn:stepW P GT E true (.region i ops true) l m n Q=(drawK P ops∧runD P GT E ops.toList ops.toList 0 true [] l m n Q):=Eq.trans rfl rfl
theorem stepW_loop:stepW P GT E b (.loop p) l m n Q=loopW P GT E p l m n Q:=Eq.trans rfl rfl
theorem W.step:∀ {c:Code} {l:List AV} {m:ML} {n:Nat} {Q:AX→St→Prop},stepW P GT E b c l m n Q→W P GT E c (stL l m n) Q
 | .seq _ _,_,_,_,_,h=>W.seq (W.step (c:=_) h)
 | .block _ _,_,_,_,_,h=>W.block (W.step h)
 | .scope _,_,_,_,_,h=>W.scope (W.step h)
 | .skip,_,_,_,_,h=>W.skip h
 | .label _,_,_,_,_,h=>W.label h
 | .exit _,_,_,_,_,h=>W.exit h
 | .ret,_,_,_,_,h=>W.ret h
 | .cond _ _ _,_,_,_,_,h=>W.condL h
 | .region _ _ false,_,_,_,_,h=>W.regionA h
 | .region _ _ true,_,_,_,_,h=>by
   obtain ⟨⟨h1,h2⟩,h3⟩:=h
   cases b
   ·exact W.regionQA h1 h2 h3
   ·exact W.regionDA h1 h2 h3
 | .loop _,_,_,_,_,h=>h
 | .rangeFunc _ _ _ _,_,_,_,_,h=>h.elim
 | .goto _,_,_,_,_,h=>h.elim
end
attribute [go_sem] stepW_seq stepW_block stepW_scope stepW_skip stepW_label stepW_exit stepW_ret stepW_cond stepW_plain stepW_quiet stepW_drawn stepW_loop
section
variable {P:Program} {GT:GTab} {rd:List Mem} {m:ML} {n:Nat}
end
def wkA (a' a:AV):Prop:=∀ (w:World) (G:Gh) (v:Value),VR w G a v→VR w G a' v
theorem wkA.refl (a:AV):wkA a a:=fun _ _ _ h=>h
theorem wkA.any (a:AV):wkA .any a:=fun _ _ _ _=>trivial
theorem wkA.nil (sz:Nat):wkA (.sl 0 sz []) (.g (.slice none 0 0)):=fun _ _ v h=>by
 obtain rfl:v=.slice none 0 0:=h;exact ⟨none,0,rfl,Nat.le_refl _,.inl rfl⟩
def wkL:List AV→List AV→Prop
 | [],l=>l=[]
 | a::as,l=>∃ x xs,l=x::xs∧wkA a x∧wkL as xs
theorem wkL.refl:∀ l:List AV,wkL l l
 | []=>rfl
 | a::as=>⟨a,as,rfl,wkA.refl a,wkL.refl as⟩
theorem wkL_get:∀ {l' l:List AV},wkL l' l→∀ (t:Nat) (a:AV),l'[t]?=some a→∃ x,l[t]?=some x∧wkA a x
 | [],_,_,t,a,h=>by simp at h
 | a::as,_,h,t,x,hx=>by
   obtain ⟨y,ys,rfl,h1,h2⟩:=h
   cases t with
   | zero=>simp only [List.getElem?_cons_zero,Option.some.injEq] at hx;subst hx;exact ⟨y,rfl,h1⟩
   | succ t=>simp only [List.getElem?_cons_succ] at hx ⊢;exact wkL_get h2 t x hx
def wkM (m:ML):ML→Prop
 | []=>True
 | (c,k)::m'=>(getL m c=some k∨∃ x y,k=.cells x∧getL m c=some (.cells y)∧wkL x y)∧wkM m m'
theorem wkM_get {m:ML}:∀ {m':ML},wkM m m'→∀ (c:Nat) (k:Blk),getL m' c=some k→getL m c=some k∨∃ x y,k=.cells x∧getL m c=some (.cells y)∧wkL x y
 | [],_,c,k,h=>by simp [getL] at h
 | (d,x)::m',h,c,k,hc=>by
   rw [getL] at hc
   split at hc
   ·rename_i hd;subst hd;cases hc;exact h.1
   ·exact wkM_get h.2 c k hc
theorem VS.weak {GT:GTab} {E:Beg} {l l':List AV} {m m':ML} {n:Nat} (hl:wkL l' l) (hm:wkM m m'):VS GT E (stL l m n) (stL l' m' n):=by
 intro base w1 G1 w G ts hm1 hs ht;have cur:∀ c k,(memL m').get c=some k→∃ k',(memL m).get c=some k'∧∀ rb ro,BlkR w G rb ro k'→BlkR w G rb ro k:=by
  intro c k hc;rw [Q0d] at hc;rcases wkM_get hm c k hc with h | ⟨x,y,rfl,h,hxy⟩
  ·exact ⟨k,(Q0d m c).trans h,fun _ _ h=>h⟩
  ·refine ⟨_,(Q0d m c).trans h,fun rb ro hb=>?_⟩
   obtain ⟨c',e',fr',h1,h2,h3⟩:=hb;refine ⟨c',e',fr',h1,h2,fun i a hi=>?_⟩;obtain ⟨z,h4,h5⟩:=wkL_get hxy i a hi;obtain ⟨v,h6,h7⟩:=h3 i z h4;exact ⟨v,h6,h5 w G v h7⟩
 have back:∀ c k,getR (memL m'::E.rd) c=some k→∃ k',getR (memL m::E.rd) c=some k'∧∀ rb ro,BlkR w G rb ro k'→BlkR w G rb ro k:=by
  intro c k hc;rw [Q0c] at hc
  cases hx:(memL m').get c with
  | some y =>
    rw [hx,Option.some_or] at hc;obtain rfl:y=k:=by simpa using hc
    obtain ⟨k',h1,h2⟩:=cur c y hx;exact ⟨k',Q0b h1,h2⟩
  | none =>
    rw [hx,Option.none_or] at hc;have hn:(memL m).get c=none:=by
     cases hy:(memL m).get c with
     | none=>rfl
     | some y=>rw [hs.mr.dj c y hy] at hc;cases hc
    exact ⟨k,by rw [Q0c,hn];exact hc,fun _ _ h=>h⟩
 refine ⟨G,.refl w _,?_,fun t a ha=>?_⟩
 ·exact {
   mr := {
    fresh:=hs.mr.fresh
    blk:=fun c k hc=>by
     obtain ⟨k',h1,h2⟩:=back c k hc;obtain ⟨rb,ro,g1,g2,g3,g4⟩:=hs.mr.blk c k' h1;exact ⟨rb,ro,g1,g2,g3,h2 rb ro g4⟩
    inj:=fun c c' k k' rb ro ro' h1 h2 h3 h4=>by
     obtain ⟨x,g1,-⟩:=back c k h1;obtain ⟨y,g2,-⟩:=back c' k' h2;exact hs.mr.inj c c' x y rb ro ro' g1 g2 h3 h4
    imm:=hs.mr.imm,base:=hs.mr.base,gt:=hs.mr.gt
    dj:=fun c k hc=>by
     obtain ⟨k',h1,-⟩:=cur c k hc
     exact hs.mr.dj c k' h1 }
   ext:=hs.ext,os:=hs.os,tape:=hs.tape,output:=hs.output,size:=hs.size,fr:=hs.fr
   prov:=fun c k rb ro hc h1=>by
    obtain ⟨k',h2,-⟩:=cur c k hc;exact hs.prov c k' rb ro h2 h1
   impr:=hs.impr,mus:=hs.mus,nx:=hs.nx }
 ·rw [Q0l] at ha
  obtain ⟨x,h1,h2⟩:=wkL_get hl t a ha;obtain ⟨v,h3,h4⟩:=ht t x (by rw [Q0l];exact h1);exact ⟨v,h3,h2 w G v h4⟩
theorem W.post {P:Program} {GT:GTab} {E:Beg} {c:Code} {s:St} {Q Q':AX→St→Prop} (h:W P GT E c s Q) (hq:∀ x s',Q x s'→(x=.nrm∨x=.ret)∧∃ s1,VS GT E s' s1∧Q' x s1):W P GT E c s Q':=by
 intro base D w1 G1 w G a hm1 hs ht hd;refine wp_mono (h base D w1 G1 w G a hm1 hs ht hd) fun e a' w' h1=>?_;obtain ⟨x,s',G',h2,h3,h4,h5,h6⟩:=h1;obtain ⟨hx,s1,hv,hq1⟩:=hq x s' h6;obtain ⟨G2,-,h7,h8⟩:=hv base w1 G1 w' G' a'.tmps hm1 h3 (h4 fun v e=>by rcases hx with rfl | rfl <;> cases e)
 refine ⟨x,s1,G2,?_,h7,fun _=>h8,h5,hq1⟩;rcases hx with rfl | rfl <;> exact h2
abbrev postV (P:Program) (GT:GTab) (rs:List ResultVar) (v:AV):AX→St→Prop:=fun x s=>(x=.nrm∨x=.ret)∧∃ s1,VS GT .none s s1∧postP P rs v x s1
theorem postV.of {P:Program} {GT:GTab} {rs:List ResultVar} {v:AV} {x:AX} {s:St} (h:postP P rs v x s):postV P GT rs v x s:=⟨h.1,s,VS.refl s,h⟩
theorem PureN.of_w2 {P:Program} {GT:GTab} {c:Code} {f:FuncId} {fn:Func} {args:List AV} {v:AV} (hf:P.funcs[f]?=some fn) (hb:fn.body=some c) (hn:(fn.name == "runtime.NumGoroutine")=false) (hi:noIdsL args=true)
 (h:W P GT .none c (stL (args++List.replicate (fn.ntmps - args.length) (.g undef)) [] 0) (postV P GT fn.results.toList v)):PureN P GT f args v:=PureN.of_w hf hb hn hi (W.post h fun _ _ h=>h)
theorem Q4b {b:Nat} {cs as as':List AV} {a a':AV}:frL b cs (a'::as') (a::as)=(frA b cs a' a∧frL b cs as' as):=propext ⟨fun ⟨_,_,e,h1,h2⟩=>by cases e;exact ⟨h1,h2⟩,fun ⟨h1,h2⟩=>⟨_,_,rfl,h1,h2⟩⟩
theorem frL_nil {b:Nat} {cs:List AV}:frL b cs [] []=True:=by simp [frL]
theorem frA_any {b:Nat} {cs:List AV} {a:AV}:frA b cs .any a=True:=by simp [frA]
theorem Q4c {b:Nat} {cs:List AV} {a:AV}:frA b cs a a=True:=by simp [frA]
mutual
def reF (g:Nat→Nat):AV→AV
 | .ptr b o=>.ptr (g b) o
 | .gs b o n sz k=>.gs (g b) o n sz k
 | .mp b=>.mp (g b)
 | .fn f x y=>.fn f (reFL g x) (reFL g y)
 | .agg x=>.agg (reFL g x)
 | .tup x=>.tup (reFL g x)
 | .ifc t x=>.ifc t (reF g x)
 | .any=>.any
 | .g v=>.g v
 | .ept cs o=>.ept cs o
 | .sl n sz cs=>.sl n sz cs
 | .z0=>.z0
def reFL (g:Nat→Nat):List AV→List AV
 | []=>[]
 | a::as=>reF g a::reFL g as
end
def reFE (g:Nat→Nat):List (Nat×AV×AV)→List (Nat×AV×AV)
 | []=>[]
 | e::es=>(e.1,reF g e.2.1,reF g e.2.2)::reFE g es
def reFB (g:Nat→Nat):Blk→Blk
 | .cells cs=>.cells (reFL g cs)
 | .map es clk=>.map (reFE g es) clk
 | .sit s p=>.sit s p
mutual
def ltA (n:Nat):AV→Prop
 | .ptr b _=>b<n
 | .gs b _ _ _ _=>b<n
 | .mp b=>b<n
 | .fn _ x y=>ltL n x∧ltL n y
 | .agg x=>ltL n x
 | .tup x=>ltL n x
 | .ifc _ x=>ltA n x
 | _=>True
def ltL (n:Nat):List AV→Prop
 | []=>True
 | a::as=>ltA n a∧ltL n as
end
def ltE (n:Nat):List (Nat×AV×AV)→Prop
 | []=>True
 | e::es=>(ltA n e.2.1∧ltA n e.2.2)∧ltE n es
def ltB (n:Nat):Blk→Prop
 | .cells cs=>ltL n cs
 | .map es _=>ltE n es
 | .sit _ _=>True
section
variable {w:World} {G0 G1:Gh} {g:Nat→Nat} {n:Nat}
theorem rowI {rb o:Nat} {cs:List AV} (hI:G1.I=G0.I):RowR w G0 rb o cs↔RowR w G1 rb o cs:=by
 have e:G1.bare=G0.bare:=by unfold Gh.bare;rw [hI]
 constructor
 ·intro h
  have h2:RowR w G0.bare rb o cs:=bareRow (G:=G0) cs h;rw [←e] at h2;exact RowR.mono (Ext.unbare w G1) cs h2
 ·intro h
  have h2:RowR w G1.bare rb o cs:=bareRow (G:=G1) cs h;rw [e] at h2;exact RowR.mono (Ext.unbare w G0) cs h2
mutual
theorem reF_out (hI:G1.I=G0.I) (hg:∀ c x,G0.μ c=some x→G1.μ (g c)=some x):∀ (a:AV) {v:Value},VR w G0 a v→VR w G1 (reF g a) v
 | .any,_,_=>trivial
 | .g _,_,h=>h
 | .z0,_,h=>h
 | .ept _ _,_,⟨rb,ro,h1,h2⟩=>⟨rb,ro,h1,(rowI hI).1 h2⟩
 | .sl _ _ _,_,⟨a,cap,h1,h2,h3⟩=>⟨a,cap,h1,h2,h3.imp id fun ⟨rb,ro,h4,h5⟩=>⟨rb,ro,h4,(rowI hI).1 h5⟩⟩
 | .ptr b _,_,⟨rb,ro,h1,h2⟩=>⟨rb,ro,hg b _ h1,h2⟩
 | .gs b _ _ _ _,_,⟨rb,ro,o',cap,c,e,fr,h1,h2⟩=>⟨rb,ro,o',cap,c,e,fr,hg b _ h1,h2⟩
 | .mp b,_,⟨rb,h1,h2⟩=>⟨rb,hg b _ h1,h2⟩
 | .fn _ x y,_,⟨rx,ry,h1,h2,h3⟩=>⟨rx,ry,h1,reFL_out hI hg x h2,reFL_out hI hg y h3⟩
 | .agg x,_,⟨rc,h1,h2⟩=>⟨rc,h1,reFL_out hI hg x h2⟩
 | .tup x,_,⟨rc,h1,h2⟩=>⟨rc,h1,reFL_out hI hg x h2⟩
 | .ifc _ x,_,⟨y,h1,h2⟩=>⟨y,h1,reF_out hI hg x h2⟩
theorem reFL_out (hI:G1.I=G0.I) (hg:∀ c x,G0.μ c=some x→G1.μ (g c)=some x):∀ (a:List AV) {v:List Value},VRs w G0 a v→VRs w G1 (reFL g a) v
 | [],_,h=>h
 | a::as,_,⟨v,vs,h1,h2,h3⟩=>⟨v,vs,h1,reF_out hI hg a h2,reFL_out hI hg as h3⟩
end
mutual
theorem reF_in (hI:G1.I=G0.I) (hg:∀ c x,c<n→G1.μ (g c)=some x→G0.μ c=some x):∀ (a:AV) {v:Value},ltA n a→VR w G1 (reF g a) v→VR w G0 a v
 | .any,_,_,_=>trivial
 | .g _,_,_,h=>h
 | .z0,_,_,h=>h
 | .ept _ _,_,_,⟨rb,ro,h1,h2⟩=>⟨rb,ro,h1,(rowI hI).2 h2⟩
 | .sl _ _ _,_,_,⟨a,cap,h1,h2,h3⟩=>⟨a,cap,h1,h2,h3.imp id fun ⟨rb,ro,h4,h5⟩=>⟨rb,ro,h4,(rowI hI).2 h5⟩⟩
 | .ptr b _,_,hl,⟨rb,ro,h1,h2⟩=>⟨rb,ro,hg b _ hl h1,h2⟩
 | .gs b _ _ _ _,_,hl,⟨rb,ro,o',cap,c,e,fr,h1,h2⟩=>⟨rb,ro,o',cap,c,e,fr,hg b _ hl h1,h2⟩
 | .mp b,_,hl,⟨rb,h1,h2⟩=>⟨rb,hg b _ hl h1,h2⟩
 | .fn _ x y,_,hl,⟨rx,ry,h1,h2,h3⟩=>⟨rx,ry,h1,reFL_in hI hg x hl.1 h2,reFL_in hI hg y hl.2 h3⟩
 | .agg x,_,hl,⟨rc,h1,h2⟩=>⟨rc,h1,reFL_in hI hg x hl h2⟩
 | .tup x,_,hl,⟨rc,h1,h2⟩=>⟨rc,h1,reFL_in hI hg x hl h2⟩
 | .ifc _ x,_,hl,⟨y,h1,h2⟩=>⟨y,h1,reF_in hI hg x hl h2⟩
theorem reFL_in (hI:G1.I=G0.I) (hg:∀ c x,c<n→G1.μ (g c)=some x→G0.μ c=some x):∀ (a:List AV) {v:List Value},ltL n a→VRs w G1 (reFL g a) v→VRs w G0 a v
 | [],_,_,h=>h
 | a::as,_,hl,⟨v,vs,h1,h2,h3⟩=>⟨v,vs,h1,reF_in hI hg a hl.1 h2,reFL_in hI hg as hl.2 h3⟩
end
theorem reFE_out (hI:G1.I=G0.I) (hg:∀ c x,G0.μ c=some x→G1.μ (g c)=some x):∀ (es:List (Nat×AV×AV)) {l:List MapEntry},EntR w G0 es l→EntR w G1 (reFE g es) l
 | [],_,h=>h
 | _::es,_,⟨x,xs,h1,⟨h2,h3,h4⟩,h5⟩=>⟨x,xs,h1,⟨h2,reF_out hI hg _ h3,reF_out hI hg _ h4⟩,reFE_out hI hg es h5⟩
theorem reFE_in (hI:G1.I=G0.I) (hg:∀ c x,c<n→G1.μ (g c)=some x→G0.μ c=some x):∀ (es:List (Nat×AV×AV)) {l:List MapEntry},ltE n es→EntR w G1 (reFE g es) l→EntR w G0 es l
 | [],_,_,h=>h
 | _::es,_,hl,⟨x,xs,h1,⟨h2,h3,h4⟩,h5⟩=>⟨x,xs,h1,⟨h2,reF_in hI hg _ hl.1.1 h3,reF_in hI hg _ hl.1.2 h4⟩,reFE_in hI hg es hl.2 h5⟩
theorem reFL_get:∀ (cs:List AV) (i:Nat),(reFL g cs)[i]?=(cs[i]?).map (reF g)
 | [],i=>by simp [reFL]
 | a::as,i=>by
   cases i with
   | zero=>simp [reFL]
   | succ i=>simpa [reFL] using reFL_get as i
theorem ltL_get:∀ {cs:List AV},ltL n cs→∀ (i:Nat) (a:AV),cs[i]?=some a→ltA n a
 | [],_,i,a,h=>by simp at h
 | x::xs,hl,i,a,h=>by
   cases i with
   | zero=>simp only [List.getElem?_cons_zero,Option.some.injEq] at h;rw [←h];exact hl.1
   | succ i=>exact ltL_get hl.2 i a (by simpa using h)
theorem reFB_out (hI:G1.I=G0.I) (hg:∀ c x,G0.μ c=some x→G1.μ (g c)=some x) {rb ro:Nat}:∀ {k:Blk},BlkR w G0 rb ro k→BlkR w G1 rb ro (reFB g k)
 | .cells cs,⟨c,e,fr,h1,h2,h3⟩=>⟨c,e,fr,h1,h2,fun i a hi=>by
    rw [reFL_get] at hi
    cases hx:cs[i]? with
    | none=>rw [hx] at hi;cases hi
    | some x =>
      rw [hx] at hi
      cases hi
      obtain ⟨v,h4,h5⟩:=h3 i x hx
      exact ⟨v,h4,reF_out hI hg x h5⟩⟩
 | .map es clk,⟨h1,l,h2,h3⟩=>⟨h1,l,h2,reFE_out hI hg es h3⟩
 | .sit _ _,h=>h
theorem reFB_in (hI:G1.I=G0.I) (hg:∀ c x,c<n→G1.μ (g c)=some x→G0.μ c=some x) {rb ro:Nat}:∀ {k:Blk},ltB n k→BlkR w G1 rb ro (reFB g k)→BlkR w G0 rb ro k
 | .cells cs,hl,⟨c,e,fr,h1,h2,h3⟩=>⟨c,e,fr,h1,h2,fun i a hi=>by
    obtain ⟨v,h4,h5⟩:=h3 i (reF g a) (by rw [reFL_get,hi];rfl)
    exact ⟨v,h4,reF_in hI hg a (ltL_get hl i a hi) h5⟩⟩
 | .map es clk,hl,⟨h1,l,h2,h3⟩=>⟨h1,l,h2,reFE_in hI hg es hl h3⟩
 | .sit _ _,_,h=>h
end
def fnm (q:Ren) (n0 n:Nat) (c:Nat):Nat:=if c<n0 then (lk q c).getD 0 else n+(c - n0)
section
variable {P:Program} {GT:GTab} {rd:List Mem}
theorem CallM.frame {f:FuncId} {g:Nat→Nat} {q:Ren} {n0 n1 n:Nat} {m0 m1:ML} {args0:List AV} {a0:AV} {cur cur':Mem} (h:CallM P GT [] m0 n0 f args0 a0 m1 n1) (hg:g=fnm q n0 n) (ha:ltL n0 args0)
 (h0:∀ c k,getL m0 c=some k→c<n0∧ltB n0 k∧cur.get (g c)=some (reFB g k)) (hi:∀ c c' k k',getL m0 c=some k→getL m0 c'=some k'→g c=g c'→c=c')
 (h1:∀ c k,getL m1 c=some k→cur'.get (g c)=some (reFB g k)∧(c<n0→∃ k',getL m0 c=some k'))
 (h2:∀ b y,cur'.get b=some y→(∃ c k,getL m1 c=some k∧g c=b)∨(cur.get b=some y∧∀ c k,getL m0 c=some k→g c≠b)) :
 ATri P GT f (reFL g args0) rd cur n (.ret (reF g a0)) cur' (n+(n1 - n0)):=by
 intro base F w G rargs hm hv hF;have hG0I:G.I=(⟨fun c=>if c<n0 then G.μ (g c) else none,G.I⟩:Gh).I:=rfl;have back:∀ c x,c<n0→G.μ (g c)=some x→(⟨fun c=>if c<n0 then G.μ (g c) else none,G.I⟩:Gh).μ c=some x:=fun c x hc hx=>(if_pos hc).trans hx;have far:∀ {b:Nat} {x:Nat×Nat},G.μ b=some x→¬(n≤b∧b<n+(n1 - n0)):=by
  rintro b x hx ⟨hb1,hb2⟩;rw [hm.fresh b hb1 (hF b hb1 hb2)] at hx;cases hx
 have hget0:∀ {c k},getR [memL m0] c=some k→getL m0 c=some k:=by
  intro c k hc;rw [Q0c,Q0d] at hc
  cases hx:getL m0 c with
  | some y=>rw [hx] at hc;exact hc
  | none=>rw [hx] at hc;cases hc
 have hm0 : MR base GT allF [] (memL m0) n0 w ⟨fun c => if c < n0 then G.μ (g c) else none, G.I⟩ := {
  fresh:=fun c hc _=>if_neg (by omega)
  blk:=fun c k hc=>by
   obtain ⟨hlt,hlb,hcur⟩:=h0 c k (hget0 hc);obtain ⟨rb,ro,e1,e2,e3,e4⟩:=hm.blk (g c) _ (Q0b hcur);exact ⟨rb,ro,(if_pos hlt).trans e1,e2,e3,reFB_in (g:=g) (n:=n0) hG0I back hlb e4⟩
  inj:=fun c c' k k' r o o' hc hc' e1 e2=>by
   obtain ⟨hlt,-,hcur⟩:=h0 c k (hget0 hc);obtain ⟨hlt',-,hcur'⟩:=h0 c' k' (hget0 hc');have e1':G.μ (g c)=some (r,o):=(if_pos hlt).symm.trans e1;have e2':G.μ (g c')=some (r,o'):=(if_pos hlt').symm.trans e2;exact hi c c' k k' (hget0 hc) (hget0 hc') (hm.inj _ _ _ _ r o o' (Q0b hcur) (Q0b hcur') e1' e2')
  imm:=hm.imm,base:=hm.base
  gt:=fun r cs hr=>(rowI (G0:=G) (G1:=⟨fun c=>if c<n0 then G.μ (g c) else none,G.I⟩) rfl).1 (hm.gt r cs hr)
  dj:=fun _ _ _=>rfl }
 refine (h.1 base w _ rargs hm0 (reFL_in (g:=g) (n:=n0) hG0I back args0 ha hv)).mono ?_;rintro e w' ⟨r,G1,rfl,hS,hr⟩;have fwd:∀ c x,G1.μ c=some x→(⟨fun b=>if n≤b∧b<n+(n1 - n0) then G1.μ (b - n+n0) else G.μ b,G1.I⟩:Gh).μ (g c)=some x:=by
  intro c x hx;show (if n≤g c∧g c<n+(n1 - n0) then G1.μ (g c - n+n0) else G.μ (g c))=some x;rcases Nat.lt_or_ge c n0 with hc | hc
  ·rcases hS.mus c x hx with h3 | h3
   ·have h3':G.μ (g c)=some x:=(if_pos hc).symm.trans h3
    rw [if_neg (far h3')];exact h3'
   ·omega
  ·have hc1:c<n1:=by
    rcases Nat.lt_or_ge c n1 with h4 | h4
    ·exact h4
    ·rw [hS.mr.fresh c h4 trivial] at hx;cases hx
   have e:g c=n+(c - n0):=by rw [hg];unfold fnm;rw [if_neg (by omega)]
   rw [e,if_pos (by omega),show n+(c - n0) - n+n0=c by omega];exact hx
 have hIn:(⟨fun b=>if n≤b∧b<n+(n1 - n0) then G1.μ (b - n+n0) else G.μ b,G1.I⟩:Gh).I=G1.I:=rfl;have hmu:∀ {b:Nat} {x:Nat×Nat},G.μ b=some x→(⟨fun b=>if n≤b∧b<n+(n1 - n0) then G1.μ (b - n+n0) else G.μ b,G1.I⟩:Gh).μ b=some x:=fun hx=>(if_neg (far hx)).trans hx;have hext:Ext w w' G ⟨fun b=>if n≤b∧b<n+(n1 - n0) then G1.μ (b - n+n0) else G.μ b,G1.I⟩:=⟨fun b x hx=>hmu hx,hS.ext.im,hS.ext.same,hS.ext.shape⟩;have zero:∀ {rb:Nat},(∃ b0 k0 ro0,(memL m0).get b0=some k0∧(⟨fun c=>if c<n0 then G.μ (g c) else none,G.I⟩:Gh).μ b0=some (rb,ro0))→∃ c k ro0,getL m0 c=some k∧cur.get (g c)=some (reFB g k)∧G.μ (g c)=some (rb,ro0):=by
  rintro rb ⟨c,k,ro0,g1,g2⟩;rw [Q0d] at g1;obtain ⟨hlt,-,hcur⟩:=h0 c k g1;exact ⟨c,k,ro0,g1,hcur,(if_pos hlt).symm.trans g2⟩
 have hoth:∀ {b:Nat} {y:Blk},(∀ c k,getL m0 c=some k→g c≠b)→getR (cur::rd) b=some y→∃ rb ro,G.μ b=some (rb,ro)∧base≤rb∧¬G1.I rb∧rb<w.heap.size∧(∀ c k ro0,getL m0 c=some k→G.μ (g c)≠some (rb,ro0))∧BlkR w' ⟨fun b=>if n≤b∧b<n+(n1 - n0) then G1.μ (b - n+n0) else G.μ b,G1.I⟩ rb ro y:=by
  intro b y hb hy;obtain ⟨rb,ro,g1,g2,g3,g4⟩:=hm.blk b y hy;have hne:∀ c k ro0,getL m0 c=some k→G.μ (g c)≠some (rb,ro0):=fun c k ro0 hc he=>hb c k hc (hm.inj (g c) b _ y rb ro0 ro (Q0b (h0 c k hc).2.2) hy he g1);refine ⟨rb,ro,g1,g2,fun hi=>?_,g4.lt,hne,g4.mono hext (hS.fr rb g4.lt fun b0 k0 ro0 e1 e2=>?_)⟩
  ·rcases hS.impr rb hi with h3 | h3 | h3
   ·exact g3 h3
   ·have:=g4.lt;omega
   ·obtain ⟨c,k,ro0,k1,-,k3⟩:=zero h3;exact hne c k ro0 k1 k3
  ·obtain ⟨c,k,ro1,k1,-,k3⟩:=zero ⟨b0,k0,ro0,e1,e2⟩;exact hne c k ro1 k1 k3
 have hcase:∀ {b:Nat} {y:Blk},getR (cur'::rd) b=some y→(∃ c k,getL m1 c=some k∧g c=b∧y=reFB g k)∨((∀ c k,getL m0 c=some k→g c≠b)∧getR (cur::rd) b=some y):=by
  intro b y hb;rw [Q0c] at hb
  cases hc:cur'.get b with
  | some z =>
    rw [hc,Option.some_or] at hb;obtain rfl:z=y:=by simpa using hb
    rcases h2 b z hc with ⟨c,k,g1,g2⟩ | ⟨g1,g2⟩
    ·refine .inl ⟨c,k,g1,g2,?_⟩
     have:=(h1 c k g1).1;rw [g2,hc] at this;exact Option.some.inj this
    ·exact .inr ⟨g2,Q0b g1⟩
  | none =>
    rw [hc,Option.none_or] at hb;have hcn:cur.get b=none:=by
     cases hx:cur.get b with
     | none=>rfl
     | some z=>rw [hm.dj b z hx] at hb;cases hb
    refine .inr ⟨fun c k g1 g2=>?_,by rw [Q0c,hcn,Option.none_or];exact hb⟩;have:=(h0 c k g1).2.2;rw [g2,hcn] at this;cases this
 have hnew:∀ {c:Nat} {k:Blk},getL m1 c=some k→∃ rb ro,G1.μ c=some (rb,ro)∧base≤rb∧¬G1.I rb∧BlkR w' G1 rb ro k:=fun {c k} hc=>hS.mr.blk c k (Q0b ((Q0d m1 c).trans hc));have hplace:∀ {c:Nat} {k:Blk} {rb ro:Nat},getL m1 c=some k→G1.μ c=some (rb,ro)→w.heap.size≤rb∨∃ c0 k0 ro0,getL m0 c0=some k0∧cur.get (g c0)=some (reFB g k0)∧G.μ (g c0)=some (rb,ro0):=fun {c k rb ro} hc hx=>(hS.prov c k rb ro ((Q0d m1 c).trans hc) hx).imp id zero;refine ⟨⟨fun b=>if n≤b∧b<n+(n1 - n0) then G1.μ (b - n+n0) else G.μ b,G1.I⟩,?_,r,rfl,reF_out (G0:=G1) (g:=g) hIn fwd a0 hr⟩
 exact {
  mr := {
   fresh:=fun b hb hFb=>by
    show (if n≤b∧b<n+(n1 - n0) then _ else G.μ b)=none;rw [if_neg (by omega)];exact hm.fresh b (by omega) hFb
   blk:=fun b y hb=>by
    rcases hcase hb with ⟨c,k,g1,rfl,rfl⟩ | ⟨g1,g2⟩
    ·obtain ⟨rb,ro,e1,e2,e3,e4⟩:=hnew g1
     exact ⟨rb,ro,fwd c _ e1,e2,e3,reFB_out (G0:=G1) (g:=g) hIn fwd e4⟩
    ·obtain ⟨rb,ro,e1,e2,e3,-,-,e4⟩:=hoth g1 g2
     exact ⟨rb,ro,hmu e1,e2,e3,e4⟩
   inj:=fun b b' y y' rb o o' hb hb' e1 e2=>by
    have mix:∀ {c:Nat} {k:Blk} {b':Nat} {y':Blk} {o o':Nat},getL m1 c=some k→(∀ c k,getL m0 c=some k→g c≠b')→getR (cur::rd) b'=some y'→(⟨fun b=>if n≤b∧b<n+(n1 - n0) then G1.μ (b - n+n0) else G.μ b,G1.I⟩:Gh).μ (g c)=some (rb,o)→(⟨fun b=>if n≤b∧b<n+(n1 - n0) then G1.μ (b - n+n0) else G.μ b,G1.I⟩:Gh).μ b'=some (rb,o')→False:=by
     intro c k b' y' o o' g1 g2 g3 e1 e2;obtain ⟨rc,roc,k1,-,-,-⟩:=hnew g1;have:=fwd c _ k1;rw [this] at e1;cases e1;obtain ⟨rb',ro',k2,-,-,k3,k4,-⟩:=hoth g2 g3;rw [hmu k2] at e2;cases e2;rcases hplace g1 k1 with h5 | ⟨c0,k0,ro0,h5,-,h6⟩
     ·omega
     ·exact k4 c0 k0 ro0 h5 h6
    rcases hcase hb with ⟨c,k,g1,rfl,-⟩ | ⟨g1,g2⟩ <;> rcases hcase hb' with ⟨c',k',g1',rfl,-⟩ | ⟨g1',g2'⟩
    ·obtain ⟨rc,roc,k1,-,-,-⟩:=hnew g1
     obtain ⟨rc',roc',k1',-,-,-⟩:=hnew g1';rw [fwd c _ k1] at e1;cases e1;rw [fwd c' _ k1'] at e2;cases e2;rw [hS.mr.inj c c' k k' rb o o' (Q0b ((Q0d m1 c).trans g1)) (Q0b ((Q0d m1 c').trans g1')) k1 k1']
    ·exact (mix g1 g1' g2' e1 e2).elim
    ·exact (mix g1' g1 g2 e2 e1).elim
    ·obtain ⟨r1,o1,k1,-⟩:=hoth g1 g2
     obtain ⟨r2,o2,k2,-⟩:=hoth g1' g2';rw [hmu k1] at e1;cases e1;rw [hmu k2] at e2;cases e2;exact hm.inj b b' y y' rb o o' g2 g2' k1 k2
   imm:=hS.mr.imm,base:=hS.mr.base
   gt:=fun r cs hr=>(rowI (G0:=G1) (G1:=⟨fun b=>if n≤b∧b<n+(n1 - n0) then G1.μ (b - n+n0) else G.μ b,G1.I⟩) rfl).1 (hS.mr.gt r cs hr)
   dj := fun b y hb=>by
    rcases h2 b y hb with ⟨c,k,g1,rfl⟩ | ⟨g1,-⟩
    ·rcases Nat.lt_or_ge c n0 with hc | hc
     ·obtain ⟨k',g3⟩:=(h1 c k g1).2 hc
      exact hm.dj _ _ (h0 c k' g3).2.2
     ·obtain ⟨rb,ro,k1,-⟩:=hnew g1
      have hc1:c<n1:=by
       rcases Nat.lt_or_ge c n1 with h4 | h4
       ·exact h4
       ·rw [hS.mr.fresh c h4 trivial] at k1;cases k1
      have e:g c=n+(c - n0):=by rw [hg];unfold fnm;rw [if_neg (by omega)]
      cases hr:getR rd (g c) with
      | none=>rfl
      | some z =>
        have hz:getR (cur::rd) (g c)=some (((cur.get (g c)).or (some z)).getD z):=by
         rw [Q0c,hr]
         cases cur.get (g c) <;> rfl
        obtain ⟨rb2,ro2,k2,-⟩:=hm.blk _ _ hz;exact absurd ⟨by omega,by omega⟩ (far k2)
    ·exact hm.dj b y g1 }
  ext:=hext
  os:=hS.os,tape:=hS.tape,output:=hS.output,size:=hS.size
  fr:=fun rb hrb ho=>hS.fr rb hrb fun b0 k0 ro0 e1 e2=>by
   obtain ⟨c,k,ro1,-,k2,k3⟩:=zero ⟨b0,k0,ro0,e1,e2⟩;exact ho (g c) _ ro1 k2 k3
  prov:=fun b y rb ro hb hx=>by
   rcases h2 b y hb with ⟨c,k,g1,rfl⟩ | ⟨g1,g2⟩
   ·obtain ⟨rc,roc,k1,-⟩:=hnew g1
    rw [fwd c _ k1] at hx;cases hx;rcases hplace g1 k1 with h5 | ⟨c0,k0,ro0,-,h5,h6⟩
    ·exact .inl h5
    ·exact .inr ⟨g c0,_,ro0,h5,h6⟩
   ·obtain ⟨r1,o1,k1,-⟩:=hoth g2 (Q0b g1)
    rw [hmu k1] at hx;cases hx;exact .inr ⟨b,y,ro,g1,k1⟩
  impr:=fun rb hi=>by
   rcases hS.impr rb hi with h3 | h3 | h3
   ·exact .inl h3
   ·exact .inr (.inl h3)
   ·obtain ⟨c,k,ro0,-,k2,k3⟩:=zero h3;exact .inr (.inr ⟨g c,_,ro0,k2,k3⟩)
  mus:=fun b x hx=>by
   by_cases hb:n≤b∧b<n+(n1 - n0)
   ·exact .inr hb.1
   ·exact .inl ((if_neg hb).symm.trans hx)
  nx:=Nat.le_add_right _ _ }
def afterL (g:Nat→Nat) (m m0 m1:ML):ML:=(m1.map fun p=>(g p.1,reFB g p.2))++m.filter fun p=>!(m0.any fun r=>Nat.beq (g r.1) p.1)
theorem getL_app:∀ (x y:ML) (b:Nat),getL (x++y) b=(getL x b).or (getL y b)
 | [],y,b=>by simp [getL]
 | (c,k)::x,y,b=>by
   show getL ((c,k)::(x++y)) b=_;rw [getL,getL,getL_app x y b]
   split <;> simp
theorem getL_filt (p:Nat→Bool):∀ (m:ML) (b:Nat),getL (m.filter fun r=>p r.1) b=if p b then getL m b else none
 | [],b=>by simp [getL]
 | (c,k)::m,b=>by
   have ih:=getL_filt p m b
   by_cases h:p c=true
   ·have:(((c,k)::m).filter fun r=>p r.1)=(c,k)::m.filter fun r=>p r.1:=by simp [h]
    rw [this,getL,getL,ih]
    by_cases hc:c=b
    ·subst hc;rw [if_pos rfl,if_pos rfl,if_pos h]
    ·rw [if_neg hc,if_neg hc]
   ·have:(((c,k)::m).filter fun r=>p r.1)=m.filter fun r=>p r.1:=by simp [h]
    rw [this,getL,ih]
    by_cases hc:c=b
    ·subst hc;rw [if_neg h,if_neg h]
    ·rw [if_neg hc]
theorem Q1a:∀ {m:ML} {b:Nat} {k:Blk},getL m b=some k→(b,k)∈m
 | [],b,k,h=>by simp [getL] at h
 | (c,x)::m,b,k,h=>by
   rw [getL] at h
   split at h
   ·rename_i hc;subst hc;cases h;exact List.mem_cons_self
   ·exact List.mem_cons_of_mem _ (Q1a h)
theorem getL_mapF {g:Nat→Nat}:∀ (m:ML),(∀ p∈m,∀ p'∈m,g p.1=g p'.1→p.1=p'.1)→∀ (b:Nat) (y:Blk),getL (m.map fun p=>(g p.1,reFB g p.2)) b=some y↔∃ c k,getL m c=some k∧g c=b∧y=reFB g k
 | [],_,b,y=>by simp [getL]
 | (d, x)::m,hg,b,y=>by
   have ih:=getL_mapF m (fun p hp p' hp'=>hg p (List.mem_cons_of_mem _ hp) p' (List.mem_cons_of_mem _ hp')) b y;show getL ((g d,reFB g x)::m.map fun p=>(g p.1,reFB g p.2)) b=some y↔_;rw [getL]
   by_cases h:g d=b
   ·rw [if_pos h]
    constructor
    ·intro e;cases e;exact ⟨d,x,by rw [getL,if_pos rfl],h,rfl⟩
    ·rintro ⟨c,k,h1,h2,rfl⟩
     obtain rfl:d=c:=by
      by_cases hd:d=c
      ·exact hd
      ·have h1':=h1
       rw [getL,if_neg hd] at h1';exact hg _ List.mem_cons_self _ (List.mem_cons_of_mem _ (Q1a h1')) (h.trans h2.symm)
     rw [getL,if_pos rfl] at h1
     cases h1;rfl
   ·rw [if_neg h,ih]
    constructor
    ·rintro ⟨c,k,h1,h2,h3⟩
     refine ⟨c,k,?_,h2,h3⟩;rw [getL,if_neg (fun e=>h (by rw [e];exact h2))];exact h1
    ·rintro ⟨c,k,h1,h2,h3⟩
     refine ⟨c,k,?_,h2,h3⟩;rw [getL,if_neg (fun e=>h (by rw [e];exact h2))] at h1;exact h1
def inM (g:Nat→Nat) (n0 n:Nat) (m:ML):ML→Prop
 | []=>True
 | (c,k)::r=>((c<n0∧g c<n)∧ltB n0 k∧getL m (g c)=some (reFB g k))∧inM g n0 n m r
theorem inM_mem {g:Nat→Nat} {n0 n:Nat} {m:ML}:∀ {m0:ML},inM g n0 n m m0→∀ p∈m0,(p.1<n0∧g p.1<n)∧ltB n0 p.2∧getL m (g p.1)=some (reFB g p.2)
 | [],_,p,hp=>by simp at hp
 | (c,k)::r,h,p,hp=>by
   rcases List.mem_cons.1 hp with rfl | hp
   ·exact h.1
   ·exact inM_mem h.2 p hp
def injM (g:Nat→Nat):ML→Prop
 | []=>True
 | p::r=>(r.all fun x=>!Nat.beq (g p.1) (g x.1))=true∧injM g r
theorem injM_mem {g:Nat→Nat}:∀ {m0:ML},injM g m0→∀ p∈m0,∀ p'∈m0,g p.1=g p'.1→p=p'
 | [],_,p,hp,_,_,_=>by simp at hp
 | x::r,h,p,hp,p',hp',e=>by
   have key:∀ y∈r,g x.1≠g y.1:=fun y hy he=>by
    have:=List.all_eq_true.1 h.1 y hy;rw [he,show Nat.beq (g y.1) (g y.1)=true from Nat.beq_refl _] at this
    cases this
   rcases List.mem_cons.1 hp with rfl | hp1 <;> rcases List.mem_cons.1 hp' with rfl | hp1'
   ·rfl
   ·exact (key _ hp1' e).elim
   ·exact (key _ hp1 e.symm).elim
   ·exact injM_mem h.2 p hp1 p' hp1' e
def subM (n0:Nat) (m0:ML):ML→Prop
 | []=>True
 | p::r=>(n0≤p.1∨(m0.any fun x=>Nat.beq x.1 p.1)=true)∧subM n0 m0 r
theorem Q3u {n0:Nat} {m0:ML}:∀ {m1:ML},subM n0 m0 m1→∀ p∈m1,p.1<n0→∃ x∈m0,x.1=p.1
 | [],_,p,hp,_=>by simp at hp
 | y :: r,h,p,hp,hlt=>by
   rcases List.mem_cons.1 hp with rfl | hp1
   ·rcases h.1 with h1 | h1
    ·omega
    ·obtain ⟨x,hx,he⟩:=List.any_eq_true.1 h1
     exact ⟨x,hx,Nat.eq_of_beq_eq_true he⟩
   ·exact Q3u h.2 p hp1 hlt
section
variable {f:FuncId} {g:Nat→Nat} {q:Ren} {n0 n1 n:Nat} {m m0 m1:ML} {args0:List AV} {a0:AV}
theorem names_inj (hg:g=fnm q n0 n) (h0:inM g n0 n m m0) (hi:injM g m0) (hs:subM n0 m0 m1):∀ p∈m1,∀ p'∈m1,g p.1=g p'.1→p.1=p'.1:=by
 have old:∀ p∈m1,p.1<n0→g p.1<n:=fun p hp hlt=>by
  obtain ⟨x,hx,he⟩:=Q3u hs p hp hlt;rw [←he];exact (inM_mem h0 x hx).1.2
 have new:∀ c,n0≤c→g c=n+(c - n0):=fun c hc=>by rw [hg];unfold fnm;rw [if_neg (by omega)]
 intro p hp p' hp' e;rcases Nat.lt_or_ge p.1 n0 with h1 | h1 <;> rcases Nat.lt_or_ge p'.1 n0 with h2 | h2
 ·obtain ⟨x,hx,he⟩:=Q3u hs p hp h1
  obtain ⟨x',hx',he'⟩:=Q3u hs p' hp' h2;have:=injM_mem hi x hx x' hx' (by rw [he,he'];exact e);rw [←he,←he',this]
 ·have:=old p hp h1;have:=new _ h2;omega
 ·have:=old p' hp' h2;have:=new _ h1;omega
 ·have:=new _ h1;have:=new _ h2;omega
theorem CallM.at (h:CallM P GT [] m0 n0 f args0 a0 m1 n1) (hg:g=fnm q n0 n) (ha:ltL n0 args0) (h0:inM g n0 n m m0) (hi:injM g m0) (hs:subM n0 m0 m1) :
 CallM P GT rd m n f (reFL g args0) (reF g a0) (afterL g m m0 m1) (n+(n1 - n0)):=by
 have hat:∀ {c:Nat} {k:Blk},getL m0 c=some k→(c,k)∈m0:=Q1a;have hmap:=getL_mapF (g:=g) m1 (names_inj hg h0 hi hs);have hany:∀ b,(!(m0.any fun r=>Nat.beq (g r.1) b))=true↔∀ p∈m0,g p.1≠b:=by
  intro b;rw [Bool.not_eq_true',←Bool.not_eq_true,List.any_eq_true];exact ⟨fun h p hp e=>h ⟨p,hp,Nat.beq_eq▸e⟩,fun h ⟨p,hp,e⟩=>h p hp (Nat.eq_of_beq_eq_true e)⟩
 have hold:∀ b,getL (m.filter fun p=>!(m0.any fun r=>Nat.beq (g r.1) p.1)) b=if (!(m0.any fun r=>Nat.beq (g r.1) b))=true then getL m b else none:=fun b=>getL_filt (fun b=>!(m0.any fun r=>Nat.beq (g r.1) b)) m b
 have hget:∀ {p:Nat×Blk},p∈m0→∃ k,getL m0 p.1=some k:=by
  intro p hp
  cases hx:getL m0 p.1 with
  | some k=>exact ⟨k,rfl⟩
  | none =>
    exfalso;clear h h0 hi hs hat hmap hany hold
    induction m0 with
    | nil=>simp at hp
    | cons x r ih =>
      rw [getL] at hx
      split at hx
      ·cases hx
      ·rename_i hne
       rcases List.mem_cons.1 hp with rfl | hp1
       ·exact hne rfl
       ·exact ih hp1 hx
 have tri:=CallM.frame (rd:=rd) (cur:=memL m) (cur':=memL (afterL g m m0 m1)) h hg ha
  (fun c k hc=>by
    obtain ⟨⟨h1,-⟩,h2,h3⟩:=inM_mem h0 _ (hat hc)
    exact ⟨h1,h2,(Q0d _ _).trans h3⟩)
  (fun c c' k k' hc hc' e=>by have:=injM_mem hi _ (hat hc) _ (hat hc') e;exact congrArg Prod.fst this)
  (fun c k hc=>by
    refine ⟨?_,fun hlt=>?_⟩
    ·rw [Q0d];unfold afterL;rw [getL_app,(hmap (g c) (reFB g k)).2 ⟨c,k,hc,rfl,rfl⟩];rfl
    ·obtain ⟨x,hx,he⟩:=Q3u hs _ (Q1a hc) hlt
     obtain ⟨k',hk'⟩:=hget hx
     exact ⟨k',by rw [←hk',he]⟩)
  (fun b y hb=>by
    rw [Q0d] at hb;unfold afterL at hb;rw [getL_app] at hb
    cases hx:getL (m1.map fun p=>(g p.1,reFB g p.2)) b with
    | some z =>
      obtain ⟨c,k,h1,h2,-⟩:=(hmap b z).1 hx;exact .inl ⟨c,k,h1,h2⟩
    | none =>
      rw [hx,Option.none_or,hold] at hb
      split at hb
      ·rename_i hp
       exact .inr ⟨(Q0d _ _).trans hb,fun c k hc=>(hany b).1 hp _ (hat hc)⟩
      ·cases hb)
 refine ⟨fun base w G rargs hm hv=>?_,h.2⟩;refine (tri base allF w G rargs hm hv fun _ _ _=>trivial).mono ?_;rintro e w' ⟨G',h1,r,rfl,h2⟩;exact ⟨r,G',rfl,h1,h2⟩
theorem CallM.atD (h:CallM P GT [] m0 n0 f args0 a0 m1 n1) (hg:g=fnm q n0 n) (ha:ltL n0 args0) (h0:inM g n0 n m m0) (hi:injM g m0) (hs:subM n0 m0 m1) (hle:n0≤n1) (hb1:∀ p∈m1,p.1<n1) :
 CallD P GT rd m n f (reFL g args0) (m0.map fun p=>g p.1) (reF g a0) (afterL g m m0 m1) (n+(n1 - n0)):=by
 have hat:∀ {c:Nat} {k:Blk},getL m0 c=some k→(c,k)∈m0:=Q1a;have hmap:=getL_mapF (g:=g) m1 (names_inj hg h0 hi hs);have hW:∀ b,(m0.map fun p=>g p.1).contains b=true↔∃ p∈m0,g p.1=b:=fun b=>by
  rw [List.contains_iff_mem,List.mem_map]
 have hany:∀ b,(m0.any fun r=>Nat.beq (g r.1) b)=(m0.map fun p=>g p.1).contains b:=by
  intro b;rw [Bool.eq_iff_iff,hW,List.any_eq_true];exact ⟨fun ⟨p,hp,e⟩=>⟨p,hp,Nat.eq_of_beq_eq_true e⟩,fun ⟨p,hp,e⟩=>⟨p,hp,Nat.beq_eq▸e⟩⟩
 have hold:∀ b,getL (m.filter fun p=>!(m0.any fun r=>Nat.beq (g r.1) p.1)) b=if (!(m0.any fun r=>Nat.beq (g r.1) b))=true then getL m b else none:=fun b=>getL_filt (fun b=>!(m0.any fun r=>Nat.beq (g r.1) b)) m b
 have hget:∀ {p:Nat×Blk},p∈m0→∃ k,getL m0 p.1=some k:=by
  intro p hp
  cases hx:getL m0 p.1 with
  | some k=>exact ⟨k,rfl⟩
  | none =>
    exfalso;clear h h0 hi hs hat hmap hany hold hW
    induction m0 with
    | nil=>simp at hp
    | cons x r ih =>
      rw [getL] at hx
      split at hx
      ·cases hx
      ·rename_i hne
       rcases List.mem_cons.1 hp with rfl | hp1
       ·exact hne rfl
       ·exact ih hp1 hx
 refine ⟨Nat.le_add_right _ _,h.2,fun b hb=>?_,memL (m1.map fun p=>(g p.1,reFB g p.2)),?_,fun b=>?_,fun b x hb=>?_⟩
 ·obtain ⟨p,hp,rfl⟩:=List.mem_map.1 hb
  exact ⟨_,(inM_mem h0 p hp).2.2⟩
 ·refine CallM.frame (rd:=.e::rd) (cur:=memL (restrL m (m0.map fun p=>g p.1))) h hg ha
   (fun c k hc=>by
     obtain ⟨⟨h1,-⟩,h2,h3⟩:=inM_mem h0 _ (hat hc)
     exact ⟨h1,h2,by rw [Q0d,Q0j,if_pos ((hW _).2 ⟨_,hat hc,rfl⟩)];exact h3⟩)
   (fun c c' k k' hc hc' e=>by have:=injM_mem hi _ (hat hc) _ (hat hc') e;exact congrArg Prod.fst this)
   (fun c k hc=>by
     refine ⟨(Q0d _ _).trans ((hmap (g c) (reFB g k)).2 ⟨c,k,hc,rfl,rfl⟩),fun hlt=>?_⟩;obtain ⟨x,hx,he⟩:=Q3u hs _ (Q1a hc) hlt;obtain ⟨k',hk'⟩:=hget hx
     exact ⟨k',by rw [←hk',he]⟩)
   (fun b y hb=>by
     rw [Q0d] at hb;obtain ⟨c,k,h1,h2,-⟩:=(hmap b y).1 hb
     exact .inl ⟨c,k,h1,h2⟩)
 ·unfold afterL
  rw [getL_app,Q0d,hold,hany]
  cases (m0.map fun p=>g p.1).contains b <;> rfl
 ·rw [Q0d] at hb
  obtain ⟨c,k,h1,h2,-⟩:=(hmap b x).1 hb;rcases Nat.lt_or_ge c n0 with hc | hc
  ·obtain ⟨y,hy,he⟩:=Q3u hs _ (Q1a h1) hc
   exact .inl (List.mem_map.2 ⟨y,hy,by rw [he];exact h2⟩)
  ·have e:g c=n+(c - n0):=by rw [hg];unfold fnm;rw [if_neg (by omega)]
   have:=hb1 _ (Q1a h1);refine .inr ⟨by omega,?_⟩;simp only at this;omega
end
end
end Go.Ev
end
