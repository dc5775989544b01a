/- Walks over known shapes: names by a function; many blocks that are written no more. Of no program. -/
import Derived.Test.YtabliahkhafddaaGreatLc6
set_option linter.unusedSimpArgs false
noncomputable section
namespace Go.Ev
open Go.RowKit
structure FP where
 W:List Nat
 U:List Nat
 n:Nat
 n':Nat
def appF:List Nat→List Nat→Option (List Nat×List Nat)
 | [],U=>some ([],U)
 | [b],[]=>some ([b],[])
 | [b],[c]=>if b=c then none else some ([b],[c])
 | _,_=>none
def footO (GT:GTab) (l:List AV):Op→Option (List Nat×List Nat)
 | .move _ | .assign _ | .pick _ _ _ | .binOp _ _ _ _ _ | .unOp _ _ _ | .fieldAddr _ _ _ | .field _ _ _ | .indexAddr _ _ _ | .index _ _ _ | .extract _ _ | .nilCheck _ | .makeFunc _ _ _ | .build _ _ | .alloc _ | .box _ _ | .buildSlice _ _ _=>some ([],[])
 | .load _ a=>some ([],idOf (evL GT l a))
 | .slice _ x _ _ _=>some ([],idOf (evL GT l x))
 | .lookup _ x _ _=>some ([],idOf (evL GT l x))
 | .mapUpdate _ x _ _ | .mapEntry _ x _ | .entryStore _ x _ _=>some (idOf (evL GT l x),[])
 | .makeMap _ none=>some ([],[])
 | .makeSlice _ _ _=>some ([],[])
 | .store _ a _=>some (idOf (evL GT l a),[])
 | .call c=>match c.callee,c.args with
   | .builtin .len,_=>some ([],[])
   | .builtin .append,⟨[s,x]⟩=>appF (idOf (evL GT l s)) (idOf (evL GT l x))
   | _,_=>none
 | _=>none
def freeFP (q:FP) (W U:List Nat):Bool:=(U++W).all (fun b=>!q.W.contains b&&!(Nat.ble q.n b&&Nat.blt b q.n'))&&W.all (fun b=>!(q.U++q.W).contains b)
def okD (B:List Nat) (j:Nat) (W U:List Nat):Nat→List FP→Bool
 | _,[]=>true
 | i,q::qs=>(bef B j i||freeFP q W U)&&okD B j W U (i+1) qs
def lowD (n:Nat) (W U:List Nat):Bool:=(U++W).all fun b=>Nat.blt b n
def restrL (m:ML) (W:List Nat):ML:=m.filter fun p=>W.contains p.1
def CallD (P:Program) (GT:GTab) (rd:List Mem) (m:ML) (n:Nat) (f:FuncId) (args:List AV) (W:List Nat) (a:AV) (m':ML) (n':Nat):Prop :=
 n ≤ n'∧(∃ fn,P.funcs[f]?=some fn∧(fn.name == "runtime.NumGoroutine")=false∧fn.body.isNone=false)∧(∀ b∈W,∃ x,getL m b=some x) ∧
   ∃ mt:Mem,ATri P GT f args (.e::rd) (memL (restrL m W)) n (.ret a) mt n'∧(∀ b,getL m' b=(mt.get b).or (if W.contains b then none else getL m b))∧(∀ b x,mt.get b=some x→b∈W∨(n≤b∧b<n'))
def runD (P:Program) (GT:GTab) (E:Beg) (ops:List Oper):List Oper→Nat→Bool→List FP→List AV→ML→Nat→(AX→St→Prop)→Prop
 | [],_,ok,_,l,m,n,Q=>ok=true∧Q .nrm (stL l m n)
 | o :: os,j,ok,fps,l,m,n,Q=>match wantL ops l o.guard with
   | some true=>match callL GT l o.op with
     | some (f,args)=>(∃ a,PureN P GT f args a∧runD P GT E ops os (j+1) ok (fps++[⟨[],[],n,n⟩]) (setO l o.dst a) m n Q) ∨
        (∃ (a:AV) (W:List Nat) (m':ML) (n':Nat),CallD P GT E.rd m n f args W a m' n'∧runD P GT E ops os (j+1) (ok&&(lowD n W []&&okD (befs ops []) j W [] 0 fps)) (fps++[⟨W,[],n,n'⟩]) (setO l o.dst a) m' n' Q)
     | none=>match stepO P GT E.rd m n l o.op with
       | some (v,m',n')=>match footO GT l o.op with
         | some (W,U)=>runD P GT E ops os (j+1) (ok&&(lowD n W U&&okD (befs ops []) j W U 0 fps)) (fps++[⟨W,U,n,n'⟩]) (setO l o.dst v) m' n' Q
         | none=>False
       | none=>False
   | some false=>runD P GT E ops os (j+1) ok (fps++[⟨[],[],n,n⟩]) (setO l o.dst (.g undef)) m n Q
   | none=>False
section
variable {P:Program} {GT:GTab} {E:Beg} {ops os:List Oper} {l l':List AV} {m m':ML} {n n':Nat} {Q:AX→St→Prop}
theorem Q0h (W:List Nat):∀ (m:ML) (b:Nat),getL (restrL m W) b=if W.contains b then getL m b else none
 | [],b=>by simp [restrL,getL]
 | (c,k)::m,b=>by
   have ih:=Q0h W m b
   by_cases h:W.contains c
   ·have:restrL ((c,k)::m) W=(c,k)::restrL m W:=by simp only [restrL,List.filter_cons,h,if_true]
    rw [this,getL,getL,ih]
    by_cases hc:c=b
    ·subst hc;rw [if_pos rfl,if_pos rfl,if_pos h]
    ·rw [if_neg hc,if_neg hc]
   ·have:restrL ((c,k)::m) W=restrL m W:=by simp only [restrL,List.filter_cons,h];rfl
    rw [this,getL,ih]
    by_cases hc:c=b
    ·subst hc;rw [if_pos rfl,if_neg h,if_neg h]
    ·rw [if_neg hc]
def Local (P:Program) (GT:GTab) (rd:List Mem) (m:ML) (n:Nat) (l:List AV) (o:Oper) (W U:List Nat) (v:AV) (m':ML) (n':Nat):Prop :=
 ∃ (ch:CH) (av:Option AV) (mt:Mem),ChOk P GT ch∧evOne P GT ch (memL (restrL m U)::rd) (memL (restrL m W)) n (tmL l) o=some (.val av,mt,n')∧av.getD (.g undef)=v∧n≤n' ∧
   (∀ b,getL m' b=(mt.get b).or (if W.contains b then none else getL m b))∧(∀ b x,mt.get b=some x→b∈W∨(n≤b∧b<n'))∧(∀ b∈W,∃ x,getL m b=some x)∧(∀ b∈W,b∉U)
theorem stepO_quiet_rd {rd rd':List Mem} {m2:ML} {op:Op} {v:AV} (hq:∀ t a,op≠.load t a) (hs:∀ t x lo hi mx,op≠.slice t x lo hi mx) (hlk:∀ t x k ok,op≠.lookup t x k ok) (hqo:quietOp op=true) (h:stepO P GT rd m n l op=some (v,m',n')) :
 stepO P GT rd' m2 n l op=some (v,m2,n):=by
 cases op <;> try (cases hqo;done)
 case load t a=>exact absurd rfl (hq t a)
 case slice t x lo hi mx=>exact absurd rfl (hs t x lo hi mx)
 case lookup t x k ok=>exact absurd rfl (hlk t x k ok)
 case call c =>
  obtain ⟨cal,args,ats⟩:=c;simp only [stepO] at h ⊢
  split at h
  ·split at h
   ·cases h;rfl
   ·cases h
  all_goals first
   | (cases hqo;done)
   | (cases h;done)
 case unOp op t x =>
  cases op <;> simp only [stepO] at h ⊢ <;> first
   | (cases h;done)
   | (split at h
      ·cases h;rfl
      ·cases h)
 all_goals
  simp only [stepO] at h ⊢
 all_goals first
  | (cases h;rfl)
  | (split at h
     ·cases h;rfl
     ·cases h)
  | (split at h
     ·split at h
      ·cases h;rfl
      ·cases h
     ·cases h)
  | (split at h
     ·cases h;rfl
     ·cases h;rfl
     ·cases h)
  | (split at h
     ·cases h;rfl
     ·cases h;rfl
     ·cases h;rfl
     ·cases h)
  | (split at h
     ·split at h
      ·cases h;rfl
      ·cases h
     ·split at h
      ·cases h;rfl
      ·cases h)
theorem Q1j (m:ML):restrL m []=[]:=by simp [restrL]
theorem evOne_nocall {rd:List Mem} {cur:Mem} {nx:Nat} {tm:Tm} {o:Oper} {v:Option AV} {mt:Mem} {nx':Nat} (h:evOne P GT noCH rd cur nx tm o=some (.val v,mt,nx')):∀ c x,o.op=.call c→c.callee≠.value x:=by
 intro c x hop hc;unfold evOne at h;rw [hop] at h;simp only [hc] at h
 split at h
 ·simp only [noCH] at h;cases h
 ·cases h
theorem Q2i {o:Oper} {U:List Nat} {v:AV} {rd:List Mem} (hqo:quietOp o.op=true) (h:stepO P GT rd (restrL m U) n l o.op=some (v,restrL m U,n)):Local P GT rd m n l o [] U v m n:=by
 obtain ⟨av,mt,he,hv,-⟩:=Q2o (ch:=noCH) h;obtain ⟨-,-,he2⟩:=quiet_mem hqo (evOne_nocall he) he;exact ⟨noCH,av,.e,Q2g,by rw [Q1j];exact he2,hv,Nat.le_refl _,fun b=>by simp [Tri.get_e],fun b x hb=>by simp [Tri.get_e] at hb,fun b hb=>by simp at hb,fun b hb=>by simp at hb⟩
theorem local_new {o:Oper} {v:AV} {rd:List Mem} {k:Blk} (h:stepO P GT (.e::rd) [] n l o.op=some (v,[(n,k)],n+1)):Local P GT rd m n l o [] [] v ((n,k)::m) (n+1):=by
 obtain ⟨av,mt,he,hv,hm⟩:=Q2o (ch:=noCH) h;refine ⟨noCH,av,mt,Q2g,by rw [Q1j];exact he,hv,Nat.le_succ _,fun b=>?_,fun b x hb=>?_,fun b hb=>by simp at hb,fun b hb=>by simp at hb⟩
 ·rw [hm b]
  simp only [getL,List.contains_nil,Bool.false_eq_true,if_false]
  split
  ·rfl
  ·rw [Option.none_or]
 ·rw [hm b] at hb
  simp only [getL] at hb
  split at hb
  ·rename_i h1;exact .inr ⟨by omega,by omega⟩
  ·cases hb
theorem evSlice_at {ms ms':List Mem} {t:TypeId} {x:AV} {lo hi mx:Option AV} (h:∀ b∈idOf x,getR ms b=getR ms' b):evSlice P ms t x lo hi mx=evSlice P ms' t x lo hi mx:=by
 unfold evSlice
 cases hu:P.underlying t with
 | none=>rfl
 | some d =>
   cases d
   case array k e =>
    cases mx with
    | some _=>rfl
    | none =>
      simp only
      cases hi2:P.info? e with
      | none=>rfl
      | some i =>
        cases x
        case ptr b o =>
         simp only;rw [h b (by simp [idOf])]
        all_goals rfl
   case slice e=>cases mx <;> rfl
   all_goals rfl
theorem local_set {o:Oper} {b:Nat} {v:AV} {y old:Blk} {rd:List Mem} (hg:getL m b=some old) (h:stepO P GT (.e::rd) (restrL m [b]) n l o.op=some (v,setL (restrL m [b]) b y,n)):Local P GT rd m n l o [b] [] v (setL m b y) n:=by
 have hg1:getL (restrL m [b]) b=some old:=by rw [Q0h];simp [hg]
 obtain ⟨av,mt,he,hv,hm⟩:=Q2o (ch:=noCH) h;have hmt:∀ c,mt.get c=if b=c then some y else none:=by
  intro c;rw [hm c,Q2a]
  by_cases hb:b=c
  ·subst hb;rw [if_pos rfl,if_pos rfl,hg1];rfl
  ·rw [if_neg hb,if_neg hb,Q0h,if_neg (by simpa using fun e=>hb e.symm)]
 refine ⟨noCH,av,mt,Q2g,by rw [Q1j];exact he,hv,Nat.le_refl _,fun c=>?_,fun c x hc2=>?_,fun c hc2=>?_,fun c hc2=>by simp⟩
 ·rw [hmt c,Q2a]
  by_cases hb:b=c
  ·subst hb;rw [if_pos rfl,if_pos rfl,hg];rfl
  ·rw [if_neg hb,if_neg hb,Option.none_or,if_neg (by simpa using fun e=>hb e.symm)]
 ·rw [hmt c] at hc2
  split at hc2
  ·rename_i hb;subst hb;left;simp
  ·cases hc2
 ·simp only [List.mem_singleton] at hc2
  subst hc2;exact ⟨_,hg⟩
theorem newsA_at {ms ms':List Mem} {sz:Nat} {x:AV} (h:∀ b∈idOf x,getR ms b=getR ms' b):newsA ms sz x=newsA ms' sz x:=by
 cases x
 case gs b o k z kc=>simp only [newsA,h b (by simp [idOf])]
 case g v=>unfold newsA;split <;> first | rfl | (rename_i e;cases e)
 all_goals rfl
theorem appF_eq {W U W' U':List Nat} (h:appF W U=some (W',U')):W'=W∧U'=U∧∀ b∈W,b∉U:=by
 unfold appF at h
 split at h
 ·cases h;exact ⟨rfl,rfl,by simp⟩
 ·cases h;exact ⟨rfl,rfl,by simp⟩
 ·split at h
  ·cases h
  ·rename_i hne;cases h;exact ⟨rfl,rfl,by simpa using hne⟩
 ·cases h
theorem appL_local {rd:List Mem} {t xt:TypeId} {s x v:AV} (hd:∀ b∈idOf s,b∉idOf x) (h:appL P rd m n t xt s x=some (v,m',n')) :
 ∃ mr,appL P (memL (restrL m (idOf x))::rd) (restrL m (idOf s)) n t xt s x=some (v,mr,n')∧n≤n'∧(∀ b,getL m' b=(getL mr b).or (if (idOf s).contains b then none else getL m b)) ∧
   (∀ b y,getL mr b=some y→b∈idOf s∨(n≤b∧b<n'))∧(∀ b∈idOf s,∃ y,getL m b=some y):=by
 have hnews:∀ sz,newsA (memL (restrL m (idOf s))::memL (restrL m (idOf x))::rd) sz x=newsA (memL m::rd) sz x:=fun sz=>newsA_at fun b hb=>by
  rw [Q0b,Q0b,Q0b,Q0d,Q0d,Q0d,Q0h,Q0h,if_neg (by simpa using fun e=>hd b e hb),if_pos (by simpa using hb),Option.none_or]
 have keep:∀ b,getL m b=(getL (restrL m (idOf s)) b).or (if (idOf s).contains b then none else getL m b):=by
  intro b;rw [Q0h]
  cases (idOf s).contains b <;> simp
 have inW:∀ b y,getL (restrL m (idOf s)) b=some y→b∈idOf s:=by
  intro b y hb;rw [Q0h] at hb
  split at hb
  ·rename_i h1;simpa using h1
  ·cases hb
 unfold appL at h ⊢
 split at h
 ·rename_i sz bytes h1 h2
  split at h
  ·rename_i news k hn
   simp only [hnews,hn]
   split at h
   ·rename_i hk
    rw [if_pos hk];unfold appZ at h ⊢
    split at h
    ·rename_i b o c z kc
     split at h
     ·rename_i y hy
      cases h
      have hg:getL (restrL m (idOf (.gs b o c z kc))) b=some y:=by rw [Q0h];simpa [idOf] using hy
      simp only [hg];exact ⟨_,rfl,Nat.le_refl _,keep,fun b y hb=>.inl (inW b y hb),fun b' hb=>by simp only [idOf,List.mem_singleton] at hb;subst hb;exact ⟨y,hy⟩⟩
     ·cases h
    ·rename_i hne
     split at h
     ·rename_i hs
      cases h
      have hid:idOf s=[]:=by
       cases s <;> first | rfl | (cases hs;done) | exact (hne _ _ _ _ _ rfl).elim
      refine ⟨restrL m (idOf s),?_,Nat.le_refl _,keep,fun b y hb=>.inl (inW b y hb),fun b' hb=>by rw [hid] at hb;simp at hb⟩
      split
      ·rfl
      ·rename_i hn2;exact absurd hs hn2
     ·cases h
   ·rename_i hk
    rw [if_neg hk]
    split at h
    ·rename_i hc
     rw [if_pos hc]
     split at h
     ·split at h
      ·rename_i hb;cases h
       refine ⟨_,by rw [if_pos hb],Nat.le_succ _,fun b=>?_,fun b y hb=>?_,fun b hb=>by simp [idOf] at hb⟩
       ·simp only [idOf,Q1j,getL,List.contains_nil,Bool.false_eq_true,if_false]
        split <;> simp
       ·simp only [idOf,Q1j,getL] at hb
        split at hb
        ·exact .inr (by omega)
        ·cases hb
      ·cases h
     ·split at h
      ·rename_i hb;cases h
       refine ⟨_,by rw [if_pos hb],Nat.le_succ _,fun b=>?_,fun b y hb=>?_,fun b hb=>by simp [idOf] at hb⟩
       ·simp only [idOf,Q1j,getL,List.contains_nil,Bool.false_eq_true,if_false]
        split <;> simp
       ·simp only [idOf,Q1j,getL] at hb
        split at hb
        ·exact .inr (by omega)
        ·cases hb
      ·cases h
     ·rename_i b o c z kc
      split at h
      ·rename_i bc hg hr
       have hbx:b∉idOf x:=hd b (by simp [idOf]);have hg':getL (restrL m (idOf (.gs b o c z kc))) b=some (.cells bc):=by rw [Q0h];simpa [idOf] using hg
       have hr':getR (memL (restrL m (idOf x))::rd) b=none:=by
        rw [Q0b,Q0d,Q0h,if_neg (by simpa using hbx),Option.none_or];exact hr
       simp only [hg',hr'];have e1:∀ c',(idOf (.gs b o c z kc)).contains c'=decide (c'=b):=fun c'=>by simp [idOf]
       split at h
       ·rename_i hb;cases h
        refine ⟨_,by rw [if_pos hb],Nat.le_refl _,fun c'=>?_,fun c' y hc'=>?_,fun c' hc'=>?_⟩
        ·rw [Q2a,Q2a,Q0h,e1]
         by_cases h5:b=c'
         ·subst h5;simp [hg]
         ·rw [if_neg h5,if_neg h5]
          have h6:¬c'=b:=fun e=>h5 e.symm;simp [h6]
        ·rw [Q2a] at hc'
         split at hc'
         ·rename_i h5;subst h5;left;simp [idOf]
         ·exact .inl (inW c' y hc')
        ·simp only [idOf,List.mem_singleton] at hc';subst hc';exact ⟨_,hg⟩
       ·rename_i hb
        split at h
        ·rename_i hb2;cases h
         refine ⟨_,by rw [if_neg hb,if_pos hb2],Nat.le_succ _,fun c'=>?_,fun c' y hc'=>?_,fun c' hc'=>?_⟩
         ·rw [getL,getL,getL_del,getL_del,Q0h,e1]
          by_cases h4:n=c'
          ·rw [if_pos h4,if_pos h4];rfl
          ·rw [if_neg h4,if_neg h4]
           by_cases h5:b=c'
           ·subst h5;simp
           ·have h6:¬c'=b:=fun e=>h5 e.symm
            simp [h5,h6]
         ·rw [getL] at hc'
          split at hc'
          ·exact .inr (by omega)
          ·rw [getL_del] at hc'
           split at hc'
           ·cases hc'
           ·exact .inl (inW c' y hc')
         ·simp only [idOf,List.mem_singleton] at hc';subst hc';exact ⟨_,hg⟩
        ·cases h
      ·cases h
     ·cases h
    ·cases h
  ·cases h
 ·cases h
theorem local_of {o:Oper} {W U:List Nat} {v:AV} {rd:List Mem} (hf:footO GT l o.op=some (W,U)) (h:stepO P GT rd m n l o.op=some (v,m',n')):Local P GT rd m n l o W U v m' n':=by
 have plain:(∀ t a,o.op≠.load t a)→(∀ t x lo hi mx,o.op≠.slice t x lo hi mx)→(∀ t x k ok,o.op≠.lookup t x k ok)→quietOp o.op=true→W=[]→U=[]→Local P GT rd m n l o W U v m' n':=by
  intro h1 h2 hlk h3 h4 h5;subst h4 h5;have e:=stepO_quiet_rd (rd':=rd) (m2:=m) h1 h2 hlk h3 h;rw [h] at e
  cases e
  exact Q2i h3 (stepO_quiet_rd h1 h2 hlk h3 h)
 cases hop:o.op <;> rw [hop] at hf <;> simp only [footO,Option.some.injEq,Prod.mk.injEq,reduceCtorEq] at hf
 case load t a =>
  obtain ⟨rfl,rfl⟩:=hf;rw [hop] at h;simp only [stepO] at h
  split at h
  ·rename_i u hu
   cases h
   refine Q2i (by rw [hop];rfl) ?_;rw [hop];have:loadL P (restrL m (idOf (evL GT l a))) t (evL GT l a)=some v:=by
    rw [←hu]
    cases hx:evL GT l a <;> simp only [loadL,idOf]
    rw [Q0h];simp
   simp only [stepO,this]
  ·cases h
 case slice t x lo hi mx =>
  obtain ⟨rfl,rfl⟩:=hf;rw [hop] at h;simp only [stepO] at h
  split at h
  ·rename_i s hx
   split at h
   ·rename_i u hu hv
    cases h
    refine Q2i (by rw [hop];rfl) ?_;rw [hop];simp only [stepO,hx,hu,hv]
   ·cases h
  ·cases h
  ·rename_i hxs hx
   split at h
   ·rename_i u hu
    cases h
    refine Q2i (by rw [hop];rfl) ?_;rw [hop];have e:evSlice P (memL (restrL m (idOf (evL GT l x)))::rd) t (evL GT l x) (lo.map (evL GT l)) (hi.map (evL GT l)) (mx.map (evL GT l))=some v:=by
     rw [←hu];refine evSlice_at fun b hb=>?_;rw [Q0b,Q0b,Q0d,Q0d,Q0h,if_pos (by simpa using hb)]
    simp only [stepO];rw [e]
   ·cases h
 case lookup t x k ok =>
  obtain ⟨rfl,rfl⟩:=hf;rw [hop] at h;simp only [stepO] at h
  split at h
  ·rename_i u hu
   cases h
   refine Q2i (by rw [hop];rfl) ?_;rw [hop];have:lookL P (restrL m (idOf (evL GT l x))) t (evL GT l x) (evL GT l k) ok=some v:=by
    rw [←hu]
    cases hx:evL GT l x
    case mp b=>simp only [lookL,idOf];rw [Q0h];simp
    case g y=>unfold lookL;split <;> first | rfl | (rename_i h;cases h)
    all_goals rfl
   simp only [stepO,this]
  ·cases h
 case makeMap t r =>
  cases r with
  | some r=>simp at hf
  | none =>
    simp only [Option.some.injEq,Prod.mk.injEq] at hf;obtain ⟨rfl,rfl⟩:=hf;rw [hop] at h;simp only [stepO] at h
    cases h
    exact local_new (by rw [hop];rfl)
 case mapUpdate t x k y =>
  obtain ⟨rfl,rfl⟩:=hf;rw [hop] at h;simp only [stepO,msetL] at h
  split at h
  ·rename_i b hb
   split at h
   ·rename_i z hz
    cases h
    cases hg:getL m b with
    | none=>rw [hg] at hz;cases hz
    | some old =>
      rw [hb];refine local_set hg ?_;have hg1:getL (restrL m [b]) b=some old:=by rw [Q0h];simp [hg]
      rw [hg] at hz;rw [hop];simp only [stepO,msetL,hb,hg1,hz]
   ·cases h
  ·cases h
 case mapEntry t x k =>
  obtain ⟨rfl,rfl⟩:=hf;rw [hop] at h;simp only [stepO,mentL] at h
  split at h
  ·rename_i b hb
   split at h
   ·rename_i u z hz
    cases h
    cases hg:getL m b with
    | none=>rw [hg] at hz;cases hz
    | some old =>
      rw [hb];refine local_set hg ?_;have hg1:getL (restrL m [b]) b=some old:=by rw [Q0h];simp [hg]
      rw [hg] at hz;rw [hop];simp only [stepO,mentL,hb,hg1,hz]
   ·cases h
  ·cases h
 case entryStore t x k y =>
  obtain ⟨rfl,rfl⟩:=hf;rw [hop] at h;simp only [stepO,estL] at h
  split at h
  ·rename_i b hb
   split at h
   ·rename_i z hz
    cases h
    cases hg:getL m b with
    | none=>rw [hg] at hz;cases hz
    | some old =>
      rw [hb];refine local_set hg ?_;have hg1:getL (restrL m [b]) b=some old:=by rw [Q0h];simp [hg]
      rw [hg] at hz;rw [hop];simp only [stepO,estL,hb,hg1,hz]
   ·cases h
  ·cases h
 case makeSlice t a c =>
  obtain ⟨rfl,rfl⟩:=hf;rw [hop] at h;simp only [stepO,makeL] at h
  split at h
  ·rename_i ka a' kc c' ha hc
   split at h
   ·rename_i sz bytes he
    split at h
    ·rename_i hb;cases h;exact local_new (by rw [hop];simp only [stepO,makeL,ha,hc,he,if_pos hb])
    ·cases h
   ·cases h
  ·cases h
 case alloc t =>
  obtain ⟨rfl,rfl⟩:=hf;rw [hop] at h;simp only [stepO] at h
  split at h
  ·rename_i cs hz;cases h;exact local_new (by rw [hop];simp only [stepO,hz])
  ·cases h
 case box t x =>
  obtain ⟨rfl,rfl⟩:=hf;rw [hop] at h;simp only [stepO] at h
  split at h
  ·rename_i cs hz;cases h;exact local_new (by rw [hop];simp only [stepO,hz])
  ·cases h
 case build t ps =>
  obtain ⟨rfl,rfl⟩:=hf;rw [hop] at h;simp only [stepO] at h
  split at h
  ·rename_i u hu
   cases h
   have h2:stepO P GT (.e::rd) [] n l o.op=some (v,[],n):=by rw [hop];simp only [stepO,hu]
   obtain ⟨av,mt,he,hv,hm⟩:=Q2o (ch:=noCH) h2;refine ⟨noCH,av,mt,Q2g,by rw [Q1j];exact he,hv,Nat.le_refl _,fun b=>?_,fun b x hb=>?_,fun b hb=>by simp at hb,fun b hb=>by simp at hb⟩
   ·rw [hm b];simp [getL]
   ·rw [hm b] at hb;cases hb
  ·cases h
 case buildSlice t k ps =>
  obtain ⟨rfl,rfl⟩:=hf;rw [hop] at h;simp only [stepO,buildSl] at h
  split at h
  ·rename_i sz bb z he
   split at h
   ·rename_i hc
    split at h
    ·rename_i cs hz;cases h;exact local_new (by rw [hop];simp only [stepO,buildSl,he,if_pos hc,hz])
    ·cases h
   ·cases h
  ·cases h
 case store t a x =>
  obtain ⟨rfl,rfl⟩:=hf;rw [hop] at h;simp only [stepO] at h
  split at h
  ·rename_i sz hsz
   unfold storeL at h
   split at h
   ·rename_i b off ha
    split at h
    ·rename_i pc cs hpc hg
     split at h
     ·rename_i hc
      cases h
      have e1:restrL m (idOf (evL GT l a))=restrL m [b]:=by rw [ha];rfl
      have hg1:getL (restrL m [b]) b=some (.cells cs):=by rw [Q0h];simp [hg]
      have h2:stepO P GT (.e::rd) (restrL m [b]) n l o.op=some (.g undef,setL (restrL m [b]) b (.cells (putA cs off pc)),n):=by
       rw [hop];simp only [stepO,hsz,storeL,ha,hpc,hg1,if_pos hc]
      obtain ⟨av,mt,he,hv,hm⟩:=Q2o (ch:=noCH) h2;have hmt:∀ c,mt.get c=if b=c then some (.cells (putA cs off pc)) else none:=by
       intro c;rw [hm c,Q2a]
       by_cases hb:b=c
       ·subst hb;rw [if_pos rfl,if_pos rfl,hg1];rfl
       ·rw [if_neg hb,if_neg hb,Q0h,if_neg (by simpa using fun e=>hb e.symm)]
      refine ⟨noCH,av,mt,Q2g,by rw [Q1j,e1];exact he,hv,Nat.le_refl _,fun c=>?_,fun c x hc2=>?_,fun c hc2=>?_,fun c hc2=>by simp⟩
      ·rw [hmt c,Q2a,ha]
       by_cases hb:b=c
       ·subst hb;rw [if_pos rfl,if_pos rfl,hg];rfl
       ·rw [if_neg hb,if_neg hb,Option.none_or,if_neg (by simpa [idOf] using fun e=>hb e.symm)]
      ·rw [hmt c] at hc2
       split at hc2
       ·rename_i hb;subst hb;left;rw [ha];simp [idOf]
       ·cases hc2
      ·rw [ha] at hc2
       simp only [idOf,List.mem_singleton] at hc2;subst hc2;exact ⟨_,hg⟩
     ·cases h
    ·cases h
   ·cases h
  ·cases h
 case call c =>
  obtain ⟨cal,args,ats⟩:=c;simp only at hf
  split at hf
  ·simp only [Option.some.injEq,Prod.mk.injEq] at hf
   refine plain (by simp [hop]) (by simp [hop]) (by simp [hop]) ?_ hf.1.symm hf.2.symm;rw [hop]
   rfl
  ·rename_i s x
   obtain ⟨rfl,rfl,hd⟩:=appF_eq hf;rw [hop] at h;obtain ⟨ats⟩:=ats
   match ats,h with
   | [t,xt],h =>
     have h':appL P rd m n t xt (evL GT l s) (evL GT l x)=some (v,m',n'):=h;obtain ⟨mr,g1,g2,g3,g4,g5⟩:=appL_local hd h';have h2:stepO P GT (memL (restrL m (idOf (evL GT l x)))::rd) (restrL m (idOf (evL GT l s))) n l o.op=some (v,mr,n'):=by rw [hop];exact g1
     obtain ⟨av,mt,he,hv,hm⟩:=Q2o (ch:=noCH) h2;exact ⟨noCH,av,mt,Q2g,he,hv,g2,fun b=>by rw [hm b];exact g3 b,fun b y hb=>g4 b y (by rw [←hm b];exact hb),g5,hd⟩
  ·cases hf
 all_goals exact plain (by simp [hop]) (by simp [hop]) (by simp [hop]) (by rw [hop];rfl) hf.1.symm hf.2.symm
structure FR (r:Rec) (q:FP):Prop where
 W:r.W=q.W
 U:∀ b,r.U b=true→b∈q.U++q.W
 n:r.nx=q.n
 n':r.nx'=q.n'
def FRs (rs:List Rec) (fps:List FP):Prop:=rs.length=fps.length∧∀ (i:Nat) (r:Rec),rs[i]?=some r→∃ q:FP,fps[i]?=some q∧FR r q
theorem FRs.snoc {rs:List Rec} {fps:List FP} (h:FRs rs fps) {r:Rec} {q:FP} (hr:FR r q):FRs (rs++[r]) (fps++[q]):=by
 refine ⟨by simp [h.1],fun i x hx=>?_⟩
 by_cases hi:i<rs.length
 ·rw [List.getElem?_append_left hi] at hx
  obtain ⟨y,h1,h2⟩:=h.2 i x hx;exact ⟨y,by rw [List.getElem?_append_left (by rw [←h.1];exact hi)];exact h1,h2⟩
 ·rw [List.getElem?_append_right (by omega)] at hx
  have hlt:=(List.getElem?_eq_some_iff.1 hx).1;simp only [List.length_singleton] at hlt;have h0:i - rs.length=0:=by omega
  rw [h0] at hx;simp only [List.getElem?_cons_zero,Option.some.injEq] at hx;subst hx;exact ⟨q,by rw [List.getElem?_append_right (by rw [←h.1];omega),show i - fps.length=0 by rw [←h.1];omega];rfl,hr⟩
theorem okD_get {B:List Nat} {j:Nat} {W U:List Nat}:∀ {fps:List FP} {k:Nat},okD B j W U k fps=true→∀ (i:Nat) (q:FP),fps[i]?=some q→bef B j (k+i)=true∨freeFP q W U=true
 | [],k,_,i,q,h=>by simp at h
 | p :: ps,k,hk,i,q,h=>by
   simp only [okD,Bool.and_eq_true,Bool.or_eq_true] at hk
   cases i with
   | zero=>simp only [List.getElem?_cons_zero,Option.some.injEq] at h;subst h;exact hk.1
   | succ i =>
     have:=okD_get hk.2 i q (by simpa using h)
     rwa [show k+1+i=k+(i+1) by omega] at this
theorem freeFP_spec {q:FP} {W U:List Nat} (h:freeFP q W U=true):(∀ b,b∈U++W→b∉q.W∧¬(q.n≤b∧b<q.n'))∧∀ b∈W,b∉q.U++q.W:=by
 simp only [freeFP,Bool.and_eq_true,List.all_eq_true] at h;refine ⟨fun b hb=>?_,fun b hb=>?_⟩
 ·have:=h.1 b hb
  simp only [Bool.not_eq_true'] at this;refine ⟨fun h1=>?_,fun h1=>?_⟩
  ·have h2:=this.1
   rw [←Bool.not_eq_true] at h2;exact h2 (List.contains_iff_mem.2 h1)
  ·have h2:=this.2
   rw [Nat.ble_eq_true_of_le h1.1,show Nat.blt b q.n'=true from Nat.ble_eq_true_of_le h1.2] at h2
   cases h2
 ·have:=h.2 b hb
  intro h1;rw [Bool.not_eq_true',←Bool.not_eq_true] at this;exact this (List.contains_iff_mem.2 h1)
theorem oneCH {rd:List Mem} {cur mt:Mem} {f:FuncId} {args:List AV} {a:AV} (hle:n≤n') (hfn:∃ fn,P.funcs[f]?=some fn∧(fn.name == "runtime.NumGoroutine")=false∧fn.body.isNone=false) (h:ATri P GT f args rd cur n (.ret a) mt n'):∃ ch,ChOk P GT ch∧ch f args rd cur n=some (.ret a,mt,n'):=by
 classical
 refine ⟨fun f' as rd' cur' n2=>if f'=f∧as=args∧rd'=rd∧cur'=cur∧n2=n then some (.ret a,mt,n') else none,⟨fun {f' as rd' cur' n2 out c3 n3} h1=>?_,fun {f' as rd' cur' n2 out c3 n3} h1=>?_,fun {f' as rd' cur' n2 r} h1=>?_⟩,by simp⟩
 ·split at h1
  ·rename_i h2;obtain ⟨rfl,rfl,rfl,rfl,rfl⟩:=h2;cases h1;exact h
  ·cases h1
 ·split at h1
  ·rename_i h2;obtain ⟨rfl,rfl,rfl,rfl,rfl⟩:=h2;cases h1;exact hle
  ·cases h1
 ·split at h1
  ·rename_i h2;obtain ⟨rfl,rfl,rfl,rfl,rfl⟩:=h2;exact hfn
  ·cases h1
theorem runD_recs {s0:St}:∀ (os:List Oper) (l:List AV) (m:ML) (n:Nat) (rs:List Rec) (fps:List FP) (ok:Bool),ops.drop rs.length=os→(∀ t,(foldS (fun _=>true) 0 rs s0).tm.get t=l[t]?)→MemEq (foldS (fun _=>true) 0 rs s0).cur m →
 (foldS (fun _=>true) 0 rs s0).nx=n→FRs rs fps→runD P GT E ops os rs.length ok fps l m n Q →
 ∃ ext l' m' n',ok=true∧ext.length=os.length∧(∀ t,(foldS (fun _=>true) 0 (rs++ext) s0).tm.get t=l'[t]?)∧MemEq (foldS (fun _=>true) 0 (rs++ext) s0).cur m'∧(foldS (fun _=>true) 0 (rs++ext) s0).nx=n'∧Q .nrm (stL l' m' n') ∧
   ∀ (i:Nat) (o:Oper),os[i]?=some o→∃ r ch,ChOk P GT ch∧(rs++ext)[rs.length+i]?=some r ∧
     RecOk P GT ch E.rd ⟨ops⟩ (befs ops []) ((rs++ext).take (rs.length+i)) (rs.length+i) o (foldS (fun k=>decide (k<rs.length+i)) 0 (rs++ext) s0) r:=by
 intro os
 induction os with
 | nil=>intro l m n rs fps ok _ ht hm hn _ h;exact ⟨[],l,m,n,h.1,rfl,by simpa using ht,by simpa using hm,by simpa using hn,h.2,fun i o hi=>by simp at hi⟩
 | cons o os ih =>
   intro l m n rs fps ok hd ht hm hn hfr h;have hd':ops.drop (rs.length+1)=os:=by
    have:(ops.drop rs.length).drop 1=os:=by rw [hd];rfl
    rwa [List.drop_drop] at this
   have hget:∀ t,(foldS (fun _=>true) 0 rs s0).tm.getA t=(tmL l).getA t:=fun t=>getA_congr (by rw [ht,Q0k]);have hwant:wantA ⟨ops⟩ o (foldS (fun _=>true) 0 rs s0).tm=wantA ⟨ops⟩ o (tmL l):=Q2z fun t _=>by rw [ht,Q0k]
   have more:∀ (v:AV) (m2:ML) (n2:Nat) (r:Rec) (q:FP) (ok2:Bool) (ch:CH),ChOk P GT ch→FR r q→r.dst=o.dst→r.out=v→r.nx'=n2→(∀ b,getL m2 b=(r.cur'.get b).or (if b∈r.W then none else getL m b)) →
    (ok2=true→RecOk P GT ch E.rd ⟨ops⟩ (befs ops []) rs rs.length o (foldS (fun _=>true) 0 rs s0) r)→(ok2=true→ok=true)→runD P GT E ops os (rs.length+1) ok2 (fps++[q]) (setO l o.dst v) m2 n2 Q →
    ∃ ext l' m' n',ok=true∧ext.length=(o::os).length∧(∀ t,(foldS (fun _=>true) 0 (rs++ext) s0).tm.get t=l'[t]?)∧MemEq (foldS (fun _=>true) 0 (rs++ext) s0).cur m'∧(foldS (fun _=>true) 0 (rs++ext) s0).nx=n'∧Q .nrm (stL l' m' n') ∧
    ∀ (i:Nat) (o':Oper),(o::os)[i]?=some o'→∃ r ch,ChOk P GT ch∧(rs++ext)[rs.length+i]?=some r ∧
      RecOk P GT ch E.rd ⟨ops⟩ (befs ops []) ((rs++ext).take (rs.length+i)) (rs.length+i) o' (foldS (fun k=>decide (k<rs.length+i)) 0 (rs++ext) s0) r:=by
    intro v m2 n2 r q ok2 ch hch hr hdst hout hnx hmem hrec hok hrun;have hf:foldS (fun _=>true) 0 (rs++[r]) s0=stepSt (foldS (fun _=>true) 0 rs s0) r:=by rw [Q0r];rfl
    have ht':∀ t,(foldS (fun _=>true) 0 (rs++[r]) s0).tm.get t=(setO l o.dst v)[t]?:=by
     intro t;rw [hf];show (putT _ r.dst r.out).get t=_;rw [Q1k,ht,←Q0k (setO l o.dst v),setO_get,Q1k,Q0k,hdst,hout]
    have hm':MemEq (foldS (fun _=>true) 0 (rs++[r]) s0).cur m2:=by
     intro b;rw [hf,stepSt_get,hm b,hmem b]
    obtain ⟨ext,l',m',n',g0,g1,g2,g3,g4,g5,g6⟩:=ih (setO l o.dst v) m2 n2 (rs++[r]) (fps++[q]) ok2 (by simpa using hd') ht' hm' (by rw [hf];exact hnx) (hfr.snoc hr) (by simpa using hrun);rw [List.append_assoc] at g2 g3 g4 g6;refine ⟨r::ext,l',m',n',hok g0,by simp [g1],g2,g3,g4,g5,fun i o' hi=>?_⟩
    cases i with
    | zero =>
      simp only [List.getElem?_cons_zero,Option.some.injEq] at hi;subst hi;refine ⟨r,ch,hch,by simp,?_⟩;rw [Nat.add_zero,fold_lt,List.take_left']
      ·exact hrec g0
      ·rfl
    | succ i =>
      obtain ⟨r',ch',k1,k2,k3⟩:=g6 i o' (by simpa using hi);rw [List.length_append,List.length_singleton,show rs.length+1+i=rs.length+(i+1) by omega] at k2 k3;exact ⟨r',ch',k1,by simpa using k2,by simpa using k3⟩
   have light:∀ (v:AV) (ch:CH) (W:Bool),ChOk P GT ch→(W=false→wantA ⟨ops⟩ o (tmL l)=some false∧v=.g undef)→(W=true→wantA ⟨ops⟩ o (tmL l)=some true∧∃ av,evOne P GT ch [] .e n (tmL l) o=some (.val av,.e,n)∧av.getD (.g undef)=v) →
    RecOk P GT ch E.rd ⟨ops⟩ (befs ops []) rs rs.length o (foldS (fun _=>true) 0 rs s0) ⟨o.dst,v,W,[],.e,.e,n,n,[],fun _=>false,false⟩:=by
    intro v ch W _ hw0 hw1;refine ⟨rfl,hn.symm,Nat.le_refl _,?_,fun b x hb=>by simp [Tri.get_e] at hb,fun b hb=>by simp at hb,fun b x hb=>by simp [getR,Tri.get_e] at hb,fun b x hb=>by simp [Tri.get_e] at hb,fun b hb=>by simp at hb,fun b hb=>by simp at hb,fun b x hb=>by simp [Tri.get_e] at hb,fun i q hq=>.inr ⟨fun b hb=>by simp at hb,fun b hb=>by simp at hb⟩,fun _=>⟨rfl,Nat.le_refl _⟩⟩
    cases W with
    | false=>obtain ⟨h1,rfl⟩:=hw0 rfl;exact .inl ⟨rfl,hwant.trans h1,rfl,rfl,rfl,rfl⟩
    | true =>
      obtain ⟨h1,av,h2,h3⟩:=hw1 rfl;exact .inr ⟨rfl,hwant.trans h1,av,by rw [Q2k fun t _=>hget t];exact h2,h3.symm⟩
   have local_more:∀ (W U:List Nat) (v:AV) (m2:ML) (n2:Nat),wantA ⟨ops⟩ o (tmL l)=some true→Local P GT E.rd m n l o W U v m2 n2→runD P GT E ops os (rs.length+1) (ok&&(lowD n W U&&okD (befs ops []) rs.length W U 0 fps)) (fps++[⟨W,U,n,n2⟩]) (setO l o.dst v) m2 n2 Q →
    ∃ ext l' m' n',ok=true∧ext.length=(o::os).length∧(∀ t,(foldS (fun _=>true) 0 (rs++ext) s0).tm.get t=l'[t]?)∧MemEq (foldS (fun _=>true) 0 (rs++ext) s0).cur m'∧(foldS (fun _=>true) 0 (rs++ext) s0).nx=n'∧Q .nrm (stL l' m' n') ∧
    ∀ (i:Nat) (o':Oper),(o::os)[i]?=some o'→∃ r ch,ChOk P GT ch∧(rs++ext)[rs.length+i]?=some r ∧
      RecOk P GT ch E.rd ⟨ops⟩ (befs ops []) ((rs++ext).take (rs.length+i)) (rs.length+i) o' (foldS (fun k=>decide (k<rs.length+i)) 0 (rs++ext) s0) r:=by
    intro W U v m2 n2 hw' hloc h;obtain ⟨ch,av,mt,hch,he,hv,hle,hmem,hids,hwm,hwu⟩:=hloc;refine more v m2 n2 ⟨o.dst,v,true,memL (restrL m U)::E.rd,memL (restrL m W),mt,n,n2,W,fun b=>(U++W).contains b,true⟩ ⟨W,U,n,n2⟩ _ ch hch ⟨rfl,fun b hb=>List.contains_iff_mem.1 hb,rfl,rfl⟩ rfl rfl rfl (fun b=>?_) (fun hok2=>?_) (fun hok2=>?_) h
    ·rw [hmem b]
     by_cases hb:b∈W
     ·rw [if_pos (List.contains_iff_mem.2 hb),if_pos hb]
     ·rw [if_neg (fun e=>hb (List.contains_iff_mem.1 e)),if_neg hb]
    ·simp only [Bool.and_eq_true] at hok2
     obtain ⟨-,hlw,hokd⟩:=hok2;refine ⟨rfl,hn.symm,hle,.inr ⟨rfl,hwant.trans hw',av,by rw [Q2k fun t _=>hget t];exact he,hv.symm⟩,fun b x hb=>?_,fun b hb=>?_,fun b x hb=>?_,fun b x hb hr=>?_,fun b hb=>?_,fun b hb=>?_,fun b x hb=>hids b x hb,fun i q hq=>?_,fun h=>by cases h⟩
     ·rw [Q0d,Q0h] at hb
      split at hb
      ·rename_i hbw;exact ⟨List.contains_iff_mem.1 hbw,(hm b).trans hb⟩
      ·cases hb
     ·obtain ⟨x,hx⟩:=hwm b hb
      exact ⟨x,by rw [Q0d,Q0h,if_pos (List.contains_iff_mem.2 hb)];exact hx⟩
     ·rw [Q0b,Q0d,Q0h] at hb
      by_cases hbw:W.contains b=true
      ·rw [if_pos hbw] at hb
       cases hg:getL m b with
       | none =>
         obtain ⟨y,hy⟩:=hwm b (List.contains_iff_mem.1 hbw);rw [hg] at hy;cases hy
       | some y =>
         rw [hg,Option.some_or] at hb
         cases hb
         exact .inl ⟨List.contains_iff_mem.2 (List.mem_append.2 (.inr (List.contains_iff_mem.1 hbw))),Q0a ((hm b).trans hg)⟩
      ·rw [if_neg hbw,Option.none_or,Q0b,Q0d,Q0h] at hb
       by_cases hbu:U.contains b=true
       ·rw [if_pos hbu] at hb
        cases hg:getL m b with
        | none=>rw [hg,Option.none_or] at hb;exact .inr hb
        | some y =>
          rw [hg,Option.some_or] at hb
          cases hb
          exact .inl ⟨List.contains_iff_mem.2 (List.mem_append.2 (.inl (List.contains_iff_mem.1 hbu))),Q0a ((hm b).trans hg)⟩
       ·rw [if_neg hbu,Option.none_or] at hb;exact .inr hb
     ·rw [Q0d,Q0h] at hb
      split at hb
      ·rename_i hbw
       rw [Q0b,Q0d,Q0h,if_neg (fun e=>hwu b (List.contains_iff_mem.1 hbw) (List.contains_iff_mem.1 e)),Option.none_or];exact hr
      ·cases hb
     ·simp only [lowD,List.all_eq_true] at hlw
      exact Nat.le_of_ble_eq_true (hlw b (List.contains_iff_mem.1 hb))
     ·exact List.contains_iff_mem.2 (List.mem_append.2 (.inr hb))
     ·obtain ⟨p,hp,hpr⟩:=hfr.2 i q hq
      have:=okD_get hokd i p hp;rw [Nat.zero_add] at this;refine this.imp id fun h1=>?_;obtain ⟨h2,h3⟩:=freeFP_spec h1;rw [hpr.W,hpr.n,hpr.n'];refine ⟨fun b hb=>h2 b (List.contains_iff_mem.1 hb),fun b hb=>?_⟩
      cases hu:q.U b with
      | false=>rfl
      | true=>exact absurd (hpr.U b hu) (h3 b hb)
    ·simp only [Bool.and_eq_true] at hok2;exact hok2.1
   unfold runD at h
   split at h
   ·rename_i hw
    have hw':=wantL_ok (o:=o) hw
    split at h
    ·rename_i f args hc
     rcases h with ⟨v,hp,h⟩ | ⟨v,W,m2,n2,hp,h⟩
     rotate_left
     ·obtain ⟨hle,hfn,hwm,mt,htri,hmem,hids⟩:=hp
      obtain ⟨ch,hch,hca⟩:=oneCH hle hfn htri;refine local_more W [] v m2 n2 hw' ⟨ch,some v,mt,hch,?_,rfl,hle,hmem,hids,hwm,fun b _=>by simp⟩ h;rw [Q1j];unfold callL at hc
      split at hc
      ·rename_i c hop
       split at hc
       ·rename_i x hx
        unfold evOne;rw [evL_eq,hop];simp only [hx,hc];have:ch f args (memL []::E.rd) (memL (restrL m W)) n=some (.ret v,mt,n2):=hca;rw [this]
       ·cases hc
      ·cases hc
     obtain ⟨ch,hch,hca⟩:=hp.ok;have he:evOne P GT ch [] .e n (tmL l) o=some (.val (some v),.e,n):=by
      unfold callL at hc
      split at hc
      ·rename_i c hop
       split at hc
       ·rename_i x hx
        unfold evOne;rw [evL_eq,hop];simp only [hx,hc,hca]
       ·cases hc
      ·cases hc
     exact more v m n _ ⟨[],[],n,n⟩ ok ch hch ⟨rfl,fun b hb=>by simp at hb,rfl,rfl⟩ rfl rfl rfl (fun b=>by simp [Tri.get_e]) (fun _=>light v ch true hch (fun h=>by cases h) (fun _=>⟨hw',some v,he,rfl⟩)) (fun h=>h) h
    ·split at h
     ·rename_i v m2 n2 hst
      split at h
      ·rename_i W U hf
       exact local_more W U v m2 n2 hw' (local_of hf hst) h
      ·exact h.elim
     ·exact h.elim
   ·rename_i hw
    have hw':=wantL_ok (o:=o) hw;exact more (.g undef) m n _ ⟨[],[],n,n⟩ ok noCH Q2g ⟨rfl,fun b hb=>by simp at hb,rfl,rfl⟩ rfl rfl rfl (fun b=>by simp [Tri.get_e]) (fun _=>light (.g undef) noCH false Q2g (fun _=>⟨hw',rfl⟩) (fun h=>by cases h)) (fun h=>h) h
   ·exact h.elim
theorem W.regionD {id:Nat} (hmix:P.follows .mixedOrders=true) (hst:statOk ⟨ops⟩=true) (h:runD P GT E ops ops 0 true [] l m n Q):W P GT E (.region id ⟨ops⟩ true) (stL l m n) Q:=by
 intro base D w1 G1 w G a _ hs ht hd;obtain ⟨recs,l',m',n',-,h1,h3,h3m,h3n,h4,h5⟩:=runD_recs (s0:=stL l m n) ops l m n [] [] true (by simp) (fun t=>by show (tmL l).get t=_;rw [Q0k]) (memEq m) rfl ⟨rfl,fun i r hi=>by simp at hi⟩ h;simp only [List.nil_append,List.length_nil,Nat.zero_add] at h1 h3 h3m h3n h5;refine wp_region_any hmix ?_;have hs':Stp base GT allF E.rd (stL l m n).cur n w G (stL l m n).cur n { w with drawn:=w.drawn+1 } G:=Stp.world hs.mr rfl rfl rfl (Nat.le_refl _) fun _ _=>rfl
 have:=recs_sound (P:=P) (GT:=GT) (ops:=⟨ops⟩) (base:=base) (F:=allF) (D:=D) (s0:=stL l m n) (a0:=a) (w0:={ w with drawn:=w.drawn+1 }) (G0:=G) hst h1 rfl
  (fun j o ho=>by
    obtain ⟨r,ch,k1,k2,k3⟩:=h5 j o (by simpa using ho)
    exact ⟨r,ch,k1,k2,k3⟩) hs'.mr (TmR.mono hs'.ext ht) hd (fun _ _ _=>trivial)
 refine wpAny_mono (fun e a2 w2 h6=>?_) _ _ _ _ this;obtain ⟨G',g1,g2,g3,g4⟩:=h6;refine ⟨.nrm,stL l' m' n',G',g1,?_,fun hp=>?_,g4,h4⟩
 ·have g5:=Stp.trans hs (Stp.trans hs' g2)
  rw [h3n] at g5;exact stp_mem g5 fun b=>by rw [h3m b];exact Q0d _ _
 ·refine tmR_ext (g3 hp) fun t=>?_
  rw [Q0k,h3]
def AtCallD (P:Program) (GT:GTab) (E:Beg) (ops:List Oper) (f:FuncId) (args:List AV) (dst:Option Tmp) (os:List Oper) (j:Nat) (ok:Bool) (fps:List FP) (l:List AV) (m:ML) (n:Nat) (Q:AX→St→Prop):Prop :=
 (∃ a,PureN P GT f args a∧runD P GT E ops os (j+1) ok (fps++[⟨[],[],n,n⟩]) (setO l dst a) m n Q) ∨
   (∃ (a:AV) (W:List Nat) (m':ML) (n':Nat),CallD P GT E.rd m n f args W a m' n'∧runD P GT E ops os (j+1) (ok&&(lowD n W []&&okD (befs ops []) j W [] 0 fps)) (fps++[⟨W,[],n,n'⟩]) (setO l dst a) m' n' Q)
def footD (P:Program) (GT:GTab) (E:Beg) (ops:List Oper) (r:Option (List Nat×List Nat)) (v:AV) (m':ML) (n':Nat) (dst:Option Tmp) (os:List Oper) (j:Nat) (ok:Bool) (fps:List FP) (l:List AV) (n:Nat) (Q:AX→St→Prop):Prop:=match r with
 | some (W,U)=>runD P GT E ops os (j+1) (ok&&(lowD n W U&&okD (befs ops []) j W U 0 fps)) (fps++[⟨W,U,n,n'⟩]) (setO l dst v) m' n' Q
 | none=>False
def nextD (P:Program) (GT:GTab) (E:Beg) (ops:List Oper) (r:Option (AV×ML×Nat)) (op:Op) (dst:Option Tmp) (os:List Oper) (j:Nat) (ok:Bool) (fps:List FP) (l:List AV) (n:Nat) (Q:AX→St→Prop):Prop:=match r with
 | some (v,m',n')=>footD P GT E ops (footO GT l op) v m' n' dst os j ok fps l n Q
 | none=>False
def callD (P:Program) (GT:GTab) (E:Beg) (ops:List Oper) (r:Option (FuncId×List AV)) (op:Op) (dst:Option Tmp) (os:List Oper) (j:Nat) (ok:Bool) (fps:List FP) (l:List AV) (m:ML) (n:Nat) (Q:AX→St→Prop):Prop:=match r with
 | some (f,args)=>AtCallD P GT E ops f args dst os j ok fps l m n Q
 | none=>nextD P GT E ops (stepO P GT E.rd m n l op) op dst os j ok fps l n Q
def wantD (P:Program) (GT:GTab) (E:Beg) (ops:List Oper) (r:Option Bool) (op:Op) (dst:Option Tmp) (os:List Oper) (j:Nat) (ok:Bool) (fps:List FP) (l:List AV) (m:ML) (n:Nat) (Q:AX→St→Prop):Prop:=match r with
 | some true=>callD P GT E ops (callL GT l op) op dst os j ok fps l m n Q
 | some false=>runD P GT E ops os (j+1) ok (fps++[⟨[],[],n,n⟩]) (setO l dst (.g undef)) m n Q
 | none=>False
variable {dst:Option Tmp} {op:Op} {o:Oper} {j:Nat} {ok:Bool} {fps:List FP} {v:AV} {W U:List Nat}
theorem runD_nil:runD P GT E ops [] j ok fps l m n Q=(ok=true∧Q .nrm (stL l m n)):=Eq.trans rfl rfl
theorem runD_cons:runD P GT E ops (o::os) j ok fps l m n Q=wantD P GT E ops (wantL ops l o.guard) o.op o.dst os j ok fps l m n Q:=by
 show (match wantL ops l o.guard with | some true=>_ | some false=>_ | none=>_)=_;unfold wantD
 split
 ·unfold callD AtCallD nextD footD
  rfl
 ·rfl
 ·rfl
theorem wantD_true:wantD P GT E ops (some true) op dst os j ok fps l m n Q=callD P GT E ops (callL GT l op) op dst os j ok fps l m n Q:=Eq.trans rfl rfl
theorem wantD_false:wantD P GT E ops (some false) op dst os j ok fps l m n Q=runD P GT E ops os (j+1) ok (fps++[⟨[],[],n,n⟩]) (setO l dst (.g undef)) m n Q:=Eq.trans rfl rfl
theorem callD_none:callD P GT E ops none op dst os j ok fps l m n Q=nextD P GT E ops (stepO P GT E.rd m n l op) op dst os j ok fps l n Q:=Eq.trans rfl rfl
theorem callD_some {f:FuncId} {args:List AV}:callD P GT E ops (some (f,args)) op dst os j ok fps l m n Q=AtCallD P GT E ops f args dst os j ok fps l m n Q:=Eq.trans rfl rfl
theorem nextD_some:nextD P GT E ops (some (v,m',n')) op dst os j ok fps l n Q=footD P GT E ops (footO GT l op) v m' n' dst os j ok fps l n Q:=Eq.trans rfl rfl
theorem footD_some:footD P GT E ops (some (W,U)) v m' n' dst os j ok fps l n Q=runD P GT E ops os (j+1) (ok&&(lowD n W U&&okD (befs ops []) j W U 0 fps)) (fps++[⟨W,U,n,n'⟩]) (setO l dst v) m' n' Q:=Eq.trans rfl rfl
theorem AtCallD.mk {f:FuncId} {args:List AV} {a:AV} (h:PureN P GT f args a) (k:runD P GT E ops os (j+1) ok (fps++[⟨[],[],n,n⟩]) (setO l dst a) m n Q):AtCallD P GT E ops f args dst os j ok fps l m n Q:=.inl ⟨a,h,k⟩
end
attribute [go_sem] runD_nil runD_cons wantD_true wantD_false callD_none callD_some nextD_some footD_some footO idOf appF
theorem W.regionA {P:Program} {GT:GTab} {E:Beg} {id:Nat} {ops:Array Oper} {l:List AV} {m:ML} {n:Nat} {Q:AX→St→Prop} (h:runL P GT E ops.toList ops.toList l m n Q):W P GT E (.region id ops false) (stL l m n) Q:=W.region h
theorem W.regionQA {P:Program} {GT:GTab} {E:Beg} {id:Nat} {ops:Array Oper} {l:List AV} {m:ML} {n:Nat} {Q:AX→St→Prop} (hmix:P.follows .mixedOrders=true) (hst:statOk ops=true) (h:runQ P GT E ops.toList ops.toList l m n Q):W P GT E (.region id ops true) (stL l m n) Q:=W.regionQ hmix hst h
theorem W.regionDA {P:Program} {GT:GTab} {E:Beg} {id:Nat} {ops:Array Oper} {l:List AV} {m:ML} {n:Nat} {Q:AX→St→Prop} (hmix:P.follows .mixedOrders=true) (hst:statOk ops=true) (h:runD P GT E ops.toList ops.toList 0 true [] l m n Q):W P GT E (.region id ops true) (stL l m n) Q:=W.regionD hmix hst h
theorem beq_ft:(false==true)=false:=by decide
theorem beq_tf:(true==false)=false:=by decide
theorem beq_tt:(true==true)=true:=by decide
theorem beq_ff:(false==false)=true:=by decide
attribute [go_sem] beq_ft beq_tf beq_tt beq_ff
theorem Q1z {b:Nat}:getR [] b=none:=Eq.trans rfl rfl
theorem Q2w {P:Program} {l:List AV} {m:ML} {n:Nat} {r1 r2:ResultVar} {v1 v2:AV} (x:AX) (hx:x=.nrm∨x=.ret) (h1:resV P l m r1=some v1) (h2:resV P l m r2=some v2) (p1:plainA v1=true) (p2:plainA v2=true):postP P [r1,r2] (.tup [v1,v2]) x (stL l m n):=postP_two x hx h1 h2 (.plain p1) (.plain p2)
def bldO (P:Program) (t:TypeId):Option (List AV×List (Nat×Nat)):=match (P.info? t).bind (·.zero),P.underlying t with
 | some z,some (.struct fs)=>match placesA P fs.toList with
   | some ps=>some (z.cells.toList.map .g,ps)
   | none=>none
 | _,_=>none
def fillL (ps:List (Nat×Nat)) (cells:List AV):List (Nat×AV)→Option (List AV)
 | []=>some cells
 | (i,v)::rest=>match ps[i]?,cellsA v with
   | some (off,size),some pc=>if pc.length=size∧off+pc.length≤cells.length then fillL ps (putA cells off pc) rest else none
   | _,_=>none
theorem fillL_eq (ps:List (Nat×Nat)):∀ (parts:List (Nat×AV)) (cells:List AV),fillA (ps[·]?) cells parts=fillL ps cells parts
 | [],_=>rfl
 | (i, v)::rest,cells=>by
   rw [fillA,fillL]
   cases ps[i]? with
   | none=>rfl
   | some p =>
     cases cellsA v with
     | none=>rfl
     | some pc =>
       simp only
       split
       ·exact fillL_eq ps rest _
       ·rfl
def aggM:Option (List AV)→Option AV
 | some l=>some (.agg l)
 | none=>none
theorem Q0u {P:Program} {t:TypeId} {zs:List AV} {ps:List (Nat×Nat)} (h:bldO P t=some (zs,ps)) (parts:List (Nat×AV)):evBuild P t parts=aggM (fillL ps zs parts):=by
 unfold bldO at h;unfold evBuild
 split at h
 ·rename_i z fs h1 h2
  split at h
  ·rename_i ps' h3
   cases h
   simp only [h1,h2,h3,fillL_eq]
   cases fillL ps (z.cells.toList.map .g) parts <;> rfl
  ·cases h
 ·cases h
def rowsL (sz:Nat) (cells:List AV):List (Nat×AV)→Option (List AV)
 | []=>some cells
 | (i,v)::rest=>match cellsA v with
   | some pc=>if pc.length=sz∧i*sz+pc.length≤cells.length then rowsL sz (putA cells (i*sz) pc) rest else none
   | none=>none
theorem rowsL_eq (sz:Nat):∀ (parts:List (Nat×AV)) (cells:List AV),fillA (fun k=>some (k*sz,sz)) cells parts=rowsL sz cells parts
 | [],_=>rfl
 | (i,v)::rest,cells=>by
   rw [fillA,rowsL]
   cases cellsA v with
   | none=>rfl
   | some pc =>
     simp only
     split
     ·exact rowsL_eq sz rest _
     ·rfl
section
variable {m:ML}
theorem isCell_int {k:IntKind} {i:Int}:isCell (.g (.int k i))=true:=Eq.trans rfl rfl
theorem isCell_str {s:ByteArray}:isCell (.g (.string s))=true:=Eq.trans rfl rfl
theorem isCell_bool {b:Bool}:isCell (.g (.bool b))=true:=Eq.trans rfl rfl
theorem isCell_slice {a:Option Addr} {n c:Nat}:isCell (.g (.slice a n c))=true:=Eq.trans rfl rfl
theorem isCell_gptr {a:Option Addr}:isCell (.g (.pointer a))=true:=Eq.trans rfl rfl
theorem isCell_sl {n sz:Nat} {cs:List AV}:isCell (.sl n sz cs)=true:=Eq.trans rfl rfl
theorem isCell_gs {b o n sz k:Nat}:isCell (.gs b o n sz k)=true:=Eq.trans rfl rfl
theorem isCell_z0:isCell .z0=true:=Eq.trans rfl rfl
theorem isCell_ptr {b o:Nat}:isCell (.ptr b o)=true:=Eq.trans rfl rfl
theorem isCell_ept {cs:List AV} {o:Nat}:isCell (.ept cs o)=true:=Eq.trans rfl rfl
theorem isCell_fn {f:Fn} {x y:List AV}:isCell (.fn f x y)=true:=Eq.trans rfl rfl
theorem isCell_mp {b:Nat}:isCell (.mp b)=true:=Eq.trans rfl rfl
theorem cellsA_agg {cs:List AV}:cellsA (.agg cs)=if cs.all isCell then some cs else none:=rfl
theorem cellsA_g {v:Value}:cellsA (.g v)=if isCell (.g v) then some [.g v] else none:=rfl
theorem cellsA_sl {n sz:Nat} {cs:List AV}:cellsA (.sl n sz cs)=some [.sl n sz cs]:=rfl
theorem cellsA_gs {b o n sz k:Nat}:cellsA (.gs b o n sz k)=some [.gs b o n sz k]:=rfl
theorem cellsA_z0:cellsA .z0=some [.z0]:=rfl
theorem cellsA_ptr {b o:Nat}:cellsA (.ptr b o)=some [.ptr b o]:=rfl
theorem cellsA_ept {cs:List AV} {o:Nat}:cellsA (.ept cs o)=some [.ept cs o]:=rfl
theorem cellsA_fn {f:Fn} {x y:List AV}:cellsA (.fn f x y)=some [.fn f x y]:=rfl
theorem cellsA_mp {b:Nat}:cellsA (.mp b)=some [.mp b]:=rfl
end
section
variable {n1:Nat} {q:Ren}
theorem reL_cons {a b:AV} {as bs:List AV}:reL n1 q (a::as) (b::bs)=(reA n1 q a b∧reL n1 q as bs):=by
 rw [reL];refine propext ⟨fun h=>?_,fun h=>⟨b,bs,rfl,h.1,h.2⟩⟩;obtain ⟨_,_,e,h1,h2⟩:=h
 cases e
 exact ⟨h1,h2⟩
theorem reL_nil:reL n1 q [] []=True:=by rw [reL];simp
theorem reA_any {b:AV}:reA n1 q .any b=True:=by rw [reA]
theorem reA_g {v v':Value}:reA n1 q (.g v) (.g v')=(v'=v):=by rw [reA];simp
theorem reA_sl {n sz:Nat} {cs:List AV}:reA n1 q (.sl n sz cs) (.sl n sz cs)=True:=by rw [reA];simp
theorem reA_ept {o:Nat} {cs:List AV}:reA n1 q (.ept cs o) (.ept cs o)=True:=by rw [reA];simp
theorem reA_z0:reA n1 q .z0 .z0=True:=by rw [reA];simp
theorem reA_ptr {c b o:Nat}:reA n1 q (.ptr c o) (.ptr b o)=(lkE n1 q c=some b):=by rw [reA];simp
theorem reA_gs {c b o n sz k k':Nat}:reA n1 q (.gs c o n sz k) (.gs b o n sz k')=(lkE n1 q c=some b∧n≤k∧k≤k'):=by
 rw [reA];refine propext ⟨fun h=>?_,fun h=>⟨b,k',rfl,h⟩⟩;obtain ⟨_,_,e,h⟩:=h
 cases e
 exact h
theorem reA_mp {c b:Nat}:reA n1 q (.mp c) (.mp b)=(lkE n1 q c=some b):=by rw [reA];simp
theorem reA_fn {f:Fn} {x y x' y':List AV}:reA n1 q (.fn f x y) (.fn f x' y')=(reL n1 q x x'∧reL n1 q y y'):=by
 rw [reA];refine propext ⟨fun h=>?_,fun h=>⟨x',y',rfl,h⟩⟩;obtain ⟨_,_,e,h⟩:=h
 cases e
 exact h
theorem reA_agg {x x':List AV}:reA n1 q (.agg x) (.agg x')=reL n1 q x x':=by rw [reA];simp
theorem reA_tup {x x':List AV}:reA n1 q (.tup x) (.tup x')=reL n1 q x x':=by rw [reA];simp
theorem lkE_zero {c:Nat}:lkE 0 q c=lk q c:=by rw [lkE,if_neg (Nat.not_lt_zero c)]
theorem lk_cons {d b c:Nat}:lk ((d,b)::q) c=if d=c then some b else lk q c:=Eq.trans rfl rfl
theorem leL_cons {a b:AV} {as bs:List AV}:leL (a::as) (b::bs)=((b=.any∨a=b)∧leL as bs):=Eq.trans rfl rfl
theorem leL_nil:leL [] []=True:=rfl
end
theorem evSlice_sl {P:Program} {ms:List Mem} {t:TypeId} {n sz:Nat} {cs:List AV} {lo hi:Option AV} (he:elemO P t=some sz):evSlice P ms t (.sl n sz cs) lo hi none=(match evInt hi n,evInt lo 0 with
 | some h,some l=>if h≤n∧l≤h then some (.sl (h - l) sz ((cs.drop (l*sz)).take ((h - l)*sz))) else none
 | _,_=>none):=by
 obtain ⟨e,i,hu,hi,rfl⟩:=Q1i he;simp only [evSlice,hu,hi,if_true]
 rfl
theorem evSlice_gs {P:Program} {ms:List Mem} {t:TypeId} {b o n sz k:Nat} {lo hi:Option AV} (he:elemO P t=some sz):evSlice P ms t (.gs b o n sz k) lo hi none=(match evInt hi n,evInt lo 0 with
 | some h,some l=>if h≤n∧l≤h then some (.gs b (o+l*sz) (h - l) sz (k - l)) else none
 | _,_=>none):=by
 obtain ⟨e,i,hu,hi,rfl⟩:=Q1i he;simp only [evSlice,hu,hi,if_true]
 rfl
attribute [go_sem] evSlice_sl evSlice_gs rowsL_eq buildSl
attribute [go_sem] reL_cons reL_nil reA_any reA_g reA_sl reA_ept reA_z0 reA_ptr reA_gs reA_mp reA_fn reA_agg reA_tup lkE_zero lk_cons leL_cons leL_nil
attribute [go_sem] fillL rowsL aggM isCell_int isCell_str isCell_bool isCell_slice isCell_gptr isCell_sl isCell_gs isCell_z0 isCell_ptr isCell_ept isCell_fn isCell_mp cellsA_agg cellsA_g cellsA_sl cellsA_gs cellsA_z0 cellsA_ptr cellsA_ept cellsA_fn cellsA_mp toGs toG putA
def loopW (P:Program) (GT:GTab) (E:Beg) (c:Code) (l:List AV) (m:ML) (n:Nat) (Q:AX→St→Prop):Prop:=W P GT E (.loop c) (stL l m n) Q
def drawK (P:Program) (ops:Array Oper):Prop:=P.follows .mixedOrders=true∧statOk ops=true
theorem drawn {P:Program} {ops:Array Oper} {X:Prop} (h:P.follows .mixedOrders=true) (k:statOk ops=true) (x:X):drawK P ops∧X:=⟨⟨h,k⟩,x⟩
def stepW (P:Program) (GT:GTab) (E:Beg) (b:Bool):Code→List AV→ML→Nat→(AX→St→Prop)→Prop
 | .seq p q,l,m,n,Q=>stepW P GT E b p l m n (thenW P GT E q Q)
 | .block i p,l,m,n,Q=>stepW P GT E b p l m n (blkW i Q)
 | .scope p,l,m,n,Q=>stepW P GT E b p l m n (scopeW Q)
 | .skip,l,m,n,Q=>Q .nrm (stL l m n)
 | .label _,l,m,n,Q=>Q .nrm (stL l m n)
 | .exit i,l,m,n,Q=>Q (.exit i) (stL l m n)
 | .ret,l,m,n,Q=>Q .ret (stL l m n)
 | .cond o p q,l,m,n,Q=>condK P GT E (evL GT l o) p q (stL l m n) Q
 | .region _ ops false,l,m,n,Q=>runL P GT E ops.toList ops.toList l m n Q
 | .region _ ops true,l,m,n,Q=>drawK P ops∧(if b=true then runD P GT E ops.toList ops.toList 0 true [] l m n Q else runQ P GT E ops.toList ops.toList l m n Q)
 | .loop c,l,m,n,Q=>loopW P GT E c l m n Q
 | _,_,_,_,_=>False
section
variable {P:Program} {GT:GTab} {E:Beg} {b:Bool} {l:List AV} {m:ML} {n:Nat} {p q:Code} {Q:AX→St→Prop} {i:Nat} {ops:Array Oper} {o:Operand}
theorem stepW_seq:stepW P GT E b (.seq p q) l m n Q=stepW P GT E b p l m n (thenW P GT E q Q):=Eq.trans rfl rfl
theorem stepW_block:stepW P GT E b (.block i p) l m n Q=stepW P GT E b p l m n (blkW i Q):=Eq.trans rfl rfl
theorem stepW_scope:stepW P GT E b (.scope p) l m n Q=stepW P GT E b p l m n (scopeW Q):=Eq.trans rfl rfl
theorem stepW_skip:stepW P GT E b .skip l m n Q=Q .nrm (stL l m n):=Eq.trans rfl rfl
theorem stepW_label:stepW P GT E b (.label i) l m n Q=Q .nrm (stL l m n):=Eq.trans rfl rfl
theorem stepW_exit:stepW P GT E b (.exit i) l m n Q=Q (.exit i) (stL l m n):=Eq.trans rfl rfl
theorem stepW_ret:stepW P GT E b .ret l m n Q=Q .ret (stL l m n):=Eq.trans rfl rfl
theorem stepW_cond:stepW P GT E b (.cond o p q) l m n Q=condK P GT E (evL GT l o) p q (stL l m n) Q:=Eq.trans rfl rfl
theorem stepW_plain:stepW P GT E b (.region i ops false) l m n Q=runL P GT E ops.toList ops.toList l m n Q:=Eq.trans rfl rfl
theorem stepW_quiet:stepW P GT E false (.region i ops true) l m n Q=(drawK P ops∧runQ P GT E ops.toList ops.toList l m n Q):=Eq.trans rfl rfl
theorem stepW_drawn:stepW P GT E true (.region i ops true) l m n Q=(drawK P ops∧runD P GT E ops.toList ops.toList 0 true [] l m n Q):=Eq.trans rfl rfl
theorem stepW_loop:stepW P GT E b (.loop p) l m n Q=loopW P GT E p l m n Q:=Eq.trans rfl rfl
theorem W.step:∀ {c:Code} {l:List AV} {m:ML} {n:Nat} {Q:AX→St→Prop},stepW P GT E b c l m n Q→W P GT E c (stL l m n) Q
 | .seq _ _,_,_,_,_,h=>W.seq (W.step (c:=_) h)
 | .block _ _,_,_,_,_,h=>W.block (W.step h)
 | .scope _,_,_,_,_,h=>W.scope (W.step h)
 | .skip,_,_,_,_,h=>W.skip h
 | .label _,_,_,_,_,h=>W.label h
 | .exit _,_,_,_,_,h=>W.exit h
 | .ret,_,_,_,_,h=>W.ret h
 | .cond _ _ _,_,_,_,_,h=>W.condL h
 | .region _ _ false,_,_,_,_,h=>W.regionA h
 | .region _ _ true,_,_,_,_,h=>by
   obtain ⟨⟨h1,h2⟩,h3⟩:=h
   cases b
   ·exact W.regionQA h1 h2 h3
   ·exact W.regionDA h1 h2 h3
 | .loop _,_,_,_,_,h=>h
 | .rangeFunc _ _ _ _,_,_,_,_,h=>h.elim
 | .goto _,_,_,_,_,h=>h.elim
end
attribute [go_sem] stepW_seq stepW_block stepW_scope stepW_skip stepW_label stepW_exit stepW_ret stepW_cond stepW_plain stepW_quiet stepW_drawn stepW_loop
section
variable {P:Program} {GT:GTab} {rd:List Mem} {m:ML} {n:Nat}
end
def wkA (a' a:AV):Prop:=∀ (w:World) (G:Gh) (v:Value),VR w G a v→VR w G a' v
theorem wkA.refl (a:AV):wkA a a:=fun _ _ _ h=>h
theorem wkA.nil (sz:Nat):wkA (.sl 0 sz []) (.g (.slice none 0 0)):=fun _ _ v h=>by
 obtain rfl:v=.slice none 0 0:=h;exact ⟨none,0,rfl,Nat.le_refl _,.inl rfl⟩
def wkL:List AV→List AV→Prop
 | [],l=>l=[]
 | a::as,l=>∃ x xs,l=x::xs∧wkA a x∧wkL as xs
theorem wkL.refl:∀ l:List AV,wkL l l
 | []=>rfl
 | a::as=>⟨a,as,rfl,wkA.refl a,wkL.refl as⟩
theorem wkL_get:∀ {l' l:List AV},wkL l' l→∀ (t:Nat) (a:AV),l'[t]?=some a→∃ x,l[t]?=some x∧wkA a x
 | [],_,_,t,a,h=>by simp at h
 | a::as,_,h,t,x,hx=>by
   obtain ⟨y,ys,rfl,h1,h2⟩:=h
   cases t with
   | zero=>simp only [List.getElem?_cons_zero,Option.some.injEq] at hx;subst hx;exact ⟨y,rfl,h1⟩
   | succ t=>simp only [List.getElem?_cons_succ] at hx ⊢;exact wkL_get h2 t x hx
def wkM (m:ML):ML→Prop
 | []=>True
 | (c,k)::m'=>(getL m c=some k∨∃ x y,k=.cells x∧getL m c=some (.cells y)∧wkL x y)∧wkM m m'
theorem wkM_get {m:ML}:∀ {m':ML},wkM m m'→∀ (c:Nat) (k:Blk),getL m' c=some k→getL m c=some k∨∃ x y,k=.cells x∧getL m c=some (.cells y)∧wkL x y
 | [],_,c,k,h=>by simp [getL] at h
 | (d,x)::m',h,c,k,hc=>by
   rw [getL] at hc
   split at hc
   ·rename_i hd;subst hd;cases hc;exact h.1
   ·exact wkM_get h.2 c k hc
theorem VS.weak {GT:GTab} {E:Beg} {l l':List AV} {m m':ML} {n:Nat} (hl:wkL l' l) (hm:wkM m m'):VS GT E (stL l m n) (stL l' m' n):=by
 intro base w1 G1 w G ts hm1 hs ht;have cur:∀ c k,(memL m').get c=some k→∃ k',(memL m).get c=some k'∧∀ rb ro,BlkR w G rb ro k'→BlkR w G rb ro k:=by
  intro c k hc;rw [Q0d] at hc;rcases wkM_get hm c k hc with h | ⟨x,y,rfl,h,hxy⟩
  ·exact ⟨k,(Q0d m c).trans h,fun _ _ h=>h⟩
  ·refine ⟨_,(Q0d m c).trans h,fun rb ro hb=>?_⟩
   obtain ⟨c',e',fr',h1,h2,h3⟩:=hb;refine ⟨c',e',fr',h1,h2,fun i a hi=>?_⟩;obtain ⟨z,h4,h5⟩:=wkL_get hxy i a hi;obtain ⟨v,h6,h7⟩:=h3 i z h4;exact ⟨v,h6,h5 w G v h7⟩
 have back:∀ c k,getR (memL m'::E.rd) c=some k→∃ k',getR (memL m::E.rd) c=some k'∧∀ rb ro,BlkR w G rb ro k'→BlkR w G rb ro k:=by
  intro c k hc;rw [Q0b] at hc
  cases hx:(memL m').get c with
  | some y =>
    rw [hx,Option.some_or] at hc;obtain rfl:y=k:=by simpa using hc
    obtain ⟨k',h1,h2⟩:=cur c y hx;exact ⟨k',Q0a h1,h2⟩
  | none =>
    rw [hx,Option.none_or] at hc;have hn:(memL m).get c=none:=by
     cases hy:(memL m).get c with
     | none=>rfl
     | some y=>rw [hs.mr.dj c y hy] at hc;cases hc
    exact ⟨k,by rw [Q0b,hn];exact hc,fun _ _ h=>h⟩
 refine ⟨G,.refl w _,?_,fun t a ha=>?_⟩
 ·exact {
   mr := {
    fresh:=hs.mr.fresh
    blk:=fun c k hc=>by
     obtain ⟨k',h1,h2⟩:=back c k hc;obtain ⟨rb,ro,g1,g2,g3,g4⟩:=hs.mr.blk c k' h1;exact ⟨rb,ro,g1,g2,g3,h2 rb ro g4⟩
    inj:=fun c c' k k' rb ro ro' h1 h2 h3 h4=>by
     obtain ⟨x,g1,-⟩:=back c k h1;obtain ⟨y,g2,-⟩:=back c' k' h2;exact hs.mr.inj c c' x y rb ro ro' g1 g2 h3 h4
    imm:=hs.mr.imm,base:=hs.mr.base,gt:=hs.mr.gt
    dj:=fun c k hc=>by
     obtain ⟨k',h1,-⟩:=cur c k hc
     exact hs.mr.dj c k' h1 }
   ext:=hs.ext,os:=hs.os,tape:=hs.tape,output:=hs.output,size:=hs.size,fr:=hs.fr
   prov:=fun c k rb ro hc h1=>by
    obtain ⟨k',h2,-⟩:=cur c k hc;exact hs.prov c k' rb ro h2 h1
   impr:=hs.impr,mus:=hs.mus,nx:=hs.nx }
 ·rw [Q0k] at ha
  obtain ⟨x,h1,h2⟩:=wkL_get hl t a ha;obtain ⟨v,h3,h4⟩:=ht t x (by rw [Q0k];exact h1);exact ⟨v,h3,h2 w G v h4⟩
theorem frL_cons {b:Nat} {cs as as':List AV} {a a':AV}:frL b cs (a'::as') (a::as)=(frA b cs a' a∧frL b cs as' as):=propext ⟨fun ⟨_,_,e,h1,h2⟩=>by cases e;exact ⟨h1,h2⟩,fun ⟨h1,h2⟩=>⟨_,_,rfl,h1,h2⟩⟩
theorem frL_nil {b:Nat} {cs:List AV}:frL b cs [] []=True:=by simp [frL]
theorem frA_any {b:Nat} {cs:List AV} {a:AV}:frA b cs .any a=True:=by simp [frA]
theorem frA_self {b:Nat} {cs:List AV} {a:AV}:frA b cs a a=True:=by simp [frA]
mutual
def reF (g:Nat→Nat):AV→AV
 | .ptr b o=>.ptr (g b) o
 | .gs b o n sz k=>.gs (g b) o n sz k
 | .mp b=>.mp (g b)
 | .fn f x y=>.fn f (reFL g x) (reFL g y)
 | .agg x=>.agg (reFL g x)
 | .tup x=>.tup (reFL g x)
 | .ifc t x=>.ifc t (reF g x)
 | .any=>.any
 | .g v=>.g v
 | .ept cs o=>.ept cs o
 | .sl n sz cs=>.sl n sz cs
 | .z0=>.z0
def reFL (g:Nat→Nat):List AV→List AV
 | []=>[]
 | a::as=>reF g a::reFL g as
end
def reFE (g:Nat→Nat):List (Nat×AV×AV)→List (Nat×AV×AV)
 | []=>[]
 | e::es=>(e.1,reF g e.2.1,reF g e.2.2)::reFE g es
def reFB (g:Nat→Nat):Blk→Blk
 | .cells cs=>.cells (reFL g cs)
 | .map es clk=>.map (reFE g es) clk
 | .sit s p=>.sit s p
mutual
def ltA (n:Nat):AV→Prop
 | .ptr b _=>b<n
 | .gs b _ _ _ _=>b<n
 | .mp b=>b<n
 | .fn _ x y=>ltL n x∧ltL n y
 | .agg x=>ltL n x
 | .tup x=>ltL n x
 | .ifc _ x=>ltA n x
 | _=>True
def ltL (n:Nat):List AV→Prop
 | []=>True
 | a::as=>ltA n a∧ltL n as
end
def ltE (n:Nat):List (Nat×AV×AV)→Prop
 | []=>True
 | e::es=>(ltA n e.2.1∧ltA n e.2.2)∧ltE n es
def ltB (n:Nat):Blk→Prop
 | .cells cs=>ltL n cs
 | .map es _=>ltE n es
 | .sit _ _=>True
section
variable {w:World} {G0 G1:Gh} {g:Nat→Nat} {n:Nat}
theorem rowI {rb o:Nat} {cs:List AV} (hI:G1.I=G0.I):RowR w G0 rb o cs↔RowR w G1 rb o cs:=by
 have e:G1.bare=G0.bare:=by unfold Gh.bare;rw [hI]
 constructor
 ·intro h
  have h2:RowR w G0.bare rb o cs:=bareRow (G:=G0) cs h;rw [←e] at h2;exact RowR.mono (Ext.unbare w G1) cs h2
 ·intro h
  have h2:RowR w G1.bare rb o cs:=bareRow (G:=G1) cs h;rw [e] at h2;exact RowR.mono (Ext.unbare w G0) cs h2
mutual
theorem reF_out (hI:G1.I=G0.I) (hg:∀ c x,G0.μ c=some x→G1.μ (g c)=some x):∀ (a:AV) {v:Value},VR w G0 a v→VR w G1 (reF g a) v
 | .any,_,_=>trivial
 | .g _,_,h=>h
 | .z0,_,h=>h
 | .ept _ _,_,⟨rb,ro,h1,h2⟩=>⟨rb,ro,h1,(rowI hI).1 h2⟩
 | .sl _ _ _,_,⟨a,cap,h1,h2,h3⟩=>⟨a,cap,h1,h2,h3.imp id fun ⟨rb,ro,h4,h5⟩=>⟨rb,ro,h4,(rowI hI).1 h5⟩⟩
 | .ptr b _,_,⟨rb,ro,h1,h2⟩=>⟨rb,ro,hg b _ h1,h2⟩
 | .gs b _ _ _ _,_,⟨rb,ro,o',cap,c,e,fr,h1,h2⟩=>⟨rb,ro,o',cap,c,e,fr,hg b _ h1,h2⟩
 | .mp b,_,⟨rb,h1,h2⟩=>⟨rb,hg b _ h1,h2⟩
 | .fn _ x y,_,⟨rx,ry,h1,h2,h3⟩=>⟨rx,ry,h1,reFL_out hI hg x h2,reFL_out hI hg y h3⟩
 | .agg x,_,⟨rc,h1,h2⟩=>⟨rc,h1,reFL_out hI hg x h2⟩
 | .tup x,_,⟨rc,h1,h2⟩=>⟨rc,h1,reFL_out hI hg x h2⟩
 | .ifc _ x,_,⟨y,h1,h2⟩=>⟨y,h1,reF_out hI hg x h2⟩
theorem reFL_out (hI:G1.I=G0.I) (hg:∀ c x,G0.μ c=some x→G1.μ (g c)=some x):∀ (a:List AV) {v:List Value},VRs w G0 a v→VRs w G1 (reFL g a) v
 | [],_,h=>h
 | a::as,_,⟨v,vs,h1,h2,h3⟩=>⟨v,vs,h1,reF_out hI hg a h2,reFL_out hI hg as h3⟩
end
mutual
theorem reF_in (hI:G1.I=G0.I) (hg:∀ c x,c<n→G1.μ (g c)=some x→G0.μ c=some x):∀ (a:AV) {v:Value},ltA n a→VR w G1 (reF g a) v→VR w G0 a v
 | .any,_,_,_=>trivial
 | .g _,_,_,h=>h
 | .z0,_,_,h=>h
 | .ept _ _,_,_,⟨rb,ro,h1,h2⟩=>⟨rb,ro,h1,(rowI hI).2 h2⟩
 | .sl _ _ _,_,_,⟨a,cap,h1,h2,h3⟩=>⟨a,cap,h1,h2,h3.imp id fun ⟨rb,ro,h4,h5⟩=>⟨rb,ro,h4,(rowI hI).2 h5⟩⟩
 | .ptr b _,_,hl,⟨rb,ro,h1,h2⟩=>⟨rb,ro,hg b _ hl h1,h2⟩
 | .gs b _ _ _ _,_,hl,⟨rb,ro,o',cap,c,e,fr,h1,h2⟩=>⟨rb,ro,o',cap,c,e,fr,hg b _ hl h1,h2⟩
 | .mp b,_,hl,⟨rb,h1,h2⟩=>⟨rb,hg b _ hl h1,h2⟩
 | .fn _ x y,_,hl,⟨rx,ry,h1,h2,h3⟩=>⟨rx,ry,h1,reFL_in hI hg x hl.1 h2,reFL_in hI hg y hl.2 h3⟩
 | .agg x,_,hl,⟨rc,h1,h2⟩=>⟨rc,h1,reFL_in hI hg x hl h2⟩
 | .tup x,_,hl,⟨rc,h1,h2⟩=>⟨rc,h1,reFL_in hI hg x hl h2⟩
 | .ifc _ x,_,hl,⟨y,h1,h2⟩=>⟨y,h1,reF_in hI hg x hl h2⟩
theorem reFL_in (hI:G1.I=G0.I) (hg:∀ c x,c<n→G1.μ (g c)=some x→G0.μ c=some x):∀ (a:List AV) {v:List Value},ltL n a→VRs w G1 (reFL g a) v→VRs w G0 a v
 | [],_,_,h=>h
 | a::as,_,hl,⟨v,vs,h1,h2,h3⟩=>⟨v,vs,h1,reF_in hI hg a hl.1 h2,reFL_in hI hg as hl.2 h3⟩
end
theorem reFE_in (hI:G1.I=G0.I) (hg:∀ c x,c<n→G1.μ (g c)=some x→G0.μ c=some x):∀ (es:List (Nat×AV×AV)) {l:List MapEntry},ltE n es→EntR w G1 (reFE g es) l→EntR w G0 es l
 | [],_,_,h=>h
 | _::es,_,hl,⟨x,xs,h1,⟨h2,h3,h4⟩,h5⟩=>⟨x,xs,h1,⟨h2,reF_in hI hg _ hl.1.1 h3,reF_in hI hg _ hl.1.2 h4⟩,reFE_in hI hg es hl.2 h5⟩
theorem reFL_get:∀ (cs:List AV) (i:Nat),(reFL g cs)[i]?=(cs[i]?).map (reF g)
 | [],i=>by simp [reFL]
 | a::as,i=>by
   cases i with
   | zero=>simp [reFL]
   | succ i=>simpa [reFL] using reFL_get as i
theorem ltL_get:∀ {cs:List AV},ltL n cs→∀ (i:Nat) (a:AV),cs[i]?=some a→ltA n a
 | [],_,i,a,h=>by simp at h
 | x::xs,hl,i,a,h=>by
   cases i with
   | zero=>simp only [List.getElem?_cons_zero,Option.some.injEq] at h;rw [←h];exact hl.1
   | succ i=>exact ltL_get hl.2 i a (by simpa using h)
theorem reFB_in (hI:G1.I=G0.I) (hg:∀ c x,c<n→G1.μ (g c)=some x→G0.μ c=some x) {rb ro:Nat}:∀ {k:Blk},ltB n k→BlkR w G1 rb ro (reFB g k)→BlkR w G0 rb ro k
 | .cells cs,hl,⟨c,e,fr,h1,h2,h3⟩=>⟨c,e,fr,h1,h2,fun i a hi=>by
    obtain ⟨v,h4,h5⟩:=h3 i (reF g a) (by rw [reFL_get,hi];rfl)
    exact ⟨v,h4,reF_in hI hg a (ltL_get hl i a hi) h5⟩⟩
 | .map es clk,hl,⟨h1,l,h2,h3⟩=>⟨h1,l,h2,reFE_in hI hg es hl h3⟩
 | .sit _ _,_,h=>h
end
section
variable {P:Program} {GT:GTab} {rd:List Mem}
theorem getL_app:∀ (x y:ML) (b:Nat),getL (x++y) b=(getL x b).or (getL y b)
 | [],y,b=>by simp [getL]
 | (c,k)::x,y,b=>by
   show getL ((c,k)::(x++y)) b=_;rw [getL,getL,getL_app x y b]
   split <;> simp
theorem getL_mem:∀ {m:ML} {b:Nat} {k:Blk},getL m b=some k→(b,k)∈m
 | [],b,k,h=>by simp [getL] at h
 | (c,x)::m,b,k,h=>by
   rw [getL] at h
   split at h
   ·rename_i hc;subst hc;cases h;exact List.mem_cons_self
   ·exact List.mem_cons_of_mem _ (getL_mem h)
section
variable {f:FuncId} {g:Nat→Nat} {q:Ren} {n0 n1 n:Nat} {m m0 m1:ML} {args0:List AV} {a0:AV}
end
end
section
variable {GT:GTab} {E:Beg} {l l':List AV} {m m':ML} {n n':Nat}
def reT (h:Nat→Nat) (n':Nat):List AV→List AV→Prop
 | [],l=>l=[]
 | a::as,l=>∃ b bs,l=b::bs∧(a=.any∨(b=reF h a∧ltA n' a))∧reT h n' as bs
theorem reT_get {h:Nat→Nat}:∀ {l' l:List AV},reT h n' l' l→∀ (t:Nat) (a:AV),l'[t]?=some a→∃ b,l[t]?=some b∧(a=.any∨(b=reF h a∧ltA n' a))
 | [],_,_,t,a,e=>by simp at e
 | a::as,_,e,t,x,hx=>by
   obtain ⟨b,bs,rfl,h1,h2⟩:=e
   cases t with
   | zero=>simp only [List.getElem?_cons_zero,Option.some.injEq] at hx;subst hx;exact ⟨b,rfl,h1⟩
   | succ t=>simp only [List.getElem?_cons_succ] at hx ⊢;exact reT_get h2 t x hx
theorem reT_cons {h:Nat→Nat} {a b:AV} {as bs:List AV}:reT h n' (a::as) (b::bs)=((a=.any∨(b=reF h a∧ltA n' a))∧reT h n' as bs) :=
 propext ⟨fun ⟨_,_,e,h1,h2⟩=>by cases e;exact ⟨h1,h2⟩,fun ⟨h1,h2⟩=>⟨_,_,rfl,h1,h2⟩⟩
theorem reT_nil {h:Nat→Nat}:reT h n' [] []=True:=by rw [reT];simp
theorem VS.renF (h:Nat→Nat) (hlow:∀ c,c<E.nx→h c=c) (hhigh:∀ c,E.nx≤c→E.nx≤h c) (hn':E.nx≤n')
 (hinj:∀ c c' k k',getL m' c=some k→getL m' c'=some k'→h c=h c'→c=c')
 (hm:∀ c k,getL m' c=some k→c<n'∧ltB n' k∧getL m (h c)=some (reFB h k)) (hl:reT h n' l' l):VS GT E (stL l m n) (stL l' m' n'):=by
 intro base w1 G1 w G ts hm1 hs ht;have hI:G.I=(⟨fun c=>if c<n' then G.μ (h c) else none,G.I⟩:Gh).I:=rfl;have back:∀ c x,c<n'→G.μ (h c)=some x→(⟨fun c=>if c<n' then G.μ (h c) else none,G.I⟩:Gh).μ c=some x:=fun c x hc hx=>(if_pos hc).trans hx;have mu:∀ {c x},(⟨fun c=>if c<n' then G.μ (h c) else none,G.I⟩:Gh).μ c=some x→c<n'∧G.μ (h c)=some x:=by
  intro c x hx;have hx':(if c<n' then G.μ (h c) else none)=some x:=hx
  split at hx'
  ·exact ⟨by assumption,hx'⟩
  ·cases hx'
 have mu1:∀ c,c<E.nx→(⟨fun c=>if c<n' then G.μ (h c) else none,G.I⟩:Gh).μ c=G.μ c:=fun c hc=>by
  show (if c<n' then G.μ (h c) else none)=_;rw [if_pos (by omega),hlow c hc]
 generalize hG2:(⟨fun c=>if c<n' then G.μ (h c) else none,G.I⟩:Gh)=G2 at *;have hI2:G2.I=G.I:=hI.symm;have hbare:G2.bare=G.bare:=by rw [←hG2];rfl
 have low:∀ (b:Nat) (x:Nat×Nat),G1.μ b=some x→b<E.nx:=by
  intro b x hb;rcases Nat.lt_or_ge b E.nx with h | h
  ·exact h
  ·rw [hm1.fresh b h trivial] at hb;cases hb
 have rdlow:∀ c k,getR E.rd c=some k→E.cur.get c=none∧c<E.nx∧∃ rb ro,G1.μ c=some (rb,ro):=by
  intro c k hc;have hcn:E.cur.get c=none:=by
   cases hx:E.cur.get c with
   | none=>rfl
   | some y=>rw [hm1.dj c y hx] at hc;cases hc
  obtain ⟨rb,ro,e1,-⟩:=hm1.blk c k (by rw [Q0b,hcn];exact hc);exact ⟨hcn,low c _ e1,rb,ro,e1⟩
 have hext:Ext w1 w G1 G2:=⟨fun b x hb=>by rw [mu1 b (low b x hb)];exact hs.ext.mu b x hb,fun r hr=>by rw [hI2];exact hs.ext.im r hr,hs.ext.same,hs.ext.shape⟩;have hbl:∀ c k,(memL m').get c=some k→c<n'∧ltB n' k∧(memL m).get (h c)=some (reFB h k):=by
  intro c k hc;rw [Q0d] at hc;obtain ⟨g1,g2,g3⟩:=hm c k hc;exact ⟨g1,g2,(Q0d m _).trans g3⟩
 have hdj:∀ c k,(memL m').get c=some k→getR E.rd c=none:=by
  intro c k hc
  cases hr:getR E.rd c with
  | none=>rfl
  | some y =>
    obtain ⟨-,hlt,-⟩:=rdlow c y hr;obtain ⟨-,-,g3⟩:=hbl c k hc;rw [hlow c hlt] at g3;rw [hs.mr.dj c _ g3] at hr;cases hr
 have hrd:∀ c k,(memL m').get c=none→getR E.rd c=some k→c<E.nx∧getR (memL m::E.rd) c=some k:=by
  intro c k hcm hc;obtain ⟨-,hlt,-⟩:=rdlow c k hc;have hcn2:(memL m).get c=none:=by
   cases hx:(memL m).get c with
   | none=>rfl
   | some y=>rw [hs.mr.dj c y hx] at hc;cases hc
  exact ⟨hlt,by rw [Q0b,hcn2];exact hc⟩
 have hblk:∀ c k,getR (memL m'::E.rd) c=some k→∃ rb ro,G2.μ c=some (rb,ro)∧base≤rb∧¬G2.I rb∧BlkR w G2 rb ro k:=by
  intro c k hc;rw [Q0b] at hc
  cases hcm:(memL m').get c with
  | some y =>
    rw [hcm,Option.some_or] at hc;obtain rfl:y=k:=by simpa using hc
    obtain ⟨g1,g2,g3⟩:=hbl c y hcm;obtain ⟨rb,ro,e1,e2,e3,e4⟩:=hs.mr.blk (h c) _ (Q0a g3);exact ⟨rb,ro,back c _ g1 e1,e2,by rw [hI2];exact e3,reFB_in (g:=h) (n:=n') (G0:=G2) (G1:=G) hI back g2 e4⟩
  | none =>
    rw [hcm,Option.none_or] at hc;obtain ⟨hcn,hlt,-⟩:=rdlow c k hc;obtain ⟨rb,ro,e1,e2,e3,e4⟩:=hm1.blk c k (by rw [Q0b,hcn];exact hc);have hg:G.μ c=some (rb,ro):=hs.ext.mu c _ e1;obtain ⟨rb',ro',f1,f2,f3,-⟩:=hs.mr.blk c k (hrd c k hcm hc).2;rw [hg] at f1;cases f1;refine ⟨rb,ro,by rw [mu1 c hlt];exact hg,f2,by rw [hI2];exact f3,e4.mono hext (hs.fr rb e4.lt fun b k0 ro0 hb0 he0=>?_)⟩;have:=hm1.inj b c k0 k rb ro0 ro (Q0a hb0) (by rw [Q0b,hcn];exact hc) he0 e1;subst this;rw [hcn] at hb0;cases hb0
 refine ⟨G2,by rw [hbare];exact .refl w _,?_,fun t a ha=>?_⟩
 ·exact {
   mr := {
    fresh:=fun b hb _=>by
     have hb':n'≤b:=hb
     cases hq:G2.μ b with
     | none=>rfl
     | some c=>have:=(mu hq).1;omega
    blk:=hblk
    inj := fun c c' k k' rb ro ro' hc hc' e1 e2=>by
     have back2:∀ c k,getR (memL m'::E.rd) c=some k→(∃ x,getR (memL m::E.rd) (h c)=some x)∧((∃ y,getL m' c=some y)∨c<E.nx):=by
      intro c k hc;rw [Q0b] at hc
      cases hcm:(memL m').get c with
      | some y =>
        obtain ⟨-,-,g3⟩:=hbl c y hcm;exact ⟨⟨_,Q0a g3⟩,.inl ⟨y,by rw [←Q0d];exact hcm⟩⟩
      | none =>
        rw [hcm,Option.none_or] at hc;obtain ⟨hlt,hg⟩:=hrd c k hcm hc;exact ⟨⟨k,by rw [hlow c hlt];exact hg⟩,.inr hlt⟩
     obtain ⟨⟨x,g1⟩,q⟩:=back2 c k hc;obtain ⟨⟨x',g1'⟩,q'⟩:=back2 c' k' hc';have e:=hs.mr.inj (h c) (h c') x x' rb ro ro' g1 g1' (mu e1).2 (mu e2).2;rcases Nat.lt_or_ge c E.nx with a | a <;> rcases Nat.lt_or_ge c' E.nx with b | b
     ·rw [hlow c a,hlow c' b] at e;exact e
     ·have:=hhigh c' b;rw [hlow c a] at e;omega
     ·have:=hhigh c a;rw [hlow c' b] at e;omega
     ·rcases q with ⟨y,q⟩ | q
      ·rcases q' with ⟨y',q'⟩ | q'
       ·exact hinj c c' y y' q q' e
       ·omega
      ·omega
    imm:=fun r hr=>hs.mr.imm r (by rw [hI2] at hr;exact hr)
    base:=hs.mr.base
    gt:=fun g cs hg=>RowR.mono (Ext.unbare w G2) cs (show RowR w G2.bare g 0 cs from by rw [hbare];exact bareRow (G:=G) cs (hs.mr.gt g cs hg))
    dj:=hdj }
   ext:=hext
   os:=hs.os,tape:=hs.tape,output:=hs.output,size:=hs.size,fr:=hs.fr
   prov:=fun c k rb ro hc hx=>by
    obtain ⟨-,-,g3⟩:=hbl c k hc;exact hs.prov (h c) _ rb ro g3 (mu hx).2
   impr:=fun r hr=>hs.impr r (by rw [hI2] at hr;exact hr)
   mus:=fun b x hb=>by
    rcases Nat.lt_or_ge b E.nx with h5 | h5
    ·rw [mu1 b h5] at hb;exact hs.mus b x hb
    ·exact .inr h5
   nx:=hn' }
 ·rw [Q0k] at ha
  obtain ⟨b,g1,g2⟩:=reT_get hl t a ha;obtain ⟨v,g3,g4⟩:=ht t b (by rw [Q0k];exact g1);refine ⟨v,g3,?_⟩;rcases g2 with rfl | ⟨rfl,g5⟩
  ·trivial
  ·exact reF_in (g:=h) (n:=n') (G0:=G2) (G1:=G) hI back a g5 g4
def frAF (S:Nat→Option (List AV)) (a' a:AV):Prop:=a'=.any∨a'=a∨∃ b cs o n sz k,S b=some cs∧a=.gs b o n sz k∧a'=.sl n sz ((cs.drop o).take (n*sz))∧o+n*sz≤cs.length
def frLF (S:Nat→Option (List AV)):List AV→List AV→Prop
 | [],l=>l=[]
 | a::as,l=>∃ x xs,l=x::xs∧frAF S a x∧frLF S as xs
theorem frLF_get {S:Nat→Option (List AV)}:∀ {l' l:List AV},frLF S l' l→∀ (t:Nat) (a:AV),l'[t]?=some a→∃ x,l[t]?=some x∧frAF S a x
 | [],_,_,t,a,h=>by simp at h
 | a::as,_,h,t,x,hx=>by
   obtain ⟨y,ys,rfl,h1,h2⟩:=h
   cases t with
   | zero=>simp only [List.getElem?_cons_zero,Option.some.injEq] at hx;subst hx;exact ⟨y,rfl,h1⟩
   | succ t=>simp only [List.getElem?_cons_succ] at hx ⊢;exact frLF_get h2 t x hx
theorem frLF.of_get {S:Nat→Option (List AV)}:∀ {l' l:List AV},l'.length=l.length→(∀ (t:Nat) (a x:AV),l'[t]?=some a→l[t]?=some x→frAF S a x)→frLF S l' l
 | [],[],_,_=>rfl
 | [],_::_,h,_=>by simp at h
 | _::_,[],h,_=>by simp at h
 | a::as,x::xs,h,k=>⟨x,xs,rfl,k 0 a x rfl rfl,frLF.of_get (by simpa using h) fun t b y h1 h2=>k (t+1) b y (by simpa using h1) (by simpa using h2)⟩
theorem frLF_cons {S:Nat→Option (List AV)} {as as':List AV} {a a':AV}:frLF S (a'::as') (a::as)=(frAF S a' a∧frLF S as' as):=propext ⟨fun ⟨_,_,e,h1,h2⟩=>by cases e;exact ⟨h1,h2⟩,fun ⟨h1,h2⟩=>⟨_,_,rfl,h1,h2⟩⟩
theorem frLF_nil {S:Nat→Option (List AV)}:frLF S [] []=True:=by rw [frLF];simp
theorem frAF_any {S:Nat→Option (List AV)} {a:AV}:frAF S .any a=True:=by simp [frAF]
theorem frAF_self {S:Nat→Option (List AV)} {a:AV}:frAF S a a=True:=by simp [frAF]
def frEF (S:Nat→Option (List AV)):List (Nat×AV×AV)→List (Nat×AV×AV)→Prop
 | [],l=>l=[]
 | e::es,l=>∃ x xs,l=x::xs∧(e.1=x.1∧frAF S e.2.1 x.2.1∧frAF S e.2.2 x.2.2)∧frEF S es xs
theorem frEF.spec {S:Nat→Option (List AV)} {w:World} {G G':Gh} (hv:∀ {a' a:AV} {v:Value},frAF S a' a→VR w G a v→VR w G' a' v):∀ {es es':List (Nat×AV×AV)} {l:List MapEntry},frEF S es' es→EntR w G es l→EntR w G' es' l
 | es,[],_,h,hl=>by obtain rfl:es=[]:=h;exact hl
 | es,e::es',_,h,hl=>by
   obtain ⟨x,xs,rfl,⟨h1,h2,h3⟩,h4⟩:=h;obtain ⟨y,ys,rfl,⟨g1,g2,g3⟩,g4⟩:=hl;exact ⟨y,ys,rfl,⟨g1.trans h1.symm,hv h2 g2,hv h3 g3⟩,frEF.spec hv h4 g4⟩
def frBF (S:Nat→Option (List AV)):Blk→Blk→Prop
 | .cells x,k=>∃ y,k=.cells y∧frLF S x y
 | .map es clk,k=>∃ es',k=.map es' clk∧frEF S es es'
 | .sit _ _,_=>False
theorem VS.sealF (S:Nat→Option (List AV)) (hS:∀ b cs,S b=some cs→getL m b=some (.cells cs)∧∀ a∈cs,plainA a=true) (hl:frLF S l' l)
 (hm:∀ c k,getL m' c=some k→S c=none∧(getL m c=some k∨∃ k',getL m c=some k'∧frBF S k k')):VS GT E (stL l m n) (stL l' m' n):=by
 intro base w1 G1 w G ts hm1 hs ht;have plainIds:∀ {a:AV},plainA a=true→noIds a=true:=fun {a} h=>by cases a <;> first | rfl | (cases h;done)
 have hin:∀ {b cs},S b=some cs→∃ rb ro,G.μ b=some (rb,ro)∧∃ c e fr,w.heap[rb]?=some (Obj.cells c e fr)∧CellsR w G c ro cs:=by
  intro b cs hb;obtain ⟨rb,ro,e1,-,-,c,e,fr,e4,-,e6⟩:=hs.mr.blk b _ (Q0a ((Q0d m b).trans (hS b cs hb).1));exact ⟨rb,ro,e1,c,e,fr,e4,e6⟩
 have hx:Ext w w G ⟨G.μ,fun r=>G.I r∨∃ b cs ro,S b=some cs∧G.μ b=some (r,ro)⟩:=⟨fun _ _ h=>h,fun _ h=>.inl h,fun _ _=>rfl,fun _ c _ fr h=>⟨c,fr,h,rfl⟩⟩;have hv:∀ {a' a:AV} {v:Value},frAF S a' a→VR w G a v→VR w ⟨G.μ,fun r=>G.I r∨∃ b cs ro,S b=some cs∧G.μ b=some (r,ro)⟩ a' v:=by
  intro a' a v h hva;rcases h with rfl | rfl | ⟨b,cs,o,k,sz,kc,hb,rfl,rfl,hle⟩
  ·trivial
  ·exact VR.mono hx _ hva
  ·obtain ⟨rb,ro,e1,c,e,fr,e4,e6⟩:=hin hb
   obtain ⟨rb',ro',o',cap,c',e',fr',g1,rfl,g3,g4,-⟩:=hva;rw [e1] at g1;cases g1;refine ⟨_,cap,rfl,g4,?_⟩
   by_cases h0:k=0
   ·exact .inl h0
   ·refine .inr ⟨rb,ro+o,by rw [g3.resolve_right (by omega)],RowR.mk (G:=⟨G.μ,fun r=>G.I r∨∃ b cs ro,S b=some cs∧G.μ b=some (r,ro)⟩) (show G.I rb∨∃ b cs ro,S b=some cs∧G.μ b=some (rb,ro) from .inr ⟨b,cs,ro,hb,e1⟩) fun i a hi=>?_⟩
    rw [List.getElem?_take] at hi
    split at hi
    ·rw [List.getElem?_drop] at hi
     obtain ⟨u,g5,g6⟩:=e6 _ a hi;refine ⟨u,?_,VR.mono hx.bare a (Q1t a (plainIds ((hS b cs hb).2 a (List.mem_of_getElem? hi))) g6)⟩;rw [cell_of e4,Nat.add_assoc];exact g5
    ·cases hi
 have hback:∀ c k,getR (memL m'::E.rd) c=some k→S c=none∧((getR (memL m::E.rd) c=some k)∨∃ k',getR (memL m::E.rd) c=some k'∧frBF S k k'):=by
  intro c k hc;rw [Q0b] at hc
  cases hcm:(memL m').get c with
  | some y =>
    rw [hcm,Option.some_or] at hc;obtain rfl:y=k:=by simpa using hc
    rw [Q0d] at hcm;obtain ⟨g1,g2⟩:=hm c y hcm;refine ⟨g1,?_⟩;rcases g2 with g2 | ⟨z,g3,g4⟩
    ·exact .inl (getR_memL g2)
    ·exact .inr ⟨z,getR_memL g3,g4⟩
  | none =>
    rw [hcm,Option.none_or] at hc;have hcn:(memL m).get c=none:=by
     cases hy:(memL m).get c with
     | none=>rfl
     | some y=>rw [hs.mr.dj c y hy] at hc;cases hc
    refine ⟨?_,.inl (by rw [Q0b,hcn];exact hc)⟩
    cases hb:S c with
    | none=>rfl
    | some cs=>rw [Q0d,(hS c cs hb).1] at hcn;cases hcn
 have hold:∀ c k,getR (memL m'::E.rd) c=some k→S c=none∧∃ k',getR (memL m::E.rd) c=some k':=by
  intro c k hc;obtain ⟨g1,g2 | ⟨y,g3,-⟩⟩:=hback c k hc
  ·exact ⟨g1,k,g2⟩
  ·exact ⟨g1,_,g3⟩
 refine ⟨⟨G.μ,fun r=>G.I r∨∃ b cs ro,S b=some cs∧G.μ b=some (r,ro)⟩,hx.bare,?_,fun t a ha=>?_⟩
 ·exact {
   mr := {
    fresh:=hs.mr.fresh
    blk:=fun d k hd=>by
     obtain ⟨g1,g2⟩:=hback d k hd;obtain ⟨k',g3⟩:=(hold d k hd).2;obtain ⟨r,o,f1,f2,f3,f4⟩:=hs.mr.blk d k' g3;refine ⟨r,o,f1,f2,fun hi=>?_,?_⟩
     ·rcases hi with hi | ⟨b,cs,ro,hb,e1⟩
      ·exact f3 hi
      ·have:=hs.mr.inj d b k' _ r o ro g3 (Q0a ((Q0d m b).trans (hS b cs hb).1)) f1 e1
       subst this;rw [g1] at hb;cases hb
     ·rcases g2 with g2 | ⟨y,g4,g5⟩
      ·rw [g2] at g3;cases g3;exact f4.mono hx rfl
      ·rw [g4] at g3;cases g3
       cases k with
       | cells x =>
         obtain ⟨y,rfl,g5⟩:=g5;obtain ⟨c',e',fr',h1,h2,h3⟩:=f4;refine ⟨c',e',fr',h1,h2,fun i a hi=>?_⟩;obtain ⟨z,h4,h5⟩:=frLF_get g5 i a hi;obtain ⟨u,h6,h7⟩:=h3 i z h4;exact ⟨u,h6,hv h5 h7⟩
       | map es clk =>
         obtain ⟨es',rfl,g5⟩:=g5;obtain ⟨h0,l0,h1,h2⟩:=f4;exact ⟨h0,l0,h1,frEF.spec hv g5 h2⟩
       | sit s p=>exact g5.elim
    inj:=fun d d' k k' r o o' hd hd' f1 f2=>by
     obtain ⟨x,g1⟩:=(hold d k hd).2;obtain ⟨y,g2⟩:=(hold d' k' hd').2;exact hs.mr.inj d d' x y r o o' g1 g2 f1 f2
    imm:=fun r hi=>by
     rcases hi with hi | ⟨b,cs,ro,hb,e1⟩
     ·exact hs.mr.imm r hi
     ·obtain ⟨rb,ro',e2,c,e,fr,e4,-⟩:=hin hb
      rw [e1] at e2;cases e2;exact (Array.getElem?_eq_some_iff.1 e4).1
    base:=hs.mr.base
    gt:=fun g cs hg=>RowR.mono hx cs (hs.mr.gt g cs hg)
    dj:=fun d k hd=>by
     rw [Q0d] at hd;obtain ⟨g1,g2⟩:=hm d k hd;rcases g2 with g2 | ⟨y,g3,-⟩
     ·exact hs.mr.dj d k ((Q0d m d).trans g2)
     ·exact hs.mr.dj d _ ((Q0d m d).trans g3) }
   ext:=hs.ext.trans hx
   os:=hs.os,tape:=hs.tape,output:=hs.output,size:=hs.size,fr:=hs.fr
   prov:=fun d k r o hd f1=>by
    rw [Q0d] at hd;obtain ⟨g1,g2⟩:=hm d k hd;rcases g2 with g2 | ⟨y,g3,-⟩
    ·exact hs.prov d k r o ((Q0d m d).trans g2) f1
    ·exact hs.prov d _ r o ((Q0d m d).trans g3) f1
   impr:=fun r hi=>by
    rcases hi with hi | ⟨b,cs,ro,hb,e1⟩
    ·exact hs.impr r hi
    ·exact .inr (hs.prov b _ r ro ((Q0d m b).trans (hS b cs hb).1) e1)
   mus:=hs.mus,nx:=hs.nx }
 ·rw [Q0k] at ha
  obtain ⟨z,g1,g2⟩:=frLF_get hl t a ha;obtain ⟨v,g3,g4⟩:=ht t z (by rw [Q0k];exact g1);exact ⟨v,g3,hv g2 g4⟩
end
def rowsM {α:Type} (enc:α→List AV) (b0:Nat) (R:Nat→List α):Nat→ML
 | 0=>[]
 | N+1=>match R N with
   | []=>rowsM enc b0 R N
   | l=>(b0+N,.cells (l.flatMap enc))::rowsM enc b0 R N
def ownA {α:Type} (b0 sz:Nat) (j:Nat):List α→AV
 | []=>.g (.slice none 0 0)
 | _::l=>.gs (b0+j) 0 (l.length+1) sz (l.length+1)
section
variable {α:Type} {enc:α→List AV} {b0:Nat} {R:Nat→List α}
theorem ifc {β:Type} {p q:Prop} [Decidable p] [Decidable q] {a b:β} (h:p↔q):(if p then a else b)=if q then a else b:=by
 by_cases hp:p
 ·rw [if_pos hp,if_pos (h.1 hp)]
 ·rw [if_neg hp,if_neg (fun e=>hp (h.2 e))]
theorem Q2e (enc:α→List AV) (b0:Nat) (R:Nat→List α):∀ (N c:Nat),getL (rowsM enc b0 R N) c=if b0≤c∧c<b0+N∧R (c - b0)≠[] then some (.cells ((R (c - b0)).flatMap enc)) else none
 | 0,c=>by rw [if_neg (by omega)];rfl
 | N+1,c=>by
   have ih:=Q2e enc b0 R N c;rw [rowsM]
   by_cases hc:c=b0+N
   ·have e:c - b0=N:=by omega
    rw [e]
    cases hR:R N with
    | nil=>simp only;rw [ih,if_neg (by omega),if_neg (by simp)]
    | cons x l=>simp only;rw [getL,if_pos hc.symm,if_pos ⟨by omega,by omega,by simp⟩]
   ·cases hR:R N with
    | nil=>simp only;rw [ih];exact ifc ⟨fun h=>⟨h.1,by omega,h.2.2⟩,fun h=>⟨h.1,by omega,h.2.2⟩⟩
    | cons x l=>simp only;rw [getL,if_neg (fun e=>hc e.symm),ih];exact ifc ⟨fun h=>⟨h.1,by omega,h.2.2⟩,fun h=>⟨h.1,by omega,h.2.2⟩⟩
theorem rowsM_at {N j:Nat} (hj:j<N) (hR:R j≠[]):getL (rowsM enc b0 R N) (b0+j)=some (.cells ((R j).flatMap enc)):=by
 rw [Q2e,Nat.add_sub_cancel_left,if_pos ⟨by omega,by omega,hR⟩]
theorem ownA_pos {j sz:Nat} {l:List α} (h:l≠[]):ownA b0 sz j l=.gs (b0+j) 0 l.length sz l.length:=by
 cases l with
 | nil=>exact absurd rfl h
 | cons x l=>rfl
end
section
variable {P:Program} {GT:GTab} {rd:List Mem} {m:ML} {n:Nat}
theorem CallM.pureN {f:FuncId} {args:List AV} {a v:AV} {m':ML} {n':Nat} (h:CallM P GT [] [] 0 f args a m' n') (hi:noIdsL args=true) (hs:SealTo m' a v):PureN P GT f args v:=by
 obtain ⟨K,hsv⟩:=hs;refine ⟨fun w I rargs hI hgt ha=>?_,hi,h.2⟩
 have hm:MR w.heap.size GT allF [] (memL []) 0 w ⟨fun _=>none,I⟩ :=
  { fresh:=fun _ _ _=>rfl,blk:=fun b k hb=>by simp [memL,getR,Tri.get_e] at hb,inj:=fun b b' k k' rb ro ro' h1=>by simp [memL,getR,Tri.get_e] at h1
    imm:=hI,base:=Nat.le_refl _,gt:=hgt,dj:=fun b k hb=>by cases hb }
 refine (h.1 w.heap.size w ⟨fun _=>none,I⟩ rargs hm ha).mono ?_;rintro e w' ⟨r,G',rfl,hs,hr⟩;refine ⟨frz (memL m') G',{ im:=fun rb hi=>.inl (hs.ext.im rb hi),new:=fun rb hi=>?_,lt:=fun rb hi=>?_,os:=hs.os,tape:=hs.tape,output:=hs.output,size:=hs.size,same:=fun k hk=>hs.fr k hk fun b x ro hb=>by simp [memL,Tri.get_e] at hb },r,rfl,(sealV_spec hs.mr K).1 hsv hr⟩
 ·rcases hi with hi | ⟨b,k,ro,h1,h2⟩
  ·rcases hs.impr rb hi with h3 | h3 | ⟨b0,k0,ro0,h3,_⟩
   ·exact .inl h3
   ·exact .inr h3
   ·simp [memL,Tri.get_e] at h3
  ·rcases hs.prov b k rb ro h1 h2 with h3 | ⟨b0,k0,ro0,h3,_⟩
   ·exact .inr h3
   ·simp [memL,Tri.get_e] at h3
 ·rcases hi with hi | ⟨b,k,ro,h1,h2⟩
  ·exact hs.mr.imm rb hi
  ·obtain ⟨rb',ro',h3,_,_,h4⟩:=hs.mr.blk b k (Q0a h1)
   rw [h2] at h3;cases h3;exact h4.lt
mutual
theorem reF_id (g:Nat→Nat):∀ (a:AV),noIds a=true→reF g a=a
 | .ptr _ _,h=>by simp [noIds] at h
 | .gs _ _ _ _ _,h=>by simp [noIds] at h
 | .mp _,h=>by simp [noIds] at h
 | .fn f x y,h=>by simp only [noIds,Bool.and_eq_true] at h;rw [reF,reFL_id g x h.1,reFL_id g y h.2]
 | .agg x,h=>by simp only [noIds] at h;rw [reF,reFL_id g x h]
 | .tup x,h=>by simp only [noIds] at h;rw [reF,reFL_id g x h]
 | .ifc t x,h=>by simp only [noIds] at h;rw [reF,reF_id g x h]
 | .any,_=>by rw [reF]
 | .g v,_=>by rw [reF]
 | .ept cs o,_=>by rw [reF]
 | .sl n sz cs,_=>by rw [reF]
 | .z0,_=>by rw [reF]
theorem reFL_id (g:Nat→Nat):∀ (as:List AV),noIdsL as=true→reFL g as=as
 | [],_=>by rw [reFL]
 | a::as,h=>by simp only [noIdsL,Bool.and_eq_true] at h;rw [reFL,reF_id g a h.1,reFL_id g as h.2]
end
mutual
theorem ltA_id (n:Nat):∀ (a:AV),noIds a=true→ltA n a
 | .ptr _ _,h=>by simp [noIds] at h
 | .gs _ _ _ _ _,h=>by simp [noIds] at h
 | .mp _,h=>by simp [noIds] at h
 | .fn f x y,h=>by simp only [noIds,Bool.and_eq_true] at h;rw [ltA];exact ⟨ltL_id n x h.1,ltL_id n y h.2⟩
 | .agg x,h=>by simp only [noIds] at h;rw [ltA];exact ltL_id n x h
 | .tup x,h=>by simp only [noIds] at h;rw [ltA];exact ltL_id n x h
 | .ifc t x,h=>by simp only [noIds] at h;rw [ltA];exact ltA_id n x h
 | .any,_=>by simp [ltA]
 | .g v,_=>by simp [ltA]
 | .ept cs o,_=>by simp [ltA]
 | .sl n sz cs,_=>by simp [ltA]
 | .z0,_=>by simp [ltA]
theorem ltL_id (n:Nat):∀ (as:List AV),noIdsL as=true→ltL n as
 | [],_=>by rw [ltL];trivial
 | a::as,h=>by simp only [noIdsL,Bool.and_eq_true] at h;rw [ltL];exact ⟨ltA_id n a h.1,ltL_id n as h.2⟩
end
end
theorem fillA_nil (p:Nat→Option (Nat×Nat)) (c:List AV):fillA p c []=some c:=Eq.trans rfl rfl
theorem fillA_cons (p:Nat→Option (Nat×Nat)) (c:List AV) (i:Nat) (v:AV) (r:List (Nat×AV)):fillA p c ((i,v)::r)=(match p i,cellsA v with
 | some (off,size),some pc=>if pc.length=size∧off+pc.length≤c.length then fillA p (putA c off pc) r else none
 | _,_=>none):=Eq.trans rfl rfl
theorem getR_L {m:ML} {rd:List Mem} {b:Nat}:getR (memL m::rd) b=(getL m b).or (getR rd b):=by rw [Q0b,Q0d]
attribute [go_sem] fillA_nil fillA_cons getR_L
theorem okD_nil {B:List Nat} {j:Nat}:∀ {fps:List FP} {i:Nat},okD B j [] [] i fps=true
 | [],_=>rfl
 | q::qs,i=>by
   rw [okD,okD_nil];have:freeFP q [] []=true:=rfl;rw [this,Bool.or_true];rfl
theorem okD_end {B:List Nat} {j i:Nat} {W U:List Nat}:okD B j W U i []=true:=rfl
theorem freeFP_quiet {U U':List Nat} {n:Nat}:freeFP ⟨[],U',n,n⟩ [] U=true:=by
 unfold freeFP;rw [List.append_nil,List.all_nil,Bool.and_true,List.all_eq_true];intro b _;have:(Nat.ble n b&&Nat.blt b n)=false:=by
  rw [←Bool.not_eq_true,Bool.and_eq_true];intro h;have h1:=Nat.le_of_ble_eq_true h.1;have h2:b+1≤n:=Nat.le_of_ble_eq_true h.2;omega
 rw [this];rfl
theorem okD_quiet {B:List Nat} {j i:Nat} {U U':List Nat} {n:Nat} {qs:List FP}:okD B j [] U i (⟨[],U',n,n⟩::qs)=okD B j [] U (i+1) qs:=by
 rw [okD,freeFP_quiet,Bool.or_true,Bool.true_and]
theorem okD_free {B:List Nat} {j i:Nat} {W U:List Nat} {q:FP} {qs:List FP} (h:(∀ b∈U++W,b∉q.W∧(b<q.n∨q.n'≤b))∧∀ b∈W,b∉q.U++q.W):okD B j W U i (q::qs)=okD B j W U (i+1) qs:=by
 have:freeFP q W U=true:=by
  unfold freeFP;rw [Bool.and_eq_true,List.all_eq_true,List.all_eq_true];refine ⟨fun b hb=>?_,fun b hb=>by simpa using h.2 b hb⟩;obtain ⟨h1,h2⟩:=h.1 b hb;rw [Bool.and_eq_true];refine ⟨by simpa using h1,?_⟩;have:(Nat.ble q.n b&&Nat.blt b q.n')=false:=by
   rw [←Bool.not_eq_true,Bool.and_eq_true];intro h;have h1:=Nat.le_of_ble_eq_true h.1;have h2:b+1≤q.n':=Nat.le_of_ble_eq_true h.2;omega
  rw [this];rfl
 rw [okD,this,Bool.or_true,Bool.true_and]
theorem okD_bef {B:List Nat} {j i:Nat} {W U:List Nat} {q:FP} {qs:List FP} (h:bef B j i=true):okD B j W U i (q::qs)=okD B j W U (i+1) qs:=by
 rw [okD,h,Bool.true_or,Bool.true_and]
theorem lowD_eq {n:Nat} {W U:List Nat} (h:∀ b∈U++W,b<n):lowD n W U=true:=by
 unfold lowD;rw [List.all_eq_true];intro b hb;exact Nat.ble_eq_true_of_le (h b hb)
theorem andB {a b:Bool} (h:a=true) (k:b=true):(a&&b)=true:=by rw [h,k];rfl
theorem lowD_nil {n:Nat}:lowD n [] []=true:=rfl
mutual
theorem reF_same:∀ (a:AV),reF (fun c=>c) a=a
 | .ptr _ _=>by rw [reF]
 | .gs _ _ _ _ _=>by rw [reF]
 | .mp _=>by rw [reF]
 | .fn _ x y=>by rw [reF,Q2v x,Q2v y]
 | .agg x=>by rw [reF,Q2v x]
 | .tup x=>by rw [reF,Q2v x]
 | .ifc _ x=>by rw [reF,reF_same x]
 | .any=>by rw [reF]
 | .g _=>by rw [reF]
 | .ept _ _=>by rw [reF]
 | .sl _ _ _=>by rw [reF]
 | .z0=>by rw [reF]
theorem Q2v:∀ (as:List AV),reFL (fun c=>c) as=as
 | []=>by rw [reFL]
 | a::as=>by rw [reFL,reF_same a,Q2v as]
end
theorem reFE_same:∀ (es:List (Nat×AV×AV)),reFE (fun c=>c) es=es
 | []=>by rw [reFE]
 | e::es=>by rw [reFE,reF_same,reF_same,reFE_same es]
theorem reFB_same:∀ (k:Blk),reFB (fun c=>c) k=k
 | .cells cs=>by rw [reFB,Q2v]
 | .map es _=>by rw [reFB,reFE_same]
 | .sit _ _=>by rw [reFB]
def keepT (n:Nat):List AV→List AV→Prop
 | [],l=>l=[]
 | a::as,l=>∃ b bs,l=b::bs∧(a=.any∨(b=a∧ltA n a))∧keepT n as bs
theorem keepT_re {n:Nat}:∀ {l' l:List AV},keepT n l' l→reT (fun c=>c) n l' l
 | [],_,h=>h
 | a::as,_,h=>by
   obtain ⟨b,bs,rfl,h1,h2⟩:=h;exact ⟨b,bs,rfl,h1.imp id fun h=>⟨by rw [reF_same];exact h.1,h.2⟩,keepT_re h2⟩
theorem keepT_cons {n:Nat} {a b:AV} {as bs:List AV}:keepT n (a::as) (b::bs)=((a=.any∨(b=a∧ltA n a))∧keepT n as bs) :=
 propext ⟨fun ⟨_,_,e,h1,h2⟩=>by cases e;exact ⟨h1,h2⟩,fun ⟨h1,h2⟩=>⟨_,_,rfl,h1,h2⟩⟩
theorem keepT_nil {n:Nat}:keepT n [] []=True:=by rw [keepT];simp
theorem VS.drop {GT:GTab} {l l':List AV} {m m':ML} {n n':Nat} (hm:∀ c k,getL m' c=some k→c<n'∧ltB n' k∧getL m c=some k) (hl:keepT n' l' l):VS GT .none (stL l m n) (stL l' m' n') :=
 VS.renF (fun c=>c) (fun _ _=>rfl) (fun _ h=>h) (Nat.zero_le _) (fun _ _ _ _ _ _ h=>h) (fun c k h=>by rw [reFB_same];exact hm c k h) (keepT_re hl)
section
variable {α:Type} {enc:α→List AV} {b0:Nat} {GT:GTab} {E:Beg} {l l':List AV} {m m':ML} {n n':Nat}
theorem Q3f:∀ (x y:ML) (b:Nat),getL (x++y) b=(getL x b).or (getL y b):=getL_app
theorem VS.same (hn:n≤n') (hm:∀ c,getL m' c=getL m c) (hl:leL l l'):VS GT E (stL l m n) (stL l' m' n'):=by
 intro base w1 G1 w G ts _ hs ht;have h1:Stpd base GT E w1 G1 (stL l m' n) w G:=stp_mem hs fun b=>by
  show (memL m').get b=(memL m).get b;rw [Q0d,Q0d,hm]
 refine ⟨G,.refl w _,?_,fun t v hv=>?_⟩
 ·exact { mr:={ fresh:=fun b hb hF=>h1.mr.fresh b (Nat.le_trans hn hb) hF,blk:=h1.mr.blk,inj:=h1.mr.inj,imm:=h1.mr.imm,base:=h1.mr.base,gt:=h1.mr.gt,dj:=h1.mr.dj }
          ext:=h1.ext,os:=h1.os,tape:=h1.tape,output:=h1.output,size:=h1.size,fr:=h1.fr,prov:=h1.prov,impr:=h1.impr,mus:=h1.mus,nx:=Nat.le_trans h1.nx hn }
 ·rw [Q0k] at hv
  rcases leL_get hl t v hv with h2 | ⟨rfl,u,h2⟩
  ·exact ht t v (by rw [Q0k];exact h2)
  ·obtain ⟨r,h3,-⟩:=ht t u (by rw [Q0k];exact h2)
   exact ⟨r,h3,trivial⟩
def ownH (b0 j nn:Nat) (c:Nat):Nat:=if c=b0+j then nn else c
theorem ownH_low {b0 j nn c:Nat} (h:c<b0):ownH b0 j nn c=c:=by unfold ownH;rw [if_neg (by omega)]
theorem VS.own {R R':Nat→List α} {F:ML} {N j nn:Nat} (hj:j<N) (hnn:b0+N≤nn) (hR:∀ i,i<N→i≠j→R' i=R i) (hid:∀ x,noIdsL (enc x)=true)
 (hF:∀ c k,getL F c=some k→c<b0∧ltB (b0+N) k∧getL m c=some (reFB (ownH b0 j nn) k)) (h1:getL m nn=some (.cells ((R' j).flatMap enc)))
 (h2:∀ i,i<N→i≠j→R i≠[]→getL m (b0+i)=some (.cells ((R i).flatMap enc))) (hT:reT (ownH b0 j nn) (b0+N) l' l) :
 VS GT .none (stL l m n) (stL l' (F++rowsM enc b0 R' N) (b0+N)):=by
 have hids:∀ l:List α,noIdsL (l.flatMap enc)=true:=by
  intro l
  induction l with
  | nil=>rfl
  | cons x l ih =>
    rw [List.flatMap_cons];have:∀ a b:List AV,noIdsL a=true→noIdsL b=true→noIdsL (a++b)=true:=by
     intro a
     induction a with
     | nil=>intro b _ hb;exact hb
     | cons y a ih=>intro b ha hb;simp only [noIdsL,Bool.and_eq_true,List.cons_append] at ha ⊢;exact ⟨ha.1,ih b ha.2 hb⟩
    exact this _ _ (hid x) ih
 have hrow:∀ c k,getL (rowsM enc b0 R' N) c=some k→b0≤c∧c<b0+N∧k=.cells ((R' (c - b0)).flatMap enc)∧R' (c - b0)≠[]:=by
  intro c k hc;rw [Q2e] at hc
  split at hc
  ·rename_i h;cases hc;exact ⟨h.1,h.2.1,rfl,h.2.2⟩
  ·cases hc
 have hall:∀ c k,getL (F++rowsM enc b0 R' N) c=some k→c<b0+N∧ltB (b0+N) k∧getL m (ownH b0 j nn c)=some (reFB (ownH b0 j nn) k):=by
  intro c k hc;rw [Q3f] at hc
  cases hx:getL F c with
  | some y =>
    rw [hx,Option.some_or] at hc
    cases hc
    obtain ⟨g1,g2,g3⟩:=hF c _ hx;exact ⟨by omega,g2,by rw [ownH_low g1];exact g3⟩
  | none =>
    rw [hx,Option.none_or] at hc;obtain ⟨g1,g2,rfl,g4⟩:=hrow c k hc;refine ⟨g2,ltL_id _ _ (hids _),?_⟩;rw [reFB,reFL_id _ _ (hids _)]
    by_cases he:c=b0+j
    ·unfold ownH
     rw [if_pos he,show c - b0=j by omega];exact h1
    ·unfold ownH
     rw [if_neg he];have hne:c - b0≠j:=by omega
     rw [hR _ (by omega) hne] at g4 ⊢;have:=h2 (c - b0) (by omega) hne g4
     rwa [show b0+(c - b0)=c by omega] at this
 refine VS.renF (ownH b0 j nn) (fun c hc=>absurd hc (Nat.not_lt_zero c)) (fun c _=>Nat.zero_le _) (Nat.zero_le _) (fun c c' k k' hc hc' he=>?_) hall hT;have g1:=(hall c k hc).1;have g2:=(hall c' k' hc').1;unfold ownH at he
 split at he <;> split at he <;> omega
theorem reF_own {j nn sz i:Nat} {r:List α} (h:i≠j):reF (ownH b0 j nn) (ownA b0 sz i r)=ownA b0 sz i r:=by
 cases r with
 | nil=>rfl
 | cons x r=>rw [ownA,reF];unfold ownH;rw [if_neg (by omega)]
theorem reF_own_at {j nn sz:Nat} {r:List α} (h:r≠[]):reF (ownH b0 j nn) (ownA b0 sz j r)=.gs nn 0 r.length sz r.length:=by
 rw [ownA_pos h,reF];unfold ownH;rw [if_pos rfl]
theorem ltA_own {sz i N:Nat} {r:List α} (h:i<N):ltA (b0+N) (ownA b0 sz i r):=by
 cases r with
 | nil=>simp [ownA,ltA]
 | cons x r=>rw [ownA,ltA];omega
theorem ltL_mem {n:Nat}:∀ {l:List AV},(∀ a∈l,ltA n a)→ltL n l
 | [],_=>by rw [ltL];trivial
 | a::l,h=>by rw [ltL];exact ⟨h a List.mem_cons_self,ltL_mem fun b hb=>h b (List.mem_cons_of_mem _ hb)⟩
theorem put_set {cs:List AV} {k:Nat} {v:AV} (hk:k<cs.length):cs.take k++v::cs.drop (k+1)=cs.set k v:=by
 rw [List.set_eq_take_append_cons_drop,if_pos hk]
def ownsA (b0 sz:Nat) (R:Nat→List α) (N:Nat):List AV:=(List.range N).map fun i=>ownA b0 sz i (R i)
theorem ownsA_lt {sz N:Nat} {R:Nat→List α}:ltL (b0+N) (ownsA b0 sz R N):=ltL_mem fun a ha=>by
 obtain ⟨i,hi,rfl⟩:=List.mem_map.1 ha;exact ltA_own (List.mem_range.1 hi)
theorem Q2f {sz N:Nat} {R:Nat→List α}:(ownsA b0 sz R N).length=N:=by simp [ownsA]
theorem ownsA_get {sz N j:Nat} {R:Nat→List α} (h:j<N):(ownsA b0 sz R N)[j]?=some (ownA b0 sz j (R j)):=by
 unfold ownsA;rw [List.getElem?_map,List.getElem?_range h];rfl
theorem ownsA_re {sz N j nn:Nat} {R R':Nat→List α} (hR:∀ i,i≠j→R' i=R i) (hr:R' j≠[]):reFL (ownH b0 j nn) (ownsA b0 sz R' N)=(ownsA b0 sz R N).set j (.gs nn 0 (R' j).length sz (R' j).length):=by
 refine List.ext_getElem? fun i=>?_;rw [reFL_get,List.getElem?_set,Q2f]
 by_cases hi:i<N
 ·rw [ownsA_get hi,Option.map_some]
  by_cases he:j=i
  ·subst he;rw [if_pos rfl,if_pos hi,reF_own_at hr]
  ·rw [if_neg he,ownsA_get hi,hR i (fun e=>he e.symm),reF_own (fun e=>he e.symm)]
 ·rw [List.getElem?_eq_none (by rw [Q2f];omega),Option.map_none]
  split
  ·rename_i he;rw [if_neg (by omega)]
  ·rw [List.getElem?_eq_none (by rw [Q2f];omega)]
def sealA (enc:α→List AV) (sz:Nat):List α→AV
 | []=>.g (.slice none 0 0)
 | x::r=>.sl (r.length+1) sz ((x::r).flatMap enc)
def rowsS (enc:α→List AV) (b0:Nat) (R:Nat→List α) (N:Nat) (c:Nat):Option (List AV):=if b0≤c∧c<b0+N∧R (c - b0)≠[] then some ((R (c - b0)).flatMap enc) else none
theorem Q1v {sz:Nat} (hsz:∀ x,(enc x).length=sz):∀ l:List α,(l.flatMap enc).length=l.length*sz
 | []=>by simp
 | x::l=>by rw [List.flatMap_cons,List.length_append,hsz,Q1v hsz l,List.length_cons,Nat.succ_mul,Nat.add_comm]
theorem frAF_own {sz N i:Nat} {R:Nat→List α} (hsz:∀ x,(enc x).length=sz) (hi:i<N):frAF (rowsS enc b0 R N) (sealA enc sz (R i)) (ownA b0 sz i (R i)):=by
 cases hr:R i with
 | nil=>exact .inr (.inl rfl)
 | cons x r =>
   refine .inr (.inr ⟨b0+i,(R i).flatMap enc,0,r.length+1,sz,r.length+1,?_,rfl,?_,?_⟩)
   ·unfold rowsS;rw [Nat.add_sub_cancel_left,if_pos ⟨by omega,by omega,by rw [hr];simp⟩]
   ·rw [hr,List.drop_zero,List.take_of_length_le (by rw [Q1v hsz,List.length_cons];exact Nat.le_refl _)];rfl
   ·rw [hr,Q1v hsz,List.length_cons];omega
theorem VS.rows {R:Nat→List α} {F F':ML} {N:Nat} (hp:∀ x,∀ a∈enc x,plainA a=true) (hlo:∀ c,c≥b0→getL F c=none) (hl:frLF (rowsS enc b0 R N) l' l)
 (hF:∀ c k,getL F' c=some k→c<b0∧(getL F c=some k∨∃ k',getL F c=some k'∧frBF (rowsS enc b0 R N) k k')) :
 VS GT E (stL l (F++rowsM enc b0 R N) n) (stL l' F' n):=by
 refine VS.sealF (rowsS enc b0 R N) (fun b cs hb=>?_) hl fun c k hc=>?_
 ·unfold rowsS at hb
  split at hb
  ·rename_i h
   cases hb
   refine ⟨by rw [Q3f,hlo b h.1,Option.none_or,Q2e,if_pos h],fun a ha=>?_⟩;obtain ⟨x,-,hx⟩:=List.mem_flatMap.1 ha;exact hp x a hx
  ·cases hb
 ·obtain ⟨g1,g2⟩:=hF c k hc
  refine ⟨by unfold rowsS;rw [if_neg (by omega)],?_⟩;rcases g2 with g2 | ⟨k',g2,g3⟩
  ·exact .inl (by rw [Q3f,g2];rfl)
  ·exact .inr ⟨k',by rw [Q3f,g2];rfl,g3⟩
end
theorem wkL.map {α:Type} {f g:α→AV}:∀ {l:List α},(∀ x∈l,wkA (f x) (g x))→wkL (l.map f) (l.map g)
 | [],_=>rfl
 | x::_,h=>⟨g x,_,rfl,h x List.mem_cons_self,wkL.map fun y hy=>h y (List.mem_cons_of_mem _ hy)⟩
theorem noIdsL_map {α:Type} {f:α→AV} (h:∀ x,noIds (f x)=true):∀ l:List α,noIdsL (l.map f)=true
 | []=>rfl
 | x::l=>by rw [List.map_cons,noIdsL,h x,noIdsL_map h l];rfl
theorem wkL.of_get:∀ {l' l:List AV},l'.length=l.length→(∀ (t:Nat) (a x:AV),l'[t]?=some a→l[t]?=some x→wkA a x)→wkL l' l
 | [],[],_,_=>rfl
 | [],_::_,h,_=>by simp at h
 | _::_,[],h,_=>by simp at h
 | _::_,x::xs,h,k=>⟨x,xs,rfl,k 0 _ x rfl rfl,wkL.of_get (by simpa using h) fun t b y h1 h2=>k (t+1) b y (by simpa using h1) (by simpa using h2)⟩
theorem VS.sealOwn {α:Type} {enc:α→List AV} {GT:GTab} {E:Beg} {l l':List AV} {n b0 sz N:Nat} {R:Nat→List α} (hb:0<b0) (hp:∀ x,∀ a∈enc x,plainA a=true) (hsz:∀ x,(enc x).length=sz) (hl:frLF (rowsS enc b0 R N) l' l) :
 VS GT E (stL l ((0,.cells (ownsA b0 sz R N))::rowsM enc b0 R N) n) (stL l' [(0,.cells ((List.range N).map fun i=>.sl (R i).length sz ((R i).flatMap enc)))] n):=by
 refine VS.trans (VS.rows (F:=[(0,.cells (ownsA b0 sz R N))]) (F':=[(0,.cells ((List.range N).map fun i=>sealA enc sz (R i)))]) hp (fun c hc=>by rw [getL,if_neg (by omega)];rfl) hl fun c k hc=>?_) (VS.weak (wkL.refl _) ⟨.inr ⟨_,_,rfl,by rw [getL,if_pos rfl],wkL.map fun i _=>?_⟩,trivial⟩)
 ·rw [getL] at hc
  split at hc
  ·rename_i h
   subst h
   cases hc
   refine ⟨hb,.inr ⟨_,by rw [getL,if_pos rfl],_,rfl,frLF.of_get (by rw [Q2f];simp) fun t a x h1 h2=>?_⟩⟩;have ht:t<N:=by have:=(List.getElem?_eq_some_iff.1 h1).1;simpa using this
   rw [ownsA_get ht] at h2;rw [List.getElem?_map,List.getElem?_range ht] at h1
   cases h1;cases h2
   exact frAF_own hsz ht
  ·cases hc
 ·cases R i with
  | nil=>exact wkA.nil sz
  | cons x r=>exact wkA.refl _
section
variable {P:Program} {GT:GTab} {rd:List Mem} {m:ML} {n:Nat}
mutual
def nmA (S:Nat→Prop):AV→Prop
 | .ptr b _=>S b
 | .gs b _ _ _ _=>S b
 | .mp b=>S b
 | .fn _ x y=>nmL S x∧nmL S y
 | .agg x=>nmL S x
 | .tup x=>nmL S x
 | .ifc _ x=>nmA S x
 | _=>True
def nmL (S:Nat→Prop):List AV→Prop
 | []=>True
 | a::as=>nmA S a∧nmL S as
end
def nmE (S:Nat→Prop):List (Nat×AV×AV)→Prop
 | []=>True
 | e::es=>(nmA S e.2.1∧nmA S e.2.2)∧nmE S es
def nmB (S:Nat→Prop):Blk→Prop
 | .cells cs=>nmL S cs
 | .map es _=>nmE S es
 | .sit _ _=>True
structure SubOk (n0 n:Nat) (m m0 m1:ML) (args:List AV) (a:AV):Prop where
 le:n0≤n
 inm:∀ p∈m0,p.1<n0∧getL m p.1=some p.2∧nmB (·∈m0.map (·.1)) p.2
 args:nmL (·∈m0.map (·.1)) args
 out:∀ p∈m1,p.1∈m0.map (·.1)∧nmB (·∈m0.map (·.1)) p.2
 res:nmA (·∈m0.map (·.1)) a
 nodup:(m0.map (·.1)).Nodup
def restM (m0 m1 m:ML):ML:=m1++m.filter fun p=>!(m0.any fun r=>Nat.beq r.1 p.1)
section
variable {n0:Nat} {m0 m1:ML} {f:FuncId} {args:List AV} {a:AV}
end
theorem PureN.ofC {f:FuncId} {args:List AV} {v:Value} (hid:noIdsL args=true) (hfn:∃ fn,P.funcs[f]?=some fn∧(fn.name == "runtime.NumGoroutine")=false∧fn.body.isNone=false)
 (h:∀ (w:World) (rargs:Array Value),Ats w args rargs.toList→Calls P f rargs w fun e w'=>e=.returned v∧Below w.heap.size w w'):PureN P GT f args (.g v):=by
 refine ⟨fun w I rargs hI _ ha=>?_,hid,hfn⟩;have ha':Ats w args rargs.toList:=VRs.mono (G:=⟨fun _=>none,I⟩) ⟨fun _ _ e=>(by cases e),fun rb hr=>hI rb hr,fun _ _=>rfl,fun _ c _ fr h=>⟨c,fr,h,rfl⟩⟩ args ha;refine (h w rargs ha').mono ?_;rintro e w' ⟨rfl,hB⟩;exact ⟨I,⟨fun _ h=>h,fun _ h=>.inl h,fun rb h=>Nat.lt_of_lt_of_le (hI rb h) hB.size,hB.os,hB.tape,hB.output,hB.size,hB.block⟩,v,rfl,rfl⟩
end
end Go.Ev
end
