/- One operation, by a quick way where there is one. -/
import Derived.Test.YtabliahkhafddaaGreatPb2
set_option linter.unusedSimpArgs false
noncomputable section
namespace Go.Ev
open Go.RowKit
def okV (a:Option AV) (cur:Mem) (nx:Nat):Option (OR×Mem×Nat):=match a with
 | some v=>some (.val (some v),cur,nx)
 | none=>none
def evLoad (P:Program) (ms:List Mem) (t:TypeId) (a:AV):Option AV:=match rowAt ms a with
 | some (cs,o)=>partA P t cs o
 | none=>none
def evOneF (P:Program) (GT:GTab) (ch:CH) (rd:List Mem) (cur:Mem) (nx:Nat) (tm:Tm) (o:Oper):Option (OR×Mem×Nat) :=
 match o.op with
 | .binOp op t x y yt=>match fastBin op (evO GT tm x) (evO GT tm y) with
   | some a=>some (.val (some a),cur,nx)
   | none=>okV (evBin P (evO GT tm) op t x y yt o.type) cur nx
 | .load t a=>okV (evLoad P (cur::rd) t (evO GT tm a)) cur nx
 | .store t a x=>match evStore P cur nx t (evO GT tm a) (evO GT tm x) with
   | some (v,m,n)=>some (.val v,m,n)
   | none=>none
 | .move x=>some (.val (some (evO GT tm x)),cur,nx)
 | .unOp op t x=>okV (evGround P (evO GT tm) (.unOp op t x) o.type) cur nx
 | .fieldAddr s x f=>okV (evPure P (cur::rd) (evO GT tm) (.fieldAddr s x f) o.type) cur nx
 | .indexAddr s x f=>okV (evPure P (cur::rd) (evO GT tm) (.indexAddr s x f) o.type) cur nx
 | .extract x i=>okV (match evO GT tm x with | .tup vs=>vs[i]? | _=>none) cur nx
 | .index t x i=>match fastIndex P t (evO GT tm x) (evO GT tm i) with
   | some a=>some (.val (some a),cur,nx)
   | none=>okV (evPure P (cur::rd) (evO GT tm) (.index t x i) o.type) cur nx
 | .call c=>match c.callee with
   | .value _=>match calleeA (evO GT tm) c with
     | some (f,args)=>match ch f args rd cur nx with
       | some (.ret a,m,n)=>some (.val (some a),m,n)
       | some (.pan a,m,n)=>some (.pan a,m,n)
       | none=>none
     | none=>none
   | _=>match fastCall P (evO GT tm) c with
     | some a=>some (.val (some a),cur,nx)
     | none=>evOne P GT ch rd cur nx tm o
 | _=>evOne P GT ch rd cur nx tm o
section
variable {P:Program} {GT:GTab} {ch:CH} {rd:List Mem} {cur:Mem} {nx:Nat} {ms:List Mem} {ev:Operand→AV}
theorem okV_map {a:Option AV} {op:Op} {ty:TypeId} (h:evMem P rd cur nx ev op ty=a.map fun v=>(some v,cur,nx)):(match evMem P rd cur nx ev op ty with | some (v,m,n)=>some (OR.val v,m,n) | none=>none)=okV a cur nx:=by
 rw [h];cases a <;> rfl
theorem fast_bin {op:BinOp} {t:TypeId} {x y:Operand} {yt ty:TypeId} {a:AV} (h:fastBin op (ev x) (ev y)=some a):evBin P ev op t x y yt ty=some a:=by
 have hg:∀ op',op'=op→evGround P ev (.binOp op' t x y yt) ty=some a:=by
  rintro _ rfl;simp only [evGround,fastG,h]
 have hn:notNil (ev x) (ev y)=false∧notNil (ev y) (ev x)=false:=by
  revert h;unfold fastBin
  split
  ·rename_i h1 h2;rw [h1,h2];intro _;exact ⟨rfl,rfl⟩
  ·rename_i h1 h2;rw [h1,h2];intro _;exact ⟨rfl,rfl⟩
  ·intro h;cases h
 unfold evBin
 cases op <;> simp only [hn.1,hn.2,Bool.false_and,Bool.or_self,Bool.false_eq_true,if_false] <;> exact hg _ rfl
theorem Q1r {tm:Tm} {o:Oper} {r:OR×Mem×Nat} (h:evOneF P GT ch rd cur nx tm o=some r):evOne P GT ch rd cur nx tm o=some r:=by
 unfold evOneF at h
 split at h
 ·rename_i op t x y yt hop
  have e:evOne P GT ch rd cur nx tm o=okV (evBin P (evO GT tm) op t x y yt o.type) cur nx:=by
   unfold evOne;rw [hop];exact okV_map rfl
  split at h
  ·rename_i a ha
   rw [e,fast_bin ha];exact h
  ·rw [e];exact h
 ·rename_i t a hop
  unfold evOne;rw [hop];rw [←h];exact okV_map rfl
 ·rename_i t a x hop
  unfold evOne;rw [hop];exact h
 ·rename_i x hop
  unfold evOne;rw [hop];exact h
 ·rename_i op t x hop
  unfold evOne;rw [hop];rw [←h];exact okV_map rfl
 ·rename_i s x f hop
  unfold evOne;rw [hop];rw [←h];exact okV_map rfl
 ·rename_i s x f hop
  unfold evOne;rw [hop];rw [←h];exact okV_map rfl
 ·rename_i x i hop
  unfold evOne;rw [hop];rw [←h];exact okV_map rfl
 ·rename_i t x i hop
  have e:evOne P GT ch rd cur nx tm o=okV (evPure P (cur::rd) (evO GT tm) (.index t x i) o.type) cur nx:=by
   unfold evOne;rw [hop];exact okV_map rfl
  split at h
  ·rename_i a ha
   have h2:evPure P (cur::rd) (evO GT tm) (.index t x i) o.type=some a:=by
    have hg:evGround P (evO GT tm) (.index t x i) o.type=some a:=by simp only [evGround,fastG,ha]
    have hx:∃ s,evO GT tm x=.g (.string s):=by
     unfold fastIndex at ha
     split at ha
     ·rename_i s k n h1 h2;exact ⟨s,h1⟩
     ·cases ha
    obtain ⟨s,hx⟩:=hx;simp only [evPure,hx];exact hg
   rw [e,h2];exact h
  ·rw [e];exact h
 ·rename_i c hop
  split at h
  ·rename_i x hc
   unfold evOne;rw [hop];simp only [hc];exact h
  ·rename_i hc
   split at h
   ·rename_i a ha
    obtain ⟨cal,args,ats⟩:=c;unfold fastCall at ha
    split at ha
    ·rename_i x t e1 e2 e3
     simp only at e1;subst e1;have hg:evGround P (evO GT tm) (.call ⟨.builtin .len,args,ats⟩) o.type=some a:=by
      simp only [evGround,fastG,fastCall];simp only at e2 e3;rw [e2,e3];simp only [ha]
     have hs:∃ s,evO GT tm x=.g (.string s):=by
      unfold fastLen at ha
      split at ha
      ·rename_i s h1;exact ⟨s,h1⟩
      ·cases ha
     obtain ⟨s,hs⟩:=hs;have e:evMem P rd cur nx (evO GT tm) (.call ⟨.builtin .len,args,ats⟩) o.type=some (some a,cur,nx):=by
      simp only [evMem,evPure,evBuiltin];simp only at e2 e3;rw [e2,e3];simp only [hs,lenA,hg]
      rfl
     unfold evOne;rw [hop];simp only [e];exact h
    ·cases ha
   ·exact h
 ·exact h
noncomputable def evOpsL (P:Program) (GT:GTab) (ch:CH) (rd:List Mem) (ops:Array Oper) (l:List Oper):St→Option (AX×St) :=
 List.rec (fun s=>some (.nrm,s)) (fun o _ ih s=>match wantA ops o s.tm with
  | none=>none
  | some false=>ih ⟨putT s.tm o.dst (.g undef),s.cur,s.nx⟩
  | some true=>match evOneF P GT ch rd s.cur s.nx s.tm o with
    | some (.val v,m,n)=>ih ⟨putT s.tm o.dst (v.getD (.g undef)),m,n⟩
    | some (.pan a,m,n)=>some (.pan a,⟨s.tm,m,n⟩)
    | none=>none) l
theorem evOpsL_cons {ops:Array Oper} {o:Oper} {l:List Oper} {s:St}:evOpsL P GT ch rd ops (o::l) s=(match wantA ops o s.tm with
 | none=>none
 | some false=>evOpsL P GT ch rd ops l ⟨putT s.tm o.dst (.g undef),s.cur,s.nx⟩
 | some true=>match evOneF P GT ch rd s.cur s.nx s.tm o with
   | some (.val v,m,n)=>evOpsL P GT ch rd ops l ⟨putT s.tm o.dst (v.getD (.g undef)),m,n⟩
   | some (.pan a,m,n)=>some (.pan a,⟨s.tm,m,n⟩)
   | none=>none):=rfl
theorem evOpsL_ops {ops:Array Oper} {r:AX×St}:∀ (l:List Oper) (k:Nat) (s:St),ops.toList.drop k=l→evOpsL P GT ch rd ops l s=some r→evOps P GT ch rd ops (List.range' k l.length) s=some r:=by
 intro l
 induction l with
 | nil=>intro k s _ h;exact h
 | cons o l ih =>
   intro k s hd h;have hk:ops[k]?=some o:=by
    have:(ops.toList.drop k)[0]?=some o:=by rw [hd];rfl
    rw [List.getElem?_drop,Nat.add_zero] at this;simpa using this
   have hd':ops.toList.drop (k+1)=l:=by
    have:(ops.toList.drop k).drop 1=l:=by rw [hd];rfl
    rwa [List.drop_drop] at this
   rw [evOpsL_cons] at h;rw [List.length_cons,List.range'_succ];simp only [evOps,hk]
   split at h
   ·cases h
   ·rename_i hw;rw [hw];exact ih _ _ hd' h
   ·rename_i hw
    rw [hw];simp only
    split at h
    ·rename_i v m n he;rw [Q1r he];exact ih _ _ hd' h
    ·rename_i v m n he;rw [Q1r he];exact h
    ·cases h
end
end Go.Ev
end
