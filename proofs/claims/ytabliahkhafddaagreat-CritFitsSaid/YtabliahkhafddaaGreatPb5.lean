/- A region whose order is drawn: the evaluator takes one order, and looks whether the others give the same. -/
import Derived.Test.YtabliahkhafddaaGreatPb4
set_option linter.unusedSimpArgs false
noncomputable section
namespace Go.Ev
open Go.RowKit
def befOf (acc:List Nat) (o:Oper):Nat:=o.after.toList.foldl (fun s e=>if Region.binds .any e then s ||| 2 ^ e.on ||| acc.getD e.on 0 else s) 0
def befs:List Oper→List Nat→List Nat
 | [],acc=>acc
 | o::os,acc=>befs os (acc++[befOf acc o])
def bef (B:List Nat) (j i:Nat):Bool:=(B.getD j 0).testBit i
def namesO (ops:Array Oper) (o:Oper):List Tmp:=o.dst.toList++o.looksAt ops
def dstIn (d:Option Tmp) (l:List Tmp):Bool:=match d with | some t=>l.contains t | none=>false
def statOk (ops:Array Oper):Bool :=
 (List.range ops.size).all fun j=>match ops[j]? with
   | none=>true
   | some o=>o.after.toList.all (fun e=>!Region.binds .any e||Nat.blt e.on j) &&
     (List.range j).all fun i=>bef (befs ops.toList []) j i||match ops[i]? with
       | none=>true
       | some p=>!dstIn p.dst (namesO ops o)&&!dstIn o.dst (namesO ops p)
structure Rec where
 dst:Option Tmp
 out:AV
 want:Bool
 rdl:List Mem
 curl:Mem
 cur':Mem
 nx:Nat
 nx':Nat
 W:List Nat
 U:Nat→Bool
 heavy:Bool
def delAll (m:Mem):List Nat→Mem
 | []=>m
 | b::bs=>delAll (m.del b) bs
def stepSt (s:St) (r:Rec):St:=⟨putT s.tm r.dst r.out,Tri.over r.cur' (delAll s.cur r.W),r.nx'⟩
def idOf:AV→List Nat
 | .ptr b _=>[b]
 | .gs b _ _ _ _=>[b]
 | .mp b=>[b]
 | _=>[]
def wrIds (ev:Operand→AV):Op→List Nat
 | .store _ a _=>idOf (ev a)
 | .mapUpdate _ m _ _ | .mapEntry _ m _ | .entryStore _ m _ _ | .insert _ m _ _=>idOf (ev m)
 | .next it _=>idOf (ev it)
 | .call c=>match c.callee,c.args.toList with
   | .builtin .append,x::_ | .builtin .copy,x::_ | .builtin .delete,x::_ | .builtin .clear,x::_=>idOf (ev x)
   | _,_=>[]
 | _=>[]
def isCall:Op→Bool
 | .call c=>match c.callee with | .builtin _=>false | _=>true
 | _=>false
def hasL:List Nat→Nat→Bool
 | [],_=>false
 | a::as,b=>match Nat.beq a b with
   | true=>true
   | false=>hasL as b
def clear (r:Rec):List Nat→Bool
 | []=>true
 | b :: bs=>match hasL r.W b with
   | true=>false
   | false=>match Nat.ble r.nx b&&Nat.blt b r.nx' with
     | true=>false
     | false=>clear r bs
def unseen (r:Rec):List Nat→Bool
 | []=>true
 | b::bs=>match r.U b with
   | true=>false
   | false=>unseen r bs
def okRec (r:Rec) (W U:List Nat):Bool :=
 match (match r.heavy with | true=>clear r U | false=>true) with
 | true=>unseen r W
 | false=>false
def noClash (B:List Nat) (j:Nat) (W U:List Nat):List Rec→Nat→Bool
 | [],_=>true
 | r :: rs,i=>match okRec r W U with
   | true=>noClash B j W U rs (i - 1)
   | false=>match bef B j (i - 1) with
     | true=>noClash B j W U rs (i - 1)
     | false=>false
def mayTake (B:List Nat) (j b:Nat):List Rec→Nat→Bool
 | [],_=>true
 | r :: rs,i=>match (match r.heavy with | true=>clear r [b] | false=>true) with
   | true=>mayTake B j b rs (i - 1)
   | false=>match bef B j (i - 1) with
     | true=>mayTake B j b rs (i - 1)
     | false=>false
def pickM (f:Nat→Option Blk):List Nat→Mem
 | []=>.e
 | b::bs=>match f b with
   | some k=>Mem.put (pickM f bs) b k
   | none=>pickM f bs
def isEmptyL:List Nat→Bool
 | []=>true
 | _=>false
def recTry (P:Program) (GT:GTab) (ch:CH) (rd:List Mem) (B:List Nat) (recs:List Rec) (j:Nat) (o:Oper) (s:St) (Wc:List Nat):Option Rec :=
 let W:=Wc.filter fun b=>(s.cur.get b).isSome&&Nat.blt b s.nx
 let curl:=pickM s.cur.get W
 match isCall o.op with
 | true =>
   let p:=fun b=>Nat.blt b s.nx&&!hasL W b&&mayTake B j b recs j
   match evOneF P GT ch (Tri.keep p s.cur 1 0::rd) curl s.nx s.tm o with
   | some (.val v,cur',nx')=>if Tri.all (fun b=>hasL W b||(Nat.ble s.nx b&&Nat.blt b nx')) cur' 1 0&&noClash B j W W recs j then
      some ⟨o.dst,v.getD (.g undef),true,Tri.keep p s.cur 1 0::rd,curl,cur',s.nx,nx',W,fun b=>p b||hasL W b,true⟩ else none
   | _=>none
 | false =>
   let U:=(o.op.operands.toList.flatMap fun x=>idOf (evO GT s.tm x)).filter fun b=>Nat.blt b s.nx
   let rdl:=[pickM (getR (s.cur::rd)) (U.filter fun b=>!hasL W b)]
   match evOneF P GT ch rdl curl s.nx s.tm o with
   | some (.val v,cur',nx')=>if Tri.all (fun b=>hasL W b||(Nat.ble s.nx b&&Nat.blt b nx')) cur' 1 0&&noClash B j W (U++W) recs j then
      some ⟨o.dst,v.getD (.g undef),true,rdl,curl,cur',s.nx,nx',W,hasL (U++W),!(isEmptyL W&&Nat.beq s.nx nx')⟩ else none
   | _=>none
def plainOp:Op→Bool
 | .load .. | .store .. | .alloc .. | .box .. | .makeSlice .. | .buildSlice .. | .convert .. | .mapUpdate .. | .lookup .. | .mapEntry .. | .entryStore .. | .insert .. | .next .. | .range ..=>false
 | .call c=>match c.callee with
   | .builtin .len=>true
   | _=>false
 | _=>true
def lightRec (P:Program) (GT:GTab) (ch:CH) (o:Oper) (s:St):Option Rec :=
 match plainOp o.op with
 | true=>match evOneF P GT ch [] .e s.nx s.tm o with
   | some (.val v,.e,n)=>match Nat.beq s.nx n with
     | true=>some ⟨o.dst,v.getD (.g undef),true,[],.e,.e,s.nx,n,[],fun _=>false,false⟩
     | false=>none
   | _=>none
 | false=>none
mutual
def idsA:AV→List Nat
 | .ptr b _=>[b]
 | .gs b _ _ _ _=>[b]
 | .mp b=>[b]
 | .fn _ x y=>idsL x++idsL y
 | .agg cs=>idsL cs
 | .tup cs=>idsL cs
 | .ifc _ v=>idsA v
 | .any | .g _ | .ept _ _ | .sl _ _ _ | .z0=>[]
def idsL:List AV→List Nat
 | []=>[]
 | a::as=>idsA a++idsL as
end
def idsB:Blk→List Nat
 | .cells cs=>idsL cs
 | .map es _=>es.flatMap fun e=>idsA e.2.1++idsA e.2.2
 | .sit _ _=>[]
def reachL (m:Mem):Nat→List Nat→List Nat→List Nat
 | 0,_,seen=>seen
 | _+1,[],seen=>seen
 | n + 1,b::bs,seen=>match hasL seen b with
   | true=>reachL m n bs seen
   | false=>match m.get b with
     | some k=>reachL m n (idsB k++bs) (b::seen)
     | none=>reachL m n bs seen
def recCall (P:Program) (GT:GTab) (ch:CH) (rd:List Mem) (B:List Nat) (recs:List Rec) (j:Nat) (o:Oper) (s:St) (W:List Nat):Option Rec :=
 match isEmptyL W with
 | true=>recTry P GT ch rd B recs j o s []
 | false=>match recTry P GT ch rd B recs j o s W with
   | some r=>some r
   | none=>recTry P GT ch rd B recs j o s []
def recOf (P:Program) (GT:GTab) (ch:CH) (rd:List Mem) (ops:Array Oper) (B:List Nat) (recs:List Rec) (j:Nat) (o:Oper) (s:St):Option Rec :=
 match wantA ops o s.tm with
 | none=>none
 | some false=>some ⟨o.dst,.g undef,false,[],.e,.e,s.nx,s.nx,[],fun _=>false,false⟩
 | some true=>match lightRec P GT ch o s with
   | some r=>some r
   | none=>match isCall o.op with
     | true=>recCall P GT ch rd B recs j o s (reachL s.cur 1000 (o.op.operands.toList.flatMap fun x=>idsA (evO GT s.tm x)) [])
     | false=>recTry P GT ch rd B recs j o s (wrIds (evO GT s.tm) o.op)
def evDraw (P:Program) (GT:GTab) (ch:CH) (rd:List Mem) (ops:Array Oper) (B:List Nat):List Oper→Nat→List Rec→St→Option (List Rec×St)
 | [],_,recs,s=>some (recs,s)
 | o::os,j,recs,s=>match recOf P GT ch rd ops B recs j o s with
   | none=>none
   | some r=>evDraw P GT ch rd ops B os (j+1) (r::recs) (stepSt s r)
section
theorem get_delAll (W:List Nat):∀ (m:Mem) (b:Nat),(delAll m W).get b=if b∈W then none else m.get b:=by
 induction W with
 | nil=>intro m b;simp [delAll]
 | cons c W ih =>
   intro m b;simp only [delAll,ih,Mem.get_del,List.mem_cons]
   by_cases h1:b∈W
   ·simp [h1]
   ·by_cases h2:c=b
    ·subst h2;simp
    ·simp [h1,h2,Ne.symm h2]
theorem stepSt_get (s:St) (r:Rec) (b:Nat):(stepSt s r).cur.get b=(r.cur'.get b).or (if b∈r.W then none else s.cur.get b):=by
 simp only [stepSt,Tri.get_over,get_delAll]
def foldS (S:Nat→Bool):Nat→List Rec→St→St
 | _,[],s=>s
 | i,r::rs,s=>foldS S (i+1) rs (if S i then stepSt s r else s)
def touches (r:Rec) (b:Nat):Prop:=b∈r.W∨r.cur'.get b≠none
theorem step_untouched {s:St} {r:Rec} {b:Nat} (h:¬touches r b):(stepSt s r).cur.get b=s.cur.get b:=by
 rw [stepSt_get];have h1:b∉r.W:=fun e=>h (.inl e);have h2:r.cur'.get b=none:=by
  cases hc:r.cur'.get b with
  | none=>rfl
  | some x=>exact absurd (.inr (by rw [hc];simp)) h
 rw [h2,if_neg h1];rfl
theorem Q4d {S S':Nat→Bool} {b:Nat}:∀ {rs:List Rec} {i:Nat} {s s':St},(∀ (m:Nat) (r:Rec),rs[m]?=some r→touches r b→S (i+m)=S' (i+m))→s.cur.get b=s'.cur.get b →
 (foldS S i rs s).cur.get b=(foldS S' i rs s').cur.get b:=by
 intro rs
 induction rs with
 | nil=>intro i s s' _ h;exact h
 | cons r rs ih =>
   intro i s s' h hs;refine ih (fun m x hx ht=>by have:=h (m+1) x (by simpa using hx) ht;rwa [show i+(m+1)=i+1+m by omega] at this) ?_
   by_cases ht:touches r b
   ·have:=h 0 r (by simp) ht
    simp only [Nat.add_zero] at this;rw [this]
    cases S' i
    ·exact hs
    ·simp only [if_true,stepSt_get,hs]
   ·have h1:∀ (c:Bool) (s:St),(if c=true then stepSt s r else s).cur.get b=s.cur.get b:=fun c s=>by cases c <;> simp [step_untouched ht]
    rw [h1,h1];exact hs
theorem Q2k {S S':Nat→Bool} {t:Nat}:∀ {rs:List Rec} {i:Nat} {s s':St},(∀ (m:Nat) (r:Rec),rs[m]?=some r→r.dst=some t→S (i+m)=S' (i+m))→s.tm.get t=s'.tm.get t →
 (foldS S i rs s).tm.get t=(foldS S' i rs s').tm.get t:=by
 intro rs
 induction rs with
 | nil=>intro i s s' _ h;exact h
 | cons r rs ih =>
   intro i s s' h hs;refine ih (fun m x hx ht=>by have:=h (m+1) x (by simpa using hx) ht;rwa [show i+(m+1)=i+1+m by omega] at this) ?_
   by_cases ht:r.dst=some t
   ·have:=h 0 r (by simp) ht
    simp only [Nat.add_zero] at this;rw [this]
    cases S' i
    ·exact hs
    ·simp only [if_true,stepSt,Q1w,hs]
   ·have h2:∀ (c:Bool) (s:St),(if c=true then stepSt s r else s).tm.get t=s.tm.get t:=fun c s=>by cases c <;> simp [stepSt,Q1w,ht]
    rw [h2,h2];exact hs
theorem foldS_tm_some {S:Nat→Bool} {t:Nat}:∀ {rs:List Rec} {i:Nat} {s:St},((foldS S i rs s).tm.get t).isSome=(s.tm.get t).isSome:=by
 intro rs
 induction rs with
 | nil=>intro i s;rfl
 | cons r rs ih =>
   intro i s;simp only [foldS];rw [ih]
   cases S i
   ·rfl
   ·simp only [if_true,stepSt,Q1w]
    split <;> simp
theorem Q1q {S S':Nat→Bool}:∀ {rs:List Rec} {i:Nat} {s:St},(∀ m,m<rs.length→S (i+m)=S' (i+m))→foldS S i rs s=foldS S' i rs s:=by
 intro rs
 induction rs with
 | nil=>intro i s _;rfl
 | cons r rs ih =>
   intro i s h;simp only [foldS];rw [show S i=S' i from by simpa using h 0 (by simp)];exact ih fun m hm=>by have:=h (m+1) (by simpa using hm);rwa [show i+(m+1)=i+1+m by omega] at this
theorem Q0w {S:Nat→Bool}:∀ {rs ts:List Rec} {i:Nat} {s:St},foldS S i (rs++ts) s=foldS S (i+rs.length) ts (foldS S i rs s):=by
 intro rs
 induction rs with
 | nil=>intro ts i s;rfl
 | cons r rs ih =>
   intro ts i s;simp only [List.cons_append,foldS,List.length_cons];rw [ih,show i+1+rs.length=i+(rs.length+1) by omega]
theorem Q2o {S:Nat→Bool} {recs:List Rec} {k:Nat} {r:Rec} {s0:St} (hk:recs[k]?=some r) (hS:S k=false) (b:Nat) (hpost:touches r b→∀ (j:Nat) (q:Rec),k<j→recs[j]?=some q→S j=true→¬touches q b) :
 (foldS (fun i=>S i||i==k) 0 recs s0).cur.get b=(r.cur'.get b).or (if b∈r.W then none else (foldS S 0 recs s0).cur.get b):=by
 have hlt:=(List.getElem?_eq_some_iff.1 hk).1;obtain ⟨_,hrk⟩:=List.getElem?_eq_some_iff.1 hk;have hsplit:recs=recs.take k++r::recs.drop (k+1):=by
  rw [←hrk,←List.drop_eq_getElem_cons hlt,List.take_append_drop]
 have hlen:(recs.take k).length=k:=by simp;omega
 have hdrop:∀ m q,(recs.drop (k+1))[m]?=some q→recs[k+1+m]?=some q:=fun m q hm=>by rw [List.getElem?_drop] at hm;exact hm
 generalize hpre:recs.take k=pre at *;generalize hpo:recs.drop (k+1)=post at *;rw [hsplit,Q0w,Q0w];rw [Q1q (rs:=pre) (S:=fun i=>S i||i==k) (S':=S) (fun m hm=>by simp only [Nat.zero_add];rw [show (m==k)=false by simp;omega];simp)];generalize foldS S 0 pre s0=s1;simp only [foldS,hlen,Nat.zero_add];rw [show (S k||k==k)=true by simp,hS];simp only [if_true,Bool.false_eq_true,if_false]
 by_cases ht:touches r b
 ·have none1:∀ (s:St),(foldS S (k+1) post s).cur.get b=s.cur.get b:=by
   intro s
   have:=Q4d (S:=S) (S':=fun _=>false) (b:=b) (rs:=post) (i:=k+1) (s:=s) (s':=s) (fun m q hm hq=>by
    cases hs:S (k+1+m) with
    | false=>rfl
    | true=>exact absurd hq (hpost ht (k+1+m) q (by omega) (hdrop m q hm) hs)) rfl
   rw [this];have:∀ (rs:List Rec) (i:Nat),foldS (fun _=>false) i rs s=s:=by
    intro rs
    induction rs with
    | nil=>intro i;rfl
    | cons r rs ih=>intro i;simp only [foldS,Bool.false_eq_true,if_false];exact ih _
   rw [this]
  have same:(foldS (fun i=>S i||i==k) (k+1) post (stepSt s1 r))=foldS S (k+1) post (stepSt s1 r) :=
   Q1q fun m _=>by simp;omega
  rw [same,none1,none1,stepSt_get]
 ·have hr1:r.cur'.get b=none:=by
   cases hc:r.cur'.get b with
   | none=>rfl
   | some x=>exact absurd (.inr (by rw [hc];simp)) ht
  rw [hr1,if_neg (fun e=>ht (.inl e)),Option.none_or];exact Q4d (fun m q _ _=>by simp;omega) (step_untouched ht)
theorem Q3j {S:Nat→Bool} {recs:List Rec} {k:Nat} {r:Rec} {s0:St} (hk:recs[k]?=some r) (hS:S k=false) (hpost:∀ (t:Tmp),r.dst=some t→∀ (j:Nat) (q:Rec),k<j→recs[j]?=some q→S j=true→q.dst≠some t) :
 ∀ t,(foldS (fun i=>S i||i==k) 0 recs s0).tm.get t=(putT (foldS S 0 recs s0).tm r.dst r.out).get t:=by
 have hlt:=(List.getElem?_eq_some_iff.1 hk).1;obtain ⟨_,hrk⟩:=List.getElem?_eq_some_iff.1 hk;have hsplit:recs=recs.take k++r::recs.drop (k+1):=by
  rw [←hrk,←List.drop_eq_getElem_cons hlt,List.take_append_drop]
 have hlen:(recs.take k).length=k:=by simp;omega
 have hdrop:∀ m q,(recs.drop (k+1))[m]?=some q→recs[k+1+m]?=some q:=fun m q hm=>by rw [List.getElem?_drop] at hm;exact hm
 intro t;rw [Q1w];generalize hpre:recs.take k=pre at *;generalize hpo:recs.drop (k+1)=post at *;rw [hsplit,Q0w,Q0w];rw [Q1q (rs:=pre) (S:=fun i=>S i||i==k) (S':=S) (fun m hm=>by simp only [Nat.zero_add];rw [show (m==k)=false by simp;omega];simp)];generalize foldS S 0 pre s0=s1;simp only [foldS,hlen,Nat.zero_add];rw [show (S k||k==k)=true by simp,hS];simp only [if_true,Bool.false_eq_true,if_false]
 by_cases ht:r.dst=some t
 ·rw [if_pos ht]
  have h0:(foldS (fun i=>S i||i==k) (k+1) post (stepSt s1 r)).tm.get t=(stepSt s1 r).tm.get t:=by
   have:=Q2k (S:=fun i=>S i||i==k) (S':=fun _=>false) (t:=t) (rs:=post) (i:=k+1) (s:=stepSt s1 r) (s':=stepSt s1 r) (fun m q hm hq=>by
    cases hs:S (k+1+m) with
    | false=>simp;omega
    | true=>exact absurd hq (hpost t ht (k+1+m) q (by omega) (hdrop m q hm) hs)) rfl
   rw [this];have:∀ (rs:List Rec) (i:Nat) (s:St),foldS (fun _=>false) i rs s=s:=by
    intro rs
    induction rs with
    | nil=>intro i s;rfl
    | cons r rs ih=>intro i s;simp only [foldS,Bool.false_eq_true,if_false];exact ih _ _
   rw [this]
  rw [h0];simp only [stepSt,Q1w,ht,if_true];have hs1:((foldS S (k+1) post s1).tm.get t).isSome=(s1.tm.get t).isSome:=foldS_tm_some
  cases h1:(foldS S (k+1) post s1).tm.get t <;> cases h2:s1.tm.get t <;> rw [h1,h2] at hs1 <;> simp at hs1 ⊢
 ·rw [if_neg ht]
  exact Q2k (fun m q _ _=>by simp;omega) (by simp [stepSt,Q1w,ht])
end
end Go.Ev
end
