/- A region whose order is drawn, by what is known of each operation. Of no program. -/
import Derived.Test.YtabliahkhafddaaGreatPc1
import Derived.Laws.StructEq
set_option linter.unusedSimpArgs false
noncomputable section
namespace Go.Ev
open Go.RowKit
structure Beg where
 rd:List Mem
 cur:Mem
 nx:Nat
abbrev Beg.none:Beg:=⟨[],.e,0⟩
abbrev allF:Nat→Prop:=fun _=>True
abbrev Stpd (base:Nat) (GT:GTab) (E:Beg) (w1:World) (G1:Gh) (s:St) (w:World) (G:Gh):Prop:=Stp base GT allF E.rd E.cur E.nx w1 G1 s.cur s.nx w G
def W (P:Program) (GT:GTab) (E:Beg) (c:Code) (s:St) (Q:AX→St→Prop):Prop :=
 ∀ (base:Nat) (D:List Deferred) (w1:World) (G1:Gh) (w:World) (G:Gh) (a:Act),MR base GT allF E.rd E.cur E.nx w1 G1→Stpd base GT E w1 G1 s w G→TmR w G s.tm a.tmps→a.defers=D →
   c.wp P (fun e a' w'=>∃ x s' G',XR w' G' x e∧Stpd base GT E w1 G1 s' w' G'∧((∀ v,x≠.pan v)→TmR w' G' s'.tm a'.tmps)∧a'.defers=D∧Q x s') a w
def VS (GT:GTab) (E:Beg) (s s1:St):Prop :=
 ∀ (base:Nat) (w1:World) (G1:Gh) (w:World) (G:Gh) (ts:Array Value),MR base GT allF E.rd E.cur E.nx w1 G1→Stpd base GT E w1 G1 s w G→TmR w G s.tm ts→∃ G',Ext w w G.bare G'.bare∧Stpd base GT E w1 G1 s1 w G'∧TmR w G' s1.tm ts
section
variable {P:Program} {GT:GTab} {E:Beg} {s s1 s2:St} {x:AX} {c p q:Code} {Q Q':AX→St→Prop}
theorem W.of_tr {s':St} (h:Tr P GT E.rd c s x s') (hq:Q x s'):W P GT E c s Q:=by
 intro base D w1 G1 w G a hm1 hs ht hd;refine wp_mono (h.wp base allF D w G a hs.mr ht hd fun _ _ _=>trivial) fun e a' w' h1=>?_;obtain ⟨G',h2,h3,h4,h5⟩:=h1;exact ⟨x,s',G',h2,Stp.trans hs h3,h4,h5,hq⟩
theorem W.vs (hv:VS GT E s s1) (h:W P GT E c s1 Q):W P GT E c s Q:=by
 intro base D w1 G1 w G a hm1 hs ht hd;obtain ⟨G',-,h1,h2⟩:=hv base w1 G1 w G a.tmps hm1 hs ht;exact h base D w1 G1 w G' a hm1 h1 h2 hd
def thenW (P:Program) (GT:GTab) (E:Beg) (c:Code) (Q:AX→St→Prop):AX→St→Prop
 | .nrm,s=>W P GT E c s Q
 | x,s=>Q x s
def blkW (id:Nat) (Q:AX→St→Prop):AX→St→Prop
 | .exit i,s=>if i=id then Q .nrm s else Q (.exit i) s
 | x,s=>Q x s
def scopeW (Q:AX→St→Prop):AX→St→Prop
 | .gto _,_=>False
 | x,s=>Q x s
theorem W.seq (h:W P GT E p s (thenW P GT E q Q)):W P GT E (.seq p q) s Q:=by
 intro base D w1 G1 w G a hm1 hs ht hd;refine wp_seq (wp_mono (h base D w1 G1 w G a hm1 hs ht hd) fun e a' w' h1=>?_);obtain ⟨x,s',G',h2,h3,h4,h5,h6⟩:=h1
 cases x with
 | nrm =>
   obtain rfl:e=.normal:=h2;exact h6 base D w1 G1 w' G' a' hm1 h3 (h4 fun _ e=>by cases e) h5
 | exit i=>obtain rfl:e=.exit i:=h2;exact ⟨.exit i,s',G',rfl,h3,h4,h5,h6⟩
 | gto i=>obtain rfl:e=.goto i:=h2;exact ⟨.gto i,s',G',rfl,h3,h4,h5,h6⟩
 | ret=>obtain rfl:e=.ret:=h2;exact ⟨.ret,s',G',rfl,h3,h4,h5,h6⟩
 | pan v =>
   have h2':=h2;obtain ⟨r,rfl,h7⟩:=h2;exact ⟨_,s',G',h2',h3,h4,h5,h6⟩
theorem W.cond {o:Operand} {t:Bool} (hc:evO GT s.tm o=.g (.bool t)) (h:W P GT E (if t then p else q) s Q):W P GT E (.cond o p q) s Q:=by
 intro base D w1 G1 w G a hm1 hs ht hd;have hv:=Q2y hs.mr (a:=a) ht o;rw [hc] at hv;exact wp_cond (t:=t) hv (h base D w1 G1 w G a hm1 hs ht hd)
theorem W.block {id:Nat} (h:W P GT E p s (blkW id Q)):W P GT E (.block id p) s Q:=by
 intro base D w1 G1 w G a hm1 hs ht hd;refine wp_block (wp_mono (h base D w1 G1 w G a hm1 hs ht hd) fun e a' w' h1=>?_);obtain ⟨x,s',G',h2,h3,h4,h5,h6⟩:=h1
 cases x with
 | nrm=>obtain rfl:e=.normal:=h2;exact ⟨.nrm,s',G',rfl,h3,h4,h5,h6⟩
 | exit i =>
   obtain rfl:e=.exit i:=h2;unfold blkW at h6
   by_cases hi:i=id
   ·simp only [if_pos hi] at h6
    simp only [Exit.inBlock,if_pos hi];exact ⟨.nrm,s',G',rfl,h3,(fun _=>h4 (fun _ e=>(by cases e))),h5,h6⟩
   ·simp only [if_neg hi] at h6
    simp only [Exit.inBlock,if_neg hi];exact ⟨.exit i,s',G',rfl,h3,h4,h5,h6⟩
 | gto i=>obtain rfl:e=.goto i:=h2;exact ⟨.gto i,s',G',rfl,h3,h4,h5,h6⟩
 | ret=>obtain rfl:e=.ret:=h2;exact ⟨.ret,s',G',rfl,h3,h4,h5,h6⟩
 | pan v =>
   have h2':=h2;obtain ⟨r,rfl,h7⟩:=h2;exact ⟨_,s',G',h2',h3,h4,h5,h6⟩
theorem W.scope (h:W P GT E p s (scopeW Q)):W P GT E (.scope p) s Q:=by
 intro base D w1 G1 w G a hm1 hs ht hd;refine wp_scope_straight (wp_mono (h base D w1 G1 w G a hm1 hs ht hd) fun e a' w' h1=>?_);obtain ⟨x,s',G',h2,h3,h4,h5,h6⟩:=h1
 cases x with
 | nrm=>obtain rfl:e=.normal:=h2;exact ⟨.nrm,s',G',rfl,h3,h4,h5,h6⟩
 | exit i=>obtain rfl:e=.exit i:=h2;exact ⟨.exit i,s',G',rfl,h3,h4,h5,h6⟩
 | gto i=>exact h6.elim
 | ret=>obtain rfl:e=.ret:=h2;exact ⟨.ret,s',G',rfl,h3,h4,h5,h6⟩
 | pan v =>
   have h2':=h2;obtain ⟨r,rfl,h7⟩:=h2;exact ⟨_,s',G',h2',h3,h4,h5,h6⟩
theorem W.skip (h:Q .nrm s):W P GT E .skip s Q:=.of_tr .skip h
theorem W.label {l:Nat} (h:Q .nrm s):W P GT E (.label l) s Q:=.of_tr .label h
theorem W.exit {l:Nat} (h:Q (.exit l) s):W P GT E (.exit l) s Q:=.of_tr .exit h
theorem W.ret (h:Q .ret s):W P GT E .ret s Q:=.of_tr .ret h
def roundW {ι:Type} (GT:GTab) (E:Beg) (I:ι→St→Prop) (μ:ι→Nat) (m:Nat) (Q:AX→St→Prop):AX→St→Prop
 | .nrm,s=>∃ j s1,I j s1∧μ j<m∧VS GT E s s1
 | x,s=>Q x s
theorem W.loop {ι:Type} (I:ι→St→Prop) (μ:ι→Nat) (i0:ι) (h0:I i0 s1) (hv:VS GT E s s1) (h:∀ i t,I i t→W P GT E c t (roundW GT E I μ (μ i) Q)):W P GT E (.loop c) s Q:=by
 refine W.vs hv ?_;intro base D w1 G1 w G a hm1 hs ht hd;have key:∀ (n:Nat) (i:ι) (s2:St) (a:Act) (w:World) (G:Gh),μ i≤n→I i s2→Stpd base GT E w1 G1 s2 w G→TmR w G s2.tm a.tmps→a.defers=D→Code.rounds P c (fun e a' w'=>∃ x s' G',XR w' G' x e∧Stpd base GT E w1 G1 s' w' G'∧((∀ v,x≠.pan v)→TmR w' G' s'.tm a'.tmps)∧a'.defers=D∧Q x s') (n+1) a w:=by
  intro n
  induction n with
  | zero =>
    intro i s2 a w G hn hi hs ht hd;rw [rounds_succ];refine wp_mono (h i s2 hi base D w1 G1 w G a hm1 hs ht hd) fun e a' w' h1=>?_;obtain ⟨x,s',G',h2,h3,h4,h5,h6⟩:=h1
    cases x with
    | nrm=>obtain ⟨j,s3,g1,g2,g3⟩:=h6;omega
    | exit i=>obtain rfl:e=.exit i:=h2;exact ⟨.exit i,s',G',rfl,h3,h4,h5,h6⟩
    | gto i=>obtain rfl:e=.goto i:=h2;exact ⟨.gto i,s',G',rfl,h3,h4,h5,h6⟩
    | ret=>obtain rfl:e=.ret:=h2;exact ⟨.ret,s',G',rfl,h3,h4,h5,h6⟩
    | pan v =>
      have h2':=h2;obtain ⟨r,rfl,h7⟩:=h2;exact ⟨_,s',G',h2',h3,h4,h5,h6⟩
  | succ n ih =>
    intro i s2 a w G hn hi hs ht hd;rw [rounds_succ];refine wp_mono (h i s2 hi base D w1 G1 w G a hm1 hs ht hd) fun e a' w' h1=>?_;obtain ⟨x,s',G',h2,h3,h4,h5,h6⟩:=h1
    cases x with
    | nrm =>
      obtain rfl:e=.normal:=h2;obtain ⟨j,s3,g1,g2,g3⟩:=h6;obtain ⟨G3,-,g4,g5⟩:=g3 base w1 G1 w' G' a'.tmps hm1 h3 (h4 fun _ e=>by cases e);exact ih j s3 a' w' G3 (by omega) g1 g4 g5 h5
    | exit i=>obtain rfl:e=.exit i:=h2;exact ⟨.exit i,s',G',rfl,h3,h4,h5,h6⟩
    | gto i=>obtain rfl:e=.goto i:=h2;exact ⟨.gto i,s',G',rfl,h3,h4,h5,h6⟩
    | ret=>obtain rfl:e=.ret:=h2;exact ⟨.ret,s',G',rfl,h3,h4,h5,h6⟩
    | pan v =>
      have h2':=h2;obtain ⟨r,rfl,h7⟩:=h2;exact ⟨_,s',G',h2',h3,h4,h5,h6⟩
 exact wp_loop_rounds _ (key _ i0 s1 a w G (Nat.le_refl _) h0 hs ht hd)
end
def divI (op:BinOp) (k:IntKind) (a b:Int):Option AV:=if b=0 then none else match op with
 | .quo=>some (.g (.int k (k.wrap (a.tdiv b))))
 | .rem=>some (.g (.int k (a.tmod b)))
 | _=>none
def bitI (op:BinOp) (k:IntKind) (a b:Int):Option AV:=match op with
 | .and=>some (.g (.int k (k.wrap ((BitVec.ofInt k.bits a &&& BitVec.ofInt k.bits b).toNat))))
 | .or=>some (.g (.int k (k.wrap ((BitVec.ofInt k.bits a ||| BitVec.ofInt k.bits b).toNat))))
 | .xor=>some (.g (.int k (k.wrap ((BitVec.ofInt k.bits a ^^^ BitVec.ofInt k.bits b).toNat))))
 | _=>none
def shI (op:BinOp) (k:IntKind) (a b:Int):Option AV:=if b<0 then none else match op with
 | .shl=>some (.g (.int k (k.wrap (a*2 ^ min b.toNat k.bits))))
 | .shr=>some (.g (.int k (a.fdiv (2 ^ min b.toNat k.bits))))
 | _=>none
def intA (op:BinOp) (k:IntKind) (a b:Int):Option AV :=
 match op with
 | .quo=>divI .quo k a b
 | .rem=>divI .rem k a b
 | .and=>bitI .and k a b
 | .or=>bitI .or k a b
 | .xor=>bitI .xor k a b
 | .add=>some (.g (.int k (k.wrap (a+b))))
 | .sub=>some (.g (.int k (k.wrap (a - b))))
 | .mul=>some (.g (.int k (k.wrap (a*b))))
 | .eql=>some (.g (.bool (decide (a=b))))
 | .neq=>some (.g (.bool (!decide (a=b))))
 | .lss=>some (.g (.bool (decide (a<b))))
 | .leq=>some (.g (.bool (decide (a≤b))))
 | .gtr=>some (.g (.bool (decide (b<a))))
 | .geq=>some (.g (.bool (decide (b≤a))))
 | _=>none
def strA (op:BinOp) (a b:ByteArray):Option AV :=
 match op with
 | .add=>if a.size+b.size≤9223372036854775807 then some (.g (.string (a++b))) else none
 | .eql=>some (.g (.bool (decide (a=b))))
 | .neq=>some (.g (.bool (!decide (a=b))))
 | .lss=>some (.g (.bool (Op.bytesLess a.toList b.toList)))
 | .leq=>some (.g (.bool (Op.bytesLess a.toList b.toList||decide (a=b))))
 | .gtr=>some (.g (.bool (!(Op.bytesLess a.toList b.toList||decide (a=b)))))
 | .geq=>some (.g (.bool (!Op.bytesLess a.toList b.toList)))
 | _=>none
theorem ba_eq (a b:ByteArray):(a.toList==b.toList)=decide (a=b):=by
 rw [Bool.eq_iff_iff,beq_iff_eq,decide_eq_true_iff]
 constructor
 ·intro h
  rw [ByteArray.toList_eq,ByteArray.toList_eq] at h
  cases a;cases b
  simpa using h
 ·rintro rfl;rfl
theorem eqL_ba (a b:ByteArray):eqL a.data.toList b.data.toList=decide (a=b):=by
 rw [eqL_eq,←ba_eq,ByteArray.toList_eq,ByteArray.toList_eq]
def nilA (P:Program) (op:BinOp) (t:TypeId):Option AV:=match P.underlying t,op with
 | some (.slice _),.eql=>some (.g (.bool false))
 | some (.slice _),.neq=>some (.g (.bool true))
 | _,_=>none
def nilP (P:Program) (op:BinOp) (t:TypeId):Option AV:=match P.underlying t,op with
 | some (.pointer _),.eql=>some (.g (.bool false))
 | some (.pointer _),.neq=>some (.g (.bool true))
 | _,_=>none
def binA (P:Program) (op:BinOp) (t:TypeId):AV→AV→Option AV
 | .g (.int k a),.g (.int k' b)=>match op with
   | .shl=>shI .shl k a b
   | .shr=>shI .shr k a b
   | op=>if k=k' then intA op k a b else none
 | .g (.string a),.g (.string b)=>strA op a b
 | .g (.bool a),.g (.bool b)=>match P.underlying t with
   | some .bool=>match op with
     | .eql=>some (.g (.bool (decide (a=b))))
     | .neq=>some (.g (.bool (!decide (a=b))))
     | _=>none
   | _=>none
 | .gs _ _ _ _ _,.g (.slice none 0 0)=>nilA P op t
 | .g (.slice none 0 0),.g (.slice none 0 0)=>match P.underlying t,op with
   | some (.slice _),.eql=>some (.g (.bool true))
   | some (.slice _),.neq=>some (.g (.bool false))
   | _,_=>none
 | .ptr _ _,.g (.pointer none)=>nilP P op t
 | .ept _ _,.g (.pointer none)=>nilP P op t
 | .agg x,.agg y=>match toGs x,toGs y,P.eqGuardType P.depth t with
   | some xs,some ys,false=>match pv P (binOp op t (.agg xs.toArray) (.agg ys.toArray)) with
     | some v=>some (avc v)
     | none=>none
   | _,_,_=>none
 | _,_=>none
section
variable {P:Program} {ev:Operand→AV} {op:BinOp} {t yt ty:TypeId} {x y:Operand} {r:AV}
theorem Q2b (h:notNil (ev x) (ev y)=false) (h':notNil (ev y) (ev x)=false):evBin P ev op t x y yt ty=evGround P ev (.binOp op t x y yt) ty:=by
 unfold evBin
 cases op <;> simp [h,h']
theorem Q0t {α β:Type} (s:Sem α) (f:α→Sem β):pv P (s >>= f)=(pv P s).bind fun a=>pv P (f a):=by
 show pv P (Sem.bind s f)=_
 induction s with
 | pure a=>rfl
 | program k ih=>simp only [Sem.bind,pv,ih]
 | _=>simp [Sem.bind,pv]
theorem int_beq (a b:Int):(a==b)=decide (a=b):=by rw [Bool.eq_iff_iff];simp
theorem slow_int {k:IntKind} {a b:Int} (hx:ev x=.g (.int k a)) (hy:ev y=.g (.int k b)) (h:intA op k a b=some r):slowG P ev (.binOp op t x y yt) ty=some r:=by
 unfold intA at h;have div:∀ {op:BinOp},op=.quo∨op=.rem→divI op k a b=some r→slowG P ev (.binOp op t x y yt) ty=some r:=by
  intro op hop h;unfold divI at h
  split at h
  ·cases h
  ·rename_i hb
   rcases hop with rfl | rfl <;> simp only [Option.some.injEq] at h <;> subst h <;>
    simp [slowG,Op.operands,hx,hy,execOp,mkO,eqGuard,binOp,toG,Op.intDiv,hb,pv,avc,avc1,pure,Pure.pure,bind,Bind.bind,Sem.bind]
 have bits:∀ {op:BinOp},op=.and∨op=.or∨op=.xor→bitI op k a b=some r→slowG P ev (.binOp op t x y yt) ty=some r:=by
  intro op hop h;unfold bitI at h
  rcases hop with rfl | rfl | rfl <;> simp only [Option.some.injEq] at h <;> subst h <;>
   simp [slowG,Op.operands,hx,hy,execOp,mkO,eqGuard,binOp,toG,Op.intBits,pv,avc,avc1,pure,Pure.pure,bind,Bind.bind,Sem.bind]
 cases op
 case quo=>exact div (.inl rfl) h
 case rem=>exact div (.inr rfl) h
 case and=>exact bits (.inl rfl) h
 case or=>exact bits (.inr (.inl rfl)) h
 case xor=>exact bits (.inr (.inr rfl)) h
 all_goals simp only [reduceCtorEq,Option.some.injEq] at h
 all_goals subst h
 all_goals
  simp [slowG,Op.operands,hx,hy,execOp,mkO,eqGuard,binOp,toG,Op.intArith,Op.intCmp,pv,avc,avc1,pure,Pure.pure,bind,Bind.bind,Sem.bind,bne] <;> exact int_beq a b
theorem slow_sh {k k':IntKind} {a b:Int} (hop:op=.shl∨op=.shr) (hx:ev x=.g (.int k a)) (hy:ev y=.g (.int k' b)) (h:shI op k a b=some r):slowG P ev (.binOp op t x y yt) ty=some r:=by
 unfold shI at h
 split at h
 ·cases h
 ·rename_i hb
  rcases hop with rfl | rfl <;> simp only [Option.some.injEq] at h <;> subst h <;>
   simp [slowG,Op.operands,hx,hy,execOp,mkO,eqGuard,binOp,toG,Op.shift,hb,pv,avc,avc1,pure,Pure.pure,bind,Bind.bind,Sem.bind]
theorem slow_str {a b:ByteArray} (hx:ev x=.g (.string a)) (hy:ev y=.g (.string b)) (h:strA op a b=some r):slowG P ev (.binOp op t x y yt) ty=some r:=by
 unfold strA at h
 cases op <;> simp only [reduceCtorEq,Option.some.injEq] at h
 case add =>
  split at h
  ·rename_i hl
   cases h
   have hl':¬(9223372036854775807:Int)<(a.size:Int)+(b.size:Int):=by omega
   have hm:IntKind.i64.max=9223372036854775807:=by decide
   simp [slowG,Op.operands,hx,hy,execOp,mkO,eqGuard,binOp,toG,Op.stringOp,hm,hl',pv,avc,avc1,pure,Pure.pure,bind,Bind.bind,Sem.bind]
  ·cases h
 all_goals
  subst h;simp [slowG,Op.operands,hx,hy,execOp,mkO,eqGuard,binOp,toG,Op.stringOp,pv,avc,avc1,pure,Pure.pure,bind,Bind.bind,Sem.bind,ba_eq]
theorem Q2n {d:TypeDesc} (h:P.underlying t=some d):pv P (underlying t)=some d:=by
 unfold underlying;rw [Q0t,show pv P program=some P from rfl,Option.bind_some,h];rfl
theorem pv_equal_bool {a b:Bool} (h:P.underlying t=some .bool):pv P (Op.equal t (.bool a) (.bool b))=some (decide (a=b)):=by
 show pv P (Op.equalIn (9999+1) t (.bool a) (.bool b))=_;rw [Op.equalIn,Q0t,Q2n h];show some (a==b)=_;rw [Option.some.injEq,Bool.eq_iff_iff];simp
theorem pv_equal_nil {e:TypeId} (h:P.underlying t=some (.slice e)):pv P (Op.equal t (.slice none 0 0) (.slice none 0 0))=some true:=by
 show pv P (Op.equalIn (9999+1) t (.slice none 0 0) (.slice none 0 0))=_;rw [Op.equalIn,Q0t,Q2n h]
 rfl
theorem slow_nil {e:TypeId} (hu:P.underlying t=some (.slice e)) (hx:ev x=.g (.slice none 0 0)) (hy:ev y=.g (.slice none 0 0)) (hop:(op=.eql∧r=.g (.bool true))∨(op=.neq∧r=.g (.bool false))):slowG P ev (.binOp op t x y yt) ty=some r:=by
 have h0:pv P (eqGuard op t x y (.slice none 0 0) (.slice none 0 0))=some ():=by
  unfold eqGuard
  cases op <;> simp [pv,pure,Pure.pure]
 have h1:∃ v,pv P (binOp op t (.slice none 0 0) (.slice none 0 0))=some v∧avc v=r:=by
  rcases hop with ⟨rfl,rfl⟩ | ⟨rfl,rfl⟩
  ·refine ⟨.bool true,?_,rfl⟩
   show pv P (do pure (Value.bool (←Op.equal t (.slice none 0 0) (.slice none 0 0))))=_;rw [Q0t,pv_equal_nil hu];rfl
  ·refine ⟨.bool false,?_,rfl⟩
   show pv P (do pure (Value.bool (!(←Op.equal t (.slice none 0 0) (.slice none 0 0)))))=_;rw [Q0t,pv_equal_nil hu];rfl
 obtain ⟨v,h1,h2⟩:=h1;have h4:pv P (execOp (fun x=>(toG (ev x)).getD undef) (mkO (.binOp op t x y yt) ty))=some (.value v):=by
  show pv P (do let r ←(do eqGuard op t x y ((toG (ev x)).getD undef) ((toG (ev y)).getD undef);binOp op t ((toG (ev x)).getD undef) ((toG (ev y)).getD undef));pure (Next.value r))=_;rw [hx,hy];show pv P (do let r ←(do eqGuard op t x y (.slice none 0 0) (.slice none 0 0);binOp op t (.slice none 0 0) (.slice none 0 0));pure (Next.value r))=_;rw [Q0t,Q0t,h0,Option.bind_some,h1];rfl
 have h5:(Op.binOp op t x y yt).operands.all (fun x=>(toG (ev x)).isSome)=true:=by simp [Op.operands,hx,hy,toG]
 show (if _ then _ else _)=_;rw [if_pos h5,h4,←h2]
theorem slow_bool {a b:Bool} (hu:P.underlying t=some .bool) (hx:ev x=.g (.bool a)) (hy:ev y=.g (.bool b)) (hop:(op=.eql∧r=.g (.bool (decide (a=b))))∨(op=.neq∧r=.g (.bool (!decide (a=b))))):slowG P ev (.binOp op t x y yt) ty=some r:=by
 have h0:pv P (eqGuard op t x y (.bool a) (.bool b))=some ():=by
  unfold eqGuard
  cases op <;> simp [pv,pure,Pure.pure]
 have h1:∃ v,pv P (binOp op t (.bool a) (.bool b))=some v∧avc v=r:=by
  rcases hop with ⟨rfl,rfl⟩ | ⟨rfl,rfl⟩
  ·refine ⟨.bool (decide (a=b)),?_,rfl⟩
   show pv P (do pure (Value.bool (←Op.equal t (.bool a) (.bool b))))=_;rw [Q0t,pv_equal_bool hu];rfl
  ·refine ⟨.bool (!decide (a=b)),?_,rfl⟩
   show pv P (do pure (Value.bool (!(←Op.equal t (.bool a) (.bool b)))))=_;rw [Q0t,pv_equal_bool hu];rfl
 obtain ⟨v,h1,h2⟩:=h1;have h4:pv P (execOp (fun x=>(toG (ev x)).getD undef) (mkO (.binOp op t x y yt) ty))=some (.value v):=by
  show pv P (do let r ←(do eqGuard op t x y ((toG (ev x)).getD undef) ((toG (ev y)).getD undef);binOp op t ((toG (ev x)).getD undef) ((toG (ev y)).getD undef));pure (Next.value r))=_;rw [hx,hy];show pv P (do let r ←(do eqGuard op t x y (.bool a) (.bool b);binOp op t (.bool a) (.bool b));pure (Next.value r))=_;rw [Q0t,Q0t,h0,Option.bind_some,h1];rfl
 have h5:(Op.binOp op t x y yt).operands.all (fun x=>(toG (ev x)).isSome)=true:=by simp [Op.operands,hx,hy,toG]
 show (if _ then _ else _)=_;rw [if_pos h5,h4,←h2]
theorem nbeq_false {a b:Nat}:Nat.beq a b=false↔a≠b:=by rw [←Bool.not_eq_true,Nat.beq_eq]
theorem wrap_nat {n:Nat} (h:n<9223372036854775808):IntKind.i64.wrap (n:Int)=n:=by rw [IntKind.wrap_i64];omega
theorem binA_ok (h:binA P op t (ev x) (ev y)=some r):evBin P ev op t x y yt ty=some r:=by
 unfold binA at h
 split at h
 ·rename_i k a k' b hx hy
  have shift:op=.shl∨op=.shr→shI op k a b=some r→evBin P ev op t x y yt ty=some r:=by
   intro hop h;rw [Q2b (by rw [hx,hy];rfl) (by rw [hx,hy];rfl)];unfold evGround;have:fastG P ev (.binOp op t x y yt)=none:=by
    simp only [fastG,hx,hy];rcases hop with rfl | rfl <;> cases a <;> cases b <;> simp only [fastBin] <;> split <;> rfl
   rw [this];exact slow_sh hop hx hy h
  split at h
  ·exact shift (.inl rfl) h
  ·exact shift (.inr rfl) h
  split at h
  ·rename_i hk
   subst hk;rw [Q2b (by rw [hx,hy];rfl) (by rw [hx,hy];rfl)];unfold evGround
   split
   ·rename_i a' ha
    simp only [fastG,hx,hy] at ha;rw [←h]
    cases a with
    | negSucc a=>simp [fastBin] at ha
    | ofNat a =>
      cases b with
      | negSucc b=>simp [fastBin] at ha
      | ofNat b =>
        simp only [fastBin] at ha
        split at ha
        ·unfold fastInt at ha
         unfold intA
         cases op <;> simp only [reduceCtorEq,Option.some.injEq] at ha <;> simp only [←ha,Option.some.injEq,AV.g.injEq,Value.bool.injEq]
         case add =>
          cases k <;> simp only [reduceCtorEq] at ha
          split at ha
          ·rename_i hlt
           have:=Nat.le_of_ble_eq_true hlt
           cases ha
           have e:=wrap_nat (n:=a+b) (by omega);simp only [Int.ofNat_eq_natCast,Int.natCast_add] at e ⊢;rw [e]
          ·cases ha
         case sub =>
          cases k <;> simp only [reduceCtorEq] at ha
          split at ha
          ·rename_i hle hlt
           have h1:=Nat.le_of_ble_eq_true hle;have h2:=Nat.le_of_ble_eq_true hlt
           cases ha
           have e:=wrap_nat (n:=a - b) (by omega);simp only [Int.ofNat_eq_natCast] at e ⊢;rw [Int.natCast_sub h1] at e ⊢;rw [e]
          ·cases ha
         all_goals
          rw [Bool.eq_iff_iff];simp only [Bool.not_eq_true',Nat.blt_eq,Nat.ble_eq,decide_eq_true_eq,decide_eq_false_iff_not,Nat.beq_eq,Int.ofNat_eq_natCast,nbeq_false]
         all_goals omega
        ·cases ha
   ·exact slow_int hx hy h
  ·cases h
 ·rename_i a b hx hy
  rw [Q2b (by rw [hx,hy];rfl) (by rw [hx,hy];rfl)];unfold evGround
  split
  ·rename_i a' ha
   simp only [fastG,hx,hy,fastBin,fastStr] at ha;rw [←h]
   cases op <;> simp only [reduceCtorEq,Option.some.injEq] at ha <;> simp only [strA,←ha,eqL_ba]
  ·exact slow_str hx hy h
 ·rename_i a b hx hy
  rw [Q2b (by rw [hx,hy];rfl) (by rw [hx,hy];rfl)];unfold evGround;simp only [fastG,hx,hy,fastBin]
  split at h
  ·rename_i hu
   split at h
   ·cases h;exact slow_bool hu hx hy (.inl ⟨rfl,rfl⟩)
   ·cases h;exact slow_bool hu hx hy (.inr ⟨rfl,rfl⟩)
   ·cases h
  ·cases h
 ·rename_i hx hy
  unfold nilA at h
  split at h
  ·rename_i e hu;cases h;simp [evBin,hx,hy,notNil,nilType,hu]
  ·rename_i e hu;cases h;simp [evBin,hx,hy,notNil,nilType,hu]
  ·cases h
 ·rename_i hx hy
  rw [Q2b (by rw [hx,hy];rfl) (by rw [hx,hy];rfl)];unfold evGround;simp only [fastG,hx,hy,fastBin]
  split at h
  ·rename_i e hu;cases h;exact slow_nil hu hx hy (.inl ⟨rfl,rfl⟩)
  ·rename_i e hu;cases h;exact slow_nil hu hx hy (.inr ⟨rfl,rfl⟩)
  ·cases h
 ·rename_i hx hy
  unfold nilP at h
  split at h
  ·rename_i e hu;cases h;simp [evBin,hx,hy,notNil,nilType,hu]
  ·rename_i e hu;cases h;simp [evBin,hx,hy,notNil,nilType,hu]
  ·cases h
 ·rename_i hx hy
  unfold nilP at h
  split at h
  ·rename_i e hu;cases h;simp [evBin,hx,hy,notNil,nilType,hu]
  ·rename_i e hu;cases h;simp [evBin,hx,hy,notNil,nilType,hu]
  ·cases h
 ·rename_i a b hx hy
  rw [Q2b (by rw [hx,hy];rfl) (by rw [hx,hy];rfl)];unfold evGround;simp only [fastG,hx,hy,fastBin]
  split at h
  ·rename_i xs ys h1 h2 h3
   split at h
   ·rename_i v hv
    cases h
    have e1:toG (.agg a)=some (.agg xs.toArray):=by rw [toG,h1]
    have e2:toG (.agg b)=some (.agg ys.toArray):=by rw [toG,h2]
    have h4:pv P (execOp (fun x=>(toG (ev x)).getD undef) (mkO (.binOp op t x y yt) ty))=some (.value v):=by
     have h6:pv P (eqGuard op t x y (.agg xs.toArray) (.agg ys.toArray))=some ():=by
      unfold eqGuard
      cases op <;> simp [pv,pure,Pure.pure,bind,Bind.bind,Sem.bind,program,h3]
     have h7:pv P (do eqGuard op t x y (.agg xs.toArray) (.agg ys.toArray);binOp op t (.agg xs.toArray) (.agg ys.toArray))=some v:=by
      rw [Q0t,h6];exact hv
     show pv P (do let r ←(do eqGuard op t x y ((toG (ev x)).getD undef) ((toG (ev y)).getD undef);binOp op t ((toG (ev x)).getD undef) ((toG (ev y)).getD undef));pure (Next.value r))=_;rw [hx,hy,e1,e2,Q0t,Option.getD_some,Option.getD_some,h7];rfl
    have h5:(Op.binOp op t x y yt).operands.all (fun x=>(toG (ev x)).isSome)=true:=by simp [Op.operands,hx,hy,e1,e2]
    show (if _ then _ else _)=_;rw [if_pos h5,h4]
   ·cases h
  ·cases h
 ·cases h
end
def tmL (l:List AV):Tm:=putArgs l 0 (undefT l.length 0)
theorem Q0l (l:List AV) (t:Nat):(tmL l).get t=l[t]?:=by
 unfold tmL;rw [Q1x,Q2h]
 by_cases h:t<l.length
 ·rw [if_pos ⟨Nat.zero_le _,by omega⟩,Nat.sub_zero]
 ·rw [if_neg (by omega),if_neg (by omega),List.getElem?_eq_none (by omega)]
abbrev ML:=List (Nat×Blk)
def memL:ML→Mem
 | []=>.e
 | (b,k)::m=>Mem.put (memL m) b k
def getL:ML→Nat→Option Blk
 | [],_=>none
 | (b,k)::m,c=>if b=c then some k else getL m c
def setL:ML→Nat→Blk→ML
 | [],_,_=>[]
 | (b,k)::m,c,k'=>if b=c then (b,k')::m else (b,k)::setL m c k'
def delL:ML→Nat→ML
 | [],_=>[]
 | (b,k)::m,c=>if b=c then delL m c else (b,k)::delL m c
theorem Q0d:∀ (m:ML) (c:Nat),(memL m).get c=getL m c
 | [],_=>rfl
 | (b,k)::m,c=>by rw [memL,Mem.get_cons,getL,Q0d m c]
theorem Q2g:∀ (m:ML) (b c:Nat) (k:Blk),getL (setL m b k) c=if b=c then (getL m c).map (fun _=>k) else getL m c
 | [],b,c,k=>by simp [setL,getL]
 | (d,x)::m,b,c,k=>by
   have ih:=Q2g m b c k
   by_cases h:d=b
   ·subst h
    by_cases h2:d=c
    ·subst h2;simp [setL,getL]
    ·simp [setL,getL,h2]
   ·rw [setL,if_neg h,getL,getL,ih]
    by_cases h2:d=c
    ·subst h2;rw [if_pos rfl,if_neg (fun e=>h e.symm),if_pos rfl]
    ·rw [if_neg h2,if_neg h2]
theorem getL_del:∀ (m:ML) (b c:Nat),getL (delL m b) c=if b=c then none else getL m c
 | [],b,c=>by simp [delL,getL]
 | (d,x)::m,b,c=>by
   have ih:=getL_del m b c
   by_cases h:d=b
   ·subst h
    rw [delL,if_pos rfl,ih,getL]
    by_cases h2:d=c
    ·rw [if_pos h2,if_pos h2]
    ·rw [if_neg h2,if_neg h2,if_neg h2]
   ·rw [delL,if_neg h,getL,getL,ih]
    by_cases h2:d=c
    ·subst h2;rw [if_pos rfl,if_neg (fun e=>h e.symm),if_pos rfl]
    ·rw [if_neg h2,if_neg h2]
abbrev stL (l:List AV) (m:ML) (n:Nat):St:=⟨tmL l,memL m,n⟩
def evL (GT:GTab) (l:List AV):Operand→AV
 | .tmp t=>l.getD t .any
 | .const v=>avc v
 | .global g=>match GT g with
   | some cs=>.ept cs 0
   | none=>.any
 | .func f=>.fn (.func f) [] []
theorem evL_eq (GT:GTab) (l:List AV):evO GT (tmL l)=evL GT l:=by
 funext x
 cases x with
 | tmp t =>
   show (tmL l).getA t=l.getD t .any;unfold Tm.getA;rw [Q0l,List.getD_eq_getElem?_getD]
   cases l[t]? <;> rfl
 | _=>rfl
def setO (l:List AV):Option Tmp→AV→List AV
 | some d,v=>l.set d v
 | none,_=>l
def aggO (P:Program) (t:TypeId):Option (Bool×Nat):=match P.underlying t,P.info? t with
 | some d,some i=>some (aggB d,i.size)
 | _,_=>none
def elemO (P:Program) (t:TypeId):Option Nat:=match P.underlying t with
 | some (.slice e)=>(P.info? e).map (·.size)
 | _=>none
def fldO (P:Program) (s:TypeId) (f:Nat):Option (Nat×TypeId):=match P.underlying s with
 | some (.struct fs)=>match fs[f]? with
   | some fd=>match P.info? fd.type with
     | some i=>if i.size=0 then none else some (fd.offset,fd.type)
     | none=>none
   | none=>none
 | _=>none
def partL (P:Program) (t:TypeId) (cs:List AV) (o:Nat):Option AV:=match aggO P t with
 | some (true,sz)=>if o+sz≤cs.length then some (.agg ((cs.drop o).take sz)) else none
 | some (false,_)=>cs[o]?
 | none=>none
theorem partL_eq (P:Program) (t:TypeId) (cs:List AV) (o:Nat):partA P t cs o=partL P t cs o:=by
 unfold partA partL aggO
 cases P.underlying t <;> cases P.info? t <;> simp only
 rename_i d i
 cases aggB d <;> simp
def loadL (P:Program) (m:ML) (t:TypeId):AV→Option AV
 | .ptr b o=>match getL m b with
   | some (.cells cs)=>partL P t cs o
   | _=>none
 | .ept cs o=>partL P t cs o
 | _=>none
def fieldL (P:Program) (s:TypeId) (f:Nat):AV→Option AV
 | .ptr b o=>match fldO P s f with
   | some (off,_)=>some (.ptr b (o+off))
   | none=>none
 | .ept cs o=>match fldO P s f with
   | some (off,_)=>some (.ept cs (o+off))
   | none=>none
 | _=>none
def arrO (P:Program) (t:TypeId):Option (Nat×Nat×TypeId):=match P.underlying t with
 | some (.array len e)=>match P.info? e with
   | some i=>some (len,i.size,e)
   | none=>none
 | _=>none
def indexL (P:Program) (t:TypeId):AV→AV→Option AV
 | .ptr b o,.g (.int _ n)=>match arrO P t with
   | some (len,sz,_)=>if 0≤n∧n<len then some (.ptr b (o+n.toNat*sz)) else none
   | none=>none
 | .ept cs o,.g (.int _ n)=>match arrO P t with
   | some (len,sz,_)=>if 0≤n∧n<len then some (.ept cs (o+n.toNat*sz)) else none
   | none=>none
 | .sl m sz cs,.g (.int _ n)=>if elemO P t=some sz∧0≤n∧n<m then some (.ept cs (n.toNat*sz)) else none
 | .gs b o m sz _,.g (.int _ n)=>if elemO P t=some sz∧0≤n∧n<m then some (.ptr b (o+n.toNat*sz)) else none
 | _,_=>none
def lenL (P:Program) (t:TypeId):AV→Option AV
 | .sl n _ _=>match elemO P t with | some _=>some (.g (.int .i64 n)) | none=>none
 | .gs _ _ n _ _=>match elemO P t with | some _=>some (.g (.int .i64 n)) | none=>none
 | .z0=>match elemO P t with | some _=>some (.g (.int .i64 0)) | none=>none
 | .g (.string s)=>match P.underlying t with | some .string=>some (.g (.int .i64 s.size)) | _=>none
 | .g (.slice none 0 0)=>match elemO P t with | some _=>some (.g (.int .i64 0)) | none=>none
 | _=>none
def storeL (m:ML) (n sz:Nat):AV→AV→Option (AV×ML×Nat)
 | .ptr b o,x=>match cellsA x,getL m b with
   | some pc,some (.cells cs)=>if pc.length=sz∧o+pc.length≤cs.length then some (.g undef,setL m b (.cells (putA cs o pc)),n) else none
   | _,_=>none
 | _,_=>none
section
variable {P:Program} {GT:GTab} {ch:CH} {rd:List Mem} {m:ML} {n:Nat} {l:List AV} {ev:Operand→AV} {ty t:TypeId}
theorem getR_memL {b:Nat} {k:Blk} (h:getL m b=some k):getR (memL m::rd) b=some k:=Q0b ((Q0d m b).trans h)
theorem loadL_ok {a v:AV} (h:loadL P m t a=some v):evLoad P (memL m::rd) t a=some v:=by
 unfold loadL at h
 split at h
 ·rename_i b o
  split at h
  ·rename_i cs hg
   simp only [evLoad,rowAt,getR_memL hg,partL_eq];exact h
  ·cases h
 ·simp only [evLoad,rowAt,partL_eq];exact h
 ·cases h
theorem fieldL_ok {f:Nat} {x:Operand} {v:AV} (h:fieldL P t f (ev x)=some v):evPure P (memL m::rd) ev (.fieldAddr t x f) ty=some v:=by
 unfold fieldL at h
 split at h
 all_goals
  first
  | (cases h;done)
  | (rename_i b o hx
     unfold fldO at h;simp only [evPure]
     split at h
     ·rename_i off ft hf
      split at hf
      ·rename_i fs hu
       split at hf
       ·rename_i fd hfd
        split at hf
        ·rename_i i hi
         split at hf
         ·cases hf
         ·rename_i hz
          cases hf
          simp only [hu,hfd,hi,if_neg hz,hx];exact h
        ·cases hf
       ·cases hf
      ·cases hf
     ·cases h)
theorem Q1s {sz:Nat} (h:elemO P t=some sz):∃ e i,P.underlying t=some (.slice e)∧P.info? e=some i∧i.size=sz:=by
 unfold elemO at h
 split at h
 ·rename_i e hu
  cases hi:P.info? e with
  | none=>rw [hi] at h;cases h
  | some i=>rw [hi] at h;exact ⟨e,i,hu,hi,by simpa using h⟩
 ·cases h
theorem arrO_some {len sz:Nat} {e:TypeId} (h:arrO P t=some (len,sz,e)):∃ i,P.underlying t=some (.array len e)∧P.info? e=some i∧i.size=sz:=by
 unfold arrO at h
 split at h
 ·rename_i len' e' hu
  split at h
  ·rename_i i hi;cases h;exact ⟨i,hu,hi,rfl⟩
  ·cases h
 ·cases h
theorem indexL_ok {x i:Operand} {v:AV} (h:indexL P t (ev x) (ev i)=some v):evPure P (memL m::rd) ev (.indexAddr t x i) ty=some v:=by
 unfold indexL at h
 split at h
 all_goals
  first
  | (cases h;done)
  | (rename_i hx hi
     split at h
     ·rename_i ha
      obtain ⟨inf,hu,hf,rfl⟩:=arrO_some ha;simp only [evPure,hx,hi,hu,hf];exact h
     ·cases h)
  | (rename_i hx hi
     split at h
     ·rename_i hc
      obtain ⟨e,inf,hu,hf,hz⟩:=Q1s hc.1;simp only [evPure,hx,hi,hu,hf];rw [if_pos ⟨hc.2.1,hc.2.2,hz⟩];exact h
     ·cases h)
theorem lenL_ok {x:Operand} {v:AV} (h:lenL P t (ev x)=some v):evPure P (memL m::rd) ev (.call ⟨.builtin .len,#[x],#[t]⟩) ty=some v:=by
 have sl:∀ {sz:Nat},elemO P t=some sz→∀ a:AV,(∀ b,a≠.mp b)→isColl P t a=true:=by
  intro sz he a ha;obtain ⟨e,i,hu,-,-⟩:=Q1s he
  cases a <;> simp only [isColl,hu]
  exact absurd rfl (ha _)
 unfold lenL at h
 split at h
 ·rename_i k sz cs hx;split at h
  ·rename_i he;cases h
   have hc:=sl he (.sl k sz cs) (fun b e=>by cases e);simp only [evPure,evBuiltin,hx,lenA,hc,if_true]
  ·cases h
 ·rename_i b o k sz c hx;split at h
  ·rename_i he;cases h
   have hc:=sl he (.gs b o k sz c) (fun b e=>by cases e);simp only [evPure,evBuiltin,hx,lenA,hc,if_true]
  ·cases h
 ·rename_i hx;split at h
  ·rename_i he;cases h
   have hc:=sl he .z0 (fun b e=>by cases e);simp only [evPure,evBuiltin,hx,lenA,hc,if_true];rfl
  ·cases h
 ·rename_i s hx;split at h
  ·rename_i hu
   cases h
   simp only [evPure,evBuiltin,hx,lenA,evGround,fastG,fastCall,fastLen,hu]
   congr 3
  ·cases h
 ·rename_i hx;split at h
  ·rename_i he
   cases h
   obtain ⟨e,i,hu,-,-⟩:=Q1s he;simp only [evPure,evBuiltin,hx,lenA,evGround,fastG,fastCall,fastLen];simp [slowG,Op.operands,Call.operands,hx,toG,execOp,mkO,resolve,invoke,builtin,Builtin.len_,goInt,underlying,program,hu,pv,avc,avc1,bind,Bind.bind,Sem.bind,pure,Pure.pure]
  ·cases h
 ·cases h
end
def zeroO (P:Program) (t:TypeId):Option (List AV):=match (P.info? t).bind (·.zero) with
 | some z=>some (z.cells.toList.map .g)
 | none=>none
def elemI (P:Program) (t:TypeId):Option (Nat×Nat×Bool):=match P.underlying t with
 | some (.slice e)=>match P.info? e with
   | some i=>match i.zero with
     | some z=>some (i.size,i.bytes,decide (z.cells.size=i.size))
     | none=>none
   | none=>none
 | _=>none
def szO (P:Program) (t:TypeId):Option Nat:=(P.info? t).map (·.size)
def appZ (m:ML) (n:Nat) (s:AV):Option (AV×ML×Nat):=match s with
 | .gs b o c z kc=>match getL m b with
   | some _=>some (.gs b o c z kc,m,n)
   | none=>none
 | s=>if isSlice s then some (s,m,n) else none
def appL (P:Program) (rd:List Mem) (m:ML) (n:Nat) (t xt:TypeId) (s x:AV):Option (AV×ML×Nat) :=
 match elemI P t,slOrStr (P.underlying xt) with
 | some (sz,bytes,true),true=>match newsA (memL m::rd) sz x with
   | some (news,k) =>
     if k=0 then appZ m n s else
     if news.all isCell∧0<sz then
      match s with
      | .z0 | .g (.slice none 0 0)=>if k*(bytes+1)≤17179869184 then some (.gs n 0 k sz k,(n,.cells news)::m,n+1) else none
      | .gs b o c z kc=>match getL m b,getR rd b with
        | some (.cells bc),none=>if z=sz∧c+k≤kc∧o+c*z≤bc.length then some (.gs b o (c+k) z kc,setL m b (.cells (putA bc (o+c*z) news)),n)
           else if z=sz∧o+c*z=bc.length∧(c+k)*(bytes+1)≤17179869184 then some (.gs n 0 (c+k) z (c+k),(n,.cells (bc.drop o++news))::delL m b,n+1) else none
        | _,_=>none
      | _=>none
     else none
   | none=>none
 | _,_=>none
def indexS:AV→AV→Option AV
 | .g (.string s),.g (.int _ k)=>if 0≤k∧k<s.size then some (.g (.int .u8 ((s.data.toList.getD k.toNat 0).toNat:Int))) else none
 | _,_=>none
def buildSl (P:Program) (n:Nat) (m:ML) (t:TypeId) (len:Nat) (parts:List (Nat×AV)):Option (AV×ML×Nat):=match elemI P t with
 | some (sz,_,_)=>if len*sz≤16777216∧len≤16777216 then
    match fillA (fun k=>some (k*sz,sz)) (List.replicate (len*sz) .any) parts with
    | some cs=>some (.gs n 0 len sz len,(n,.cells cs)::m,n+1)
    | none=>none
   else none
 | none=>none
def cutS (s:ByteArray) (l h:Nat):ByteArray:=⟨((s.data.toList.drop l).take (h - l)).toArray⟩
def sliceS (s:ByteArray) (lo hi:Option AV):Option AV:=match evInt hi s.size,evInt lo 0 with
 | some h,some l=>if l≤h∧h≤s.size then some (.g (.string (cutS s l h))) else none
 | _,_=>none
def lookB (P:Program) (t:TypeId) (k:AV) (ok:Bool):Option Blk→Option AV
 | some (.map es _)=>match P.underlying t with
   | some (.map kt et)=>match keyFind P kt k es with
     | some (some (_,v))=>some (if ok then .tup [v,.g (.bool true)] else v)
     | some none=>match (P.info? et).bind (·.zero) with
       | some z=>some (if ok then .tup [avc1 z,.g (.bool false)] else avc1 z)
       | none=>none
     | none=>none
   | _=>none
 | _=>none
def lookL (P:Program) (m:ML) (t:TypeId) (x k:AV) (ok:Bool):Option AV:=match x with
 | .mp b=>lookB P t k ok (getL m b)
 | .g (.map none)=>lookB P t k ok (some (.map [] 0))
 | _=>none
def msetB (P:Program) (t:TypeId) (k x:AV):Option Blk→Option Blk
 | some (.map es clk)=>match P.underlying t with
   | some (.map kt _)=>match keyFind P kt k es with
     | some (some (i,_))=>some (.map (es.modify i fun e=>(e.1,k,x)) clk)
     | some none=>some (.map (es++[(clk,k,x)]) (clk+1))
     | none=>none
   | _=>none
 | _=>none
def msetL (P:Program) (m:ML) (n:Nat) (t:TypeId) (mm k x:AV):Option (AV×ML×Nat):=match mm with
 | .mp b=>match msetB P t k x (getL m b) with
   | some y=>some (.g undef,setL m b y,n)
   | none=>none
 | _=>none
def mentB (P:Program) (t:TypeId) (k:AV):Option Blk→Option (AV×Blk)
 | some (.map es clk)=>match P.underlying t with
   | some (.map kt et)=>match keyFind P kt k es with
     | some (some (i,v))=>match es[i]? with
       | some e=>some (.tup [v,.g (.int .i64 e.1)],.map (es.modify i fun e=>(e.1,k,e.2.2)) clk)
       | none=>none
     | some none=>match (P.info? et).bind (·.zero) with
       | some z=>some (.tup [avc1 z,.g (.int .i64 clk)],.map (es++[(clk,k,avc1 z)]) (clk+1))
       | none=>none
     | none=>none
   | _=>none
 | _=>none
def mentL (P:Program) (m:ML) (n:Nat) (t:TypeId) (mm k:AV):Option (AV×ML×Nat):=match mm with
 | .mp b=>match mentB P t k (getL m b) with
   | some (v,y)=>some (v,setL m b y,n)
   | none=>none
 | _=>none
def estB (st x:AV):Option Blk→Option Blk
 | some (.map es clk)=>match st with
   | .g (.int _ n)=>match es.findIdx? (fun e=>(e.1:Int)==n) with
     | some i=>some (.map (es.modify i fun e=>(e.1,e.2.1,x)) clk)
     | none=>none
   | _=>none
 | _=>none
def estL (m:ML) (n:Nat) (mm st x:AV):Option (AV×ML×Nat):=match mm with
 | .mp b=>match estB st x (getL m b) with
   | some y=>some (.g undef,setL m b y,n)
   | none=>none
 | _=>none
def idxA (P:Program) (t:TypeId) (cs:List AV):AV→Option AV
 | .g (.int _ n)=>match arrO P t with
   | some (len,sz,e)=>if 0≤n∧n<len then partL P e cs (n.toNat*sz) else none
   | none=>none
 | _=>none
def fldA (P:Program) (t:TypeId) (f:Nat):AV→Option AV
 | .agg cs=>match fldO P t f with
   | some (off,ft)=>partL P ft cs off
   | none=>none
 | _=>none
def intK (P:Program) (t:TypeId):Option IntKind:=match P.underlying t with
 | some (.int k)=>some k
 | _=>none
def convA (P:Program) (src dst:TypeId):AV→Option AV
 | .g (.int _ n)=>match intK P src,intK P dst with
   | some _,some k=>some (.g (.int k (k.wrap n)))
   | _,_=>none
 | _=>none
def elemZ (P:Program) (t:TypeId):List Value:=match P.underlying t with
 | some (.slice e)=>match (P.info? e).bind (·.zero) with
   | some z=>z.cells.toList
   | none=>[]
 | _=>[]
def makeL (P:Program) (m:ML) (n:Nat) (t:TypeId):AV→AV→Option (AV×ML×Nat)
 | .g (.int _ a),.g (.int _ c)=>match elemI P t with
   | some (sz,bytes,true)=>if 0≤a∧a≤c∧c.toNat*(bytes+1)≤17179869184∧0<sz then some (.gs n 0 a.toNat sz c.toNat,(n,.cells (zerosA (elemZ P t) a.toNat))::m,n+1) else none
   | _=>none
 | _,_=>none
def nextS (m:ML) (n b:Nat):Option Blk→Option (AV×ML×Nat)
 | some (.sit s pos)=>if pos<s.size then some (.tup [.g (.bool true),.g (.int .i64 pos),.g (.int .i32 (Utf8.decode s pos).1)],setL m b (.sit s (pos+(Utf8.decode s pos).2)),n) else some (.tup [.g (.bool false)],m,n)
 | _=>none
def negA:UnOp→AV→Option AV
 | .neg,.g (.int k a)=>some (.g (.int k (k.wrap (0 - a))))
 | .xor,.g (.int k a)=>bitI .xor k (if k.signed then -1 else k.max) a
 | _,_=>none
def mnA:AV→AV→Option AV
 | .g (.int k a),.g (.int k' b)=>if k=k' then some (.g (.int k (if b<a then b else a))) else none
 | _,_=>none
def mxA:AV→AV→Option AV
 | .g (.int k a),.g (.int k' b)=>if k=k' then some (.g (.int k (if a<b then b else a))) else none
 | _,_=>none
def clearL (P:Program) (m:ML) (n:Nat) (t:TypeId):AV→Option (AV×ML×Nat)
 | .gs b o k sz _=>match elemI P t,getL m b with
   | some (sz',_,true),some (.cells cs)=>if sz'=sz∧0<k∧0<sz∧o+k*sz≤cs.length∧(zerosA (elemZ P t) k).all isCell=true then some (.g (.tuple #[]),setL m b (.cells (putA cs o (zerosA (elemZ P t) k))),n) else none
   | _,_=>none
 | _=>none
def stepO (P:Program) (GT:GTab) (rd:List Mem) (m:ML) (n:Nat) (l:List AV) (op:Op):Option (AV×ML×Nat) :=
 match op with
 | .move x=>some (evL GT l x,m,n)
 | .assign x=>some (evL GT l x,m,n)
 | .pick c a b=>match evL GT l c with
   | .g (.bool t)=>some (if t then evL GT l a else evL GT l b,m,n)
   | _=>none
 | .binOp op t x y _=>match binA P op t (evL GT l x) (evL GT l y) with
   | some v=>some (v,m,n)
   | none=>none
 | .unOp .not _ x=>match evL GT l x with
   | .g (.bool b)=>some (.g (.bool (!b)),m,n)
   | _=>none
 | .unOp o _ x=>match negA o (evL GT l x) with
   | some v=>some (v,m,n)
   | none=>none
 | .load t a=>match loadL P m t (evL GT l a) with
   | some v=>some (v,m,n)
   | none=>none
 | .store t a x=>match szO P t with
   | some sz=>storeL m n sz (evL GT l a) (evL GT l x)
   | none=>none
 | .fieldAddr s x f=>match fieldL P s f (evL GT l x) with
   | some v=>some (v,m,n)
   | none=>none
 | .indexAddr t x i=>match indexL P t (evL GT l x) (evL GT l i) with
   | some v=>some (v,m,n)
   | none=>none
 | .extract x i=>match evL GT l x with
   | .tup vs=>match vs[i]? with
     | some v=>some (v,m,n)
     | none=>none
   | _=>none
 | .alloc t=>match zeroO P t with
   | some cs=>some (.ptr n 0,(n,.cells cs)::m,n+1)
   | none=>none
 | .box _ x=>match cellsA (evL GT l x) with
   | some cs=>some (.ptr n 0,(n,.cells cs)::m,n+1)
   | none=>none
 | .nilCheck x=>match evL GT l x with
   | .ptr b o=>some (.ptr b o,m,n)
   | .ept cs o=>some (.ept cs o,m,n)
   | .mp b=>some (.mp b,m,n)
   | _=>none
 | .makeFunc f a b=>some (.fn f (a.toList.map (evL GT l)) (b.toList.map (evL GT l)),m,n)
 | .build t parts=>match evBuild P t (parts.toList.map fun p=>(p.1,evL GT l p.2)) with
   | some v=>some (v,m,n)
   | none=>none
 | .buildSlice t len parts=>buildSl P n m t len (parts.toList.map fun p=>(p.1,evL GT l p.2))
 | .index t x i=>match evL GT l x with
   | .agg cs=>match idxA P t cs (evL GT l i) with
     | some v=>some (v,m,n)
     | none=>none
   | x=>match P.underlying t,indexS x (evL GT l i) with
     | some .string,some v=>some (v,m,n)
     | _,_=>none
 | .slice t x lo hi mx=>match evL GT l x with
   | .g (.string s)=>match P.underlying t,mx,sliceS s (lo.map (evL GT l)) (hi.map (evL GT l)) with
     | some .string,none,some v=>some (v,m,n)
     | _,_,_=>none
   | .g _=>none
   | x=>match evSlice P (memL m::rd) t x (lo.map (evL GT l)) (hi.map (evL GT l)) (mx.map (evL GT l)) with
     | some v=>some (v,m,n)
     | none=>none
 | .call c=>match c.callee,c.args,c.argTypes with
   | .builtin .len,⟨[x]⟩,⟨[t]⟩=>match lenL P t (evL GT l x) with
     | some v=>some (v,m,n)
     | none=>none
   | .builtin .append,⟨[s,x]⟩,⟨[t,xt]⟩=>appL P rd m n t xt (evL GT l s) (evL GT l x)
   | .builtin .clear,⟨[s]⟩,⟨[t]⟩=>clearL P m n t (evL GT l s)
   | .builtin .min,⟨[x,y]⟩,_=>match mnA (evL GT l x) (evL GT l y) with
     | some v=>some (v,m,n)
     | none=>none
   | .builtin .max,⟨[x,y]⟩,_=>match mxA (evL GT l x) (evL GT l y) with
     | some v=>some (v,m,n)
     | none=>none
   | _,_,_=>none
 | .field t x f=>match fldA P t f (evL GT l x) with
   | some v=>some (v,m,n)
   | none=>none
 | .convert src dst x=>match convA P src dst (evL GT l x) with
   | some v=>some (v,m,n)
   | none=>none
 | .lookup t x k ok=>match lookL P m t (evL GT l x) (evL GT l k) ok with
   | some v=>some (v,m,n)
   | none=>none
 | .makeMap _ none=>some (.mp n,(n,.map [] 0)::m,n+1)
 | .mapUpdate t mm k x=>msetL P m n t (evL GT l mm) (evL GT l k) (evL GT l x)
 | .mapEntry t mm k=>mentL P m n t (evL GT l mm) (evL GT l k)
 | .entryStore _ mm s x=>estL m n (evL GT l mm) (evL GT l s) (evL GT l x)
 | .makeSlice t a c=>makeL P m n t (evL GT l a) (evL GT l c)
 | .range t x=>match P.underlying t,evL GT l x with
   | some .string,.g (.string s)=>some (.ptr n 0,(n,.sit s 0)::m,n+1)
   | _,_=>none
 | .next it isS=>match evL GT l it,isS with
   | .ptr b 0,true=>nextS m n b (getL m b)
   | _,_=>none
 | _=>none
section
variable {P:Program} {GT:GTab} {ch:CH} {rd:List Mem} {m m':ML} {n n':Nat} {l:List AV} {ty t:TypeId} {v:AV}
def MemEq (mt:Mem) (m:ML):Prop:=∀ b,mt.get b=getL m b
theorem memEq (m:ML):MemEq (memL m) m:=Q0d m
theorem Q2e {mt:Mem} (h:MemEq mt m) (b:Nat) (k:Blk):MemEq (Mem.put mt b k) ((b,k)::m):=fun c=>by rw [Mem.get_cons,getL,h c]
theorem Q2d {mt:Mem} (h:MemEq mt m) (b:Nat) (k:Blk):MemEq (Mem.set mt b k) (setL m b k):=fun c=>by rw [Mem.get_set,Q2g,h c]
theorem memEq_del {mt:Mem} (h:MemEq mt m) (b:Nat):MemEq (Tri.del mt b) (delL m b):=fun c=>by rw [Mem.get_del,getL_del,h c]
theorem elemI_some {sz bytes:Nat} {z:Bool} (h:elemI P t=some (sz,bytes,z)):∃ e i zv,P.underlying t=some (.slice e)∧P.info? e=some i∧i.zero=some zv∧i.size=sz∧i.bytes=bytes∧(z=true→zv.cells.size=i.size):=by
 unfold elemI at h
 split at h
 ·rename_i e hu
  split at h
  ·rename_i i hi
   split at h
   ·rename_i zv hz
    simp only [Option.some.injEq,Prod.mk.injEq] at h;exact ⟨e,i,zv,hu,hi,hz,h.1,h.2.1,fun e=>by rw [←h.2.2] at e;exact of_decide_eq_true e⟩
   ·cases h
  ·cases h
 ·cases h
theorem indexS_ok {x i:Operand} {ev:Operand→AV} {u:AV} (hu:P.underlying t=some .string) (h:indexS (ev x) (ev i)=some u):evPure P (memL m::rd) ev (.index t x i) ty=some u:=by
 unfold indexS at h
 split at h
 ·rename_i s k j hx hi
  split at h
  ·rename_i hj
   cases h
   obtain ⟨n,rfl⟩:∃ n:Nat,j=n:=⟨j.toNat,by omega⟩;have hn:n<s.data.toList.length:=by
    have:s.size=s.data.toList.length:=by rw [Array.length_toList];rfl
    omega
   have e:s.data.toList[n]?=some (s.data.toList.getD n 0):=by rw [List.getD_eq_getElem?_getD,List.getElem?_eq_getElem hn];rfl
   have:evPure P (memL m::rd) ev (.index t x i) ty=evGround P ev (.index t x i) ty:=by
    simp only [evPure,hx]
   rw [this,evGround];have e2:fastG P ev (.index t x i)=some (.g (.int .u8 ((s.data.toList.getD n 0).toNat:Int))):=by
    simp only [fastG,hx,hi];show (match P.underlying t,s.data.toList[n]? with | some .string,some c=>some (AV.g (.int .u8 (.ofNat c.toNat))) | _,_=>none)=_;rw [hu,e];rfl
   rw [e2];rfl
  ·cases h
 ·cases h
theorem sliceS_ok {x:Operand} {ev:Operand→AV} {lo hi:Option Operand} {s:ByteArray} {u:AV} (hu:P.underlying t=some .string) (hx:ev x=.g (.string s)) (h:sliceS s (lo.map ev) (hi.map ev)=some u):evPure P (memL m::rd) ev (.slice t x lo hi none) ty=some u:=by
 have nat:∀ {o:Option AV} {d n:Nat},evInt o d=some n→natO o d=some n:=by
  intro o d n h;unfold evInt at h
  split at h
  ·exact h
  ·rename_i k j
   split at h
   ·rename_i hj
    cases h
    obtain ⟨n,rfl⟩:∃ n:Nat,j=n:=⟨j.toNat,by omega⟩
    rfl
   ·cases h
  ·cases h
 unfold sliceS at h
 split at h
 ·rename_i hh ll h1 h2
  split at h
  ·rename_i hc
   cases h
   have:evPure P (memL m::rd) ev (.slice t x lo hi none) ty=evGround P ev (.slice t x lo hi none) ty:=by
    simp only [evPure,hx]
   rw [this,evGround];have e2:fastG P ev (.slice t x lo hi none)=some (.g (.string (cutS s ll hh))):=by
    simp only [fastG,fastCutT,hx,hu,fastCut,nat h1,nat h2,Nat.ble_eq_true_of_le hc.1,Nat.ble_eq_true_of_le hc.2]
    rfl
   rw [e2]
  ·cases h
 ·cases h
theorem appL_ok {xt:TypeId} {s x:AV} (h:appL P rd m n t xt s x=some (v,m',n')):∃ mt,evAppend P rd (memL m) n t xt s x=some (some v,mt,n')∧MemEq mt m':=by
 unfold appL at h
 split at h
 ·rename_i sz bytes h1 h2
  obtain ⟨e,i,zv,hu,hi,hz,rfl,rfl,hzz⟩:=elemI_some h1;have hzz:=hzz rfl
  split at h
  ·rename_i news k hn
   unfold evAppend;simp only [hu,hi,h2,hz,hn]
   split at h
   ·rename_i hk
    rw [if_pos hk];unfold appZ at h
    split at h
    ·split at h
     ·cases h;exact ⟨_,by rw [if_pos (by rfl)],memEq _⟩
     ·cases h
    ·split at h
     ·rename_i hs;cases h;exact ⟨_,by rw [if_pos hs],memEq _⟩
     ·cases h
   ·rename_i hk
    rw [if_neg hk]
    split at h
    ·rename_i hc
     rw [if_pos ⟨hc.1,hc.2,hzz⟩]
     split at h
     ·split at h
      ·rename_i hb;cases h;exact ⟨_,by simp only [if_pos hb],Q2e (memEq _) _ _⟩
      ·cases h
     ·split at h
      ·rename_i hb;cases h;exact ⟨_,by simp only [if_pos hb],Q2e (memEq _) _ _⟩
      ·cases h
     ·rename_i b o c z kc
      split at h
      ·rename_i bc hg hr
       have hg':(memL m).get b=some (.cells bc):=(Q0d m b).trans hg;simp only [hg',hr]
       split at h
       ·rename_i hb;cases h;exact ⟨_,by rw [if_pos hb],Q2d (memEq _) _ _⟩
       ·rename_i hb
        split at h
        ·rename_i hb2;cases h;exact ⟨_,by rw [if_neg hb,if_pos hb2],Q2e (memEq_del (memEq _) _) _ _⟩
        ·cases h
      ·cases h
     ·cases h
    ·cases h
  ·cases h
 ·cases h
theorem idxA_ok {ms:List Mem} {ev:Operand→AV} {x i:Operand} {cs:List AV} {u:AV} (hx:ev x=.agg cs) (h:idxA P t cs (ev i)=some u):evPure P ms ev (.index t x i) ty=some u:=by
 unfold idxA at h
 split at h
 ·rename_i kd n hi
  split at h
  ·rename_i len sz e ha
   obtain ⟨inf,hu,hf,rfl⟩:=arrO_some ha;simp only [evPure,hx,hi,hu,hf,partL_eq];exact h
  ·cases h
 ·cases h
theorem fldA_ok {ms:List Mem} {ev:Operand→AV} {x:Operand} {f:Nat} {u:AV} (h:fldA P t f (ev x)=some u):evPure P ms ev (.field t x f) ty=some u:=by
 unfold fldA at h
 split at h
 ·rename_i cs hx
  split at h
  ·rename_i off ft hf
   unfold fldO at hf
   split at hf
   ·rename_i fs hu
    split at hf
    ·rename_i fd hfd
     split at hf
     ·rename_i i hi
      split at hf
      ·cases hf
      ·cases hf
       simp only [evPure,hx,hu,hfd,partL_eq];exact h
     ·cases hf
    ·cases hf
   ·cases hf
  ·cases h
 ·cases h
theorem convA_ok {ms:List Mem} {ev:Operand→AV} {x:Operand} {src dst:TypeId} {u:AV} (h:convA P src dst (ev x)=some u):evPure P ms ev (.convert src dst x) ty=some u:=by
 unfold convA at h
 split at h
 ·rename_i kd n hx
  split at h
  ·rename_i ks k h1 h2
   cases h
   have k1:∃ k1,P.underlying src=some (.int k1):=by
    unfold intK at h1
    split at h1
    ·rename_i k1 hu;exact ⟨k1,hu⟩
    ·cases h1
   have k2:P.underlying dst=some (.int k):=by
    unfold intK at h2
    split at h2
    ·rename_i k1 hu;cases h2;exact hu
    ·cases h2
   obtain ⟨k1,k1h⟩:=k1;have fast:∀ a,fastConv (some (.int k1)) (some (.int k)) (AV.g (.int kd n))=some a→a=.g (.int k (k.wrap n)):=by
    intro a ha
    cases n with
    | negSucc n=>simp [fastConv] at ha
    | ofNat n =>
      simp only [fastConv] at ha
      split at ha
      ·rename_i ks e1 e2
       simp only [Option.some.injEq,TypeDesc.int.injEq] at e2;subst e2
       split at ha
       ·rename_i hb;cases ha
        have:IntKind.i64.wrap (Int.ofNat n)=Int.ofNat n:=wrap_small _ (Int.natCast_nonneg _) (by have:=Nat.le_of_ble_eq_true hb;show (n:Int)<_;omega);rw [this]
       ·cases ha
      ·rename_i ks kd2 _ e1 e2
       simp only [Option.some.injEq,TypeDesc.int.injEq] at e2;subst e2
       split at ha
       ·rename_i hb;cases ha
        have hn':n<128:=Nat.le_of_ble_eq_true hb;have:k.wrap (Int.ofNat n)=Int.ofNat n:=by cases k <;> simp [IntKind.wrap,IntKind.bits,IntKind.signed] <;> omega
        rw [this]
       ·cases ha
      ·cases ha
   have e0:evPure P ms ev (.convert src dst x) ty=evGround P ev (.convert src dst x) ty:=by
    simp only [evPure,k1h,k2]
   rw [e0];unfold evGround
   split
   ·rename_i a ha
    have ha':fastConv (P.underlying src) (P.underlying dst) (ev x)=some a:=ha;rw [k1h,k2,hx] at ha';rw [fast a ha']
   ·simp [slowG,Op.operands,hx,toG,execOp,mkO,convert,Conv.intToInt,pv,avc,avc1,underlying,program,k1h,k2,pure,Pure.pure,bind,Bind.bind,Sem.bind]
  ·cases h
 ·cases h
theorem lookL_ok {x k:AV} {ok:Bool} {u:AV} (h:lookL P m t x k ok=some u):evLookup P (memL m::rd) t x k ok=some u:=by
 have key:∀ {es:List (Nat×AV×AV)} {clk:Nat},lookB P t k ok (some (.map es clk))=some u→entsOf (memL m::rd) x=some es→evLookup P (memL m::rd) t x k ok=some u:=by
  intro es clk h he;unfold lookB at h;unfold evLookup;simp only [he];exact h
 unfold lookL at h
 split at h
 ·rename_i b
  cases hg:getL m b with
  | none=>rw [hg] at h;cases h
  | some y =>
    rw [hg] at h
    cases y with
    | map es clk=>exact key h (by simp only [entsOf,Q0b ((Q0d m b).trans hg)])
    | _=>cases h
 ·exact key h rfl
 ·cases h
theorem msetL_ok {mm k x:AV} (h:msetL P m n t mm k x=some (v,m',n')):∃ mt,evMapSet P (memL m) n t mm k x=some (none,mt,n')∧v=.g undef∧MemEq mt m':=by
 unfold msetL at h
 split at h
 ·rename_i b
  split at h
  ·rename_i y hy
   cases h
   cases hg:getL m b with
   | none=>rw [hg] at hy;cases hy
   | some z =>
     rw [hg] at hy
     cases z with
     | map es clk =>
       unfold msetB at hy;simp only at hy
       split at hy
       ·rename_i kt et hu
        unfold evMapSet;simp only [hu,Q0d,hg]
        split at hy
        ·rename_i i v hf;cases hy;simp only [hf];exact ⟨_,rfl,trivial,Q2d (memEq _) _ _⟩
        ·rename_i hf;cases hy;simp only [hf];exact ⟨_,rfl,trivial,Q2d (memEq _) _ _⟩
        ·cases hy
       ·cases hy
     | _=>cases hy
  ·cases h
 ·cases h
theorem mentL_ok {mm k:AV} (h:mentL P m n t mm k=some (v,m',n')):∃ mt,evMapEntry P (memL m) n t mm k=some (some v,mt,n')∧MemEq mt m':=by
 unfold mentL at h
 split at h
 ·rename_i b
  split at h
  ·rename_i u y hy
   cases h
   cases hg:getL m b with
   | none=>rw [hg] at hy;cases hy
   | some z =>
     rw [hg] at hy
     cases z with
     | map es clk =>
       unfold mentB at hy;simp only at hy
       split at hy
       ·rename_i kt et hu
        unfold evMapEntry;simp only [hu,Q0d,hg]
        split at hy
        ·rename_i i v hf
         simp only [hf]
         split at hy
         ·rename_i e he;cases hy;simp only [he];exact ⟨_,rfl,Q2d (memEq _) _ _⟩
         ·cases hy
        ·rename_i hf
         simp only [hf]
         split at hy
         ·rename_i z hz;cases hy;simp only [hz];exact ⟨_,rfl,Q2d (memEq _) _ _⟩
         ·cases hy
        ·cases hy
       ·cases hy
     | _=>cases hy
  ·cases h
 ·cases h
theorem estL_ok {mm st x:AV} (h:estL m n mm st x=some (v,m',n')):∃ mt,evEntryStore (memL m) n mm st x=some (none,mt,n')∧v=.g undef∧MemEq mt m':=by
 unfold estL at h
 split at h
 ·rename_i b
  split at h
  ·rename_i y hy
   cases h
   cases hg:getL m b with
   | none=>rw [hg] at hy;cases hy
   | some z =>
     rw [hg] at hy
     cases z with
     | map es clk =>
       unfold estB at hy;simp only at hy
       split at hy
       ·rename_i kd k
        unfold evEntryStore;simp only [Q0d,hg]
        split at hy
        ·rename_i i hf;cases hy;simp only [hf];exact ⟨_,rfl,trivial,Q2d (memEq _) _ _⟩
        ·cases hy
       ·cases hy
     | _=>cases hy
  ·cases h
 ·cases h
theorem negA_ok {op:UnOp} {x:Operand} {ev:Operand→AV} {ms:List Mem} {u:AV} (h:negA op (ev x)=some u):evPure P ms ev (.unOp op t x) ty=some u:=by
 have e0:evPure P ms ev (.unOp op t x) ty=evGround P ev (.unOp op t x) ty:=rfl;rw [e0];unfold negA at h
 split at h
 ·rename_i k a hx
  cases h
  have e1:fastG P ev (.unOp .neg t x)=none:=rfl;rw [evGround,e1];simp [slowG,Op.operands,hx,toG,execOp,mkO,Op.unary,Op.intArith,pv,avc,avc1,pure,Pure.pure,bind,Bind.bind,Sem.bind]
 ·rename_i k a hx
  have e1:fastG P ev (.unOp .xor t x)=none:=rfl;rw [evGround,e1];unfold bitI at h;simp only [Option.some.injEq] at h;subst h;simp [slowG,Op.operands,hx,toG,execOp,mkO,Op.unary,Op.intBits,pv,avc,avc1,pure,Pure.pure,bind,Bind.bind,Sem.bind]
 ·cases h
theorem mnA_ok {x y:Operand} {ats:Array TypeId} {ev:Operand→AV} {ms:List Mem} {u:AV} (h:mnA (ev x) (ev y)=some u):evPure P ms ev (.call ⟨.builtin .min,#[x,y],ats⟩) ty=some u:=by
 have e0:evPure P ms ev (.call ⟨.builtin .min,#[x,y],ats⟩) ty=evGround P ev (.call ⟨.builtin .min,#[x,y],ats⟩) ty:=by
  simp only [evPure,evBuiltin]
 have e1:fastG P ev (.call ⟨.builtin .min,#[x,y],ats⟩)=none:=by simp only [fastG,fastCall]
 rw [e0,evGround,e1];unfold mnA at h
 split at h
 ·rename_i k a k' b hx hy
  split at h
  ·rename_i hk
   subst hk
   cases h
   simp [slowG,Op.operands,Call.operands,hx,hy,toG,execOp,mkO,resolve,invoke,builtin,Builtin.min_,Builtin.min2,List.foldlM,pv,avc,avc1,pure,Pure.pure,bind,Bind.bind,Sem.bind]
  ·cases h
 ·cases h
theorem mxA_ok {x y:Operand} {ats:Array TypeId} {ev:Operand→AV} {ms:List Mem} {u:AV} (h:mxA (ev x) (ev y)=some u):evPure P ms ev (.call ⟨.builtin .max,#[x,y],ats⟩) ty=some u:=by
 have e0:evPure P ms ev (.call ⟨.builtin .max,#[x,y],ats⟩) ty=evGround P ev (.call ⟨.builtin .max,#[x,y],ats⟩) ty:=by
  simp only [evPure,evBuiltin]
 have e1:fastG P ev (.call ⟨.builtin .max,#[x,y],ats⟩)=none:=by simp only [fastG,fastCall]
 rw [e0,evGround,e1];unfold mxA at h
 split at h
 ·rename_i k a k' b hx hy
  split at h
  ·rename_i hk
   subst hk
   cases h
   simp [slowG,Op.operands,Call.operands,hx,hy,toG,execOp,mkO,resolve,invoke,builtin,Builtin.max_,Builtin.max2,List.foldlM,pv,avc,avc1,pure,Pure.pure,bind,Bind.bind,Sem.bind]
  ·cases h
 ·cases h
theorem elemZ_eq {e:TypeId} {i:TypeInfo} {z:Value} (hu:P.underlying t=some (.slice e)) (hi:P.info? e=some i) (hz:i.zero=some z):elemZ P t=z.cells.toList:=by
 unfold elemZ;simp [hu,hi,hz]
theorem Q3b {o:Oper} (h:stepO P GT rd m n l o.op=some (v,m',n')):∃ av mt,evOne P GT ch rd (memL m) n (tmL l) o=some (.val av,mt,n')∧av.getD (.g undef)=v∧MemEq mt m':=by
 have viaMem:∀ {av:Option AV} {mt:Mem},(∀ c,o.op=.call c→∃ b,c.callee=.builtin b)→(∀ x,o.op≠.panic x)→evMem P rd (memL m) n (evL GT l) o.op o.type=some (av,mt,n')→av.getD (.g undef)=v→MemEq mt m' →
  ∃ av mt,evOne P GT ch rd (memL m) n (tmL l) o=some (.val av,mt,n')∧av.getD (.g undef)=v∧MemEq mt m':=by
  intro av mt hc hp he hv hm;refine ⟨av,mt,?_,hv,hm⟩;unfold evOne;rw [evL_eq]
  split
  ·rename_i c hop
   obtain ⟨b,hb⟩:=hc c hop;rw [hop] at he;simp only [hb,hop,he]
  ·rename_i x hop;exact absurd hop (hp x)
  ·rw [he]
 unfold stepO at h
 split at h
 case h_1 x hop=>cases h;exact viaMem (by simp [hop]) (by simp [hop]) (by rw [hop];rfl) rfl (memEq _)
 case h_2 x hop=>cases h;exact viaMem (by simp [hop]) (by simp [hop]) (by rw [hop];rfl) rfl (memEq _)
 case h_3 c a b hop =>
  split at h
  ·rename_i t hc;cases h;exact viaMem (av:=some _) (by simp [hop]) (by simp [hop]) (by rw [hop];simp only [evMem,evPure,hc];rfl) rfl (memEq _)
  ·cases h
 case h_4 op t x y yt hop =>
  split at h
  ·rename_i a ha;cases h;exact viaMem (av:=some _) (by simp [hop]) (by simp [hop]) (by rw [hop];simp only [evMem,evPure,binA_ok ha];rfl) rfl (memEq _)
  ·cases h
 case h_5 t x hop =>
  split at h
  ·rename_i b hb;cases h;exact viaMem (av:=some _) (by simp [hop]) (by simp [hop]) (by rw [hop];simp only [evMem,evPure,evGround,fastG,hb,fastNot];rfl) rfl (memEq _)
  ·cases h
 case h_6 op t x _ hop =>
  split at h
  ·rename_i u hu
   cases h
   have hl:=negA_ok (P:=P) (t:=t) (ty:=o.type) (ms:=memL m::rd) hu;exact viaMem (av:=some _) (by simp [hop]) (by simp [hop]) (by rw [hop];simp only [evMem,hl];rfl) rfl (memEq _)
  ·cases h
 case h_7 t a hop =>
  split at h
  ·rename_i u hu;cases h
   have hl:=loadL_ok (rd:=rd) hu;have hl2:evPure P (memL m::rd) (evL GT l) (.load t a) o.type=some v:=hl;exact viaMem (av:=some _) (by simp [hop]) (by simp [hop]) (by rw [hop];simp only [evMem,hl2];rfl) rfl (memEq _)
  ·cases h
 case h_8 t a x hop =>
  split at h
  ·rename_i sz hsz
   unfold storeL at h
   split at h
   ·rename_i b off ha
    split at h
    ·rename_i pc cs hpc hg
     split at h
     ·rename_i hc
      cases h
      obtain ⟨i,hi,hiz⟩:∃ i,P.info? t=some i∧i.size=sz:=by
       unfold szO at hsz
       cases hp:P.info? t with
       | none=>rw [hp] at hsz;cases hsz
       | some i=>rw [hp] at hsz;exact ⟨i,rfl,by simpa using hsz⟩
      have hg':(memL m).get b=some (.cells cs):=(Q0d m b).trans hg;refine viaMem (av:=none) (by simp [hop]) (by simp [hop]) (by rw [hop];simp only [evMem,evStore,ha,hpc,hi,hg'];rw [if_pos ⟨hc.1.trans hiz.symm,hc.2⟩]) rfl (Q2d (memEq _) _ _)
     ·cases h
    ·cases h
   ·cases h
  ·cases h
 case h_9 s x f hop =>
  split at h
  ·rename_i u hu;cases h;exact viaMem (av:=some _) (by simp [hop]) (by simp [hop]) (by rw [hop];simp only [evMem,fieldL_ok hu];rfl) rfl (memEq _)
  ·cases h
 case h_10 t x i hop =>
  split at h
  ·rename_i u hu;cases h;exact viaMem (av:=some _) (by simp [hop]) (by simp [hop]) (by rw [hop];simp only [evMem,indexL_ok hu];rfl) rfl (memEq _)
  ·cases h
 case h_11 x i hop =>
  split at h
  ·rename_i vs hx
   split at h
   ·rename_i u hu;cases h;exact viaMem (av:=some _) (by simp [hop]) (by simp [hop]) (by rw [hop];simp only [evMem,evPure,hx,hu];rfl) rfl (memEq _)
   ·cases h
  ·cases h
 case h_12 t hop =>
  split at h
  ·rename_i cs hz;cases h
   unfold zeroO at hz
   split at hz
   ·rename_i z hz2;cases hz;exact viaMem (av:=some _) (by simp [hop]) (by simp [hop]) (by rw [hop];simp only [evMem,hz2]) rfl (Q2e (memEq _) _ _)
   ·cases hz
  ·cases h
 case h_13 t x hop =>
  split at h
  ·rename_i cs hz;cases h;exact viaMem (av:=some _) (by simp [hop]) (by simp [hop]) (by rw [hop];simp only [evMem,hz]) rfl (Q2e (memEq _) _ _)
  ·cases h
 case h_14 x hop =>
  split at h
  ·rename_i b o hx;cases h;exact viaMem (av:=some _) (by simp [hop]) (by simp [hop]) (by rw [hop];simp only [evMem,evPure,hx];rfl) rfl (memEq _)
  ·rename_i b o hx;cases h;exact viaMem (av:=some _) (by simp [hop]) (by simp [hop]) (by rw [hop];simp only [evMem,evPure,hx];rfl) rfl (memEq _)
  ·rename_i b hx;cases h;exact viaMem (av:=some _) (by simp [hop]) (by simp [hop]) (by rw [hop];simp only [evMem,evPure,hx];rfl) rfl (memEq _)
  ·cases h
 case h_15 f a b hop=>cases h;exact viaMem (av:=some _) (by simp [hop]) (by simp [hop]) (by rw [hop];rfl) rfl (memEq _)
 case h_16 t parts hop =>
  split at h
  ·rename_i u hu;cases h;exact viaMem (av:=some _) (by simp [hop]) (by simp [hop]) (by rw [hop];simp only [evMem,hu]) rfl (memEq _)
  ·cases h
 case h_17 t len parts hop =>
  unfold buildSl at h
  split at h
  ·rename_i sz b z he
   obtain ⟨e,i,zv,hu,hi,hz,rfl,rfl,-⟩:=elemI_some he
   split at h
   ·rename_i hc
    split at h
    ·rename_i cs hf;cases h
     refine viaMem (av:=some _) (by simp [hop]) (by simp [hop]) (by rw [hop];simp only [evMem,hu,hi];rw [if_pos ⟨hc,by rw [hz];rfl⟩];simp only [hf]) rfl (Q2e (memEq _) _ _)
    ·cases h
   ·cases h
  ·cases h
 case h_18 t x i hop =>
  split at h
  ·rename_i cs hx
   split at h
   ·rename_i v hv;cases h
    have hp:=idxA_ok (ms:=memL m::rd) (ty:=o.type) hx hv;exact viaMem (av:=some _) (by simp [hop]) (by simp [hop]) (by rw [hop];simp only [evMem,hp];rfl) rfl (memEq _)
   ·cases h
  ·split at h
   ·rename_i v hu hv;cases h
    exact viaMem (av:=some _) (by simp [hop]) (by simp [hop]) (by rw [hop];simp only [evMem,indexS_ok hu hv];rfl) rfl (memEq _)
   ·cases h
 case h_19 t x lo hi mx hop =>
  split at h
  ·rename_i s hx
   split at h
   ·rename_i v hu hv;cases h
    have hl:=sliceS_ok (m:=m) (rd:=rd) (ty:=o.type) hu hx hv;exact viaMem (av:=some _) (by simp [hop]) (by simp [hop]) (by rw [hop];simp only [evMem,hl];rfl) rfl (memEq _)
   ·cases h
  ·cases h
  ·rename_i hxs hx
   split at h
   ·rename_i u hu;cases h
    refine viaMem (av:=some _) (by simp [hop]) (by simp [hop]) (by
     rw [hop];have:evPure P (memL m::rd) (evL GT l) (.slice t x lo hi mx) o.type=some v:=by
      show (match evL GT l x with | .g _=>evGround P (evL GT l) (.slice t x lo hi mx) o.type | x=>evSlice P (memL m::rd) t x (lo.map (evL GT l)) (hi.map (evL GT l)) (mx.map (evL GT l)))=some v
      split
      ·rename_i v' hv';exact absurd hv' (hx v')
      ·exact hu
     simp only [evMem,this];rfl) rfl (memEq _)
   ·cases h
 case h_20 c hop =>
  obtain ⟨cal,args,ats⟩:=c;simp only at h
  split at h
  ·rename_i x t
   split at h
   ·rename_i u hu;cases h;exact viaMem (av:=some _) (by simp [hop]) (by simp [hop]) (by rw [hop];simp only [evMem,lenL_ok hu];rfl) rfl (memEq _)
   ·cases h
  ·rename_i s x t xt
   obtain ⟨mt,h1,h2⟩:=appL_ok h;exact viaMem (av:=some _) (by simp [hop]) (by simp [hop]) (by rw [hop];simp only [evMem,h1]) rfl h2
  ·rename_i s t
   unfold clearL at h
   split at h
   ·rename_i b o k sz kc hs
    split at h
    ·rename_i sz' by' cs he hg
     obtain ⟨e,i,zv,hu,hi,hz,rfl,rfl,hzz⟩:=elemI_some he
     split at h
     ·rename_i hc
      cases h
      obtain ⟨c1,c2,c3,c4,c5⟩:=hc;subst c1;have ez:=elemZ_eq hu hi hz;have hg':(memL m).get b=some (.cells cs):=(Q0d m b).trans hg;have hb:(P.info? e).bind (·.zero)=some zv:=by rw [hi];exact hz
      refine viaMem (av:=some (.g (.tuple #[]))) (mt:=Mem.set (memL m) b (.cells (putA cs o (zerosA (elemZ P t) k)))) (by simp [hop]) (by simp [hop]) ?_ rfl (Q2d (memEq _) _ _);rw [hop,ez];rw [ez] at c5;simp only [evMem,evClear,hu,hs,hb,hg'];rw [if_pos ⟨c2,c3,hzz rfl,c4,c5⟩]
     ·cases h
    ·cases h
   ·cases h
  ·split at h
   ·rename_i u hu;cases h;exact viaMem (av:=some _) (by simp [hop]) (by simp [hop]) (by rw [hop];simp only [evMem,mnA_ok hu];rfl) rfl (memEq _)
   ·cases h
  ·split at h
   ·rename_i u hu;cases h;exact viaMem (av:=some _) (by simp [hop]) (by simp [hop]) (by rw [hop];simp only [evMem,mxA_ok hu];rfl) rfl (memEq _)
   ·cases h
  ·cases h
 case h_21 t x f hop =>
  split at h
  ·rename_i u hu;cases h
   have hl:=fldA_ok (ms:=memL m::rd) (ty:=o.type) hu;exact viaMem (av:=some _) (by simp [hop]) (by simp [hop]) (by rw [hop];simp only [evMem,hl];rfl) rfl (memEq _)
  ·cases h
 case h_22 src dst x hop =>
  split at h
  ·rename_i u hu;cases h
   have hl:=convA_ok (ms:=memL m::rd) (ty:=o.type) hu;obtain ⟨kd,k,hx⟩:∃ kd k,evL GT l x=.g (.int kd k):=by
    unfold convA at hu
    split at hu
    ·rename_i kd k hx;exact ⟨kd,k,hx⟩
    ·cases hu
   exact viaMem (av:=some _) (by simp [hop]) (by simp [hop]) (by rw [hop];simp only [evMem,hl,hx];split <;> first | rfl | (rename_i h;cases h)) rfl (memEq _)
  ·cases h
 case h_23 t x k ok hop =>
  split at h
  ·rename_i u hu;cases h
   have hl:=lookL_ok (rd:=rd) hu;have hl2:evPure P (memL m::rd) (evL GT l) (.lookup t x k ok) o.type=some v:=hl;exact viaMem (av:=some _) (by simp [hop]) (by simp [hop]) (by rw [hop];simp only [evMem,hl2];rfl) rfl (memEq _)
  ·cases h
 case h_24 t hop=>cases h;exact viaMem (av:=some _) (by simp [hop]) (by simp [hop]) (by rw [hop];rfl) rfl (Q2e (memEq _) _ _)
 case h_25 t mm k x hop =>
  obtain ⟨mt,h1,h2,h3⟩:=msetL_ok h;exact viaMem (av:=none) (by simp [hop]) (by simp [hop]) (by rw [hop];simp only [evMem,h1]) h2.symm h3
 case h_26 t mm k hop =>
  obtain ⟨mt,h1,h3⟩:=mentL_ok h;exact viaMem (av:=some _) (by simp [hop]) (by simp [hop]) (by rw [hop];simp only [evMem,h1]) rfl h3
 case h_27 t mm st x hop =>
  obtain ⟨mt,h1,h2,h3⟩:=estL_ok h;exact viaMem (av:=none) (by simp [hop]) (by simp [hop]) (by rw [hop];simp only [evMem,h1]) h2.symm h3
 case h_28 t a c hop =>
  unfold makeL at h
  split at h
  ·rename_i ka a' kc c' ha hc
   split at h
   ·rename_i sz bytes he
    obtain ⟨e,i,zv,hu,hi,hz,rfl,rfl,hzz⟩:=elemI_some he
    split at h
    ·rename_i hb
     cases h
     have ez:=elemZ_eq hu hi hz;refine viaMem (av:=some _) (mt:=Mem.put (memL m) n (.cells (zerosA (elemZ P t) a'.toNat))) (by simp [hop]) (by simp [hop]) (by rw [hop,ez];simp only [evMem,ha,hc,hu,hi,hz];rw [if_pos ⟨hb.1,hb.2.1,hb.2.2.1,hzz rfl,hb.2.2.2⟩]) rfl (Q2e (memEq _) _ _)
    ·cases h
   ·cases h
  ·cases h
 case h_29 t x hop =>
  split at h
  ·rename_i s hu hx
   cases h
   exact viaMem (av:=some _) (by simp [hop]) (by simp [hop]) (by rw [hop];simp only [evMem,hu,hx]) rfl (Q2e (memEq _) _ _)
  ·cases h
 case h_30 it isS hop =>
  split at h
  ·rename_i b hx
   cases hg:getL m b with
   | none=>rw [hg] at h;cases h
   | some k =>
     rw [hg] at h;unfold nextS at h
     split at h
     ·rename_i s pos hk
      cases hk
      have hg':(memL m).get b=some (.sit s pos):=(Q0d m b).trans hg
      split at h
      ·rename_i hp
       cases h
       have hb:Nat.blt pos s.size=true:=Nat.ble_eq_true_of_le hp;exact viaMem (av:=some _) (by simp [hop]) (by simp [hop]) (by rw [hop];simp only [evMem,hx,hg',hb]) rfl (Q2d (memEq _) _ _)
      ·rename_i hp
       cases h
       have hb:Nat.blt pos s.size=false:=by
        rw [←Bool.not_eq_true];intro e;exact hp (Nat.le_of_ble_eq_true e)
       exact viaMem (av:=some _) (by simp [hop]) (by simp [hop]) (by rw [hop];simp only [evMem,hx,hg',hb]) rfl (memEq _)
     ·cases h
  ·cases h
 case h_31=>cases h
end
section
variable {P:Program} {GT:GTab} {base:Nat} {F:Nat→Prop} {rd:List Mem} {ops:Array Oper}
theorem recs_sound {D:List Deferred} {s0 s':St} {recs:List Rec} {a0:Act} {w0:World} {G0:Gh} (hst:statOk ops=true) (hrlen:recs.length=ops.size) (hs':s'=foldS (fun _=>true) 0 recs s0)
 (hok:∀ (j:Nat) (o:Oper),ops[j]?=some o→∃ r ch,ChOk P GT ch∧recs[j]?=some r∧RecOk P GT ch rd ops (befs ops.toList []) (recs.take j) j o (foldS (fun i=>decide (i<j)) 0 recs s0) r)
 (hm0:MR base GT F rd s0.cur s0.nx w0 G0) (ht0:TmR w0 G0 s0.tm a0.tmps) (hd0:a0.defers=D) (hF:∀ b,s0.nx≤b→b<s'.nx→F b) :
 wpAny P .any ops (fun e a' w'=>Aft base GT F rd D s0 w0 G0 .nrm s' e a' w') ops.size (Array.replicate ops.size false) a0 w0:=by
 generalize hB:befs ops.toList []=B at *;have hor:∀ (j:Nat) (r:Rec),recs[j]?=some r→∃ o ch,ops[j]?=some o∧RecOk P GT ch rd ops B (recs.take j) j o (foldS (fun i=>decide (i<j)) 0 recs s0) r:=by
  intro j r hr;have hlt:=(List.getElem?_eq_some_iff.1 hr).1;have ho:ops[j]?=some (ops[j]'(by omega)):=by simp
  obtain ⟨r',ch,-,h1,h2⟩:=hok j _ ho;rw [hr] at h1;cases h1;exact ⟨_,ch,ho,h2⟩
 have hnxstep:∀ (j:Nat) (r:Rec),recs[j]?=some r→(foldS (fun i=>decide (i<j+1)) 0 recs s0).nx=r.nx'∧(foldS (fun i=>decide (i<j)) 0 recs s0).nx=r.nx:=by
  intro j r hr;obtain ⟨o,_,ho,hk⟩:=hor j r hr;refine ⟨?_,hk.nx.symm⟩;have hlt:=(List.getElem?_eq_some_iff.1 hr).1;obtain ⟨_,hrj⟩:=List.getElem?_eq_some_iff.1 hr;have hsplit:recs=recs.take j++r::recs.drop (j+1):=by
   rw [←hrj,←List.drop_eq_getElem_cons hlt,List.take_append_drop]
  have hl:(recs.take j).length=j:=by simp;omega
  rw [hsplit,Q0w];simp only [foldS,hl,Nat.zero_add];rw [if_pos (by simp)];have hn:∀ (rs:List Rec) (i:Nat) (s:St),j+1≤i→foldS (fun i=>decide (i<j+1)) i rs s=s:=by
   intro rs
   induction rs with
   | nil=>intro i s _;rfl
   | cons q rs ih=>intro i s hi;simp only [foldS];rw [if_neg (by simp;omega)];exact ih _ _ (by omega)
  rw [hn _ _ _ (Nat.le_refl _)];rfl
 have hnx0:(foldS (fun i=>decide (i<0)) 0 recs s0).nx=s0.nx:=by
  have:∀ (rs:List Rec) (i:Nat) (s:St),foldS (fun i=>decide (i<0)) i rs s=s:=by
   intro rs
   induction rs with
   | nil=>intro i s;rfl
   | cons q rs ih=>intro i s;simp only [foldS];rw [if_neg (by simp)];exact ih _ _
  rw [this]
 have hmonoS:∀ j d,j+d≤recs.length→(foldS (fun i=>decide (i<j)) 0 recs s0).nx≤(foldS (fun i=>decide (i<j+d)) 0 recs s0).nx:=by
  intro j d
  induction d with
  | zero=>intro _;exact Nat.le_refl _
  | succ d ih =>
    intro hle;have h1:=ih (by omega);have hr:recs[j+d]?=some (recs[j+d]'(by omega)):=by simp
    obtain ⟨h2,h3⟩:=hnxstep _ _ hr;obtain ⟨o,_,_,hk⟩:=hor _ _ hr;have:=hk.le;rw [show j+(d+1)=j+d+1 by omega,h2];omega
 have hs'n:s'.nx=(foldS (fun i=>decide (i<recs.length)) 0 recs s0).nx:=by
  rw [hs'];rw [Q1q (S:=fun _=>true) (S':=fun i=>decide (i<recs.length)) (fun m hm=>by simp;omega)]
 have hnxlt:∀ (i j:Nat) (q r:Rec),i<j→recs[i]?=some q→recs[j]?=some r→q.nx'≤r.nx:=by
  intro i j q r hij hq hr;have h1:=(hnxstep i q hq).1;have h2:=(hnxstep j r hr).2;have hlt:=(List.getElem?_eq_some_iff.1 hr).1;have:=hmonoS (i+1) (j - (i+1)) (by omega);rw [show i+1+(j - (i+1))=j by omega] at this;omega
 have hnxle:∀ (j:Nat) (r:Rec),recs[j]?=some r→s0.nx≤r.nx∧r.nx'≤s'.nx:=by
  intro j r hr;have hlt:=(List.getElem?_eq_some_iff.1 hr).1;have h1:=(hnxstep j r hr).1;have h2:=(hnxstep j r hr).2;have h3:=hmonoS 0 j (by omega);have h4:=hmonoS (j+1) (recs.length - (j+1)) (by omega);rw [show j+1+(recs.length - (j+1))=recs.length by omega] at h4;rw [Nat.zero_add] at h3;omega
 have main : ∀ (c fuel:Nat) (listed:Array Bool) (a:Act) (w:World) (G:Gh),listed.size=ops.size→countL listed ops.size=c→c≤fuel→(∀ i j,listed.getD j false=true→bef B j i=true→listed.getD i false=true) →
  Stp base GT (fun b=>s'.nx≤b∧F b) rd s0.cur s0.nx w0 G0 (foldS (fun i=>listed.getD i false) 0 recs s0).cur s0.nx w G→TmR w G (foldS (fun i=>listed.getD i false) 0 recs s0).tm a.tmps→a.defers=D →
  (∀ (j:Nat) (r:Rec),recs[j]?=some r→listed.getD j false=false→∀ b,r.nx≤b→b<r.nx'→G.μ b=none) →
  wpAny P .any ops (fun e a' w'=>Aft base GT F rd D s0 w0 G0 .nrm s' e a' w') fuel listed a w:=by
  intro c
  induction c with
  | zero =>
    intro fuel listed a w G hsz hc _ _ hstp htm hd _;have hall:=Q4h hc;have hr:Region.ready .any ops listed=[]:=by
     apply List.eq_nil_iff_forall_not_mem.2;intro j hj;obtain ⟨h1,o,h2,_⟩:=mem_ready.1 hj;have hlt:=(Array.getElem?_eq_some_iff.1 h2).1;have:=hall j hlt;have hj2:j<listed.size:=by omega
     simp [Array.getD_eq_getD_getElem?,hj2] at h1 this;rw [this] at h1;cases h1
    refine wpAny_done hr ?_ fuel;have hsame:foldS (fun i=>listed.getD i false) 0 recs s0=s':=by
     rw [hs'];exact Q1q fun m hm=>by rw [Nat.zero_add];exact hall m (by omega)
    rw [hsame] at hstp htm;refine ⟨G,rfl,?_,fun _=>htm,hd⟩;have hle:s0.nx≤s'.nx:=by rw [hs'n,←hnx0];have:=hmonoS 0 recs.length (by omega);rwa [Nat.zero_add] at this
    have hmm:=hstp.mr
    exact { hstp with
     mr:={ fresh:=fun b hb hFb=>hmm.fresh b (by omega) ⟨hb,hFb⟩,blk:=hmm.blk,inj:=hmm.inj,imm:=hmm.imm,base:=hmm.base,gt:=hmm.gt,dj:=hmm.dj }
     nx:=hle }
  | succ c ih =>
    intro fuel listed a w G hsz hc hfu hcl hstp htm hd hun
    cases fuel with
    | zero=>omega
    | succ fuel =>
      refine ⟨fun hrn=>?_,fun k hk=>?_⟩
      ·
        exfalso;have hex:∀ n,countL listed n≠0→∃ j,j<n∧listed.getD j false=false∧∀ i,i<j→listed.getD i false=true:=by
         intro n
         induction n with
         | zero=>intro h;exact absurd rfl h
         | succ n ihn =>
           intro h
           by_cases h0:countL listed n=0
           ·have h1:=Q4h h0
            simp only [countL,h0,Nat.zero_add] at h
            cases hcn:listed.getD n false with
            | true=>rw [hcn] at h;simp at h
            | false=>exact ⟨n,by omega,hcn,h1⟩
           ·obtain ⟨j,h1,h2,h3⟩:=ihn h0
            exact ⟨j,by omega,h2,h3⟩
        obtain ⟨j,hj,hj2,hj3⟩:=hex ops.size (by omega);have ho:ops[j]?=some ops[j]:=by simp
        have hmem:j∈Region.ready .any ops listed:=by
         rw [mem_ready];refine ⟨?_,_,ho,fun e he hb=>hj3 _ ((Q1j hst ho).1 e he hb)⟩;have hj4:j<listed.size:=by omega
         simp [Array.getD_eq_getD_getElem?,hj4] at hj2 ⊢;exact hj2
        rw [hrn] at hmem;cases hmem
      ·obtain ⟨hkt,o,ho,hedges⟩:=mem_ready.1 hk
       have hklt:=(Array.getElem?_eq_some_iff.1 ho).1;have hkl:k<listed.size:=by omega
       have hkf:listed.getD k false=false:=by simp [Array.getD_eq_getD_getElem?,hkl] at hkt ⊢;exact hkt
       obtain ⟨r,ch,hch,hr,hk'⟩:=hok k o ho;have hbk:∀ i,bef B k i=true→listed.getD i false=true:=by
        intro i hb;rw [←hB] at hb;obtain ⟨o',h1,e,h2,h3,h4⟩:=bef_edge hb;rw [ho] at h1;cases h1;have h5:=hedges e h2 h3;rcases h4 with rfl | ⟨_,h4⟩
        ·exact h5
        ·rw [hB] at h4;exact hcl _ _ h5 h4
       have hafter:∀ j,listed.getD j false=true→bef B j k=false:=by
        intro j hj
        cases hb:bef B j k with
        | false=>rfl
        | true=>rw [hcl k j hj hb] at hkf;cases hkf
       have htmk:∀ t∈namesO ops o,(foldS (fun i=>decide (i<k)) 0 recs s0).tm.get t=(foldS (fun i=>listed.getD i false) 0 recs s0).tm.get t:=by
        intro t htn;refine Q2k (fun m q hq hqd=>?_) rfl;rw [Nat.zero_add];obtain ⟨p,_,hp,hq'⟩:=hor m q hq;rw [hq'.dst] at hqd
        by_cases hmk:m<k
        ·rcases (Q1j hst ho).2 m p hmk hp with h1 | ⟨h1,_⟩
         ·rw [hB] at h1;rw [hbk m h1];simp [hmk]
         ·exact absurd htn (h1 t hqd)
        ·by_cases hmk2:m=k
         ·subst hmk2;rw [hkf];simp
         ·have:listed.getD m false=false:=by
           cases hlm:listed.getD m false with
           | false=>rfl
           | true =>
             rcases (Q1j hst hp).2 k o (by omega) ho with h1 | ⟨_,h1⟩
             ·rw [hB,hafter m hlm] at h1;cases h1
             ·exact absurd htn (h1 t hqd)
          rw [this];simp;omega
       have hpost_tm:∀ (t:Tmp),r.dst=some t→∀ (j:Nat) (q:Rec),k<j→recs[j]?=some q→listed.getD j false=true→q.dst≠some t:=by
        intro t ht j q hkj hq hlj hqd;obtain ⟨p,_,hp,hq'⟩:=hor j q hq;rw [hq'.dst] at hqd;rw [hk'.dst] at ht;rcases (Q1j hst hp).2 k o hkj ho with h1 | ⟨_,h1⟩
        ·rw [hB,hafter j hlj] at h1;cases h1
        ·exact h1 t hqd (by unfold namesO;rw [ht];simp)
       have hset:∀ i,(listed.setIfInBounds k true).getD i false=(listed.getD i false||i==k):=by
        intro i
        by_cases hik:k=i
        ·subst hik;simp [Array.getD_eq_getD_getElem?,hkl]
        ·rw [show (i==k)=false by simp;omega]
         simp [Array.getD_eq_getD_getElem?,Array.getElem?_setIfInBounds_ne hik]
       have hsetf:(fun i=>(listed.setIfInBounds k true).getD i false)=fun i=>listed.getD i false||i==k:=funext hset
       have hcount:countL (listed.setIfInBounds k true) ops.size=c:=by
        rw [countL_set hkt,if_pos hklt];omega
       have hclosed:∀ i j,(listed.setIfInBounds k true).getD j false=true→bef B j i=true→(listed.setIfInBounds k true).getD i false=true:=by
        intro i j hj hb;rw [hset] at hj ⊢;simp only [Bool.or_eq_true,beq_iff_eq] at hj ⊢;rcases hj with hj | rfl
        ·exact .inl (hcl i j hj hb)
        ·exact .inl (hbk i hb)
       have hcurk:∀ b,r.U b=true→(foldS (fun i=>decide (i<k)) 0 recs s0).cur.get b=(foldS (fun i=>listed.getD i false) 0 recs s0).cur.get b:=by
        intro b hb;refine Q4d (fun m q hq hqt=>?_) rfl;rw [Nat.zero_add];obtain ⟨p,_,hp,hq'⟩:=hor m q hq;have hqt':b∈q.W∨(q.nx≤b∧b<q.nx'):=by
         rcases hqt with h1 | h1
         ·exact .inl h1
         ·cases hqc:q.cur'.get b with
          | none=>exact absurd hqc h1
          | some x=>exact hq'.ids b x hqc
        by_cases hmk:m<k
        ·rcases hk'.clash m q (by rw [List.getElem?_take,if_pos hmk];exact hq) with h1 | ⟨h1,_⟩
         ·rw [hbk m h1];simp [hmk]
         ·obtain ⟨h2,h3⟩:=h1 b hb
          rcases hqt' with h4 | h4
          ·exact absurd h4 h2
          ·exact absurd h4 h3
        ·by_cases hmk2:m=k
         ·subst hmk2;rw [hkf];simp
         ·have:listed.getD m false=false:=by
           cases hlm:listed.getD m false with
           | false=>rfl
           | true =>
             rcases hqt' with h4 | h4
             ·rcases hq'.clash k r (by rw [List.getElem?_take,if_pos (by omega)];exact hr) with h1 | ⟨_,h1⟩
              ·rw [hafter m hlm] at h1;cases h1
              ·rw [h1 b h4] at hb;cases hb
             ·have:=hk'.ult b hb
              have:=hnxlt k m r q (by omega) hr hq;have:=hk'.le;omega
          rw [this];simp;omega
       have hpost_cur:∀ b,touches r b→∀ (j:Nat) (q:Rec),k<j→recs[j]?=some q→listed.getD j false=true→¬touches q b:=by
        intro b hbt j q hkj hq hlj hqt;obtain ⟨p,_,hp,hq'⟩:=hor j q hq;have hord:=hq'.clash k r (by rw [List.getElem?_take,if_pos hkj];exact hr);have hbt':b∈r.W∨(r.nx≤b∧b<r.nx'):=by
         rcases hbt with h1 | h1
         ·exact .inl h1
         ·cases hqc:r.cur'.get b with
          | none=>exact absurd hqc h1
          | some x=>exact hk'.ids b x hqc
        have hqt':b∈q.W∨(q.nx≤b∧b<q.nx'):=by
         rcases hqt with h1 | h1
         ·exact .inl h1
         ·cases hqc:q.cur'.get b with
          | none=>exact absurd hqc h1
          | some x=>exact hq'.ids b x hqc
        have hkn:=hnxlt k j r q hkj hr hq;rcases hord with h1 | ⟨h1,h2⟩
        ·rw [hafter j hlj] at h1;cases h1
        ·rcases hbt' with h3 | h3 <;> rcases hqt' with h4 | h4
         ·have:=h2 b h4;rw [hk'.wu b h3] at this;cases this
         ·have:=hk'.ult b (hk'.wu b h3);have:=hk'.le;omega
         ·exact (h1 b (hq'.wu b h4)).2 h3
         ·omega
       unfold wpOp;rw [ho];simp only
       have hwc:wantA ops o (foldS (fun i=>listed.getD i false) 0 recs s0).tm=wantA ops o (foldS (fun i=>decide (i<k)) 0 recs s0).tm :=
        Q3t fun t ht=>(htmk t (List.mem_append.2 (.inr ht))).symm
       rcases hk'.run with ⟨_,hw,hout,hc0,hW0,_⟩ | ⟨_,hw,v,hev,hout⟩
       ·rw [Q1i htm (by rw [hwc];exact hw),if_neg (by simp)]
        refine ih fuel (listed.setIfInBounds k true) (a.put o.dst undef) w G (by simpa using hsz) hcount (by omega) hclosed ?_ ?_ (by rw [put_defers];exact hd) ?_
        ·rw [hsetf]
         have hgeq:∀ b,(foldS (fun i=>listed.getD i false||i==k) 0 recs s0).cur.get b=(foldS (fun i=>listed.getD i false) 0 recs s0).cur.get b:=by
          intro b;rw [Q2o hr hkf b (fun hbt j q h1 h2 h3=>hpost_cur b hbt j q h1 h2 h3),hc0,hW0];simp [Tri.get_e]
         exact hstp.trans (Stp.forget hstp.mr (fun b x hb=>by rw [Q0c,hgeq] at hb;rw [Q0c];exact hb) (fun b x hb=>by rw [hgeq] at hb;exact hb) (Nat.le_refl _))
        ·rw [hsetf]
         refine TmR.ext ?_ (Q3j hr hkf (fun t ht j q h1 h2 h3=>hpost_tm t ht j q h1 h2 h3));rw [hout,hk'.dst];exact Q1g (x:=.g undef) (v:=undef) htm rfl _
        ·intro j q hq hlj
         rw [hset] at hlj;simp only [Bool.or_eq_false_iff] at hlj;exact hun j q hq hlj.1
       ·rw [Q1i htm (by rw [hwc];exact hw),if_pos rfl]
        refine .inl ?_;have hev':evOne P GT ch r.rdl r.curl r.nx (foldS (fun i=>listed.getD i false) 0 recs s0).tm o=some (.val v,r.cur',r.nx'):=by
         rw [←hev];refine Q2x fun t ht=>?_;have:=htmk t (by unfold namesO;rw [List.mem_append];right;unfold Oper.looksAt;rw [List.mem_append];left;rw [List.mem_filterMap];exact ⟨.tmp t,by simpa using ht,rfl⟩);exact getA_congr this.symm
        have hmS:=hstp.mr;have hcurl:∀ b x,r.curl.get b=some x→(foldS (fun i=>listed.getD i false) 0 recs s0).cur.get b=some x:=by
         intro b x hb;obtain ⟨h1,h2⟩:=hk'.curl b x hb;rw [←hcurk b (hk'.wu b h1)];exact h2
        have hsub:∀ b x,getR (r.curl::r.rdl) b=some x→getR ((foldS (fun i=>listed.getD i false) 0 recs s0).cur::rd) b=some x:=by
         intro b x hb;rcases hk'.rdl b x hb with ⟨h1,h2⟩ | h1
         ·rw [Q0c,←hcurk b h1,←Q0c];exact h2
         ·rw [Q0c]
          cases hmc:(foldS (fun i=>listed.getD i false) 0 recs s0).cur.get b with
          | none=>simpa using h1
          | some y=>rw [hmS.dj b y hmc] at h1;cases h1
        have hml:MR base GT (fun b=>G.μ b=none) r.rdl r.curl r.nx w G :=
         { fresh:=fun b _ hb=>hb,blk:=fun b x hb=>hmS.blk b x (hsub b x hb),inj:=fun b b' x x' rb ro ro' h1 h2 h3 h4=>hmS.inj b b' x x' rb ro ro' (hsub _ _ h1) (hsub _ _ h2) h3 h4
           imm:=hmS.imm,base:=hmS.base,gt:=hmS.gt,dj:=fun b x hb=>hk'.dj b x hb (hmS.dj b x (hcurl b x hb)) }
        refine Q2w hch hml htm hev' (fun b h1 h2=>hun k r hr hkf b h1 h2) (fun av u w' G' hrv hs hv=>?_) (fun av u w' G' hrv _ _=>by cases hrv)
        cases hrv
        have hlift:Stp base GT (fun b=>s'.nx≤b∧F b) rd (foldS (fun i=>listed.getD i false) 0 recs s0).cur s0.nx w G (foldS (fun i=>(listed.setIfInBounds k true).getD i false) 0 recs s0).cur s0.nx w' G':=by
         have hn1:=hnxle k r hr;refine Stp.lift (Wr:=fun b=>b∈r.W) hmS hs hcurl (fun b x hb=>(hk'.curl b x hb).1) (fun b x hb=>?_) (fun b hb hFb=>?_) hn1.1 (fun b x hb=>?_)
         ·rw [hsetf,Q2o hr hkf b (fun hbt j q h1 h2 h3=>hpost_cur b hbt j q h1 h2 h3)] at hb
          cases hc1:r.cur'.get b with
          | some y=>rw [hc1] at hb;left;simpa using hb
          | none =>
            rw [hc1,Option.none_or] at hb
            right
            by_cases hbw:b∈r.W
            ·rw [if_pos hbw] at hb;cases hb
            ·rw [if_neg hbw] at hb;exact ⟨rfl,hbw,hb⟩
         ·exact hs.mr.fresh b (by omega) (hmS.fresh b hb hFb)
         ·rcases hk'.ids b x hb with h1 | h1
          ·exact .inl (hk'.wcur b h1)
          ·exact .inr (hun k r hr hkf b h1.1 h1.2)
        refine ih fuel (listed.setIfInBounds k true) (a.put o.dst u) w' G' (by simpa using hsz) hcount (by omega) hclosed (hstp.trans hlift) ?_ (by rw [put_defers];exact hd) ?_
        ·rw [hsetf]
         refine TmR.ext ?_ (Q3j hr hkf (fun t ht j q h1 h2 h3=>hpost_tm t ht j q h1 h2 h3));rw [hout,hk'.dst];exact Q1g (TmR.mono hs.ext htm) hv _
        ·intro j q hq hlj b hb1 hb2
         rw [hset] at hlj;simp only [Bool.or_eq_false_iff,beq_eq_false_iff_ne] at hlj;have hnone:=hun j q hq hlj.1 b hb1 hb2
         by_cases hge:r.nx'≤b
         ·exact hs.mr.fresh b hge hnone
         ·have hlt:b<r.nx:=by
           rcases Nat.lt_or_ge j k with hjk | hjk
           ·have:=hnxlt j k q r hjk hq hr;omega
           ·have:=hnxlt k j r q (by omega) hr hq;omega
          cases hgb:G'.μ b with
          | none=>rfl
          | some x =>
            rcases hs.mus b x hgb with h1 | h1
            ·rw [hnone] at h1;cases h1
            ·omega
 have hrep:∀ i,(Array.replicate ops.size false).getD i false=false:=by
  intro i;simp only [Array.getD_eq_getD_getElem?,Array.getElem?_replicate]
  split <;> rfl
 have hfold0:foldS (fun i=>(Array.replicate ops.size false).getD i false) 0 recs s0=s0:=by
  have:∀ (rs:List Rec) (i:Nat) (s:St),foldS (fun i=>(Array.replicate ops.size false).getD i false) i rs s=s:=by
   intro rs
   induction rs with
   | nil=>intro i s;rfl
   | cons q rs ih=>intro i s;simp only [foldS];rw [if_neg (by rw [hrep];simp)];exact ih _ _
  exact this _ _ _
 have hcnt:countL (Array.replicate ops.size false) ops.size≤ops.size:=by
  have:∀ n,countL (Array.replicate ops.size false) n≤n:=by
   intro n
   induction n with
   | zero=>simp [countL]
   | succ n ih=>simp only [countL];split <;> omega
  exact this _
 refine main _ ops.size (Array.replicate ops.size false) a0 w0 G0 (by simp) rfl hcnt (fun i j hj _=>by rw [hrep] at hj;cases hj) ?_ ?_ hd0 (fun j r hr _ b h1 h2=>?_)
 ·rw [hfold0]
  exact Stp.refl { fresh:=fun b hb hFb=>hm0.fresh b hb hFb.2,blk:=hm0.blk,inj:=hm0.inj,imm:=hm0.imm,base:=hm0.base,gt:=hm0.gt,dj:=hm0.dj }
 ·rw [hfold0];exact ht0
 ·have:=hnxle j r hr
  exact hm0.fresh b (by omega) (hF b (by omega) (by omega))
end
end Go.Ev
end
