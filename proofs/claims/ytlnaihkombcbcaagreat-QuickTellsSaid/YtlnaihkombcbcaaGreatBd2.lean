/- quick.keys: by walks over shapes. -/
import Derived.Test.YtlnaihkombcbcaaGreatBd1
import Derived.Test.YtlnaihkombcbcaaGreatBc7
import Derived.Sort.OwnSorted
set_option linter.unusedSimpArgs false
noncomputable section
namespace Go.Proofs.YtlnaihkombcbcaaGreat
open Go.RowKit Go.Ev
attribute [local go_sem] eq_self false_and and_false Bool.false_eq_true List.set_cons_succ List.set_cons_zero List.getD_cons_succ List.getD_cons_zero List.getElem?_cons_succ List.getElem?_cons_zero true_and and_true and_self Bool.not_true Bool.not_false Nat.add_zero Nat.zero_add Nat.mul_one Int.toNat_natCast Int.natCast_nonneg Int.ofNat_lt Option.bind_some Option.map_some List.map_cons List.map_nil decide_true decide_false BEq.rfl Bool.and_self Bool.and_true Bool.and_false beq_self_eq_true List.cons_append List.nil_append List.take_zero List.take_succ_cons List.take_nil List.drop_succ_cons List.drop_zero List.drop_nil List.append_nil List.length_cons List.length_nil List.all_cons List.all_nil Nat.le_refl Int.le_refl Option.map_none List.replicate_zero List.replicate_succ Nat.zero_mul Nat.sub_zero Nat.zero_le Nat.le_zero_eq getR_nil Option.some_or Option.none_or Option.or_none Option.isSome_some Option.isSome_none Option.getD_some Option.getD_none Int.toNat_zero Int.natCast_zero Int.natCast_one Int.cast_ofNat_Int List.toList_toArray
attribute [go_sem] appL newsA isSlice
theorem pv_pureA {P:Program} {α:Type} (a:α):pv P (pure a)=some a:=rfl
theorem part0 (x y:Value):pv Tryz.prog (part 3 #[x,y] (0*1))=some x:=by kernel_rfl
theorem part1 (x y:Value):pv Tryz.prog (part 3 #[x,y] (1*1))=some y:=by kernel_rfl
theorem sz3:pv Tryz.prog (Go.sizeOf 3)=some 1:=by kernel_rfl
theorem eq3 (a c:Int):pv Tryz.prog (Op.equalIn 9999 3 (.int .i64 a) (.int .i64 c))=some (a==c):=by kernel_rfl
theorem key9 (a b c d:Int):pv Tryz.prog (Op.equal 323 (.agg #[.int .i64 a,.int .i64 b]) (.agg #[.int .i64 c,.int .i64 d]))=some (decide (a=c)&&decide (b=d)):=by
 show pv Tryz.prog (Op.equalIn (9999+1) 323 _ _)=_;rw [Op.equalIn,pv_bind,pv_underlying Tryz.underlying323,Option.bind_some];simp only;rw [pv_bind,sz3,Option.bind_some,pv_bind];have hr:∀ {β:Type} (init:β) (f:Nat→β→Sem (ForInStep β)),forIn [:2] init f=forIn [0,1] init f:=by
  intro β init f;rw [Std.Legacy.Range.forIn_eq_forIn_range']
  rfl
 rw [hr,List.forIn_cons,pv_bind,pv_bind,part0,Option.bind_some,pv_bind,part0,Option.bind_some,pv_bind,eq3,Option.bind_some]
 by_cases h:a=c
 ·subst h
  simp only [beq_self_eq_true,Bool.not_true,Bool.false_eq_true,if_false];rw [pv_pureA,Option.bind_some];simp only;rw [List.forIn_cons,pv_bind,pv_bind,part1,Option.bind_some,pv_bind,part1,Option.bind_some,pv_bind,eq3,Option.bind_some]
  by_cases h2:b=d
  ·subst h2
   simp only [beq_self_eq_true,Bool.not_true,Bool.false_eq_true,if_false];simp [pv,pure,Pure.pure]
  ·have:(b==d)=false:=beq_eq_false_iff_ne.2 h2
   rw [this];simp [pv,pure,Pure.pure,h2]
 ·have:(a==c)=false:=beq_eq_false_iff_ne.2 h
  rw [this];simp [pv,pure,Pure.pure,h]
theorem chk9 (e:Bool) (a b:Int):(pv Tryz.prog (Instr.checkKey e 10000 323 (.agg #[.int .i64 a,.int .i64 b]))).isSome=true:=by kernel_rfl
abbrev K2:=List ((Int×Int)×Int)
def idxK (K:K2) (k:Int×Int):Option Nat:=K.findIdx? fun e=>decide (e.1=k)
def getK:K2→Int×Int→Int
 | [],_=>0
 | e::K,k=>if e.1=k then e.2 else getK K k
def setK:K2→Int×Int→Int→K2
 | [],k,v=>[(k,v)]
 | e::K,k,v=>if e.1=k then (k,v)::K else e::setK K k v
theorem getK_idx (k:Int×Int):∀ K:K2,getK K k=match idxK K k with | some i=>(K.getD i ((0,0),0)).2 | none=>0
 | []=>rfl
 | e::K=>by
   have ih:=getK_idx k K;unfold idxK at ih ⊢;rw [getK,List.findIdx?_cons]
   by_cases h:e.1=k
   ·rw [if_pos h,decide_eq_true h];rfl
   ·rw [if_neg h,decide_eq_false h,ih]
    cases K.findIdx? fun e=>decide (e.1=k) <;> rfl
theorem setK_idx (k:Int×Int) (v:Int):∀ K:K2,setK K k v=match idxK K k with | some i=>K.modify i fun _=>(k,v) | none=>K++[(k,v)]
 | []=>rfl
 | e::K=>by
   have ih:=setK_idx k v K;unfold idxK at ih ⊢;rw [setK,List.findIdx?_cons]
   by_cases h:e.1=k
   ·rw [if_pos h,decide_eq_true h];rfl
   ·rw [if_neg h,decide_eq_false h,ih]
    cases K.findIdx? fun e=>decide (e.1=k) <;> rfl
theorem get_set (k:Int×Int) (v:Int):∀ K:K2,getK (setK K k v) k=v
 | []=>by simp [setK,getK]
 | e::K=>by
   rw [setK]
   by_cases h:e.1=k
   ·rw [if_pos h,getK,if_pos rfl]
   ·rw [if_neg h,getK,if_neg h,get_set k v K]
theorem get_set_ne {k k':Int×Int} (v:Int) (hne:k≠k'):∀ K:K2,getK (setK K k v) k'=getK K k'
 | []=>by simp [setK,getK,hne]
 | e::K=>by
   rw [setK]
   by_cases h:e.1=k
   ·rw [if_pos h,getK,getK,if_neg hne,if_neg (by rw [h];exact hne)]
   ·rw [if_neg h,getK,getK,get_set_ne v hne K]
def keyA (k:Int×Int):AV:=.agg [.g (.int .i64 k.1),.g (.int .i64 k.2)]
def encK:Nat→K2→List (Nat×AV×AV)
 | _,[]=>[]
 | o,e::K=>(o,keyA e.1,.g (.int .i64 e.2))::encK (o+1) K
def blkK (K:K2):Blk:=.map (encK 0 K) K.length
theorem encK_get:∀ (K:K2) (o i:Nat),(encK o K)[i]?=(K[i]?).map fun e=>(o+i,keyA e.1,AV.g (.int .i64 e.2))
 | [],_,_=>by simp [encK]
 | e::K,o,0=>by simp [encK]
 | e::K,o,i+1=>by
   rw [encK,List.getElem?_cons_succ,List.getElem?_cons_succ,encK_get K (o+1) i,show o+1+i=o+(i+1) by omega]
theorem encK_len:∀ (K:K2) (o:Nat),(encK o K).length=K.length
 | [],_=>rfl
 | e::K,o=>by rw [encK,List.length_cons,encK_len K,List.length_cons]
theorem encK_mod:∀ (K:K2) (o i:Nat) (k:Int×Int) (v:Int),(encK o K).modify i (fun e=>(e.1,keyA k,.g (.int .i64 v)))=encK o (K.modify i fun _=>(k,v))
 | [],_,i,_,_=>by cases i <;> rfl
 | e::K,o,0,_,_=>rfl
 | e::K,o,i+1,k,v=>by
   rw [encK,List.modify_succ_cons,List.modify_succ_cons,encK,encK_mod K (o+1) i k v]
theorem encK_app:∀ (K:K2) (o:Nat) (k:Int×Int) (v:Int),encK o K++[(o+K.length,keyA k,.g (.int .i64 v))]=encK o (K++[(k,v)])
 | [],_,_,_=>rfl
 | e::K,o,k,v=>by
   rw [List.cons_append,encK,encK,List.cons_append,←encK_app K (o+1) k v,List.length_cons,show o+(K.length+1)=o+1+K.length by omega]
theorem find_K (k:Int×Int):∀ (K:K2) (o i:Nat),findS Tryz.prog 323 (.agg #[.int .i64 k.1,.int .i64 k.2]) (encK o K) i=some ((idxK K k).map fun j=>(i+j,AV.g (.int .i64 (K.getD j ((0,0),0)).2)))
 | [],_,_=>rfl
 | e :: K,o,i=>by
   have ih:=find_K k K (o+1) (i+1);have ht:toG (keyA e.1)=some (.agg #[.int .i64 e.1.1,.int .i64 e.1.2]):=rfl;rw [encK,findS,ht];simp only;rw [key9];unfold idxK at ih ⊢;rw [List.findIdx?_cons]
   by_cases h:e.1=k
   ·have h1:(decide (k.1=e.1.1)&&decide (k.2=e.1.2))=true:=by rw [←h];simp
    have h2:Instr.sameBits 10000 (.agg #[.int .i64 e.1.1,.int .i64 e.1.2]) (.agg #[.int .i64 k.1,.int .i64 k.2])=true:=by rw [h];simp [Instr.sameBits]
    rw [h1];simp only [h2,decide_eq_true h,if_true,Option.map_some]
    rfl
   ·have h1:(decide (k.1=e.1.1)&&decide (k.2=e.1.2))=false:=by
     rw [←Bool.not_eq_true,Bool.and_eq_true,decide_eq_true_eq,decide_eq_true_eq];rintro ⟨g1,g2⟩;exact h (Prod.ext g1.symm g2.symm)
    rw [h1];simp only [ih,decide_eq_false h,Bool.false_eq_true,if_false,Option.map_map]
    congr 2
    funext j
    simp only [Function.comp,List.getD_cons_succ];rw [show i+1+j=i+(j+1) by omega]
theorem keyFind_K (k:Int×Int) (K:K2):keyFind Tryz.prog 323 (keyA k) (encK 0 K)=some ((idxK K k).map fun j=>(j,AV.g (.int .i64 (K.getD j ((0,0),0)).2))):=by
 have h1:isKeyT (Tryz.prog.underlying 323) (keyA k)=false:=by rw [Tryz.underlying323];rfl
 have h2:toG (keyA k)=some (.agg #[.int .i64 k.1,.int .i64 k.2]):=rfl;have h3:wideKey (Tryz.prog.underlying 323)=true:=by rw [Tryz.underlying323];rfl
 unfold keyFind;rw [h1,h2,h3];simp only;obtain ⟨x,hx⟩:=Option.isSome_iff_exists.1 (chk9 false k.1 k.2);obtain ⟨y,hy⟩:=Option.isSome_iff_exists.1 (chk9 true k.1 k.2);rw [hx,hy];simp only;rw [find_K];simp
theorem un_mp:Tryz.prog.underlying 250=some (.map 323 3):=by kernel_rfl
theorem ze_int:(Tryz.prog.info? 3).bind (·.zero)=some (.int .i64 0):=by kernel_rfl
theorem look_K (k:Int×Int) (K:K2):lookB Tryz.prog 250 (keyA k) false (some (blkK K))=some (.g (.int .i64 (getK K k))):=by
 rw [getK_idx];unfold lookB blkK;simp only [un_mp,keyFind_K,ze_int]
 cases idxK K k with
 | none=>rfl
 | some j=>rfl
theorem mset_K (k:Int×Int) (K:K2) (v:Int):msetB Tryz.prog 250 (keyA k) (.g (.int .i64 v)) (some (blkK K))=some (blkK (setK K k v)):=by
 rw [setK_idx];unfold msetB blkK;simp only [un_mp,keyFind_K]
 cases idxK K k with
 | none =>
   simp only [Option.map_none,List.length_append,List.length_singleton];have:=encK_app K 0 k v;rw [Nat.zero_add] at this;rw [this]
 | some j =>
   simp only [Option.map_some,List.length_modify];rw [encK_mod]
def memoF (find:K2→Bool×K2) (k:Int×Int) (K:K2):Bool×K2 :=
 if getK K k=0 then
  (decide (getK (if (find (setK K k 2)).1=true then setK (find (setK K k 2)).2 k 1 else (find (setK K k 2)).2) k=1),if (find (setK K k 2)).1=true then setK (find (setK K k 2)).2 k 1 else (find (setK K k 2)).2)
 else (decide (getK K k=1),K)
def anyF (f:K2→Int→Bool×K2):K2→List Int→Bool×K2
 | K,[]=>(false,K)
 | K,x::l=>if (f K x).1=true then (true,(f K x).2) else anyF f (f K x).2 l
def okPt (p:List Nod) (st:List Stt) (pt:Part) (n:Int):Bool:=elemB p n&&pt.l.all (holdsS p st n)
def findF (p:List Nod) (st:List Stt) (PT:List Part) (fits:K2→Int→Bool×K2) (q:Nat) (K:K2) (n:Int):Bool×K2:=match PT[q]? with
 | none=>(false,K)
 | some pt=>if okPt p st pt n=true then (if q=0 then (true,K) else anyF fits K (relatedM p n.toNat pt.comb)) else (false,K)
def fitsF (p:List Nod) (st:List Stt) (PT:List Part):Nat→K2→Int→Bool×K2
 | 0,K,n=>memoF (fun K=>findF p st PT (fun K _=>(false,K)) 0 K n) (n,0) K
 | q+1,K,n=>memoF (fun K=>findF p st PT (fitsF p st PT q) (q+1) K n) (n,((q+1:Nat):Int)) K
theorem ag_key2:aggO Tryz.prog 323=some (true,2):=by kernel_rfl
theorem ag_mp:aggO Tryz.prog 250=some (false,1):=by kernel_rfl
theorem ag_mt:aggO Tryz.prog 252=some (true,4):=by kernel_rfl
theorem ag_mtp:aggO Tryz.prog 174=some (false,1):=by kernel_rfl
theorem fl_mt0:fldO Tryz.prog 252 0=some (0,249):=by kernel_rfl
theorem fl_mt1:fldO Tryz.prog 252 1=some (2,88):=by kernel_rfl
theorem fl_mt2:fldO Tryz.prog 252 2=some (3,250):=by kernel_rfl
theorem bl_key2 (parts:List (Nat×AV)):evBuild Tryz.prog 323 parts=aggM (rowsL 1 [.g (.int .i64 0),.g (.int .i64 0)] parts):=evArr_eq (by kernel_rfl) parts
theorem ze_key2:zeroO Tryz.prog 323=some [.g (.int .i64 0),.g (.int .i64 0)]:=by kernel_rfl
theorem sz_key2:szO Tryz.prog 323=some 2:=by kernel_rfl
attribute [go_sem] ag_key2 ag_mp ag_mt ag_mtp fl_mt0 fl_mt1 fl_mt2 bl_key2 ze_key2 sz_key2
abbrev mtA (p:List Nod) (st:List Stt) (PT:List Part):List AV:=[.sl p.length 5 (p.flatMap encNd),.sl st.length 2 (st.flatMap encSt),.sl PT.length 2 (PT.flatMap encP),.mp 1]
theorem nm_encK (S:Nat→Prop):∀ (K:K2) (o:Nat),nmE S (encK o K)
 | [],_=>trivial
 | _::K,o=>⟨⟨⟨trivial,trivial,trivial⟩,trivial⟩,nm_encK S K (o+1)⟩
theorem nm_blkK (S:Nat→Prop) (K:K2):nmB S (blkK K):=nm_encK S K 0
theorem lt_encK (n:Nat):∀ (K:K2) (o:Nat),ltE n (encK o K)
 | [],_=>trivial
 | _::K,o=>⟨⟨by simp [keyA,ltA,ltL],by simp [ltA]⟩,lt_encK n K (o+1)⟩
theorem pop_K {p:List Nod} {st:List Stt} {PT:List Part} {K K':K2} {m2:ML} {n2:Nat} {l l':List AV} (h0:getL m2 0=some (.cells (mtA p st PT))) (h1:getL m2 1=some (blkK K')) (hl:keepT 2 l' l) :
 VS gt0 ⟨[],memL [(0,.cells (mtA p st PT)),(1,blkK K)],2⟩ (stL l m2 n2) (stL l' [(0,.cells (mtA p st PT)),(1,blkK K')] 2):=by
 refine VS.popW (fun c x hc hx=>?_) (fun c x hx=>?_) hl
 ·match c,hc with
  | 0,_=>rw [getL,if_pos rfl] at hx;cases hx;exact h0
  | 1,_=>rw [getL,if_neg (by decide),getL,if_pos rfl] at hx;cases hx;exact h1
 ·rw [getL] at hx
  split at hx
  ·rename_i h;subst h;cases hx;exact .inl rfl
  ·rw [getL] at hx
   split at hx
   ·rename_i h;subst h;cases hx;exact .inr ⟨by decide,lt_encK 2 K' 0⟩
   ·cases hx
def FindM (p:List Nod) (st:List Stt) (PT:List Part) (q:Nat) (n:Int) (find:K2→Bool×K2):Prop:=∀ K:K2,CallM Tryz.prog gt0 [] [(0,.cells (mtA p st PT)),(1,blkK K)] 2 241 [.ptr 0 0,.g (.int .i64 n),.g (.int .i64 (q:Int))] (.g (.bool (find K).1)) [(0,.cells (mtA p st PT)),(1,blkK (find K).2)] 2
set_option maxRecDepth 100000 in
set_option maxHeartbeats 4000000 in
theorem fits_of (p:List Nod) (st:List Stt) (PT:List Part) (q:Nat) (n:Int) (find:K2→Bool×K2) (HF:FindM p st PT q n find) (K:K2) :
 CallM Tryz.prog gt0 [] [(0,.cells (mtA p st PT)),(1,blkK K)] 2 176 [.ptr 0 0,.g (.int .i64 n),.g (.int .i64 (q:Int))] (.g (.bool (memoF find (n,(q:Int)) K).1)) [(0,.cells (mtA p st PT)),(1,blkK (memoF find (n,(q:Int)) K).2)] 2:=by
 have hl:=fun K=>look_K (n,(q:Int)) K;have hm:=fun K v=>mset_K (n,(q:Int)) K v;simp only [keyA] at hl hm;refine callM_of_w (c:=_) Tryz.func176 rfl (by kernel_rfl) ?_;simp only [Tryz.f176,List.replicate,List.length_cons,List.length_nil,Nat.reduceAdd,Nat.reduceSub,List.cons_append,List.nil_append];unfold memoF
 by_cases h0:getK K (n,(q:Int))=0
 ·have f0:=eq_true h0
  rw [if_pos h0]
  (repeat ((first | with_reducible refine W.step (b:=true) ?_ | skip);simp only [go_sem,↓reduceIte,Nat.reduceAdd,Nat.reduceSub,Nat.reduceMul,Nat.reduceEqDiff,Nat.reduceLeDiff,Nat.reduceLT,Int.reduceLE,Int.reduceLT,Int.reduceToNat,Int.reduceEq,hl,hm,f0];(try with_reducible refine drawn hmix (by kernel_rfl) ?_);try with_reducible refine ⟨by kernel_rfl,?_⟩))
  have H:=HF (setK K (n,(q:Int)) 2);generalize find (setK K (n,(q:Int)) 2)=fr at *;obtain ⟨b,K2⟩:=fr;refine AtCall.mem (m':=[(0,.cells (mtA p st PT)),(1,blkK K2),(2,.cells [.g (.int .i64 n),.g (.int .i64 (q:Int))])]) (CallM.sub (m0:=[(0,.cells (mtA p st PT)),(1,blkK (setK K (n,(q:Int)) 2))]) H ⟨by decide,by simp [getL,nmB_cells,nmL,nmA,nm_blkK],by simp [nmL,nmA],by simp [nmB_cells,nmL,nmA,nm_blkK],by simp [nmA],by simp⟩) ?_
  cases b with
  | true =>
    (repeat ((first | with_reducible refine W.step (b:=true) ?_ | skip);simp only [go_sem,↓reduceIte,Nat.reduceAdd,Nat.reduceSub,Nat.reduceMul,Nat.reduceEqDiff,Nat.reduceLeDiff,Nat.reduceLT,Int.reduceLE,Int.reduceLT,Int.reduceToNat,Int.reduceEq,hl,hm];(try with_reducible refine drawn hmix (by kernel_rfl) ?_);try with_reducible refine ⟨by kernel_rfl,?_⟩))
    exact ⟨.inr rfl,[.any,.any,.any,.any,.any,.any,(.g (.bool (decide (getK (setK K2 (n,(q:Int)) 1) (n,(q:Int))=1)))),.any,.any,.any,.any,.any,.any,.any,.any,.any,.any,.any,.any,.any,.any,.any,.any,.any,.any,.any,.any,.any,.any,.any,.any,.any,.any,.any,.any,.any,.any,.any,.any],pop_K rfl rfl (by simp [keepT_cons,keepT_nil,ltA]),rfl⟩
  | false =>
    (repeat ((first | with_reducible refine W.step (b:=true) ?_ | skip);simp only [go_sem,↓reduceIte,Nat.reduceAdd,Nat.reduceSub,Nat.reduceMul,Nat.reduceEqDiff,Nat.reduceLeDiff,Nat.reduceLT,Int.reduceLE,Int.reduceLT,Int.reduceToNat,Int.reduceEq,hl,hm];(try with_reducible refine drawn hmix (by kernel_rfl) ?_);try with_reducible refine ⟨by kernel_rfl,?_⟩))
    exact ⟨.inr rfl,[.any,.any,.any,.any,.any,.any,(.g (.bool (decide (getK K2 (n,(q:Int))=1)))),.any,.any,.any,.any,.any,.any,.any,.any,.any,.any,.any,.any,.any,.any,.any,.any,.any,.any,.any,.any,.any,.any,.any,.any,.any,.any,.any,.any,.any,.any,.any,.any],pop_K rfl rfl (by simp [keepT_cons,keepT_nil,ltA]),rfl⟩
 ·have f0:=eq_false h0
  rw [if_neg h0]
  (repeat ((first | with_reducible refine W.step (b:=true) ?_ | skip);simp only [go_sem,↓reduceIte,Nat.reduceAdd,Nat.reduceSub,Nat.reduceMul,Nat.reduceEqDiff,Nat.reduceLeDiff,Nat.reduceLT,Int.reduceLE,Int.reduceLT,Int.reduceToNat,Int.reduceEq,hl,hm,f0];(try with_reducible refine drawn hmix (by kernel_rfl) ?_);try with_reducible refine ⟨by kernel_rfl,?_⟩))
  exact ⟨.inr rfl,[.any,.any,.any,.any,.any,.any,(.g (.bool (decide (getK K (n,(q:Int))=1)))),.any,.any,.any,.any,.any,.any,.any,.any,.any,.any,.any,.any,.any,.any,.any,.any,.any,.any,.any,.any,.any,.any,.any,.any,.any,.any,.any,.any,.any,.any,.any,.any],pop_K rfl rfl (by simp [keepT_cons,keepT_nil,ltA]),rfl⟩
theorem findCl1_m (p:List Nod) (st:List Stt) (PT:List Part) (n:Nat) (y:Simp) (hp:OkPg p) (hs:st.length≤1000000) (he:elemB p n=true) (hok:okS y) (m:ML) (nn q1 q2 q0:Nat) (l1:q1<nn) (l2:q2<nn) (l0:q0<nn)
 (h0:getL m q0=some (.cells (mtA p st PT))) (h1:getL m q1=some (.cells [.ptr q0 0])) (h2:getL m q2=some (.cells [.g (.int .i64 (n:Int))])) :
 CallM Tryz.prog gt0 [] m nn 300 [.agg (encS y),.ptr q1 0,.ptr q2 0] (.g (.bool (!holdsS p st n y))) m nn:=by
 have H:=holds_p p st n hp hs he _ y (Nat.le_refl _) hok;obtain ⟨kind,name,value,a,b,l⟩:=y;rw [encS_m] at H ⊢;generalize holdsS p st n (.mk kind name value a b l)=R at *;have g0:(nn=q0)=False:=eq_false (by omega);have g1:(nn=q1)=False:=eq_false (by omega);have g2:(nn=q2)=False:=eq_false (by omega);refine callM_of_w (c:=_) Tryz.func300 rfl (by kernel_rfl) ?_;simp only [Tryz.f300,List.replicate,List.length_cons,List.length_nil,Nat.reduceAdd,Nat.reduceSub,List.cons_append,List.nil_append]
 (repeat ((first | with_reducible refine W.step (b:=false) ?_ | skip);simp only [go_sem,↓reduceIte,Nat.reduceAdd,Nat.reduceSub,Nat.reduceMul,Nat.reduceEqDiff,Nat.reduceLeDiff,Nat.reduceLT,Int.reduceLE,Int.reduceLT,Int.reduceToNat,Int.reduceEq,h0,h1,h2,g0,g1,g2];try with_reducible refine drawn hmix (by kernel_rfl) ?_))
 refine AtCallQ.mk H ?_
 (repeat ((first | with_reducible refine W.step (b:=false) ?_ | skip);simp only [go_sem,↓reduceIte,Nat.reduceAdd,Nat.reduceSub,Nat.reduceMul,Nat.reduceEqDiff,Nat.reduceLeDiff,Nat.reduceLT,Int.reduceLE,Int.reduceLT,Int.reduceToNat,Int.reduceEq];try with_reducible refine drawn hmix (by kernel_rfl) ?_))
 exact ⟨.inr rfl,[.any,.any,.any,.any,(.g (.bool (!R))),.any,.any,.any,.any,.any,.any,.any,.any],VS.pop (fun c x hn hc=>by rw [getL,if_neg (by omega)];exact hc) (by simp [keepT_cons,keepT_nil,ltA]),rfl⟩
def foldIdx (f:K2→Int→Bool×K2):K2→List Int→Nat→Int×K2
 | K,[],_=>(-1,K)
 | K,x::l,i=>if (f K x).1=true then (i,(f K x).2) else foldIdx f (f K x).2 l (i+1)
theorem fold_any (f:K2→Int→Bool×K2):∀ (l:List Int) (K:K2) (i:Nat),(decide (0≤(foldIdx f K l i).1),(foldIdx f K l i).2)=anyF f K l
 | [],K,i=>rfl
 | x::l,K,i=>by
   rw [foldIdx,anyF]
   by_cases h:(f K x).1=true
   ·rw [if_pos h,if_pos h,decide_eq_true (Int.natCast_nonneg i)]
   ·rw [if_neg h,if_neg h,fold_any f l]
set_option maxRecDepth 100000 in
set_option maxHeartbeats 4000000 in
theorem idxFK_m (l:List Int) (hl:l.length≤1000000) (f:K2→Int→Bool×K2) (g:Nat) (caps:List AV) (F1 F2:ML) (n:Nat)
 (hc:∀ (K:K2) (x:Int),x∈l→CallM Tryz.prog gt0 [] (F1++(1,blkK K)::F2) n g (.g (.int .i64 x)::caps) (.g (.bool (f K x).1)) (F1++(1,blkK (f K x).2)::F2) n) (K0:K2) :
 CallM Tryz.prog gt0 [] (F1++(1,blkK K0)::F2) n 336 [.sl l.length 1 (l.flatMap encZ),.fn (.func g) [] caps] (.g (.int .i64 (foldIdx f K0 l 0).1)) (F1++(1,blkK (foldIdx f K0 l 0).2)::F2) n:=by
 refine callM_of_w (c:=_) Tryz.func336 rfl (by kernel_rfl) ?_;simp only [Tryz.f336,List.replicate,List.length_cons,List.length_nil,Nat.reduceAdd,Nat.reduceSub,List.cons_append,List.nil_append]
 (repeat ((first | with_reducible refine W.step (b:=false) ?_ | skip);simp only [go_sem,↓reduceIte,Nat.reduceAdd,Nat.reduceSub,Nat.reduceMul,Nat.reduceEqDiff,Nat.reduceLeDiff,Nat.reduceLT,Int.reduceLE,Int.reduceLT,Int.reduceToNat,Int.reduceEq];try with_reducible refine drawn hmix (by kernel_rfl) ?_))
 refine W.loop (s1:=stL [(.sl l.length 1 (l.flatMap encZ)),(.fn (.func g) [] caps),.any,.any,.any,.any,.any,(.g (.int .i64 (l.length:Int))),(.g (.int .i64 ((0:Nat):Int))),.any,.any,.any,.any,.any,.any,.any,.any,.any,.any] (F1++(1,blkK K0)::F2) n)
  (fun (q:Nat×K2) t=>q.1≤l.length∧foldIdx f K0 l 0=foldIdx f q.2 (l.drop q.1) q.1∧t=stL [(.sl l.length 1 (l.flatMap encZ)),(.fn (.func g) [] caps),.any,.any,.any,.any,.any,(.g (.int .i64 (l.length:Int))),(.g (.int .i64 (q.1:Int))),.any,.any,.any,.any,.any,.any,.any,.any,.any,.any] (F1++(1,blkK q.2)::F2) n) (fun q=>l.length - q.1) (0,K0) ⟨Nat.zero_le _,rfl,rfl⟩ (VS.tm (by simp [leL])) ?_
 rintro ⟨k,K⟩ t ⟨hk,he,rfl⟩;simp only at hk he
 by_cases hlt:k<l.length
 ·have r:=rowZ hlt
  have hd:l.drop k=l[k]::l.drop (k+1):=List.drop_eq_getElem_cons hlt;rw [hd,foldIdx] at he
  (repeat ((first | with_reducible refine W.step (b:=false) ?_ | skip);simp only [go_sem,↓reduceIte,Nat.reduceAdd,Nat.reduceSub,Nat.reduceMul,Nat.reduceEqDiff,Nat.reduceLeDiff,Nat.reduceLT,Int.reduceLE,Int.reduceLT,Int.reduceToNat,Int.reduceEq,hlt,r];try with_reducible refine drawn hmix (by kernel_rfl) ?_))
  refine AtCall.mem (hc K _ (List.getElem_mem hlt)) ?_
  cases hx:(f K l[k]).1 with
  | true =>
    rw [if_pos hx] at he
    (repeat ((first | with_reducible refine W.step (b:=false) ?_ | skip);simp only [go_sem,↓reduceIte,Nat.reduceAdd,Nat.reduceSub,Nat.reduceMul,Nat.reduceEqDiff,Nat.reduceLeDiff,Nat.reduceLT,Int.reduceLE,Int.reduceLT,Int.reduceToNat,Int.reduceEq];try with_reducible refine drawn hmix (by kernel_rfl) ?_))
    rw [he];exact ⟨.inr rfl,[.any,.any,.any,.any,(.g (.int .i64 (k:Int))),.any,.any,.any,.any,.any,.any,.any,.any,.any,.any,.any,.any,.any,.any],VS.tm (by simp [leL]),rfl⟩
  | false =>
    rw [if_neg (by rw [hx];decide)] at he
    (repeat ((first | with_reducible refine W.step (b:=false) ?_ | skip);simp only [go_sem,↓reduceIte,Nat.reduceAdd,Nat.reduceSub,Nat.reduceMul,Nat.reduceEqDiff,Nat.reduceLeDiff,Nat.reduceLT,Int.reduceLE,Int.reduceLT,Int.reduceToNat,Int.reduceEq];try with_reducible refine drawn hmix (by kernel_rfl) ?_))
    refine ⟨(k+1,(f K l[k]).2),_,⟨hlt,he,rfl⟩,by show l.length - (k+1)<l.length - k;omega,?_⟩;simp only;rw [up1 (by omega)];exact VS.tm (by simp [leL])
 ·rw [List.drop_of_length_le (by omega),foldIdx] at he
  (repeat ((first | with_reducible refine W.step (b:=false) ?_ | skip);simp only [go_sem,↓reduceIte,Nat.reduceAdd,Nat.reduceSub,Nat.reduceMul,Nat.reduceEqDiff,Nat.reduceLeDiff,Nat.reduceLT,Int.reduceLE,Int.reduceLT,Int.reduceToNat,Int.reduceEq,hlt];try with_reducible refine drawn hmix (by kernel_rfl) ?_))
  rw [he];exact ⟨.inr rfl,[.any,.any,.any,.any,(.g (.int .i64 (-1))),.any,.any,.any,.any,.any,.any,.any,.any,.any,.any,.any,.any,.any,.any],VS.tm (by simp [leL]),rfl⟩
theorem conFK_m (l:List Int) (hl:l.length≤1000000) (f:K2→Int→Bool×K2) (g:Nat) (caps:List AV) (F1 F2:ML) (n:Nat)
 (hc:∀ (K:K2) (x:Int),x∈l→CallM Tryz.prog gt0 [] (F1++(1,blkK K)::F2) n g (.g (.int .i64 x)::caps) (.g (.bool (f K x).1)) (F1++(1,blkK (f K x).2)::F2) n) (K0:K2) :
 CallM Tryz.prog gt0 [] (F1++(1,blkK K0)::F2) n 302 [.sl l.length 1 (l.flatMap encZ),.fn (.func g) [] caps] (.g (.bool (anyF f K0 l).1)) (F1++(1,blkK (anyF f K0 l).2)::F2) n:=by
 refine callM_of_w (c:=_) Tryz.func302 rfl (by kernel_rfl) ?_;simp only [Tryz.f302,List.replicate,List.length_cons,List.length_nil,Nat.reduceAdd,Nat.reduceSub,List.cons_append,List.nil_append];rw [←fold_any f l K0 0]
 (repeat ((first | with_reducible refine W.step (b:=false) ?_ | skip);simp only [go_sem,↓reduceIte,Nat.reduceAdd,Nat.reduceSub,Nat.reduceMul,Nat.reduceEqDiff,Nat.reduceLeDiff,Nat.reduceLT,Int.reduceLE,Int.reduceLT,Int.reduceToNat,Int.reduceEq];try with_reducible refine drawn hmix (by kernel_rfl) ?_))
 refine AtCall.mem (idxFK_m l hl f g caps F1 F2 n hc K0) ?_
 (repeat ((first | with_reducible refine W.step (b:=false) ?_ | skip);simp only [go_sem,↓reduceIte,Nat.reduceAdd,Nat.reduceSub,Nat.reduceMul,Nat.reduceEqDiff,Nat.reduceLeDiff,Nat.reduceLT,Int.reduceLE,Int.reduceLT,Int.reduceToNat,Int.reduceEq];try with_reducible refine drawn hmix (by kernel_rfl) ?_))
 exact ⟨.inr rfl,[.any,.any,.any,.any,(.g (.bool (decide (0≤(foldIdx f K0 l 0).1)))),.any,.any,.any,.any],VS.tm (by simp [leL]),rfl⟩
def FitsM (p:List Nod) (st:List Stt) (PT:List Part) (q:Nat):Prop:=∀ (K:K2) (n:Nat),n<p.length→CallM Tryz.prog gt0 [] [(0,.cells (mtA p st PT)),(1,blkK K)] 2 176 [.ptr 0 0,.g (.int .i64 (n:Int)),.g (.int .i64 (q:Int))] (.g (.bool (fitsF p st PT q K n).1)) [(0,.cells (mtA p st PT)),(1,blkK (fitsF p st PT q K n).2)] 2
theorem findCl2_m (p:List Nod) (st:List Stt) (PT:List Part) (q:Nat) (HQ:FitsM p st PT q) (hq:q≤1000000) (n:Nat) (hn:n<p.length) (K:K2) :
 CallM Tryz.prog gt0 [] [(0,.cells (mtA p st PT)),(1,blkK K),(2,.cells [.ptr 0 0]),(4,.cells [.g (.int .i64 ((q+1:Nat):Int))])] 6 304 [.g (.int .i64 (n:Int)),.ptr 2 0,.ptr 4 0] (.g (.bool (fitsF p st PT q K n).1))
  [(0,.cells (mtA p st PT)),(1,blkK (fitsF p st PT q K n).2),(2,.cells [.ptr 0 0]),(4,.cells [.g (.int .i64 ((q+1:Nat):Int))])] 6:=by
 have fw:IntKind.i64.wrap (((q+1:Nat):Int) - 1)=(q:Int):=by rw [IntWalk.i64_in _ (by omega)];omega
 refine callM_of_w (c:=_) Tryz.func304 rfl (by kernel_rfl) ?_;simp only [Tryz.f304,List.replicate,List.length_cons,List.length_nil,Nat.reduceAdd,Nat.reduceSub,List.cons_append,List.nil_append]
 (repeat ((first | with_reducible refine W.step (b:=false) ?_ | skip);simp only [go_sem,↓reduceIte,Nat.reduceAdd,Nat.reduceSub,Nat.reduceMul,Nat.reduceEqDiff,Nat.reduceLeDiff,Nat.reduceLT,Int.reduceLE,Int.reduceLT,Int.reduceToNat,Int.reduceEq,fw];try with_reducible refine drawn hmix (by kernel_rfl) ?_))
 refine AtCall.mem (m':=[(0,.cells (mtA p st PT)),(1,blkK (fitsF p st PT q K n).2),(2,.cells [.ptr 0 0]),(4,.cells [.g (.int .i64 ((q+1:Nat):Int))])]) (CallM.sub (m0:=[(0,.cells (mtA p st PT)),(1,blkK K)]) (HQ K n hn) ⟨by decide,by simp [getL,nmB_cells,nmL,nmA,nm_blkK],by simp [nmL,nmA],by simp [nmB_cells,nmL,nmA,nm_blkK],by simp [nmA],by simp⟩) ?_
 (repeat ((first | with_reducible refine W.step (b:=false) ?_ | skip);simp only [go_sem,↓reduceIte,Nat.reduceAdd,Nat.reduceSub,Nat.reduceMul,Nat.reduceEqDiff,Nat.reduceLeDiff,Nat.reduceLT,Int.reduceLE,Int.reduceLT,Int.reduceToNat,Int.reduceEq];try with_reducible refine drawn hmix (by kernel_rfl) ?_))
 exact ⟨.inr rfl,[.any,.any,.any,.any,(.g (.bool (fitsF p st PT q K n).1)),.any,.any,.any,.any,.any],VS.tm (by simp [leL]),rfl⟩
theorem elem_at {p:List Nod} {n:Nat}:elemB p n=true↔∃ h:n<p.length,p[n].name≠⟨#[]⟩:=by
 unfold elemB;simp only [Bool.and_eq_true,decide_eq_true_eq,Bool.not_eq_true',decide_eq_false_iff_not]
 constructor
 ·rintro ⟨-,h1,h2⟩
  have h:n<p.length:=by omega
  exact ⟨h,by rwa [ndAt_nat h] at h2⟩
 ·rintro ⟨h,h1⟩
  exact ⟨Int.natCast_nonneg _,by omega,by rwa [ndAt_nat h]⟩
theorem kin_self {p:List Nod} {n:Nat} (hT:TreeP p) (he:elemB p n=true):(n:Int)∈kinM p n∧0<n:=by
 obtain ⟨h,hne⟩:=elem_at.1 he;have h0:0<n:=by
  rcases Nat.eq_zero_or_pos n with rfl | h0
  ·have:=hT.root (by intro e;rw [e] at h;simp at h)
   have e:=ndAt_nat h;simp only [Int.natCast_zero] at e;rw [e] at this;exact absurd this hne
  ·exact h0
 obtain ⟨u1,u2⟩:=hT.up n h0 h;refine ⟨?_,h0⟩;obtain ⟨u,hu⟩:∃ u:Nat,(ndAt p n).up=u:=⟨(ndAt p n).up.toNat,by omega⟩;unfold kinM;rw [if_pos ⟨he,u1,by omega⟩,List.mem_filter];refine ⟨?_,he⟩;rw [hu,hT.kids u (by omega)];unfold kidsR;rw [List.mem_map];exact ⟨n,List.mem_filter.2 ⟨List.mem_range.2 h,decide_eq_true ⟨h0,hu⟩⟩,rfl⟩
theorem kin_nat {p:List Nod} {n:Int} {x:Int} (hx:x∈kinM p n):∃ k:Nat,x=(k:Int)∧k<p.length:=by
 unfold kinM at hx
 split at hx
 ·obtain ⟨k,h1,h2,-⟩:=at_nat (List.mem_filter.1 hx).2
  exact ⟨k,h1,h2⟩
 ·simp at hx
theorem related_nat {p:List Nod} {n:Nat} {comb x:Int} (hn:n<p.length) (hx:x∈relatedM p n comb):∃ k:Nat,x=(k:Int)∧k<p.length:=by
 have above:∀ k∈aboveM p n,k<p.length:=fun k hk=>by have:=(above_lt n k hk).2;omega
 have ahead:∀ y∈aheadM p n,∃ k:Nat,y=(k:Int)∧k<p.length:=fun y hy=>kin_nat ((List.takeWhile_sublist _).subset hy);unfold relatedM at hx
 split at hx
 ·obtain ⟨k,hk,rfl⟩:=List.mem_map.1 hx;exact ⟨k,rfl,above k hk⟩
 ·split at hx
  ·obtain ⟨k,hk,rfl⟩:=List.mem_map.1 hx;exact ⟨k,rfl,above k (List.mem_of_mem_take hk)⟩
  ·split at hx
   ·exact ahead x (List.mem_of_mem_drop hx)
   ·split at hx
    ·exact ahead x hx
    ·simp at hx
theorem related_len {p:List Nod} {n:Nat} {comb:Int} (hp:OkPg p) (hn:n<p.length):(relatedM p n comb).length≤1000000:=by
 have hab:∀ n:Nat,(aboveM p n).length≤n:=by
  intro n
  induction n using Nat.strongRecOn with
  | ind n ih =>
    rw [above_step]
    split
    ·rename_i h
     have:=ih (ndAt p n).up.toNat (by omega);rw [List.length_cons];omega
    ·simp
 have h1:=hab n;have h2:=hp.len;have h3:(aheadM p n).length≤1000000:=Nat.le_trans (List.takeWhile_sublist _).length_le (kin_len hp);unfold relatedM
 split
 ·rw [List.length_map];omega
 ·split
  ·rw [List.length_map,List.length_take];omega
  ·split
   ·rw [List.length_drop];omega
   ·split
    ·exact h3
    ·simp
theorem any_not {α:Type} (pr:α→Bool) (l:List α):(l.any fun x=>!pr x)=!l.all pr:=by
 induction l with
 | nil=>rfl
 | cons x l ih=>rw [List.any_cons,List.all_cons,ih];cases pr x <;> rfl
def okPT (PT:List Part):Prop:=PT.length≤1000000∧∀ pt∈PT,pt.l.length≤1000000∧∀ x∈pt.l,okS x
set_option maxRecDepth 100000 in
set_option maxHeartbeats 4000000 in
theorem find_m (p:List Nod) (st:List Stt) (PT:List Part) (q:Nat) (hp:OkPg p) (hT:TreeP p) (hs:st.length≤1000000) (hPT:okPT PT) (hq:q<PT.length) (n:Nat) (hn:n<p.length) (fits:K2→Int→Bool×K2)
 (hF:∀ q',q=q'+1→FitsM p st PT q'∧fits=fitsF p st PT q'):FindM p st PT q n (fun K=>findF p st PT fits q K n):=by
 intro K;have rp:=rowP hq;obtain ⟨hl1,hl2⟩:=hPT.2 _ (List.getElem_mem hq);have hlen:=hPT.1;have HE:=element_p p n;have hfind:findF p st PT fits q K n=if okPt p st PT[q] n=true then (if q=0 then (true,K) else anyF fits K (relatedM p n PT[q].comb)) else (false,K):=by
  unfold findF;rw [List.getElem?_eq_getElem hq];simp only [Int.toNat_natCast]
 refine callM_of_w (c:=_) Tryz.func241 rfl (by kernel_rfl) ?_;simp only [Tryz.f241,List.replicate,List.length_cons,List.length_nil,Nat.reduceAdd,Nat.reduceSub,List.cons_append,List.nil_append];rw [hfind];generalize hcb:PT[q].comb=comb at *;generalize hll:PT[q].l=l at *;have hok:okPt p st PT[q] n=(elemB p n&&l.all (holdsS p st n)):=by unfold okPt;rw [hll]
 rw [hok];clear hfind hok
 (repeat ((first | with_reducible refine W.step (b:=true) ?_ | skip);simp only [go_sem,↓reduceIte,Nat.reduceAdd,Nat.reduceSub,Nat.reduceMul,Nat.reduceEqDiff,Nat.reduceLeDiff,Nat.reduceLT,Int.reduceLE,Int.reduceLT,Int.reduceToNat,Int.reduceEq,hq,rp];(try with_reducible refine drawn hmix (by kernel_rfl) ?_);try with_reducible refine ⟨by kernel_rfl,?_⟩))
 refine AtCallD.mk HE ?_
 cases he:elemB p n with
 | false =>
   (repeat ((first | with_reducible refine W.step (b:=true) ?_ | skip);simp only [go_sem,↓reduceIte,Nat.reduceAdd,Nat.reduceSub,Nat.reduceMul,Nat.reduceEqDiff,Nat.reduceLeDiff,Nat.reduceLT,Int.reduceLE,Int.reduceLT,Int.reduceToNat,Int.reduceEq];(try with_reducible refine drawn hmix (by kernel_rfl) ?_);try with_reducible refine ⟨by kernel_rfl,?_⟩))
   exact ⟨.inr rfl,[.any,.any,.any,.any,.any,.any,(.g (.bool false)),.any,.any,.any,.any,.any,.any,.any,.any,.any,.any,.any,.any,.any,.any,.any,.any,.any,.any,.any,.any,.any,.any,.any,.any,.any,.any,.any,.any,.any,.any,.any,.any,.any,.any,.any,.any],pop_K rfl rfl (by simp [keepT_cons,keepT_nil,ltA]),rfl⟩
 | true =>
   rw [Bool.true_and]
   (repeat ((first | with_reducible refine W.step (b:=true) ?_ | skip);simp only [go_sem,↓reduceIte,Nat.reduceAdd,Nat.reduceSub,Nat.reduceMul,Nat.reduceEqDiff,Nat.reduceLeDiff,Nat.reduceLT,Int.reduceLE,Int.reduceLT,Int.reduceToNat,Int.reduceEq];(try with_reducible refine drawn hmix (by kernel_rfl) ?_);try with_reducible refine ⟨by kernel_rfl,?_⟩))
   refine AtCallD.mem (m':=[(0,.cells (mtA p st PT)),(1,blkK K),(2,.cells [.ptr 0 0]),(3,.cells [.g (.int .i64 (n:Int))]),(5,.cells [.g (.int .i64 comb),.sl l.length 6 (l.flatMap encS)]),(4,.cells [.g (.int .i64 (q:Int))])])
    (CallM.subD (m0:=[(0,.cells (mtA p st PT)),(1,blkK K),(2,.cells [.ptr 0 0]),(3,.cells [.g (.int .i64 (n:Int))])]) (conFS_m l hl1 (fun y=>!holdsS p st n y) 300 [.ptr 2 0,.ptr 3 0] _ 6 fun y hy=>findCl1_m p st PT n y hp hs he (hl2 y hy) _ 6 2 3 0 (by decide) (by decide) (by decide) rfl rfl rfl) ⟨by decide,by simp [getL,nmB_cells,nmL,nmA,nm_blkK],by simp [nmL,nmA],by simp [nmB_cells,nmL,nmA,nm_blkK],by simp [nmA],by simp⟩) ?_
   rw [any_not]
   cases hall:l.all (holdsS p st n) with
   | false =>
     (repeat ((first | with_reducible refine W.step (b:=true) ?_ | skip);simp only [go_sem,↓reduceIte,Nat.reduceAdd,Nat.reduceSub,Nat.reduceMul,Nat.reduceEqDiff,Nat.reduceLeDiff,Nat.reduceLT,Int.reduceLE,Int.reduceLT,Int.reduceToNat,Int.reduceEq];(try with_reducible refine drawn hmix (by kernel_rfl) ?_);try with_reducible refine ⟨by kernel_rfl,?_⟩))
     exact ⟨.inr rfl,[.any,.any,.any,.any,.any,.any,(.g (.bool false)),.any,.any,.any,.any,.any,.any,.any,.any,.any,.any,.any,.any,.any,.any,.any,.any,.any,.any,.any,.any,.any,.any,.any,.any,.any,.any,.any,.any,.any,.any,.any,.any,.any,.any,.any,.any],pop_K rfl rfl (by simp [keepT_cons,keepT_nil,ltA]),rfl⟩
   | true =>
     cases q with
     | zero =>
       (repeat ((first | with_reducible refine W.step (b:=true) ?_ | skip);simp only [go_sem,↓reduceIte,Nat.reduceAdd,Nat.reduceSub,Nat.reduceMul,Nat.reduceEqDiff,Nat.reduceLeDiff,Nat.reduceLT,Int.reduceLE,Int.reduceLT,Int.reduceToNat,Int.reduceEq];(try with_reducible refine drawn hmix (by kernel_rfl) ?_);try with_reducible refine ⟨by kernel_rfl,?_⟩))
       exact ⟨.inr rfl,[.any,.any,.any,.any,.any,.any,(.g (.bool true)),.any,.any,.any,.any,.any,.any,.any,.any,.any,.any,.any,.any,.any,.any,.any,.any,.any,.any,.any,.any,.any,.any,.any,.any,.any,.any,.any,.any,.any,.any,.any,.any,.any,.any,.any,.any],pop_K rfl rfl (by simp [keepT_cons,keepT_nil,ltA]),rfl⟩
     | succ q =>
       obtain ⟨HQ,rfl⟩:=hF q rfl;have f0:(((q+1:Nat):Int)=0)=False:=eq_false (by omega)
       (repeat ((first | with_reducible refine W.step (b:=true) ?_ | skip);simp only [go_sem,↓reduceIte,Nat.reduceAdd,Nat.reduceSub,Nat.reduceMul,Nat.reduceEqDiff,Nat.reduceLeDiff,Nat.reduceLT,Int.reduceLE,Int.reduceLT,Int.reduceToNat,Int.reduceEq,f0];(try with_reducible refine drawn hmix (by kernel_rfl) ?_);try with_reducible refine ⟨by kernel_rfl,?_⟩))
       refine AtCallD.mk (related_p p st n comb hp hT hn (kin_self hT he).1) ?_
       (repeat ((first | with_reducible refine W.step (b:=true) ?_ | skip);simp only [go_sem,↓reduceIte,Nat.reduceAdd,Nat.reduceSub,Nat.reduceMul,Nat.reduceEqDiff,Nat.reduceLeDiff,Nat.reduceLT,Int.reduceLE,Int.reduceLT,Int.reduceToNat,Int.reduceEq];(try with_reducible refine drawn hmix (by kernel_rfl) ?_);try with_reducible refine ⟨by kernel_rfl,?_⟩))
       refine AtCallD.mem (m':=[(0,.cells (mtA p st PT)),(1,blkK (anyF (fitsF p st PT q) K (relatedM p n comb)).2),(2,.cells [.ptr 0 0]),(4,.cells [.g (.int .i64 ((q+1:Nat):Int))]),(3,.cells [.g (.int .i64 (n:Int))]),(5,.cells [.g (.int .i64 comb),.sl l.length 6 (l.flatMap encS)])])
        (CallM.subD (m0:=[(0,.cells (mtA p st PT)),(1,blkK K),(2,.cells [.ptr 0 0]),(4,.cells [.g (.int .i64 ((q+1:Nat):Int))])]) (conFK_m (relatedM p n comb) (related_len hp hn) (fitsF p st PT q) 304 [.ptr 2 0,.ptr 4 0] [(0,.cells (mtA p st PT))] [(2,.cells [.ptr 0 0]),(4,.cells [.g (.int .i64 ((q+1:Nat):Int))])] 6 (fun K x hx=>by obtain ⟨k,rfl,hk⟩:=related_nat hn hx;exact findCl2_m p st PT q HQ (by omega) k hk K) K) ⟨by decide,by simp [getL,nmB_cells,nmL,nmA,nm_blkK],by simp [nmL,nmA],by simp [nmB_cells,nmL,nmA,nm_blkK],by simp [nmA],by simp⟩) ?_
       (repeat ((first | with_reducible refine W.step (b:=true) ?_ | skip);simp only [go_sem,↓reduceIte,Nat.reduceAdd,Nat.reduceSub,Nat.reduceMul,Nat.reduceEqDiff,Nat.reduceLeDiff,Nat.reduceLT,Int.reduceLE,Int.reduceLT,Int.reduceToNat,Int.reduceEq];(try with_reducible refine drawn hmix (by kernel_rfl) ?_);try with_reducible refine ⟨by kernel_rfl,?_⟩))
       exact ⟨.inr rfl,[.any,.any,.any,.any,.any,.any,(.g (.bool (anyF (fitsF p st PT q) K (relatedM p n comb)).1)),.any,.any,.any,.any,.any,.any,.any,.any,.any,.any,.any,.any,.any,.any,.any,.any,.any,.any,.any,.any,.any,.any,.any,.any,.any,.any,.any,.any,.any,.any,.any,.any,.any,.any,.any,.any],pop_K rfl rfl (by simp [keepT_cons,keepT_nil,ltA]),rfl⟩
attribute [go_sem] appL newsA isSlice
theorem fits_m (p:List Nod) (st:List Stt) (PT:List Part) (hp:OkPg p) (hT:TreeP p) (hs:st.length≤1000000) (hPT:okPT PT):∀ q,q<PT.length→FitsM p st PT q
 | 0,hq,K,n,hn=>fits_of p st PT 0 n _ (find_m p st PT 0 hp hT hs hPT hq n hn (fun K _=>(false,K)) (fun q' h=>by omega)) K
 | q + 1,hq,K,n,hn=>fits_of p st PT (q+1) n _ (find_m p st PT (q+1) hp hT hs hPT hq n hn (fitsF p st PT q) (fun q' h=>by
     obtain rfl:q=q':=by omega
     exact ⟨fits_m p st PT hp hT hs hPT q (by omega),rfl⟩)) K
def rightP (p:List Nod) (st:List Stt) (PT:List Part) (q n:Nat):Bool:=fitsS p st (PT.take (q+1)).reverse n
def OkK (p:List Nod) (st:List Stt) (PT:List Part) (Q:Nat) (K:K2):Prop:=∀ n q:Nat,q<Q→getK K ((n:Int),(q:Int))=0∨(getK K ((n:Int),(q:Int))=1↔rightP p st PT q n=true)
theorem right_zero {p:List Nod} {st:List Stt} {PT:List Part} (h:0<PT.length) (n:Nat):rightP p st PT 0 n=okPt p st PT[0] n:=by
 unfold rightP okPt;rw [List.take_succ_eq_append_getElem h,List.take_zero,List.nil_append,List.reverse_singleton,fitsS]
theorem right_step {p:List Nod} {st:List Stt} {PT:List Part} {q:Nat} (h:q+1<PT.length) (n:Nat):rightP p st PT (q+1) n=(okPt p st PT[q+1] n&&(relatedM p n PT[q+1].comb).any fun k=>rightP p st PT q k.toNat):=by
 unfold rightP okPt;rw [List.take_succ_eq_append_getElem h,List.reverse_append,List.reverse_singleton,List.singleton_append];rw [List.take_succ_eq_append_getElem (show q<PT.length by omega),List.reverse_append,List.reverse_singleton,List.singleton_append,fitsS]
def Turn (p:List Nod) (st:List Stt) (PT:List Part) (Q:Nat) (K:K2) (r:Bool) (f:Bool×K2):Prop:=f.1=r∧OkK p st PT Q f.2∧∀ n q:Nat,Q≤q→getK f.2 ((n:Int),(q:Int))=getK K ((n:Int),(q:Int))
theorem memo_turn {p:List Nod} {st:List Stt} {PT:List Part} {q n:Nat} {find:K2→Bool×K2} (H:∀ K,OkK p st PT q K→Turn p st PT q K (rightP p st PT q n) (find K)) {K:K2} (hK:OkK p st PT (q+1) K) :
 Turn p st PT (q+1) K (rightP p st PT q n) (memoF find ((n:Int),(q:Int)) K):=by
 unfold memoF
 by_cases h0:getK K ((n:Int),(q:Int))=0
 ·rw [if_pos h0]
  have ne:∀ {n' q':Nat},¬(n'=n∧q'=q)→(((n:Int),(q:Int)):Int×Int)≠((n':Int),(q':Int)):=by
   intro n' q' h e;rw [Prod.mk.injEq] at e;exact h ⟨by omega,by omega⟩
  have hK1:OkK p st PT q (setK K ((n:Int),(q:Int)) 2):=by
   intro n' q' hq;rw [get_set_ne _ (ne (by omega))];exact hK n' q' (by omega)
  obtain ⟨h1,h2,h3⟩:=H _ hK1;have h4:=h3 n q (Nat.le_refl _);rw [get_set] at h4;generalize find (setK K ((n:Int),(q:Int)) 2)=fr at *;obtain ⟨b,K2⟩:=fr;simp only at h1 h2 h3 h4 ⊢
  cases hb:b with
  | true =>
    rw [hb] at h1;rw [if_pos rfl];refine ⟨by rw [get_set,←h1];rfl,fun n' q' hq=>?_,fun n' q' hq=>?_⟩
    ·by_cases he:n'=n∧q'=q
     ·obtain ⟨rfl,rfl⟩:=he
      simp only;rw [get_set,←h1];exact .inr ⟨fun _=>rfl,fun _=>rfl⟩
     ·simp only
      rw [get_set_ne _ (ne he)]
      by_cases hq':q'<q
      ·exact h2 n' q' hq'
      ·rw [h3 n' q' (by omega),get_set_ne _ (ne he)];exact hK n' q' hq
    ·simp only
     rw [get_set_ne _ (ne (by omega)),h3 n' q' (by omega),get_set_ne _ (ne (by omega))]
  | false =>
    rw [hb] at h1;rw [if_neg (by decide)];refine ⟨by simp only [h4,←h1];decide,fun n' q' hq=>?_,fun n' q' hq=>?_⟩
    ·by_cases he:n'=n∧q'=q
     ·obtain ⟨rfl,rfl⟩:=he
      simp only;rw [h4,←h1];exact .inr ⟨fun h=>by omega,fun h=>by cases h⟩
     ·by_cases hq':q'<q
      ·exact h2 n' q' hq'
      ·simp only
       rw [h3 n' q' (by omega),get_set_ne _ (ne he)];exact hK n' q' hq
    ·simp only
     rw [h3 n' q' (by omega),get_set_ne _ (ne (by omega))]
 ·rw [if_neg h0]
  refine ⟨?_,hK,fun _ _ _=>rfl⟩;have h1:=(hK n q (Nat.lt_succ_self _)).resolve_left h0
  cases hr:rightP p st PT q n with
  | true=>exact decide_eq_true (h1.2 hr)
  | false=>exact decide_eq_false (fun h=>by rw [h1.1 h] at hr;cases hr)
theorem any_turn {p:List Nod} {st:List Stt} {PT:List Part} {Q:Nat} {f:K2→Int→Bool×K2} {r:Int→Bool}:∀ (l:List Int) (K:K2),(∀ K,∀ x∈l,OkK p st PT Q K→Turn p st PT Q K (r x) (f K x))→OkK p st PT Q K→Turn p st PT Q K (l.any r) (anyF f K l)
 | [],K,_,hK=>⟨rfl,hK,fun _ _ _=>rfl⟩
 | x :: l,K,H,hK=>by
   obtain ⟨h1,h2,h3⟩:=H K x List.mem_cons_self hK;rw [anyF,List.any_cons]
   cases hx:(f K x).1 with
   | true =>
     rw [if_pos rfl,←h1,hx];exact ⟨rfl,h2,h3⟩
   | false =>
     rw [if_neg (by decide),←h1,hx,Bool.false_or];obtain ⟨g1,g2,g3⟩:=any_turn l (f K x).2 (fun K y hy=>H K y (List.mem_cons_of_mem _ hy)) h2;exact ⟨g1,g2,fun n q hq=>by rw [g3 n q hq,h3 n q hq]⟩
theorem fits_turn {p:List Nod} {st:List Stt} {PT:List Part}:∀ (q:Nat),q<PT.length→∀ (n:Nat),n<p.length→∀ K,OkK p st PT (q+1) K→Turn p st PT (q+1) K (rightP p st PT q n) (fitsF p st PT q K n)
 | 0,hq,n,hn,K,hK=>by
   refine memo_turn (q:=0) (n:=n) (find:=fun K=>findF p st PT (fun K _=>(false,K)) 0 K n) (fun K hK=>?_) hK;unfold findF;rw [List.getElem?_eq_getElem hq,right_zero hq];simp only
   cases h:okPt p st PT[0] n with
   | true=>exact ⟨rfl,hK,fun _ _ _=>rfl⟩
   | false=>exact ⟨rfl,hK,fun _ _ _=>rfl⟩
 | q + 1,hq,n,hn,K,hK=>by
   refine memo_turn (q:=q+1) (n:=n) (find:=fun K=>findF p st PT (fitsF p st PT q) (q+1) K n) (fun K hK=>?_) hK;unfold findF;rw [List.getElem?_eq_getElem hq,right_step hq];simp only
   cases h:okPt p st PT[q+1] n with
   | false=>exact ⟨rfl,hK,fun _ _ _=>rfl⟩
   | true =>
     rw [if_pos rfl,if_neg (by omega),Bool.true_and,Int.toNat_natCast]
     exact any_turn _ K (fun K x hx hK=>by
      obtain ⟨k,rfl,hk⟩:=related_nat hn hx
      exact fits_turn q (by omega) k hk K hK) hK
theorem ok_nil {p:List Nod} {st:List Stt} {PT:List Part} (Q:Nat):OkK p st PT Q []:=fun _ _ _=>.inl rfl
def lastM (p:List Nod) (st:List Stt) (PT:List Part) (n:Int):Bool:=elemB p n&&fitsS p st PT.reverse n.toNat
theorem last_m (p:List Nod) (st:List Stt) (PT:List Part) (hp:OkPg p) (hT:TreeP p) (hs:st.length≤1000000) (hPT:okPT PT) (n:Int):∃ K:K2,
 CallM Tryz.prog gt0 [] [(0,.cells (mtA p st PT)),(1,blkK [])] 2 109 [.ptr 0 0,.g (.int .i64 n)] (.g (.bool (lastM p st PT n))) [(0,.cells (mtA p st PT)),(1,blkK K)] 2:=by
 have HE:=element_p p n;have hlen:=hPT.1;unfold lastM
 cases he:elemB p n with
 | false =>
   refine ⟨[],?_⟩;refine callM_of_w (c:=_) Tryz.func109 rfl (by kernel_rfl) ?_;simp only [Tryz.f109,List.replicate,List.length_cons,List.length_nil,Nat.reduceAdd,Nat.reduceSub,List.cons_append,List.nil_append];rw [he] at HE;rw [Bool.false_and]
   (repeat ((first | with_reducible refine W.step (b:=false) ?_ | skip);simp only [go_sem,↓reduceIte,Nat.reduceAdd,Nat.reduceSub,Nat.reduceMul,Nat.reduceEqDiff,Nat.reduceLeDiff,Nat.reduceLT,Int.reduceLE,Int.reduceLT,Int.reduceToNat,Int.reduceEq];try with_reducible refine drawn hmix (by kernel_rfl) ?_))
   refine AtCall.mk HE ?_
   (repeat ((first | with_reducible refine W.step (b:=false) ?_ | skip);simp only [go_sem,↓reduceIte,Nat.reduceAdd,Nat.reduceSub,Nat.reduceMul,Nat.reduceEqDiff,Nat.reduceLeDiff,Nat.reduceLT,Int.reduceLE,Int.reduceLT,Int.reduceToNat,Int.reduceEq];try with_reducible refine drawn hmix (by kernel_rfl) ?_))
   exact ⟨.inr rfl,[.any,.any,.any,.any,(.g (.bool false)),.any,.any,.any,.any,.any,.any,.any,.any,.any,.any,.any,.any,.any,.any,.any,.any,.any,.any,.any,.any,.any,.any,.any,.any,.any,.any],pop_K rfl rfl (by simp [keepT_cons,keepT_nil,ltA]),rfl⟩
 | true =>
   rw [he] at HE;obtain ⟨k,rfl,hk,-⟩:=at_nat he;rw [Bool.true_and,Int.toNat_natCast]
   by_cases h0:0<PT.length
   ·obtain ⟨q,hq⟩:∃ q,PT.length=q+1:=⟨PT.length - 1,by omega⟩
    have hr:fitsS p st PT.reverse k=rightP p st PT q k:=by unfold rightP;rw [List.take_of_length_le (by omega)]
    obtain ⟨h1,-,-⟩:=fits_turn q (by omega) k hk [] (ok_nil (p:=p) (st:=st) (PT:=PT) _);have fw:IntKind.i64.wrap (((q+1:Nat):Int) - 1)=(q:Int):=by rw [IntWalk.i64_in _ (by omega)];omega
    refine ⟨(fitsF p st PT q [] k).2,?_⟩;have HF:=fits_m p st PT hp hT hs hPT q (by omega) [] k hk;rw [hr,←h1];refine callM_of_w (c:=_) Tryz.func109 rfl (by kernel_rfl) ?_;simp only [Tryz.f109,List.replicate,List.length_cons,List.length_nil,Nat.reduceAdd,Nat.reduceSub,List.cons_append,List.nil_append]
    (repeat ((first | with_reducible refine W.step (b:=false) ?_ | skip);simp only [go_sem,↓reduceIte,Nat.reduceAdd,Nat.reduceSub,Nat.reduceMul,Nat.reduceEqDiff,Nat.reduceLeDiff,Nat.reduceLT,Int.reduceLE,Int.reduceLT,Int.reduceToNat,Int.reduceEq];try with_reducible refine drawn hmix (by kernel_rfl) ?_))
    refine AtCall.mk HE ?_;have f1:((0:Int)<((q+1:Nat):Int))=True:=eq_true (by omega)
    (repeat ((first | with_reducible refine W.step (b:=false) ?_ | skip);simp only [go_sem,↓reduceIte,Nat.reduceAdd,Nat.reduceSub,Nat.reduceMul,Nat.reduceEqDiff,Nat.reduceLeDiff,Nat.reduceLT,Int.reduceLE,Int.reduceLT,Int.reduceToNat,Int.reduceEq,hq,fw,f1];try with_reducible refine drawn hmix (by kernel_rfl) ?_))
    refine AtCall.mem HF ?_
    (repeat ((first | with_reducible refine W.step (b:=false) ?_ | skip);simp only [go_sem,↓reduceIte,Nat.reduceAdd,Nat.reduceSub,Nat.reduceMul,Nat.reduceEqDiff,Nat.reduceLeDiff,Nat.reduceLT,Int.reduceLE,Int.reduceLT,Int.reduceToNat,Int.reduceEq];try with_reducible refine drawn hmix (by kernel_rfl) ?_))
    exact ⟨.inr rfl,[.any,.any,.any,.any,(.g (.bool (fitsF p st PT q [] k).1)),.any,.any,.any,.any,.any,.any,.any,.any,.any,.any,.any,.any,.any,.any,.any,.any,.any,.any,.any,.any,.any,.any,.any,.any,.any,.any],pop_K rfl rfl (by simp [keepT_cons,keepT_nil,ltA]),rfl⟩
   ·obtain rfl:PT=[]:=List.eq_nil_of_length_eq_zero (by omega)
    refine ⟨[],?_⟩;rw [show fitsS p st ([]:List Part).reverse k=false by rw [List.reverse_nil,fitsS]];refine callM_of_w (c:=_) Tryz.func109 rfl (by kernel_rfl) ?_;simp only [Tryz.f109,List.replicate,List.length_cons,List.length_nil,Nat.reduceAdd,Nat.reduceSub,List.cons_append,List.nil_append]
    (repeat ((first | with_reducible refine W.step (b:=false) ?_ | skip);simp only [go_sem,↓reduceIte,Nat.reduceAdd,Nat.reduceSub,Nat.reduceMul,Nat.reduceEqDiff,Nat.reduceLeDiff,Nat.reduceLT,Int.reduceLE,Int.reduceLT,Int.reduceToNat,Int.reduceEq];try with_reducible refine drawn hmix (by kernel_rfl) ?_))
    refine AtCall.mk HE ?_
    (repeat ((first | with_reducible refine W.step (b:=false) ?_ | skip);simp only [go_sem,↓reduceIte,Nat.reduceAdd,Nat.reduceSub,Nat.reduceMul,Nat.reduceEqDiff,Nat.reduceLeDiff,Nat.reduceLT,Int.reduceLE,Int.reduceLT,Int.reduceToNat,Int.reduceEq];try with_reducible refine drawn hmix (by kernel_rfl) ?_))
    exact ⟨.inr rfl,[.any,.any,.any,.any,(.g (.bool false)),.any,.any,.any,.any,.any,.any,.any,.any,.any,.any,.any,.any,.any,.any,.any,.any,.any,.any,.any,.any,.any,.any,.any,.any,.any,.any],pop_K rfl rfl (by simp [keepT_cons,keepT_nil,ltA]),rfl⟩
theorem tree_P {p:List Nod} (h:treeB p=true):TreeP p:=by
 unfold treeB at h;simp only [Bool.and_eq_true,Bool.not_eq_true',decide_eq_false_iff_not,decide_eq_true_eq,List.all_eq_true,List.mem_range,Bool.or_eq_true] at h;obtain ⟨h0,h1,h2,h3,h4,h5⟩:=h;refine ⟨fun n hn hl=>?_,fun _=>?_,fun _=>h1,h5⟩
 ·rcases h4 n hl with h | h
  ·omega
  ·exact h
 ·have hz:=congrArg ByteArray.size h2
  rw [ByteArray.size_append] at hz;have:(ndAt p 0).name.size=0:=by
   have:ByteArray.size ⟨#[]⟩=0:=rfl;omega
  exact ByteArray.size_eq_zero_iff.1 this
theorem bl_world (parts:List (Nat×AV)):evBuild Tryz.prog 249 parts=aggM (fillL [(0,1),(1,1)] [.g (.slice none 0 0),.g (.slice none 0 0)] parts):=evBuild_eq (by kernel_rfl) parts
theorem bl_mt (parts:List (Nat×AV)):evBuild Tryz.prog 252 parts=aggM (fillL [(0,2),(2,1),(3,1)] [.g (.slice none 0 0),.g (.slice none 0 0),.g (.slice none 0 0),.g (.map none)] parts):=evBuild_eq (by kernel_rfl) parts
attribute [go_sem] bl_world bl_mt
def swap2 (c:Nat):Nat:=if c=0 then 2 else c
theorem ren_of {l l':List AV} {a:AV} {st:List Stt} {PT:List Part} {x:Blk} (ha:noIds a=true) (hl:reT swap2 2 l' l) :
 VS gt0 ⟨[],memL [],0⟩ (stL l [(2,.cells [a,.sl st.length 2 (st.flatMap encSt),.sl PT.length 2 (PT.flatMap encP),.mp 1]),(1,.map [] 0),(0,x)] 3) (stL l' [(0,.cells [a,.sl st.length 2 (st.flatMap encSt),.sl PT.length 2 (PT.flatMap encP),.mp 1]),(1,blkK [])] 2):=by
 have get2:∀ {c:Nat} {k a b:Blk},getL [(0,a),(1,b)] c=some k→(c=0∧k=a)∨(c=1∧k=b):=by
  intro c k a b h;rw [getL] at h
  split at h
  ·rename_i e;cases h;exact .inl ⟨e.symm,rfl⟩
  ·rw [getL] at h
   split at h
   ·rename_i e;cases h;exact .inr ⟨e.symm,rfl⟩
   ·cases h
 refine VS.renF swap2 (fun c hc=>absurd hc (Nat.not_lt_zero _)) (fun _ _=>Nat.zero_le _) (Nat.zero_le _) (fun c c' k k' h h' e=>?_) (fun c k h=>?_) hl
 ·rcases get2 h with ⟨rfl,-⟩ | ⟨rfl,-⟩ <;> rcases get2 h' with ⟨rfl,-⟩ | ⟨rfl,-⟩ <;> first | rfl | (exact absurd e (by decide))
 ·rcases get2 h with ⟨rfl,rfl⟩ | ⟨rfl,rfl⟩
  ·refine ⟨by decide,?_,?_⟩
   ·simp only [ltB,ltL,ltA_id 2 a ha,ltA,true_and,and_true];decide
   ·rw [show swap2 0=2 from rfl,getL,if_pos rfl]
    simp only [reFB,reFL,reF_id _ a ha,reF]
    rfl
  ·exact ⟨by decide,by simp [blkK,encK,ltB,ltE],rfl⟩
def pageM (p:List Nod):List Nod:=if treeB p=true then p else []
set_option maxRecDepth 100000 in
set_option maxHeartbeats 4000000 in
theorem of_m (p:List Nod) (st:List Stt) (PT:List Part) (s:ByteArray) (hp:OkPg p):CallM Tryz.prog gt0 [] [] 0 108 [.sl p.length 5 (p.flatMap encNd),.sl st.length 2 (st.flatMap encSt),.agg [.sl PT.length 2 (PT.flatMap encP),.g (.string s)]] (.ptr 0 0) [(0,.cells (mtA (pageM p) st PT)),(1,blkK [])] 2:=by
 have HT:=tree_p p hp;unfold pageM;refine callM_of_w (c:=_) Tryz.func108 rfl (by kernel_rfl) ?_;simp only [Tryz.f108,List.replicate,List.length_cons,List.length_nil,Nat.reduceAdd,Nat.reduceSub,List.cons_append,List.nil_append]
 (repeat ((first | with_reducible refine W.step (b:=false) ?_ | skip);simp only [go_sem,↓reduceIte,Nat.reduceAdd,Nat.reduceSub,Nat.reduceMul,Nat.reduceEqDiff,Nat.reduceLeDiff,Nat.reduceLT,Int.reduceLE,Int.reduceLT,Int.reduceToNat,Int.reduceEq];try with_reducible refine drawn hmix (by kernel_rfl) ?_))
 refine AtCall.mk HT ?_
 cases ht:treeB p with
 | true =>
   rw [if_pos rfl]
   (repeat ((first | with_reducible refine W.step (b:=false) ?_ | skip);simp only [go_sem,↓reduceIte,Nat.reduceAdd,Nat.reduceSub,Nat.reduceMul,Nat.reduceEqDiff,Nat.reduceLeDiff,Nat.reduceLT,Int.reduceLE,Int.reduceLT,Int.reduceToNat,Int.reduceEq];try with_reducible refine drawn hmix (by kernel_rfl) ?_))
   exact ⟨.inr rfl,[.any,.any,.any,.any,.any,.any,(.ptr 0 0),.any,.any,.any,.any,.any,.any,.any,.any,.any,.any,.any],ren_of rfl (by simp [reT_cons,reT_nil,reF,swap2,ltA]),rfl⟩
 | false =>
   rw [if_neg (by decide)]
   (repeat ((first | with_reducible refine W.step (b:=false) ?_ | skip);simp only [go_sem,↓reduceIte,Nat.reduceAdd,Nat.reduceSub,Nat.reduceMul,Nat.reduceEqDiff,Nat.reduceLeDiff,Nat.reduceLT,Int.reduceLE,Int.reduceLT,Int.reduceToNat,Int.reduceEq];try with_reducible refine drawn hmix (by kernel_rfl) ?_))
   refine ⟨.inr rfl,[.any,.any,.any,.any,.any,.any,(.ptr 0 0),.any,.any,.any,.any,.any,.any,.any,.any,.any,.any,.any],VS.trans (ren_of rfl (by simp [reT_cons,reT_nil,reF,swap2,ltA])) (VS.weak (wkL.refl _) ⟨.inr ⟨_,_,rfl,by rw [getL,if_pos rfl],?_⟩,?_⟩),rfl⟩
   ·exact ⟨_,_,rfl,wkA.nil 5,wkL.refl _⟩
   ·exact ⟨.inl rfl,trivial⟩
theorem reE_K (g:Nat→Nat):∀ (K:K2) (o:Nat),reFE g (encK o K)=encK o K
 | [],_=>rfl
 | e::K,o=>by rw [encK,reFE,reE_K g K,keyA,reF_id _ _ rfl,reF_id _ _ rfl]
theorem reB_K (g:Nat→Nat) (K:K2):reFB g (blkK K)=blkK K:=by unfold blkK;rw [reFB,reE_K]
theorem last_is {p:List Nod} {st:List Stt} {c:Cx} {n:Int}:lastM (pageM p) st c.parts n=(treeB p&&isM p st c n):=by
 unfold pageM
 cases h:treeB p with
 | true=>rw [if_pos rfl,Bool.true_and];rfl
 | false =>
   rw [if_neg (by decide),Bool.false_and];unfold lastM;have:elemB [] n=false:=by
    unfold elemB
    by_cases h0:(0:Int)≤n
    ·rw [decide_eq_false (show ¬n<((([]:List Nod).length:Nat):Int) by simp;omega)];simp
    ·rw [decide_eq_false h0];rfl
   rw [this];rfl
theorem page_ok {p:List Nod} (hp:OkPg p):OkPg (pageM p)∧TreeP (pageM p):=by
 unfold pageM
 cases h:treeB p with
 | true=>rw [if_pos rfl];exact ⟨hp,tree_P h⟩
 | false =>
   rw [if_neg (by decide)];exact ⟨⟨by simp,by simp,by simp,by simp,by simp⟩,⟨fun n h1 h2=>by simp at h2,fun h=>absurd rfl h,fun h=>by simp at h,fun n h=>by simp at h⟩⟩
set_option maxRecDepth 100000 in
set_option maxHeartbeats 4000000 in
theorem is_p (p:List Nod) (st:List Stt) (n:Int) (c:Cx) (hp:OkPg p) (hs:st.length≤1000000) (hc:okPT c.parts):PureN Tryz.prog gt0 53 [.sl p.length 5 (p.flatMap encNd),.sl st.length 2 (st.flatMap encSt),.g (.int .i64 n),.agg (encC c)] (.g (.bool (treeB p&&isM p st c n))):=by
 obtain ⟨hp1,hT⟩:=page_ok hp;obtain ⟨K,HL⟩:=last_m (pageM p) st c.parts hp1 hT hs hc n;rw [last_is] at HL;have HO:=of_m p st c.parts c.pseudo hp;generalize pageM p=pg at *;generalize hr:(treeB p&&isM p st c n)=R at *;have HO':=CallM.at (rd:=[]) (m:=[(0,.cells [.sl c.parts.length 2 (c.parts.flatMap encP),.g (.string c.pseudo)])]) (n:=1) (q:=[]) HO rfl (ltL_id 0 _ rfl) trivial trivial ⟨.inl (Nat.zero_le _),.inl (Nat.zero_le _),trivial⟩;have HL':=CallM.at (rd:=[]) (m:=[(1,.cells [.sl pg.length 5 (pg.flatMap encNd),.sl st.length 2 (st.flatMap encSt),.sl c.parts.length 2 (c.parts.flatMap encP),.mp 2]),(2,blkK []),(0,.cells [.sl c.parts.length 2 (c.parts.flatMap encP),.g (.string c.pseudo)])]) (n:=3) (q:=[(0,1),(1,2)]) HL rfl (by simp [ltL,ltA]) (by simp [inM,fnm,lk,ltB,ltL,ltA,blkK,encK,ltE,getL,reFB,reFL,reF,reFE]) (by simp [injM,fnm,lk];rfl) (by simp [subM]);simp only [afterL,fnm,lk,reFL,reF,reFB,reFE,reB_K,List.map_cons,List.map_nil] at HO' HL';refine PureN.of_w (c:=_) Tryz.func53 rfl (by kernel_rfl) rfl ?_;simp only [Tryz.f53,encC,List.replicate,List.length_cons,List.length_nil,Nat.reduceAdd,Nat.reduceSub,List.cons_append,List.nil_append]
 (repeat ((first | with_reducible refine W.step (b:=false) ?_ | skip);simp only [go_sem,↓reduceIte,Nat.reduceAdd,Nat.reduceSub,Nat.reduceMul,Nat.reduceEqDiff,Nat.reduceLeDiff,Nat.reduceLT,Int.reduceLE,Int.reduceLT,Int.reduceToNat,Int.reduceEq];try with_reducible refine drawn hmix (by kernel_rfl) ?_))
 refine AtCall.mem HO' ?_
 (repeat ((first | with_reducible refine W.step (b:=false) ?_ | skip);simp only [go_sem,↓reduceIte,Nat.reduceAdd,Nat.reduceSub,Nat.reduceMul,Nat.reduceEqDiff,Nat.reduceLeDiff,Nat.reduceLT,Int.reduceLE,Int.reduceLT,Int.reduceToNat,Int.reduceEq];try with_reducible refine drawn hmix (by kernel_rfl) ?_))
 refine AtCall.mem HL' ?_
 (repeat ((first | with_reducible refine W.step (b:=false) ?_ | skip);simp only [go_sem,↓reduceIte,Nat.reduceAdd,Nat.reduceSub,Nat.reduceMul,Nat.reduceEqDiff,Nat.reduceLeDiff,Nat.reduceLT,Int.reduceLE,Int.reduceLT,Int.reduceToNat,Int.reduceEq];try with_reducible refine drawn hmix (by kernel_rfl) ?_))
 exact postP_one _ (.inr rfl) rfl (.plain rfl)
attribute [go_sem] appL newsA isSlice
theorem ag_key:aggO Tryz.prog 162=some (true,2):=by kernel_rfl
theorem bl_key (parts:List (Nat×AV)):evBuild Tryz.prog 162 parts=aggM (fillL [(0,1),(1,1)] [.g (.int .i64 0),.g (.string ⟨#[]⟩)] parts):=evBuild_eq (by kernel_rfl) parts
theorem sz_key:szO Tryz.prog 162=some 2:=by kernel_rfl
theorem ze_key:zeroO Tryz.prog 162=some [.g (.int .i64 0),.g (.string ⟨#[]⟩)]:=by kernel_rfl
theorem zi_int:zeroO Tryz.prog 3=some [.g (.int .i64 0)]:=by kernel_rfl
theorem ze_simp6:zeroO Tryz.prog 239=some [.g (.int .i64 0),.g (.string ⟨#[]⟩),.g (.string ⟨#[]⟩),.g (.int .i64 0),.g (.int .i64 0),.g (.slice none 0 0)]:=by kernel_rfl
attribute [go_sem] ze_simp6 ag_key bl_key sz_key ze_key zi_int
theorem VSdrop {GT:GTab} {l l':List AV} {m m':ML} {n n':Nat} (hm:∀ p∈m',p.1<n'∧ltB n' p.2∧getL m p.1=some p.2) (hl:keepT n' l' l):VS GT .none (stL l m n) (stL l' m' n') :=
 VS.drop (fun c k hc=>hm (c,k) (getL_mem hc)) hl
def keyW:List Int→List Simp→Int×ByteArray
 | [],_=>(0,⟨#[]⟩)
 | k::ks,l=>match l.find? (fun x=>decide (x.kind=k)) with
   | some x=>(k,x.name)
   | none=>keyW ks l
theorem keyW_eq (l:List Simp):keyS l=keyW [3,4,2] l:=by
 unfold keyS;rw [keyW,keyW,keyW,keyW]
 rfl
theorem keyCl_m (k:Int) (y:Simp) (m:ML) (nn q1:Nat) (l1:q1<nn) (h1:getL m q1=some (.cells [.g (.int .i64 k)])) :
 CallM Tryz.prog gt0 [] m nn 167 [.agg (encS y),.ptr q1 0] (.g (.bool (decide (y.kind=k)))) m nn:=by
 obtain ⟨kind,name,value,a,b,l⟩:=y;rw [encS_m];have g1:(nn=q1)=False:=eq_false (by omega);refine callM_of_w (c:=_) Tryz.func167 rfl (by kernel_rfl) ?_;simp only [Tryz.f167,List.replicate,List.length_cons,List.length_nil,Nat.reduceAdd,Nat.reduceSub,List.cons_append,List.nil_append]
 (repeat ((first | with_reducible refine W.step (b:=false) ?_ | skip);simp only [go_sem,↓reduceIte,Nat.reduceAdd,Nat.reduceSub,Nat.reduceMul,Nat.reduceEqDiff,Nat.reduceLeDiff,Nat.reduceLT,Int.reduceLE,Int.reduceLT,Int.reduceToNat,Int.reduceEq,h1,g1];try with_reducible refine drawn hmix (by kernel_rfl) ?_))
 exact ⟨.inr rfl,[.any,.any,.any,(.g (.bool (decide (kind=k)))),.any,.any,.any,.any],VS.pop (fun c x hn hc=>by rw [getL,if_neg (by omega)];exact hc) (by simp [keepT_cons,keepT_nil,ltA]),rfl⟩
theorem lenSq (x:Simp):(encS x).length=6:=by cases x;rw [encS_m];rfl
theorem rowSq {l:List Simp} {k:Nat} (hk:k<l.length):(l.flatMap encS)[k*6]?=some (.g (.int .i64 l[k].kind))∧(l.flatMap encS)[k*6+1]?=some (.g (.string l[k].name)):=by
 have h:=flat_get encS 6 lenSq l k hk;obtain ⟨a,b,e⟩:∃ a b,encS l[k]=[.g (.int .i64 l[k].kind),.g (.string l[k].name),.g (.string l[k].value),.g (.int .i64 a),.g (.int .i64 b),.sl l[k].l.length 6 (l[k].l.flatMap encS)]:=by
  cases hx:l[k];exact ⟨_,_,encS_m _ _ _ _ _ _⟩
 rw [e] at h;exact ⟨h 0 (by decide),h 1 (by decide)⟩
theorem rowSr {l:List Simp} {k:Nat} (hk:k<l.length):∃ a b,((l.flatMap encS).drop (k*6)).take 6=[.g (.int .i64 l[k].kind),.g (.string l[k].name),.g (.string l[k].value),.g (.int .i64 a),.g (.int .i64 b),.sl l[k].l.length 6 (l[k].l.flatMap encS)]∧k*6+6≤(l.flatMap encS).length:=by
 have h:=row_part encS 6 lenSq l k hk 0 6 (by decide);have h2:=row_fit encS 6 lenSq l k hk (j:=0) (c:=6) (by decide);obtain ⟨a,b,e⟩:∃ a b,encS l[k]=[.g (.int .i64 l[k].kind),.g (.string l[k].name),.g (.string l[k].value),.g (.int .i64 a),.g (.int .i64 b),.sl l[k].l.length 6 (l[k].l.flatMap encS)]:=by
  cases hx:l[k];exact ⟨_,_,encS_m _ _ _ _ _ _⟩
 rw [e] at h;exact ⟨a,b,h,h2⟩
theorem rowPq {l:List Part} {k:Nat} (hk:k<l.length):(l.flatMap encP)[k*2]?=some (.g (.int .i64 l[k].comb))∧(l.flatMap encP)[k*2+1]?=some (.sl l[k].l.length 6 (l[k].l.flatMap encS)):=by
 have h:=flat_get encP 2 (fun _=>rfl) l k hk;exact ⟨h 0 (by decide),h 1 (by decide)⟩
set_option maxRecDepth 100000 in
set_option maxHeartbeats 4000000 in
theorem keyOf_p (c:Cx) (hc:okPT c.parts):PureN Tryz.prog gt0 99 [.agg (encC c)] (.agg [.g (.int .i64 (keyM c).1),.g (.string (keyM c).2)]):=by
 have hlen:=hc.1;refine PureN.of_w (c:=_) Tryz.func99 rfl (by kernel_rfl) rfl ?_;simp only [Tryz.f99,encC,List.replicate,List.length_cons,List.length_nil,Nat.reduceAdd,Nat.reduceSub,List.cons_append,List.nil_append]
 by_cases h0:c.parts.length=0
 ·have f0:((c.parts.length:Int)=0)=True:=eq_true (by omega)
  have hk:keyM c=(0,⟨#[]⟩):=by unfold keyM;rw [List.eq_nil_of_length_eq_zero h0];rfl
  rw [hk]
  (repeat ((first | with_reducible refine W.step (b:=false) ?_ | skip);simp only [go_sem,↓reduceIte,Nat.reduceAdd,Nat.reduceSub,Nat.reduceMul,Nat.reduceEqDiff,Nat.reduceLeDiff,Nat.reduceLT,Int.reduceLE,Int.reduceLT,Int.reduceToNat,Int.reduceEq,f0];try with_reducible refine drawn hmix (by kernel_rfl) ?_))
  exact postP_one _ (.inr rfl) (by unfold resV;simp only [go_sem,↓reduceIte,Nat.reduceAdd,Nat.reduceSub,Nat.reduceMul,Nat.reduceEqDiff,Nat.reduceLeDiff,Nat.reduceLT,Int.reduceLE,Int.reduceLT,Int.reduceToNat,Int.reduceEq]) (SealTo.agg (by simp [plainA]))
 ·have f0:((c.parts.length:Int)=0)=False:=eq_false (by omega)
  obtain ⟨q,hq⟩:∃ q,c.parts.length=q+1:=⟨c.parts.length - 1,by omega⟩;have hlt:q<c.parts.length:=by omega
  have rp:=rowPq hlt;have hk:keyM c=keyW [3,4,2] c.parts[q].l:=by
   rw [←keyW_eq];unfold keyM;rw [List.getLast?_eq_getElem?,show c.parts.length - 1=q by omega,List.getElem?_eq_getElem hlt]
  obtain ⟨hl1,hl2⟩:=hc.2 _ (List.getElem_mem hlt);rw [hk];clear hk;generalize c.parts[q].l=l at *;generalize c.parts[q].comb=comb at *;have fw:IntKind.i64.wrap (((q+1:Nat):Int) - 1)=(q:Int):=by rw [IntWalk.i64_in _ (by omega)];omega
  have fl:q<q+1:=Nat.lt_succ_self q;generalize c.parts.flatMap encP=PC at *;generalize c.parts.length=N at *;subst hq;obtain ⟨R1,R2,hR⟩:∃ R1 R2,keyW [3,4,2] l=(R1,R2):=⟨_,_,rfl⟩;rw [hR]
  (repeat ((first | with_reducible refine W.step (b:=false) ?_ | skip);simp only [go_sem,↓reduceIte,Nat.reduceAdd,Nat.reduceSub,Nat.reduceMul,Nat.reduceEqDiff,Nat.reduceLeDiff,Nat.reduceLT,Int.reduceLE,Int.reduceLT,Int.reduceToNat,Int.reduceEq,f0,rp,fw,fl];try with_reducible refine drawn hmix (by kernel_rfl) ?_))
  refine W.loop (s1:=stL [(.agg [.sl (q+1) 2 PC,.g (.string c.pseudo)]),(.ptr 0 0),(.ptr 1 0),(.sl l.length 6 (l.flatMap encS)),.any,.any,.any,.any,.any,.any,.any,.any,.any,.any,.any,.any,.any,.any,.any,.any,.any,(.gs 2 0 3 1 3),(.g (.int .i64 3)),(.g (.int .i64 ((0:Nat):Int))),.any,.any,.any,.any,.any,.any,.any,.any,.any,.any,.any,.any,.any,.any,.any,.any,.any] [(2,.cells [.g (.int .i64 3),.g (.int .i64 4),.g (.int .i64 2)]),(1,.cells [.g (.int .i64 0),.g (.string ⟨#[]⟩)]),(0,.cells [.sl (q+1) 2 PC,.g (.string c.pseudo)])] 3)
   (fun (k:Nat) t=>k≤3∧(R1,R2)=keyW (([3,4,2]:List Int).drop k) l∧t=stL [(.agg [.sl (q+1) 2 PC,.g (.string c.pseudo)]),(.ptr 0 0),(.ptr 1 0),(.sl l.length 6 (l.flatMap encS)),.any,.any,.any,.any,.any,.any,.any,.any,.any,.any,.any,.any,.any,.any,.any,.any,.any,(.gs 2 0 3 1 3),(.g (.int .i64 3)),(.g (.int .i64 (k:Int))),.any,.any,.any,.any,.any,.any,.any,.any,.any,.any,.any,.any,.any,.any,.any,.any,.any] [(2,.cells [.g (.int .i64 3),.g (.int .i64 4),.g (.int .i64 2)]),(1,.cells [.g (.int .i64 0),.g (.string ⟨#[]⟩)]),(0,.cells [.sl (q+1) 2 PC,.g (.string c.pseudo)])] 3) (fun k=>3 - k) 0 ⟨by decide,hR.symm,rfl⟩ (VS.tm (by simp [leL])) ?_
  rintro k t ⟨hk3,he,rfl⟩;clear hR
  by_cases hk:k<3
  ·obtain ⟨kd,hkd⟩:∃ kd,(([3,4,2]:List Int)[k]?=some kd):=⟨_,List.getElem?_eq_getElem hk⟩
   have r:([.g (.int .i64 3),.g (.int .i64 4),.g (.int .i64 2)]:List AV)[k]?=some (.g (.int .i64 kd)):=by
    rw [show ([.g (.int .i64 3),.g (.int .i64 4),.g (.int .i64 2)]:List AV)=([3,4,2]:List Int).map fun z=>AV.g (.int .i64 z) from rfl,List.getElem?_map,hkd];rfl
   have hd:([3,4,2]:List Int).drop k=kd::([3,4,2]:List Int).drop (k+1):=by
    rw [List.drop_eq_getElem_cons hk];rw [List.getElem?_eq_getElem hk] at hkd;rw [Option.some.inj hkd]
   have fk:((k:Int)<3)=True:=eq_true (by omega);rw [hd,keyW] at he
   (repeat ((first | with_reducible refine W.step (b:=false) ?_ | skip);simp only [go_sem,↓reduceIte,Nat.reduceAdd,Nat.reduceSub,Nat.reduceMul,Nat.reduceEqDiff,Nat.reduceLeDiff,Nat.reduceLT,Int.reduceLE,Int.reduceLT,Int.reduceToNat,Int.reduceEq,hk,r,fk];try with_reducible refine drawn hmix (by kernel_rfl) ?_))
   refine AtCall.mem (idxFS_m l hl1 (fun y=>decide (y.kind=kd)) _ [.ptr 3 0] _ 4 fun y hy=>keyCl_m kd y _ 4 3 (by decide) rfl) ?_;rcases find_idx (fun y:Simp=>decide (y.kind=kd)) l with ⟨e1,e2⟩ | ⟨i,hi,e1,e2⟩
   ·rw [e1]
    rw [e2] at he
    (repeat ((first | with_reducible refine W.step (b:=false) ?_ | skip);simp only [go_sem,↓reduceIte,Nat.reduceAdd,Nat.reduceSub,Nat.reduceMul,Nat.reduceEqDiff,Nat.reduceLeDiff,Nat.reduceLT,Int.reduceLE,Int.reduceLT,Int.reduceToNat,Int.reduceEq];try with_reducible refine drawn hmix (by kernel_rfl) ?_))
    refine ⟨k+1,_,⟨by omega,he,rfl⟩,by show 3 - (k+1)<3 - k;omega,?_⟩;rw [up1 (by omega)];exact VSdrop (by simp [ltB,ltL,ltA,getL]) (by simp [keepT_cons,keepT_nil,ltA,ltL])
   ·rw [e1]
    rw [e2] at he;simp only [Prod.mk.injEq] at he;obtain ⟨rfl,rfl⟩:=he;obtain ⟨ra,rb⟩:=rowSq hi;have fi:((0:Int)≤(i:Int))=True:=eq_true (by omega)
    (repeat ((first | with_reducible refine W.step (b:=true) ?_ | skip);simp only [go_sem,↓reduceIte,Nat.reduceAdd,Nat.reduceSub,Nat.reduceMul,Nat.reduceEqDiff,Nat.reduceLeDiff,Nat.reduceLT,Int.reduceLE,Int.reduceLT,Int.reduceToNat,Int.reduceEq,fi,hi,rb];(try with_reducible refine drawn hmix (by kernel_rfl) ?_);try with_reducible refine ⟨by kernel_rfl,?_⟩))
    exact postP_one _ (.inr rfl) (by unfold resV;simp only [go_sem,↓reduceIte,Nat.reduceAdd,Nat.reduceSub,Nat.reduceMul,Nat.reduceEqDiff,Nat.reduceLeDiff,Nat.reduceLT,Int.reduceLE,Int.reduceLT,Int.reduceToNat,Int.reduceEq]) (SealTo.agg (by simp [plainA]))
  ·have fk:((k:Int)<3)=False:=eq_false (by omega)
   have:k=3:=by omega
   subst this;rw [show ([3,4,2]:List Int).drop 3=[] from rfl,keyW,Prod.mk.injEq] at he;obtain ⟨rfl,rfl⟩:=he
   (repeat ((first | with_reducible refine W.step (b:=false) ?_ | skip);simp only [go_sem,↓reduceIte,Nat.reduceAdd,Nat.reduceSub,Nat.reduceMul,Nat.reduceEqDiff,Nat.reduceLeDiff,Nat.reduceLT,Int.reduceLE,Int.reduceLT,Int.reduceToNat,Int.reduceEq,fk];try with_reducible refine drawn hmix (by kernel_rfl) ?_))
   exact postP_one _ (.inr rfl) (by unfold resV;simp only [go_sem,↓reduceIte,Nat.reduceAdd,Nat.reduceSub,Nat.reduceMul,Nat.reduceEqDiff,Nat.reduceLeDiff,Nat.reduceLT,Int.reduceLE,Int.reduceLT,Int.reduceToNat,Int.reduceEq]) (SealTo.agg (by simp [plainA]))
mutual
theorem nmA_id (S:Nat→Prop):∀ (a:AV),noIds a=true→nmA S a
 | .ptr _ _,h=>by simp [noIds] at h
 | .gs _ _ _ _ _,h=>by simp [noIds] at h
 | .mp _,h=>by simp [noIds] at h
 | .fn f x y,h=>by simp only [noIds,Bool.and_eq_true] at h;rw [nmA];exact ⟨nmL_id S x h.1,nmL_id S y h.2⟩
 | .agg x,h=>by simp only [noIds] at h;rw [nmA];exact nmL_id S x h
 | .tup x,h=>by simp only [noIds] at h;rw [nmA];exact nmL_id S x h
 | .ifc t x,h=>by simp only [noIds] at h;rw [nmA];exact nmA_id S x h
 | .any,_=>by simp [nmA]
 | .g _,_=>by simp [nmA]
 | .ept _ _,_=>by simp [nmA]
 | .sl _ _ _,_=>by simp [nmA]
 | .z0,_=>by simp [nmA]
theorem nmL_id (S:Nat→Prop):∀ (x:List AV),noIdsL x=true→nmL S x
 | [],_=>by rw [nmL];trivial
 | a::r,h=>by simp only [noIdsL,Bool.and_eq_true] at h;rw [nmL];exact ⟨nmA_id S a h.1,nmL_id S r h.2⟩
end
theorem ltA_own1 {sz:Nat} {r:List ByteArray}:ltA 2 (ownA 1 sz 0 r):=ltA_own (b0:=1) (N:=1) Nat.zero_lt_one
theorem rows_drop {GT:GTab} {acc:List ByteArray} {cs:List AV} {B:Blk} {n:Nat} {l l':List AV} (hcs:noIdsL cs=true) (hl:keepT 2 l' l) :
 VS GT .none (stL l ((2,B)::(0,.cells cs)::rowsM encN 1 (fun _=>acc) 1) n) (stL l' ((0,.cells cs)::rowsM encN 1 (fun _=>acc) 1) 2):=by
 refine VS.drop (fun c x hc=>?_) hl;rw [getL] at hc
 split at hc
 ·rename_i h;subst h;cases hc
  exact ⟨by decide,ltL_id _ _ hcs,by simp [getL]⟩
 ·rename_i h0
  have hx:=hc;rw [rowsM_get] at hc
  split at hc
  ·rename_i h
   cases hc
   refine ⟨by omega,ltL_id _ _ (noIdsL_flat (fun _=>rfl) _),?_⟩;rw [getL,if_neg (by omega),getL,if_neg h0];exact hx
  ·cases hc
theorem rows_grow {GT:GTab} {acc:List ByteArray} {cs:List AV} {m:ML} {n nn:Nat} {l l':List AV} (hcs:noIdsL cs=true) (hnn:2≤nn) (h0:getL m 0=some (.cells cs)) (h1:getL m nn=some (.cells (acc.flatMap encN))) (hT:reT (ownH 1 0 nn) 2 l' l) :
 VS GT .none (stL l m n) (stL l' ((0,.cells cs)::rowsM encN 1 (fun _=>acc) 1) 2):=by
 refine VS.grow (enc:=encN) (F:=[(0,.cells cs)]) 1 hnn (fun _=>rfl) (fun c x hc=>?_) h1 hT;rw [getL] at hc
 split at hc
 ·rename_i h;subst h;cases hc
  exact ⟨by decide,nmL_id _ _ hcs,h0⟩
 ·cases hc
def simps (PT:List Part):Nat:=(PT.map fun p=>p.l.length).sum
theorem wordsR_step {PT:List Part} {i:Nat} (h:i+1<PT.length):wordsR (PT.take (i+2)).reverse=if PT[i+1].comb=1∨PT[i+1].comb=2 then wordsS PT[i].l++wordsR (PT.take (i+1)).reverse else []:=by
 rw [List.take_succ_eq_append_getElem h,List.reverse_append,List.reverse_singleton,List.singleton_append];rw [List.take_succ_eq_append_getElem (show i<PT.length by omega),List.reverse_append,List.reverse_singleton,List.singleton_append,wordsR]
theorem wordsR_one {PT:List Part}:wordsR (PT.take 1).reverse=[]:=by
 cases PT with
 | nil=>rfl
 | cons x l=>rfl
theorem wordsS_step {l:List Simp} {j:Nat} (h:j<l.length):wordsS (l.take (j+1))=wordsS (l.take j)++if wordM l[j].kind l[j].name=⟨#[]⟩ then [] else [wordM l[j].kind l[j].name]:=by
 unfold wordsS;rw [List.take_succ_eq_append_getElem h,List.map_append,List.filter_append]
 congr 1
 by_cases hw:wordM l[j].kind l[j].name=⟨#[]⟩
 ·rw [if_pos hw,List.map_singleton,List.filter_cons,decide_eq_true hw];rfl
 ·rw [if_neg hw,List.map_singleton,List.filter_cons,decide_eq_false hw];rfl
theorem simps_step {PT:List Part} {i:Nat} (h:i<PT.length):simps (PT.take (i+1))=simps (PT.take i)+PT[i].l.length:=by
 unfold simps;rw [List.take_succ_eq_append_getElem h,List.map_append,List.sum_append];simp
set_option maxRecDepth 100000 in
set_option maxHeartbeats 4000000 in
theorem words_p (c:Cx) (hc:okPT c.parts) (hs:simps c.parts≤1000000) (hnm:∀ pt∈c.parts,∀ x∈pt.l,x.name.size≤1000000):PureN Tryz.prog gt0 100 [.agg (encC c)] (.sl (wordsC c).length 1 ((wordsC c).flatMap encN)):=by
 have hlen:=hc.1;refine PureN.of_w2 (c:=_) Tryz.func100 rfl (by kernel_rfl) rfl ?_;simp only [Tryz.f100,encC,List.replicate,List.length_cons,List.length_nil,Nat.reduceAdd,Nat.reduceSub,List.cons_append,List.nil_append]
 (repeat ((first | with_reducible refine W.step (b:=false) ?_ | skip);simp only [go_sem,↓reduceIte,Nat.reduceAdd,Nat.reduceSub,Nat.reduceMul,Nat.reduceEqDiff,Nat.reduceLeDiff,Nat.reduceLT,Int.reduceLE,Int.reduceLT,Int.reduceToNat,Int.reduceEq];try with_reducible refine drawn hmix (by kernel_rfl) ?_))
 by_cases h0:c.parts.length=0
 ·have fm:IntKind.i64.wrap (0 - 1)=-1:=by rw [IntWalk.i64_in _ (by omega)];rfl
  have hc0:wordsC c=[]:=by unfold wordsC;rw [List.eq_nil_of_length_eq_zero h0];rfl
  rw [hc0,h0];simp only [Int.natCast_zero,fm];refine W.loop (s1:=stL [.any,.any,(.g (.slice none 0 0)),(.g (.slice none 0 0)),(.g (.int .i64 (-1))),.any,.any,.any,.any,.any,.any,.any,.any,.any,.any,.any,.any,.any,.any,.any,.any,.any,.any,.any,.any,.any,.any,.any,.any,.any,.any,.any,.any,.any,.any,.any,.any,.any,.any,.any,.any,.any,.any,.any,.any,.any,.any,.any,.any,.any,.any,.any,.any,.any] [] 0) (fun (_:Unit) t=>t=stL [.any,.any,(.g (.slice none 0 0)),(.g (.slice none 0 0)),(.g (.int .i64 (-1))),.any,.any,.any,.any,.any,.any,.any,.any,.any,.any,.any,.any,.any,.any,.any,.any,.any,.any,.any,.any,.any,.any,.any,.any,.any,.any,.any,.any,.any,.any,.any,.any,.any,.any,.any,.any,.any,.any,.any,.any,.any,.any,.any,.any,.any,.any,.any,.any,.any] [] 0) (fun _=>0) () rfl (VSdrop (by simp) (by simp [keepT_cons,keepT_nil,ltA])) ?_;rintro _ t rfl
  (repeat ((first | with_reducible refine W.step (b:=false) ?_ | skip);simp only [go_sem,↓reduceIte,Nat.reduceAdd,Nat.reduceSub,Nat.reduceMul,Nat.reduceEqDiff,Nat.reduceLeDiff,Nat.reduceLT,Int.reduceLE,Int.reduceLT,Int.reduceToNat,Int.reduceEq];try with_reducible refine drawn hmix (by kernel_rfl) ?_))
  exact postV_nil 1 _ (.inr rfl) rfl
 obtain ⟨q,hq⟩:∃ q,c.parts.length=q+1:=⟨c.parts.length - 1,by omega⟩;have fw:IntKind.i64.wrap (((q+1:Nat):Int) - 1)=(q:Int):=by rw [IntWalk.i64_in _ (by omega)];omega
 have hW:wordsC c=wordsR (c.parts.take (q+1)).reverse:=by unfold wordsC;rw [List.take_of_length_le (by omega)]
 obtain ⟨Wd,hWd⟩:∃ Wd,wordsC c=Wd:=⟨_,rfl⟩;rw [hWd] at hW ⊢;have hsum:simps (c.parts.take q)≤1000000:=by
  have:=simps_step (PT:=c.parts) (i:=q) (by omega);rw [List.take_of_length_le (by omega)] at this;omega
 rw [hq,fw];rw [hq] at hlen;generalize c.pseudo=ps;generalize c.parts=PT at *;have fin:∀ (acc:List ByteArray) (l:List AV),l[2]?=some (ownA 1 1 0 acc)→postV Tryz.prog gt0 [.tmp 2] (.sl acc.length 1 (acc.flatMap encN)) .ret (stL l ((0,.cells [.sl (q+1) 2 (PT.flatMap encP),.g (.string ps)])::rowsM encN 1 (fun _=>acc) 1) 2):=by
  intro acc l hl
  by_cases hnil:acc=[]
  ·subst hnil
   exact postV_nil 1 _ (.inr rfl) hl
  ·have hacc:=rows_one (enc:=encN) (b0:=1) hnil
   rw [ownA_pos hnil] at hl;rw [hacc]
   have hs:=SealTo.gs (m:=[(0,.cells [.sl (q+1) 2 (PT.flatMap encP),.g (.string ps)]),(1,.cells (acc.flatMap encN))]) (b:=1+0) (o:=0) (k:=acc.length) (sz:=1) (c:=acc.length) (cs:=acc.flatMap encN) rfl (by rw [lenN];omega) (fun a ha=>by
    have ha:=List.mem_of_mem_drop (List.mem_of_mem_take ha);obtain ⟨x,-,hx⟩:=List.mem_flatMap.1 ha
    simp [encN] at hx;subst hx;rfl)
   rw [List.drop_zero,List.take_of_length_le (by rw [lenN];omega)] at hs;exact postV.of (postP_one _ (.inr rfl) (by rw [resV,List.getD_eq_getElem?_getD,hl];rfl) hs)
 refine W.loop (s1:=stL [(.agg [.sl (q+1) 2 (PT.flatMap encP),.g (.string ps)]),(.ptr 0 0),(.g (.slice none 0 0)),(ownA 1 1 0 []),(.g (.int .i64 (q:Int))),.any,.any,.any,.any,.any,.any,.any,.any,.any,.any,.any,.any,.any,.any,.any,.any,.any,.any,.any,.any,.any,.any,.any,.any,.any,.any,.any,.any,.any,.any,.any,.any,.any,.any,.any,.any,.any,.any,.any,.any,.any,.any,.any,.any,.any,.any,.any,.any,.any] ((0,.cells [.sl (q+1) 2 (PT.flatMap encP),.g (.string ps)])::rowsM encN 1 (fun _=>[]) 1) 2)
  (fun (z:List ByteArray×Nat) t=>(z.2≤q∧Wd=z.1++wordsR (PT.take (z.2+1)).reverse∧z.1.length+simps (PT.take z.2)≤1000000)∧t=stL [(.agg [.sl (q+1) 2 (PT.flatMap encP),.g (.string ps)]),(.ptr 0 0),(.g (.slice none 0 0)),(ownA 1 1 0 z.1),(.g (.int .i64 (z.2:Int))),.any,.any,.any,.any,.any,.any,.any,.any,.any,.any,.any,.any,.any,.any,.any,.any,.any,.any,.any,.any,.any,.any,.any,.any,.any,.any,.any,.any,.any,.any,.any,.any,.any,.any,.any,.any,.any,.any,.any,.any,.any,.any,.any,.any,.any,.any,.any,.any,.any] ((0,.cells [.sl (q+1) 2 (PT.flatMap encP),.g (.string ps)])::rowsM encN 1 (fun _=>z.1) 1) 2) (fun z=>z.2) ([],q) ⟨⟨Nat.le_refl _,hW,by simpa using hsum⟩,rfl⟩ (VS.same (by decide) (fun c=>rfl) (by simp [leL,own_nil])) ?_
 rintro ⟨acc,i⟩ t ⟨⟨hi,he,hb⟩,rfl⟩;simp only at hi he hb
 cases i with
 | zero =>
   rw [wordsR_one,List.append_nil] at he;subst he
   (repeat ((first | with_reducible refine W.step (b:=false) ?_ | skip);simp only [go_sem,↓reduceIte,Nat.reduceAdd,Nat.reduceSub,Nat.reduceMul,Nat.reduceEqDiff,Nat.reduceLeDiff,Nat.reduceLT,Int.reduceLE,Int.reduceLT,Int.reduceToNat,Int.reduceEq];try with_reducible refine drawn hmix (by kernel_rfl) ?_))
   exact fin _ _ rfl
 | succ i =>
   have hi1:i+1<PT.length:=by omega
   have hi0:i<PT.length:=by omega
   obtain ⟨r1,-⟩:=rowPq hi1;obtain ⟨-,r2⟩:=rowPq hi0;rw [wordsR_step hi1] at he;have f0:((0:Int)<((i+1:Nat):Int))=True:=eq_true (by omega);have g1:i+1<q+1:=by omega
   have g0:i<q+1:=by omega
   have fv:IntKind.i64.wrap (((i+1:Nat):Int) - 1)=(i:Int):=by rw [IntWalk.i64_in _ (by omega)];omega
   by_cases hcb:PT[i+1].comb=1∨PT[i+1].comb=2
   ·rw [if_pos hcb] at he
    obtain ⟨hl1,hl2⟩:=hc.2 _ (List.getElem_mem hi0);have hn0:=hnm _ (List.getElem_mem hi0);have hsm:=simps_step hi0;rw [hsm] at hb
    by_cases hc1:PT[i+1].comb=1
    ·have c1:=eq_true hc1
     (repeat ((first | with_reducible refine W.step (b:=false) ?_ | skip);simp only [go_sem,↓reduceIte,Nat.reduceAdd,Nat.reduceSub,Nat.reduceMul,Nat.reduceEqDiff,Nat.reduceLeDiff,Nat.reduceLT,Int.reduceLE,Int.reduceLT,Int.reduceToNat,Int.reduceEq,f0,r1,r2,g1,g0,fv,c1];try with_reducible refine drawn hmix (by kernel_rfl) ?_))
     refine W.loop (s1:=stL [(.agg [.sl (q+1) 2 (PT.flatMap encP),.g (.string ps)]),(.ptr 0 0),(.g (.slice none 0 0)),(ownA 1 1 0 acc),(.g (.int .i64 ((i+1:Nat):Int))),.any,.any,.any,.any,.any,.any,.any,.any,.any,.any,.any,.any,.any,.any,.any,.any,.any,.any,.any,.any,.any,.any,.any,.any,.any,.any,.any,.any,.any,.any,(.sl PT[i].l.length 6 (PT[i].l.flatMap encS)),(.g (.int .i64 (PT[i].l.length:Int))),(.g (.int .i64 ((0:Nat):Int))),.any,.any,.any,.any,.any,.any,.any,.any,.any,.any,.any,.any,.any,.any,.any,.any] ((0,.cells [.sl (q+1) 2 (PT.flatMap encP),.g (.string ps)])::rowsM encN 1 (fun _=>acc) 1) 2)
      (fun (z:List ByteArray×Nat) t=>(z.2≤PT[i].l.length∧z.1=acc++wordsS (PT[i].l.take z.2)∧z.1.length+(PT[i].l.length - z.2)+simps (PT.take i)≤1000000)∧t=stL [(.agg [.sl (q+1) 2 (PT.flatMap encP),.g (.string ps)]),(.ptr 0 0),(.g (.slice none 0 0)),(ownA 1 1 0 z.1),(.g (.int .i64 ((i+1:Nat):Int))),.any,.any,.any,.any,.any,.any,.any,.any,.any,.any,.any,.any,.any,.any,.any,.any,.any,.any,.any,.any,.any,.any,.any,.any,.any,.any,.any,.any,.any,.any,(.sl PT[i].l.length 6 (PT[i].l.flatMap encS)),(.g (.int .i64 (PT[i].l.length:Int))),(.g (.int .i64 (z.2:Int))),.any,.any,.any,.any,.any,.any,.any,.any,.any,.any,.any,.any,.any,.any,.any,.any] ((0,.cells [.sl (q+1) 2 (PT.flatMap encP),.g (.string ps)])::rowsM encN 1 (fun _=>z.1) 1) 2) (fun z=>PT[i].l.length - z.2) (acc,0) ⟨⟨Nat.zero_le _,by simp [wordsS],by simp only;omega⟩,rfl⟩ (VS.tm (by simp [leL])) ?_
     rintro ⟨acc2,j⟩ t ⟨⟨hj,he2,hb2⟩,rfl⟩;simp only at hj he2 hb2
     by_cases hlt:j<PT[i].l.length
     ·obtain ⟨a,b,s1,s2⟩:=rowSr hlt
      (repeat ((first | with_reducible refine W.step (b:=false) ?_ | skip);simp only [go_sem,↓reduceIte,Nat.reduceAdd,Nat.reduceSub,Nat.reduceMul,Nat.reduceEqDiff,Nat.reduceLeDiff,Nat.reduceLT,Int.reduceLE,Int.reduceLT,Int.reduceToNat,Int.reduceEq,hlt,s1,s2];try with_reducible refine drawn hmix (by kernel_rfl) ?_))
      refine AtCall.mk (word_p _ _ (hn0 _ (List.getElem_mem hlt))) ?_;have hstep:=wordsS_step hlt
      by_cases hw:wordM PT[i].l[j].kind PT[i].l[j].name=⟨#[]⟩
      ·rw [hw]
       rw [if_pos hw,List.append_nil] at hstep
       (repeat ((first | with_reducible refine W.step (b:=false) ?_ | skip);simp only [go_sem,↓reduceIte,Nat.reduceAdd,Nat.reduceSub,Nat.reduceMul,Nat.reduceEqDiff,Nat.reduceLeDiff,Nat.reduceLT,Int.reduceLE,Int.reduceLT,Int.reduceToNat,Int.reduceEq];try with_reducible refine drawn hmix (by kernel_rfl) ?_))
       refine ⟨(acc2,j+1),_,⟨⟨hlt,by rw [hstep];exact he2,by simp only;omega⟩,rfl⟩,by show PT[i].l.length - (j+1)<PT[i].l.length - j;omega,?_⟩;simp only;rw [up1 (by omega)];exact rows_drop rfl (by simp [keepT_cons,keepT_nil,ltA,ltL,ltA_own1])
      ·have fw2:=eq_false hw
       rw [if_neg hw] at hstep;have hst2:acc++wordsS (PT[i].l.take (j+1))=acc2++[wordM PT[i].l[j].kind PT[i].l[j].name]:=by rw [hstep,←List.append_assoc,←he2]
       by_cases hnil:acc2=[]
       ·subst hnil
        (repeat ((first | with_reducible refine W.step (b:=false) ?_ | skip);simp only [go_sem,↓reduceIte,Nat.reduceAdd,Nat.reduceSub,Nat.reduceMul,Nat.reduceEqDiff,Nat.reduceLeDiff,Nat.reduceLT,Int.reduceLE,Int.reduceLT,Int.reduceToNat,Int.reduceEq,own_nil,rows_nil,fw2];try with_reducible refine drawn hmix (by kernel_rfl) ?_))
        refine ⟨([]++[wordM PT[i].l[j].kind PT[i].l[j].name],j+1),_,⟨⟨hlt,hst2.symm,by simp only [List.length_append,List.length_singleton];omega⟩,rfl⟩,by show PT[i].l.length - (j+1)<PT[i].l.length - j;omega,?_⟩;simp only;rw [up1 (by omega)];exact rows_grow (nn:=4) rfl (by decide) (by simp [getL]) (by simp [getL,encN]) (by simp [reT_cons,reT_nil,reF,reFL,ltA,ltL,ownH,ownA])
       ·have hacc:=rows_one (enc:=encN) (b0:=1) hnil
        have ho:=ownA_pos (b0:=1) (sz:=1) (j:=0) hnil;have x1:(acc2.length+1≤acc2.length)=False:=eq_false (by omega);have hlz:=lenN acc2;have x2:(acc2.length+1)*17≤17179869184:=by omega
        (repeat ((first | with_reducible refine W.step (b:=false) ?_ | skip);simp only [go_sem,↓reduceIte,Nat.reduceAdd,Nat.reduceSub,Nat.reduceMul,Nat.reduceEqDiff,Nat.reduceLeDiff,Nat.reduceLT,Int.reduceLE,Int.reduceLT,Int.reduceToNat,Int.reduceEq,hacc,ho,fw2,x1,x2,hlz];try with_reducible refine drawn hmix (by kernel_rfl) ?_))
        refine ⟨(acc2++[wordM PT[i].l[j].kind PT[i].l[j].name],j+1),_,⟨⟨hlt,hst2.symm,by simp only [List.length_append,List.length_singleton];omega⟩,rfl⟩,by show PT[i].l.length - (j+1)<PT[i].l.length - j;omega,?_⟩;simp only;rw [up1 (by omega)];exact rows_grow (nn:=4) rfl (by decide) (by simp [getL]) (by rw [List.flatMap_append];simp [getL,encN]) (by rw [ownA_pos (by simp)];simp [reT_cons,reT_nil,reF,reFL,ltA,ltL,ownH])
     ·(repeat ((first | with_reducible refine W.step (b:=false) ?_ | skip);simp only [go_sem,↓reduceIte,Nat.reduceAdd,Nat.reduceSub,Nat.reduceMul,Nat.reduceEqDiff,Nat.reduceLeDiff,Nat.reduceLT,Int.reduceLE,Int.reduceLT,Int.reduceToNat,Int.reduceEq,hlt,fv];try with_reducible refine drawn hmix (by kernel_rfl) ?_))
      have hje:j=PT[i].l.length:=by omega
      rw [hje,List.take_length] at he2;refine ⟨(acc2,i),_,⟨⟨by simp only;omega,by rw [he,he2,List.append_assoc],by simp only;omega⟩,rfl⟩,by show i<i+1;omega,VS.tm (by simp [leL])⟩
    ·have c2:=eq_true (hcb.resolve_left hc1)
     have c1:=eq_false hc1
     (repeat ((first | with_reducible refine W.step (b:=false) ?_ | skip);simp only [go_sem,↓reduceIte,Nat.reduceAdd,Nat.reduceSub,Nat.reduceMul,Nat.reduceEqDiff,Nat.reduceLeDiff,Nat.reduceLT,Int.reduceLE,Int.reduceLT,Int.reduceToNat,Int.reduceEq,f0,r1,r2,g1,g0,fv,c1,c2];try with_reducible refine drawn hmix (by kernel_rfl) ?_))
     refine W.loop (s1:=stL [(.agg [.sl (q+1) 2 (PT.flatMap encP),.g (.string ps)]),(.ptr 0 0),(.g (.slice none 0 0)),(ownA 1 1 0 acc),(.g (.int .i64 ((i+1:Nat):Int))),.any,.any,.any,.any,.any,.any,.any,.any,.any,.any,.any,.any,.any,.any,.any,.any,.any,.any,.any,.any,.any,.any,.any,.any,.any,.any,.any,.any,.any,.any,(.sl PT[i].l.length 6 (PT[i].l.flatMap encS)),(.g (.int .i64 (PT[i].l.length:Int))),(.g (.int .i64 ((0:Nat):Int))),.any,.any,.any,.any,.any,.any,.any,.any,.any,.any,.any,.any,.any,.any,.any,.any] ((0,.cells [.sl (q+1) 2 (PT.flatMap encP),.g (.string ps)])::rowsM encN 1 (fun _=>acc) 1) 2)
      (fun (z:List ByteArray×Nat) t=>(z.2≤PT[i].l.length∧z.1=acc++wordsS (PT[i].l.take z.2)∧z.1.length+(PT[i].l.length - z.2)+simps (PT.take i)≤1000000)∧t=stL [(.agg [.sl (q+1) 2 (PT.flatMap encP),.g (.string ps)]),(.ptr 0 0),(.g (.slice none 0 0)),(ownA 1 1 0 z.1),(.g (.int .i64 ((i+1:Nat):Int))),.any,.any,.any,.any,.any,.any,.any,.any,.any,.any,.any,.any,.any,.any,.any,.any,.any,.any,.any,.any,.any,.any,.any,.any,.any,.any,.any,.any,.any,.any,(.sl PT[i].l.length 6 (PT[i].l.flatMap encS)),(.g (.int .i64 (PT[i].l.length:Int))),(.g (.int .i64 (z.2:Int))),.any,.any,.any,.any,.any,.any,.any,.any,.any,.any,.any,.any,.any,.any,.any,.any] ((0,.cells [.sl (q+1) 2 (PT.flatMap encP),.g (.string ps)])::rowsM encN 1 (fun _=>z.1) 1) 2) (fun z=>PT[i].l.length - z.2) (acc,0) ⟨⟨Nat.zero_le _,by simp [wordsS],by simp only;omega⟩,rfl⟩ (VS.tm (by simp [leL])) ?_
     rintro ⟨acc2,j⟩ t ⟨⟨hj,he2,hb2⟩,rfl⟩;simp only at hj he2 hb2
     by_cases hlt:j<PT[i].l.length
     ·obtain ⟨a,b,s1,s2⟩:=rowSr hlt
      (repeat ((first | with_reducible refine W.step (b:=false) ?_ | skip);simp only [go_sem,↓reduceIte,Nat.reduceAdd,Nat.reduceSub,Nat.reduceMul,Nat.reduceEqDiff,Nat.reduceLeDiff,Nat.reduceLT,Int.reduceLE,Int.reduceLT,Int.reduceToNat,Int.reduceEq,hlt,s1,s2];try with_reducible refine drawn hmix (by kernel_rfl) ?_))
      refine AtCall.mk (word_p _ _ (hn0 _ (List.getElem_mem hlt))) ?_;have hstep:=wordsS_step hlt
      by_cases hw:wordM PT[i].l[j].kind PT[i].l[j].name=⟨#[]⟩
      ·rw [hw]
       rw [if_pos hw,List.append_nil] at hstep
       (repeat ((first | with_reducible refine W.step (b:=false) ?_ | skip);simp only [go_sem,↓reduceIte,Nat.reduceAdd,Nat.reduceSub,Nat.reduceMul,Nat.reduceEqDiff,Nat.reduceLeDiff,Nat.reduceLT,Int.reduceLE,Int.reduceLT,Int.reduceToNat,Int.reduceEq];try with_reducible refine drawn hmix (by kernel_rfl) ?_))
       refine ⟨(acc2,j+1),_,⟨⟨hlt,by rw [hstep];exact he2,by simp only;omega⟩,rfl⟩,by show PT[i].l.length - (j+1)<PT[i].l.length - j;omega,?_⟩;simp only;rw [up1 (by omega)];exact rows_drop rfl (by simp [keepT_cons,keepT_nil,ltA,ltL,ltA_own1])
      ·have fw2:=eq_false hw
       rw [if_neg hw] at hstep;have hst2:acc++wordsS (PT[i].l.take (j+1))=acc2++[wordM PT[i].l[j].kind PT[i].l[j].name]:=by rw [hstep,←List.append_assoc,←he2]
       by_cases hnil:acc2=[]
       ·subst hnil
        (repeat ((first | with_reducible refine W.step (b:=false) ?_ | skip);simp only [go_sem,↓reduceIte,Nat.reduceAdd,Nat.reduceSub,Nat.reduceMul,Nat.reduceEqDiff,Nat.reduceLeDiff,Nat.reduceLT,Int.reduceLE,Int.reduceLT,Int.reduceToNat,Int.reduceEq,own_nil,rows_nil,fw2];try with_reducible refine drawn hmix (by kernel_rfl) ?_))
        refine ⟨([]++[wordM PT[i].l[j].kind PT[i].l[j].name],j+1),_,⟨⟨hlt,hst2.symm,by simp only [List.length_append,List.length_singleton];omega⟩,rfl⟩,by show PT[i].l.length - (j+1)<PT[i].l.length - j;omega,?_⟩;simp only;rw [up1 (by omega)];exact rows_grow (nn:=4) rfl (by decide) (by simp [getL]) (by simp [getL,encN]) (by simp [reT_cons,reT_nil,reF,reFL,ltA,ltL,ownH,ownA])
       ·have hacc:=rows_one (enc:=encN) (b0:=1) hnil
        have ho:=ownA_pos (b0:=1) (sz:=1) (j:=0) hnil;have x1:(acc2.length+1≤acc2.length)=False:=eq_false (by omega);have hlz:=lenN acc2;have x2:(acc2.length+1)*17≤17179869184:=by omega
        (repeat ((first | with_reducible refine W.step (b:=false) ?_ | skip);simp only [go_sem,↓reduceIte,Nat.reduceAdd,Nat.reduceSub,Nat.reduceMul,Nat.reduceEqDiff,Nat.reduceLeDiff,Nat.reduceLT,Int.reduceLE,Int.reduceLT,Int.reduceToNat,Int.reduceEq,hacc,ho,fw2,x1,x2,hlz];try with_reducible refine drawn hmix (by kernel_rfl) ?_))
        refine ⟨(acc2++[wordM PT[i].l[j].kind PT[i].l[j].name],j+1),_,⟨⟨hlt,hst2.symm,by simp only [List.length_append,List.length_singleton];omega⟩,rfl⟩,by show PT[i].l.length - (j+1)<PT[i].l.length - j;omega,?_⟩;simp only;rw [up1 (by omega)];exact rows_grow (nn:=4) rfl (by decide) (by simp [getL]) (by rw [List.flatMap_append];simp [getL,encN]) (by rw [ownA_pos (by simp)];simp [reT_cons,reT_nil,reF,reFL,ltA,ltL,ownH])
     ·(repeat ((first | with_reducible refine W.step (b:=false) ?_ | skip);simp only [go_sem,↓reduceIte,Nat.reduceAdd,Nat.reduceSub,Nat.reduceMul,Nat.reduceEqDiff,Nat.reduceLeDiff,Nat.reduceLT,Int.reduceLE,Int.reduceLT,Int.reduceToNat,Int.reduceEq,hlt,fv];try with_reducible refine drawn hmix (by kernel_rfl) ?_))
      have hje:j=PT[i].l.length:=by omega
      rw [hje,List.take_length] at he2;refine ⟨(acc2,i),_,⟨⟨by simp only;omega,by rw [he,he2,List.append_assoc],by simp only;omega⟩,rfl⟩,by show i<i+1;omega,VS.tm (by simp [leL])⟩
   ·rw [if_neg hcb,List.append_nil] at he
    subst he;have c1:=eq_false (fun h=>hcb (.inl h));have c2:=eq_false (fun h=>hcb (.inr h))
    (repeat ((first | with_reducible refine W.step (b:=false) ?_ | skip);simp only [go_sem,↓reduceIte,Nat.reduceAdd,Nat.reduceSub,Nat.reduceMul,Nat.reduceEqDiff,Nat.reduceLeDiff,Nat.reduceLT,Int.reduceLE,Int.reduceLT,Int.reduceToNat,Int.reduceEq,f0,r1,g1,c1,c2];try with_reducible refine drawn hmix (by kernel_rfl) ?_))
    exact fin _ _ rfl
end Go.Proofs.YtlnaihkombcbcaaGreat
namespace Go.Proofs.YtlnaihkombcbcaaGreat
open Go.RowKit Go.Ev Go.Sort
attribute [local go_sem] eq_self false_and and_false Bool.false_eq_true List.set_cons_succ List.set_cons_zero List.getD_cons_succ List.getD_cons_zero List.getElem?_cons_succ List.getElem?_cons_zero true_and and_true and_self Bool.not_true Bool.not_false Nat.add_zero Nat.zero_add Nat.mul_one Int.toNat_natCast Int.natCast_nonneg Int.ofNat_lt Option.bind_some Option.map_some List.map_cons List.map_nil decide_true decide_false BEq.rfl Bool.and_self Bool.and_true Bool.and_false beq_self_eq_true List.cons_append List.nil_append List.take_zero List.take_succ_cons List.take_nil List.drop_succ_cons List.drop_zero List.drop_nil List.append_nil List.length_cons List.length_nil List.all_cons List.all_nil Nat.le_refl Int.le_refl Option.map_none List.replicate_zero List.replicate_succ Nat.zero_mul Nat.sub_zero Nat.zero_le Nat.le_zero_eq getR_nil Option.some_or Option.none_or Option.or_none Option.isSome_some Option.isSome_none Option.getD_some Option.getD_none Int.toNat_zero Int.natCast_zero Int.natCast_one Int.cast_ofNat_Int List.toList_toArray
theorem heap_put {α:Type} [Inhabited α] {enc:α→Value} {w:World} {g n o:Nat} {os:Array Obj} {cur:Array Value} {e:TypeId} {fr:Nat×Nat} (d:Array α) (hb:w.heap[g]?=some (.cells cur e fr)) :
 (grow (putRow enc (Sort.ahead w n) g o d) os).heap[g]?=some (.cells (putCells enc o d cur) e fr):=by
 have hg:g<w.heap.size:=(Array.getElem?_eq_some_iff.1 hb).1;rw [heap_grow_old _ _ (by simpa using hg)];simp [putRow,mapBlock,Sort.ahead,Array.getElem?_modify,hb,onCells]
theorem heap_puts {α:Type} [Inhabited α] {enc:α→Value} {w:World} {g n o k:Nat} {os:Array Obj} (d:Array α) (hk:k<w.heap.size) (hne:k≠g) :
 (grow (putRow enc (Sort.ahead w n) g o d) os).heap[k]?=w.heap[k]?:=by
 rw [heap_grow_old _ _ (by simpa using hk)];have:g≠k:=fun e=>hne e.symm;simp [putRow,mapBlock,Sort.ahead,Array.getElem?_modify,this]
theorem size_put {α:Type} [Inhabited α] {enc:α→Value} {w:World} {g n o:Nat} {os:Array Obj} (d:Array α):w.heap.size≤(grow (putRow enc (Sort.ahead w n) g o d) os).heap.size:=by simp
theorem put_m {P:Program} {GT:GTab} {α:Type} [Inhabited α] {f:FuncId} (enc:α→Value) (xs ys:List α) (hlen:ys.length=xs.length) (A:AV) (ans:Option Addr→Nat→Value) (hf:∃ fn,P.funcs[f]?=some fn∧(fn.name == "runtime.NumGoroutine")=false∧fn.body.isNone=false)
 (H0:xs=[]→∀ a cap w,Calls P f #[.slice a 0 cap] w fun e w'=>e=.returned (ans a cap)∧w'=w)
 (H1:∀ (w:World) (blk off cap:Nat),xs≠[]→Holds enc w blk off xs.toArray→blk<w.heap.size→xs.length≤cap→cap≤9223372036854775807→Calls P f #[.slice (some ⟨blk,off,none⟩) xs.length cap] w fun e w'=>e=.returned (ans (some ⟨blk,off,none⟩) cap)∧∃ n os,w'=grow (putRow enc (Sort.ahead w n) blk off ys.toArray) os)
 (hA:∀ (w':World) (G:Gh) (rb ro o' cap:Nat) (c:Array Value) (e:TypeId) (fr:Nat×Nat),G.μ 0=some (rb,ro)→(o'=ro∨cap=0)→xs.length≤cap→cap≤9223372036854775807→w'.heap[rb]?=some (.cells c e fr)→ro+cap≤c.size→VR w' G A (ans (some ⟨rb,o',none⟩) cap)) :
 CallM P GT [] [(0,.cells (xs.map fun x=>.g (enc x)))] 1 f [.gs 0 0 xs.length 1 xs.length] A [(0,.cells (ys.map fun x=>.g (enc x)))] 1:=by
 refine ⟨fun base w G rargs hm ha=>?_,hf⟩;obtain ⟨v,vs,hr,hv,hvs⟩:=ha;obtain rfl:vs=[]:=hvs;obtain ⟨rb,ro,o',cap,c,e,fr,hmu,rfl,ho,hn,hh,hfit,-,hk,hcap⟩:=hv;have hra:rargs=#[.slice (some ⟨rb,o',none⟩) xs.length cap]:=Array.toList_inj.1 hr;rw [hra];rw [Nat.add_zero] at ho;rw [Nat.add_zero,Nat.mul_one] at hfit;have hget:getL [(0,Blk.cells (xs.map fun x=>AV.g (enc x)))] 0=some (.cells (xs.map fun x=>AV.g (enc x))):=by rw [getL,if_pos rfl]
 obtain ⟨rb',ro',e1,-,-,c',e',fr',hh',hnf,hcs⟩:=hm.blk 0 _ (getR_of_cur ((memL_get _ 0).trans hget));rw [hmu] at e1;cases e1;rw [hh] at hh';cases hh'
 by_cases hx:xs=[]
 ·subst hx
  obtain rfl:ys=[]:=List.eq_nil_of_length_eq_zero hlen;refine (H0 rfl _ _ w).mono ?_;rintro e9 w' ⟨rfl,rfl⟩;exact ⟨_,G,rfl,Stp.refl hm,hA _ _ _ _ _ _ _ _ _ hmu ho hn hcap hh hfit⟩
 ·have hpos:0<xs.length:=List.length_pos_iff.2 hx
  obtain rfl:o'=ro:=ho.resolve_right (by omega);have hH:Holds enc w rb o' xs.toArray:=by
   intro j hj;have hj':j<xs.length:=by simpa using hj
   obtain ⟨v,hv,hx⟩:=hcs j (.g (enc xs[j])) (by rw [List.getElem?_map,List.getElem?_eq_getElem hj'];rfl);obtain rfl:v=enc xs[j]:=hx;refine ⟨?_,?_⟩
   ·rw [Lib.cell_of_heap hh,hv]
    simp [hj']
   ·have:=hnf (o'+j) (by have:=(Array.getElem?_eq_some_iff.1 hv).1;omega)
    simp only [World.frozen?,hh];exact this
  refine (H1 w rb o' cap hx hH (Array.getElem?_eq_some_iff.1 hh).1 hn hcap).mono ?_;rintro e9 w' ⟨rfl,n,os,rfl⟩;have hh2:=heap_put (enc:=enc) (n:=n) (o:=o') (os:=os) ys.toArray hh;have hsz:(putCells enc o' ys.toArray c).size=c.size:=by simp [putCells]
  refine ⟨_,G,rfl,?_,hA _ _ _ _ _ _ _ _ _ hmu (.inl rfl) hn hcap hh2 (by rw [hsz];exact hfit)⟩;have:=stp_put hm hget hmu hh hh2 hsz (NoFr.size hnf hsz) (cs':=ys.map fun x=>AV.g (enc x)) (fun i a hi=>?_) (fun k hk hne=>heap_puts _ hk hne) (size_put _) rfl rfl rfl
  ·simpa [setL] using this
  ·rw [List.getElem?_map] at hi
   obtain ⟨y,hy,rfl⟩:=Option.map_eq_some_iff.1 hi;obtain ⟨hl,rfl⟩:=List.getElem?_eq_some_iff.1 hy;have hlt:o'+i<c.size:=by omega
   refine ⟨enc ys[i],?_,rfl⟩;simp [putCells,Array.getElem?_mapIdx,hlt,hl,Array.getElem?_eq_getElem]
theorem encN_str (l:List ByteArray):l.flatMap encN=(l.map sOf).map fun x=>AV.g (encStr x):=by
 rw [mapN,List.map_map];refine List.map_congr_left fun x _=>?_;simp [encStr,sOf]
theorem encN_bs (l:List Str):(l.map bs).flatMap encN=l.map fun x=>AV.g (encStr x):=by
 rw [mapN,List.map_map];refine List.map_congr_left fun x _=>?_;simp [encStr,bs]
theorem sortN_m (l:List ByteArray) (hl:l.length≤4611686018427387903) :
 CallM Tryz.prog gt0 [] [(0,.cells (l.flatMap encN))] 1 174 [.gs 0 0 l.length 1 l.length] (.tup []) [(0,.cells (((sortM (l.map sOf)).map bs).flatMap encN))] 1:=by
 rw [encN_str,encN_bs];have hx:(l.map sOf).length=l.length:=List.length_map _;rw [←hx] at hl ⊢;generalize l.map sOf=xs at *;refine put_m encStr xs (sortM xs) (sortM_len _) (.tup []) (fun _ _=>.tuple #[]) ⟨_,Tryz.func174,rfl,by kernel_rfl⟩ ?_ ?_ ?_
 ·rintro rfl a cap w
  exact Tryz.slices_Sort_string_none _ _ _
 ·intro w blk off cap hne hH hb h1 h2
  exact Tryz.slices_Sort_string blk off cap xs w hH hb (by omega)
 ·intros
  exact ⟨#[],rfl,rfl⟩
theorem sortI_m (l:List Int) (hl:l.length≤4611686018427387903) :
 CallM Tryz.prog gt0 [] [(0,.cells (l.flatMap encZ))] 1 107 [.gs 0 0 l.length 1 l.length] (.tup []) [(0,.cells ((l.mergeSort fun x y=>decide (x≤y)).flatMap encZ))] 1:=by
 have hz:∀ l:List Int,l.flatMap encZ=l.map fun x=>AV.g (Value.int .i64 x):=mapZ;rw [hz,hz];refine put_m (Value.int .i64) l (l.mergeSort fun x y=>decide (x≤y)) (List.length_mergeSort _) (.tup []) (fun _ _=>.tuple #[]) ⟨_,Tryz.func107,rfl,by kernel_rfl⟩ ?_ ?_ ?_
 ·rintro rfl a cap w
  exact Tryz.slices_Sort_int_none _ _ _
 ·intro w blk off cap hne hH hb h1 h2
  exact Tryz.slices_Sort_int blk off cap l w hH hb (by omega)
 ·intros
  exact ⟨#[],rfl,rfl⟩
theorem compN_m (l:List ByteArray) (hl:l.length≤4611686018427387903) :
 CallM Tryz.prog gt0 [] [(0,.cells (l.flatMap encN))] 1 154 [.gs 0 0 l.length 1 l.length] (.gs 0 0 (Lib.compact (l.map sOf)).length 1 (Lib.compact (l.map sOf)).length)
  [(0,.cells (((Lib.compact (l.map sOf)++List.replicate (l.length - (Lib.compact (l.map sOf)).length) []).map bs).flatMap encN))] 1:=by
 rw [encN_str,encN_bs];have hx:(l.map sOf).length=l.length:=List.length_map _;rw [←hx] at hl ⊢;generalize l.map sOf=xs at *;have hc:=Lib.compact_length_le xs;refine put_m encStr xs _ (by simp;omega) (.gs 0 0 (Lib.compact xs).length 1 (Lib.compact xs).length) (fun a cap=>.slice a (Lib.compact xs).length cap) ⟨_,Tryz.func154,rfl,by kernel_rfl⟩ ?_ ?_ ?_
 ·rintro rfl a cap w
  exact Tryz.slices_Compact_string_empty _ _ _
 ·intro w blk off cap hne hH hb h1 h2
  refine (Tryz.slices_Compact_string blk off cap xs w hH (by omega) h1).mono ?_;rintro e w' ⟨rfl,q,rfl⟩;exact ⟨rfl,q,#[],(grow_empty _).symm⟩
 ·intro w' G rb ro o' cap c e fr h1 h2 h3 h4 h5 h6
  exact ⟨rb,ro,o',cap,c,e,fr,h1,rfl,by simpa using h2,by omega,h5,by omega,Nat.le_refl _,by omega,h4⟩
end Go.Proofs.YtlnaihkombcbcaaGreat
namespace Go.Proofs.YtlnaihkombcbcaaGreat
open Go.RowKit Go.Ev
attribute [local go_sem] eq_self false_and and_false Bool.false_eq_true List.set_cons_succ List.set_cons_zero List.getD_cons_succ List.getD_cons_zero List.getElem?_cons_succ List.getElem?_cons_zero true_and and_true and_self Bool.not_true Bool.not_false Nat.add_zero Nat.zero_add Nat.mul_one Int.toNat_natCast Int.natCast_nonneg Int.ofNat_lt Option.bind_some Option.map_some List.map_cons List.map_nil decide_true decide_false BEq.rfl Bool.and_self Bool.and_true Bool.and_false beq_self_eq_true List.cons_append List.nil_append List.take_zero List.take_succ_cons List.take_nil List.drop_succ_cons List.drop_zero List.drop_nil List.append_nil List.length_cons List.length_nil List.all_cons List.all_nil Nat.le_refl Int.le_refl Option.map_none List.replicate_zero List.replicate_succ Nat.zero_mul Nat.sub_zero Nat.zero_le Nat.le_zero_eq getR_nil Option.some_or Option.none_or Option.or_none Option.isSome_some Option.isSome_none Option.getD_some Option.getD_none Int.toNat_zero Int.natCast_zero Int.natCast_one Int.cast_ofNat_Int List.toList_toArray
attribute [go_sem] appL newsA isSlice
section
variable {P:Program} {GT:GTab} {rd:List Mem}
theorem CallM.one {f:FuncId} {N sz K b n:Nat} {A:AV} {ca ca':List AV} {m:ML} (h:CallM P GT [] [(0,.cells ca)] 1 f [.gs 0 0 N sz K] A [(0,.cells ca')] 1) (hb:b<n) (hm:getL m b=some (.cells ca)) (h1:noIdsL ca=true) (h2:noIdsL ca'=true) :
 CallM P GT rd m n f [.gs b 0 N sz K] (reF (fnm [(0,b)] 1 n) A) ((b,.cells ca')::m.filter fun p=>!Nat.beq b p.1) n:=by
 have e0:fnm [(0,b)] 1 n 0=b:=by simp [fnm,lk]
 have:=CallM.at (rd:=rd) (m:=m) (n:=n) (q:=[(0,b)]) h rfl (by simp [ltL,ltA]) (by simp only [inM,e0,reFB,reFL_id _ _ h1,ltB,hm,and_true];exact ⟨⟨Nat.zero_lt_one,hb⟩,ltL_id _ _ h1⟩) (by simp [injM]) (by simp [subM]);simp only [reFL,reF,e0,afterL,List.map_cons,List.map_nil,reFB,reFL_id _ _ h2,List.any_cons,List.any_nil,Bool.or_false,Nat.sub_self,Nat.add_zero] at this;exact this
end
def two2 (a b c:Nat):Nat:=if c=0 then a else if c=1 then b else c
theorem two_ren {GT:GTab} {l l' ca cb:List AV} {m:ML} {n a b:Nat} (hab:a≠b) (ha:getL m a=some (.cells ca)) (hb:getL m b=some (.cells cb)) (h1:noIdsL ca=true) (h2:noIdsL cb=true) (hl:reT (two2 a b) 2 l' l) :
 VS GT .none (stL l m n) (stL l' [(0,.cells ca),(1,.cells cb)] 2):=by
 have get2:∀ {c:Nat} {k:Blk},getL [(0,Blk.cells ca),(1,Blk.cells cb)] c=some k→(c=0∧k=.cells ca)∨(c=1∧k=.cells cb):=by
  intro c k h;rw [getL] at h
  split at h
  ·rename_i e;cases h;exact .inl ⟨e.symm,rfl⟩
  ·rw [getL] at h
   split at h
   ·rename_i e;cases h;exact .inr ⟨e.symm,rfl⟩
   ·cases h
 refine VS.renF (two2 a b) (fun c hc=>absurd hc (Nat.not_lt_zero _)) (fun _ _=>Nat.zero_le _) (Nat.zero_le _) (fun c c' k k' h h' e=>?_) (fun c k h=>?_) hl
 ·rcases get2 h with ⟨rfl,-⟩ | ⟨rfl,-⟩ <;> rcases get2 h' with ⟨rfl,-⟩ | ⟨rfl,-⟩
  ·rfl
  ·exact absurd e hab
  ·exact absurd e.symm hab
  ·rfl
 ·rcases get2 h with ⟨rfl,rfl⟩ | ⟨rfl,rfl⟩
  ·exact ⟨by decide,ltL_id _ _ h1,by rw [show two2 a b 0=a from rfl,ha,reFB,reFL_id _ _ h1]⟩
  ·exact ⟨by decide,ltL_id _ _ h2,by rw [show two2 a b 1=b from rfl,hb,reFB,reFL_id _ _ h2]⟩
theorem rows_growG {α:Type} {enc:α→List AV} {GT:GTab} {acc:List α} {cs:List AV} {m:ML} {n nn:Nat} {l l':List AV} (hid:∀ x,noIdsL (enc x)=true) (hcs:noIdsL cs=true) (hnn:2≤nn) (h0:getL m 0=some (.cells cs)) (h1:getL m nn=some (.cells (acc.flatMap enc))) (hT:reT (ownH 1 0 nn) 2 l' l) :
 VS GT .none (stL l m n) (stL l' ((0,.cells cs)::rowsM enc 1 (fun _=>acc) 1) 2):=by
 refine VS.grow (enc:=enc) (F:=[(0,.cells cs)]) 1 hnn hid (fun c x hc=>?_) h1 hT;rw [getL] at hc
 split at hc
 ·rename_i h;subst h;cases hc
  exact ⟨by decide,nmL_id _ _ hcs,h0⟩
 ·cases hc
def encKy (k:Int×ByteArray):List AV:=[.g (.int .i64 k.1),.g (.string k.2)]
theorem ag_keys:aggO Tryz.prog 171=some (false,1):=by kernel_rfl
theorem el_keys:elemO Tryz.prog 171=some 2:=by kernel_rfl
theorem ei_keys:elemI Tryz.prog 171=some (2,24,true):=by kernel_rfl
theorem ez_keys:elemZ Tryz.prog 171=[.int .i64 0,.string ⟨#[]⟩]:=by kernel_rfl
theorem un_keys:slOrStr (Tryz.prog.underlying 171)=true:=by kernel_rfl
attribute [go_sem] ag_keys el_keys ei_keys ez_keys un_keys
theorem sOf_bsL (l:List Str):(l.map bs).map sOf=l:=by
 rw [List.map_map,show (sOf∘bs)=id from rfl,List.map_id]
set_option maxRecDepth 100000 in
set_option maxHeartbeats 4000000 in
theorem keys_p (p:List Nod) (n:Nat) (hp:OkPg p) (hn:n<p.length):PureN Tryz.prog gt0 106 [.sl p.length 5 (p.flatMap encNd),.g (.int .i64 (n:Int))] (.sl (keysM p n).length 2 ((keysM p n).flatMap encKy)):=by
 obtain ⟨r1,-⟩:=rowNd hn;have hnd:=ndAt_nat hn;have hcl:=classes_len (n:=(n:Int)) hp;refine PureN.of_w2 (c:=_) Tryz.func106 rfl (by kernel_rfl) rfl ?_;simp only [Tryz.f106,List.replicate,List.length_cons,List.length_nil,Nat.reduceAdd,Nat.reduceSub,List.cons_append,List.nil_append];have hKS:keysM p n=(([(0,⟨#[]⟩),(2,p[n].name)]:List (Int×ByteArray))++(match atM p n idB with | some v=>[(3,v)] | none=>[]))++(setM (classesM p n)).map fun c=>((4:Int),c):=by
  unfold keysM;rw [hnd];exact (List.append_assoc _ _ _).symm
 generalize keysM p n=KS at *;have hset:setM (classesM p n)=(Lib.compact (sortM ((classesM p n).map sOf))).map bs:=rfl;have hsl:((sortM ((classesM p n).map sOf)).map bs).length=(classesM p n).length:=by rw [List.length_map,sortM_len,List.length_map]
 have HC:=classes_m p n hp;have HS:=sortN_m (classesM p n) (by omega);have HP:=compN_m ((sortM ((classesM p n).map sOf)).map bs) (by omega);rw [sOf_bsL,hsl] at HP;have hcl2:=Lib.compact_length_le (sortM ((classesM p n).map sOf));rw [sortM_len,List.length_map] at hcl2;rw [hset] at hKS;clear hset hsl;generalize sortM ((classesM p n).map sOf)=SS at *;generalize Lib.compact SS=CS at *;generalize hCL:classesM p n=CL at *
 (repeat ((first | with_reducible refine W.step (b:=false) ?_ | skip);simp only [go_sem,↓reduceIte,Nat.reduceAdd,Nat.reduceSub,Nat.reduceMul,Nat.reduceEqDiff,Nat.reduceLeDiff,Nat.reduceLT,Int.reduceLE,Int.reduceLT,Int.reduceToNat,Int.reduceEq,r1,hn];try with_reducible refine drawn hmix (by kernel_rfl) ?_))
 refine AtCall.mk (attr_p p n idB hp.attrs) ?_
 cases ha:atM p n idB with
 | none =>
   rw [ha] at hKS
   (repeat ((first | with_reducible refine W.step (b:=false) ?_ | skip);simp only [go_sem,↓reduceIte,Nat.reduceAdd,Nat.reduceSub,Nat.reduceMul,Nat.reduceEqDiff,Nat.reduceLeDiff,Nat.reduceLT,Int.reduceLE,Int.reduceLT,Int.reduceToNat,Int.reduceEq];try with_reducible refine drawn hmix (by kernel_rfl) ?_))
   refine AtCall.mem (CallM.new HC (by simp [noIdsL,noIds]) (noIdsL_flat (fun _=>rfl) _)) ?_
   (repeat ((first | with_reducible refine W.step (b:=false) ?_ | skip);simp only [go_sem,↓reduceIte,Nat.reduceAdd,Nat.reduceSub,Nat.reduceMul,Nat.reduceEqDiff,Nat.reduceLeDiff,Nat.reduceLT,Int.reduceLE,Int.reduceLT,Int.reduceToNat,Int.reduceEq];try with_reducible refine drawn hmix (by kernel_rfl) ?_))
   refine AtCall.mem (m':=[(1,.cells ((SS.map bs).flatMap encN)),(0,.cells [.g (.int .i64 0),.g (.string ⟨#[]⟩),.g (.int .i64 2),.g (.string p[n].name)])]) (CallM.one (b:=1) HS (by decide) rfl (noIdsL_flat (fun _=>rfl) _) (noIdsL_flat (fun _=>rfl) _)) ?_
   (repeat ((first | with_reducible refine W.step (b:=false) ?_ | skip);simp only [go_sem,↓reduceIte,Nat.reduceAdd,Nat.reduceSub,Nat.reduceMul,Nat.reduceEqDiff,Nat.reduceLeDiff,Nat.reduceLT,Int.reduceLE,Int.reduceLT,Int.reduceToNat,Int.reduceEq];try with_reducible refine drawn hmix (by kernel_rfl) ?_))
   refine AtCall.mem (m':=[(1,.cells (((CS++List.replicate (CL.length - CS.length) []).map bs).flatMap encN)),(0,.cells [.g (.int .i64 0),.g (.string ⟨#[]⟩),.g (.int .i64 2),.g (.string p[n].name)])]) (CallM.one (b:=1) HP (by decide) rfl (noIdsL_flat (fun _=>rfl) _) (noIdsL_flat (fun _=>rfl) _)) ?_;simp only [reF,fnm,lk,reFL]
   (repeat ((first | with_reducible refine W.step (b:=false) ?_ | skip);simp only [go_sem,↓reduceIte,Nat.reduceAdd,Nat.reduceSub,Nat.reduceMul,Nat.reduceEqDiff,Nat.reduceLeDiff,Nat.reduceLT,Int.reduceLE,Int.reduceLT,Int.reduceToNat,Int.reduceEq];try with_reducible refine drawn hmix (by kernel_rfl) ?_))
   obtain ⟨acc0,hacc0⟩:∃ acc0:List (Int×ByteArray),acc0=[(0,⟨#[]⟩),(2,p[n].name)]:=⟨_,rfl⟩;replace hKS:KS=acc0++CS.map fun s=>((4:Int),bs s):=by rw [hKS,hacc0,List.map_map];rfl
   have h3:0<acc0.length∧acc0.length≤3:=by rw [hacc0];simp
   refine W.loop (s1:=stL [.any,.any,.any,.any,(.g (.slice none 0 0)),(ownA 1 2 0 (acc0)),.any,.any,.any,.any,.any,.any,.any,.any,.any,.any,.any,.any,.any,.any,.any,.any,.any,.any,.any,.any,.any,.any,.any,.any,.any,.any,.any,.any,.any,.any,.any,(.gs 0 0 CS.length 1 CS.length),(.g (.int .i64 (CS.length:Int))),(.g (.int .i64 ((0:Nat):Int))),.any,.any,.any,.any,.any,.any,.any,.any,.any,.any] ((0,.cells (((CS++List.replicate (CL.length - CS.length) []).map bs).flatMap encN))::rowsM encKy 1 (fun _=>acc0) 1) 2)
    (fun (k:Nat) t=>k≤CS.length∧t=stL [.any,.any,.any,.any,(.g (.slice none 0 0)),(ownA 1 2 0 (acc0++(CS.take k).map fun s=>((4:Int),bs s))),.any,.any,.any,.any,.any,.any,.any,.any,.any,.any,.any,.any,.any,.any,.any,.any,.any,.any,.any,.any,.any,.any,.any,.any,.any,.any,.any,.any,.any,.any,.any,(.gs 0 0 CS.length 1 CS.length),(.g (.int .i64 (CS.length:Int))),(.g (.int .i64 (k:Int))),.any,.any,.any,.any,.any,.any,.any,.any,.any,.any] ((0,.cells (((CS++List.replicate (CL.length - CS.length) []).map bs).flatMap encN))::rowsM encKy 1 (fun _=>acc0++(CS.take k).map fun s=>((4:Int),bs s)) 1) 2) (fun k=>CS.length - k) 0 ⟨Nat.zero_le _,by rw [List.take_zero,List.map_nil,List.append_nil]⟩ ?_ ?_
   ·rw [hacc0]
    exact two_ren (a:=1) (b:=0) (by decide) rfl rfl (noIdsL_flat (fun _=>rfl) _) rfl (by simp [reT_cons,reT_nil,reF,reFL,two2,ltA,ltL,ownA])
   rintro k t ⟨hk,rfl⟩;obtain ⟨acc,hacc⟩:∃ acc:List (Int×ByteArray),acc=acc0++(CS.take k).map fun s=>((4:Int),bs s):=⟨_,rfl⟩;have hal:acc.length=acc0.length+k:=by rw [hacc,List.length_append,List.length_map,List.length_take];omega
   have hnil:acc≠[]:=by intro e;rw [e] at hal;simp at hal;omega
   simp only [←hacc];have hro:=rows_one (enc:=encKy) (b0:=1) hnil;have ho:=ownA_pos (b0:=1) (sz:=2) (j:=0) hnil
   by_cases hlt:k<CS.length
   ·have r:(((CS++List.replicate (CL.length - CS.length) []).map bs).flatMap encN)[k]?=some (.g (.string (bs CS[k]))):=by
     rw [mapN,List.getElem?_map,List.getElem?_map,List.getElem?_append_left hlt,List.getElem?_eq_getElem hlt];rfl
    have x1:(acc.length+1≤acc.length)=False:=eq_false (by omega);have x2:(acc.length+1)*25≤17179869184:=by omega
    have hlz:(acc.flatMap encKy).length=acc.length*2:=flatMap_len (enc:=encKy) (sz:=2) (fun _=>rfl) acc
    (repeat ((first | with_reducible refine W.step (b:=false) ?_ | skip);simp only [go_sem,↓reduceIte,Nat.reduceAdd,Nat.reduceSub,Nat.reduceMul,Nat.reduceEqDiff,Nat.reduceLeDiff,Nat.reduceLT,Int.reduceLE,Int.reduceLT,Int.reduceToNat,Int.reduceEq,hlt,r,hro,ho,x1,x2,hlz];try with_reducible refine drawn hmix (by kernel_rfl) ?_))
    refine ⟨k+1,_,⟨hlt,rfl⟩,by show CS.length - (k+1)<CS.length - k;omega,?_⟩;rw [up1 (by omega)];have hnx:acc0++(CS.take (k+1)).map (fun s=>((4:Int),bs s))=acc++[((4:Int),bs CS[k])]:=by
     rw [List.take_succ_eq_append_getElem hlt,List.map_append,←List.append_assoc,←hacc];rfl
    rw [hnx];exact rows_growG (enc:=encKy) (nn:=3) (fun _=>rfl) (noIdsL_flat (fun _=>rfl) _) (by decide) (by simp [getL]) (by rw [List.flatMap_append];simp [getL,encKy]) (by rw [ownA_pos (by simp)];simp [reT_cons,reT_nil,reF,reFL,ltA,ltL,ownH])
   ·(repeat ((first | with_reducible refine W.step (b:=false) ?_ | skip);simp only [go_sem,↓reduceIte,Nat.reduceAdd,Nat.reduceSub,Nat.reduceMul,Nat.reduceEqDiff,Nat.reduceLeDiff,Nat.reduceLT,Int.reduceLE,Int.reduceLT,Int.reduceToNat,Int.reduceEq,hlt,hro,ho];try with_reducible refine drawn hmix (by kernel_rfl) ?_))
    have hkl:k=CS.length:=by omega
    subst hkl;rw [List.take_length,←hKS] at hacc;subst hacc
    have hsl:=SealTo.gs (m:=[(0,.cells (((CS++List.replicate (CL.length - CS.length) []).map bs).flatMap encN)),(1,.cells (acc.flatMap encKy))]) (b:=1) (o:=0) (k:=acc.length) (sz:=2) (c:=acc.length) (cs:=acc.flatMap encKy) rfl (by rw [flatMap_len (enc:=encKy) (sz:=2) (fun _=>rfl) acc];omega) (fun a ha=>by
     have ha:=List.mem_of_mem_drop (List.mem_of_mem_take ha);obtain ⟨x,-,hx⟩:=List.mem_flatMap.1 ha
     simp [encKy] at hx;rcases hx with rfl | rfl <;> rfl)
    rw [List.drop_zero,List.take_of_length_le (by rw [flatMap_len (enc:=encKy) (sz:=2) (fun _=>rfl) acc];omega)] at hsl;exact postV.of (postP_one _ (.inr rfl) rfl hsl)
 | some v =>
   rw [ha] at hKS
   (repeat ((first | with_reducible refine W.step (b:=false) ?_ | skip);simp only [go_sem,↓reduceIte,Nat.reduceAdd,Nat.reduceSub,Nat.reduceMul,Nat.reduceEqDiff,Nat.reduceLeDiff,Nat.reduceLT,Int.reduceLE,Int.reduceLT,Int.reduceToNat,Int.reduceEq];try with_reducible refine drawn hmix (by kernel_rfl) ?_))
   refine AtCall.mem (CallM.new HC (by simp [noIdsL,noIds]) (noIdsL_flat (fun _=>rfl) _)) ?_
   (repeat ((first | with_reducible refine W.step (b:=false) ?_ | skip);simp only [go_sem,↓reduceIte,Nat.reduceAdd,Nat.reduceSub,Nat.reduceMul,Nat.reduceEqDiff,Nat.reduceLeDiff,Nat.reduceLT,Int.reduceLE,Int.reduceLT,Int.reduceToNat,Int.reduceEq];try with_reducible refine drawn hmix (by kernel_rfl) ?_))
   refine AtCall.mem (m':=[(3,.cells ((SS.map bs).flatMap encN)),(2,.cells [.g (.int .i64 0),.g (.string ⟨#[]⟩),.g (.int .i64 2),.g (.string p[n].name),.g (.int .i64 3),.g (.string v)]),(1,.cells [.g (.int .i64 3),.g (.string v)])]) (CallM.one (b:=3) HS (by decide) rfl (noIdsL_flat (fun _=>rfl) _) (noIdsL_flat (fun _=>rfl) _)) ?_
   (repeat ((first | with_reducible refine W.step (b:=false) ?_ | skip);simp only [go_sem,↓reduceIte,Nat.reduceAdd,Nat.reduceSub,Nat.reduceMul,Nat.reduceEqDiff,Nat.reduceLeDiff,Nat.reduceLT,Int.reduceLE,Int.reduceLT,Int.reduceToNat,Int.reduceEq];try with_reducible refine drawn hmix (by kernel_rfl) ?_))
   refine AtCall.mem (m':=[(3,.cells (((CS++List.replicate (CL.length - CS.length) []).map bs).flatMap encN)),(2,.cells [.g (.int .i64 0),.g (.string ⟨#[]⟩),.g (.int .i64 2),.g (.string p[n].name),.g (.int .i64 3),.g (.string v)]),(1,.cells [.g (.int .i64 3),.g (.string v)])]) (CallM.one (b:=3) HP (by decide) rfl (noIdsL_flat (fun _=>rfl) _) (noIdsL_flat (fun _=>rfl) _)) ?_;simp only [reF,fnm,lk,reFL]
   (repeat ((first | with_reducible refine W.step (b:=false) ?_ | skip);simp only [go_sem,↓reduceIte,Nat.reduceAdd,Nat.reduceSub,Nat.reduceMul,Nat.reduceEqDiff,Nat.reduceLeDiff,Nat.reduceLT,Int.reduceLE,Int.reduceLT,Int.reduceToNat,Int.reduceEq];try with_reducible refine drawn hmix (by kernel_rfl) ?_))
   obtain ⟨acc0,hacc0⟩:∃ acc0:List (Int×ByteArray),acc0=[(0,⟨#[]⟩),(2,p[n].name),(3,v)]:=⟨_,rfl⟩;replace hKS:KS=acc0++CS.map fun s=>((4:Int),bs s):=by rw [hKS,hacc0,List.map_map];rfl
   have h3:0<acc0.length∧acc0.length≤3:=by rw [hacc0];simp
   refine W.loop (s1:=stL [.any,.any,.any,.any,(.g (.slice none 0 0)),(ownA 1 2 0 (acc0)),.any,.any,.any,.any,.any,.any,.any,.any,.any,.any,.any,.any,.any,.any,.any,.any,.any,.any,.any,.any,.any,.any,.any,.any,.any,.any,.any,.any,.any,.any,.any,(.gs 0 0 CS.length 1 CS.length),(.g (.int .i64 (CS.length:Int))),(.g (.int .i64 ((0:Nat):Int))),.any,.any,.any,.any,.any,.any,.any,.any,.any,.any] ((0,.cells (((CS++List.replicate (CL.length - CS.length) []).map bs).flatMap encN))::rowsM encKy 1 (fun _=>acc0) 1) 2)
    (fun (k:Nat) t=>k≤CS.length∧t=stL [.any,.any,.any,.any,(.g (.slice none 0 0)),(ownA 1 2 0 (acc0++(CS.take k).map fun s=>((4:Int),bs s))),.any,.any,.any,.any,.any,.any,.any,.any,.any,.any,.any,.any,.any,.any,.any,.any,.any,.any,.any,.any,.any,.any,.any,.any,.any,.any,.any,.any,.any,.any,.any,(.gs 0 0 CS.length 1 CS.length),(.g (.int .i64 (CS.length:Int))),(.g (.int .i64 (k:Int))),.any,.any,.any,.any,.any,.any,.any,.any,.any,.any] ((0,.cells (((CS++List.replicate (CL.length - CS.length) []).map bs).flatMap encN))::rowsM encKy 1 (fun _=>acc0++(CS.take k).map fun s=>((4:Int),bs s)) 1) 2) (fun k=>CS.length - k) 0 ⟨Nat.zero_le _,by rw [List.take_zero,List.map_nil,List.append_nil]⟩ ?_ ?_
   ·rw [hacc0]
    exact two_ren (a:=3) (b:=2) (by decide) rfl rfl (noIdsL_flat (fun _=>rfl) _) rfl (by simp [reT_cons,reT_nil,reF,reFL,two2,ltA,ltL,ownA])
   rintro k t ⟨hk,rfl⟩;obtain ⟨acc,hacc⟩:∃ acc:List (Int×ByteArray),acc=acc0++(CS.take k).map fun s=>((4:Int),bs s):=⟨_,rfl⟩;have hal:acc.length=acc0.length+k:=by rw [hacc,List.length_append,List.length_map,List.length_take];omega
   have hnil:acc≠[]:=by intro e;rw [e] at hal;simp at hal;omega
   simp only [←hacc];have hro:=rows_one (enc:=encKy) (b0:=1) hnil;have ho:=ownA_pos (b0:=1) (sz:=2) (j:=0) hnil
   by_cases hlt:k<CS.length
   ·have r:(((CS++List.replicate (CL.length - CS.length) []).map bs).flatMap encN)[k]?=some (.g (.string (bs CS[k]))):=by
     rw [mapN,List.getElem?_map,List.getElem?_map,List.getElem?_append_left hlt,List.getElem?_eq_getElem hlt];rfl
    have x1:(acc.length+1≤acc.length)=False:=eq_false (by omega);have x2:(acc.length+1)*25≤17179869184:=by omega
    have hlz:(acc.flatMap encKy).length=acc.length*2:=flatMap_len (enc:=encKy) (sz:=2) (fun _=>rfl) acc
    (repeat ((first | with_reducible refine W.step (b:=false) ?_ | skip);simp only [go_sem,↓reduceIte,Nat.reduceAdd,Nat.reduceSub,Nat.reduceMul,Nat.reduceEqDiff,Nat.reduceLeDiff,Nat.reduceLT,Int.reduceLE,Int.reduceLT,Int.reduceToNat,Int.reduceEq,hlt,r,hro,ho,x1,x2,hlz];try with_reducible refine drawn hmix (by kernel_rfl) ?_))
    refine ⟨k+1,_,⟨hlt,rfl⟩,by show CS.length - (k+1)<CS.length - k;omega,?_⟩;rw [up1 (by omega)];have hnx:acc0++(CS.take (k+1)).map (fun s=>((4:Int),bs s))=acc++[((4:Int),bs CS[k])]:=by
     rw [List.take_succ_eq_append_getElem hlt,List.map_append,←List.append_assoc,←hacc];rfl
    rw [hnx];exact rows_growG (enc:=encKy) (nn:=3) (fun _=>rfl) (noIdsL_flat (fun _=>rfl) _) (by decide) (by simp [getL]) (by rw [List.flatMap_append];simp [getL,encKy]) (by rw [ownA_pos (by simp)];simp [reT_cons,reT_nil,reF,reFL,ltA,ltL,ownH])
   ·(repeat ((first | with_reducible refine W.step (b:=false) ?_ | skip);simp only [go_sem,↓reduceIte,Nat.reduceAdd,Nat.reduceSub,Nat.reduceMul,Nat.reduceEqDiff,Nat.reduceLeDiff,Nat.reduceLT,Int.reduceLE,Int.reduceLT,Int.reduceToNat,Int.reduceEq,hlt,hro,ho];try with_reducible refine drawn hmix (by kernel_rfl) ?_))
    have hkl:k=CS.length:=by omega
    subst hkl;rw [List.take_length,←hKS] at hacc;subst hacc
    have hsl:=SealTo.gs (m:=[(0,.cells (((CS++List.replicate (CL.length - CS.length) []).map bs).flatMap encN)),(1,.cells (acc.flatMap encKy))]) (b:=1) (o:=0) (k:=acc.length) (sz:=2) (c:=acc.length) (cs:=acc.flatMap encKy) rfl (by rw [flatMap_len (enc:=encKy) (sz:=2) (fun _=>rfl) acc];omega) (fun a ha=>by
     have ha:=List.mem_of_mem_drop (List.mem_of_mem_take ha);obtain ⟨x,-,hx⟩:=List.mem_flatMap.1 ha
     simp [encKy] at hx;rcases hx with rfl | rfl <;> rfl)
    rw [List.drop_zero,List.take_of_length_le (by rw [flatMap_len (enc:=encKy) (sz:=2) (fun _=>rfl) acc];omega)] at hsl;exact postV.of (postP_one _ (.inr rfl) rfl hsl)
end Go.Proofs.YtlnaihkombcbcaaGreat
end
