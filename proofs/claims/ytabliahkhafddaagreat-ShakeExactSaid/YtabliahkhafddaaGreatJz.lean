/- The law ShakeExact is true of every input: the statement of the first form. -/
import Derived.Test.YtabliahkhafddaaGreatJd8
import Derived.Test.YtabliahkhafddaaGreatJe0
import Derived.Test.YtabliahkhafddaaGreatJc9
import Derived.Test.YtabliahkhafddaaGreatJd4
import Derived.WalkKit
import Derived.ProofKit
import Derived.OpenShut
import Derived.SizedLaws
import Derived.WideKeyArgs
set_option linter.unusedSimpArgs false
noncomputable section
namespace Go.Proofs.YtabliahkhafddaaGreat
open Go.RowKit Go.Ev
open Go.Ev.AV renaming any→aN
attribute [local go_sem] eq_self false_and and_false Bool.false_eq_true List.set_cons_succ List.set_cons_zero List.getD_cons_succ List.getD_cons_zero List.getElem?_cons_succ List.getElem?_cons_zero true_and and_true and_self Bool.not_true Bool.not_false Nat.add_zero Nat.zero_add Nat.mul_one Int.toNat_natCast Int.natCast_nonneg Int.ofNat_lt Option.bind_some Option.map_some List.map_cons List.map_nil decide_true decide_false BEq.rfl Bool.and_self Bool.and_true Bool.and_false beq_self_eq_true List.cons_append List.nil_append List.take_zero List.take_succ_cons List.take_nil List.drop_succ_cons List.drop_zero List.drop_nil List.append_nil List.length_cons List.length_nil List.all_cons List.all_nil Nat.le_refl Int.le_refl Option.map_none List.replicate_zero List.replicate_succ Nat.zero_mul Nat.sub_zero Nat.zero_le Nat.le_zero_eq Q2m Option.some_or Option.none_or Option.or_none Option.isSome_some Option.isSome_none Option.getD_some Option.getD_none Int.toNat_zero Int.natCast_zero Int.natCast_one Int.cast_ofNat_Int List.toList_toArray
attribute [go_sem] appL newsA isSlice
set_option maxRecDepth 100000 in
set_option maxHeartbeats 4000000 in
theorem nth6_p (a b i:Int):PureN Tryz.prog gt0 237 [.g (.int .i64 a),.g (.int .i64 b),.g (.int .i64 i)] (.g (.bool (nthM a b i))):=by
 refine PureN.of_w (c:=_) Tryz.func237 rfl (by kernel_rfl) rfl ?_;simp only [Tryz.f237,List.replicate,List.length_cons,List.length_nil,Nat.reduceAdd,Nat.reduceSub,List.cons_append,List.nil_append];have big:∀ n:Int,bigN n=(decide (n< -1000000000)||decide (1000000000<n)):=fun _=>rfl;have hbig:bigN a=true∨bigN b=true∨bigN i=true→nthM a b i=false:=fun h=>by
  unfold nthM;rcases h with h | h | h <;> rw [h] <;> simp
 by_cases a1:a< -1000000000
 ·have f1:=eq_true a1
  rw [hbig (.inl (by rw [big,decide_eq_true a1,Bool.true_or]))]
  (repeat ((try with_reducible refine W.step (b:=false) ?_);simp (decide:=true) only [go_sem,↓reduceIte,Nat.reduceAdd,Nat.reduceSub,f1]))
  exact Q0a _ (.inr rfl) rfl (.plain rfl)
 by_cases a2:1000000000<a
 ·have f2:=eq_true a2
  rw [hbig (.inl (by rw [big,decide_eq_true a2,Bool.or_true]))]
  (repeat ((try with_reducible refine W.step (b:=false) ?_);simp (decide:=true) only [go_sem,↓reduceIte,Nat.reduceAdd,Nat.reduceSub,a1,f2]))
  exact Q0a _ (.inr rfl) rfl (.plain rfl)
 by_cases b1:b< -1000000000
 ·have f1:=eq_true b1
  rw [hbig (.inr (.inl (by rw [big,decide_eq_true b1,Bool.true_or])))]
  (repeat ((try with_reducible refine W.step (b:=false) ?_);simp (decide:=true) only [go_sem,↓reduceIte,Nat.reduceAdd,Nat.reduceSub,a1,a2,f1]))
  exact Q0a _ (.inr rfl) rfl (.plain rfl)
 by_cases b2:1000000000<b
 ·have f2:=eq_true b2
  rw [hbig (.inr (.inl (by rw [big,decide_eq_true b2,Bool.or_true])))]
  (repeat ((try with_reducible refine W.step (b:=false) ?_);simp (decide:=true) only [go_sem,↓reduceIte,Nat.reduceAdd,Nat.reduceSub,a1,a2,b1,f2]))
  exact Q0a _ (.inr rfl) rfl (.plain rfl)
 by_cases i1:i< -1000000000
 ·have f1:=eq_true i1
  rw [hbig (.inr (.inr (by rw [big,decide_eq_true i1,Bool.true_or])))]
  (repeat ((try with_reducible refine W.step (b:=false) ?_);simp (decide:=true) only [go_sem,↓reduceIte,Nat.reduceAdd,Nat.reduceSub,a1,a2,b1,b2,f1]))
  exact Q0a _ (.inr rfl) rfl (.plain rfl)
 by_cases i2:1000000000<i
 ·have f2:=eq_true i2
  rw [hbig (.inr (.inr (by rw [big,decide_eq_true i2,Bool.or_true])))]
  (repeat ((try with_reducible refine W.step (b:=false) ?_);simp (decide:=true) only [go_sem,↓reduceIte,Nat.reduceAdd,Nat.reduceSub,a1,a2,b1,b2,i1,f2]))
  exact Q0a _ (.inr rfl) rfl (.plain rfl)
 have no:∀ x:Int,¬x< -1000000000→¬1000000000<x→bigN x=false:=fun x h1 h2=>by rw [big,decide_eq_false h1,decide_eq_false h2];rfl
 rw [nth_ref (no a a1 a2) (no b b1 b2) (no i i1 i2)]
 by_cases h0:a=0
 ·have f0:=eq_true h0
  rw [if_pos (.inl h0)]
  (repeat ((try with_reducible refine W.step (b:=false) ?_);simp (decide:=true) only [go_sem,↓reduceIte,Nat.reduceAdd,Nat.reduceSub,a1,a2,b1,b2,i1,i2,f0]))
  exact Q0a _ (.inr rfl) rfl (.plain rfl)
 by_cases he:i=b
 ·have fe:=eq_true he
  rw [if_pos (.inr he),decide_eq_true he]
  (repeat ((try with_reducible refine W.step (b:=false) ?_);simp (decide:=true) only [go_sem,↓reduceIte,Nat.reduceAdd,Nat.reduceSub,a1,a2,b1,b2,i1,i2,h0,fe]))
  exact Q0a _ (.inr rfl) rfl (.plain rfl)
 rw [if_neg (by omega)];have w1:IntKind.i64.wrap (i - b)=i - b:=IntWalk.i64_in _ (by omega);have w2:IntKind.i64.wrap (b - i)=b - i:=IntWalk.i64_in _ (by omega);have w3:IntKind.i64.wrap (0 - a)=-a:=(IntWalk.i64_in _ (by omega)).trans (by omega)
 by_cases hn:a<0
 ·have fn:=eq_true hn
  rw [if_pos hn]
  by_cases hl:i<b
  ·have fl:=eq_true hl
   have fz:(-a=0)=False:=eq_false (by omega);rw [decide_eq_true hl,Bool.true_and]
   (repeat ((try with_reducible refine W.step (b:=false) ?_);simp (decide:=true) only [go_sem,↓reduceIte,Nat.reduceAdd,Nat.reduceSub,a1,a2,b1,b2,i1,i2,h0,he,fn,fl,w1,w2,w3,fz]))
   exact Q0a _ (.inr rfl) rfl (.plain rfl)
  ·rw [decide_eq_false hl,Bool.false_and]
   (repeat ((try with_reducible refine W.step (b:=false) ?_);simp (decide:=true) only [go_sem,↓reduceIte,Nat.reduceAdd,Nat.reduceSub,a1,a2,b1,b2,i1,i2,h0,he,fn,hl]))
   exact Q0a _ (.inr rfl) rfl (.plain rfl)
 ·rw [if_neg hn]
  by_cases hl:b<i
  ·have fl:=eq_true hl
   rw [decide_eq_true hl,Bool.true_and]
   (repeat ((try with_reducible refine W.step (b:=false) ?_);simp (decide:=true) only [go_sem,↓reduceIte,Nat.reduceAdd,Nat.reduceSub,a1,a2,b1,b2,i1,i2,h0,he,hn,fl,w1,w2,w3]))
   exact Q0a _ (.inr rfl) rfl (.plain rfl)
  ·rw [decide_eq_false hl,Bool.false_and]
   (repeat ((try with_reducible refine W.step (b:=false) ?_);simp (decide:=true) only [go_sem,↓reduceIte,Nat.reduceAdd,Nat.reduceSub,a1,a2,b1,b2,i1,i2,h0,he,hn,hl]))
   exact Q0a _ (.inr rfl) rfl (.plain rfl)
theorem wordsL_le:∀ (l cur:List UInt8),(wordsL cur l).length≤l.length+if cur=[] then 0 else 1
 | [],cur=>by rw [wordsL];split <;> simp
 | c::l,cur=>by
   rw [wordsL];have h1:=wordsL_le l [];have h2:=wordsL_le l (cur++[c]);rw [if_pos rfl] at h1;rw [if_neg (by simp)] at h2;rw [List.length_cons]
   split
   ·split
    ·omega
    ·rw [List.length_cons];omega
   ·split <;> omega
theorem classes_le {p:List Nod} {n:Int} (hp:OkPg p):(classesM p n).length≤1000000:=by
 unfold classesM wordsB;rw [List.length_map];have h1:=wordsL_le ((atM p n clsB).getD ⟨#[]⟩).data.toList [];have h2:=at_size hp n clsB;rw [if_pos rfl,Array.length_toList] at h1;exact Nat.le_trans h1 h2
theorem fl_stw:fldO Tryz.prog 108 0=some (0,3):=by kernel_rfl
attribute [go_sem] fl_stw
theorem rowSt2 {l:List Stt} {k:Nat} (hk:k<l.length):(l.flatMap encSt)[k*2]?=some (.g (.int .i64 l[k].node))∧(l.flatMap encSt)[k*2+1]?=some (.g (.string l[k].name)):=by
 have h:=flat_get encSt 2 (fun _=>rfl) l k hk;exact ⟨h 0 (by decide),h 1 (by decide)⟩
set_option maxRecDepth 100000 in
set_option maxHeartbeats 4000000 in
theorem state12_p (l:List Stt) (n:Int) (s:ByteArray) (hl:l.length≤1000000):PureN Tryz.prog gt0 236 [.sl l.length 2 (l.flatMap encSt),.g (.int .i64 n),.g (.string s)] (.g (.bool (l.any fun x=>decide (x.node=n)&&decide (x.name=s)))):=by
 refine PureN.of_w (c:=_) Tryz.func236 rfl (by kernel_rfl) rfl ?_;simp only [Tryz.f236,List.replicate,List.length_cons,List.length_nil,Nat.reduceAdd,Nat.reduceSub,List.cons_append,List.nil_append]
 (repeat ((try with_reducible refine W.step (b:=false) ?_);simp (decide:=true) only [go_sem,↓reduceIte,Nat.reduceAdd,Nat.reduceSub]))
 refine W.loop (s1:=stL [(.sl l.length 2 (l.flatMap encSt)),(.g (.int .i64 n)),(.g (.string s)),aN,aN,aN,(.g (.bool false)),(.g (.int .i64 ((0:Nat):Int))),aN,aN,aN,aN,aN,aN,aN,aN,aN,aN,aN,aN,aN,aN,aN,aN,aN,aN,aN,aN,aN,aN] [] 0)
  (fun (k:Nat) t=>k≤l.length∧(∀ x∈l.take k,(decide (x.node=n)&&decide (x.name=s))=false)∧t=stL [(.sl l.length 2 (l.flatMap encSt)),(.g (.int .i64 n)),(.g (.string s)),aN,aN,aN,(.g (.bool false)),(.g (.int .i64 (k:Int))),aN,aN,aN,aN,aN,aN,aN,aN,aN,aN,aN,aN,aN,aN,aN,aN,aN,aN,aN,aN,aN,aN] [] 0) (fun k=>l.length - k) 0 ⟨Nat.zero_le _,by simp,rfl⟩ (VS.tm (by simp [leL])) ?_
 rintro k t ⟨hk,hno,rfl⟩
 by_cases hlt:k<l.length
 ·have r:=rowSt2 hlt
  have nxt:(decide (l[k].node=n)&&decide (l[k].name=s))=false→∀ x∈l.take (k+1),(decide (x.node=n)&&decide (x.name=s))=false:=fun h=>Q1c (pr:=fun x:Stt=>decide (x.node=n)&&decide (x.name=s)) hlt hno h
  by_cases h1:l[k].node=n
  ·have f1:=eq_true h1
   by_cases h2:l[k].name=s
   ·have f2:=eq_true h2
    have ha:(l.any fun x=>decide (x.node=n)&&decide (x.name=s))=true:=List.any_eq_true.2 ⟨l[k],List.getElem_mem hlt,by rw [decide_eq_true h1,decide_eq_true h2];rfl⟩;rw [ha]
    (repeat ((try with_reducible refine W.step (b:=false) ?_);simp (decide:=true) only [go_sem,↓reduceIte,Nat.reduceAdd,Nat.reduceSub,hlt,r,f1,f2]))
    exact Q0a _ (.inr rfl) rfl (.plain rfl)
   ·(repeat ((try with_reducible refine W.step (b:=false) ?_);simp (decide:=true) only [go_sem,↓reduceIte,Nat.reduceAdd,Nat.reduceSub,hlt,r,f1,h2]))
    refine ⟨k+1,_,⟨by omega,nxt (by rw [decide_eq_false h2,Bool.and_false]),rfl⟩,by show l.length - (k+1)<l.length - k;omega,VS.tm ?_⟩;rw [up1 (by omega)];simp [leL]
  ·(repeat ((try with_reducible refine W.step (b:=false) ?_);simp (decide:=true) only [go_sem,↓reduceIte,Nat.reduceAdd,Nat.reduceSub,hlt,r,h1]))
   refine ⟨k+1,_,⟨by omega,nxt (by rw [decide_eq_false h1,Bool.false_and]),rfl⟩,by show l.length - (k+1)<l.length - k;omega,VS.tm ?_⟩;rw [up1 (by omega)];simp [leL]
 ·have ha:(l.any fun x=>decide (x.node=n)&&decide (x.name=s))=false:=List.any_eq_false.2 (fun x hx=>by rw [hno x (by rw [List.take_of_length_le (by omega)];exact hx)];decide)
  rw [ha]
  (repeat ((try with_reducible refine W.step (b:=false) ?_);simp (decide:=true) only [go_sem,↓reduceIte,Nat.reduceAdd,Nat.reduceSub,hlt]))
  exact Q0a _ (.inr rfl) rfl (.plain rfl)
set_option maxRecDepth 100000 in
set_option maxHeartbeats 4000000 in
theorem Q3y (p:List Nod) (n:Int) (hp:OkPg p):PureN Tryz.prog gt0 238 [.sl p.length 5 (p.flatMap encNd),.g (.int .i64 n)] (.g (.int .i64 (placeM p n))):=by
 refine PureN.of_w (c:=_) Tryz.func238 rfl (by kernel_rfl) rfl ?_;simp only [Tryz.f238,List.replicate,List.length_cons,List.length_nil,Nat.reduceAdd,Nat.reduceSub,List.cons_append,List.nil_append]
 (repeat ((try with_reducible refine W.step (b:=false) ?_);simp (decide:=true) only [go_sem,↓reduceIte,Nat.reduceAdd,Nat.reduceSub]))
 refine AtCall.mk (kin10_p p n hp) ?_
 (repeat ((try with_reducible refine W.step (b:=false) ?_);simp (decide:=true) only [go_sem,↓reduceIte,Nat.reduceAdd,Nat.reduceSub]))
 unfold placeM;have hl:=kin_len (n:=n) hp;generalize kinM p n=l at hl ⊢
 refine W.loop (s1:=stL [aN,(.g (.int .i64 n)),aN,aN,(.g (.int .i64 0)),(.sl l.length 1 (l.flatMap encZ)),(.g (.int .i64 ((0:Nat):Int))),aN,aN,aN,aN,aN,aN,aN,aN,aN,aN,aN,aN,aN,aN,aN,aN,aN] [] 0)
  (fun (k:Nat) t=>k≤l.length∧(∀ x∈l.take k,decide (x=n)=false)∧t=stL [aN,(.g (.int .i64 n)),aN,aN,(.g (.int .i64 0)),(.sl l.length 1 (l.flatMap encZ)),(.g (.int .i64 (k:Int))),aN,aN,aN,aN,aN,aN,aN,aN,aN,aN,aN,aN,aN,aN,aN,aN,aN] [] 0) (fun k=>l.length - k) 0 ⟨Nat.zero_le _,by simp,rfl⟩ (VS.tm (by simp [leL])) ?_
 rintro k t ⟨hk,hno,rfl⟩
 by_cases hlt:k<l.length
 ·have r:=rowZ hlt
  have hfin:IntKind.i64.wrap ((k:Int)+1)=((k+1:Nat):Int):=up1 (by omega)
  by_cases hx:l[k]=n
  ·have fx:=eq_true hx
   rw [Q3q hlt hno (decide_eq_true hx),show 1+(k:Int)=((k+1:Nat):Int) by omega]
   (repeat ((try with_reducible refine W.step (b:=false) ?_);simp (decide:=true) only [go_sem,↓reduceIte,Nat.reduceAdd,Nat.reduceSub,hlt,r,fx,hfin]))
   exact Q0a _ (.inr rfl) rfl (.plain rfl)
  ·(repeat ((try with_reducible refine W.step (b:=false) ?_);simp (decide:=true) only [go_sem,↓reduceIte,Nat.reduceAdd,Nat.reduceSub,hlt,r,hx]))
   refine ⟨k+1,_,⟨by omega,Q1c (pr:=fun x:Int=>decide (x=n)) hlt hno (decide_eq_false hx),rfl⟩,by show l.length - (k+1)<l.length - k;omega,VS.tm ?_⟩;rw [hfin];simp [leL]
 ·rw [Q3f (fun x hx=>hno x (by rw [List.take_of_length_le (by omega)];exact hx))]
  (repeat ((try with_reducible refine W.step (b:=false) ?_);simp (decide:=true) only [go_sem,↓reduceIte,Nat.reduceAdd,Nat.reduceSub,hlt]))
  exact Q0a _ (.inr rfl) rfl (.plain rfl)
set_option maxRecDepth 100000 in
set_option maxHeartbeats 4000000 in
theorem holds12_p (p:List Nod) (st:List Stt) (n:Int) (hp:OkPg p) (hs:st.length≤1000000) (he:elemB p n=true) (N:Nat):∀ (x:Simp),SizeOf.sizeOf x≤N→okS x→PureN Tryz.prog gt0 163 [.sl p.length 5 (p.flatMap encNd),.sl st.length 2 (st.flatMap encSt),.g (.int .i64 n),.agg (encS x)] (.g (.bool (holdsS p st n x))):=by
 induction N with
 | zero=>intro x hl;cases x;simp at hl
 | succ N ih =>
   rintro ⟨kind,name,value,a,b,l⟩ hl hok;have IH:∀ y∈l,PureN Tryz.prog gt0 163 [.sl p.length 5 (p.flatMap encNd),.sl st.length 2 (st.flatMap encSt),.g (.int .i64 n),.agg (encS y)] (.g (.bool (holdsS p st n y))):=fun y hy=>by
    have h1:=List.sizeOf_lt_of_mem hy;have h2:=okL_mem hok.2 y hy;rw [Simp.mk.sizeOf_spec] at hl;exact ih y (by omega) h2
   refine PureN.of_w (c:=_) Tryz.func163 rfl (by kernel_rfl) (by simp [noIdsL,noIds,noIds_S]) ?_;simp only [Tryz.f163,List.replicate,List.length_cons,List.length_nil,Nat.reduceAdd,Nat.reduceSub,List.cons_append,List.nil_append,encS_m,holdsS];obtain ⟨k,rfl,hk,hnd⟩:=at_nat he;have r:=rowNd hk
   by_cases h1:kind=1
   ·have f1:=eq_true h1
    rw [if_pos h1]
    (repeat ((try with_reducible refine W.step (b:=false) ?_);simp (decide:=true) only [go_sem,↓reduceIte,Nat.reduceAdd,Nat.reduceSub,f1];try with_reducible refine drawn hmix (by kernel_rfl) ?_))
    exact Q0a _ (.inr rfl) rfl (.plain rfl)
   have f1:=eq_false h1;rw [if_neg h1]
   by_cases h2:kind=2
   ·have f2:=eq_true h2
    rw [if_pos h2,hnd]
    (repeat ((try with_reducible refine W.step (b:=false) ?_);simp (decide:=true) only [go_sem,↓reduceIte,Nat.reduceAdd,Nat.reduceSub,f1,f2,hk,r];try with_reducible refine drawn hmix (by kernel_rfl) ?_))
    exact Q0a _ (.inr rfl) rfl (.plain rfl)
   have f2:=eq_false h2;rw [if_neg h2]
   by_cases h3:kind=3
   ·have f3:=eq_true h3
    rw [if_pos h3,attr_one]
    (repeat ((try with_reducible refine W.step (b:=false) ?_);simp (decide:=true) only [go_sem,↓reduceIte,Nat.reduceAdd,Nat.reduceSub,f1,f2,f3];try with_reducible refine drawn hmix (by kernel_rfl) ?_))
    refine AtCall.mk (attr10_p p k idB hp) ?_
    cases hv:atM p k idB with
    | none =>
      (repeat ((try with_reducible refine W.step (b:=false) ?_);simp (decide:=true) only [go_sem,↓reduceIte,Nat.reduceAdd,Nat.reduceSub];try with_reducible refine drawn hmix (by kernel_rfl) ?_))
      exact Q0a _ (.inr rfl) rfl (.plain rfl)
    | some v =>
      (repeat ((try with_reducible refine W.step (b:=false) ?_);simp (decide:=true) only [go_sem,↓reduceIte,Nat.reduceAdd,Nat.reduceSub];try with_reducible refine drawn hmix (by kernel_rfl) ?_))
      exact Q0a _ (.inr rfl) rfl (.plain rfl)
   have f3:=eq_false h3;rw [if_neg h3]
   by_cases h4:kind=4
   ·have f4:=eq_true h4
    rw [if_pos h4]
    (repeat ((try with_reducible refine W.step (b:=false) ?_);simp (decide:=true) only [go_sem,↓reduceIte,Nat.reduceAdd,Nat.reduceSub,f1,f2,f3,f4];try with_reducible refine drawn hmix (by kernel_rfl) ?_))
    refine AtCallQ.mk (classes10_p p k hp) ?_
    (repeat ((try with_reducible refine W.step (b:=false) ?_);simp (decide:=true) only [go_sem,↓reduceIte,Nat.reduceAdd,Nat.reduceSub];try with_reducible refine drawn hmix (by kernel_rfl) ?_))
    refine AtCallQ.mk (in11w_p (classesM p k) name (classes_le hp)) ?_
    (repeat ((try with_reducible refine W.step (b:=false) ?_);simp (decide:=true) only [go_sem,↓reduceIte,Nat.reduceAdd,Nat.reduceSub];try with_reducible refine drawn hmix (by kernel_rfl) ?_))
    exact Q0a _ (.inr rfl) rfl (.plain rfl)
   have f4:=eq_false h4;rw [if_neg h4]
   by_cases h5:kind=5
   ·have f5:=eq_true h5
    rw [if_pos h5,attr_none]
    (repeat ((try with_reducible refine W.step (b:=false) ?_);simp (decide:=true) only [go_sem,↓reduceIte,Nat.reduceAdd,Nat.reduceSub,f1,f2,f3,f4,f5];try with_reducible refine drawn hmix (by kernel_rfl) ?_))
    refine AtCall.mk (attr10_p p k name hp) ?_
    (repeat ((try with_reducible refine W.step (b:=false) ?_);simp (decide:=true) only [go_sem,↓reduceIte,Nat.reduceAdd,Nat.reduceSub];try with_reducible refine drawn hmix (by kernel_rfl) ?_))
    exact Q0a _ (.inr rfl) rfl (.plain rfl)
   have f5:=eq_false h5;rw [if_neg h5]
   by_cases h6:kind=6
   ·have f6:=eq_true h6
    rw [if_pos h6,attr_one]
    (repeat ((try with_reducible refine W.step (b:=false) ?_);simp (decide:=true) only [go_sem,↓reduceIte,Nat.reduceAdd,Nat.reduceSub,f1,f2,f3,f4,f5,f6];try with_reducible refine drawn hmix (by kernel_rfl) ?_))
    refine AtCall.mk (attr10_p p k name hp) ?_
    cases hv:atM p k name with
    | none =>
      (repeat ((try with_reducible refine W.step (b:=false) ?_);simp (decide:=true) only [go_sem,↓reduceIte,Nat.reduceAdd,Nat.reduceSub];try with_reducible refine drawn hmix (by kernel_rfl) ?_))
      exact Q0a _ (.inr rfl) rfl (.plain rfl)
    | some v =>
      (repeat ((try with_reducible refine W.step (b:=false) ?_);simp (decide:=true) only [go_sem,↓reduceIte,Nat.reduceAdd,Nat.reduceSub];try with_reducible refine drawn hmix (by kernel_rfl) ?_))
      exact Q0a _ (.inr rfl) rfl (.plain rfl)
   have f6:=eq_false h6;rw [if_neg h6]
   by_cases h7:kind=7
   ·have f7:=eq_true h7
    rw [if_pos h7]
    (repeat ((try with_reducible refine W.step (b:=false) ?_);simp (decide:=true) only [go_sem,↓reduceIte,Nat.reduceAdd,Nat.reduceSub,f1,f2,f3,f4,f5,f6,f7];try with_reducible refine drawn hmix (by kernel_rfl) ?_))
    refine AtCall.mk (state12_p st k name hs) ?_
    (repeat ((try with_reducible refine W.step (b:=false) ?_);simp (decide:=true) only [go_sem,↓reduceIte,Nat.reduceAdd,Nat.reduceSub];try with_reducible refine drawn hmix (by kernel_rfl) ?_))
    exact Q0a _ (.inr rfl) rfl (.plain rfl)
   have f7:=eq_false h7;rw [if_neg h7]
   by_cases h8:kind=8
   ·have f8:=eq_true h8
    rw [if_pos h8]
    (repeat ((try with_reducible refine W.step (b:=false) ?_);simp (decide:=true) only [go_sem,↓reduceIte,Nat.reduceAdd,Nat.reduceSub,f1,f2,f3,f4,f5,f6,f7,f8];try with_reducible refine drawn hmix (by kernel_rfl) ?_))
    refine AtCallQ.mk (Q3y p k hp) ?_
    (repeat ((try with_reducible refine W.step (b:=false) ?_);simp (decide:=true) only [go_sem,↓reduceIte,Nat.reduceAdd,Nat.reduceSub];try with_reducible refine drawn hmix (by kernel_rfl) ?_))
    refine AtCallQ.mk (nth6_p a b (placeM p k)) ?_
    (repeat ((try with_reducible refine W.step (b:=false) ?_);simp (decide:=true) only [go_sem,↓reduceIte,Nat.reduceAdd,Nat.reduceSub];try with_reducible refine drawn hmix (by kernel_rfl) ?_))
    exact Q0a _ (.inr rfl) rfl (.plain rfl)
   have f8:=eq_false h8;rw [if_neg h8]
   by_cases h9:kind=9
   ·have f9:=eq_true h9
    rw [if_pos h9,hnd]
    by_cases hu:p[k].up=0
    ·have fu:=eq_true hu
     (repeat ((try with_reducible refine W.step (b:=false) ?_);simp (decide:=true) only [go_sem,↓reduceIte,Nat.reduceAdd,Nat.reduceSub,f1,f2,f3,f4,f5,f6,f7,f8,f9,fu,hk,r];try with_reducible refine drawn hmix (by kernel_rfl) ?_))
     refine AtCall.mk (Q3y p k hp) ?_
     (repeat ((try with_reducible refine W.step (b:=false) ?_);simp (decide:=true) only [go_sem,↓reduceIte,Nat.reduceAdd,Nat.reduceSub];try with_reducible refine drawn hmix (by kernel_rfl) ?_))
     exact Q0a _ (.inr rfl) rfl (.plain rfl)
    ·have fu:=eq_false hu
     (repeat ((try with_reducible refine W.step (b:=false) ?_);simp (decide:=true) only [go_sem,↓reduceIte,Nat.reduceAdd,Nat.reduceSub,f1,f2,f3,f4,f5,f6,f7,f8,f9,fu,hk,r];try with_reducible refine drawn hmix (by kernel_rfl) ?_))
     exact Q0a _ (.inr rfl) rfl (.plain rfl)
   have f9:=eq_false h9;rw [if_neg h9]
   by_cases h10:kind=10
   ·have f10:=eq_true h10
    rw [if_pos h10,hnd];have fz:(p[k].kids.length:Int)=0↔p[k].kids=[]:=by rw [←List.length_eq_zero_iff];omega
    have fz2:decide ((p[k].kids.length:Int)=0)=decide (p[k].kids=[]):=by rw [Bool.eq_iff_iff];simp only [decide_eq_true_eq];exact fz
    (repeat ((try with_reducible refine W.step (b:=false) ?_);simp (decide:=true) only [go_sem,↓reduceIte,Nat.reduceAdd,Nat.reduceSub,f1,f2,f3,f4,f5,f6,f7,f8,f9,f10,hk,r,fz2];try with_reducible refine drawn hmix (by kernel_rfl) ?_))
    exact Q0a _ (.inr rfl) rfl (.plain rfl)
   have f10:=eq_false h10;rw [if_neg h10]
   by_cases h11:kind=11
   ·have f11:=eq_true h11
    rw [if_pos h11,anyS_eq]
    (repeat ((try with_reducible refine W.step (b:=false) ?_);simp (decide:=true) only [go_sem,↓reduceIte,Nat.reduceAdd,Nat.reduceSub,f1,f2,f3,f4,f5,f6,f7,f8,f9,f10,f11];try with_reducible refine drawn hmix (by kernel_rfl) ?_))
    have hll:=hok.1
    refine W.loop (s1:=stL [(.sl p.length 5 (p.flatMap encNd)),(.sl st.length 2 (st.flatMap encSt)),(.g (.int .i64 (k:Int))),aN,aN,aN,aN,(.ptr 0 0),(.g (.bool false)),aN,aN,aN,aN,aN,aN,(.g (.int .i64 ((0:Nat):Int))),aN,aN,aN,aN,aN,aN,aN,aN,aN,aN,aN,aN,aN,aN,aN,aN,aN,aN,aN,aN,aN,aN,aN,aN,aN,aN,aN,aN,aN,aN,aN,aN,aN,aN,aN,aN,aN,aN,aN,aN,aN,aN,aN,aN,aN,aN,aN,aN,aN,aN,aN,aN,aN,aN,aN,aN,aN,aN,aN,aN,aN,aN,aN,aN,aN,aN,aN,aN,aN,aN,aN,aN,aN,aN,aN,aN,aN,aN,aN,aN,aN,aN,aN,aN,aN,aN,aN,aN,aN,aN,aN,aN,aN,aN,aN,aN,aN,aN,aN,aN,aN,aN,aN,aN,aN,aN,aN,aN,aN,aN,aN,aN,aN,aN,aN,aN,aN,aN,aN,aN,aN,aN,aN] [(0,.cells [.g (.int .i64 kind),.g (.string name),.g (.string value),.g (.int .i64 a),.g (.int .i64 b),.sl l.length 6 (l.flatMap encS)])] 1)
     (fun (i:Nat) t=>i≤l.length∧(∀ x∈l.take i,holdsS p st k x=false)∧t=stL [(.sl p.length 5 (p.flatMap encNd)),(.sl st.length 2 (st.flatMap encSt)),(.g (.int .i64 (k:Int))),aN,aN,aN,aN,(.ptr 0 0),(.g (.bool false)),aN,aN,aN,aN,aN,aN,(.g (.int .i64 (i:Int))),aN,aN,aN,aN,aN,aN,aN,aN,aN,aN,aN,aN,aN,aN,aN,aN,aN,aN,aN,aN,aN,aN,aN,aN,aN,aN,aN,aN,aN,aN,aN,aN,aN,aN,aN,aN,aN,aN,aN,aN,aN,aN,aN,aN,aN,aN,aN,aN,aN,aN,aN,aN,aN,aN,aN,aN,aN,aN,aN,aN,aN,aN,aN,aN,aN,aN,aN,aN,aN,aN,aN,aN,aN,aN,aN,aN,aN,aN,aN,aN,aN,aN,aN,aN,aN,aN,aN,aN,aN,aN,aN,aN,aN,aN,aN,aN,aN,aN,aN,aN,aN,aN,aN,aN,aN,aN,aN,aN,aN,aN,aN,aN,aN,aN,aN,aN,aN,aN,aN,aN,aN,aN,aN] [(0,.cells [.g (.int .i64 kind),.g (.string name),.g (.string value),.g (.int .i64 a),.g (.int .i64 b),.sl l.length 6 (l.flatMap encS)])] 1) (fun i=>l.length - i) 0 ⟨Nat.zero_le _,by simp,rfl⟩ (VS.tm (by simp [leL])) ?_
    rintro i t ⟨hi,hno,rfl⟩
    by_cases hlt:i<l.length
    ·obtain ⟨r1,r2⟩:=rowS6 hlt
     (repeat ((try with_reducible refine W.step (b:=false) ?_);simp (decide:=true) only [go_sem,↓reduceIte,Nat.reduceAdd,Nat.reduceSub,hlt,r1,r2];try with_reducible refine drawn hmix (by kernel_rfl) ?_))
     refine AtCall.mk (IH l[i] (List.getElem_mem hlt)) ?_
     cases hx:holdsS p st k l[i] with
     | true =>
       have ha:l.any (holdsS p st k)=true:=List.any_eq_true.2 ⟨l[i],List.getElem_mem hlt,hx⟩;rw [ha]
       (repeat ((try with_reducible refine W.step (b:=false) ?_);simp (decide:=true) only [go_sem,↓reduceIte,Nat.reduceAdd,Nat.reduceSub];try with_reducible refine drawn hmix (by kernel_rfl) ?_))
       exact Q0a _ (.inr rfl) rfl (.plain rfl)
     | false =>
       (repeat ((try with_reducible refine W.step (b:=false) ?_);simp (decide:=true) only [go_sem,↓reduceIte,Nat.reduceAdd,Nat.reduceSub];try with_reducible refine drawn hmix (by kernel_rfl) ?_))
       refine ⟨i+1,_,⟨by omega,Q1c hlt hno hx,rfl⟩,by show l.length - (i+1)<l.length - i;omega,VS.tm ?_⟩;rw [up1 (by omega)];simp [leL]
    ·have ha:l.any (holdsS p st k)=false:=List.any_eq_false.2 (fun x hx=>by rw [hno x (by rw [List.take_of_length_le (by omega)];exact hx)];decide)
     rw [ha]
     (repeat ((try with_reducible refine W.step (b:=false) ?_);simp (decide:=true) only [go_sem,↓reduceIte,Nat.reduceAdd,Nat.reduceSub,hlt];try with_reducible refine drawn hmix (by kernel_rfl) ?_))
     exact Q0a _ (.inr rfl) rfl (.plain rfl)
   have f11:=eq_false h11;rw [if_neg h11]
   (repeat ((try with_reducible refine W.step (b:=false) ?_);simp (decide:=true) only [go_sem,↓reduceIte,Nat.reduceAdd,Nat.reduceSub,f1,f2,f3,f4,f5,f6,f7,f8,f9,f10,f11];try with_reducible refine drawn hmix (by kernel_rfl) ?_))
   exact Q0a _ (.inr rfl) rfl (.plain rfl)
set_option maxRecDepth 100000 in
set_option maxHeartbeats 4000000 in
theorem each12_p (p:List Nod) (st:List Stt) (n:Int) (l:List Simp) (hp:OkPg p) (hs:st.length≤1000000) (he:elemB p n=true) (hl:l.length≤1000000) (hok:∀ x∈l,okS x):PureN Tryz.prog gt0 93 [.sl p.length 5 (p.flatMap encNd),.sl st.length 2 (st.flatMap encSt),.g (.int .i64 n),.sl l.length 6 (l.flatMap encS)] (.g (.bool (l.all (holdsS p st n)))):=by
 refine PureN.of_w (c:=_) Tryz.func93 rfl (by kernel_rfl) rfl ?_;simp only [Tryz.f93,List.replicate,List.length_cons,List.length_nil,Nat.reduceAdd,Nat.reduceSub,List.cons_append,List.nil_append]
 (repeat ((try with_reducible refine W.step (b:=false) ?_);simp (decide:=true) only [go_sem,↓reduceIte,Nat.reduceAdd,Nat.reduceSub]))
 refine W.loop (s1:=stL [(.sl p.length 5 (p.flatMap encNd)),(.sl st.length 2 (st.flatMap encSt)),(.g (.int .i64 n)),(.sl l.length 6 (l.flatMap encS)),aN,aN,aN,aN,(.g (.bool false)),(.g (.int .i64 ((0:Nat):Int))),aN,aN,aN,aN,aN,aN,aN,aN,aN,aN,aN,aN,aN,aN,aN] [] 0)
  (fun (i:Nat) t=>i≤l.length∧(∀ x∈l.take i,(!holdsS p st n x)=false)∧t=stL [(.sl p.length 5 (p.flatMap encNd)),(.sl st.length 2 (st.flatMap encSt)),(.g (.int .i64 n)),(.sl l.length 6 (l.flatMap encS)),aN,aN,aN,aN,(.g (.bool false)),(.g (.int .i64 (i:Int))),aN,aN,aN,aN,aN,aN,aN,aN,aN,aN,aN,aN,aN,aN,aN] [] 0) (fun i=>l.length - i) 0 ⟨Nat.zero_le _,by simp,rfl⟩ (VS.tm (by simp [leL])) ?_
 rintro i t ⟨hi,hno,rfl⟩
 by_cases hlt:i<l.length
 ·obtain ⟨r1,r2⟩:=rowS6 hlt
  (repeat ((try with_reducible refine W.step (b:=false) ?_);simp (decide:=true) only [go_sem,↓reduceIte,Nat.reduceAdd,Nat.reduceSub,hlt,r1,r2]))
  refine AtCall.mk (holds12_p p st n hp hs he _ l[i] (Nat.le_refl _) (hok _ (List.getElem_mem hlt))) ?_
  cases hx:holdsS p st n l[i] with
  | false =>
    have ha:l.all (holdsS p st n)=false:=List.all_eq_false.2 ⟨l[i],List.getElem_mem hlt,by rw [hx];decide⟩;rw [ha]
    (repeat ((try with_reducible refine W.step (b:=false) ?_);simp (decide:=true) only [go_sem,↓reduceIte,Nat.reduceAdd,Nat.reduceSub]))
    exact Q0a _ (.inr rfl) rfl (.plain rfl)
  | true =>
    (repeat ((try with_reducible refine W.step (b:=false) ?_);simp (decide:=true) only [go_sem,↓reduceIte,Nat.reduceAdd,Nat.reduceSub]))
    refine ⟨i+1,_,⟨by omega,Q1c (pr:=fun x=>!holdsS p st n x) hlt hno (by simp only [hx];rfl),rfl⟩,by show l.length - (i+1)<l.length - i;omega,VS.tm ?_⟩;rw [up1 (by omega)];simp [leL]
 ·have ha:l.all (holdsS p st n)=true:=List.all_eq_true.2 (fun x hx=>by have:=hno x (by rw [List.take_of_length_le (by omega)];exact hx);simpa using this)
  rw [ha]
  (repeat ((try with_reducible refine W.step (b:=false) ?_);simp (decide:=true) only [go_sem,↓reduceIte,Nat.reduceAdd,Nat.reduceSub,hlt]))
  exact Q0a _ (.inr rfl) rfl (.plain rfl)
set_option maxRecDepth 100000 in
set_option maxHeartbeats 4000000 in
theorem in12_p (p:List Nod) (n m:Nat) (hT:TreeP p) (hn:n<p.length) (hm:0<m):PureN Tryz.prog gt0 239 [.sl p.length 5 (p.flatMap encNd),.g (.int .i64 (n:Int)),.g (.int .i64 (m:Int))] (.g (.bool (decide (m∈aboveM p n)))):=by
 refine PureN.of_w (c:=_) Tryz.func239 rfl (by kernel_rfl) rfl ?_;simp only [Tryz.f239,List.replicate,List.length_cons,List.length_nil,Nat.reduceAdd,Nat.reduceSub,List.cons_append,List.nil_append]
 (repeat ((try with_reducible refine W.step (b:=false) ?_);simp (decide:=true) only [go_sem,↓reduceIte,Nat.reduceAdd,Nat.reduceSub]))
 refine W.loop (s1:=stL [(.sl p.length 5 (p.flatMap encNd)),(.g (.int .i64 (n:Int))),(.g (.int .i64 (m:Int))),aN,aN,aN,(.g (.bool false)),aN,aN,aN,aN,aN,aN,aN,aN,aN,aN] [] 0)
  (fun (u:Nat) t=>u<p.length∧(m∈aboveM p n↔m∈aboveM p u)∧t=stL [(.sl p.length 5 (p.flatMap encNd)),(.g (.int .i64 (u:Int))),(.g (.int .i64 (m:Int))),aN,aN,aN,(.g (.bool false)),aN,aN,aN,aN,aN,aN,aN,aN,aN,aN] [] 0) (fun u=>u) n ⟨hn,Iff.rfl,rfl⟩ (VS.tm (by simp [leL])) ?_
 rintro u t ⟨hu,hiff,rfl⟩
 by_cases h0:0<u
 ·have f0:((0:Int)<(u:Int))=True:=eq_true (by omega)
  have r:=rowNd hu;obtain ⟨g1,g2⟩:=hT.up u h0 hu;have hst:=Q4e (p:=p) u;rw [Q0r hu] at g1 g2 hst;obtain ⟨v,hv⟩:∃ v:Nat,p[u].up=v:=⟨p[u].up.toNat,by omega⟩;rw [hv] at r hst g2;rw [Int.toNat_natCast] at hst
  by_cases hx:v=m
  ·have fx:((v:Int)=(m:Int))=True:=eq_true (by omega)
   have ha:m∈aboveM p n:=hiff.2 (by rw [hst,if_pos ⟨by omega,by omega⟩,hx];exact List.mem_cons_self);rw [decide_eq_true ha]
   (repeat ((try with_reducible refine W.step (b:=false) ?_);simp (decide:=true) only [go_sem,↓reduceIte,Nat.reduceAdd,Nat.reduceSub,f0,h0,hu,r,fx,hx]))
   exact Q0a _ (.inr rfl) rfl (.plain rfl)
  ·have fx:((v:Int)=(m:Int))=False:=eq_false (by omega)
   (repeat ((try with_reducible refine W.step (b:=false) ?_);simp (decide:=true) only [go_sem,↓reduceIte,Nat.reduceAdd,Nat.reduceSub,f0,h0,hu,r,fx,hx]))
   refine ⟨v,_,⟨by omega,hiff.trans ?_,rfl⟩,by show v<u;omega,VS.tm (by simp [leL])⟩;rw [hst]
   by_cases hv0:0<v
   ·rw [if_pos ⟨by omega,by omega⟩,List.mem_cons]
    exact ⟨fun h=>h.resolve_left (fun e=>hx e.symm),.inr⟩
   ·rw [if_neg (by omega)]
    refine ⟨fun h=>by simp at h,fun h=>?_⟩;have:=above_lt v m h;omega
 ·have f0:((0:Int)<(u:Int))=False:=eq_false (by omega)
  have ha:¬m∈aboveM p n:=fun h=>by
   have:=above_lt u m (hiff.1 h);omega
  rw [decide_eq_false ha]
  (repeat ((try with_reducible refine W.step (b:=false) ?_);simp (decide:=true) only [go_sem,↓reduceIte,Nat.reduceAdd,Nat.reduceSub,f0,h0]))
  exact Q0a _ (.inr rfl) rfl (.plain rfl)
set_option maxRecDepth 100000 in
set_option maxHeartbeats 4000000 in
theorem stands12_p (p:List Nod) (n m:Nat) (comb:Int) (hp:OkPg p) (hT:TreeP p) (hn:n<p.length) (hm:m<p.length) (hm0:0<m):PureN Tryz.prog gt0 164 [.sl p.length 5 (p.flatMap encNd),.g (.int .i64 (n:Int)),.g (.int .i64 (m:Int)),.g (.int .i64 comb)] (.g (.bool (standsR p n m comb))):=by
 refine PureN.of_w (c:=_) Tryz.func164 rfl (by kernel_rfl) rfl ?_;simp only [Tryz.f164,List.replicate,List.length_cons,List.length_nil,Nat.reduceAdd,Nat.reduceSub,List.cons_append,List.nil_append];have rn:=rowNd hn;have rm:=rowNd hm
 have hw:IntKind.i64.wrap (placeM p n - 1)=placeM p n - 1:=IntWalk.i64_in _ (by
  have:=idx_bound (fun k=>decide (k=(n:Int))) (kinM p n) (kin_len hp);unfold placeM
  omega)
 unfold standsR;rw [Q0r hn,Q0r hm]
 by_cases c1:comb=1
 ·have g1:=eq_true c1
  rw [if_pos c1]
  (repeat ((try with_reducible refine W.step (b:=false) ?_);simp (decide:=true) only [go_sem,↓reduceIte,Nat.reduceAdd,Nat.reduceSub,hn,hm,rn,rm,g1];try with_reducible refine drawn hmix (by kernel_rfl) ?_))
  refine AtCall.mk (in12_p p n m hT hn hm0) ?_
  (repeat ((try with_reducible refine W.step (b:=false) ?_);simp (decide:=true) only [go_sem,↓reduceIte,Nat.reduceAdd,Nat.reduceSub];try with_reducible refine drawn hmix (by kernel_rfl) ?_))
  exact Q0a _ (.inr rfl) rfl (.plain rfl)
 have g1:=eq_false c1;rw [if_neg c1]
 by_cases c2:comb=2
 ·have g2:=eq_true c2
  rw [if_pos c2]
  (repeat ((try with_reducible refine W.step (b:=false) ?_);simp (decide:=true) only [go_sem,↓reduceIte,Nat.reduceAdd,Nat.reduceSub,hn,hm,rn,rm,g1,g2];try with_reducible refine drawn hmix (by kernel_rfl) ?_))
  exact Q0a _ (.inr rfl) rfl (.plain rfl)
 have g2:=eq_false c2;rw [if_neg c2]
 by_cases c3:comb=3
 ·have g3:=eq_true c3
  rw [if_pos c3]
  by_cases hk:p[n].up=p[m].up
  ·have fk:=eq_true hk
   (repeat ((try with_reducible refine W.step (b:=false) ?_);simp (decide:=true) only [go_sem,↓reduceIte,Nat.reduceAdd,Nat.reduceSub,hn,hm,rn,rm,g1,g2,g3,fk];try with_reducible refine drawn hmix (by kernel_rfl) ?_))
   refine AtCall.mk (Q3y p m hp) ?_
   (repeat ((try with_reducible refine W.step (b:=false) ?_);simp (decide:=true) only [go_sem,↓reduceIte,Nat.reduceAdd,Nat.reduceSub];try with_reducible refine drawn hmix (by kernel_rfl) ?_))
   refine AtCall.mk (Q3y p n hp) ?_
   (repeat ((try with_reducible refine W.step (b:=false) ?_);simp (decide:=true) only [go_sem,↓reduceIte,Nat.reduceAdd,Nat.reduceSub,hw];try with_reducible refine drawn hmix (by kernel_rfl) ?_))
   exact Q0a _ (.inr rfl) rfl (.plain rfl)
  ·(repeat ((try with_reducible refine W.step (b:=false) ?_);simp (decide:=true) only [go_sem,↓reduceIte,Nat.reduceAdd,Nat.reduceSub,hn,hm,rn,rm,g1,g2,g3,hk];try with_reducible refine drawn hmix (by kernel_rfl) ?_))
   exact Q0a _ (.inr rfl) rfl (.plain rfl)
 have g3:=eq_false c3;rw [if_neg c3]
 by_cases c4:comb=4
 ·have g4:=eq_true c4
  rw [if_pos c4]
  by_cases hk:p[n].up=p[m].up
  ·have fk:=eq_true hk
   (repeat ((try with_reducible refine W.step (b:=false) ?_);simp (decide:=true) only [go_sem,↓reduceIte,Nat.reduceAdd,Nat.reduceSub,hn,hm,rn,rm,g1,g2,g3,g4,fk];try with_reducible refine drawn hmix (by kernel_rfl) ?_))
   refine AtCall.mk (Q3y p m hp) ?_
   (repeat ((try with_reducible refine W.step (b:=false) ?_);simp (decide:=true) only [go_sem,↓reduceIte,Nat.reduceAdd,Nat.reduceSub];try with_reducible refine drawn hmix (by kernel_rfl) ?_))
   refine AtCall.mk (Q3y p n hp) ?_
   (repeat ((try with_reducible refine W.step (b:=false) ?_);simp (decide:=true) only [go_sem,↓reduceIte,Nat.reduceAdd,Nat.reduceSub];try with_reducible refine drawn hmix (by kernel_rfl) ?_))
   exact Q0a _ (.inr rfl) rfl (.plain rfl)
  ·(repeat ((try with_reducible refine W.step (b:=false) ?_);simp (decide:=true) only [go_sem,↓reduceIte,Nat.reduceAdd,Nat.reduceSub,hn,hm,rn,rm,g1,g2,g3,g4,hk];try with_reducible refine drawn hmix (by kernel_rfl) ?_))
   exact Q0a _ (.inr rfl) rfl (.plain rfl)
 ·have g4:=eq_false c4
  rw [if_neg c4]
  (repeat ((try with_reducible refine W.step (b:=false) ?_);simp (decide:=true) only [go_sem,↓reduceIte,Nat.reduceAdd,Nat.reduceSub,hn,hm,rn,rm,g1,g2,g3,g4];try with_reducible refine drawn hmix (by kernel_rfl) ?_))
  exact Q0a _ (.inr rfl) rfl (.plain rfl)
attribute [go_sem] appL newsA isSlice
theorem ag_bools:aggO Tryz.prog 110=some (false,1):=by kernel_rfl
theorem el_bools:elemO Tryz.prog 110=some 1:=by kernel_rfl
theorem ei_bools:elemI Tryz.prog 110=some (1,1,true):=by kernel_rfl
theorem ez_bools:elemZ Tryz.prog 110=[.bool false]:=by kernel_rfl
theorem un_bools:slOrStr (Tryz.prog.underlying 110)=true:=by kernel_rfl
attribute [go_sem] ag_bools el_bools ei_bools ez_bools un_bools
def bo (f:Nat→Bool) (N:Nat):List AV:=(List.range N).map fun n=>AV.g (.bool (f n))
theorem bo_len (f:Nat→Bool) (N:Nat):(bo f N).length=N:=by unfold bo;rw [List.length_map,List.length_range]
theorem bo_get {f:Nat→Bool} {N k:Nat} (h:k<N):(bo f N)[k]?=some (.g (.bool (f k))):=by unfold bo;rw [List.getElem?_map,List.getElem?_range h];rfl
theorem bo_at {f:Nat→Bool} {N k:Nat} (h:k<(bo f N).length):(bo f N)[k]=.g (.bool (f k)):=by
 have h1:k<N:=by rwa [bo_len] at h
 have h2:=bo_get (f:=f) h1;rw [List.getElem?_eq_getElem h] at h2;exact Option.some.inj h2
theorem bo_congr {f g:Nat→Bool} {N:Nat} (h:∀ j,j<N→f j=g j):bo f N=bo g N:=by
 unfold bo;exact List.map_congr_left fun j hj=>by rw [h j (List.mem_range.1 hj)]
theorem bo_set {f:Nat→Bool} {N i:Nat} (b:Bool) (h:i<N):(bo f N).take i++.g (.bool b)::(bo f N).drop (i+1)=bo (fun j=>if j=i then b else f j) N:=by
 rw [put_set (by rw [bo_len];exact h)];refine List.ext_getElem (by rw [List.length_set,bo_len,bo_len]) fun j h1 h2=>?_;rw [List.getElem_set,bo_at,bo_at]
 by_cases e:i=j
 ·subst e;simp
 ·rw [if_neg e,if_neg (fun h=>e h.symm)]
theorem bo_zero:∀ N,zerosA [.bool false] N=bo (fun _=>false) N:=by
 have h:∀ N,zerosA [.bool false] N=List.replicate N (AV.g (.bool false)):=by
  intro N
  induction N with
  | zero=>rfl
  | succ N ih=>rw [zerosA,ih];rfl
 intro N;rw [h];refine List.ext_getElem (by rw [List.length_replicate,bo_len]) fun j h1 h2=>?_;rw [List.getElem_replicate,bo_at]
theorem bo_plain (f:Nat→Bool) (N:Nat):∀ a∈bo f N,plainA a=true:=fun a ha=>by
 unfold bo at ha;obtain ⟨x,-,rfl⟩:=List.mem_map.1 ha
 rfl
theorem bo_ids (f:Nat→Bool) (N:Nat):noIdsL (bo f N)=true:=noIdsL_map (fun _=>rfl) _
theorem rowP2 {l:List Part} {k:Nat} (hk:k<l.length):(l.flatMap encP)[k*2]?=some (.g (.int .i64 l[k].comb))∧(l.flatMap encP)[k*2+1]?=some (.sl l[k].l.length 6 (l[k].l.flatMap encS)):=by
 have h:=flat_get encP 2 (fun _=>rfl) l k hk;exact ⟨h 0 (by decide),h 1 (by decide)⟩
set_option maxRecDepth 100000 in
set_option maxHeartbeats 4000000 in
theorem some12_p (p:List Nod) (f:Nat→Bool) (n:Nat) (comb:Int) (hp:OkPg p) (hT:TreeP p) (hn:elemB p n=true):PureN Tryz.prog gt0 94 [.sl p.length 5 (p.flatMap encNd),.sl p.length 1 (bo f p.length),.g (.int .i64 (n:Int)),.g (.int .i64 comb)] (.g (.bool (someR p f n comb))):=by
 refine PureN.of_w (c:=_) Tryz.func94 rfl (by kernel_rfl) rfl ?_;simp only [Tryz.f94,List.replicate,List.length_cons,List.length_nil,Nat.reduceAdd,Nat.reduceSub,List.cons_append,List.nil_append];obtain ⟨n0,n1⟩:=Q3s hT hn;have hlen:=hp.len
 (repeat ((try with_reducible refine W.step (b:=false) ?_);simp (decide:=true) only [go_sem,↓reduceIte,Nat.reduceAdd,Nat.reduceSub]))
 refine W.loop (s1:=stL [(.sl p.length 5 (p.flatMap encNd)),(.sl p.length 1 (bo f p.length)),(.g (.int .i64 (n:Int))),(.g (.int .i64 comb)),aN,aN,aN,aN,(.g (.bool false)),(.g (.int .i64 ((1:Nat):Int))),aN,aN,aN,aN,aN,aN,aN,aN,aN,aN,aN,aN,aN,aN,aN,aN,aN] [] 0)
  (fun (m:Nat) t=>m≤p.length∧0<m∧(∀ j,j<m→0<j→(f j&&standsR p n j comb)=false)∧t=stL [(.sl p.length 5 (p.flatMap encNd)),(.sl p.length 1 (bo f p.length)),(.g (.int .i64 (n:Int))),(.g (.int .i64 comb)),aN,aN,aN,aN,(.g (.bool false)),(.g (.int .i64 (m:Int))),aN,aN,aN,aN,aN,aN,aN,aN,aN,aN,aN,aN,aN,aN,aN,aN,aN] [] 0) (fun m=>p.length - m) 1 ⟨by omega,by decide,fun j h1 h2=>by omega,rfl⟩ (VS.tm (by simp [leL])) ?_
 rintro m t ⟨hm,hm0,hno,rfl⟩
 by_cases hlt:m<p.length
 ·have r:=bo_get (f:=f) hlt
  have nxt:(f m&&standsR p n m comb)=false→∀ j,j<m+1→0<j→(f j&&standsR p n j comb)=false:=fun h j h1 h2=>by
   rcases Nat.lt_or_ge j m with h3 | h3
   ·exact hno j h3 h2
   ·obtain rfl:j=m:=by omega
    exact h
  cases hfm:f m with
  | false =>
    rw [hfm] at r
    (repeat ((try with_reducible refine W.step (b:=false) ?_);simp (decide:=true) only [go_sem,↓reduceIte,Nat.reduceAdd,Nat.reduceSub,hlt,r]))
    refine ⟨m+1,_,⟨by omega,by omega,nxt (by rw [hfm];rfl),rfl⟩,by show p.length - (m+1)<p.length - m;omega,VS.tm ?_⟩;rw [up1 (by omega)];simp [leL]
  | true =>
    rw [hfm] at r
    (repeat ((try with_reducible refine W.step (b:=false) ?_);simp (decide:=true) only [go_sem,↓reduceIte,Nat.reduceAdd,Nat.reduceSub,hlt,r]))
    refine AtCall.mk (stands12_p p n m comb hp hT n1 hlt hm0) ?_
    cases hst:standsR p n m comb with
    | false =>
      (repeat ((try with_reducible refine W.step (b:=false) ?_);simp (decide:=true) only [go_sem,↓reduceIte,Nat.reduceAdd,Nat.reduceSub]))
      refine ⟨m+1,_,⟨by omega,by omega,nxt (by rw [hst,Bool.and_false]),rfl⟩,by show p.length - (m+1)<p.length - m;omega,VS.tm ?_⟩;rw [up1 (by omega)];simp [leL]
    | true =>
      have ha:someR p f n comb=true:=by
       unfold someR;exact List.any_eq_true.2 ⟨m,List.mem_range.2 hlt,by rw [decide_eq_true hm0,hfm,hst];rfl⟩
      rw [ha]
      (repeat ((try with_reducible refine W.step (b:=false) ?_);simp (decide:=true) only [go_sem,↓reduceIte,Nat.reduceAdd,Nat.reduceSub]))
      exact Q0a _ (.inr rfl) rfl (.plain rfl)
 ·have ha:someR p f n comb=false:=by
   unfold someR;refine List.any_eq_false.2 fun j hj=>?_;have h1:=List.mem_range.1 hj
   by_cases h2:0<j
   ·rw [hno j (by omega) h2,Bool.and_false];decide
   ·rw [decide_eq_false h2,Bool.false_and];decide
  rw [ha]
  (repeat ((try with_reducible refine W.step (b:=false) ?_);simp (decide:=true) only [go_sem,↓reduceIte,Nat.reduceAdd,Nat.reduceSub,hlt]))
  exact Q0a _ (.inr rfl) rfl (.plain rfl)
abbrev frontS (p:List Nod) (st:List Stt) (PT:List Part) (k:Nat):Nat→Bool:=fitsS p st (PT.take k).reverse
set_option maxRecDepth 100000 in
set_option maxHeartbeats 4000000 in
theorem fits12_p (p:List Nod) (st:List Stt) (PT:List Part) (s:ByteArray) (hp:OkPg p) (hT:TreeP p) (hp0:0<p.length) (hs:st.length≤1000000) (hPT:okPT PT):PureN Tryz.prog gt0 50 [.sl p.length 5 (p.flatMap encNd),.sl st.length 2 (st.flatMap encSt),.agg [.sl PT.length 2 (PT.flatMap encP),.g (.string s)]] (.sl p.length 1 (bo (fitsS p st PT.reverse) p.length)):=by
 refine PureN.of_w (c:=_) Tryz.func50 rfl (by kernel_rfl) rfl ?_;simp only [Tryz.f50,List.replicate,List.length_cons,List.length_nil,Nat.reduceAdd,Nat.reduceSub,List.cons_append,List.nil_append];have hlen:=hp.len;have hpt:=hPT.1;have fm:(p.length*(1+1)≤17179869184)=True:=eq_true (by omega);have fm2:(p.length*2≤17179869184)=True:=eq_true (by omega)
 (repeat ((try with_reducible refine W.step (b:=false) ?_);simp (decide:=true) only [go_sem,↓reduceIte,Nat.reduceAdd,Nat.reduceSub,fm,fm2]))
 refine W.loop (s1:=stL [(.sl p.length 5 (p.flatMap encNd)),(.sl st.length 2 (st.flatMap encSt)),aN,aN,aN,(.ptr 0 0),aN,(.sl p.length 1 (bo (frontS p st PT 0) p.length)),(.g (.int .i64 ((0:Nat):Int))),aN,aN,aN,aN,aN,aN,aN,aN,aN,aN,aN,aN,aN,aN,aN,aN,aN,aN,aN,aN,aN,aN,aN,aN,aN,aN,aN,aN,aN,aN,aN,aN,aN,aN,aN,aN,aN,aN,aN,aN,aN,aN,aN,aN,aN,aN,aN,aN,aN,aN,aN,aN,aN,aN,aN,aN,aN] [(0,.cells [.sl PT.length 2 (PT.flatMap encP),.g (.string s)])] 1)
  (fun (i:Nat) t=>i≤PT.length∧t=stL [(.sl p.length 5 (p.flatMap encNd)),(.sl st.length 2 (st.flatMap encSt)),aN,aN,aN,(.ptr 0 0),aN,(.sl p.length 1 (bo (frontS p st PT i) p.length)),(.g (.int .i64 (i:Int))),aN,aN,aN,aN,aN,aN,aN,aN,aN,aN,aN,aN,aN,aN,aN,aN,aN,aN,aN,aN,aN,aN,aN,aN,aN,aN,aN,aN,aN,aN,aN,aN,aN,aN,aN,aN,aN,aN,aN,aN,aN,aN,aN,aN,aN,aN,aN,aN,aN,aN,aN,aN,aN,aN,aN,aN,aN] [(0,.cells [.sl PT.length 2 (PT.flatMap encP),.g (.string s)])] 1) (fun i=>PT.length - i) 0 ⟨Nat.zero_le _,rfl⟩ ?_ ?_
 ·have hz:bo (frontS p st PT 0) p.length=bo (fun _=>false) p.length:=bo_congr fun j _=>by simp [frontS,fitsS]
  rw [hz,bo_zero];refine VS.trans (VS.sealT (m':=[(0,.cells [.sl PT.length 2 (PT.flatMap encP),.g (.string s)])]) (l':=[(.sl p.length 5 (p.flatMap encNd)),(.sl st.length 2 (st.flatMap encSt)),aN,aN,aN,(.ptr 0 0),aN,(.sl p.length 1 (bo (fun _=>false) p.length)),(.g (.int .i64 ((0:Nat):Int))),aN,aN,aN,aN,aN,aN,aN,aN,aN,aN,aN,aN,aN,aN,aN,aN,aN,aN,aN,aN,aN,aN,aN,aN,aN,aN,aN,aN,aN,aN,aN,aN,aN,aN,aN,aN,aN,aN,aN,aN,aN,aN,aN,aN,aN,aN,aN,aN,aN,aN,aN,aN,aN,aN,aN,aN,aN]) 1 (bo (fun _=>false) p.length) rfl (bo_plain _ _) ?_ ⟨⟨by decide,.inl rfl⟩,trivial⟩) (VS.ren [(0,0)] (by simp) (by simp) (by simp) (by simp only [go_sem,↓reduceIte,Nat.reduceAdd,Nat.reduceSub,Nat.reduceMul,Nat.reduceEqDiff,Nat.reduceLeDiff,Nat.reduceLT,Int.reduceLE,Int.reduceLT,Int.reduceToNat,Int.reduceEq]) ⟨⟨0,_,rfl,rfl,_,rfl,.inl ⟨rfl,rfl⟩⟩,trivial⟩);simp only [Q1k,Q2o,frA_any,Q1l,and_true,true_and];exact ⟨.inr (.inr ⟨0,_,1,_,rfl,by rw [List.drop_zero,Nat.mul_one,List.take_of_length_le (by rw [bo_len];exact Nat.le_refl _)],by rw [bo_len];omega⟩),.inr (.inl rfl)⟩
 rintro i t ⟨hi,rfl⟩
 by_cases hlt:i<PT.length
 rotate_left
 ·obtain rfl:i=PT.length:=by omega
  have hfr:frontS p st PT PT.length=fitsS p st PT.reverse:=by unfold frontS;rw [List.take_length]
  rw [hfr]
  (repeat ((try with_reducible refine W.step (b:=false) ?_);simp (decide:=true) only [go_sem,↓reduceIte,Nat.reduceAdd,Nat.reduceSub,hlt]))
  exact Q0a _ (.inr rfl) rfl (.plain rfl)
 have rP:=rowP2 hlt;obtain ⟨q1,q2⟩:=hPT.2 _ (List.getElem_mem hlt)
 (repeat ((try with_reducible refine W.step (b:=false) ?_);simp (decide:=true) only [go_sem,↓reduceIte,Nat.reduceAdd,Nat.reduceSub,hlt,fm,fm2]))
 refine W.loop (s1:=stL [(.sl p.length 5 (p.flatMap encNd)),(.sl st.length 2 (st.flatMap encSt)),aN,aN,aN,(.ptr 0 0),aN,(.sl p.length 1 (bo (frontS p st PT i) p.length)),(.g (.int .i64 (i:Int))),(.gs 1 0 p.length 1 p.length),(.g (.int .i64 ((1:Nat):Int))),aN,aN,aN,aN,aN,aN,aN,aN,aN,aN,aN,aN,aN,aN,aN,aN,aN,aN,aN,aN,aN,aN,aN,aN,aN,aN,aN,aN,aN,aN,aN,aN,aN,aN,aN,aN,aN,aN,aN,aN,aN,aN,aN,aN,aN,aN,aN,aN,aN,aN,aN,aN,aN,aN,aN] [(0,.cells [.sl PT.length 2 (PT.flatMap encP),.g (.string s)]),(1,.cells (bo (fun j=>decide (j<1)&&frontS p st PT (i+1) j) p.length))] 2)
  (fun (n:Nat) t=>n≤p.length∧0<n∧t=stL [(.sl p.length 5 (p.flatMap encNd)),(.sl st.length 2 (st.flatMap encSt)),aN,aN,aN,(.ptr 0 0),aN,(.sl p.length 1 (bo (frontS p st PT i) p.length)),(.g (.int .i64 (i:Int))),(.gs 1 0 p.length 1 p.length),(.g (.int .i64 (n:Int))),aN,aN,aN,aN,aN,aN,aN,aN,aN,aN,aN,aN,aN,aN,aN,aN,aN,aN,aN,aN,aN,aN,aN,aN,aN,aN,aN,aN,aN,aN,aN,aN,aN,aN,aN,aN,aN,aN,aN,aN,aN,aN,aN,aN,aN,aN,aN,aN,aN,aN,aN,aN,aN,aN,aN] [(0,.cells [.sl PT.length 2 (PT.flatMap encP),.g (.string s)]),(1,.cells (bo (fun j=>decide (j<n)&&frontS p st PT (i+1) j) p.length))] 2) (fun n=>p.length - n) 1 ⟨by omega,by decide,rfl⟩ ?_ ?_
 ·have hz:bo (fun j=>decide (j<1)&&frontS p st PT (i+1) j) p.length=zerosA [.bool false] p.length:=by
   rw [bo_zero];refine bo_congr fun j _=>?_
   by_cases h1:j<1
   ·obtain rfl:j=0:=by omega
    cases hc:frontS p st PT (i+1) 0 with
    | false=>rfl
    | true=>exact absurd (Q3s hT (Q4c hc)).1 (by decide)
   ·rw [decide_eq_false h1,Bool.false_and]
  rw [hz];exact VS.ren [(0,0),(1,1)] (by simp) (by simp) (by simp) (by simp only [go_sem,↓reduceIte,Nat.reduceAdd,Nat.reduceSub,Nat.reduceMul,Nat.reduceEqDiff,Nat.reduceLeDiff,Nat.reduceLT,Int.reduceLE,Int.reduceLT,Int.reduceToNat,Int.reduceEq]) ⟨⟨0,_,rfl,rfl,_,rfl,.inl ⟨rfl,rfl⟩⟩,⟨1,_,rfl,rfl,_,rfl,.inl ⟨rfl,by rw [bo_zero];exact bo_ids _ _⟩⟩,trivial⟩
 rintro n t ⟨hn,hn0,rfl⟩
 by_cases hnl:n<p.length
 ·have hg:n+1≤(bo (fun j=>decide (j<n)&&frontS p st PT (i+1) j) p.length).length:=by rw [bo_len];exact hnl
  have hput:∀ b:Bool,b=frontS p st PT (i+1) n→(bo (fun j=>decide (j<n)&&frontS p st PT (i+1) j) p.length).take n++.g (.bool b)::(bo (fun j=>decide (j<n)&&frontS p st PT (i+1) j) p.length).drop (n+1)=bo (fun j=>decide (j<n+1)&&frontS p st PT (i+1) j) p.length:=fun b hb=>by
   rw [bo_set b hnl];refine bo_congr fun j _=>?_
   by_cases hj:j=n
   ·subst hj
    rw [if_pos rfl,hb,decide_eq_true (Nat.lt_succ_self _),Bool.true_and]
   ·rw [if_neg hj]
    congr 1
    exact decide_eq_decide.2 (by omega)
  have hstep:frontS p st PT (i+1) n=(elemB p n&&(PT[i].l.all (holdsS p st n)&&(decide (i=0)||someR p (frontS p st PT i) n PT[i].comb))):=row_step hT hlt;have fin:∀ m:ML,(getL m 0=some (.cells [.sl PT.length 2 (PT.flatMap encP),.g (.string s)]))→getL m 1=some (.cells (bo (fun j=>decide (j<n+1)&&frontS p st PT (i+1) j) p.length))→reM 0 [(0,0),(1,1)] m [(0,.cells [.sl PT.length 2 (PT.flatMap encP),.g (.string s)]),(1,.cells (bo (fun j=>decide (j<n+1)&&frontS p st PT (i+1) j) p.length))]:=fun m h0 h1=>⟨⟨0,_,rfl,h0,_,rfl,.inl ⟨rfl,rfl⟩⟩,⟨1,_,rfl,h1,_,rfl,.inl ⟨rfl,bo_ids _ _⟩⟩,trivial⟩;have hup:IntKind.i64.wrap ((n:Int)+1)=((n+1:Nat):Int):=up1 (by omega)
  (repeat ((try with_reducible refine W.step (b:=false) ?_);simp (decide:=true) only [go_sem,↓reduceIte,Nat.reduceAdd,Nat.reduceSub,hnl]))
  refine AtCall.mk (Q4r p n) ?_
  cases he:elemB p n with
  | false =>
    have hp2:=hput false (by rw [hstep,he];rfl)
    (repeat ((try with_reducible refine W.step (b:=false) ?_);simp (decide:=true) only [go_sem,↓reduceIte,Nat.reduceAdd,Nat.reduceSub,hnl,hg,hp2,hup]))
    exact ⟨n+1,_,⟨by omega,by omega,rfl⟩,by show p.length - (n+1)<p.length - n;omega,VS.ren [(0,0),(1,1)] (by simp) (by simp) (by simp) (by simp only [go_sem,↓reduceIte,Nat.reduceAdd,Nat.reduceSub,Nat.reduceMul,Nat.reduceEqDiff,Nat.reduceLeDiff,Nat.reduceLT,Int.reduceLE,Int.reduceLT,Int.reduceToNat,Int.reduceEq]) (fin _ rfl rfl)⟩
  | true =>
    (repeat ((try with_reducible refine W.step (b:=false) ?_);simp (decide:=true) only [go_sem,↓reduceIte,Nat.reduceAdd,Nat.reduceSub,hlt,rP]))
    refine AtCall.mk (each12_p p st n PT[i].l hp hs he q1 q2) ?_
    cases hal:PT[i].l.all (holdsS p st n) with
    | false =>
      have hp2:=hput false (by rw [hstep,he,hal];rfl)
      (repeat ((try with_reducible refine W.step (b:=false) ?_);simp (decide:=true) only [go_sem,↓reduceIte,Nat.reduceAdd,Nat.reduceSub,hnl,hg,hp2,hup]))
      exact ⟨n+1,_,⟨by omega,by omega,rfl⟩,by show p.length - (n+1)<p.length - n;omega,VS.ren [(0,0),(1,1)] (by simp) (by simp) (by simp) (by simp only [go_sem,↓reduceIte,Nat.reduceAdd,Nat.reduceSub,Nat.reduceMul,Nat.reduceEqDiff,Nat.reduceLeDiff,Nat.reduceLT,Int.reduceLE,Int.reduceLT,Int.reduceToNat,Int.reduceEq]) (fin _ rfl rfl)⟩
    | true =>
      by_cases hi0:i=0
      ·have f0:((i:Int)=0)=True:=eq_true (by omega)
       have hp2:=hput true (by rw [hstep,he,hal,decide_eq_true hi0];rfl)
       (repeat ((try with_reducible refine W.step (b:=false) ?_);simp (decide:=true) only [go_sem,↓reduceIte,Nat.reduceAdd,Nat.reduceSub,hnl,hg,hp2,hup,f0]))
       exact ⟨n+1,_,⟨by omega,by omega,rfl⟩,by show p.length - (n+1)<p.length - n;omega,VS.ren [(0,0),(1,1)] (by simp) (by simp) (by simp) (by simp only [go_sem,↓reduceIte,Nat.reduceAdd,Nat.reduceSub,Nat.reduceMul,Nat.reduceEqDiff,Nat.reduceLeDiff,Nat.reduceLT,Int.reduceLE,Int.reduceLT,Int.reduceToNat,Int.reduceEq]) (fin _ rfl rfl)⟩
      ·have f0:((i:Int)=0)=False:=eq_false (by omega)
       have hp2:=hput (someR p (frontS p st PT i) n PT[i].comb) (by rw [hstep,he,hal,decide_eq_false hi0];rfl)
       (repeat ((try with_reducible refine W.step (b:=false) ?_);simp (decide:=true) only [go_sem,↓reduceIte,Nat.reduceAdd,Nat.reduceSub,hlt,rP,f0]))
       refine AtCall.mk (some12_p p (frontS p st PT i) n PT[i].comb hp hT he) ?_
       (repeat ((try with_reducible refine W.step (b:=false) ?_);simp (decide:=true) only [go_sem,↓reduceIte,Nat.reduceAdd,Nat.reduceSub,hnl,hg,hp2,hup]))
       exact ⟨n+1,_,⟨by omega,by omega,rfl⟩,by show p.length - (n+1)<p.length - n;omega,VS.ren [(0,0),(1,1)] (by simp) (by simp) (by simp) (by simp only [go_sem,↓reduceIte,Nat.reduceAdd,Nat.reduceSub,Nat.reduceMul,Nat.reduceEqDiff,Nat.reduceLeDiff,Nat.reduceLT,Int.reduceLE,Int.reduceLT,Int.reduceToNat,Int.reduceEq]) (fin _ rfl rfl)⟩
 ·obtain rfl:n=p.length:=by omega
  have hz:bo (fun j=>decide (j<p.length)&&frontS p st PT (i+1) j) p.length=bo (frontS p st PT (i+1)) p.length:=bo_congr fun j hj=>by rw [decide_eq_true hj,Bool.true_and]
  rw [hz];refine W.vs (s1:=stL [(.sl p.length 5 (p.flatMap encNd)),(.sl st.length 2 (st.flatMap encSt)),aN,aN,aN,(.ptr 0 0),aN,aN,(.g (.int .i64 (i:Int))),(.sl p.length 1 (bo (frontS p st PT (i+1)) p.length)),(.g (.int .i64 (p.length:Int))),aN,aN,aN,aN,aN,aN,aN,aN,aN,aN,aN,aN,aN,aN,aN,aN,aN,aN,aN,aN,aN,aN,aN,aN,aN,aN,aN,aN,aN,aN,aN,aN,aN,aN,aN,aN,aN,aN,aN,aN,aN,aN,aN,aN,aN,aN,aN,aN,aN,aN,aN,aN,aN,aN,aN] [(0,.cells [.sl PT.length 2 (PT.flatMap encP),.g (.string s)])] 2) ?_ ?_
  ·refine VS.sealT 1 _ rfl (bo_plain _ _) ?_ ⟨⟨by decide,.inl rfl⟩,trivial⟩
   simp only [Q1k,Q2o,frA_any,Q1l,and_true,true_and];exact .inr (.inr ⟨0,_,1,_,rfl,by rw [List.drop_zero,Nat.mul_one,List.take_of_length_le (by rw [bo_len];exact Nat.le_refl _)],by rw [bo_len];omega⟩)
  (repeat ((try with_reducible refine W.step (b:=false) ?_);simp (decide:=true) only [go_sem,↓reduceIte,Nat.reduceAdd,Nat.reduceSub,hnl]))
  refine ⟨i+1,_,⟨by omega,rfl⟩,by show PT.length - (i+1)<PT.length - i;omega,?_⟩;rw [up1 (by omega)];exact VS.ren [(0,0)] (by simp) (by simp) (by simp) (by simp only [go_sem,↓reduceIte,Nat.reduceAdd,Nat.reduceSub,Nat.reduceMul,Nat.reduceEqDiff,Nat.reduceLeDiff,Nat.reduceLT,Int.reduceLE,Int.reduceLT,Int.reduceToNat,Int.reduceEq]) ⟨⟨0,_,rfl,rfl,_,rfl,.inl ⟨rfl,rfl⟩⟩,trivial⟩
theorem tree_pos {p:List Nod} (h:treeB p=true):0<p.length:=by
 rcases Nat.eq_zero_or_pos p.length with h0 | h0
 ·unfold treeB at h
  rw [decide_eq_true h0] at h
  cases h
 ·exact h0
theorem allR_none {p:List Nod} {st:List Stt} {c:Cx} (h:∀ n:Nat,(treeB p&&isM p st c (n:Int))=false):allR p st c=[]:=by
 unfold allR;rw [List.filter_eq_nil_iff.2 (fun n _=>by rw [h n];decide)]
 rfl
def tellN (f:Nat→Bool) (n:Nat):List Int:=((List.range n).filter f).map fun n:Nat=>(n:Int)
theorem tellN_succ (f:Nat→Bool) (n:Nat):tellN f (n+1)=tellN f n++if f n=true then [(n:Int)] else []:=by
 unfold tellN;rw [List.range_succ,List.filter_append,List.map_append]
 congr 1
 cases h:f n <;> simp [h]
theorem tellN_len (f:Nat→Bool) (n:Nat):(tellN f n).length≤n:=by
 unfold tellN;rw [List.length_map];exact Nat.le_trans (List.length_filter_le _ _) (by simp)
set_option maxRecDepth 100000 in
set_option maxHeartbeats 4000000 in
theorem all12_p (p:List Nod) (st:List Stt) (c:Cx) (hp:OkPg p) (hs:st.length≤1000000) (hPT:okPT c.parts):PureN Tryz.prog gt0 20 [.sl p.length 5 (p.flatMap encNd),.sl st.length 2 (st.flatMap encSt),.agg (encC c)] (.sl (allR p st c).length 1 ((allR p st c).flatMap encZ)):=by
 obtain ⟨PT,s⟩:=c;simp only at hPT;refine PureN.of_w (c:=_) Tryz.func20 rfl (by kernel_rfl) rfl ?_;simp only [Tryz.f20,List.replicate,List.length_cons,List.length_nil,Nat.reduceAdd,Nat.reduceSub,List.cons_append,List.nil_append,encC];have hlen:=hp.len
 (repeat ((try with_reducible refine W.step (b:=false) ?_);simp (decide:=true) only [go_sem,↓reduceIte,Nat.reduceAdd,Nat.reduceSub]))
 refine AtCall.mk (tree10_p p hp) ?_
 cases ht:treeB p with
 | false =>
   rw [allR_none (fun n=>by rw [ht];rfl)]
   (repeat ((try with_reducible refine W.step (b:=false) ?_);simp (decide:=true) only [go_sem,↓reduceIte,Nat.reduceAdd,Nat.reduceSub]))
   exact Q0a _ (.inr rfl) rfl (seal_Z (l:=[]) rfl rfl)
 | true =>
   have hT:=tree_P ht
   by_cases h0:PT.length=0
   ·have f0:((PT.length:Int)=0)=True:=eq_true (by omega)
    have hno:∀ n:Nat,(treeB p&&isM p st ⟨PT,s⟩ (n:Int))=false:=fun n=>by
     rw [isM_row,List.eq_nil_of_length_eq_zero h0];simp [fitsS]
    rw [allR_none hno]
    (repeat ((try with_reducible refine W.step (b:=false) ?_);simp (decide:=true) only [go_sem,↓reduceIte,Nat.reduceAdd,Nat.reduceSub,f0]))
    exact Q0a _ (.inr rfl) rfl (seal_Z (l:=[]) rfl rfl)
   have f0:((PT.length:Int)=0)=False:=eq_false (by omega);have hall:allR p st ⟨PT,s⟩=tellN (fitsS p st PT.reverse) p.length:=by
    unfold allR tellN
    congr 1
    refine List.filter_congr fun n _=>?_;rw [ht,Bool.true_and,isM_row]
   rw [hall]
   (repeat ((try with_reducible refine W.step (b:=false) ?_);simp (decide:=true) only [go_sem,↓reduceIte,Nat.reduceAdd,Nat.reduceSub,f0]))
   refine AtCall.mk (fits12_p p st PT s hp hT (tree_pos ht) hs hPT) ?_
   (repeat ((try with_reducible refine W.step (b:=false) ?_);simp (decide:=true) only [go_sem,↓reduceIte,Nat.reduceAdd,Nat.reduceSub]))
   generalize fitsS p st PT.reverse=f
   refine W.loop (s1:=stL [aN,aN,aN,aN,aN,aN,aN,(.gs 1 0 0 1 0),(.sl p.length 1 (bo f p.length)),(.g (.int .i64 ((0:Nat):Int))),aN,aN,aN,aN,aN,aN,aN,aN,aN,aN,aN,aN,aN,aN,aN,aN,aN,aN,aN,aN,aN,aN,aN,aN,aN,aN,aN,aN,aN,aN] [(1,.cells [])] 2)
    (fun (n:Nat) t=>n≤p.length∧t=stL [aN,aN,aN,aN,aN,aN,aN,(.gs 1 0 (tellN f n).length 1 (tellN f n).length),(.sl p.length 1 (bo f p.length)),(.g (.int .i64 (n:Int))),aN,aN,aN,aN,aN,aN,aN,aN,aN,aN,aN,aN,aN,aN,aN,aN,aN,aN,aN,aN,aN,aN,aN,aN,aN,aN,aN,aN,aN,aN] [(1,.cells ((tellN f n).flatMap encZ))] 2) (fun n=>p.length - n) 0 ⟨Nat.zero_le _,rfl⟩ (VS.ren [(1,1)] (by simp) (by simp) (by simp) (by simp only [go_sem,↓reduceIte,Nat.reduceAdd,Nat.reduceSub,Nat.reduceMul,Nat.reduceEqDiff,Nat.reduceLeDiff,Nat.reduceLT,Int.reduceLE,Int.reduceLT,Int.reduceToNat,Int.reduceEq]) ⟨⟨1,_,rfl,rfl,_,rfl,.inl ⟨rfl,rfl⟩⟩,trivial⟩) ?_
   rintro n t ⟨hn,rfl⟩
   by_cases hlt:n<p.length
   ·have r:=bo_get (f:=f) hlt
    have hol:=tellN_len f n;have hts:=tellN_succ f n;generalize tellN f n=o at hol hts ⊢;have E1:(o.flatMap encZ).length=o.length:=lenZ o;have E2:¬(o.length+1≤o.length):=by omega
    have E3:(o.length+1)*9≤17179869184:=by omega
    have E6:∀ x,o.flatMap encZ++[AV.g (.int .i64 x)]=(o++[x]).flatMap encZ:=fun x=>by rw [List.flatMap_append];rfl
    cases hf:f n with
    | true =>
      rw [hf] at r hts;rw [if_pos rfl] at hts
      (repeat ((try with_reducible refine W.step (b:=false) ?_);simp (decide:=true) only [go_sem,↓reduceIte,Nat.reduceAdd,Nat.reduceSub,hlt,r,E1,E2,E3]))
      refine ⟨n+1,_,⟨by omega,rfl⟩,by show p.length - (n+1)<p.length - n;omega,VS.ren [(1,3)] (by simp) (by simp) (by simp) ?_ ?_⟩
      ·rw [up1 (by omega),hts]
       simp only [go_sem,↓reduceIte,Nat.reduceAdd,Nat.reduceSub,Nat.reduceMul,Nat.reduceEqDiff,Nat.reduceLeDiff,Nat.reduceLT,Int.reduceLE,Int.reduceLT,Int.reduceToNat,Int.reduceEq,List.length_append]
      ·rw [hts]
       exact reM_w rfl (by rw [←E6];rfl) (ids_Z _)
    | false =>
      rw [hf] at r hts;rw [if_neg (by decide),List.append_nil] at hts
      (repeat ((try with_reducible refine W.step (b:=false) ?_);simp (decide:=true) only [go_sem,↓reduceIte,Nat.reduceAdd,Nat.reduceSub,hlt,r]))
      refine ⟨n+1,_,⟨by omega,rfl⟩,by show p.length - (n+1)<p.length - n;omega,?_⟩;rw [up1 (by omega),hts];exact VS.tm (by simp [leL])
   ·obtain rfl:n=p.length:=by omega
    (repeat ((try with_reducible refine W.step (b:=false) ?_);simp (decide:=true) only [go_sem,↓reduceIte,Nat.reduceAdd,Nat.reduceSub,hlt]))
    exact Q0a _ (.inr rfl) rfl (seal_Z rfl rfl)
attribute [go_sem] appL newsA isSlice
theorem wkA.agg {a' a:List AV} (h:wkL a' a):wkA (.agg a') (.agg a):=fun w G v hv=>by
 obtain ⟨rc,rfl,h1⟩:=hv;refine ⟨rc,rfl,?_⟩;have up:∀ (xs bs:List AV) (vs:List Value),wkL xs bs→VRs w G bs vs→VRs w G xs vs:=by
  intro xs
  induction xs with
  | nil=>intro bs vs h1 h2;obtain rfl:bs=[]:=h1;exact h2
  | cons x xs ih =>
    intro bs vs h1 h2;obtain ⟨y,ys,rfl,h3,h4⟩:=h1;obtain ⟨v,us,rfl,h5,h6⟩:=h2;exact ⟨v,us,rfl,h3 _ _ _ h5,ih _ _ h4 h6⟩
 exact up _ _ _ h h1
theorem PureN.weakA {P:Program} {GT:GTab} {f:FuncId} {args args':List AV} {a:AV} (h:PureN P GT f args' a) (hw:wkL args' args) (hn:noIdsL args=true) (hp:plainA a=true):PureN P GT f args a :=
 CallM.pureN (CallM.weakQ (PureN.callM h) hw) hn (.plain hp)
theorem ei_declsX:elemI Tryz.prog 62=some (3,48,true):=by kernel_rfl
attribute [go_sem] ei_declsX
theorem bl_declX (parts:List (Nat×AV)):evBuild Tryz.prog 75 parts=aggM (fillL [(0,1),(1,1),(2,1)] [.g (.string ⟨#[]⟩),.g (.slice none 0 0),.g (.bool false)] parts):=Q1u (by kernel_rfl) parts
attribute [go_sem] bl_declX
theorem bl_safeX (parts:List (Nat×AV)):evBuild Tryz.prog 48 parts=aggM (fillL [(0,1),(1,1)] [.g (.slice none 0 0),.g (.slice none 0 0)] parts):=Q1u (by kernel_rfl) parts
attribute [go_sem] bl_safeX
def fitT (PG:List (List Nod)) (c:Cx):Bool:=PG.any fun p=>!decide (allR p [] c=[])
theorem shakeQ_calm {PG:List (List Nod)} {c:Cx} (h:∀ pt∈c.parts,∀ x∈pt.l,calm x):shakeQ none0 PG c=twoQ (fitT PG c):=by
 unfold shakeQ fitT;rw [←or_any]
 congr 1
 exact List.map_congr_left fun p _=>any_calm h
set_option maxRecDepth 100000 in
set_option maxHeartbeats 4000000 in
theorem shakeExact_p (PG:List (List Nod)) (c:Cx) (hg:c.parts.length≤140737488351232):PureN Tryz.prog gt0 7 [.sl PG.length 1 (PG.flatMap encPg),.agg (encC c)] (.g (.bool true)):=by
 have H4:=small4_p [c] 30 (by decide) (fun x hx=>by rw [List.mem_singleton.1 hx];exact hg);have HS:=small19_none PG;refine PureN.of_w2 (c:=_) Tryz.func7 rfl (by kernel_rfl) rfl ?_;have e4:([c]:List Cx).flatMap encC=[.sl c.parts.length 2 (c.parts.flatMap encP),.g (.string c.pseudo)]:=rfl;simp only [Tryz.f7,List.replicate,List.length_cons,List.length_nil,Nat.reduceAdd,Nat.reduceSub,List.cons_append,List.nil_append,encC,e4] at H4 ⊢
 (repeat ((try with_reducible refine W.step (b:=false) ?_);simp (decide:=true) only [go_sem,↓reduceIte,Nat.reduceAdd,Nat.reduceSub];try with_reducible refine drawn hmix (by kernel_rfl) ?_))
 refine AtCall.mk fixed19_p ?_
 (repeat ((try with_reducible refine W.step (b:=false) ?_);simp (decide:=true) only [go_sem,↓reduceIte,Nat.reduceAdd,Nat.reduceSub];try with_reducible refine drawn hmix (by kernel_rfl) ?_))
 refine AtCall.mk HS ?_
 cases hs:smPg PG with
 | false =>
   (repeat ((try with_reducible refine W.step (b:=false) ?_);simp (decide:=true) only [go_sem,↓reduceIte,Nat.reduceAdd,Nat.reduceSub];try with_reducible refine drawn hmix (by kernel_rfl) ?_))
   refine AtCall.mk fixed19_p ?_
   (repeat ((try with_reducible refine W.step (b:=false) ?_);simp (decide:=true) only [go_sem,↓reduceIte,Nat.reduceAdd,Nat.reduceSub];try with_reducible refine drawn hmix (by kernel_rfl) ?_))
   exact postV.of (Q0a _ (.inr rfl) rfl (.plain rfl))
 | true =>
   (repeat ((try with_reducible refine W.step (b:=false) ?_);simp (decide:=true) only [go_sem,↓reduceIte,Nat.reduceAdd,Nat.reduceSub];try with_reducible refine drawn hmix (by kernel_rfl) ?_))
   refine AtCall.mem (PureN.read H4 (CloseTo.gs (b:=2) (o:=0) (k:=1) (sz:=2) (cs:=[.sl c.parts.length 2 (c.parts.flatMap encP),.g (.string c.pseudo)]) rfl (Nat.le_refl _) (by simp [plainC]) (CloseTo.plain rfl CloseTo.nil))) ?_
   cases h4:smC 30 [c] [c].length with
   | false =>
     (repeat ((try with_reducible refine W.step (b:=false) ?_);simp (decide:=true) only [go_sem,↓reduceIte,Nat.reduceAdd,Nat.reduceSub];try with_reducible refine drawn hmix (by kernel_rfl) ?_))
     refine AtCall.mk fixed19_p ?_
     (repeat ((try with_reducible refine W.step (b:=false) ?_);simp (decide:=true) only [go_sem,↓reduceIte,Nat.reduceAdd,Nat.reduceSub];try with_reducible refine drawn hmix (by kernel_rfl) ?_))
     exact postV.of (Q0a _ (.inr rfl) rfl (.plain rfl))
   | true =>
     (repeat ((try with_reducible refine W.step (b:=false) ?_);simp (decide:=true) only [go_sem,↓reduceIte,Nat.reduceAdd,Nat.reduceSub];try with_reducible refine drawn hmix (by kernel_rfl) ?_))
     obtain ⟨hok,hcs,hpg,hPL⟩:OkC c∧True∧(∀ p∈PG,OkPg p)∧PG.length≤3:=by
      unfold smPg at hs;obtain ⟨g1,g2⟩:=Bool.and_eq_true_iff.1 hs;exact ⟨smCx_okA (m:=30) (by decide) ((smC_spec (by decide) _ _ h4).2 c (by simp)),trivial,fun p hp=>pgSm_ok (m:=25) (by decide) (List.all_eq_true.1 g2 p hp),of_decide_eq_true g1⟩
     obtain ⟨PT,s⟩:=c;have hparts:=hok.parts;have hlen:=hparts.1;simp only at hlen;refine W.loop (s1:=stL [(.sl PG.length 1 (PG.flatMap encPg)),aN,aN,(.ptr 0 0),aN,aN,(.g (.int .i64 (((0:Nat):Int):Int))),aN,aN,aN,aN,aN,aN,aN,aN,aN,aN,aN,aN,aN,aN,aN,aN,aN,aN,aN,aN,aN,aN,aN,aN,aN,aN,aN,aN,aN,aN,aN,aN,aN,aN,aN,aN,aN,aN,aN,aN,aN,aN,aN,aN,aN,aN,aN,aN,aN,aN,aN,aN,aN,aN,aN,aN,aN,aN,aN,aN,aN,aN,aN,aN,aN,aN,aN,aN,aN,aN,aN,aN,aN] [(0,.cells [.sl PT.length 2 (PT.flatMap encP),.g (.string s)])] 1) (fun (k:Nat) t=>k≤PT.length∧(∀ pt∈PT.take k,askL pt.l=false)∧t=stL [(.sl PG.length 1 (PG.flatMap encPg)),aN,aN,(.ptr 0 0),aN,aN,(.g (.int .i64 (k:Int))),aN,aN,aN,aN,aN,aN,aN,aN,aN,aN,aN,aN,aN,aN,aN,aN,aN,aN,aN,aN,aN,aN,aN,aN,aN,aN,aN,aN,aN,aN,aN,aN,aN,aN,aN,aN,aN,aN,aN,aN,aN,aN,aN,aN,aN,aN,aN,aN,aN,aN,aN,aN,aN,aN,aN,aN,aN,aN,aN,aN,aN,aN,aN,aN,aN,aN,aN,aN,aN,aN,aN,aN,aN] [(0,.cells [.sl PT.length 2 (PT.flatMap encP),.g (.string s)])] 1) (fun k=>PT.length - k) 0 ⟨Nat.zero_le _,by simp,rfl⟩ ?_ ?_
     ·refine VSkeep (Nat.zero_le _) (fun r hr=>?_) (by simp [Q0e,Q0f,ltA])
      rw [List.mem_singleton] at hr;subst hr;exact ⟨(show 0<1 by decide),by simp [ltB,ltL,ltA],rfl⟩
     rintro k t ⟨hk,ha,rfl⟩
     by_cases hlt:k<PT.length
     ·obtain ⟨-,r2⟩:=rowP2 hlt
      have hpt:=hparts.2 _ (List.getElem_mem hlt);have HC:=stateful_p _ PT[k].l (Nat.le_refl _) hpt.1 (okL_ofA hpt.2)
      (repeat ((try with_reducible refine W.step (b:=false) ?_);simp (decide:=true) only [go_sem,↓reduceIte,Nat.reduceAdd,Nat.reduceSub,hlt,r2];try with_reducible refine drawn hmix (by kernel_rfl) ?_))
      refine AtCall.mk HC ?_
      cases hb:askL PT[k].l with
      | true =>
        (repeat ((try with_reducible refine W.step (b:=false) ?_);simp (decide:=true) only [go_sem,↓reduceIte,Nat.reduceAdd,Nat.reduceSub];try with_reducible refine drawn hmix (by kernel_rfl) ?_))
        exact postV.of (Q0a _ (.inr rfl) rfl (.plain rfl))
      | false =>
        (repeat ((try with_reducible refine W.step (b:=false) ?_);simp (decide:=true) only [go_sem,↓reduceIte,Nat.reduceAdd,Nat.reduceSub];try with_reducible refine drawn hmix (by kernel_rfl) ?_))
        refine ⟨k+1,_,⟨by omega,Q1c (pr:=fun pt:Part=>askL pt.l) hlt ha hb,rfl⟩,by show PT.length - (k+1)<PT.length - k;omega,VS.tm ?_⟩;rw [up1 (by omega)];simp [leL]
     obtain rfl:k=PT.length:=by omega
     rw [List.take_length] at ha
     have hcalm:∀ pt∈PT,∀ x∈pt.l,calm x:=fun pt hp x hx=>ask_calm _ x (Nat.le_refl _) (by
      have:=ha pt hp;rw [askL_eq,List.any_eq_false] at this
      simpa using this x hx)
     (repeat ((try with_reducible refine W.step (b:=false) ?_);simp (decide:=true) only [go_sem,↓reduceIte,Nat.reduceAdd,Nat.reduceSub,hlt];try with_reducible refine drawn hmix (by kernel_rfl) ?_))
     refine W.loop (s1:=stL [(.sl PG.length 1 (PG.flatMap encPg)),aN,aN,(.ptr 0 0),aN,aN,aN,(.g (.bool (fitT (PG.take 0) ⟨PT,s⟩))),(.g (.int .i64 (((0:Nat):Int):Int))),aN,aN,aN,aN,aN,aN,aN,aN,aN,aN,aN,aN,aN,aN,aN,aN,aN,aN,aN,aN,aN,aN,aN,aN,aN,aN,aN,aN,aN,aN,aN,aN,aN,aN,aN,aN,aN,aN,aN,aN,aN,aN,aN,aN,aN,aN,aN,aN,aN,aN,aN,aN,aN,aN,aN,aN,aN,aN,aN,aN,aN,aN,aN,aN,aN,aN,aN,aN,aN,aN,aN] [(0,.cells [.sl PT.length 2 (PT.flatMap encP),.g (.string s)])] 1) (fun (k:Nat) t=>k≤PG.length∧t=stL [(.sl PG.length 1 (PG.flatMap encPg)),aN,aN,(.ptr 0 0),aN,aN,aN,(.g (.bool (fitT (PG.take k) ⟨PT,s⟩))),(.g (.int .i64 (k:Int))),aN,aN,aN,aN,aN,aN,aN,aN,aN,aN,aN,aN,aN,aN,aN,aN,aN,aN,aN,aN,aN,aN,aN,aN,aN,aN,aN,aN,aN,aN,aN,aN,aN,aN,aN,aN,aN,aN,aN,aN,aN,aN,aN,aN,aN,aN,aN,aN,aN,aN,aN,aN,aN,aN,aN,aN,aN,aN,aN,aN,aN,aN,aN,aN,aN,aN,aN,aN,aN,aN,aN] [(0,.cells [.sl PT.length 2 (PT.flatMap encP),.g (.string s)])] 1) (fun k=>PG.length - k) 0 ⟨Nat.zero_le _,rfl⟩ (VS.tm (by simp [leL,fitT])) ?_;rintro k t ⟨hk,rfl⟩
     by_cases hlt:k<PG.length
     ·have r:=rowPg hlt
      have hsn:fitT (PG.take (k+1)) ⟨PT,s⟩=(fitT (PG.take k) ⟨PT,s⟩||!decide (allR PG[k] [] ⟨PT,s⟩=[])):=by
       unfold fitT;rw [List.take_succ_eq_append_getElem hlt,List.any_append,List.any_cons,List.any_nil,Bool.or_false]
      have HC:=PureN.weakA (args:=[.sl PG[k].length 5 (PG[k].flatMap encNd),.g (.slice none 0 0),.agg [.sl PT.length 2 (PT.flatMap encP),.g (.string s)]]) (all12_p PG[k] [] ⟨PT,s⟩ (hpg _ (List.getElem_mem hlt)) (by simp) hparts) ⟨_,_,rfl,wkA.refl _,_,_,rfl,wkA.nil 2,_,_,rfl,wkA.refl _,rfl⟩ rfl rfl;have hb:decide ((0:Int)<((allR PG[k] [] ⟨PT,s⟩).length:Int))=!decide (allR PG[k] [] ⟨PT,s⟩=[]):=by
       rw [Bool.eq_iff_iff];simp only [decide_eq_true_eq,Bool.not_eq_true',decide_eq_false_iff_not];rw [←ne_eq,←List.length_pos_iff];omega
      generalize allR PG[k] [] ⟨PT,s⟩=R at HC hb hsn
      cases hf:fitT (PG.take k) ⟨PT,s⟩ with
      | true =>
        rw [hf,Bool.true_or] at hsn
        (repeat ((try with_reducible refine W.step (b:=false) ?_);simp (decide:=true) only [go_sem,↓reduceIte,Nat.reduceAdd,Nat.reduceSub,hlt,r];try with_reducible refine drawn hmix (by kernel_rfl) ?_))
        refine ⟨k+1,_,⟨by omega,rfl⟩,by show PG.length - (k+1)<PG.length - k;omega,VS.tm ?_⟩;rw [up1 (by omega),hsn];simp [leL]
      | false =>
        rw [hf,Bool.false_or] at hsn
        (repeat ((try with_reducible refine W.step (b:=false) ?_);simp (decide:=true) only [go_sem,↓reduceIte,Nat.reduceAdd,Nat.reduceSub,hlt,r];try with_reducible refine drawn hmix (by kernel_rfl) ?_))
        refine AtCallQ.mk HC ?_
        (repeat ((try with_reducible refine W.step (b:=false) ?_);simp (decide:=true) only [go_sem,↓reduceIte,Nat.reduceAdd,Nat.reduceSub];try with_reducible refine drawn hmix (by kernel_rfl) ?_))
        refine ⟨k+1,_,⟨by omega,rfl⟩,by show PG.length - (k+1)<PG.length - k;omega,VS.tm ?_⟩;rw [up1 (by omega),hsn,hb];simp [leL]
     obtain rfl:k=PG.length:=by omega
     rw [List.take_length]
     (repeat ((try with_reducible refine W.step (b:=false) ?_);simp (decide:=true) only [go_sem,↓reduceIte,Nat.reduceAdd,Nat.reduceSub,hlt];try with_reducible refine drawn hmix (by kernel_rfl) ?_))
     have hSS:OkS none0 PG:=⟨by omega,hpg,⟨by simp [none0],by simp [none0],by simp [none0]⟩⟩;have hQ:=shakeQ_calm (PG:=PG) (c:=⟨PT,s⟩) hcalm;have hlost:lostB none0 PG ⟨PT,s⟩=!fitT PG ⟨PT,s⟩:=by
      unfold lostB;rw [hQ]
      cases fitT PG ⟨PT,s⟩ <;> rfl
     have HA:=PureN.weakA (args:=[.agg [.g (.slice none 0 0),.g (.slice none 0 0)],.agg [.sl PT.length 2 (PT.flatMap encP),.g (.string s)],.sl PG.length 1 (PG.flatMap encPg)]) (shakeAny_p none0 PG ⟨PT,s⟩ (by omega) hpg hSS.safe hparts hok.names) ⟨_,_,rfl,wkA.agg ⟨_,_,rfl,wkA.nil 1,_,_,rfl,wkA.nil 1,rfl⟩,_,_,rfl,wkA.refl _,_,_,rfl,wkA.refl _,rfl⟩ rfl rfl
     have HR:=rules_p none0 PG hSS [.mk 1 [⟨PT,s⟩] [⟨⟨#[120]⟩,[],false⟩] [] 0 0 [] []] (by simp) (fun x hx=>by
      rw [List.mem_singleton.1 hx,OkT]
      refine ⟨by simp,fun _ c hc=>by rw [List.mem_singleton.1 hc];exact hok,by simp,by rw [OkTL];trivial⟩)
     have hsh:shI.shL (lostB none0 PG) [.mk 1 [⟨PT,s⟩] [⟨⟨#[120]⟩,[],false⟩] [] 0 0 [] []]=if fitT PG ⟨PT,s⟩=true then [.mk 1 [⟨PT,s⟩] [⟨⟨#[120]⟩,[],false⟩] [] 0 0 [] []] else []:=by
      rw [shI.shL,shI.shL,shI,if_pos rfl]
      cases hT:fitT PG ⟨PT,s⟩ <;> simp [hlost,hT]
     rw [hsh] at HR;rw [hQ] at HA;generalize fitT PG ⟨PT,s⟩=T at HA HR ⊢;simp only [List.flatMap_cons,List.flatMap_nil,List.append_nil,encI,encIs,encC,encD,safA,none0,List.length_cons,List.length_nil,Nat.reduceAdd,List.cons_append,List.nil_append] at HR;refine AtCall.mem (CallM.sealedQ (m':=[(0,.cells [.sl PT.length 2 (PT.flatMap encP),.g (.string s)])]) (PureN.callM HR) rfl (VS.trans (VS.weak (l':=[.agg [.sl 0 1 [],.sl 0 1 []],.gs 3 0 1 8 1,.sl PG.length 1 (PG.flatMap encPg)]) (m':=[(3,.cells [.g (.int .i64 1),.gs 1 0 1 2 1,.gs 2 0 1 3 1,.sl 0 1 [],.g (.int .i64 0),.g (.int .i64 0),.sl 0 5 [],.sl 0 8 []]),(2,.cells [.g (.string ⟨#[120]⟩),.sl 0 5 [],.g (.bool false)]),(1,.cells [.sl PT.length 2 (PT.flatMap encP),.g (.string s)]),(0,.cells [.sl PT.length 2 (PT.flatMap encP),.g (.string s)])]) ?_ ?_) (VS.trans (VS.sealT (l':=[.agg [.sl 0 1 [],.sl 0 1 []],.gs 3 0 1 8 1,.sl PG.length 1 (PG.flatMap encPg)]) (m':=[(3,.cells [.g (.int .i64 1),.sl 1 2 [.sl PT.length 2 (PT.flatMap encP),.g (.string s)],.gs 2 0 1 3 1,.sl 0 1 [],.g (.int .i64 0),.g (.int .i64 0),.sl 0 5 [],.sl 0 8 []]),(2,.cells [.g (.string ⟨#[120]⟩),.sl 0 5 [],.g (.bool false)]),(0,.cells [.sl PT.length 2 (PT.flatMap encP),.g (.string s)])]) 1 [.sl PT.length 2 (PT.flatMap encP),.g (.string s)] rfl (by simp [plainA]) ?_ ?_) (VS.trans (VS.sealT (l':=[.agg [.sl 0 1 [],.sl 0 1 []],.gs 3 0 1 8 1,.sl PG.length 1 (PG.flatMap encPg)]) (m':=[(3,.cells [.g (.int .i64 1),.sl 1 2 [.sl PT.length 2 (PT.flatMap encP),.g (.string s)],.sl 1 3 [.g (.string ⟨#[120]⟩),.sl 0 5 [],.g (.bool false)],.sl 0 1 [],.g (.int .i64 0),.g (.int .i64 0),.sl 0 5 [],.sl 0 8 []]),(0,.cells [.sl PT.length 2 (PT.flatMap encP),.g (.string s)])]) 2 [.g (.string ⟨#[120]⟩),.sl 0 5 [],.g (.bool false)] rfl (by simp [plainA]) ?_ ?_) (VS.sealT 3 [.g (.int .i64 1),.sl 1 2 [.sl PT.length 2 (PT.flatMap encP),.g (.string s)],.sl 1 3 [.g (.string ⟨#[120]⟩),.sl 0 5 [],.g (.bool false)],.sl 0 1 [],.g (.int .i64 0),.g (.int .i64 0),.sl 0 5 [],.sl 0 8 []] rfl (by simp [plainA]) ?_ ?_))))) ?_
     ·exact ⟨_,_,rfl,wkA.agg ⟨_,_,rfl,wkA.nil 1,_,_,rfl,wkA.nil 1,rfl⟩,_,_,rfl,wkA.refl _,_,_,rfl,wkA.refl _,rfl⟩
     ·refine ⟨.inr ⟨_,_,rfl,rfl,?_⟩,.inr ⟨_,_,rfl,rfl,?_⟩,.inl rfl,.inl rfl,trivial⟩
      ·(repeat (first | refine ⟨_,_,rfl,wkA.refl _,?_⟩ | refine ⟨_,_,rfl,wkA.nil _,?_⟩));rfl
      ·(repeat (first | refine ⟨_,_,rfl,wkA.refl _,?_⟩ | refine ⟨_,_,rfl,wkA.nil _,?_⟩));rfl
     ·simp only [Q1k,Q2o,Q1l,and_true]
     ·refine ⟨⟨by decide,.inr ⟨_,_,rfl,rfl,?_⟩⟩,⟨by decide,.inl rfl⟩,⟨by decide,.inl rfl⟩,trivial⟩
      simp only [Q1k,Q2o,Q1l,and_true,true_and];exact .inr (.inr ⟨0,1,2,1,rfl,rfl,by simp⟩)
     ·simp only [Q1k,Q2o,Q1l,and_true]
     ·refine ⟨⟨by decide,.inr ⟨_,_,rfl,rfl,?_⟩⟩,⟨by decide,.inl rfl⟩,trivial⟩
      simp only [Q1k,Q2o,Q1l,and_true,true_and];exact .inr (.inr ⟨0,1,3,1,rfl,rfl,by simp⟩)
     ·simp only [Q1k,Q2o,Q1l,and_true,true_and]
      exact .inr (.inr ⟨0,1,8,1,rfl,rfl,by simp⟩)
     ·exact ⟨⟨by decide,.inl rfl⟩,trivial⟩
     cases T with
     | true =>
       (repeat ((try with_reducible refine W.step (b:=false) ?_);simp (decide:=true) only [go_sem,↓reduceIte,Nat.reduceAdd,Nat.reduceSub];try with_reducible refine drawn hmix (by kernel_rfl) ?_))
       refine AtCall.mk HA ?_
       (repeat ((try with_reducible refine W.step (b:=false) ?_);simp (decide:=true) only [go_sem,↓reduceIte,Nat.reduceAdd,Nat.reduceSub];try with_reducible refine drawn hmix (by kernel_rfl) ?_))
       exact postV.of (Q0a _ (.inr rfl) rfl (.plain rfl))
     | false =>
       (repeat ((try with_reducible refine W.step (b:=false) ?_);simp (decide:=true) only [go_sem,↓reduceIte,Nat.reduceAdd,Nat.reduceSub];try with_reducible refine drawn hmix (by kernel_rfl) ?_))
       refine AtCall.mk HA ?_
       (repeat ((try with_reducible refine W.step (b:=false) ?_);simp (decide:=true) only [go_sem,↓reduceIte,Nat.reduceAdd,Nat.reduceSub];try with_reducible refine drawn hmix (by kernel_rfl) ?_))
       exact postV.of (Q0a _ (.inr rfl) rfl (.plain rfl))
end Go.Proofs.YtabliahkhafddaaGreat
namespace Go.Proofs.YtabliahkhafddaaGreat
open Go.ChangeShapes Go.WideShapes Go.RowKit Go.Ev
open Go.Ev.AV renaming any→aN
theorem c_ints:Tryz.prog.cellsOf 27=1:=by kernel_rfl
theorem c_attrs:Tryz.prog.cellsOf 32=1:=by kernel_rfl
theorem c_attr:Tryz.prog.cellsOf 100=2:=by kernel_rfl
theorem c_node:Tryz.prog.cellsOf 34=5:=by kernel_rfl
theorem c_page:Tryz.prog.cellsOf 23=1:=by kernel_rfl
section
variable {H:Type} {enc:TypeId×Value→H} {W:World} {sp:Nat→Bool} {held:Bool}
theorem open_z (fuel:Nat) (cs:List Value) (x:DataW H×List MemPlace) (h:DataW.trod enc Tryz.prog W 0 sp held fuel 3 cs=some x) (_:Fits Tryz.prog 3 x.1):∃ a:Int,Ats W (encZ a) cs∧True:=by
 obtain ⟨k,e0,-⟩:=DataW.trod_int Tryz.underlying3 h;subst e0;exact ⟨k,VRs.cons_mk rfl (by rw [VRs]),trivial⟩
set_option maxRecDepth 100000 in
theorem open_atr (fuel:Nat) (cs:List Value) (x:DataW H×List MemPlace) (h:DataW.trod enc Tryz.prog W 0 sp held fuel 100 cs=some x) (_:Fits Tryz.prog 100 x.1):∃ a:Atr,Ats W (encA a) cs∧True:=by
 obtain ⟨hl,n,rfl,hf⟩:=field_of Tryz.underlying100 h;rw [show Tryz.prog.cellsOf 100=2 by kernel_rfl] at hl;obtain ⟨c0,c1,rfl⟩:∃ c0 c1,cs=[c0,c1]:=by
  match cs,hl with
  | [a,b],_=>exact ⟨a,b,rfl⟩
 obtain ⟨y0,h0,f0⟩:∃ y,DataW.trod enc Tryz.prog W 0 sp held n 9 ((List.drop 0 [c0,c1]).take (Tryz.prog.cellsOf 9))=some y∧(Fits Tryz.prog 100 x.1→Fits Tryz.prog 9 y.1):=hf 0 _ rfl;obtain ⟨y1,h1,f1⟩:∃ y,DataW.trod enc Tryz.prog W 0 sp held n 9 ((List.drop 1 [c0,c1]).take (Tryz.prog.cellsOf 9))=some y∧(Fits Tryz.prog 100 x.1→Fits Tryz.prog 9 y.1):=hf 1 _ rfl;simp only [c_int,c_str,c_ints,c_attrs,c_page,List.drop,List.take] at h0 h1;obtain ⟨a,e0,-⟩:=DataW.trod_string Tryz.underlying9 h0;obtain ⟨b,e1,-⟩:=DataW.trod_string Tryz.underlying9 h1;simp only [List.cons.injEq,and_true] at e0 e1;subst e0 e1;exact ⟨⟨a,b⟩,VRs.cons_mk rfl (VRs.cons_mk rfl (by rw [VRs])),trivial⟩
set_option maxRecDepth 100000 in
theorem open_nod (fuel:Nat) (cs:List Value) (x:DataW H×List MemPlace) (h:DataW.trod enc Tryz.prog W 0 sp held fuel 34 cs=some x) (hfit:Fits Tryz.prog 34 x.1):∃ a:Nod,Ats W (encNd a) cs∧True:=by
 obtain ⟨hl,n,rfl,hf⟩:=field_of Tryz.underlying34 h;rw [show Tryz.prog.cellsOf 34=5 by kernel_rfl] at hl;obtain ⟨c0,c1,c2,c3,c4,rfl⟩:∃ c0 c1 c2 c3 c4,cs=[c0,c1,c2,c3,c4]:=by
  match cs,hl with
  | [a,b,c,d,e],_=>exact ⟨a,b,c,d,e,rfl⟩
 obtain ⟨y0,h0,f0⟩:∃ y,DataW.trod enc Tryz.prog W 0 sp held n 9 ((List.drop 0 [c0,c1,c2,c3,c4]).take (Tryz.prog.cellsOf 9))=some y∧(Fits Tryz.prog 34 x.1→Fits Tryz.prog 9 y.1):=hf 0 _ rfl;obtain ⟨y1,h1,f1⟩:∃ y,DataW.trod enc Tryz.prog W 0 sp held n 32 ((List.drop 1 [c0,c1,c2,c3,c4]).take (Tryz.prog.cellsOf 32))=some y∧(Fits Tryz.prog 34 x.1→Fits Tryz.prog 32 y.1):=hf 1 _ rfl;obtain ⟨y2,h2,f2⟩:∃ y,DataW.trod enc Tryz.prog W 0 sp held n 9 ((List.drop 2 [c0,c1,c2,c3,c4]).take (Tryz.prog.cellsOf 9))=some y∧(Fits Tryz.prog 34 x.1→Fits Tryz.prog 9 y.1):=hf 2 _ rfl;obtain ⟨y3,h3,f3⟩:∃ y,DataW.trod enc Tryz.prog W 0 sp held n 3 ((List.drop 3 [c0,c1,c2,c3,c4]).take (Tryz.prog.cellsOf 3))=some y∧(Fits Tryz.prog 34 x.1→Fits Tryz.prog 3 y.1):=hf 3 _ rfl;obtain ⟨y4,h4,f4⟩:∃ y,DataW.trod enc Tryz.prog W 0 sp held n 27 ((List.drop 4 [c0,c1,c2,c3,c4]).take (Tryz.prog.cellsOf 27))=some y∧(Fits Tryz.prog 34 x.1→Fits Tryz.prog 27 y.1):=hf 4 _ rfl;simp only [c_int,c_str,c_ints,c_attrs,c_page,List.drop,List.take] at h0 h1 h2 h3 h4;obtain ⟨nm,e0,-⟩:=DataW.trod_string Tryz.underlying9 h0;obtain ⟨l,v,e1,hv,-,-⟩:=open_sl (fun _=>True) encA 2 (fun _=>rfl) (by decide) Tryz.underlying32 c_attr (fun m _=>open_atr m) h1 (f1 hfit);obtain ⟨tx,e2,-⟩:=DataW.trod_string Tryz.underlying9 h2;obtain ⟨u,e3,-⟩:=DataW.trod_int Tryz.underlying3 h3;obtain ⟨ks,w,e4,hw,-,-⟩:=open_sl (fun _=>True) encZ 1 (fun _=>rfl) (by decide) Tryz.underlying27 c_int (fun m _=>open_z m) h4 (f4 hfit);simp only [List.cons.injEq,and_true] at e0 e1 e2 e3 e4;subst e0 e1 e2 e3 e4;exact ⟨⟨nm,l,tx,u,ks⟩,VRs.cons_mk rfl (VRs.cons_mk hv (VRs.cons_mk rfl (VRs.cons_mk rfl (VRs.cons_mk hw (by rw [VRs]))))),trivial⟩
theorem open_pg (fuel:Nat) (cs:List Value) (x:DataW H×List MemPlace) (h:DataW.trod enc Tryz.prog W 0 sp held fuel 23 cs=some x) (hfit:Fits Tryz.prog 23 x.1):∃ p:List Nod,Ats W (encPg p) cs∧True:=by
 obtain ⟨l,v,e,hv,-,-⟩:=open_sl (fun _=>True) encNd 5 (fun _=>rfl) (by decide) Tryz.underlying23 c_node (fun m _=>open_nod m) h hfit;subst e;exact ⟨l,VRs.cons_mk hv (by rw [VRs]),trivial⟩
set_option maxRecDepth 1000000 in
theorem open_pgs {base:Nat} {v:Value} {d:DataW H} {ps:List MemPlace} (hval:Value.okWide Tryz.prog W .any base 51 v) (h:DataW.Trod enc Tryz.prog W 0 sp held 51 v d ps) (hfit:Fits Tryz.prog 51 d) :
 ∃ l:List (List Nod),At W (.sl l.length 1 (l.flatMap encPg)) v:=by
 obtain ⟨fuel,hv⟩:=h;obtain ⟨a,n,c,rfl⟩:=okWide_slice Tryz.underlying51 hval;obtain ⟨l,v,e,hl,-,-⟩:=open_sl (fun _=>True) encPg 1 (fun _=>rfl) (by decide) Tryz.underlying51 c_page (fun m _=>open_pg m) hv hfit;simp only [Value.cells,List.cons.injEq,and_true] at e;subst e;exact ⟨l,hl⟩
set_option maxRecDepth 1000000 in
theorem open_cx1 {base:Nat} {v:Value} {d:DataW H} {ps:List MemPlace} (hval:Value.okWide Tryz.prog W .any base 39 v) (h:DataW.Trod enc Tryz.prog W 0 sp held 39 v d ps) (hfit:Fits Tryz.prog 39 d) :
 ∃ c:Cx,At W (.agg (encC c)) v∧c.parts.length≤reachBytes:=by
 obtain ⟨fuel,hv⟩:=h;obtain ⟨cells,rfl,-⟩:=okWide_struct Tryz.underlying39 hval;obtain ⟨c,h1,h2⟩:=open_cx fuel _ _ hv hfit;exact ⟨c,⟨cells,rfl,h1⟩,h2⟩
end
end Go.Proofs.YtabliahkhafddaaGreat
namespace Go.Proofs.YtabliahkhafddaaGreat
open Go.ChangeShapes Go.WideShapes Go.ChangeAt Go.RowKit Go.Ev
open Go.Ev.AV renaming any→aN
theorem own:ownKnob Tryz.prog.godebug=none:=by kernel_rfl
section
variable {H:Type} {enc:TypeId×Value→H} {P:Program}
theorem post_of_below {f:Func} {s:ChangeSpec} {apart fresh handsOn again:Bool} {W W':World} {args:Array Value} {v:Value} {ds gs:List (DataW H)} {before pa pv:List MemPlace}
 (hW:DataW.Whole enc P f.params.toList s.vars apart W args.toList ds gs before)
 (hres:∀ (b:Nat) (sp:Nat→Bool) (hd:Bool),DataW.TrodAll enc P W' b sp hd f.resultTypes.toList (v.resultList f.resultTypes.size) (s.fn H (ds++gs)).results [])
 (hargs:∀ sp:Nat→Bool,(∀ p∈before,sp p.block=true)→DataW.TrodAll enc P W' 0 sp true f.params.toList args.toList (s.fn H (ds++gs)).args pa)
 (hvars:∀ sp:Nat→Bool,(∀ p∈before,sp p.block=true)→DataW.TrodVars enc P W' sp s.vars (s.fn H (ds++gs)).vars pv)
 (hps:before=pa++pv) (hB:Below W.heap.size W W')
 (hok:∀ (j:Nat) (t:TypeId) (r:Value),f.resultTypes[j]?=some t→(v.resultList f.resultTypes.size)[j]?=some r→Value.okWide P W' .any 0 t r) :
 s.post enc P f apart fresh handsOn again W args v W':=by
 have hold:∀ p∈before,(fun b=>decide (b<W.heap.size)) p.block=true:=fun p hp=>by simpa using hW.lt p hp
 have hlt:=fun p hp=>hW.lt p hp;refine ⟨ds,gs,before,[],pa,pv,hW,hres _ _ _,hargs _ hold,hvars _ hold,World.keptBut_mono (fun p hp=>⟨hp,?_⟩) (hB.frame (·∈before)),fun _=>?_⟩
 ·rw [hps,List.mem_append] at hp
  exact Or.inr hp
 ·obtain ⟨_,_,_,_,_,hz,hn⟩:=hW
  refine ⟨hok,_,_,([]++pa)++pv,⟨[]++pa,pv,trodAll_append (hargs _ (fun _ _=>rfl)) (hres _ _ _),hvars _ (fun _ _=>rfl),rfl,?_,?_⟩,?_⟩
  ·intro b off hp
   have hp':MemPlace.cell b off∈before:=by rw [hps];simpa using hp
   rw [hB.frozen (hlt _ hp')];exact hz b off hp'
  ·intro ha
   have:=hn ha;rw [hps] at this;simpa using this
  ·intro p hp _
   rw [hps];simpa using hp
end
theorem readableCx:Tryz.prog.readableRec 39=true:=by kernel_rfl
theorem inTableCx:39<Tryz.prog.types.size:=of_decide_eq_true (by kernel_rfl)
theorem readablePgs:Tryz.prog.readableRec 51=true:=by kernel_rfl
theorem inTablePgs:51<Tryz.prog.types.size:=of_decide_eq_true (by kernel_rfl)
namespace shakeExact
set_option maxRecDepth 1000000 in
theorem contract (H:Type) (enc:TypeId×Value→H) (W:World) (base:Nat) (args:Array Value) (ds gs:List (DataW H)) (before:List MemPlace)
 (hval:∀ (j:Nat) t v,Tryz.f7.params[j]?=some t→args[j]?=some v→Value.okWide Tryz.prog W .any base t v)
 (hW:DataW.Whole enc Tryz.prog Tryz.f7.params.toList Rows.shakeExactSpec.vars false W args.toList ds gs before)
 (hw:(DataW.weightsEach Tryz.prog (Tryz.f7.params.toList++Rows.shakeExactSpec.plain.varTypes Tryz.prog) (ds++gs)).all (·≤reachBytes)=true) :
 Calls Tryz.prog 7 args W fun e W'=>∃ v,e=.returned v∧Rows.shakeExactSpec.post enc Tryz.prog Tryz.f7 false true false false W args v W':=by
 have hW':=hW;obtain ⟨p,q,hA0,hV,rfl,hfz,hnd⟩:=hW;have hA:DataW.TrodAll enc Tryz.prog W 0 (fun _=>true) true Tryz.f7.params.toList args.toList ds p:=hA0;rw [show Tryz.f7.params=#[51,39] by kernel_rfl] at hA hval hw;obtain ⟨v0,vs0,d0,ds0,p0,q0,hargs,rfl,rfl,h0,r0⟩:=trodAll_cons hA;obtain ⟨v1,vs1,d1,ds1,p1,q1,rfl,rfl,rfl,h1,r1⟩:=trodAll_cons r0;obtain ⟨rfl,rfl,rfl⟩:=trodAll_nil r1;obtain rfl:args=#[v0,v1]:=by cases args;simp_all
 obtain ⟨rfl,rfl⟩:=trodVars_none hV;have hw':=List.all_eq_true.1 hw;have fit0:Fits Tryz.prog 51 d0:=fun x hx=>by
  simpa using hw' x (Q2j (i:=0) rfl rfl x hx)
 have fit1:Fits Tryz.prog 39 d1:=fun x hx=>by
  simpa using hw' x (Q2j (i:=1) rfl rfl x hx)
 obtain ⟨pg,hpg⟩:=open_pgs (hval 0 51 v0 (by simp) (by simp)) h0 fit0;obtain ⟨a,ha,ga⟩:=open_cx1 (hval 1 39 v1 (by simp) (by simp)) h1 fit1;clear hA0;have hlt0:∀ x∈p0,x.block<W.heap.size:=fun x hx=>by simpa using hW'.lt x (by simp [hx])
 have hlt1:∀ x∈p1,x.block<W.heap.size:=fun x hx=>by simpa using hW'.lt x (by simp [hx])
 refine ((shakeExact_p pg a ga).pure.at W #[v0,v1] (fun g cs h=>by cases h) (VRs.cons_mk hpg (VRs.cons_mk ha (by rw [VRs])))).mono ?_;rintro e W' ⟨r,rfl,hr,hB⟩;obtain rfl:r=.bool true:=hr
 exact ⟨_,rfl,post_of_below (pa:=p0++(p1++[])) (pv:=[]) hW' (fun _ _ _=>trodAll_cons_mk (shut_bool Tryz.underlying4 _) trodAll_mk0)
  (fun sp hsp=>trodAll_cons_mk (WideElems.Trod_stays p_laid readablePgs inTablePgs h0 (fun x hx=>hB.same (hlt0 x hx)) (fun x hx=>hsp x (by simp [hx])))
    (trodAll_cons_mk (WideElems.Trod_stays p_laid readableCx inTableCx h1 (fun x hx=>hB.same (hlt1 x hx)) (fun x hx=>hsp x (by simp [hx]))) trodAll_mk0))
  (fun _ _=>rfl) rfl hB (ok_one (by kernel_rfl) rfl (okWide_bool_mk Tryz.underlying4 _))⟩
set_option maxRecDepth 100000 in
theorem lifted (os:Os) (started:os.Started) (H:Type) (enc:TypeId×Value→H) :
 ReturnsInHanded {} Tryz.checked os 7 .any (Rows.shakeExactSpec.pre6 enc Tryz.prog Tryz.f7 Rows.shakeExactRow.domain false) (Rows.shakeExactSpec.post enc Tryz.prog Tryz.f7 false true false false):=by
 refine returnsInHanded_of_change_sized (C:=Tryz.checked) own started (by kernel_rfl) Tryz.func7
  (ChangeSpec.witness6 (enc:=enc) (C:=Tryz.checked) false ⟨#[],#[.slice none 0 0,.agg #[.slice none 0 0,.string ⟨#[]⟩]],[]⟩ 8 (by kernel_rfl) (by kernel_rfl) (by kernel_rfl) (by kernel_rfl)) ?_
 intro W base args ds gs before hval hW _ hw _;exact contract H enc W base args ds gs before hval hW hw
theorem said:Rows.ShakeExactSaid :=
 OpenClaim.holds_of_wide 7 Tryz.f7 rfl rfl rfl rfl rfl rfl rfl ⟨rfl,rfl,rfl,rfl,rfl⟩ rfl rfl rfl rfl rfl row_named Tryz.func7 closed
  (of_decide_eq_true (by kernel_rfl)) row_wrapper
  (fun os started H enc _=>lifted os started H enc)
end shakeExact
end Go.Proofs.YtabliahkhafddaaGreat
end
