/- How many selectors have a key of each kind: Index.Keys at an index told over shapes. -/
import Derived.Test.YtlnaihkombcbcaaGreatBd4
import Derived.Test.YtlnaihkombcbcaaGreatBc7
set_option linter.unusedSimpArgs false
noncomputable section
namespace Go.Proofs.YtlnaihkombcbcaaGreat
open Go.RowKit Go.Ev
attribute [local go_sem] eq_self false_and and_false Bool.false_eq_true List.set_cons_succ List.set_cons_zero List.getD_cons_succ List.getD_cons_zero List.getElem?_cons_succ List.getElem?_cons_zero true_and and_true and_self Bool.not_true Bool.not_false Nat.add_zero Nat.zero_add Nat.mul_one Int.toNat_natCast Int.natCast_nonneg Int.ofNat_lt Option.bind_some Option.map_some List.map_cons List.map_nil decide_true decide_false BEq.rfl Bool.and_self Bool.and_true Bool.and_false beq_self_eq_true List.cons_append List.nil_append List.take_zero List.take_succ_cons List.take_nil List.drop_succ_cons List.drop_zero List.drop_nil List.append_nil List.length_cons List.length_nil List.all_cons List.all_nil Nat.le_refl Int.le_refl Option.map_none List.replicate_zero List.replicate_succ Nat.zero_mul Nat.sub_zero Nat.zero_le Nat.le_zero_eq getR_nil Option.some_or Option.none_or Option.or_none Option.isSome_some Option.isSome_none Option.getD_some Option.getD_none Int.toNat_zero Int.natCast_zero Int.natCast_one Int.cast_ofNat_Int List.toList_toArray
attribute [go_sem] appL newsA isSlice
theorem find_hit {α:Type} {pr:α→Bool} {l:List α} {k:Nat} (hk:k<l.length) (h:∀ x∈l.take k,pr x=false) (hp:pr l[k]=true):l.find? pr=some l[k]:=by
 have e:l=l.take k++l[k]::l.drop (k+1):=by rw [←List.drop_eq_getElem_cons hk,List.take_append_drop]
 conv=>lhs;rw [e]
 have h0:(l.take k).find? pr=none:=by
  rw [List.find?_eq_none];intro x hx;rw [h x hx];decide
 rw [List.find?_append,h0,List.find?_cons,hp];rfl
theorem find_miss {α:Type} {pr:α→Bool} {l:List α} (h:∀ x∈l,pr x=false):l.find? pr=none:=by
 rw [List.find?_eq_none];intro x hx;rw [h x hx];decide
theorem seal_Z {b n:Nat} {l:List Int} {m:ML} (hg:getL m b=some (.cells (l.flatMap encZ))) (hn:n=l.length):SealTo m (.gs b 0 n 1 n) (.sl l.length 1 (l.flatMap encZ)):=by
 subst hn
 have h:=SealTo.gs (m:=m) (b:=b) (o:=0) (k:=l.length) (sz:=1) (c:=l.length) hg (by rw [lenZ];omega) (fun a ha=>by
  have h1:=List.mem_of_mem_drop (List.mem_of_mem_take ha);obtain ⟨x,-,hx⟩:=List.mem_flatMap.1 h1
  simp [encZ] at hx;subst hx;rfl)
 rwa [List.drop_zero,Nat.mul_one,takeZ] at h
theorem sealN_w {b n:Nat} {l:List ByteArray} {m:ML} (hg:getL m b=some (.cells (l.flatMap encN))) (hn:n=l.length):SealTo m (.gs b 0 n 1 n) (.sl l.length 1 (l.flatMap encN)):=by
 subst hn
 have h:=SealTo.gs (m:=m) (b:=b) (o:=0) (k:=l.length) (sz:=1) (c:=l.length) hg (by rw [lenN];omega) (fun a ha=>by
  have h1:=List.mem_of_mem_drop (List.mem_of_mem_take ha);obtain ⟨x,-,hx⟩:=List.mem_flatMap.1 h1
  simp [encN] at hx;subst hx;rfl)
 rwa [List.drop_zero,Nat.mul_one,List.take_of_length_le (by rw [lenN];exact Nat.le_refl _)] at h
theorem reM_w {n1:Nat} {q:Ren} {m:ML} {c b:Nat} {cs:List AV} (h1:lkE n1 q c=some b) (h2:getL m b=some (.cells cs)) (h3:noIdsL cs=true):reM n1 q m [(c,.cells cs)] :=
 ⟨⟨b,.cells cs,h1,h2,cs,rfl,.inl ⟨rfl,h3⟩⟩,trivial⟩
theorem idsN_w (l:List ByteArray):noIdsL (l.flatMap encN)=true:=noIdsL_flat (fun _=>rfl) l
def inW (l:List ByteArray) (x:ByteArray):Bool:=l.any fun y=>decide (y=x)
theorem inW_iff {l:List ByteArray} {x:ByteArray}:inW l x=true↔x∈l:=by
 unfold inW;rw [List.any_eq_true];exact ⟨fun ⟨y,h1,h2⟩=>of_decide_eq_true h2▸h1,fun h=>⟨x,h,decide_eq_true rfl⟩⟩
set_option maxRecDepth 100000 in
set_option maxHeartbeats 4000000 in
theorem in11w_p (l:List ByteArray) (x:ByteArray) (hlen:l.length≤1000000):PureN Tryz.prog gt0 22 [.sl l.length 1 (l.flatMap encN),.g (.string x)] (.g (.bool (inW l x))):=by
 refine PureN.of_w (c:=_) Tryz.func22 rfl (by kernel_rfl) rfl ?_;simp only [Tryz.f22,List.replicate,List.length_cons,List.length_nil,Nat.reduceAdd,Nat.reduceSub,List.cons_append,List.nil_append]
 (repeat ((first | with_reducible refine W.step (b:=false) ?_ | skip);simp only [go_sem,↓reduceIte,Nat.reduceAdd,Nat.reduceSub,Nat.reduceMul,Nat.reduceEqDiff,Nat.reduceLeDiff,Nat.reduceLT,Int.reduceLE,Int.reduceLT,Int.reduceToNat,Int.reduceEq];try with_reducible refine drawn hmix (by kernel_rfl) ?_))
 refine W.loop (s1:=stL [(.sl l.length 1 (l.flatMap encN)),(.g (.string x)),.any,.any,(.g (.bool false)),(.g (.int .i64 ((0:Nat):Int))),.any,.any,.any,.any,.any,.any,.any,.any,.any,.any,.any,.any] [] 0)
  (fun (k:Nat) s=>k≤l.length∧x∉l.take k∧s=stL [(.sl l.length 1 (l.flatMap encN)),(.g (.string x)),.any,.any,(.g (.bool false)),(.g (.int .i64 (k:Int))),.any,.any,.any,.any,.any,.any,.any,.any,.any,.any,.any,.any] [] 0) (fun k=>l.length - k) 0 ⟨Nat.zero_le _,by simp,rfl⟩ (VS.tm (by simp [leL])) ?_
 rintro k t ⟨hk,hnx,rfl⟩
 by_cases hlt:k<l.length
 ·have r0:=rowN hlt
  (repeat ((first | with_reducible refine W.step (b:=false) ?_ | skip);simp only [go_sem,↓reduceIte,Nat.reduceAdd,Nat.reduceSub,Nat.reduceMul,Nat.reduceEqDiff,Nat.reduceLeDiff,Nat.reduceLT,Int.reduceLE,Int.reduceLT,Int.reduceToNat,Int.reduceEq,hlt,r0];try with_reducible refine drawn hmix (by kernel_rfl) ?_))
  refine condK_split (fun h=>?_) (fun h=>?_)
  ·have hm:x∈l:=by
    have e:l[k]=x:=of_decide_eq_true h;rw [←e];exact List.getElem_mem hlt
   rw [inW_iff.2 hm]
   (repeat ((first | with_reducible refine W.step (b:=false) ?_ | skip);simp only [go_sem,↓reduceIte,Nat.reduceAdd,Nat.reduceSub,Nat.reduceMul,Nat.reduceEqDiff,Nat.reduceLeDiff,Nat.reduceLT,Int.reduceLE,Int.reduceLT,Int.reduceToNat,Int.reduceEq];try with_reducible refine drawn hmix (by kernel_rfl) ?_))
   exact postP_one _ (.inr rfl) rfl (.plain rfl)
  ·have hne:l[k]≠x:=of_decide_eq_false h
   (repeat ((first | with_reducible refine W.step (b:=false) ?_ | skip);simp only [go_sem,↓reduceIte,Nat.reduceAdd,Nat.reduceSub,Nat.reduceMul,Nat.reduceEqDiff,Nat.reduceLeDiff,Nat.reduceLT,Int.reduceLE,Int.reduceLT,Int.reduceToNat,Int.reduceEq];try with_reducible refine drawn hmix (by kernel_rfl) ?_))
   refine ⟨k+1,_,⟨by omega,?_,rfl⟩,by show l.length - (k+1)<l.length - k;omega,VS.tm ?_⟩
   ·rw [List.take_succ_eq_append_getElem hlt,List.mem_append,not_or]
    exact ⟨hnx,fun h=>hne (List.mem_singleton.1 h).symm⟩
   ·rw [up1 (by omega)]
    simp only [go_sem,↓reduceIte,Nat.reduceAdd,Nat.reduceSub,Nat.reduceMul,Nat.reduceEqDiff,Nat.reduceLeDiff,Nat.reduceLT,Int.reduceLE,Int.reduceLT,Int.reduceToNat,Int.reduceEq,or_true,true_or]
 ·(repeat ((first | with_reducible refine W.step (b:=false) ?_ | skip);simp only [go_sem,↓reduceIte,Nat.reduceAdd,Nat.reduceSub,Nat.reduceMul,Nat.reduceEqDiff,Nat.reduceLeDiff,Nat.reduceLT,Int.reduceLE,Int.reduceLT,Int.reduceToNat,Int.reduceEq,hlt];try with_reducible refine drawn hmix (by kernel_rfl) ?_))
  have hm:¬x∈l:=by
   obtain rfl:k=l.length:=by omega
   rwa [List.take_length] at hnx
  rw [show inW l x=false from by rw [←Bool.not_eq_true,inW_iff];exact hm];exact postP_one _ (.inr rfl) rfl (.plain rfl)
theorem plainZ (l:List Int):∀ a∈l.flatMap encZ,plainA a=true:=fun a ha=>by
 obtain ⟨x,-,hx⟩:=List.mem_flatMap.1 ha;simp [encZ] at hx;subst hx;rfl
def blQ (x:Int):Bool:=decide (x=32)||(decide (x=9)||(decide (x=10)||(decide (x=12)||decide (x=13))))
theorem blQ_eq (c:UInt8):blQ (c.toNat:Int)=isBl c:=by
 have:∀ k:Fin 256,blQ ((UInt8.ofNat k.val).toNat:Int)=isBl (UInt8.ofNat k.val):=by decide +kernel
 have h:=this ⟨c.toNat,c.toNat_lt⟩
 rwa [UInt8.ofNat_toNat] at h
set_option maxRecDepth 100000 in
set_option maxHeartbeats 4000000 in
theorem blank9_p (x:Int):PureN Tryz.prog gt0 282 [.g (.int .u8 x)] (.g (.bool (blQ x))):=by
 refine PureN.of_w (c:=_) Tryz.func282 rfl (by kernel_rfl) rfl ?_;simp only [Tryz.f282,List.replicate,List.length_cons,List.length_nil,Nat.reduceAdd,Nat.reduceSub,List.cons_append,List.nil_append];unfold blQ
 by_cases h1:x=32
 ·have f1:=eq_true h1
  rw [decide_eq_true h1,Bool.true_or]
  (repeat ((first | with_reducible refine W.step (b:=false) ?_ | skip);simp only [go_sem,↓reduceIte,Nat.reduceAdd,Nat.reduceSub,Nat.reduceMul,Nat.reduceEqDiff,Nat.reduceLeDiff,Nat.reduceLT,Int.reduceLE,Int.reduceLT,Int.reduceToNat,Int.reduceEq,f1];try with_reducible refine drawn hmix (by kernel_rfl) ?_))
  exact postP_one _ (.inr rfl) rfl (.plain rfl)
 rw [decide_eq_false h1,Bool.false_or]
 by_cases h2:x=9
 ·have f2:=eq_true h2
  rw [decide_eq_true h2,Bool.true_or]
  (repeat ((first | with_reducible refine W.step (b:=false) ?_ | skip);simp only [go_sem,↓reduceIte,Nat.reduceAdd,Nat.reduceSub,Nat.reduceMul,Nat.reduceEqDiff,Nat.reduceLeDiff,Nat.reduceLT,Int.reduceLE,Int.reduceLT,Int.reduceToNat,Int.reduceEq,h1,f2];try with_reducible refine drawn hmix (by kernel_rfl) ?_))
  exact postP_one _ (.inr rfl) rfl (.plain rfl)
 rw [decide_eq_false h2,Bool.false_or]
 by_cases h3:x=10
 ·have f3:=eq_true h3
  rw [decide_eq_true h3,Bool.true_or]
  (repeat ((first | with_reducible refine W.step (b:=false) ?_ | skip);simp only [go_sem,↓reduceIte,Nat.reduceAdd,Nat.reduceSub,Nat.reduceMul,Nat.reduceEqDiff,Nat.reduceLeDiff,Nat.reduceLT,Int.reduceLE,Int.reduceLT,Int.reduceToNat,Int.reduceEq,h1,h2,f3];try with_reducible refine drawn hmix (by kernel_rfl) ?_))
  exact postP_one _ (.inr rfl) rfl (.plain rfl)
 rw [decide_eq_false h3,Bool.false_or]
 by_cases h4:x=12
 ·have f4:=eq_true h4
  rw [decide_eq_true h4,Bool.true_or]
  (repeat ((first | with_reducible refine W.step (b:=false) ?_ | skip);simp only [go_sem,↓reduceIte,Nat.reduceAdd,Nat.reduceSub,Nat.reduceMul,Nat.reduceEqDiff,Nat.reduceLeDiff,Nat.reduceLT,Int.reduceLE,Int.reduceLT,Int.reduceToNat,Int.reduceEq,h1,h2,h3,f4];try with_reducible refine drawn hmix (by kernel_rfl) ?_))
  exact postP_one _ (.inr rfl) rfl (.plain rfl)
 rw [decide_eq_false h4,Bool.false_or]
 (repeat ((first | with_reducible refine W.step (b:=false) ?_ | skip);simp only [go_sem,↓reduceIte,Nat.reduceAdd,Nat.reduceSub,Nat.reduceMul,Nat.reduceEqDiff,Nat.reduceLeDiff,Nat.reduceLT,Int.reduceLE,Int.reduceLT,Int.reduceToNat,Int.reduceEq,h1,h2,h3,h4];try with_reducible refine drawn hmix (by kernel_rfl) ?_))
 exact postP_one _ (.inr rfl) rfl (.plain rfl)
set_option maxRecDepth 100000 in
set_option maxHeartbeats 4000000 in
theorem element10_p (p:List Nod) (n:Int):PureN Tryz.prog gt0 283 [.sl p.length 5 (p.flatMap encNd),.g (.int .i64 n)] (.g (.bool (elemB p n))):=by
 refine PureN.of_w (c:=_) Tryz.func283 rfl (by kernel_rfl) rfl ?_;simp only [Tryz.f283,List.replicate,List.length_cons,List.length_nil,Nat.reduceAdd,Nat.reduceSub,List.cons_append,List.nil_append];unfold elemB
 by_cases h0:0≤n
 ·obtain ⟨k,rfl⟩:∃ k:Nat,n=k:=⟨n.toNat,by omega⟩
  by_cases hk:k<p.length
  ·have r:=rowNd hk
   rw [ndAt_nat hk]
   by_cases hn:p[k].name=⟨#[]⟩
   ·have fn:=eq_true hn
    (repeat ((first | with_reducible refine W.step (b:=false) ?_ | skip);simp only [go_sem,↓reduceIte,Nat.reduceAdd,Nat.reduceSub,Nat.reduceMul,Nat.reduceEqDiff,Nat.reduceLeDiff,Nat.reduceLT,Int.reduceLE,Int.reduceLT,Int.reduceToNat,Int.reduceEq,hk,r,fn];try with_reducible refine drawn hmix (by kernel_rfl) ?_))
    exact postP_one _ (.inr rfl) rfl (.plain rfl)
   ·(repeat ((first | with_reducible refine W.step (b:=false) ?_ | skip);simp only [go_sem,↓reduceIte,Nat.reduceAdd,Nat.reduceSub,Nat.reduceMul,Nat.reduceEqDiff,Nat.reduceLeDiff,Nat.reduceLT,Int.reduceLE,Int.reduceLT,Int.reduceToNat,Int.reduceEq,hk,r,hn];try with_reducible refine drawn hmix (by kernel_rfl) ?_))
    exact postP_one _ (.inr rfl) rfl (.plain rfl)
  ·(repeat ((first | with_reducible refine W.step (b:=false) ?_ | skip);simp only [go_sem,↓reduceIte,Nat.reduceAdd,Nat.reduceSub,Nat.reduceMul,Nat.reduceEqDiff,Nat.reduceLeDiff,Nat.reduceLT,Int.reduceLE,Int.reduceLT,Int.reduceToNat,Int.reduceEq,hk];try with_reducible refine drawn hmix (by kernel_rfl) ?_))
   exact postP_one _ (.inr rfl) rfl (.plain rfl)
 ·(repeat ((first | with_reducible refine W.step (b:=false) ?_ | skip);simp only [go_sem,↓reduceIte,Nat.reduceAdd,Nat.reduceSub,Nat.reduceMul,Nat.reduceEqDiff,Nat.reduceLeDiff,Nat.reduceLT,Int.reduceLE,Int.reduceLT,Int.reduceToNat,Int.reduceEq,h0];try with_reducible refine drawn hmix (by kernel_rfl) ?_))
  exact postP_one _ (.inr rfl) rfl (.plain rfl)
set_option maxRecDepth 100000 in
set_option maxHeartbeats 4000000 in
theorem attr10_p (p:List Nod) (n:Int) (s:ByteArray) (hp:OkPg p):PureN Tryz.prog gt0 346 [.sl p.length 5 (p.flatMap encNd),.g (.int .i64 n),.g (.string s)] (.tup [.g (.string ((atM p n s).getD ⟨#[]⟩)),.g (.bool (atM p n s).isSome)]):=by
 have HE:=element10_p p n;refine PureN.of_w (c:=_) Tryz.func346 rfl (by kernel_rfl) rfl ?_;simp only [Tryz.f346,List.replicate,List.length_cons,List.length_nil,Nat.reduceAdd,Nat.reduceSub,List.cons_append,List.nil_append]
 (repeat ((first | with_reducible refine W.step (b:=false) ?_ | skip);simp only [go_sem,↓reduceIte,Nat.reduceAdd,Nat.reduceSub,Nat.reduceMul,Nat.reduceEqDiff,Nat.reduceLeDiff,Nat.reduceLT,Int.reduceLE,Int.reduceLT,Int.reduceToNat,Int.reduceEq];try with_reducible refine drawn hmix (by kernel_rfl) ?_))
 refine AtCall.mk HE ?_
 by_cases he:elemB p n=true
 ·have hat:atM p n s=((ndAt p n).attrs.find? fun x=>decide (x.name=s)).map (·.value):=if_pos he
  rw [he];obtain ⟨k,rfl⟩:∃ k:Nat,n=k:=⟨n.toNat,by simp [elemB] at he;omega⟩;have hk:k<p.length:=by simp [elemB] at he;omega
  rw [ndAt_nat hk] at hat;have r:=rowNd hk;have hla:=hp.attrs _ (List.getElem_mem hk)
  (repeat ((first | with_reducible refine W.step (b:=false) ?_ | skip);simp only [go_sem,↓reduceIte,Nat.reduceAdd,Nat.reduceSub,Nat.reduceMul,Nat.reduceEqDiff,Nat.reduceLeDiff,Nat.reduceLT,Int.reduceLE,Int.reduceLT,Int.reduceToNat,Int.reduceEq,hk,r];try with_reducible refine drawn hmix (by kernel_rfl) ?_))
  generalize p[k].attrs=l at hat hla ⊢
  refine W.loop (s1:=stL [.any,.any,(.g (.string s)),.any,.any,.any,(.g (.string ⟨#[]⟩)),(.g (.bool false)),(.sl l.length 2 (l.flatMap encA)),(.g (.int .i64 ((0:Nat):Int))),.any,.any,.any,.any,.any,.any,.any,.any,.any,.any,.any,.any,.any,.any,.any,.any,.any,.any,.any,.any,.any,.any,.any,.any,.any,.any,.any] [] 0)
   (fun (k:Nat) t=>k≤l.length∧(∀ x∈l.take k,decide (x.name=s)=false)∧t=stL [.any,.any,(.g (.string s)),.any,.any,.any,(.g (.string ⟨#[]⟩)),(.g (.bool false)),(.sl l.length 2 (l.flatMap encA)),(.g (.int .i64 (k:Int))),.any,.any,.any,.any,.any,.any,.any,.any,.any,.any,.any,.any,.any,.any,.any,.any,.any,.any,.any,.any,.any,.any,.any,.any,.any,.any,.any] [] 0) (fun k=>l.length - k) 0 ⟨Nat.zero_le _,by simp,rfl⟩ (VS.tm (by simp [leL])) ?_
  rintro i t ⟨hi,hno,rfl⟩
  by_cases hlt:i<l.length
  ·have ra:=rowA hlt
   by_cases hx:l[i].name=s
   ·have fx:=eq_true hx
    rw [hat,find_hit hlt hno (decide_eq_true hx)]
    (repeat ((first | with_reducible refine W.step (b:=false) ?_ | skip);simp only [go_sem,↓reduceIte,Nat.reduceAdd,Nat.reduceSub,Nat.reduceMul,Nat.reduceEqDiff,Nat.reduceLeDiff,Nat.reduceLT,Int.reduceLE,Int.reduceLT,Int.reduceToNat,Int.reduceEq,hlt,ra,fx];try with_reducible refine drawn hmix (by kernel_rfl) ?_))
    exact postP_pl2 _ (.inr rfl) rfl rfl rfl rfl
   ·(repeat ((first | with_reducible refine W.step (b:=false) ?_ | skip);simp only [go_sem,↓reduceIte,Nat.reduceAdd,Nat.reduceSub,Nat.reduceMul,Nat.reduceEqDiff,Nat.reduceLeDiff,Nat.reduceLT,Int.reduceLE,Int.reduceLT,Int.reduceToNat,Int.reduceEq,hlt,ra,hx];try with_reducible refine drawn hmix (by kernel_rfl) ?_))
    refine ⟨i+1,_,⟨by omega,take_next (pr:=fun x:Atr=>decide (x.name=s)) hlt hno (decide_eq_false hx),rfl⟩,by show l.length - (i+1)<l.length - i;omega,VS.tm ?_⟩;rw [up1 (by omega)];simp [leL]
  ·rw [hat,find_miss (fun x hx=>hno x (by rw [List.take_of_length_le (by omega)];exact hx))]
   (repeat ((first | with_reducible refine W.step (b:=false) ?_ | skip);simp only [go_sem,↓reduceIte,Nat.reduceAdd,Nat.reduceSub,Nat.reduceMul,Nat.reduceEqDiff,Nat.reduceLeDiff,Nat.reduceLT,Int.reduceLE,Int.reduceLT,Int.reduceToNat,Int.reduceEq,hlt];try with_reducible refine drawn hmix (by kernel_rfl) ?_))
   exact postP_pl2 _ (.inr rfl) rfl rfl rfl rfl
 ·have hat:atM p n s=none:=if_neg he
  rw [hat,Bool.not_eq_true _ |>.mp he]
  (repeat ((first | with_reducible refine W.step (b:=false) ?_ | skip);simp only [go_sem,↓reduceIte,Nat.reduceAdd,Nat.reduceSub,Nat.reduceMul,Nat.reduceEqDiff,Nat.reduceLeDiff,Nat.reduceLT,Int.reduceLE,Int.reduceLT,Int.reduceToNat,Int.reduceEq];try with_reducible refine drawn hmix (by kernel_rfl) ?_))
  exact postP_pl2 _ (.inr rfl) rfl rfl rfl rfl
theorem cutS_list (s:ByteArray) (a b:Nat):(cutS s a b).data.toList=(s.data.toList.take b).drop a:=by
 unfold cutS;rw [List.drop_take]
structure WdI (L:List UInt8) (i a:Nat) (o:List ByteArray):Prop where
 le:i≤L.length+1
 at_:a≤i
 eq:i≤L.length→(o.map fun x=>x.data.toList)++wordsL ((L.take i).drop a) (L.drop i)=wordsL [] L
 fin:i=L.length+1→(o.map fun x=>x.data.toList)=wordsL [] L
 len:o.length≤i
theorem cur_step {L:List UInt8} {a i:Nat} (h:a≤i) (hi:i<L.length):(L.take (i+1)).drop a=(L.take i).drop a++[L[i]]:=by
 rw [List.take_succ_eq_append_getElem hi,List.drop_append_of_le_length (by rw [List.length_take];omega)]
theorem cur_nil {L:List UInt8} {a i:Nat} (hi:i≤L.length):(L.take i).drop a=[]↔i≤a:=by
 rw [List.drop_eq_nil_iff,List.length_take];omega
theorem WdI.next {L:List UInt8} {i a:Nat} {o:List ByteArray} (h:WdI L i a o) (hi:i<L.length) (hb:isBl L[i]=false):WdI L (i+1) a o:=by
 refine ⟨by omega,by have:=h.at_;omega,fun h2=>?_,fun h2=>by omega,by have:=h.len;omega⟩;rw [←h.eq (by omega),List.drop_eq_getElem_cons hi,wordsL,hb,cur_step h.at_ hi];simp
theorem WdI.blank {L:List UInt8} {i a:Nat} {o:List ByteArray} (h:WdI L i a o) (hi:i<L.length) (hb:isBl L[i]=true) (s:ByteArray) (hs:s.data.toList=(L.take i).drop a):WdI L (i+1) (i+1) (if a<i then o++[s] else o):=by
 have hn:(L.take (i+1)).drop (i+1)=[]:=(cur_nil (by omega)).2 (Nat.le_refl _);refine ⟨by omega,Nat.le_refl _,fun h2=>?_,fun h2=>by omega,?_⟩
 ·rw [←h.eq (by omega),List.drop_eq_getElem_cons hi,wordsL,hb,hn]
  by_cases ha:a<i
  ·rw [if_pos ha,if_pos rfl,if_neg (fun e=>by have:=(cur_nil (by omega)).1 e;omega),List.map_append,List.map_cons,List.map_nil,hs,List.append_assoc]
   rfl
  ·rw [if_neg ha,if_pos rfl,if_pos ((cur_nil (by omega)).2 (by omega))]
 ·have:=h.len
  split
  ·rw [List.length_append,List.length_singleton];omega
  ·omega
theorem WdI.last {L:List UInt8} {a:Nat} {o:List ByteArray} (h:WdI L L.length a o) (s:ByteArray) (hs:s.data.toList=(L.take L.length).drop a):WdI L (L.length+1) (L.length+1) (if a<L.length then o++[s] else o):=by
 refine ⟨Nat.le_refl _,Nat.le_refl _,fun h2=>by omega,fun _=>?_,?_⟩
 ·rw [←h.eq (Nat.le_refl _),List.drop_length,wordsL]
  by_cases ha:a<L.length
  ·rw [if_pos ha,if_neg (fun e=>by have:=(cur_nil (Nat.le_refl _)).1 e;omega),List.map_append,List.map_cons,List.map_nil,hs]
  ·rw [if_neg ha,if_pos ((cur_nil (Nat.le_refl _)).2 (by omega)),List.append_nil]
 ·have:=h.len
  split
  ·rw [List.length_append,List.length_singleton];omega
  ·omega
theorem WdI.done {s:ByteArray} {i a:Nat} {o:List ByteArray} (h:WdI s.data.toList i a o) (hi:¬i≤s.data.toList.length):o=wordsB s:=by
 have h1:=h.fin (by have:=h.le;omega);unfold wordsB;rw [←h1,List.map_map];have:((fun l=>⟨l.toArray⟩)∘fun x:ByteArray=>x.data.toList)=id:=by funext x;rfl
 rw [this,List.map_id]
set_option maxRecDepth 100000 in
set_option maxHeartbeats 4000000 in
theorem words10_p (s:ByteArray) (hs:s.size≤1000000):PureN Tryz.prog gt0 362 [.g (.string s)] (.sl (wordsB s).length 1 ((wordsB s).flatMap encN)):=by
 refine PureN.of_w (c:=_) Tryz.func362 rfl (by kernel_rfl) rfl ?_;simp only [Tryz.f362,List.replicate,List.length_cons,List.length_nil,Nat.reduceAdd,Nat.reduceSub,List.cons_append,List.nil_append];have hsz:s.data.toList.length=s.size:=by rw [Array.length_toList];rfl
 (repeat ((first | with_reducible refine W.step (b:=false) ?_ | skip);simp only [go_sem,↓reduceIte,Nat.reduceAdd,Nat.reduceSub,Nat.reduceMul,Nat.reduceEqDiff,Nat.reduceLeDiff,Nat.reduceLT,Int.reduceLE,Int.reduceLT,Int.reduceToNat,Int.reduceEq];try with_reducible refine drawn hmix (by kernel_rfl) ?_))
 refine W.loop (s1:=stL [(.g (.string s)),.any,.any,(.gs 0 0 0 1 0),(.g (.int .i64 ((0:Nat):Int))),(.g (.int .i64 ((0:Nat):Int))),.any,.any,.any,.any,.any,.any,.any,.any,.any,.any,.any,.any,.any,.any,.any,.any,.any,.any,.any,.any,.any,.any,.any,.any,.any,.any,.any,.any,.any,.any] [(0,.cells [])] 1)
  (fun (q:Nat×Nat×List ByteArray) t=>WdI s.data.toList q.1 q.2.1 q.2.2∧t=stL [(.g (.string s)),.any,.any,(.gs 0 0 q.2.2.length 1 q.2.2.length),(.g (.int .i64 (q.2.1:Int))),(.g (.int .i64 (q.1:Int))),.any,.any,.any,.any,.any,.any,.any,.any,.any,.any,.any,.any,.any,.any,.any,.any,.any,.any,.any,.any,.any,.any,.any,.any,.any,.any,.any,.any,.any,.any] [(0,.cells (q.2.2.flatMap encN))] 1) (fun q=>s.size+1 - q.1)
  (0,0,[]) ⟨⟨Nat.zero_le _,Nat.le_refl _,fun _=>rfl,fun h=>by omega,Nat.le_refl _⟩,rfl⟩ (VS.tm (by simp [leL])) ?_
 rintro ⟨i,a,o⟩ t ⟨hI,rfl⟩;simp only at hI;have hle:=hI.le;have hat:=hI.at_;have hol:=hI.len;have E1:(o.flatMap encN).length=o.length:=by rw [row_len encN 1 (fun _=>rfl)];omega
 have E2:¬(o.length+1≤o.length):=by omega
 have E3:(o.length+1)*17≤17179869184:=by omega
 have E6:∀ x,o.flatMap encN++[AV.g (.string x)]=(o++[x]).flatMap encN:=fun x=>by rw [List.flatMap_append];rfl
 have hfin:IntKind.i64.wrap ((i:Int)+1)=((i+1:Nat):Int):=up1 (by omega)
 by_cases hi:i≤s.size
 ·have hia:((i:Int)≤(s.size:Int))=True:=eq_true (by omega)
  by_cases hlast:i=s.size
  ·subst hlast
   have hIl:WdI s.data.toList s.data.toList.length a o:=by rw [hsz];exact hI
   have hn:=hIl.last (cutS s a s.size) (by rw [cutS_list,hsz]);rw [hsz] at hn
   by_cases ha:a<s.size
   ·have fs:a≤s.size∧s.size≤s.size:=⟨by omega,Nat.le_refl _⟩
    rw [if_pos ha] at hn
    (repeat ((first | with_reducible refine W.step (b:=false) ?_ | skip);simp only [go_sem,↓reduceIte,Nat.reduceAdd,Nat.reduceSub,Nat.reduceMul,Nat.reduceEqDiff,Nat.reduceLeDiff,Nat.reduceLT,Int.reduceLE,Int.reduceLT,Int.reduceToNat,Int.reduceEq,ha,fs,E1,E2,E3];try with_reducible refine drawn hmix (by kernel_rfl) ?_))
    refine ⟨(s.size+1,s.size+1,o++[cutS s a s.size]),_,⟨hn,rfl⟩,by show s.size+1 - (s.size+1)<s.size+1 - s.size;omega,VS.ren [(0,2)] (by simp) (by simp) (by simp) ?_ ?_⟩
    ·rw [hfin]
     simp only [go_sem,↓reduceIte,Nat.reduceAdd,Nat.reduceSub,Nat.reduceMul,Nat.reduceEqDiff,Nat.reduceLeDiff,Nat.reduceLT,Int.reduceLE,Int.reduceLT,Int.reduceToNat,Int.reduceEq,List.length_append]
    ·exact reM_w rfl (by rw [←E6];rfl) (idsN_w _)
   ·rw [if_neg ha] at hn
    (repeat ((first | with_reducible refine W.step (b:=false) ?_ | skip);simp only [go_sem,↓reduceIte,Nat.reduceAdd,Nat.reduceSub,Nat.reduceMul,Nat.reduceEqDiff,Nat.reduceLeDiff,Nat.reduceLT,Int.reduceLE,Int.reduceLT,Int.reduceToNat,Int.reduceEq,ha];try with_reducible refine drawn hmix (by kernel_rfl) ?_))
    refine ⟨(s.size+1,s.size+1,o),_,⟨hn,rfl⟩,by show s.size+1 - (s.size+1)<s.size+1 - s.size;omega,VS.tm ?_⟩;rw [hfin];simp [leL]
  ·have hlt:i<s.size:=by omega
   have hl2:i<s.data.toList.length:=by omega
   have hc:((s.data.toList.getD i 0))=s.data.toList[i]:=by rw [List.getD_eq_getElem?_getD,List.getElem?_eq_getElem hl2];rfl
   have f1:((i:Int)=(s.size:Int))=False:=eq_false (by omega)
   (repeat ((first | with_reducible refine W.step (b:=false) ?_ | skip);simp only [go_sem,↓reduceIte,Nat.reduceAdd,Nat.reduceSub,Nat.reduceMul,Nat.reduceEqDiff,Nat.reduceLeDiff,Nat.reduceLT,Int.reduceLE,Int.reduceLT,Int.reduceToNat,Int.reduceEq,hia,f1,hlt,hc];try with_reducible refine drawn hmix (by kernel_rfl) ?_))
   refine AtCall.mk (blank9_p (s.data.toList[i].toNat:Int)) ?_;rw [blQ_eq]
   cases hb:isBl s.data.toList[i] with
   | true =>
     have hn:=hI.blank hl2 hb (cutS s a i) (cutS_list s a i)
     by_cases ha:a<i
     ·have fs:a≤i∧i≤s.size:=⟨by omega,by omega⟩
      rw [if_pos ha] at hn
      (repeat ((first | with_reducible refine W.step (b:=false) ?_ | skip);simp only [go_sem,↓reduceIte,Nat.reduceAdd,Nat.reduceSub,Nat.reduceMul,Nat.reduceEqDiff,Nat.reduceLeDiff,Nat.reduceLT,Int.reduceLE,Int.reduceLT,Int.reduceToNat,Int.reduceEq,ha,fs,E1,E2,E3];try with_reducible refine drawn hmix (by kernel_rfl) ?_))
      refine ⟨(i+1,i+1,o++[cutS s a i]),_,⟨hn,rfl⟩,by show s.size+1 - (i+1)<s.size+1 - i;omega,VS.ren [(0,2)] (by simp) (by simp) (by simp) ?_ ?_⟩
      ·rw [hfin]
       simp only [go_sem,↓reduceIte,Nat.reduceAdd,Nat.reduceSub,Nat.reduceMul,Nat.reduceEqDiff,Nat.reduceLeDiff,Nat.reduceLT,Int.reduceLE,Int.reduceLT,Int.reduceToNat,Int.reduceEq,List.length_append]
      ·exact reM_w rfl (by rw [←E6];rfl) (idsN_w _)
     ·rw [if_neg ha] at hn
      (repeat ((first | with_reducible refine W.step (b:=false) ?_ | skip);simp only [go_sem,↓reduceIte,Nat.reduceAdd,Nat.reduceSub,Nat.reduceMul,Nat.reduceEqDiff,Nat.reduceLeDiff,Nat.reduceLT,Int.reduceLE,Int.reduceLT,Int.reduceToNat,Int.reduceEq,ha];try with_reducible refine drawn hmix (by kernel_rfl) ?_))
      refine ⟨(i+1,i+1,o),_,⟨hn,rfl⟩,by show s.size+1 - (i+1)<s.size+1 - i;omega,VS.tm ?_⟩;rw [hfin];simp [leL]
   | false =>
     have hn:=hI.next hl2 hb
     (repeat ((first | with_reducible refine W.step (b:=false) ?_ | skip);simp only [go_sem,↓reduceIte,Nat.reduceAdd,Nat.reduceSub,Nat.reduceMul,Nat.reduceEqDiff,Nat.reduceLeDiff,Nat.reduceLT,Int.reduceLE,Int.reduceLT,Int.reduceToNat,Int.reduceEq];try with_reducible refine drawn hmix (by kernel_rfl) ?_))
     refine ⟨(i+1,a,o),_,⟨hn,rfl⟩,by show s.size+1 - (i+1)<s.size+1 - i;omega,VS.tm ?_⟩;rw [hfin];simp [leL]
 ·have hia:((i:Int)≤(s.size:Int))=False:=eq_false (by omega)
  obtain rfl:=hI.done (by omega)
  (repeat ((first | with_reducible refine W.step (b:=false) ?_ | skip);simp only [go_sem,↓reduceIte,Nat.reduceAdd,Nat.reduceSub,Nat.reduceMul,Nat.reduceEqDiff,Nat.reduceLeDiff,Nat.reduceLT,Int.reduceLE,Int.reduceLT,Int.reduceToNat,Int.reduceEq,hia];try with_reducible refine drawn hmix (by kernel_rfl) ?_))
  exact postP_one _ (.inr rfl) rfl (sealN_w rfl rfl)
set_option maxRecDepth 100000 in
set_option maxHeartbeats 4000000 in
theorem classes10_p (p:List Nod) (n:Int) (hp:OkPg p):PureN Tryz.prog gt0 347 [.sl p.length 5 (p.flatMap encNd),.g (.int .i64 n)] (.sl (classesM p n).length 1 ((classesM p n).flatMap encN)):=by
 refine PureN.of_w (c:=_) Tryz.func347 rfl (by kernel_rfl) rfl ?_;simp only [Tryz.f347,List.replicate,List.length_cons,List.length_nil,Nat.reduceAdd,Nat.reduceSub,List.cons_append,List.nil_append]
 (repeat ((first | with_reducible refine W.step (b:=false) ?_ | skip);simp only [go_sem,↓reduceIte,Nat.reduceAdd,Nat.reduceSub,Nat.reduceMul,Nat.reduceEqDiff,Nat.reduceLeDiff,Nat.reduceLT,Int.reduceLE,Int.reduceLT,Int.reduceToNat,Int.reduceEq];try with_reducible refine drawn hmix (by kernel_rfl) ?_))
 refine AtCall.mk (attr10_p p n clsB hp) ?_
 (repeat ((first | with_reducible refine W.step (b:=false) ?_ | skip);simp only [go_sem,↓reduceIte,Nat.reduceAdd,Nat.reduceSub,Nat.reduceMul,Nat.reduceEqDiff,Nat.reduceLeDiff,Nat.reduceLT,Int.reduceLE,Int.reduceLT,Int.reduceToNat,Int.reduceEq];try with_reducible refine drawn hmix (by kernel_rfl) ?_))
 refine AtCall.mk (words10_p ((atM p n clsB).getD ⟨#[]⟩) (at_size hp n clsB)) ?_
 (repeat ((first | with_reducible refine W.step (b:=false) ?_ | skip);simp only [go_sem,↓reduceIte,Nat.reduceAdd,Nat.reduceSub,Nat.reduceMul,Nat.reduceEqDiff,Nat.reduceLeDiff,Nat.reduceLT,Int.reduceLE,Int.reduceLT,Int.reduceToNat,Int.reduceEq];try with_reducible refine drawn hmix (by kernel_rfl) ?_))
 exact postP_one _ (.inr rfl) rfl (.plain rfl)
theorem filt_step {α:Type} (q:α→Bool) {l:List α} {i:Nat} (h:i<l.length):(l.take (i+1)).filter q=(l.take i).filter q++if q l[i]=true then [l[i]] else []:=by
 rw [List.take_succ_eq_append_getElem h,List.filter_append]
 congr 1
 cases hq:q l[i] <;> simp [hq]
set_option maxRecDepth 100000 in
set_option maxHeartbeats 4000000 in
theorem kin10_p (p:List Nod) (n:Int) (hp:OkPg p):PureN Tryz.prog gt0 363 [.sl p.length 5 (p.flatMap encNd),.g (.int .i64 n)] (.sl (kinM p n).length 1 ((kinM p n).flatMap encZ)):=by
 refine PureN.of_w (c:=_) Tryz.func363 rfl (by kernel_rfl) rfl ?_;simp only [Tryz.f363,List.replicate,List.length_cons,List.length_nil,Nat.reduceAdd,Nat.reduceSub,List.cons_append,List.nil_append]
 (repeat ((first | with_reducible refine W.step (b:=false) ?_ | skip);simp only [go_sem,↓reduceIte,Nat.reduceAdd,Nat.reduceSub,Nat.reduceMul,Nat.reduceEqDiff,Nat.reduceLeDiff,Nat.reduceLT,Int.reduceLE,Int.reduceLT,Int.reduceToNat,Int.reduceEq];try with_reducible refine drawn hmix (by kernel_rfl) ?_))
 refine AtCall.mk (element10_p p n) ?_
 by_cases he:elemB p n=true
 rotate_left
 ·rw [Bool.not_eq_true] at he
  have hk:kinM p n=[]:=by unfold kinM;rw [if_neg (by rw [he];simp)]
  rw [he,hk]
  (repeat ((first | with_reducible refine W.step (b:=false) ?_ | skip);simp only [go_sem,↓reduceIte,Nat.reduceAdd,Nat.reduceSub,Nat.reduceMul,Nat.reduceEqDiff,Nat.reduceLeDiff,Nat.reduceLT,Int.reduceLE,Int.reduceLT,Int.reduceToNat,Int.reduceEq];try with_reducible refine drawn hmix (by kernel_rfl) ?_))
  exact postP_one _ (.inr rfl) rfl (seal_Z (l:=[]) rfl rfl)
 rw [he];obtain ⟨k,rfl,hk,hnd⟩:=at_nat he;have r:=rowNd hk
 by_cases hu0:p[k].up<0
 ·have hkn:kinM p k=[]:=by unfold kinM;rw [hnd,if_neg (by omega)]
  have fu:=eq_true hu0;rw [hkn]
  (repeat ((first | with_reducible refine W.step (b:=false) ?_ | skip);simp only [go_sem,↓reduceIte,Nat.reduceAdd,Nat.reduceSub,Nat.reduceMul,Nat.reduceEqDiff,Nat.reduceLeDiff,Nat.reduceLT,Int.reduceLE,Int.reduceLT,Int.reduceToNat,Int.reduceEq,hk,r,fu];try with_reducible refine drawn hmix (by kernel_rfl) ?_))
  exact postP_one _ (.inr rfl) rfl (seal_Z (l:=[]) rfl rfl)
 have fu:=eq_false hu0
 by_cases hu1:(p.length:Int)≤p[k].up
 ·have hkn:kinM p k=[]:=by unfold kinM;rw [hnd,if_neg (by omega)]
  have fv:=eq_true hu1;rw [hkn]
  (repeat ((first | with_reducible refine W.step (b:=false) ?_ | skip);simp only [go_sem,↓reduceIte,Nat.reduceAdd,Nat.reduceSub,Nat.reduceMul,Nat.reduceEqDiff,Nat.reduceLeDiff,Nat.reduceLT,Int.reduceLE,Int.reduceLT,Int.reduceToNat,Int.reduceEq,hk,r,fu,fv];try with_reducible refine drawn hmix (by kernel_rfl) ?_))
  exact postP_one _ (.inr rfl) rfl (seal_Z (l:=[]) rfl rfl)
 obtain ⟨u,hu⟩:∃ u:Nat,p[k].up=u:=⟨p[k].up.toNat,by omega⟩;have hul:u<p.length:=by omega
 have ru:=rowNd hul;have hkn:kinM p k=(p[u].kids).filter (elemB p):=by unfold kinM;rw [hnd,if_pos ⟨he,by omega,by omega⟩,hu,ndAt_nat hul]
 rw [hu] at r;have fu2:((u:Int)<0)=False:=eq_false (by omega);have fv2:((p.length:Int)≤(u:Int))=False:=eq_false (by omega);have hkl:=hp.kids _ (List.getElem_mem hul);rw [hkn]
 (repeat ((first | with_reducible refine W.step (b:=false) ?_ | skip);simp only [go_sem,↓reduceIte,Nat.reduceAdd,Nat.reduceSub,Nat.reduceMul,Nat.reduceEqDiff,Nat.reduceLeDiff,Nat.reduceLT,Int.reduceLE,Int.reduceLT,Int.reduceToNat,Int.reduceEq,hk,r,hul,ru,fu2,fv2];try with_reducible refine drawn hmix (by kernel_rfl) ?_))
 generalize p[u].kids=l at hkl ⊢
 refine W.loop (s1:=stL [(.sl p.length 5 (p.flatMap encNd)),.any,.any,.any,.any,(.gs 0 0 0 1 0),(.sl l.length 1 (l.flatMap encZ)),(.g (.int .i64 ((0:Nat):Int))),.any,.any,.any,.any,.any,.any,.any,.any,.any,.any,.any,.any,.any,.any,.any,.any,.any,.any,.any,.any,.any,.any,.any,.any,.any,.any,.any,.any,.any,.any,.any,.any,.any,.any,.any,.any,.any,.any,.any,.any,.any,.any,.any,.any,.any,.any,.any,.any,.any,.any,.any,.any,.any] [(0,.cells [])] 1)
  (fun (i:Nat) t=>i≤l.length∧t=stL [(.sl p.length 5 (p.flatMap encNd)),.any,.any,.any,.any,(.gs 0 0 ((l.take i).filter (elemB p)).length 1 ((l.take i).filter (elemB p)).length),(.sl l.length 1 (l.flatMap encZ)),(.g (.int .i64 (i:Int))),.any,.any,.any,.any,.any,.any,.any,.any,.any,.any,.any,.any,.any,.any,.any,.any,.any,.any,.any,.any,.any,.any,.any,.any,.any,.any,.any,.any,.any,.any,.any,.any,.any,.any,.any,.any,.any,.any,.any,.any,.any,.any,.any,.any,.any,.any,.any,.any,.any,.any,.any,.any,.any] [(0,.cells (((l.take i).filter (elemB p)).flatMap encZ))] 1) (fun i=>l.length - i) 0 ⟨Nat.zero_le _,rfl⟩ (VS.tm (by simp [leL])) ?_
 rintro i t ⟨hi,rfl⟩
 by_cases hlt:i<l.length
 ·have hz:=rowZ hlt
  have hol:((l.take i).filter (elemB p)).length≤1000000:=Nat.le_trans (List.length_filter_le _ _) (by rw [List.length_take];omega);have hfs:=filt_step (elemB p) hlt;generalize (l.take i).filter (elemB p)=o at hol hfs ⊢;have E1:(o.flatMap encZ).length=o.length:=lenZ o;have E2:¬(o.length+1≤o.length):=by omega
  have E3:(o.length+1)*9≤17179869184:=by omega
  have E6:∀ x,o.flatMap encZ++[AV.g (.int .i64 x)]=(o++[x]).flatMap encZ:=fun x=>by rw [List.flatMap_append];rfl
  (repeat ((first | with_reducible refine W.step (b:=false) ?_ | skip);simp only [go_sem,↓reduceIte,Nat.reduceAdd,Nat.reduceSub,Nat.reduceMul,Nat.reduceEqDiff,Nat.reduceLeDiff,Nat.reduceLT,Int.reduceLE,Int.reduceLT,Int.reduceToNat,Int.reduceEq,hlt,hz];try with_reducible refine drawn hmix (by kernel_rfl) ?_))
  refine AtCall.mk (element10_p p l[i]) ?_
  cases hb:elemB p l[i] with
  | true =>
    rw [hb,if_pos rfl] at hfs
    (repeat ((first | with_reducible refine W.step (b:=false) ?_ | skip);simp only [go_sem,↓reduceIte,Nat.reduceAdd,Nat.reduceSub,Nat.reduceMul,Nat.reduceEqDiff,Nat.reduceLeDiff,Nat.reduceLT,Int.reduceLE,Int.reduceLT,Int.reduceToNat,Int.reduceEq,hlt,hz,E1,E2,E3];try with_reducible refine drawn hmix (by kernel_rfl) ?_))
    refine ⟨i+1,_,⟨by omega,rfl⟩,by show l.length - (i+1)<l.length - i;omega,VS.ren [(0,2)] (by simp) (by simp) (by simp) ?_ ?_⟩
    ·rw [up1 (by omega),hfs]
     simp only [go_sem,↓reduceIte,Nat.reduceAdd,Nat.reduceSub,Nat.reduceMul,Nat.reduceEqDiff,Nat.reduceLeDiff,Nat.reduceLT,Int.reduceLE,Int.reduceLT,Int.reduceToNat,Int.reduceEq,List.length_append]
    ·rw [hfs]
     exact reM_w rfl (by rw [←E6];rfl) (ids_Z _)
  | false =>
    rw [hb,if_neg (by decide),List.append_nil] at hfs
    (repeat ((first | with_reducible refine W.step (b:=false) ?_ | skip);simp only [go_sem,↓reduceIte,Nat.reduceAdd,Nat.reduceSub,Nat.reduceMul,Nat.reduceEqDiff,Nat.reduceLeDiff,Nat.reduceLT,Int.reduceLE,Int.reduceLT,Int.reduceToNat,Int.reduceEq];try with_reducible refine drawn hmix (by kernel_rfl) ?_))
    refine ⟨i+1,_,⟨by omega,rfl⟩,by show l.length - (i+1)<l.length - i;omega,?_⟩;rw [up1 (by omega),hfs];exact VS.tm (by simp [leL])
 ·obtain rfl:i=l.length:=by omega
  rw [List.take_length]
  (repeat ((first | with_reducible refine W.step (b:=false) ?_ | skip);simp only [go_sem,↓reduceIte,Nat.reduceAdd,Nat.reduceSub,Nat.reduceMul,Nat.reduceEqDiff,Nat.reduceLeDiff,Nat.reduceLT,Int.reduceLE,Int.reduceLT,Int.reduceToNat,Int.reduceEq,hlt];try with_reducible refine drawn hmix (by kernel_rfl) ?_))
  exact postP_one _ (.inr rfl) rfl (seal_Z rfl rfl)
theorem ba_nil {a b:ByteArray}:a++b=⟨#[]⟩↔a=⟨#[]⟩∧b=⟨#[]⟩:=by
 have z:∀ x:ByteArray,x.size=0→x=⟨#[]⟩:=fun x h=>by
  cases x with
  | mk d=>congr 1;exact Array.eq_empty_of_size_eq_zero h
 constructor
 ·intro h
  have h1:=congrArg ByteArray.size h;rw [ByteArray.size_append] at h1;have h2:ByteArray.size ⟨#[]⟩=0:=rfl;exact ⟨z a (by omega),z b (by omega)⟩
 ·rintro ⟨rfl,rfl⟩
  rfl
set_option maxRecDepth 100000 in
set_option maxHeartbeats 4000000 in
theorem tree10_p (p:List Nod) (hp:OkPg p):PureN Tryz.prog gt0 224 [.sl p.length 5 (p.flatMap encNd)] (.g (.bool (treeB p))):=by
 refine PureN.of_w (c:=_) Tryz.func224 rfl (by kernel_rfl) rfl ?_;simp only [Tryz.f224,List.replicate,List.length_cons,List.length_nil,Nat.reduceAdd,Nat.reduceSub,List.cons_append,List.nil_append];have hlen:=hp.len
 by_cases h0:p.length=0
 ·have hb:treeB p=false:=by unfold treeB;rw [decide_eq_true h0];rfl
  rw [hb];have f0:((p.length:Int)=0)=True:=eq_true (by omega)
  (repeat ((first | with_reducible refine W.step (b:=false) ?_ | skip);simp only [go_sem,↓reduceIte,Nat.reduceAdd,Nat.reduceSub,Nat.reduceMul,Nat.reduceEqDiff,Nat.reduceLeDiff,Nat.reduceLT,Int.reduceLE,Int.reduceLT,Int.reduceToNat,Int.reduceEq,f0];try with_reducible refine drawn hmix (by kernel_rfl) ?_))
  exact postP_one _ (.inr rfl) rfl (.plain rfl)
 have f0:((p.length:Int)=0)=False:=eq_false (by omega);have hpos:0<p.length:=by omega
 have r:=rowNd hpos;have e0:=ndAt_nat hpos;simp only [Nat.zero_mul,Nat.zero_add,Int.natCast_zero] at r e0;have f1:(0<(p.length:Int))=True:=eq_true (by omega);have ht0:treeB p=(decide (p[0].up=-1)&&(decide (p[0].name++p[0].text=⟨#[]⟩)&&(decide (p[0].attrs.length=0)&&((List.range p.length).all (fun k:Nat=>decide (k=0)||(decide (0≤(ndAt p k).up)&&decide ((ndAt p k).up<k)))&&(List.range p.length).all (fun k:Nat=>decide ((ndAt p k).kids=kidsR p p.length k)))))):=by
  unfold treeB;rw [decide_eq_false h0,e0];rfl
 rw [ht0]
 by_cases hu:p[0].up=-1
 rotate_left
 ·have fu:=eq_false hu
  rw [decide_eq_false hu,Bool.false_and]
  (repeat ((first | with_reducible refine W.step (b:=false) ?_ | skip);simp only [go_sem,↓reduceIte,Nat.reduceAdd,Nat.reduceSub,Nat.reduceMul,Nat.reduceEqDiff,Nat.reduceLeDiff,Nat.reduceLT,Int.reduceLE,Int.reduceLT,Int.reduceToNat,Int.reduceEq,f0,f1,r,fu];try with_reducible refine drawn hmix (by kernel_rfl) ?_))
  exact postP_one _ (.inr rfl) rfl (.plain rfl)
 have fu:=eq_true hu
 by_cases hs:p[0].name=⟨#[]⟩
 rotate_left
 ·have fs:=eq_false hs
  rw [decide_eq_false (fun e=>hs (ba_nil.1 e).1),Bool.false_and,Bool.and_false]
  (repeat ((first | with_reducible refine W.step (b:=false) ?_ | skip);simp only [go_sem,↓reduceIte,Nat.reduceAdd,Nat.reduceSub,Nat.reduceMul,Nat.reduceEqDiff,Nat.reduceLeDiff,Nat.reduceLT,Int.reduceLE,Int.reduceLT,Int.reduceToNat,Int.reduceEq,f0,f1,r,fu,fs];try with_reducible refine drawn hmix (by kernel_rfl) ?_))
  exact postP_one _ (.inr rfl) rfl (.plain rfl)
 have fs:=eq_true hs
 by_cases hx:p[0].text=⟨#[]⟩
 rotate_left
 ·have fx:=eq_false hx
  rw [decide_eq_false (fun e=>hx (ba_nil.1 e).2),Bool.false_and,Bool.and_false]
  (repeat ((first | with_reducible refine W.step (b:=false) ?_ | skip);simp only [go_sem,↓reduceIte,Nat.reduceAdd,Nat.reduceSub,Nat.reduceMul,Nat.reduceEqDiff,Nat.reduceLeDiff,Nat.reduceLT,Int.reduceLE,Int.reduceLT,Int.reduceToNat,Int.reduceEq,f0,f1,r,fu,fs,fx];try with_reducible refine drawn hmix (by kernel_rfl) ?_))
  exact postP_one _ (.inr rfl) rfl (.plain rfl)
 have fx:=eq_true hx
 by_cases ha:p[0].attrs.length=0
 rotate_left
 ·have fa:((0:Int)<(p[0].attrs.length:Int))=True:=eq_true (by omega)
  have fb:0<p[0].attrs.length:=by omega
  rw [decide_eq_false ha,Bool.false_and,Bool.and_false,Bool.and_false]
  (repeat ((first | with_reducible refine W.step (b:=false) ?_ | skip);simp only [go_sem,↓reduceIte,Nat.reduceAdd,Nat.reduceSub,Nat.reduceMul,Nat.reduceEqDiff,Nat.reduceLeDiff,Nat.reduceLT,Int.reduceLE,Int.reduceLT,Int.reduceToNat,Int.reduceEq,f0,f1,r,fu,fs,fx,fa,fb];try with_reducible refine drawn hmix (by kernel_rfl) ?_))
  exact postP_one _ (.inr rfl) rfl (.plain rfl)
 have fa:((0:Int)<(p[0].attrs.length:Int))=False:=eq_false (by omega);have fb:¬0<p[0].attrs.length:=by omega
 rw [decide_eq_true hu,decide_eq_true (ba_nil.2 ⟨hs,hx⟩),decide_eq_true ha,Bool.true_and,Bool.true_and,Bool.true_and]
 (repeat ((first | with_reducible refine W.step (b:=false) ?_ | skip);simp only [go_sem,↓reduceIte,Nat.reduceAdd,Nat.reduceSub,Nat.reduceMul,Nat.reduceEqDiff,Nat.reduceLeDiff,Nat.reduceLT,Int.reduceLE,Int.reduceLT,Int.reduceToNat,Int.reduceEq,f0,f1,r,fu,fs,fx,fa,fb];try with_reducible refine drawn hmix (by kernel_rfl) ?_))
 clear e0 ht0 hu fu hs fs hx fx ha fa fb r f1 f0
 refine W.loop (s1:=stL [(.sl p.length 5 (p.flatMap encNd)),.any,(.g (.bool false)),(.g (.int .i64 ((1:Nat):Int))),.any,.any,.any,.any,.any,.any,.any,.any,.any,.any,.any,.any,.any,.any,.any,.any,.any,.any,.any,.any,.any,.any,.any,.any,.any,.any,.any,.any,.any,.any,.any,.any,.any,.any,.any,.any,.any,.any,.any,.any,.any,.any,.any,.any,.any,.any,.any,.any,.any,.any,.any,.any,.any,.any,.any,.any,.any,.any,.any,.any,.any,.any,.any,.any,.any,.any,.any,.any,.any,.any,.any,.any,.any,.any,.any,.any,.any,.any,.any,.any,.any,.any,.any,.any,.any,.any,.any,.any] [] 0)
  (fun (k:Nat) t=>k≤p.length∧0<k∧(∀ i:Nat,i<k→0<i→0≤(ndAt p i).up∧(ndAt p i).up<i)∧t=stL [(.sl p.length 5 (p.flatMap encNd)),.any,(.g (.bool false)),(.g (.int .i64 (k:Int))),.any,.any,.any,.any,.any,.any,.any,.any,.any,.any,.any,.any,.any,.any,.any,.any,.any,.any,.any,.any,.any,.any,.any,.any,.any,.any,.any,.any,.any,.any,.any,.any,.any,.any,.any,.any,.any,.any,.any,.any,.any,.any,.any,.any,.any,.any,.any,.any,.any,.any,.any,.any,.any,.any,.any,.any,.any,.any,.any,.any,.any,.any,.any,.any,.any,.any,.any,.any,.any,.any,.any,.any,.any,.any,.any,.any,.any,.any,.any,.any,.any,.any,.any,.any,.any,.any,.any,.any] [] 0)
  (fun k=>p.length - k) 1 ⟨hpos,by decide,fun i h1 h2=>by omega,rfl⟩ (VS.tm (by simp [leL])) ?_
 rintro k t ⟨hk,hk1,hup,rfl⟩
 by_cases hlt:k<p.length
 ·have rk:=rowNd hlt
  have ek:=ndAt_nat hlt
  by_cases hu0:p[k].up<0
  ·have fu:=eq_true hu0
   have hf:(List.range p.length).all (fun k:Nat=>decide (k=0)||(decide (0≤(ndAt p k).up)&&decide ((ndAt p k).up<k)))=false:=by
    refine List.all_eq_false.2 ⟨k,List.mem_range.2 hlt,?_⟩;rw [ek,decide_eq_false (p:=k=0) (by omega),decide_eq_false (p:=0≤p[k].up) (by omega),Bool.false_and];decide
   rw [hf,Bool.false_and]
   (repeat ((first | with_reducible refine W.step (b:=false) ?_ | skip);simp only [go_sem,↓reduceIte,Nat.reduceAdd,Nat.reduceSub,Nat.reduceMul,Nat.reduceEqDiff,Nat.reduceLeDiff,Nat.reduceLT,Int.reduceLE,Int.reduceLT,Int.reduceToNat,Int.reduceEq,hlt,rk,fu];try with_reducible refine drawn hmix (by kernel_rfl) ?_))
   exact postP_one _ (.inr rfl) rfl (.plain rfl)
  have fu:=eq_false hu0
  by_cases hu1:(k:Int)≤p[k].up
  ·have fv:=eq_true hu1
   have hf:(List.range p.length).all (fun k:Nat=>decide (k=0)||(decide (0≤(ndAt p k).up)&&decide ((ndAt p k).up<k)))=false:=by
    refine List.all_eq_false.2 ⟨k,List.mem_range.2 hlt,?_⟩;rw [ek,decide_eq_false (p:=k=0) (by omega),decide_eq_false (p:=p[k].up<(k:Int)) (by omega),Bool.and_false];decide
   rw [hf,Bool.false_and]
   (repeat ((first | with_reducible refine W.step (b:=false) ?_ | skip);simp only [go_sem,↓reduceIte,Nat.reduceAdd,Nat.reduceSub,Nat.reduceMul,Nat.reduceEqDiff,Nat.reduceLeDiff,Nat.reduceLT,Int.reduceLE,Int.reduceLT,Int.reduceToNat,Int.reduceEq,hlt,rk,fu,fv];try with_reducible refine drawn hmix (by kernel_rfl) ?_))
   exact postP_one _ (.inr rfl) rfl (.plain rfl)
  have fv:=eq_false hu1
  (repeat ((first | with_reducible refine W.step (b:=false) ?_ | skip);simp only [go_sem,↓reduceIte,Nat.reduceAdd,Nat.reduceSub,Nat.reduceMul,Nat.reduceEqDiff,Nat.reduceLeDiff,Nat.reduceLT,Int.reduceLE,Int.reduceLT,Int.reduceToNat,Int.reduceEq,hlt,rk,fu,fv];try with_reducible refine drawn hmix (by kernel_rfl) ?_))
  refine ⟨k+1,_,⟨by omega,by omega,fun i h1 h2=>?_,rfl⟩,by show p.length - (k+1)<p.length - k;omega,VS.tm ?_⟩
  ·rcases Nat.lt_or_ge i k with h3 | h3
   ·exact hup i h3 h2
   ·obtain rfl:i=k:=by omega
    rw [ek];omega
  ·rw [up1 (by omega)]
   simp [leL]
 obtain rfl:k=p.length:=by omega
 have hup1:(List.range p.length).all (fun k:Nat=>decide (k=0)||(decide (0≤(ndAt p k).up)&&decide ((ndAt p k).up<k)))=true:=by
  rw [List.all_eq_true];intro i hi
  by_cases h0:i=0
  ·rw [decide_eq_true h0];rfl
  ·obtain ⟨g1,g2⟩:=hup i (List.mem_range.1 hi) (by omega)
   rw [decide_eq_true g1,decide_eq_true g2,Bool.true_and,Bool.or_true]
 rw [hup1,Bool.true_and]
 (repeat ((first | with_reducible refine W.step (b:=false) ?_ | skip);simp only [go_sem,↓reduceIte,Nat.reduceAdd,Nat.reduceSub,Nat.reduceMul,Nat.reduceEqDiff,Nat.reduceLeDiff,Nat.reduceLT,Int.reduceLE,Int.reduceLT,Int.reduceToNat,Int.reduceEq,hlt];try with_reducible refine drawn hmix (by kernel_rfl) ?_))
 clear hup hup1 hlt hk hk1
 refine W.loop (s1:=stL [(.sl p.length 5 (p.flatMap encNd)),.any,(.g (.bool false)),.any,(.g (.int .i64 ((0:Nat):Int))),.any,.any,.any,.any,.any,.any,.any,.any,.any,.any,.any,.any,.any,.any,.any,.any,.any,.any,.any,.any,.any,.any,.any,.any,.any,.any,.any,.any,.any,.any,.any,.any,.any,.any,.any,.any,.any,.any,.any,.any,.any,.any,.any,.any,.any,.any,.any,.any,.any,.any,.any,.any,.any,.any,.any,.any,.any,.any,.any,.any,.any,.any,.any,.any,.any,.any,.any,.any,.any,.any,.any,.any,.any,.any,.any,.any,.any,.any,.any,.any,.any,.any,.any,.any,.any,.any,.any] [] 0)
  (fun (k:Nat) t=>k≤p.length∧(∀ i:Nat,i<k→(ndAt p i).kids=kidsR p p.length i)∧t=stL [(.sl p.length 5 (p.flatMap encNd)),.any,(.g (.bool false)),.any,(.g (.int .i64 (k:Int))),.any,.any,.any,.any,.any,.any,.any,.any,.any,.any,.any,.any,.any,.any,.any,.any,.any,.any,.any,.any,.any,.any,.any,.any,.any,.any,.any,.any,.any,.any,.any,.any,.any,.any,.any,.any,.any,.any,.any,.any,.any,.any,.any,.any,.any,.any,.any,.any,.any,.any,.any,.any,.any,.any,.any,.any,.any,.any,.any,.any,.any,.any,.any,.any,.any,.any,.any,.any,.any,.any,.any,.any,.any,.any,.any,.any,.any,.any,.any,.any,.any,.any,.any,.any,.any,.any,.any] [] 0)
  (fun k=>p.length - k) 0 ⟨Nat.zero_le _,fun i hi=>absurd hi (Nat.not_lt_zero _),rfl⟩ (VS.tm (by simp [leL])) ?_
 rintro k t ⟨hk,hsm,rfl⟩
 by_cases hlt:k<p.length
 rotate_left
 ·have hf:(List.range p.length).all (fun k:Nat=>decide ((ndAt p k).kids=kidsR p p.length k))=true:=by
   rw [List.all_eq_true];exact fun i hi=>decide_eq_true (hsm i (by have:=List.mem_range.1 hi;omega))
  rw [hf]
  (repeat ((first | with_reducible refine W.step (b:=false) ?_ | skip);simp only [go_sem,↓reduceIte,Nat.reduceAdd,Nat.reduceSub,Nat.reduceMul,Nat.reduceEqDiff,Nat.reduceLeDiff,Nat.reduceLT,Int.reduceLE,Int.reduceLT,Int.reduceToNat,Int.reduceEq,hlt];try with_reducible refine drawn hmix (by kernel_rfl) ?_))
  exact postP_one _ (.inr rfl) rfl (.plain rfl)
 have hrl:∀ j,(kidsR p j k).length≤j:=fun j=>by unfold kidsR;rw [List.length_map];exact Nat.le_trans (List.length_filter_le _ _) (by simp)
 have hk1:kidsR p 1 k=[]:=by unfold kidsR;simp
 (repeat ((first | with_reducible refine W.step (b:=false) ?_ | skip);simp only [go_sem,↓reduceIte,Nat.reduceAdd,Nat.reduceSub,Nat.reduceMul,Nat.reduceEqDiff,Nat.reduceLeDiff,Nat.reduceLT,Int.reduceLE,Int.reduceLT,Int.reduceToNat,Int.reduceEq,hlt];try with_reducible refine drawn hmix (by kernel_rfl) ?_))
 refine W.loop (s1:=stL [(.sl p.length 5 (p.flatMap encNd)),.any,(.g (.bool false)),.any,(.g (.int .i64 (k:Int))),(.gs 0 0 0 1 0),(.g (.int .i64 ((1:Nat):Int))),.any,.any,.any,.any,.any,.any,.any,.any,.any,.any,.any,.any,.any,.any,.any,.any,.any,.any,.any,.any,.any,.any,.any,.any,.any,.any,.any,.any,.any,.any,.any,.any,.any,.any,.any,.any,.any,.any,.any,.any,.any,.any,.any,.any,.any,.any,.any,.any,.any,.any,.any,.any,.any,.any,.any,.any,.any,.any,.any,.any,.any,.any,.any,.any,.any,.any,.any,.any,.any,.any,.any,.any,.any,.any,.any,.any,.any,.any,.any,.any,.any,.any,.any,.any,.any] [(0,.cells [])] 1)
  (fun (j:Nat) t=>j≤p.length∧0<j∧t=stL [(.sl p.length 5 (p.flatMap encNd)),.any,(.g (.bool false)),.any,(.g (.int .i64 (k:Int))),(.gs 0 0 (kidsR p j k).length 1 (kidsR p j k).length),(.g (.int .i64 (j:Int))),.any,.any,.any,.any,.any,.any,.any,.any,.any,.any,.any,.any,.any,.any,.any,.any,.any,.any,.any,.any,.any,.any,.any,.any,.any,.any,.any,.any,.any,.any,.any,.any,.any,.any,.any,.any,.any,.any,.any,.any,.any,.any,.any,.any,.any,.any,.any,.any,.any,.any,.any,.any,.any,.any,.any,.any,.any,.any,.any,.any,.any,.any,.any,.any,.any,.any,.any,.any,.any,.any,.any,.any,.any,.any,.any,.any,.any,.any,.any,.any,.any,.any,.any,.any,.any] [(0,.cells ((kidsR p j k).flatMap encZ))] 1)
  (fun j=>p.length - j) 1 ⟨by omega,by decide,by rw [hk1];rfl⟩ (VS.tm (by simp [leL])) ?_
 rintro j t ⟨hj,hj0,rfl⟩
 by_cases hjl:j<p.length
 ·have rj:=rowNd hjl
  have ej:=ndAt_nat hjl;have hsu:=kidsR_succ p j k;have hol:=hrl j;rw [ej] at hsu;generalize kidsR p j k=o at hsu hol ⊢;have E1:(o.flatMap encZ).length=o.length:=lenZ o;have E2:¬(o.length+1≤o.length):=by omega
  have E3:(o.length+1)*9≤17179869184:=by omega
  have E6:∀ x,o.flatMap encZ++[AV.g (.int .i64 x)]=(o++[x]).flatMap encZ:=fun x=>by rw [List.flatMap_append];rfl
  by_cases hx:p[j].up=(k:Int)
  ·have fx:=eq_true hx
   rw [if_pos ⟨hj0,hx⟩] at hsu
   (repeat ((first | with_reducible refine W.step (b:=false) ?_ | skip);simp only [go_sem,↓reduceIte,Nat.reduceAdd,Nat.reduceSub,Nat.reduceMul,Nat.reduceEqDiff,Nat.reduceLeDiff,Nat.reduceLT,Int.reduceLE,Int.reduceLT,Int.reduceToNat,Int.reduceEq,hjl,rj,fx,E1,E2,E3];try with_reducible refine drawn hmix (by kernel_rfl) ?_))
   refine ⟨j+1,_,⟨by omega,by omega,rfl⟩,by show p.length - (j+1)<p.length - j;omega,VS.ren [(0,2)] (by simp) (by simp) (by simp) ?_ ?_⟩
   ·rw [up1 (by omega),hsu]
    simp only [go_sem,↓reduceIte,Nat.reduceAdd,Nat.reduceSub,Nat.reduceMul,Nat.reduceEqDiff,Nat.reduceLeDiff,Nat.reduceLT,Int.reduceLE,Int.reduceLT,Int.reduceToNat,Int.reduceEq,List.length_append]
   ·rw [hsu]
    exact reM_w rfl (by rw [←E6];rfl) (ids_Z _)
  ·have fx:=eq_false hx
   rw [if_neg (fun h=>hx h.2),List.append_nil] at hsu
   (repeat ((first | with_reducible refine W.step (b:=false) ?_ | skip);simp only [go_sem,↓reduceIte,Nat.reduceAdd,Nat.reduceSub,Nat.reduceMul,Nat.reduceEqDiff,Nat.reduceLeDiff,Nat.reduceLT,Int.reduceLE,Int.reduceLT,Int.reduceToNat,Int.reduceEq,hjl,rj,fx];try with_reducible refine drawn hmix (by kernel_rfl) ?_))
   refine ⟨j+1,_,⟨by omega,by omega,rfl⟩,by show p.length - (j+1)<p.length - j;omega,?_⟩;rw [up1 (by omega),hsu];exact VS.tm (by simp [leL])
 obtain rfl:j=p.length:=by omega
 have rk:=rowNd hlt;have ek:=ndAt_nat hlt;have hol:=hrl p.length;refine W.vs (s1:=stL [(.sl p.length 5 (p.flatMap encNd)),.any,(.g (.bool false)),.any,(.g (.int .i64 (k:Int))),(.sl (kidsR p p.length k).length 1 ((kidsR p p.length k).flatMap encZ)),(.g (.int .i64 (p.length:Int))),.any,.any,.any,.any,.any,.any,.any,.any,.any,.any,.any,.any,.any,.any,.any,.any,.any,.any,.any,.any,.any,.any,.any,.any,.any,.any,.any,.any,.any,.any,.any,.any,.any,.any,.any,.any,.any,.any,.any,.any,.any,.any,.any,.any,.any,.any,.any,.any,.any,.any,.any,.any,.any,.any,.any,.any,.any,.any,.any,.any,.any,.any,.any,.any,.any,.any,.any,.any,.any,.any,.any,.any,.any,.any,.any,.any,.any,.any,.any,.any,.any,.any,.any,.any,.any] [] 1) ?_ ?_
 ·refine VS.sealT 0 _ rfl (plainZ _) ?_ trivial
  simp only [frL_cons,frL_nil,frA_any,frA_self,and_true,true_and];exact .inr (.inr ⟨0,_,1,_,rfl,by rw [List.drop_zero,Nat.mul_one,takeZ],by rw [lenZ];omega⟩)
 (repeat ((first | with_reducible refine W.step (b:=false) ?_ | skip);simp only [go_sem,↓reduceIte,Nat.reduceAdd,Nat.reduceSub,Nat.reduceMul,Nat.reduceEqDiff,Nat.reduceLeDiff,Nat.reduceLT,Int.reduceLE,Int.reduceLT,Int.reduceToNat,Int.reduceEq,hjl,hlt,rk];try with_reducible refine drawn hmix (by kernel_rfl) ?_))
 refine AtCall.mk (ints_p (kidsR p p.length k) p[k].kids (by omega)) ?_
 by_cases hq:kidsR p p.length k=p[k].kids
 ·rw [decide_eq_true hq]
  (repeat ((first | with_reducible refine W.step (b:=false) ?_ | skip);simp only [go_sem,↓reduceIte,Nat.reduceAdd,Nat.reduceSub,Nat.reduceMul,Nat.reduceEqDiff,Nat.reduceLeDiff,Nat.reduceLT,Int.reduceLE,Int.reduceLT,Int.reduceToNat,Int.reduceEq];try with_reducible refine drawn hmix (by kernel_rfl) ?_))
  refine ⟨k+1,_,⟨by omega,fun i hi=>?_,rfl⟩,by show p.length - (k+1)<p.length - k;omega,?_⟩
  ·rcases Nat.lt_or_ge i k with h3 | h3
   ·exact hsm i h3
   ·obtain rfl:i=k:=by omega
    rw [ek];exact hq.symm
  ·rw [up1 (by omega)]
   exact VS.ren [] (by simp) (by simp) (by simp) (by simp only [go_sem,↓reduceIte,Nat.reduceAdd,Nat.reduceSub,Nat.reduceMul,Nat.reduceEqDiff,Nat.reduceLeDiff,Nat.reduceLT,Int.reduceLE,Int.reduceLT,Int.reduceToNat,Int.reduceEq]) trivial
 ·rw [decide_eq_false hq]
  have hf:(List.range p.length).all (fun k:Nat=>decide ((ndAt p k).kids=kidsR p p.length k))=false:=List.all_eq_false.2 ⟨k,List.mem_range.2 hlt,by rw [ek,decide_eq_false (fun e=>hq e.symm)];decide⟩;rw [hf]
  (repeat ((first | with_reducible refine W.step (b:=false) ?_ | skip);simp only [go_sem,↓reduceIte,Nat.reduceAdd,Nat.reduceSub,Nat.reduceMul,Nat.reduceEqDiff,Nat.reduceLeDiff,Nat.reduceLT,Int.reduceLE,Int.reduceLT,Int.reduceToNat,Int.reduceEq];try with_reducible refine drawn hmix (by kernel_rfl) ?_))
  exact postP_one _ (.inr rfl) rfl (.plain rfl)
attribute [go_sem] appL newsA isSlice
set_option maxRecDepth 100000 in
set_option maxHeartbeats 4000000 in
theorem nth6_p (a b i:Int):PureN Tryz.prog gt0 349 [.g (.int .i64 a),.g (.int .i64 b),.g (.int .i64 i)] (.g (.bool (nthM a b i))):=by
 refine PureN.of_w (c:=_) Tryz.func349 rfl (by kernel_rfl) rfl ?_;simp only [Tryz.f349,List.replicate,List.length_cons,List.length_nil,Nat.reduceAdd,Nat.reduceSub,List.cons_append,List.nil_append];have big:∀ n:Int,bigN n=(decide (n< -1000000000)||decide (1000000000<n)):=fun _=>rfl;have hbig:bigN a=true∨bigN b=true∨bigN i=true→nthM a b i=false:=fun h=>by
  unfold nthM;rcases h with h | h | h <;> rw [h] <;> simp
 by_cases a1:a< -1000000000
 ·have f1:=eq_true a1
  rw [hbig (.inl (by rw [big,decide_eq_true a1,Bool.true_or]))]
  (repeat ((first | with_reducible refine W.step (b:=false) ?_ | skip);simp only [go_sem,↓reduceIte,Nat.reduceAdd,Nat.reduceSub,Nat.reduceMul,Nat.reduceEqDiff,Nat.reduceLeDiff,Nat.reduceLT,Int.reduceLE,Int.reduceLT,Int.reduceToNat,Int.reduceEq,f1];try with_reducible refine drawn hmix (by kernel_rfl) ?_))
  exact postP_one _ (.inr rfl) rfl (.plain rfl)
 by_cases a2:1000000000<a
 ·have f2:=eq_true a2
  rw [hbig (.inl (by rw [big,decide_eq_true a2,Bool.or_true]))]
  (repeat ((first | with_reducible refine W.step (b:=false) ?_ | skip);simp only [go_sem,↓reduceIte,Nat.reduceAdd,Nat.reduceSub,Nat.reduceMul,Nat.reduceEqDiff,Nat.reduceLeDiff,Nat.reduceLT,Int.reduceLE,Int.reduceLT,Int.reduceToNat,Int.reduceEq,a1,f2];try with_reducible refine drawn hmix (by kernel_rfl) ?_))
  exact postP_one _ (.inr rfl) rfl (.plain rfl)
 by_cases b1:b< -1000000000
 ·have f1:=eq_true b1
  rw [hbig (.inr (.inl (by rw [big,decide_eq_true b1,Bool.true_or])))]
  (repeat ((first | with_reducible refine W.step (b:=false) ?_ | skip);simp only [go_sem,↓reduceIte,Nat.reduceAdd,Nat.reduceSub,Nat.reduceMul,Nat.reduceEqDiff,Nat.reduceLeDiff,Nat.reduceLT,Int.reduceLE,Int.reduceLT,Int.reduceToNat,Int.reduceEq,a1,a2,f1];try with_reducible refine drawn hmix (by kernel_rfl) ?_))
  exact postP_one _ (.inr rfl) rfl (.plain rfl)
 by_cases b2:1000000000<b
 ·have f2:=eq_true b2
  rw [hbig (.inr (.inl (by rw [big,decide_eq_true b2,Bool.or_true])))]
  (repeat ((first | with_reducible refine W.step (b:=false) ?_ | skip);simp only [go_sem,↓reduceIte,Nat.reduceAdd,Nat.reduceSub,Nat.reduceMul,Nat.reduceEqDiff,Nat.reduceLeDiff,Nat.reduceLT,Int.reduceLE,Int.reduceLT,Int.reduceToNat,Int.reduceEq,a1,a2,b1,f2];try with_reducible refine drawn hmix (by kernel_rfl) ?_))
  exact postP_one _ (.inr rfl) rfl (.plain rfl)
 by_cases i1:i< -1000000000
 ·have f1:=eq_true i1
  rw [hbig (.inr (.inr (by rw [big,decide_eq_true i1,Bool.true_or])))]
  (repeat ((first | with_reducible refine W.step (b:=false) ?_ | skip);simp only [go_sem,↓reduceIte,Nat.reduceAdd,Nat.reduceSub,Nat.reduceMul,Nat.reduceEqDiff,Nat.reduceLeDiff,Nat.reduceLT,Int.reduceLE,Int.reduceLT,Int.reduceToNat,Int.reduceEq,a1,a2,b1,b2,f1];try with_reducible refine drawn hmix (by kernel_rfl) ?_))
  exact postP_one _ (.inr rfl) rfl (.plain rfl)
 by_cases i2:1000000000<i
 ·have f2:=eq_true i2
  rw [hbig (.inr (.inr (by rw [big,decide_eq_true i2,Bool.or_true])))]
  (repeat ((first | with_reducible refine W.step (b:=false) ?_ | skip);simp only [go_sem,↓reduceIte,Nat.reduceAdd,Nat.reduceSub,Nat.reduceMul,Nat.reduceEqDiff,Nat.reduceLeDiff,Nat.reduceLT,Int.reduceLE,Int.reduceLT,Int.reduceToNat,Int.reduceEq,a1,a2,b1,b2,i1,f2];try with_reducible refine drawn hmix (by kernel_rfl) ?_))
  exact postP_one _ (.inr rfl) rfl (.plain rfl)
 have no:∀ x:Int,¬x< -1000000000→¬1000000000<x→bigN x=false:=fun x h1 h2=>by rw [big,decide_eq_false h1,decide_eq_false h2];rfl
 rw [nth_ref (no a a1 a2) (no b b1 b2) (no i i1 i2)]
 by_cases h0:a=0
 ·have f0:=eq_true h0
  rw [if_pos (.inl h0)]
  (repeat ((first | with_reducible refine W.step (b:=false) ?_ | skip);simp only [go_sem,↓reduceIte,Nat.reduceAdd,Nat.reduceSub,Nat.reduceMul,Nat.reduceEqDiff,Nat.reduceLeDiff,Nat.reduceLT,Int.reduceLE,Int.reduceLT,Int.reduceToNat,Int.reduceEq,a1,a2,b1,b2,i1,i2,f0];try with_reducible refine drawn hmix (by kernel_rfl) ?_))
  exact postP_one _ (.inr rfl) rfl (.plain rfl)
 by_cases he:i=b
 ·have fe:=eq_true he
  rw [if_pos (.inr he),decide_eq_true he]
  (repeat ((first | with_reducible refine W.step (b:=false) ?_ | skip);simp only [go_sem,↓reduceIte,Nat.reduceAdd,Nat.reduceSub,Nat.reduceMul,Nat.reduceEqDiff,Nat.reduceLeDiff,Nat.reduceLT,Int.reduceLE,Int.reduceLT,Int.reduceToNat,Int.reduceEq,a1,a2,b1,b2,i1,i2,h0,fe];try with_reducible refine drawn hmix (by kernel_rfl) ?_))
  exact postP_one _ (.inr rfl) rfl (.plain rfl)
 rw [if_neg (by omega)];have w1:IntKind.i64.wrap (i - b)=i - b:=IntWalk.i64_in _ (by omega);have w2:IntKind.i64.wrap (b - i)=b - i:=IntWalk.i64_in _ (by omega);have w3:IntKind.i64.wrap (0 - a)=-a:=(IntWalk.i64_in _ (by omega)).trans (by omega)
 by_cases hn:a<0
 ·have fn:=eq_true hn
  rw [if_pos hn]
  by_cases hl:i<b
  ·have fl:=eq_true hl
   have fz:(-a=0)=False:=eq_false (by omega);rw [decide_eq_true hl,Bool.true_and]
   (repeat ((first | with_reducible refine W.step (b:=false) ?_ | skip);simp only [go_sem,↓reduceIte,Nat.reduceAdd,Nat.reduceSub,Nat.reduceMul,Nat.reduceEqDiff,Nat.reduceLeDiff,Nat.reduceLT,Int.reduceLE,Int.reduceLT,Int.reduceToNat,Int.reduceEq,a1,a2,b1,b2,i1,i2,h0,he,fn,fl,w1,w2,w3,fz];try with_reducible refine drawn hmix (by kernel_rfl) ?_))
   exact postP_one _ (.inr rfl) rfl (.plain rfl)
  ·rw [decide_eq_false hl,Bool.false_and]
   (repeat ((first | with_reducible refine W.step (b:=false) ?_ | skip);simp only [go_sem,↓reduceIte,Nat.reduceAdd,Nat.reduceSub,Nat.reduceMul,Nat.reduceEqDiff,Nat.reduceLeDiff,Nat.reduceLT,Int.reduceLE,Int.reduceLT,Int.reduceToNat,Int.reduceEq,a1,a2,b1,b2,i1,i2,h0,he,fn,hl];try with_reducible refine drawn hmix (by kernel_rfl) ?_))
   exact postP_one _ (.inr rfl) rfl (.plain rfl)
 ·rw [if_neg hn]
  by_cases hl:b<i
  ·have fl:=eq_true hl
   rw [decide_eq_true hl,Bool.true_and]
   (repeat ((first | with_reducible refine W.step (b:=false) ?_ | skip);simp only [go_sem,↓reduceIte,Nat.reduceAdd,Nat.reduceSub,Nat.reduceMul,Nat.reduceEqDiff,Nat.reduceLeDiff,Nat.reduceLT,Int.reduceLE,Int.reduceLT,Int.reduceToNat,Int.reduceEq,a1,a2,b1,b2,i1,i2,h0,he,hn,fl,w1,w2,w3];try with_reducible refine drawn hmix (by kernel_rfl) ?_))
   exact postP_one _ (.inr rfl) rfl (.plain rfl)
  ·rw [decide_eq_false hl,Bool.false_and]
   (repeat ((first | with_reducible refine W.step (b:=false) ?_ | skip);simp only [go_sem,↓reduceIte,Nat.reduceAdd,Nat.reduceSub,Nat.reduceMul,Nat.reduceEqDiff,Nat.reduceLeDiff,Nat.reduceLT,Int.reduceLE,Int.reduceLT,Int.reduceToNat,Int.reduceEq,a1,a2,b1,b2,i1,i2,h0,he,hn,hl];try with_reducible refine drawn hmix (by kernel_rfl) ?_))
   exact postP_one _ (.inr rfl) rfl (.plain rfl)
theorem wordsL_le:∀ (l cur:List UInt8),(wordsL cur l).length≤l.length+if cur=[] then 0 else 1
 | [],cur=>by rw [wordsL];split <;> simp
 | c::l,cur=>by
   rw [wordsL];have h1:=wordsL_le l [];have h2:=wordsL_le l (cur++[c]);rw [if_pos rfl] at h1;rw [if_neg (by simp)] at h2;rw [List.length_cons]
   split
   ·split
    ·omega
    ·rw [List.length_cons];omega
   ·split <;> omega
theorem classes_le {p:List Nod} {n:Int} (hp:OkPg p):(classesM p n).length≤1000000:=by
 unfold classesM wordsB;rw [List.length_map];have h1:=wordsL_le ((atM p n clsB).getD ⟨#[]⟩).data.toList [];have h2:=at_size hp n clsB;rw [if_pos rfl,Array.length_toList] at h1;exact Nat.le_trans h1 h2
theorem fl_stw:fldO Tryz.prog 152 0=some (0,3):=by kernel_rfl
attribute [go_sem] fl_stw
theorem rowSt2 {l:List Stt} {k:Nat} (hk:k<l.length):(l.flatMap encSt)[k*2]?=some (.g (.int .i64 l[k].node))∧(l.flatMap encSt)[k*2+1]?=some (.g (.string l[k].name)):=by
 have h:=flat_get encSt 2 (fun _=>rfl) l k hk;exact ⟨h 0 (by decide),h 1 (by decide)⟩
set_option maxRecDepth 100000 in
set_option maxHeartbeats 4000000 in
theorem state12_p (l:List Stt) (n:Int) (s:ByteArray) (hl:l.length≤1000000):PureN Tryz.prog gt0 348 [.sl l.length 2 (l.flatMap encSt),.g (.int .i64 n),.g (.string s)] (.g (.bool (l.any fun x=>decide (x.node=n)&&decide (x.name=s)))):=by
 refine PureN.of_w (c:=_) Tryz.func348 rfl (by kernel_rfl) rfl ?_;simp only [Tryz.f348,List.replicate,List.length_cons,List.length_nil,Nat.reduceAdd,Nat.reduceSub,List.cons_append,List.nil_append]
 (repeat ((first | with_reducible refine W.step (b:=false) ?_ | skip);simp only [go_sem,↓reduceIte,Nat.reduceAdd,Nat.reduceSub,Nat.reduceMul,Nat.reduceEqDiff,Nat.reduceLeDiff,Nat.reduceLT,Int.reduceLE,Int.reduceLT,Int.reduceToNat,Int.reduceEq];try with_reducible refine drawn hmix (by kernel_rfl) ?_))
 refine W.loop (s1:=stL [(.sl l.length 2 (l.flatMap encSt)),(.g (.int .i64 n)),(.g (.string s)),.any,.any,.any,(.g (.bool false)),(.g (.int .i64 ((0:Nat):Int))),.any,.any,.any,.any,.any,.any,.any,.any,.any,.any,.any,.any,.any,.any,.any,.any,.any,.any,.any,.any,.any,.any] [] 0)
  (fun (k:Nat) t=>k≤l.length∧(∀ x∈l.take k,(decide (x.node=n)&&decide (x.name=s))=false)∧t=stL [(.sl l.length 2 (l.flatMap encSt)),(.g (.int .i64 n)),(.g (.string s)),.any,.any,.any,(.g (.bool false)),(.g (.int .i64 (k:Int))),.any,.any,.any,.any,.any,.any,.any,.any,.any,.any,.any,.any,.any,.any,.any,.any,.any,.any,.any,.any,.any,.any] [] 0) (fun k=>l.length - k) 0 ⟨Nat.zero_le _,by simp,rfl⟩ (VS.tm (by simp [leL])) ?_
 rintro k t ⟨hk,hno,rfl⟩
 by_cases hlt:k<l.length
 ·have r:=rowSt2 hlt
  have nxt:(decide (l[k].node=n)&&decide (l[k].name=s))=false→∀ x∈l.take (k+1),(decide (x.node=n)&&decide (x.name=s))=false:=fun h=>take_next (pr:=fun x:Stt=>decide (x.node=n)&&decide (x.name=s)) hlt hno h
  by_cases h1:l[k].node=n
  ·have f1:=eq_true h1
   by_cases h2:l[k].name=s
   ·have f2:=eq_true h2
    have ha:(l.any fun x=>decide (x.node=n)&&decide (x.name=s))=true:=List.any_eq_true.2 ⟨l[k],List.getElem_mem hlt,by rw [decide_eq_true h1,decide_eq_true h2];rfl⟩;rw [ha]
    (repeat ((first | with_reducible refine W.step (b:=false) ?_ | skip);simp only [go_sem,↓reduceIte,Nat.reduceAdd,Nat.reduceSub,Nat.reduceMul,Nat.reduceEqDiff,Nat.reduceLeDiff,Nat.reduceLT,Int.reduceLE,Int.reduceLT,Int.reduceToNat,Int.reduceEq,hlt,r,f1,f2];try with_reducible refine drawn hmix (by kernel_rfl) ?_))
    exact postP_one _ (.inr rfl) rfl (.plain rfl)
   ·(repeat ((first | with_reducible refine W.step (b:=false) ?_ | skip);simp only [go_sem,↓reduceIte,Nat.reduceAdd,Nat.reduceSub,Nat.reduceMul,Nat.reduceEqDiff,Nat.reduceLeDiff,Nat.reduceLT,Int.reduceLE,Int.reduceLT,Int.reduceToNat,Int.reduceEq,hlt,r,f1,h2];try with_reducible refine drawn hmix (by kernel_rfl) ?_))
    refine ⟨k+1,_,⟨by omega,nxt (by rw [decide_eq_false h2,Bool.and_false]),rfl⟩,by show l.length - (k+1)<l.length - k;omega,VS.tm ?_⟩;rw [up1 (by omega)];simp [leL]
  ·(repeat ((first | with_reducible refine W.step (b:=false) ?_ | skip);simp only [go_sem,↓reduceIte,Nat.reduceAdd,Nat.reduceSub,Nat.reduceMul,Nat.reduceEqDiff,Nat.reduceLeDiff,Nat.reduceLT,Int.reduceLE,Int.reduceLT,Int.reduceToNat,Int.reduceEq,hlt,r,h1];try with_reducible refine drawn hmix (by kernel_rfl) ?_))
   refine ⟨k+1,_,⟨by omega,nxt (by rw [decide_eq_false h1,Bool.false_and]),rfl⟩,by show l.length - (k+1)<l.length - k;omega,VS.tm ?_⟩;rw [up1 (by omega)];simp [leL]
 ·have ha:(l.any fun x=>decide (x.node=n)&&decide (x.name=s))=false:=List.any_eq_false.2 (fun x hx=>by rw [hno x (by rw [List.take_of_length_le (by omega)];exact hx)];decide)
  rw [ha]
  (repeat ((first | with_reducible refine W.step (b:=false) ?_ | skip);simp only [go_sem,↓reduceIte,Nat.reduceAdd,Nat.reduceSub,Nat.reduceMul,Nat.reduceEqDiff,Nat.reduceLeDiff,Nat.reduceLT,Int.reduceLE,Int.reduceLT,Int.reduceToNat,Int.reduceEq,hlt];try with_reducible refine drawn hmix (by kernel_rfl) ?_))
  exact postP_one _ (.inr rfl) rfl (.plain rfl)
set_option maxRecDepth 100000 in
set_option maxHeartbeats 4000000 in
theorem place12_p (p:List Nod) (n:Int) (hp:OkPg p):PureN Tryz.prog gt0 350 [.sl p.length 5 (p.flatMap encNd),.g (.int .i64 n)] (.g (.int .i64 (placeM p n))):=by
 refine PureN.of_w (c:=_) Tryz.func350 rfl (by kernel_rfl) rfl ?_;simp only [Tryz.f350,List.replicate,List.length_cons,List.length_nil,Nat.reduceAdd,Nat.reduceSub,List.cons_append,List.nil_append]
 (repeat ((first | with_reducible refine W.step (b:=false) ?_ | skip);simp only [go_sem,↓reduceIte,Nat.reduceAdd,Nat.reduceSub,Nat.reduceMul,Nat.reduceEqDiff,Nat.reduceLeDiff,Nat.reduceLT,Int.reduceLE,Int.reduceLT,Int.reduceToNat,Int.reduceEq];try with_reducible refine drawn hmix (by kernel_rfl) ?_))
 refine AtCall.mk (kin10_p p n hp) ?_
 (repeat ((first | with_reducible refine W.step (b:=false) ?_ | skip);simp only [go_sem,↓reduceIte,Nat.reduceAdd,Nat.reduceSub,Nat.reduceMul,Nat.reduceEqDiff,Nat.reduceLeDiff,Nat.reduceLT,Int.reduceLE,Int.reduceLT,Int.reduceToNat,Int.reduceEq];try with_reducible refine drawn hmix (by kernel_rfl) ?_))
 unfold placeM;have hl:=kin_len (n:=n) hp;generalize kinM p n=l at hl ⊢
 refine W.loop (s1:=stL [.any,(.g (.int .i64 n)),.any,.any,(.g (.int .i64 0)),(.sl l.length 1 (l.flatMap encZ)),(.g (.int .i64 ((0:Nat):Int))),.any,.any,.any,.any,.any,.any,.any,.any,.any,.any,.any,.any,.any,.any,.any,.any,.any] [] 0)
  (fun (k:Nat) t=>k≤l.length∧(∀ x∈l.take k,decide (x=n)=false)∧t=stL [.any,(.g (.int .i64 n)),.any,.any,(.g (.int .i64 0)),(.sl l.length 1 (l.flatMap encZ)),(.g (.int .i64 (k:Int))),.any,.any,.any,.any,.any,.any,.any,.any,.any,.any,.any,.any,.any,.any,.any,.any,.any] [] 0) (fun k=>l.length - k) 0 ⟨Nat.zero_le _,by simp,rfl⟩ (VS.tm (by simp [leL])) ?_
 rintro k t ⟨hk,hno,rfl⟩
 by_cases hlt:k<l.length
 ·have r:=rowZ hlt
  have hfin:IntKind.i64.wrap ((k:Int)+1)=((k+1:Nat):Int):=up1 (by omega)
  by_cases hx:l[k]=n
  ·have fx:=eq_true hx
   rw [idxL_hit hlt hno (decide_eq_true hx),show 1+(k:Int)=((k+1:Nat):Int) by omega]
   (repeat ((first | with_reducible refine W.step (b:=false) ?_ | skip);simp only [go_sem,↓reduceIte,Nat.reduceAdd,Nat.reduceSub,Nat.reduceMul,Nat.reduceEqDiff,Nat.reduceLeDiff,Nat.reduceLT,Int.reduceLE,Int.reduceLT,Int.reduceToNat,Int.reduceEq,hlt,r,fx,hfin];try with_reducible refine drawn hmix (by kernel_rfl) ?_))
   exact postP_one _ (.inr rfl) rfl (.plain rfl)
  ·(repeat ((first | with_reducible refine W.step (b:=false) ?_ | skip);simp only [go_sem,↓reduceIte,Nat.reduceAdd,Nat.reduceSub,Nat.reduceMul,Nat.reduceEqDiff,Nat.reduceLeDiff,Nat.reduceLT,Int.reduceLE,Int.reduceLT,Int.reduceToNat,Int.reduceEq,hlt,r,hx];try with_reducible refine drawn hmix (by kernel_rfl) ?_))
   refine ⟨k+1,_,⟨by omega,take_next (pr:=fun x:Int=>decide (x=n)) hlt hno (decide_eq_false hx),rfl⟩,by show l.length - (k+1)<l.length - k;omega,VS.tm ?_⟩;rw [hfin];simp [leL]
 ·rw [idxL_none (fun x hx=>hno x (by rw [List.take_of_length_le (by omega)];exact hx))]
  (repeat ((first | with_reducible refine W.step (b:=false) ?_ | skip);simp only [go_sem,↓reduceIte,Nat.reduceAdd,Nat.reduceSub,Nat.reduceMul,Nat.reduceEqDiff,Nat.reduceLeDiff,Nat.reduceLT,Int.reduceLE,Int.reduceLT,Int.reduceToNat,Int.reduceEq,hlt];try with_reducible refine drawn hmix (by kernel_rfl) ?_))
  exact postP_one _ (.inr rfl) rfl (.plain rfl)
set_option maxRecDepth 100000 in
set_option maxHeartbeats 4000000 in
theorem holds12_p (p:List Nod) (st:List Stt) (n:Int) (hp:OkPg p) (hs:st.length≤1000000) (he:elemB p n=true) (N:Nat):∀ (x:Simp),SizeOf.sizeOf x≤N→okS x→PureN Tryz.prog gt0 321 [.sl p.length 5 (p.flatMap encNd),.sl st.length 2 (st.flatMap encSt),.g (.int .i64 n),.agg (encS x)] (.g (.bool (holdsS p st n x))):=by
 induction N with
 | zero=>intro x hl;cases x;simp at hl
 | succ N ih =>
   rintro ⟨kind,name,value,a,b,l⟩ hl hok;have IH:∀ y∈l,PureN Tryz.prog gt0 321 [.sl p.length 5 (p.flatMap encNd),.sl st.length 2 (st.flatMap encSt),.g (.int .i64 n),.agg (encS y)] (.g (.bool (holdsS p st n y))):=fun y hy=>by
    have h1:=List.sizeOf_lt_of_mem hy;have h2:=okL_mem hok.2 y hy;rw [Simp.mk.sizeOf_spec] at hl;exact ih y (by omega) h2
   refine PureN.of_w (c:=_) Tryz.func321 rfl (by kernel_rfl) (by simp [noIdsL,noIds,noIds_S]) ?_;simp only [Tryz.f321,List.replicate,List.length_cons,List.length_nil,Nat.reduceAdd,Nat.reduceSub,List.cons_append,List.nil_append,encS_m,holdsS];obtain ⟨k,rfl,hk,hnd⟩:=at_nat he;have r:=rowNd hk
   by_cases h1:kind=1
   ·have f1:=eq_true h1
    rw [if_pos h1]
    (repeat ((first | with_reducible refine W.step (b:=false) ?_ | skip);simp only [go_sem,↓reduceIte,Nat.reduceAdd,Nat.reduceSub,Nat.reduceMul,Nat.reduceEqDiff,Nat.reduceLeDiff,Nat.reduceLT,Int.reduceLE,Int.reduceLT,Int.reduceToNat,Int.reduceEq,f1];try with_reducible refine drawn hmix (by kernel_rfl) ?_))
    exact postP_one _ (.inr rfl) rfl (.plain rfl)
   have f1:=eq_false h1;rw [if_neg h1]
   by_cases h2:kind=2
   ·have f2:=eq_true h2
    rw [if_pos h2,hnd]
    (repeat ((first | with_reducible refine W.step (b:=false) ?_ | skip);simp only [go_sem,↓reduceIte,Nat.reduceAdd,Nat.reduceSub,Nat.reduceMul,Nat.reduceEqDiff,Nat.reduceLeDiff,Nat.reduceLT,Int.reduceLE,Int.reduceLT,Int.reduceToNat,Int.reduceEq,f1,f2,hk,r];try with_reducible refine drawn hmix (by kernel_rfl) ?_))
    exact postP_one _ (.inr rfl) rfl (.plain rfl)
   have f2:=eq_false h2;rw [if_neg h2]
   by_cases h3:kind=3
   ·have f3:=eq_true h3
    rw [if_pos h3,attr_one]
    (repeat ((first | with_reducible refine W.step (b:=false) ?_ | skip);simp only [go_sem,↓reduceIte,Nat.reduceAdd,Nat.reduceSub,Nat.reduceMul,Nat.reduceEqDiff,Nat.reduceLeDiff,Nat.reduceLT,Int.reduceLE,Int.reduceLT,Int.reduceToNat,Int.reduceEq,f1,f2,f3];try with_reducible refine drawn hmix (by kernel_rfl) ?_))
    refine AtCall.mk (attr10_p p k idB hp) ?_
    cases hv:atM p k idB with
    | none =>
      (repeat ((first | with_reducible refine W.step (b:=false) ?_ | skip);simp only [go_sem,↓reduceIte,Nat.reduceAdd,Nat.reduceSub,Nat.reduceMul,Nat.reduceEqDiff,Nat.reduceLeDiff,Nat.reduceLT,Int.reduceLE,Int.reduceLT,Int.reduceToNat,Int.reduceEq];try with_reducible refine drawn hmix (by kernel_rfl) ?_))
      exact postP_one _ (.inr rfl) rfl (.plain rfl)
    | some v =>
      (repeat ((first | with_reducible refine W.step (b:=false) ?_ | skip);simp only [go_sem,↓reduceIte,Nat.reduceAdd,Nat.reduceSub,Nat.reduceMul,Nat.reduceEqDiff,Nat.reduceLeDiff,Nat.reduceLT,Int.reduceLE,Int.reduceLT,Int.reduceToNat,Int.reduceEq];try with_reducible refine drawn hmix (by kernel_rfl) ?_))
      exact postP_one _ (.inr rfl) rfl (.plain rfl)
   have f3:=eq_false h3;rw [if_neg h3]
   by_cases h4:kind=4
   ·have f4:=eq_true h4
    rw [if_pos h4]
    (repeat ((first | with_reducible refine W.step (b:=false) ?_ | skip);simp only [go_sem,↓reduceIte,Nat.reduceAdd,Nat.reduceSub,Nat.reduceMul,Nat.reduceEqDiff,Nat.reduceLeDiff,Nat.reduceLT,Int.reduceLE,Int.reduceLT,Int.reduceToNat,Int.reduceEq,f1,f2,f3,f4];try with_reducible refine drawn hmix (by kernel_rfl) ?_))
    refine AtCallQ.mk (classes10_p p k hp) ?_
    (repeat ((first | with_reducible refine W.step (b:=false) ?_ | skip);simp only [go_sem,↓reduceIte,Nat.reduceAdd,Nat.reduceSub,Nat.reduceMul,Nat.reduceEqDiff,Nat.reduceLeDiff,Nat.reduceLT,Int.reduceLE,Int.reduceLT,Int.reduceToNat,Int.reduceEq];try with_reducible refine drawn hmix (by kernel_rfl) ?_))
    refine AtCallQ.mk (in11w_p (classesM p k) name (classes_le hp)) ?_
    (repeat ((first | with_reducible refine W.step (b:=false) ?_ | skip);simp only [go_sem,↓reduceIte,Nat.reduceAdd,Nat.reduceSub,Nat.reduceMul,Nat.reduceEqDiff,Nat.reduceLeDiff,Nat.reduceLT,Int.reduceLE,Int.reduceLT,Int.reduceToNat,Int.reduceEq];try with_reducible refine drawn hmix (by kernel_rfl) ?_))
    exact postP_one _ (.inr rfl) rfl (.plain rfl)
   have f4:=eq_false h4;rw [if_neg h4]
   by_cases h5:kind=5
   ·have f5:=eq_true h5
    rw [if_pos h5,attr_none]
    (repeat ((first | with_reducible refine W.step (b:=false) ?_ | skip);simp only [go_sem,↓reduceIte,Nat.reduceAdd,Nat.reduceSub,Nat.reduceMul,Nat.reduceEqDiff,Nat.reduceLeDiff,Nat.reduceLT,Int.reduceLE,Int.reduceLT,Int.reduceToNat,Int.reduceEq,f1,f2,f3,f4,f5];try with_reducible refine drawn hmix (by kernel_rfl) ?_))
    refine AtCall.mk (attr10_p p k name hp) ?_
    (repeat ((first | with_reducible refine W.step (b:=false) ?_ | skip);simp only [go_sem,↓reduceIte,Nat.reduceAdd,Nat.reduceSub,Nat.reduceMul,Nat.reduceEqDiff,Nat.reduceLeDiff,Nat.reduceLT,Int.reduceLE,Int.reduceLT,Int.reduceToNat,Int.reduceEq];try with_reducible refine drawn hmix (by kernel_rfl) ?_))
    exact postP_one _ (.inr rfl) rfl (.plain rfl)
   have f5:=eq_false h5;rw [if_neg h5]
   by_cases h6:kind=6
   ·have f6:=eq_true h6
    rw [if_pos h6,attr_one]
    (repeat ((first | with_reducible refine W.step (b:=false) ?_ | skip);simp only [go_sem,↓reduceIte,Nat.reduceAdd,Nat.reduceSub,Nat.reduceMul,Nat.reduceEqDiff,Nat.reduceLeDiff,Nat.reduceLT,Int.reduceLE,Int.reduceLT,Int.reduceToNat,Int.reduceEq,f1,f2,f3,f4,f5,f6];try with_reducible refine drawn hmix (by kernel_rfl) ?_))
    refine AtCall.mk (attr10_p p k name hp) ?_
    cases hv:atM p k name with
    | none =>
      (repeat ((first | with_reducible refine W.step (b:=false) ?_ | skip);simp only [go_sem,↓reduceIte,Nat.reduceAdd,Nat.reduceSub,Nat.reduceMul,Nat.reduceEqDiff,Nat.reduceLeDiff,Nat.reduceLT,Int.reduceLE,Int.reduceLT,Int.reduceToNat,Int.reduceEq];try with_reducible refine drawn hmix (by kernel_rfl) ?_))
      exact postP_one _ (.inr rfl) rfl (.plain rfl)
    | some v =>
      (repeat ((first | with_reducible refine W.step (b:=false) ?_ | skip);simp only [go_sem,↓reduceIte,Nat.reduceAdd,Nat.reduceSub,Nat.reduceMul,Nat.reduceEqDiff,Nat.reduceLeDiff,Nat.reduceLT,Int.reduceLE,Int.reduceLT,Int.reduceToNat,Int.reduceEq];try with_reducible refine drawn hmix (by kernel_rfl) ?_))
      exact postP_one _ (.inr rfl) rfl (.plain rfl)
   have f6:=eq_false h6;rw [if_neg h6]
   by_cases h7:kind=7
   ·have f7:=eq_true h7
    rw [if_pos h7]
    (repeat ((first | with_reducible refine W.step (b:=false) ?_ | skip);simp only [go_sem,↓reduceIte,Nat.reduceAdd,Nat.reduceSub,Nat.reduceMul,Nat.reduceEqDiff,Nat.reduceLeDiff,Nat.reduceLT,Int.reduceLE,Int.reduceLT,Int.reduceToNat,Int.reduceEq,f1,f2,f3,f4,f5,f6,f7];try with_reducible refine drawn hmix (by kernel_rfl) ?_))
    refine AtCall.mk (state12_p st k name hs) ?_
    (repeat ((first | with_reducible refine W.step (b:=false) ?_ | skip);simp only [go_sem,↓reduceIte,Nat.reduceAdd,Nat.reduceSub,Nat.reduceMul,Nat.reduceEqDiff,Nat.reduceLeDiff,Nat.reduceLT,Int.reduceLE,Int.reduceLT,Int.reduceToNat,Int.reduceEq];try with_reducible refine drawn hmix (by kernel_rfl) ?_))
    exact postP_one _ (.inr rfl) rfl (.plain rfl)
   have f7:=eq_false h7;rw [if_neg h7]
   by_cases h8:kind=8
   ·have f8:=eq_true h8
    rw [if_pos h8]
    (repeat ((first | with_reducible refine W.step (b:=false) ?_ | skip);simp only [go_sem,↓reduceIte,Nat.reduceAdd,Nat.reduceSub,Nat.reduceMul,Nat.reduceEqDiff,Nat.reduceLeDiff,Nat.reduceLT,Int.reduceLE,Int.reduceLT,Int.reduceToNat,Int.reduceEq,f1,f2,f3,f4,f5,f6,f7,f8];try with_reducible refine drawn hmix (by kernel_rfl) ?_))
    refine AtCallQ.mk (place12_p p k hp) ?_
    (repeat ((first | with_reducible refine W.step (b:=false) ?_ | skip);simp only [go_sem,↓reduceIte,Nat.reduceAdd,Nat.reduceSub,Nat.reduceMul,Nat.reduceEqDiff,Nat.reduceLeDiff,Nat.reduceLT,Int.reduceLE,Int.reduceLT,Int.reduceToNat,Int.reduceEq];try with_reducible refine drawn hmix (by kernel_rfl) ?_))
    refine AtCallQ.mk (nth6_p a b (placeM p k)) ?_
    (repeat ((first | with_reducible refine W.step (b:=false) ?_ | skip);simp only [go_sem,↓reduceIte,Nat.reduceAdd,Nat.reduceSub,Nat.reduceMul,Nat.reduceEqDiff,Nat.reduceLeDiff,Nat.reduceLT,Int.reduceLE,Int.reduceLT,Int.reduceToNat,Int.reduceEq];try with_reducible refine drawn hmix (by kernel_rfl) ?_))
    exact postP_one _ (.inr rfl) rfl (.plain rfl)
   have f8:=eq_false h8;rw [if_neg h8]
   by_cases h9:kind=9
   ·have f9:=eq_true h9
    rw [if_pos h9,hnd]
    by_cases hu:p[k].up=0
    ·have fu:=eq_true hu
     (repeat ((first | with_reducible refine W.step (b:=false) ?_ | skip);simp only [go_sem,↓reduceIte,Nat.reduceAdd,Nat.reduceSub,Nat.reduceMul,Nat.reduceEqDiff,Nat.reduceLeDiff,Nat.reduceLT,Int.reduceLE,Int.reduceLT,Int.reduceToNat,Int.reduceEq,f1,f2,f3,f4,f5,f6,f7,f8,f9,fu,hk,r];try with_reducible refine drawn hmix (by kernel_rfl) ?_))
     refine AtCall.mk (place12_p p k hp) ?_
     (repeat ((first | with_reducible refine W.step (b:=false) ?_ | skip);simp only [go_sem,↓reduceIte,Nat.reduceAdd,Nat.reduceSub,Nat.reduceMul,Nat.reduceEqDiff,Nat.reduceLeDiff,Nat.reduceLT,Int.reduceLE,Int.reduceLT,Int.reduceToNat,Int.reduceEq];try with_reducible refine drawn hmix (by kernel_rfl) ?_))
     exact postP_one _ (.inr rfl) rfl (.plain rfl)
    ·have fu:=eq_false hu
     (repeat ((first | with_reducible refine W.step (b:=false) ?_ | skip);simp only [go_sem,↓reduceIte,Nat.reduceAdd,Nat.reduceSub,Nat.reduceMul,Nat.reduceEqDiff,Nat.reduceLeDiff,Nat.reduceLT,Int.reduceLE,Int.reduceLT,Int.reduceToNat,Int.reduceEq,f1,f2,f3,f4,f5,f6,f7,f8,f9,fu,hk,r];try with_reducible refine drawn hmix (by kernel_rfl) ?_))
     exact postP_one _ (.inr rfl) rfl (.plain rfl)
   have f9:=eq_false h9;rw [if_neg h9]
   by_cases h10:kind=10
   ·have f10:=eq_true h10
    rw [if_pos h10,hnd];have fz:(p[k].kids.length:Int)=0↔p[k].kids=[]:=by rw [←List.length_eq_zero_iff];omega
    have fz2:decide ((p[k].kids.length:Int)=0)=decide (p[k].kids=[]):=by rw [Bool.eq_iff_iff];simp only [decide_eq_true_eq];exact fz
    (repeat ((first | with_reducible refine W.step (b:=false) ?_ | skip);simp only [go_sem,↓reduceIte,Nat.reduceAdd,Nat.reduceSub,Nat.reduceMul,Nat.reduceEqDiff,Nat.reduceLeDiff,Nat.reduceLT,Int.reduceLE,Int.reduceLT,Int.reduceToNat,Int.reduceEq,f1,f2,f3,f4,f5,f6,f7,f8,f9,f10,hk,r,fz2];try with_reducible refine drawn hmix (by kernel_rfl) ?_))
    exact postP_one _ (.inr rfl) rfl (.plain rfl)
   have f10:=eq_false h10;rw [if_neg h10]
   by_cases h11:kind=11
   ·have f11:=eq_true h11
    rw [if_pos h11,anyS_eq]
    (repeat ((first | with_reducible refine W.step (b:=false) ?_ | skip);simp only [go_sem,↓reduceIte,Nat.reduceAdd,Nat.reduceSub,Nat.reduceMul,Nat.reduceEqDiff,Nat.reduceLeDiff,Nat.reduceLT,Int.reduceLE,Int.reduceLT,Int.reduceToNat,Int.reduceEq,f1,f2,f3,f4,f5,f6,f7,f8,f9,f10,f11];try with_reducible refine drawn hmix (by kernel_rfl) ?_))
    have hll:=hok.1
    refine W.loop (s1:=stL [(.sl p.length 5 (p.flatMap encNd)),(.sl st.length 2 (st.flatMap encSt)),(.g (.int .i64 (k:Int))),.any,.any,.any,.any,(.ptr 0 0),(.g (.bool false)),.any,.any,.any,.any,.any,.any,(.g (.int .i64 ((0:Nat):Int))),.any,.any,.any,.any,.any,.any,.any,.any,.any,.any,.any,.any,.any,.any,.any,.any,.any,.any,.any,.any,.any,.any,.any,.any,.any,.any,.any,.any,.any,.any,.any,.any,.any,.any,.any,.any,.any,.any,.any,.any,.any,.any,.any,.any,.any,.any,.any,.any,.any,.any,.any,.any,.any,.any,.any,.any,.any,.any,.any,.any,.any,.any,.any,.any,.any,.any,.any,.any,.any,.any,.any,.any,.any,.any,.any,.any,.any,.any,.any,.any,.any,.any,.any,.any,.any,.any,.any,.any,.any,.any,.any,.any,.any,.any,.any,.any,.any,.any,.any,.any,.any,.any,.any,.any,.any,.any,.any,.any,.any,.any,.any,.any,.any,.any,.any,.any,.any,.any,.any,.any,.any,.any,.any] [(0,.cells [.g (.int .i64 kind),.g (.string name),.g (.string value),.g (.int .i64 a),.g (.int .i64 b),.sl l.length 6 (l.flatMap encS)])] 1)
     (fun (i:Nat) t=>i≤l.length∧(∀ x∈l.take i,holdsS p st k x=false)∧t=stL [(.sl p.length 5 (p.flatMap encNd)),(.sl st.length 2 (st.flatMap encSt)),(.g (.int .i64 (k:Int))),.any,.any,.any,.any,(.ptr 0 0),(.g (.bool false)),.any,.any,.any,.any,.any,.any,(.g (.int .i64 (i:Int))),.any,.any,.any,.any,.any,.any,.any,.any,.any,.any,.any,.any,.any,.any,.any,.any,.any,.any,.any,.any,.any,.any,.any,.any,.any,.any,.any,.any,.any,.any,.any,.any,.any,.any,.any,.any,.any,.any,.any,.any,.any,.any,.any,.any,.any,.any,.any,.any,.any,.any,.any,.any,.any,.any,.any,.any,.any,.any,.any,.any,.any,.any,.any,.any,.any,.any,.any,.any,.any,.any,.any,.any,.any,.any,.any,.any,.any,.any,.any,.any,.any,.any,.any,.any,.any,.any,.any,.any,.any,.any,.any,.any,.any,.any,.any,.any,.any,.any,.any,.any,.any,.any,.any,.any,.any,.any,.any,.any,.any,.any,.any,.any,.any,.any,.any,.any,.any,.any,.any,.any,.any,.any,.any] [(0,.cells [.g (.int .i64 kind),.g (.string name),.g (.string value),.g (.int .i64 a),.g (.int .i64 b),.sl l.length 6 (l.flatMap encS)])] 1) (fun i=>l.length - i) 0 ⟨Nat.zero_le _,by simp,rfl⟩ (VS.tm (by simp [leL])) ?_
    rintro i t ⟨hi,hno,rfl⟩
    by_cases hlt:i<l.length
    ·obtain ⟨r1,r2⟩:=rowS6 hlt
     (repeat ((first | with_reducible refine W.step (b:=false) ?_ | skip);simp only [go_sem,↓reduceIte,Nat.reduceAdd,Nat.reduceSub,Nat.reduceMul,Nat.reduceEqDiff,Nat.reduceLeDiff,Nat.reduceLT,Int.reduceLE,Int.reduceLT,Int.reduceToNat,Int.reduceEq,hlt,r1,r2];try with_reducible refine drawn hmix (by kernel_rfl) ?_))
     refine AtCall.mk (IH l[i] (List.getElem_mem hlt)) ?_
     cases hx:holdsS p st k l[i] with
     | true =>
       have ha:l.any (holdsS p st k)=true:=List.any_eq_true.2 ⟨l[i],List.getElem_mem hlt,hx⟩;rw [ha]
       (repeat ((first | with_reducible refine W.step (b:=false) ?_ | skip);simp only [go_sem,↓reduceIte,Nat.reduceAdd,Nat.reduceSub,Nat.reduceMul,Nat.reduceEqDiff,Nat.reduceLeDiff,Nat.reduceLT,Int.reduceLE,Int.reduceLT,Int.reduceToNat,Int.reduceEq];try with_reducible refine drawn hmix (by kernel_rfl) ?_))
       exact postP_one _ (.inr rfl) rfl (.plain rfl)
     | false =>
       (repeat ((first | with_reducible refine W.step (b:=false) ?_ | skip);simp only [go_sem,↓reduceIte,Nat.reduceAdd,Nat.reduceSub,Nat.reduceMul,Nat.reduceEqDiff,Nat.reduceLeDiff,Nat.reduceLT,Int.reduceLE,Int.reduceLT,Int.reduceToNat,Int.reduceEq];try with_reducible refine drawn hmix (by kernel_rfl) ?_))
       refine ⟨i+1,_,⟨by omega,take_next hlt hno hx,rfl⟩,by show l.length - (i+1)<l.length - i;omega,VS.tm ?_⟩;rw [up1 (by omega)];simp [leL]
    ·have ha:l.any (holdsS p st k)=false:=List.any_eq_false.2 (fun x hx=>by rw [hno x (by rw [List.take_of_length_le (by omega)];exact hx)];decide)
     rw [ha]
     (repeat ((first | with_reducible refine W.step (b:=false) ?_ | skip);simp only [go_sem,↓reduceIte,Nat.reduceAdd,Nat.reduceSub,Nat.reduceMul,Nat.reduceEqDiff,Nat.reduceLeDiff,Nat.reduceLT,Int.reduceLE,Int.reduceLT,Int.reduceToNat,Int.reduceEq,hlt];try with_reducible refine drawn hmix (by kernel_rfl) ?_))
     exact postP_one _ (.inr rfl) rfl (.plain rfl)
   have f11:=eq_false h11;rw [if_neg h11]
   (repeat ((first | with_reducible refine W.step (b:=false) ?_ | skip);simp only [go_sem,↓reduceIte,Nat.reduceAdd,Nat.reduceSub,Nat.reduceMul,Nat.reduceEqDiff,Nat.reduceLeDiff,Nat.reduceLT,Int.reduceLE,Int.reduceLT,Int.reduceToNat,Int.reduceEq,f1,f2,f3,f4,f5,f6,f7,f8,f9,f10,f11];try with_reducible refine drawn hmix (by kernel_rfl) ?_))
   exact postP_one _ (.inr rfl) rfl (.plain rfl)
set_option maxRecDepth 100000 in
set_option maxHeartbeats 4000000 in
theorem each12_p (p:List Nod) (st:List Stt) (n:Int) (l:List Simp) (hp:OkPg p) (hs:st.length≤1000000) (he:elemB p n=true) (hl:l.length≤1000000) (hok:∀ x∈l,okS x):PureN Tryz.prog gt0 284 [.sl p.length 5 (p.flatMap encNd),.sl st.length 2 (st.flatMap encSt),.g (.int .i64 n),.sl l.length 6 (l.flatMap encS)] (.g (.bool (l.all (holdsS p st n)))):=by
 refine PureN.of_w (c:=_) Tryz.func284 rfl (by kernel_rfl) rfl ?_;simp only [Tryz.f284,List.replicate,List.length_cons,List.length_nil,Nat.reduceAdd,Nat.reduceSub,List.cons_append,List.nil_append]
 (repeat ((first | with_reducible refine W.step (b:=false) ?_ | skip);simp only [go_sem,↓reduceIte,Nat.reduceAdd,Nat.reduceSub,Nat.reduceMul,Nat.reduceEqDiff,Nat.reduceLeDiff,Nat.reduceLT,Int.reduceLE,Int.reduceLT,Int.reduceToNat,Int.reduceEq];try with_reducible refine drawn hmix (by kernel_rfl) ?_))
 refine W.loop (s1:=stL [(.sl p.length 5 (p.flatMap encNd)),(.sl st.length 2 (st.flatMap encSt)),(.g (.int .i64 n)),(.sl l.length 6 (l.flatMap encS)),.any,.any,.any,.any,(.g (.bool false)),(.g (.int .i64 ((0:Nat):Int))),.any,.any,.any,.any,.any,.any,.any,.any,.any,.any,.any,.any,.any,.any,.any] [] 0)
  (fun (i:Nat) t=>i≤l.length∧(∀ x∈l.take i,(!holdsS p st n x)=false)∧t=stL [(.sl p.length 5 (p.flatMap encNd)),(.sl st.length 2 (st.flatMap encSt)),(.g (.int .i64 n)),(.sl l.length 6 (l.flatMap encS)),.any,.any,.any,.any,(.g (.bool false)),(.g (.int .i64 (i:Int))),.any,.any,.any,.any,.any,.any,.any,.any,.any,.any,.any,.any,.any,.any,.any] [] 0) (fun i=>l.length - i) 0 ⟨Nat.zero_le _,by simp,rfl⟩ (VS.tm (by simp [leL])) ?_
 rintro i t ⟨hi,hno,rfl⟩
 by_cases hlt:i<l.length
 ·obtain ⟨r1,r2⟩:=rowS6 hlt
  (repeat ((first | with_reducible refine W.step (b:=false) ?_ | skip);simp only [go_sem,↓reduceIte,Nat.reduceAdd,Nat.reduceSub,Nat.reduceMul,Nat.reduceEqDiff,Nat.reduceLeDiff,Nat.reduceLT,Int.reduceLE,Int.reduceLT,Int.reduceToNat,Int.reduceEq,hlt,r1,r2];try with_reducible refine drawn hmix (by kernel_rfl) ?_))
  refine AtCall.mk (holds12_p p st n hp hs he _ l[i] (Nat.le_refl _) (hok _ (List.getElem_mem hlt))) ?_
  cases hx:holdsS p st n l[i] with
  | false =>
    have ha:l.all (holdsS p st n)=false:=List.all_eq_false.2 ⟨l[i],List.getElem_mem hlt,by rw [hx];decide⟩;rw [ha]
    (repeat ((first | with_reducible refine W.step (b:=false) ?_ | skip);simp only [go_sem,↓reduceIte,Nat.reduceAdd,Nat.reduceSub,Nat.reduceMul,Nat.reduceEqDiff,Nat.reduceLeDiff,Nat.reduceLT,Int.reduceLE,Int.reduceLT,Int.reduceToNat,Int.reduceEq];try with_reducible refine drawn hmix (by kernel_rfl) ?_))
    exact postP_one _ (.inr rfl) rfl (.plain rfl)
  | true =>
    (repeat ((first | with_reducible refine W.step (b:=false) ?_ | skip);simp only [go_sem,↓reduceIte,Nat.reduceAdd,Nat.reduceSub,Nat.reduceMul,Nat.reduceEqDiff,Nat.reduceLeDiff,Nat.reduceLT,Int.reduceLE,Int.reduceLT,Int.reduceToNat,Int.reduceEq];try with_reducible refine drawn hmix (by kernel_rfl) ?_))
    refine ⟨i+1,_,⟨by omega,take_next (pr:=fun x=>!holdsS p st n x) hlt hno (by simp only [hx];rfl),rfl⟩,by show l.length - (i+1)<l.length - i;omega,VS.tm ?_⟩;rw [up1 (by omega)];simp [leL]
 ·have ha:l.all (holdsS p st n)=true:=List.all_eq_true.2 (fun x hx=>by have:=hno x (by rw [List.take_of_length_le (by omega)];exact hx);simpa using this)
  rw [ha]
  (repeat ((first | with_reducible refine W.step (b:=false) ?_ | skip);simp only [go_sem,↓reduceIte,Nat.reduceAdd,Nat.reduceSub,Nat.reduceMul,Nat.reduceEqDiff,Nat.reduceLeDiff,Nat.reduceLT,Int.reduceLE,Int.reduceLT,Int.reduceToNat,Int.reduceEq,hlt];try with_reducible refine drawn hmix (by kernel_rfl) ?_))
  exact postP_one _ (.inr rfl) rfl (.plain rfl)
set_option maxRecDepth 100000 in
set_option maxHeartbeats 4000000 in
theorem in12_p (p:List Nod) (n m:Nat) (hT:TreeP p) (hn:n<p.length) (hm:0<m):PureN Tryz.prog gt0 351 [.sl p.length 5 (p.flatMap encNd),.g (.int .i64 (n:Int)),.g (.int .i64 (m:Int))] (.g (.bool (decide (m∈aboveM p n)))):=by
 refine PureN.of_w (c:=_) Tryz.func351 rfl (by kernel_rfl) rfl ?_;simp only [Tryz.f351,List.replicate,List.length_cons,List.length_nil,Nat.reduceAdd,Nat.reduceSub,List.cons_append,List.nil_append]
 (repeat ((first | with_reducible refine W.step (b:=false) ?_ | skip);simp only [go_sem,↓reduceIte,Nat.reduceAdd,Nat.reduceSub,Nat.reduceMul,Nat.reduceEqDiff,Nat.reduceLeDiff,Nat.reduceLT,Int.reduceLE,Int.reduceLT,Int.reduceToNat,Int.reduceEq];try with_reducible refine drawn hmix (by kernel_rfl) ?_))
 refine W.loop (s1:=stL [(.sl p.length 5 (p.flatMap encNd)),(.g (.int .i64 (n:Int))),(.g (.int .i64 (m:Int))),.any,.any,.any,(.g (.bool false)),.any,.any,.any,.any,.any,.any,.any,.any,.any,.any] [] 0)
  (fun (u:Nat) t=>u<p.length∧(m∈aboveM p n↔m∈aboveM p u)∧t=stL [(.sl p.length 5 (p.flatMap encNd)),(.g (.int .i64 (u:Int))),(.g (.int .i64 (m:Int))),.any,.any,.any,(.g (.bool false)),.any,.any,.any,.any,.any,.any,.any,.any,.any,.any] [] 0) (fun u=>u) n ⟨hn,Iff.rfl,rfl⟩ (VS.tm (by simp [leL])) ?_
 rintro u t ⟨hu,hiff,rfl⟩
 by_cases h0:0<u
 ·have f0:((0:Int)<(u:Int))=True:=eq_true (by omega)
  have r:=rowNd hu;obtain ⟨g1,g2⟩:=hT.up u h0 hu;have hst:=above_step (p:=p) u;rw [ndAt_nat hu] at g1 g2 hst;obtain ⟨v,hv⟩:∃ v:Nat,p[u].up=v:=⟨p[u].up.toNat,by omega⟩;rw [hv] at r hst g2;rw [Int.toNat_natCast] at hst
  by_cases hx:v=m
  ·have fx:((v:Int)=(m:Int))=True:=eq_true (by omega)
   have ha:m∈aboveM p n:=hiff.2 (by rw [hst,if_pos ⟨by omega,by omega⟩,hx];exact List.mem_cons_self);rw [decide_eq_true ha]
   (repeat ((first | with_reducible refine W.step (b:=false) ?_ | skip);simp only [go_sem,↓reduceIte,Nat.reduceAdd,Nat.reduceSub,Nat.reduceMul,Nat.reduceEqDiff,Nat.reduceLeDiff,Nat.reduceLT,Int.reduceLE,Int.reduceLT,Int.reduceToNat,Int.reduceEq,f0,h0,hu,r,fx,hx];try with_reducible refine drawn hmix (by kernel_rfl) ?_))
   exact postP_one _ (.inr rfl) rfl (.plain rfl)
  ·have fx:((v:Int)=(m:Int))=False:=eq_false (by omega)
   (repeat ((first | with_reducible refine W.step (b:=false) ?_ | skip);simp only [go_sem,↓reduceIte,Nat.reduceAdd,Nat.reduceSub,Nat.reduceMul,Nat.reduceEqDiff,Nat.reduceLeDiff,Nat.reduceLT,Int.reduceLE,Int.reduceLT,Int.reduceToNat,Int.reduceEq,f0,h0,hu,r,fx,hx];try with_reducible refine drawn hmix (by kernel_rfl) ?_))
   refine ⟨v,_,⟨by omega,hiff.trans ?_,rfl⟩,by show v<u;omega,VS.tm (by simp [leL])⟩;rw [hst]
   by_cases hv0:0<v
   ·rw [if_pos ⟨by omega,by omega⟩,List.mem_cons]
    exact ⟨fun h=>h.resolve_left (fun e=>hx e.symm),.inr⟩
   ·rw [if_neg (by omega)]
    refine ⟨fun h=>by simp at h,fun h=>?_⟩;have:=above_lt v m h;omega
 ·have f0:((0:Int)<(u:Int))=False:=eq_false (by omega)
  have ha:¬m∈aboveM p n:=fun h=>by
   have:=above_lt u m (hiff.1 h);omega
  rw [decide_eq_false ha]
  (repeat ((first | with_reducible refine W.step (b:=false) ?_ | skip);simp only [go_sem,↓reduceIte,Nat.reduceAdd,Nat.reduceSub,Nat.reduceMul,Nat.reduceEqDiff,Nat.reduceLeDiff,Nat.reduceLT,Int.reduceLE,Int.reduceLT,Int.reduceToNat,Int.reduceEq,f0,h0];try with_reducible refine drawn hmix (by kernel_rfl) ?_))
  exact postP_one _ (.inr rfl) rfl (.plain rfl)
set_option maxRecDepth 100000 in
set_option maxHeartbeats 4000000 in
theorem stands12_p (p:List Nod) (n m:Nat) (comb:Int) (hp:OkPg p) (hT:TreeP p) (hn:n<p.length) (hm:m<p.length) (hm0:0<m):PureN Tryz.prog gt0 322 [.sl p.length 5 (p.flatMap encNd),.g (.int .i64 (n:Int)),.g (.int .i64 (m:Int)),.g (.int .i64 comb)] (.g (.bool (standsR p n m comb))):=by
 refine PureN.of_w (c:=_) Tryz.func322 rfl (by kernel_rfl) rfl ?_;simp only [Tryz.f322,List.replicate,List.length_cons,List.length_nil,Nat.reduceAdd,Nat.reduceSub,List.cons_append,List.nil_append];have rn:=rowNd hn;have rm:=rowNd hm
 have hw:IntKind.i64.wrap (placeM p n - 1)=placeM p n - 1:=IntWalk.i64_in _ (by
  have:=idx_bound (fun k=>decide (k=(n:Int))) (kinM p n) (kin_len hp);unfold placeM
  omega)
 unfold standsR;rw [ndAt_nat hn,ndAt_nat hm]
 by_cases c1:comb=1
 ·have g1:=eq_true c1
  rw [if_pos c1]
  (repeat ((first | with_reducible refine W.step (b:=false) ?_ | skip);simp only [go_sem,↓reduceIte,Nat.reduceAdd,Nat.reduceSub,Nat.reduceMul,Nat.reduceEqDiff,Nat.reduceLeDiff,Nat.reduceLT,Int.reduceLE,Int.reduceLT,Int.reduceToNat,Int.reduceEq,hn,hm,rn,rm,g1];try with_reducible refine drawn hmix (by kernel_rfl) ?_))
  refine AtCall.mk (in12_p p n m hT hn hm0) ?_
  (repeat ((first | with_reducible refine W.step (b:=false) ?_ | skip);simp only [go_sem,↓reduceIte,Nat.reduceAdd,Nat.reduceSub,Nat.reduceMul,Nat.reduceEqDiff,Nat.reduceLeDiff,Nat.reduceLT,Int.reduceLE,Int.reduceLT,Int.reduceToNat,Int.reduceEq];try with_reducible refine drawn hmix (by kernel_rfl) ?_))
  exact postP_one _ (.inr rfl) rfl (.plain rfl)
 have g1:=eq_false c1;rw [if_neg c1]
 by_cases c2:comb=2
 ·have g2:=eq_true c2
  rw [if_pos c2]
  (repeat ((first | with_reducible refine W.step (b:=false) ?_ | skip);simp only [go_sem,↓reduceIte,Nat.reduceAdd,Nat.reduceSub,Nat.reduceMul,Nat.reduceEqDiff,Nat.reduceLeDiff,Nat.reduceLT,Int.reduceLE,Int.reduceLT,Int.reduceToNat,Int.reduceEq,hn,hm,rn,rm,g1,g2];try with_reducible refine drawn hmix (by kernel_rfl) ?_))
  exact postP_one _ (.inr rfl) rfl (.plain rfl)
 have g2:=eq_false c2;rw [if_neg c2]
 by_cases c3:comb=3
 ·have g3:=eq_true c3
  rw [if_pos c3]
  by_cases hk:p[n].up=p[m].up
  ·have fk:=eq_true hk
   (repeat ((first | with_reducible refine W.step (b:=false) ?_ | skip);simp only [go_sem,↓reduceIte,Nat.reduceAdd,Nat.reduceSub,Nat.reduceMul,Nat.reduceEqDiff,Nat.reduceLeDiff,Nat.reduceLT,Int.reduceLE,Int.reduceLT,Int.reduceToNat,Int.reduceEq,hn,hm,rn,rm,g1,g2,g3,fk];try with_reducible refine drawn hmix (by kernel_rfl) ?_))
   refine AtCall.mk (place12_p p m hp) ?_
   (repeat ((first | with_reducible refine W.step (b:=false) ?_ | skip);simp only [go_sem,↓reduceIte,Nat.reduceAdd,Nat.reduceSub,Nat.reduceMul,Nat.reduceEqDiff,Nat.reduceLeDiff,Nat.reduceLT,Int.reduceLE,Int.reduceLT,Int.reduceToNat,Int.reduceEq];try with_reducible refine drawn hmix (by kernel_rfl) ?_))
   refine AtCall.mk (place12_p p n hp) ?_
   (repeat ((first | with_reducible refine W.step (b:=false) ?_ | skip);simp only [go_sem,↓reduceIte,Nat.reduceAdd,Nat.reduceSub,Nat.reduceMul,Nat.reduceEqDiff,Nat.reduceLeDiff,Nat.reduceLT,Int.reduceLE,Int.reduceLT,Int.reduceToNat,Int.reduceEq,hw];try with_reducible refine drawn hmix (by kernel_rfl) ?_))
   exact postP_one _ (.inr rfl) rfl (.plain rfl)
  ·(repeat ((first | with_reducible refine W.step (b:=false) ?_ | skip);simp only [go_sem,↓reduceIte,Nat.reduceAdd,Nat.reduceSub,Nat.reduceMul,Nat.reduceEqDiff,Nat.reduceLeDiff,Nat.reduceLT,Int.reduceLE,Int.reduceLT,Int.reduceToNat,Int.reduceEq,hn,hm,rn,rm,g1,g2,g3,hk];try with_reducible refine drawn hmix (by kernel_rfl) ?_))
   exact postP_one _ (.inr rfl) rfl (.plain rfl)
 have g3:=eq_false c3;rw [if_neg c3]
 by_cases c4:comb=4
 ·have g4:=eq_true c4
  rw [if_pos c4]
  by_cases hk:p[n].up=p[m].up
  ·have fk:=eq_true hk
   (repeat ((first | with_reducible refine W.step (b:=false) ?_ | skip);simp only [go_sem,↓reduceIte,Nat.reduceAdd,Nat.reduceSub,Nat.reduceMul,Nat.reduceEqDiff,Nat.reduceLeDiff,Nat.reduceLT,Int.reduceLE,Int.reduceLT,Int.reduceToNat,Int.reduceEq,hn,hm,rn,rm,g1,g2,g3,g4,fk];try with_reducible refine drawn hmix (by kernel_rfl) ?_))
   refine AtCall.mk (place12_p p m hp) ?_
   (repeat ((first | with_reducible refine W.step (b:=false) ?_ | skip);simp only [go_sem,↓reduceIte,Nat.reduceAdd,Nat.reduceSub,Nat.reduceMul,Nat.reduceEqDiff,Nat.reduceLeDiff,Nat.reduceLT,Int.reduceLE,Int.reduceLT,Int.reduceToNat,Int.reduceEq];try with_reducible refine drawn hmix (by kernel_rfl) ?_))
   refine AtCall.mk (place12_p p n hp) ?_
   (repeat ((first | with_reducible refine W.step (b:=false) ?_ | skip);simp only [go_sem,↓reduceIte,Nat.reduceAdd,Nat.reduceSub,Nat.reduceMul,Nat.reduceEqDiff,Nat.reduceLeDiff,Nat.reduceLT,Int.reduceLE,Int.reduceLT,Int.reduceToNat,Int.reduceEq];try with_reducible refine drawn hmix (by kernel_rfl) ?_))
   exact postP_one _ (.inr rfl) rfl (.plain rfl)
  ·(repeat ((first | with_reducible refine W.step (b:=false) ?_ | skip);simp only [go_sem,↓reduceIte,Nat.reduceAdd,Nat.reduceSub,Nat.reduceMul,Nat.reduceEqDiff,Nat.reduceLeDiff,Nat.reduceLT,Int.reduceLE,Int.reduceLT,Int.reduceToNat,Int.reduceEq,hn,hm,rn,rm,g1,g2,g3,g4,hk];try with_reducible refine drawn hmix (by kernel_rfl) ?_))
   exact postP_one _ (.inr rfl) rfl (.plain rfl)
 ·have g4:=eq_false c4
  rw [if_neg c4]
  (repeat ((first | with_reducible refine W.step (b:=false) ?_ | skip);simp only [go_sem,↓reduceIte,Nat.reduceAdd,Nat.reduceSub,Nat.reduceMul,Nat.reduceEqDiff,Nat.reduceLeDiff,Nat.reduceLT,Int.reduceLE,Int.reduceLT,Int.reduceToNat,Int.reduceEq,hn,hm,rn,rm,g1,g2,g3,g4];try with_reducible refine drawn hmix (by kernel_rfl) ?_))
  exact postP_one _ (.inr rfl) rfl (.plain rfl)
end Go.Proofs.YtlnaihkombcbcaaGreat
namespace Go.Proofs.YtlnaihkombcbcaaGreat
open Go.RowKit Go.Ev
def cntK (pr:Int→Bool) (l:List Cx):Nat:=(l.filter fun c=>pr (keyM c).1).length
def lenG (G:Gr):List (Int×Nat):=G.map fun e=>(e.1.1,e.2.length)
theorem parts_G:∀ (G:Gr) (o:Nat),partsA (encG sealV4 o G)=some (lenG G)
 | [],_=>rfl
 | e::G,o=>by rw [encG,partsA,parts_G G (o+1)];rfl
theorem born_G:∀ (G:Gr) (o N:Nat),o+G.length≤N→(encG sealV4 o G).all (fun e=>Nat.blt e.1 N)=true
 | [],_,_,_=>rfl
 | e::G,o,N,h=>by
   rw [List.length_cons] at h;rw [encG,List.all_cons,born_G G (o+1) N (by omega),Bool.and_true];rw [Nat.blt_eq];omega
theorem names_G:∀ (G:Gr) (o:Nat),(encG sealV4 o G).map (·.1)=List.range' o G.length
 | [],_=>rfl
 | e::G,o=>by rw [encG,List.map_cons,names_G G (o+1),List.length_cons,List.range'_succ]
theorem distinct_range:∀ (k o:Nat),distinctB (List.range' o k)=true
 | 0,_=>rfl
 | k+1,o=>by
   rw [List.range'_succ,distinctB,distinct_range k (o+1),Bool.and_true,Bool.not_eq_true',List.contains_eq_mem,decide_eq_false_iff_not,List.mem_range'_1];omega
theorem sumP_app (pr:Int→Bool):∀ (a b:List (Int×Nat)),sumP pr (a++b)=sumP pr a+sumP pr b
 | [],b=>by rw [List.nil_append,sumP,Nat.zero_add]
 | x::a,b=>by rw [List.cons_append,sumP,sumP,sumP_app pr a b,Nat.add_assoc]
theorem sumP_open (pr:Int→Bool) (G:Gr) (k:Ky):sumP pr (lenG (openG G k))=sumP pr (lenG G):=by
 unfold openG
 cases idxG G k with
 | some j=>rfl
 | none =>
   unfold lenG;simp only [List.map_append,sumP_app,List.map_cons,List.map_nil,sumP,List.length_nil,ite_self,Nat.add_zero]
theorem sumP_mod (pr:Int→Bool) (e:En):∀ (G:Gr) (j:Nat) (h:j<G.length),sumP pr (lenG (G.modify j fun x=>(x.1,x.2++[e])))=sumP pr (lenG G)+if pr (G[j]).1.1 then 1 else 0
 | x::G,0,_=>by
   rw [List.modify_zero_cons];unfold lenG;simp only [List.map_cons,sumP,List.length_append,List.length_singleton,List.getElem_cons_zero]
   split <;> omega
 | x::G,j+1,h=>by
   have ih:=sumP_mod pr e G j (by simpa using h);rw [List.modify_succ_cons];unfold lenG at ih ⊢;simp only [List.map_cons,sumP,List.getElem_cons_succ,ih];omega
theorem open_key (G:Gr) (k:Ky):((openG G k)[posG G k]'(pos_lt G k)).1=k:=by
 have key:∀ (H:Gr) (j:Nat) (hj:j<H.length),openG G k=H→posG G k=j→(H[j]).1=k→((openG G k)[posG G k]'(pos_lt G k)).1=k:=by
  rintro H j hj rfl rfl h;exact h
 cases h:idxG G k with
 | some j =>
   obtain ⟨hl,hk,-⟩:=List.findIdx?_eq_some_iff_getElem.1 h;exact key G j hl (by unfold openG;rw [h]) (by unfold posG;rw [h]) (of_decide_eq_true hk)
 | none=>exact key (G++[(k,[])]) G.length (by simp) (by unfold openG;rw [h]) (by unfold posG;rw [h]) (by simp)
theorem sumP_ins (pr:Int→Bool) (G:Gr) (k:Ky) (e:En):sumP pr (lenG (insG G k e))=sumP pr (lenG G)+if pr k.1 then 1 else 0:=by
 unfold insG;rw [sumP_mod pr e _ _ (pos_lt G k),sumP_open,open_key]
theorem sumP_fold (pr:Int→Bool):∀ (es:List En) (G:Gr),sumP pr (lenG (es.foldl (fun G e=>insG G (keyM e.1) e) G))=sumP pr (lenG G)+(es.filter fun e=>pr (keyM e.1).1).length
 | [],G=>rfl
 | e::es,G=>by
   rw [List.foldl_cons,sumP_fold pr es,sumP_ins,List.filter_cons]
   split <;> simp <;> omega
theorem zip_filter {α:Type} (q:α→Bool):∀ (l:List α) (k:Nat),((l.zipIdx k).filter fun e=>q e.1).length=(l.filter q).length
 | [],_=>rfl
 | x::l,k=>by
   rw [List.zipIdx_cons,List.filter_cons,List.filter_cons]
   cases h:q x
   ·simp only [Bool.false_eq_true,if_false];exact zip_filter q l (k+1)
   ·simp only [if_true,List.length_cons];rw [zip_filter q l (k+1)]
theorem sumP_all (pr:Int→Bool) (l:List Cx):sumP pr (lenG (allG l))=cntK pr l:=by
 unfold allG;rw [sumP_fold];show 0+_=_;rw [Nat.zero_add];exact zip_filter (fun c=>pr (keyM c).1) l 0
theorem cntK_le (pr:Int→Bool) (l:List Cx):cntK pr l≤l.length:=List.length_filter_le _ _
def keysV (l:List Cx):List AV:=[.g (.int .i64 (cntK (isK 3) l:Nat)),.g (.int .i64 (cntK (isK 4) l:Nat)),.g (.int .i64 (cntK (isK 2) l:Nat)),.g (.int .i64 (cntK isRest l:Nat))]
theorem keysA_all (l:List Cx) (hl:l.length≤1000000):keysA (encG sealV4 0 (allG l)) (allG l).length=some (.tup (keysV l)):=by
 have h1:=cntK_le (fun _=>true) l;unfold keysA;rw [born_G _ 0 _ (by omega),names_G,distinct_range,parts_G];simp only [Bool.and_self,sumP_all];rw [Nat.ble_eq_true_of_le (by omega)]
 rfl
theorem keys_at {rd:List Mem} (l:List Cx) (hl:l.length≤1000000) (m:ML) (n a:Nat) (h0:getL m a=some (.map (encG sealV4 0 (allG l)) (allG l).length)) (h1:getL m (a+1)=some (.cells [.mp a])) :
 CallM Tryz.prog gt0 rd m n 47 [.ptr (a+1) 0] (.tup (keysV l)) m n:=by
 have hk:keysCH 47 [.ptr (a+1) 0] rd (memL m) n=some (.ret (.tup (keysV l)),memL m,n):=by
  have g0:getR (memL m::rd) a=some (.map (encG sealV4 0 (allG l)) (allG l).length):=by rw [getR,memL_get,h0]
  have g1:getR (memL m::rd) (a+1)=some (.cells [.mp a]):=by rw [getR,memL_get,h1]
  unfold keysCH;simp only [Nat.beq_refl,g0,g1,keysA_all l hl]
 have H:=keysCH_ok (GT:=gt0);refine ⟨fun base w G rargs hm ha=>(H.tri hk base allF w G rargs hm ha fun _ _ _=>trivial).mono ?_,H.fn hk⟩;rintro e w' ⟨G',h1,r,rfl,h2⟩;exact ⟨r,G',rfl,h1,h2⟩
end Go.Proofs.YtlnaihkombcbcaaGreat
end
