/- The law QuickSame is true of every input: the statement of the first form. -/
import Derived.Test.YtlnaihkombcbcaaGreatSd4
import Derived.Test.YtlnaihkombcbcaaGreatSc7
import Derived.Test.YtlnaihkombcbcaaGreatSc8
import Derived.WalkKit
import Derived.ProofKit
import Derived.OpenShut
import Derived.SizedLaws
import Derived.WideKeyArgs
set_option linter.unusedSimpArgs false
noncomputable section
namespace Go.Proofs.YtlnaihkombcbcaaGreat
open Go.RowKit Go.Ev
attribute [local go_sem] eq_self false_and and_false Bool.false_eq_true List.set_cons_succ List.set_cons_zero List.getD_cons_succ List.getD_cons_zero List.getElem?_cons_succ List.getElem?_cons_zero true_and and_true and_self Bool.not_true Bool.not_false Nat.add_zero Nat.zero_add Nat.mul_one Int.toNat_natCast Int.natCast_nonneg Int.ofNat_lt Option.bind_some Option.map_some List.map_cons List.map_nil decide_true decide_false BEq.rfl Bool.and_self Bool.and_true Bool.and_false beq_self_eq_true List.cons_append List.nil_append List.take_zero List.take_succ_cons List.take_nil List.drop_succ_cons List.drop_zero List.drop_nil List.append_nil List.length_cons List.length_nil List.all_cons List.all_nil Nat.le_refl Int.le_refl Option.map_none List.replicate_zero List.replicate_succ Nat.zero_mul Nat.sub_zero Nat.zero_le Nat.le_zero_eq getR_nil Option.some_or Option.none_or Option.or_none Option.isSome_some Option.isSome_none Option.getD_some Option.getD_none Int.toNat_zero Int.natCast_zero Int.natCast_one Int.cast_ofNat_Int List.toList_toArray
attribute [go_sem] appL newsA isSlice
def Sb (nb:Nat) (cs:List AV) (c:Nat):Option (List AV):=if c=nb then some cs else none
theorem sealB {GT:GTab} {M m:ML} {l l' cs:List AV} {n nb N:Nat} (hnb:N≤nb) (hb:getL m nb=some (.cells cs)) (hp:∀ a∈cs,plainA a=true) (hM:∀ p∈M,p.1<N∧ltB N p.2∧getL m p.1=some p.2) (hM2:∀ p∈M,getL M p.1=some p.2) (hl:frLF (Sb nb cs) l' l) (hk:keepT N l' l') :
 VS GT .none (stL l m n) (stL l' M N):=by
 refine VS.trans (VS.sealF (m':=M) (Sb nb cs) (fun c x hx=>?_) hl fun c x hc=>?_) (VSdrop (m':=M) (fun p hp=>?_) hk)
 ·unfold Sb at hx
  split at hx
  ·rename_i e;cases hx;subst e;exact ⟨hb,hp⟩
  ·cases hx
 ·have h1:=hM _ (getL_mem hc)
  refine ⟨by unfold Sb;rw [if_neg (by have:=h1.1;omega)],.inl h1.2.2⟩
 ·exact ⟨(hM p hp).1,(hM p hp).2.1,hM2 p hp⟩
theorem same_hit {p:List Nod} {st:List Stt} {l:List Cx} {k:Int} {cut i:Nat} (hcut:cut≤l.length) (hi:i<l.length) (hq:qM p st k l[i]=true) :
 (ansM p st l k)[(idxs (qM p st k) (l.take i)).length]?=some (i:Int)∧(ansM p st (l.take cut) k++ansM p st (l.drop cut) k)[(idxs (qM p st k) (l.take i)).length]?=some (if cut≤i then (i:Int) - cut else i):=by
 refine ⟨by rw [ans_idxs,List.getElem?_map,idxs_hit _ hi hq];rfl,?_⟩
 by_cases hci:cut≤i
 ·rw [if_pos hci]
  have h1:l.take i=l.take cut++(l.drop cut).take (i - cut):=by
   have:=List.take_add (l:=l) (i:=cut) (j:=i - cut);rw [←this,show cut+(i - cut)=i by omega]
  have h2:(idxs (qM p st k) (l.take i)).length=(ansM p st (l.take cut) k).length+(idxs (qM p st k) ((l.drop cut).take (i - cut))).length:=by
   rw [h1,idxs_append,List.length_append,List.length_map,ans_idxs,List.length_map]
  have hlt:i - cut<(l.drop cut).length:=by rw [List.length_drop];omega
  have hg:(l.drop cut)[i - cut]=l[i]:=by rw [List.getElem_drop];congr 1;omega
  have h3:=idxs_hit (qM p st k) hlt (by rw [hg];exact hq);rw [h2,List.getElem?_append_right (by omega),Nat.add_sub_cancel_left,ans_idxs p st (l.drop cut),List.getElem?_map,h3];simp only [Option.map_some]
  congr 1
  omega
 ·rw [if_neg hci]
  have h1:l.take i=(l.take cut).take i:=by rw [List.take_take,Nat.min_eq_left (by omega)]
  have hlt:i<(l.take cut).length:=by rw [List.length_take];omega
  have hg:(l.take cut)[i]=l[i]:=List.getElem_take;have h3:=idxs_hit (qM p st k) hlt (by rw [hg];exact hq);rw [←h1] at h3;have h4:(ansM p st (l.take cut) k)[(idxs (qM p st k) (l.take i)).length]?=some (i:Int):=by
   rw [ans_idxs,List.getElem?_map,h3];rfl
  rw [List.getElem?_append_left (List.getElem?_eq_some_iff.1 h4).1,h4]
theorem same_miss {p:List Nod} {st:List Stt} {l:List Cx} {k:Int} {i:Nat} (hi:i<l.length) (hq:qM p st k l[i]=false):(ansM p st l k)[(idxs (qM p st k) (l.take i)).length]?≠some (i:Int):=by
 rw [ans_idxs,List.getElem?_map];intro e;obtain ⟨x,hx,he⟩:=Option.map_eq_some_iff.1 e;have:x=i:=by omega
 subst this;exact idxs_miss _ hi hq hx
set_option maxRecDepth 100000 in
set_option maxHeartbeats 4000000 in
theorem same13_p (p:List Nod) (st:List Stt) (l:List Cx) (cut:Int) (hg:∀ c∈l,c.parts.length≤140737488351232):PureN Tryz.prog gt0 11 [.agg [.sl p.length 5 (p.flatMap encNd),.sl st.length 2 (st.flatMap encSt)],.sl l.length 2 (l.flatMap encC),.g (.int .i64 cut)] (.g (.bool true)):=by
 have HS:=small13_p p st l hg;refine PureN.of_w (c:=_) Tryz.func11 rfl (by kernel_rfl) rfl ?_;simp only [Tryz.f11,List.replicate,List.length_cons,List.length_nil,Nat.reduceAdd,Nat.reduceSub,List.cons_append,List.nil_append]
 (repeat ((first | with_reducible refine W.step (b:=false) ?_ | skip);simp only [go_sem,↓reduceIte,Nat.reduceAdd,Nat.reduceSub,Nat.reduceMul,Nat.reduceEqDiff,Nat.reduceLeDiff,Nat.reduceLT,Int.reduceLE,Int.reduceLT,Int.reduceToNat,Int.reduceEq];try with_reducible refine drawn hmix (by kernel_rfl) ?_))
 refine AtCall.mk fixed13_p ?_
 (repeat ((first | with_reducible refine W.step (b:=false) ?_ | skip);simp only [go_sem,↓reduceIte,Nat.reduceAdd,Nat.reduceSub,Nat.reduceMul,Nat.reduceEqDiff,Nat.reduceLeDiff,Nat.reduceLT,Int.reduceLE,Int.reduceLT,Int.reduceToNat,Int.reduceEq];try with_reducible refine drawn hmix (by kernel_rfl) ?_))
 refine AtCall.mk HS ?_
 cases hsm:smallB p st l with
 | false =>
   (repeat ((first | with_reducible refine W.step (b:=false) ?_ | skip);simp only [go_sem,↓reduceIte,Nat.reduceAdd,Nat.reduceSub,Nat.reduceMul,Nat.reduceEqDiff,Nat.reduceLeDiff,Nat.reduceLT,Int.reduceLE,Int.reduceLT,Int.reduceToNat,Int.reduceEq];try with_reducible refine drawn hmix (by kernel_rfl) ?_))
   refine AtCall.mk fixed13_p ?_
   (repeat ((first | with_reducible refine W.step (b:=false) ?_ | skip);simp only [go_sem,↓reduceIte,Nat.reduceAdd,Nat.reduceSub,Nat.reduceMul,Nat.reduceEqDiff,Nat.reduceLeDiff,Nat.reduceLT,Int.reduceLE,Int.reduceLT,Int.reduceToNat,Int.reduceEq];try with_reducible refine drawn hmix (by kernel_rfl) ?_))
   exact postP_one _ (.inr rfl) rfl (.plain rfl)
 | true =>
   obtain ⟨hA,hp40,hl40⟩:=small_asked hsm
   by_cases hc0:cut<0
   ·have f0:=eq_true hc0
    (repeat ((first | with_reducible refine W.step (b:=false) ?_ | skip);simp only [go_sem,↓reduceIte,Nat.reduceAdd,Nat.reduceSub,Nat.reduceMul,Nat.reduceEqDiff,Nat.reduceLeDiff,Nat.reduceLT,Int.reduceLE,Int.reduceLT,Int.reduceToNat,Int.reduceEq,f0];try with_reducible refine drawn hmix (by kernel_rfl) ?_))
    refine AtCall.mk fixed13_p ?_
    (repeat ((first | with_reducible refine W.step (b:=false) ?_ | skip);simp only [go_sem,↓reduceIte,Nat.reduceAdd,Nat.reduceSub,Nat.reduceMul,Nat.reduceEqDiff,Nat.reduceLeDiff,Nat.reduceLT,Int.reduceLE,Int.reduceLT,Int.reduceToNat,Int.reduceEq];try with_reducible refine drawn hmix (by kernel_rfl) ?_))
    exact postP_one _ (.inr rfl) rfl (.plain rfl)
   have f0:=eq_false hc0
   by_cases hc1:(l.length:Int)<cut
   ·have f1:=eq_true hc1
    (repeat ((first | with_reducible refine W.step (b:=false) ?_ | skip);simp only [go_sem,↓reduceIte,Nat.reduceAdd,Nat.reduceSub,Nat.reduceMul,Nat.reduceEqDiff,Nat.reduceLeDiff,Nat.reduceLT,Int.reduceLE,Int.reduceLT,Int.reduceToNat,Int.reduceEq,f0,f1];try with_reducible refine drawn hmix (by kernel_rfl) ?_))
    refine AtCall.mk fixed13_p ?_
    (repeat ((first | with_reducible refine W.step (b:=false) ?_ | skip);simp only [go_sem,↓reduceIte,Nat.reduceAdd,Nat.reduceSub,Nat.reduceMul,Nat.reduceEqDiff,Nat.reduceLeDiff,Nat.reduceLT,Int.reduceLE,Int.reduceLT,Int.reduceToNat,Int.reduceEq];try with_reducible refine drawn hmix (by kernel_rfl) ?_))
    exact postP_one _ (.inr rfl) rfl (.plain rfl)
   have f1:=eq_false hc1;obtain ⟨cut,rfl⟩:∃ k:Nat,cut=k:=⟨cut.toNat,by omega⟩;have hcut:cut≤l.length:=by omega
   have hA1:Asked p st (l.take cut):=⟨hA.pg,hA.tiny,hA.st,by rw [List.length_take];omega,fun c hc=>hA.sel c (List.mem_of_mem_take hc)⟩;have hA2:Asked p st (l.drop cut):=⟨hA.pg,hA.tiny,hA.st,by rw [List.length_drop];omega,fun c hc=>hA.sel c (List.mem_of_mem_drop hc)⟩;have N0:=new_D (rd:=[]) l (by omega) (fun c hc=>okQ_cx (hA.sel c hc)) [(0,.cells [.sl p.length 5 (p.flatMap encNd),.sl st.length 2 (st.flatMap encSt)])] 1;have N1:=new_D (rd:=[]) (l.take cut) hA1.len (fun c hc=>okQ_cx (hA1.sel c hc)) [(1,.map (encG sealV4 0 (allG l)) (allG l).length),(2,.cells [.mp 1]),(0,.cells [.sl p.length 5 (p.flatMap encNd),.sl st.length 2 (st.flatMap encSt)])] 3;have N2:=new_D (rd:=[]) (l.drop cut) hA2.len (fun c hc=>okQ_cx (hA2.sel c hc)) [(3,.map (encG sealV4 0 (allG (l.take cut))) (allG (l.take cut)).length),(4,.cells [.mp 3]),(1,.map (encG sealV4 0 (allG l)) (allG l).length),(2,.cells [.mp 1]),(0,.cells [.sl p.length 5 (p.flatMap encNd),.sl st.length 2 (st.flatMap encSt)])] 5;rw [List.length_take,Nat.min_eq_left hcut,←flat_takeC] at N1;have hd:((l.flatMap encC).drop (cut*2)).take ((l.length - cut)*2)=(l.flatMap encC).drop (cut*2):=List.take_of_length_le (by rw [List.length_drop,flatMap_len (enc:=encC) (sz:=2) (fun _=>rfl)];omega);rw [List.length_drop,←flat_dropC,←hd] at N2
   (repeat ((first | with_reducible refine W.step (b:=true) ?_ | skip);simp only [go_sem,↓reduceIte,Nat.reduceAdd,Nat.reduceSub,Nat.reduceMul,Nat.reduceEqDiff,Nat.reduceLeDiff,Nat.reduceLT,Int.reduceLE,Int.reduceLT,Int.reduceToNat,Int.reduceEq,f0,f1];(try with_reducible refine drawn hmix (by kernel_rfl) ?_);try with_reducible refine ⟨by kernel_rfl,?_⟩))
   refine AtCallD.mem N0 ?_
   (repeat ((first | with_reducible refine W.step (b:=true) ?_ | skip);simp only [go_sem,↓reduceIte,Nat.reduceAdd,Nat.reduceSub,Nat.reduceMul,Nat.reduceEqDiff,Nat.reduceLeDiff,Nat.reduceLT,Int.reduceLE,Int.reduceLT,Int.reduceToNat,Int.reduceEq,hcut];(try with_reducible refine drawn hmix (by kernel_rfl) ?_);try with_reducible refine ⟨by kernel_rfl,?_⟩))
   refine AtCallD.mem N1 ?_
   (repeat ((first | with_reducible refine W.step (b:=true) ?_ | skip);simp only [go_sem,↓reduceIte,Nat.reduceAdd,Nat.reduceSub,Nat.reduceMul,Nat.reduceEqDiff,Nat.reduceLeDiff,Nat.reduceLT,Int.reduceLE,Int.reduceLT,Int.reduceToNat,Int.reduceEq,hcut];(try with_reducible refine drawn hmix (by kernel_rfl) ?_);try with_reducible refine ⟨by kernel_rfl,?_⟩))
   refine AtCallD.mem N2 ?_
   (repeat ((first | with_reducible refine W.step (b:=true) ?_ | skip);simp only [go_sem,↓reduceIte,Nat.reduceAdd,Nat.reduceSub,Nat.reduceMul,Nat.reduceEqDiff,Nat.reduceLeDiff,Nat.reduceLT,Int.reduceLE,Int.reduceLT,Int.reduceToNat,Int.reduceEq];(try with_reducible refine drawn hmix (by kernel_rfl) ?_);try with_reducible refine ⟨by kernel_rfl,?_⟩))
   refine W.loop (s1:=stL [.any,(.sl l.length 2 (l.flatMap encC)),(.g (.int .i64 (cut:Int))),(.ptr 0 0),.any,.any,(.g (.bool false)),(.ptr 2 0),(.ptr 4 0),(.ptr 6 0),(.g (.int .i64 ((0:Nat):Int))),.any,.any,.any,.any,.any,.any,.any,.any,.any,.any,.any,.any,.any,.any,.any,.any,.any,.any,.any,.any,.any,.any,.any,.any,.any,.any,.any,.any,.any,.any,.any,.any,.any,.any,.any,.any,.any,.any,.any,.any,.any,.any,.any,.any,.any,.any,.any,.any,.any,.any,.any,.any,.any,.any,.any,.any,.any,.any,.any,.any,.any,.any,.any,.any,.any,.any,.any,.any,.any,.any,.any,.any,.any,.any,.any,.any,.any,.any,.any,.any,.any,.any,.any,.any,.any,.any,.any,.any,.any,.any,.any,.any,.any,.any,.any,.any,.any,.any,.any,.any,.any,.any,.any,.any,.any,.any,.any,.any,.any,.any,.any,.any,.any,.any,.any,.any,.any,.any,.any,.any,.any,.any,.any,.any,.any,.any,.any,.any,.any,.any,.any,.any,.any,.any,.any,.any,.any,.any,.any,.any,.any,.any,.any,.any,.any,.any,.any,.any,.any,.any,.any,.any,.any,.any,.any] [(5,.map (encG sealV4 0 (allG (l.drop cut))) (allG (l.drop cut)).length),(6,.cells [.mp 5]),(3,.map (encG sealV4 0 (allG (l.take cut))) (allG (l.take cut)).length),(4,.cells [.mp 3]),(1,.map (encG sealV4 0 (allG l)) (allG l).length),(2,.cells [.mp 1]),(0,.cells [.sl p.length 5 (p.flatMap encNd),.sl st.length 2 (st.flatMap encSt)])] 7)
    (fun (k:Nat) t=>k≤p.length∧t=stL [.any,(.sl l.length 2 (l.flatMap encC)),(.g (.int .i64 (cut:Int))),(.ptr 0 0),.any,.any,(.g (.bool false)),(.ptr 2 0),(.ptr 4 0),(.ptr 6 0),(.g (.int .i64 (k:Int))),.any,.any,.any,.any,.any,.any,.any,.any,.any,.any,.any,.any,.any,.any,.any,.any,.any,.any,.any,.any,.any,.any,.any,.any,.any,.any,.any,.any,.any,.any,.any,.any,.any,.any,.any,.any,.any,.any,.any,.any,.any,.any,.any,.any,.any,.any,.any,.any,.any,.any,.any,.any,.any,.any,.any,.any,.any,.any,.any,.any,.any,.any,.any,.any,.any,.any,.any,.any,.any,.any,.any,.any,.any,.any,.any,.any,.any,.any,.any,.any,.any,.any,.any,.any,.any,.any,.any,.any,.any,.any,.any,.any,.any,.any,.any,.any,.any,.any,.any,.any,.any,.any,.any,.any,.any,.any,.any,.any,.any,.any,.any,.any,.any,.any,.any,.any,.any,.any,.any,.any,.any,.any,.any,.any,.any,.any,.any,.any,.any,.any,.any,.any,.any,.any,.any,.any,.any,.any,.any,.any,.any,.any,.any,.any,.any,.any,.any,.any,.any,.any,.any,.any,.any,.any,.any] [(5,.map (encG sealV4 0 (allG (l.drop cut))) (allG (l.drop cut)).length),(6,.cells [.mp 5]),(3,.map (encG sealV4 0 (allG (l.take cut))) (allG (l.take cut)).length),(4,.cells [.mp 3]),(1,.map (encG sealV4 0 (allG l)) (allG l).length),(2,.cells [.mp 1]),(0,.cells [.sl p.length 5 (p.flatMap encNd),.sl st.length 2 (st.flatMap encSt)])] 7) (fun k=>p.length - k) 0 ⟨Nat.zero_le _,rfl⟩ (VS.tm (by simp [leL])) ?_
   rintro k t ⟨hk,rfl⟩
   by_cases hlt:k<p.length
   ·have hab:ansM p st l k=ansM p st (l.take cut) k++(ansM p st (l.drop cut) k).map (·+(cut:Int)):=by
     rw [ans_idxs,ans_idxs,ans_idxs,List.map_map];have h1:idxs (qM p st k) l=idxs (qM p st k) (l.take cut++l.drop cut):=by rw [List.take_append_drop]
     rw [h1,idxs_append,List.map_append,List.map_map,List.length_take,Nat.min_eq_left hcut]
     congr 1
    have hZl:(ansM p st (l.drop cut) k).length≤40:=by rw [ans_idxs,List.length_map];have:=idxs_len (qM p st k) (l.drop cut);rw [List.length_drop] at this;omega
    have hYl:(ansM p st (l.take cut) k).length≤40:=by rw [ans_idxs,List.length_map];have:=idxs_len (qM p st k) (l.take cut);rw [List.length_take] at this;omega
    have hAl:(ansM p st l k).length=(ansM p st (l.take cut) k++ansM p st (l.drop cut) k).length:=by rw [hab,List.length_append,List.length_append,List.length_map]
    have HI:∀ c∈l,PureN Tryz.prog gt0 53 [.sl p.length 5 (p.flatMap encNd),.sl st.length 2 (st.flatMap encSt),.g (.int .i64 (k:Int)),.agg (encC c)] (.g (.bool (qM p st k c))):=fun c hc=>is_p p st k c hA.pg hA.st (hA.sel c hc).1;have hAl2:(ansM p st l k).length≤40:=by rw [ans_idxs,List.length_map];have:=idxs_len (qM p st k) l;omega
    have hit:=fun (i:Nat) (hi:i<l.length) (hq:qM p st k l[i]=true)=>same_hit (p:=p) (st:=st) (l:=l) (k:=(k:Int)) hcut hi hq;have miss:=fun (i:Nat) (hi:i<l.length) (hq:qM p st k l[i]=false)=>same_miss (p:=p) (st:=st) (l:=l) (k:=(k:Int)) hi hq;have hcl:=fun (i:Nat)=>idxs_len (qM p st k) (l.take i);have hAlen:(ansM p st l k).length=(idxs (qM p st k) l).length:=by rw [ans_idxs,List.length_map]
    have M1:=fun m n h0 h1 h2=>(match_at (rd:=[]) hA k 1 m n h0 h1 h2).1;have M3:=fun m n h0 h1 h2=>(match_at (rd:=[]) hA1 k 3 m n h0 h1 h2).2;have M5:=fun m n h0 h1 h2=>(match_at (rd:=[]) hA2 k 5 m n h0 h1 h2).2
    (repeat ((first | with_reducible refine W.step (b:=false) ?_ | skip);simp only [go_sem,↓reduceIte,Nat.reduceAdd,Nat.reduceSub,Nat.reduceMul,Nat.reduceEqDiff,Nat.reduceLeDiff,Nat.reduceLT,Int.reduceLE,Int.reduceLT,Int.reduceToNat,Int.reduceEq,hlt];try with_reducible refine drawn hmix (by kernel_rfl) ?_))
    generalize ansM p st l k=A at *;generalize ansM p st (l.take cut) k=Y at *;generalize ansM p st (l.drop cut) k=Z at *;obtain ⟨B,hB⟩:∃ B,Y++Z=B:=⟨_,rfl⟩;rw [hB] at hAl;simp only [hB] at hit;refine AtCall.mem (m':=[(1,.map (encG sealV4 0 (allG l)) (allG l).length),(2,.cells [.mp 1]),(5,.map (encG sealV4 0 (allG (l.drop cut))) (allG (l.drop cut)).length),(6,.cells [.mp 5]),(3,.map (encG sealV4 0 (allG (l.take cut))) (allG (l.take cut)).length),(4,.cells [.mp 3]),(0,.cells [.sl p.length 5 (p.flatMap encNd),.sl st.length 2 (st.flatMap encSt)])]) (M1 _ 7 (by decide) rfl rfl) ?_
    (repeat ((first | with_reducible refine W.step (b:=true) ?_ | skip);simp only [go_sem,↓reduceIte,Nat.reduceAdd,Nat.reduceSub,Nat.reduceMul,Nat.reduceEqDiff,Nat.reduceLeDiff,Nat.reduceLT,Int.reduceLE,Int.reduceLT,Int.reduceToNat,Int.reduceEq];(try with_reducible refine drawn hmix (by kernel_rfl) ?_);try with_reducible refine ⟨by kernel_rfl,?_⟩))
    refine AtCallD.mem (m':=[(3,.map (encG sealV4 0 (allG (l.take cut))) (allG (l.take cut)).length),(4,.cells [.mp 3]),(7,.cells []),(1,.map (encG sealV4 0 (allG l)) (allG l).length),(2,.cells [.mp 1]),(5,.map (encG sealV4 0 (allG (l.drop cut))) (allG (l.drop cut)).length),(6,.cells [.mp 5]),(0,.cells [.sl p.length 5 (p.flatMap encNd),.sl st.length 2 (st.flatMap encSt)])]) (M3 _ 8 (by decide) rfl rfl) ?_
    by_cases hY:Y=[]
    ·subst hY
     (repeat ((first | with_reducible refine W.step (b:=true) ?_ | skip);simp only [go_sem,↓reduceIte,Nat.reduceAdd,Nat.reduceSub,Nat.reduceMul,Nat.reduceEqDiff,Nat.reduceLeDiff,Nat.reduceLT,Int.reduceLE,Int.reduceLT,Int.reduceToNat,Int.reduceEq];(try with_reducible refine drawn hmix (by kernel_rfl) ?_);try with_reducible refine ⟨by kernel_rfl,?_⟩))
     refine AtCallD.mem (m':=[(5,.map (encG sealV4 0 (allG (l.drop cut))) (allG (l.drop cut)).length),(6,.cells [.mp 5]),(3,.map (encG sealV4 0 (allG (l.take cut))) (allG (l.take cut)).length),(4,.cells [.mp 3]),(7,.cells []),(1,.map (encG sealV4 0 (allG l)) (allG l).length),(2,.cells [.mp 1]),(0,.cells [.sl p.length 5 (p.flatMap encNd),.sl st.length 2 (st.flatMap encSt)])]) (M5 _ 8 (by decide) rfl rfl) ?_
     by_cases hZ:Z=[]
     ·subst hZ
      (repeat ((first | with_reducible refine W.step (b:=true) ?_ | skip);simp only [go_sem,↓reduceIte,Nat.reduceAdd,Nat.reduceSub,Nat.reduceMul,Nat.reduceEqDiff,Nat.reduceLeDiff,Nat.reduceLT,Int.reduceLE,Int.reduceLT,Int.reduceToNat,Int.reduceEq];(try with_reducible refine drawn hmix (by kernel_rfl) ?_);try with_reducible refine ⟨by kernel_rfl,?_⟩))
      have hBf:B.flatMap encZ=([]:List AV):=by rw [←hB];simp
      have hBn:B.length=0:=by rw [←hB];simp
      have hBt:(([]:List AV)).take 0=([]:List AV):=List.take_of_length_le (by rw [←hBf,←hBn,lenZ];exact Nat.le_refl _);have hBl:(([]:List AV)).length=0:=by rw [←hBf,←hBn,lenZ]
      refine W.loop (s1:=stL [.any,(.sl l.length 2 (l.flatMap encC)),(.g (.int .i64 (cut:Int))),(.ptr 0 0),.any,.any,(.g (.bool false)),(.ptr 2 0),(.ptr 4 0),(.ptr 6 0),(.g (.int .i64 (k:Int))),(.sl A.length 1 (A.flatMap encZ)),(.sl B.length 1 (B.flatMap encZ)),(.g (.int .i64 ((0:Nat):Int))),(.g (.int .i64 ((0:Nat):Int))),.any,.any,.any,.any,.any,.any,.any,.any,.any,.any,.any,.any,.any,.any,.any,.any,.any,.any,.any,.any,.any,.any,.any,.any,.any,.any,.any,.any,.any,.any,.any,.any,.any,.any,.any,.any,.any,.any,.any,.any,.any,.any,.any,.any,.any,.any,.any,.any,.any,.any,.any,.any,.any,.any,.any,.any,.any,.any,.any,.any,.any,.any,.any,.any,.any,.any,.any,.any,.any,.any,.any,.any,.any,.any,.any,.any,.any,.any,.any,.any,.any,.any,.any,.any,.any,.any,.any,.any,.any,.any,.any,.any,.any,.any,.any,.any,.any,.any,.any,.any,.any,.any,.any,.any,.any,.any,.any,.any,.any,.any,.any,.any,.any,.any,.any,.any,.any,.any,.any,.any,.any,.any,.any,.any,.any,.any,.any,.any,.any,.any,.any,.any,.any,.any,.any,.any,.any,.any,.any,.any,.any,.any,.any,.any,.any,.any,.any,.any,.any,.any,.any] [(5,.map (encG sealV4 0 (allG (l.drop cut))) (allG (l.drop cut)).length),(6,.cells [.mp 5]),(3,.map (encG sealV4 0 (allG (l.take cut))) (allG (l.take cut)).length),(4,.cells [.mp 3]),(1,.map (encG sealV4 0 (allG l)) (allG l).length),(2,.cells [.mp 1]),(0,.cells [.sl p.length 5 (p.flatMap encNd),.sl st.length 2 (st.flatMap encSt)])] 7) (fun (z:Nat) t=>z≤l.length∧t=stL [.any,(.sl l.length 2 (l.flatMap encC)),(.g (.int .i64 (cut:Int))),(.ptr 0 0),.any,.any,(.g (.bool false)),(.ptr 2 0),(.ptr 4 0),(.ptr 6 0),(.g (.int .i64 (k:Int))),(.sl A.length 1 (A.flatMap encZ)),(.sl B.length 1 (B.flatMap encZ)),(.g (.int .i64 ((idxs (qM p st k) (l.take z)).length:Int))),(.g (.int .i64 (z:Int))),.any,.any,.any,.any,.any,.any,.any,.any,.any,.any,.any,.any,.any,.any,.any,.any,.any,.any,.any,.any,.any,.any,.any,.any,.any,.any,.any,.any,.any,.any,.any,.any,.any,.any,.any,.any,.any,.any,.any,.any,.any,.any,.any,.any,.any,.any,.any,.any,.any,.any,.any,.any,.any,.any,.any,.any,.any,.any,.any,.any,.any,.any,.any,.any,.any,.any,.any,.any,.any,.any,.any,.any,.any,.any,.any,.any,.any,.any,.any,.any,.any,.any,.any,.any,.any,.any,.any,.any,.any,.any,.any,.any,.any,.any,.any,.any,.any,.any,.any,.any,.any,.any,.any,.any,.any,.any,.any,.any,.any,.any,.any,.any,.any,.any,.any,.any,.any,.any,.any,.any,.any,.any,.any,.any,.any,.any,.any,.any,.any,.any,.any,.any,.any,.any,.any,.any,.any,.any,.any,.any,.any,.any,.any,.any,.any,.any,.any,.any,.any,.any,.any] [(5,.map (encG sealV4 0 (allG (l.drop cut))) (allG (l.drop cut)).length),(6,.cells [.mp 5]),(3,.map (encG sealV4 0 (allG (l.take cut))) (allG (l.take cut)).length),(4,.cells [.mp 3]),(1,.map (encG sealV4 0 (allG l)) (allG l).length),(2,.cells [.mp 1]),(0,.cells [.sl p.length 5 (p.flatMap encNd),.sl st.length 2 (st.flatMap encSt)])] 7) (fun z=>l.length - z) 0 ⟨Nat.zero_le _,by simp [idxs]⟩ (sealB (nb:=7) (cs:=([]:List AV)) (by decide) (by simp [getL]) (fun a ha=>by simp at ha) (by simp [ltB,ltE_seal,ltL,ltA,getL]) (by simp [getL]) (by
       simp only [frLF_cons,frLF_nil,frAF_any,frAF_self,true_and,and_true];refine ⟨?_,.inr (.inl rfl),.inr (.inl rfl)⟩
       exact .inr (.inr ⟨7,_,0,0,1,_,rfl,rfl,by rw [hBf,hBn,List.drop_zero,Nat.mul_one,hBt],by rw [hBl];omega⟩)) (by simp [keepT_cons,keepT_nil,ltA,ltL])) ?_
      rintro z t ⟨hz,rfl⟩
      by_cases hlz2:z<l.length
      ·have r1:=row_part encC 2 (fun _=>rfl) l z hlz2 0 2 (by decide)
       have r2:=row_fit encC 2 (fun _=>rfl) l z hlz2 (j:=0) (c:=2) (by decide);rw [Nat.add_zero,List.drop_zero,List.take_of_length_le (l:=encC l[z]) (Nat.le_refl 2)] at r1;rw [Nat.add_zero] at r2;have hen:encC l[z]=[.sl l[z].parts.length 2 (l[z].parts.flatMap encP),.g (.string l[z].pseudo)]:=rfl;have HIz:=HI l[z] (List.getElem_mem hlz2);rw [hen] at r1 HIz;have hnx:=idxs_len_take (qM p st k) hlz2;have hh:=hit z hlz2;have hmi:=miss z hlz2;have hcz:=hcl z;rw [List.length_take] at hcz;generalize hcc:(idxs (qM p st k) (l.take z)).length=c at *
       (repeat ((first | with_reducible refine W.step (b:=true) ?_ | skip);simp only [go_sem,↓reduceIte,Nat.reduceAdd,Nat.reduceSub,Nat.reduceMul,Nat.reduceEqDiff,Nat.reduceLeDiff,Nat.reduceLT,Int.reduceLE,Int.reduceLT,Int.reduceToNat,Int.reduceEq,hlz2,r1,r2];(try with_reducible refine drawn hmix (by kernel_rfl) ?_);try with_reducible refine ⟨by kernel_rfl,?_⟩))
       refine AtCallD.mk HIz ?_
       cases hq:qM p st k l[z] with
       | true =>
         obtain ⟨a1,b1⟩:=hh hq;rw [hq,if_pos rfl] at hnx;have ca:c<A.length:=(List.getElem?_eq_some_iff.1 a1).1;have cb:(B.length≤c)=False:=eq_false (by omega);have ca2:(A.flatMap encZ)[c]?=some (.g (.int .i64 (z:Int))):=by rw [mapZ,List.getElem?_map,a1];rfl
         have cb2:c<B.length:=by omega
         have cbi:((B.length:Int)≤(c:Int))=False:=eq_false (by omega)
         by_cases hci:cut≤z
         ·rw [if_pos hci] at b1
          have cb3:(B.flatMap encZ)[c]?=some (.g (.int .i64 ((z:Int) - (cut:Int)))):=by rw [mapZ,List.getElem?_map,b1];rfl
          have fw:IntKind.i64.wrap ((z:Int) - (cut:Int))=(z:Int) - (cut:Int):=by rw [IntWalk.i64_in _ (by omega)]
          have c3:=eq_true hci;have c4:(z<cut)=False:=eq_false (by omega);have c3i:((cut:Int)≤(z:Int))=True:=eq_true (by omega);have c4i:((z:Int)<(cut:Int))=False:=eq_false (by omega)
          (repeat ((first | with_reducible refine W.step (b:=true) ?_ | skip);simp only [go_sem,↓reduceIte,Nat.reduceAdd,Nat.reduceSub,Nat.reduceMul,Nat.reduceEqDiff,Nat.reduceLeDiff,Nat.reduceLT,Int.reduceLE,Int.reduceLT,Int.reduceToNat,Int.reduceEq,ca,cb,cbi,ca2,cb2,cb3,fw,c3,c4,c3i,c4i];(try with_reducible refine drawn hmix (by kernel_rfl) ?_);try with_reducible refine ⟨by kernel_rfl,?_⟩))
          refine ⟨z+1,_,⟨hlz2,rfl⟩,by show l.length - (z+1)<l.length - z;omega,?_⟩;rw [up1 (by omega),up1 (by omega),hnx];exact VS.tm (by simp [leL])
         ·rw [if_neg hci] at b1
          have cb3:(B.flatMap encZ)[c]?=some (.g (.int .i64 (z:Int))):=by rw [mapZ,List.getElem?_map,b1];rfl
          have c3:=eq_false hci;have c4:(z<cut)=True:=eq_true (by omega);have c3i:((cut:Int)≤(z:Int))=False:=eq_false (by omega);have c4i:((z:Int)<(cut:Int))=True:=eq_true (by omega)
          (repeat ((first | with_reducible refine W.step (b:=true) ?_ | skip);simp only [go_sem,↓reduceIte,Nat.reduceAdd,Nat.reduceSub,Nat.reduceMul,Nat.reduceEqDiff,Nat.reduceLeDiff,Nat.reduceLT,Int.reduceLE,Int.reduceLT,Int.reduceToNat,Int.reduceEq,ca,cb,cbi,ca2,cb2,cb3,c3,c4,c3i,c4i];(try with_reducible refine drawn hmix (by kernel_rfl) ?_);try with_reducible refine ⟨by kernel_rfl,?_⟩))
          refine ⟨z+1,_,⟨hlz2,rfl⟩,by show l.length - (z+1)<l.length - z;omega,?_⟩;rw [up1 (by omega),up1 (by omega),hnx];exact VS.tm (by simp [leL])
       | false =>
         have hne:=hmi hq;rw [hq,if_neg (by decide)] at hnx
         by_cases ca:c<A.length
         ·rw [List.getElem?_eq_getElem ca] at hne
          have ca2:(A.flatMap encZ)[c]?=some (.g (.int .i64 A[c])):=by rw [mapZ,List.getElem?_map,List.getElem?_eq_getElem ca];rfl
          have c5:(A[c]=(z:Int))=False:=eq_false (fun e=>hne (by rw [e]))
          (repeat ((first | with_reducible refine W.step (b:=true) ?_ | skip);simp only [go_sem,↓reduceIte,Nat.reduceAdd,Nat.reduceSub,Nat.reduceMul,Nat.reduceEqDiff,Nat.reduceLeDiff,Nat.reduceLT,Int.reduceLE,Int.reduceLT,Int.reduceToNat,Int.reduceEq,ca,ca2,c5];(try with_reducible refine drawn hmix (by kernel_rfl) ?_);try with_reducible refine ⟨by kernel_rfl,?_⟩))
          refine ⟨z+1,_,⟨hlz2,rfl⟩,by show l.length - (z+1)<l.length - z;omega,?_⟩;rw [up1 (by omega),hnx];exact VS.tm (by simp [leL])
         ·(repeat ((first | with_reducible refine W.step (b:=true) ?_ | skip);simp only [go_sem,↓reduceIte,Nat.reduceAdd,Nat.reduceSub,Nat.reduceMul,Nat.reduceEqDiff,Nat.reduceLeDiff,Nat.reduceLT,Int.reduceLE,Int.reduceLT,Int.reduceToNat,Int.reduceEq,ca];(try with_reducible refine drawn hmix (by kernel_rfl) ?_);try with_reducible refine ⟨by kernel_rfl,?_⟩))
          refine ⟨z+1,_,⟨hlz2,rfl⟩,by show l.length - (z+1)<l.length - z;omega,?_⟩;rw [up1 (by omega),hnx];exact VS.tm (by simp [leL])
      ·have hze:z=l.length:=by omega
       subst hze;rw [List.take_length,←hAlen];have ha9:(A.length=B.length)=True:=eq_true hAl;have ha8:((A.length:Int)=(B.length:Int))=True:=eq_true (by omega);have HII:=ints_p A A (by omega);rw [decide_eq_true (rfl:A=A)] at HII
       (repeat ((first | with_reducible refine W.step (b:=false) ?_ | skip);simp only [go_sem,↓reduceIte,Nat.reduceAdd,Nat.reduceSub,Nat.reduceMul,Nat.reduceEqDiff,Nat.reduceLeDiff,Nat.reduceLT,Int.reduceLE,Int.reduceLT,Int.reduceToNat,Int.reduceEq,hlz2,ha9,ha8];try with_reducible refine drawn hmix (by kernel_rfl) ?_))
       refine AtCall.mem (m':=[(1,.map (encG sealV4 0 (allG l)) (allG l).length),(2,.cells [.mp 1]),(5,.map (encG sealV4 0 (allG (l.drop cut))) (allG (l.drop cut)).length),(6,.cells [.mp 5]),(3,.map (encG sealV4 0 (allG (l.take cut))) (allG (l.take cut)).length),(4,.cells [.mp 3]),(0,.cells [.sl p.length 5 (p.flatMap encNd),.sl st.length 2 (st.flatMap encSt)])]) (M1 _ 7 (by decide) rfl rfl) ?_
       (repeat ((first | with_reducible refine W.step (b:=false) ?_ | skip);simp only [go_sem,↓reduceIte,Nat.reduceAdd,Nat.reduceSub,Nat.reduceMul,Nat.reduceEqDiff,Nat.reduceLeDiff,Nat.reduceLT,Int.reduceLE,Int.reduceLT,Int.reduceToNat,Int.reduceEq];try with_reducible refine drawn hmix (by kernel_rfl) ?_))
       refine AtCall.mk HII ?_
       (repeat ((first | with_reducible refine W.step (b:=false) ?_ | skip);simp only [go_sem,↓reduceIte,Nat.reduceAdd,Nat.reduceSub,Nat.reduceMul,Nat.reduceEqDiff,Nat.reduceLeDiff,Nat.reduceLT,Int.reduceLE,Int.reduceLT,Int.reduceToNat,Int.reduceEq];try with_reducible refine drawn hmix (by kernel_rfl) ?_))
       refine ⟨k+1,_,⟨hlt,rfl⟩,by show p.length - (k+1)<p.length - k;omega,?_⟩;rw [up1 (by omega)];exact VSdrop (by simp [ltB,ltE_seal,ltL,ltA,getL]) (by simp [keepT_cons,keepT_nil,ltA,ltL])
     ·have z0:(Z.length=0)=False:=eq_false (fun h=>hZ (List.eq_nil_of_length_eq_zero h))
      have z1:Z.length*9≤17179869184:=by omega
      (repeat ((first | with_reducible refine W.step (b:=true) ?_ | skip);simp only [go_sem,↓reduceIte,Nat.reduceAdd,Nat.reduceSub,Nat.reduceMul,Nat.reduceEqDiff,Nat.reduceLeDiff,Nat.reduceLT,Int.reduceLE,Int.reduceLT,Int.reduceToNat,Int.reduceEq,z0,z1];(try with_reducible refine drawn hmix (by kernel_rfl) ?_);try with_reducible refine ⟨by kernel_rfl,?_⟩))
      have hBf:B.flatMap encZ=Z.flatMap encZ:=by rw [←hB];simp
      have hBn:B.length=Z.length:=by rw [←hB];simp
      have hBt:(Z.flatMap encZ).take Z.length=Z.flatMap encZ:=List.take_of_length_le (by rw [←hBf,←hBn,lenZ];exact Nat.le_refl _);have hBl:(Z.flatMap encZ).length=Z.length:=by rw [←hBf,←hBn,lenZ]
      refine W.loop (s1:=stL [.any,(.sl l.length 2 (l.flatMap encC)),(.g (.int .i64 (cut:Int))),(.ptr 0 0),.any,.any,(.g (.bool false)),(.ptr 2 0),(.ptr 4 0),(.ptr 6 0),(.g (.int .i64 (k:Int))),(.sl A.length 1 (A.flatMap encZ)),(.sl B.length 1 (B.flatMap encZ)),(.g (.int .i64 ((0:Nat):Int))),(.g (.int .i64 ((0:Nat):Int))),.any,.any,.any,.any,.any,.any,.any,.any,.any,.any,.any,.any,.any,.any,.any,.any,.any,.any,.any,.any,.any,.any,.any,.any,.any,.any,.any,.any,.any,.any,.any,.any,.any,.any,.any,.any,.any,.any,.any,.any,.any,.any,.any,.any,.any,.any,.any,.any,.any,.any,.any,.any,.any,.any,.any,.any,.any,.any,.any,.any,.any,.any,.any,.any,.any,.any,.any,.any,.any,.any,.any,.any,.any,.any,.any,.any,.any,.any,.any,.any,.any,.any,.any,.any,.any,.any,.any,.any,.any,.any,.any,.any,.any,.any,.any,.any,.any,.any,.any,.any,.any,.any,.any,.any,.any,.any,.any,.any,.any,.any,.any,.any,.any,.any,.any,.any,.any,.any,.any,.any,.any,.any,.any,.any,.any,.any,.any,.any,.any,.any,.any,.any,.any,.any,.any,.any,.any,.any,.any,.any,.any,.any,.any,.any,.any,.any,.any,.any,.any,.any,.any] [(5,.map (encG sealV4 0 (allG (l.drop cut))) (allG (l.drop cut)).length),(6,.cells [.mp 5]),(3,.map (encG sealV4 0 (allG (l.take cut))) (allG (l.take cut)).length),(4,.cells [.mp 3]),(1,.map (encG sealV4 0 (allG l)) (allG l).length),(2,.cells [.mp 1]),(0,.cells [.sl p.length 5 (p.flatMap encNd),.sl st.length 2 (st.flatMap encSt)])] 7) (fun (z:Nat) t=>z≤l.length∧t=stL [.any,(.sl l.length 2 (l.flatMap encC)),(.g (.int .i64 (cut:Int))),(.ptr 0 0),.any,.any,(.g (.bool false)),(.ptr 2 0),(.ptr 4 0),(.ptr 6 0),(.g (.int .i64 (k:Int))),(.sl A.length 1 (A.flatMap encZ)),(.sl B.length 1 (B.flatMap encZ)),(.g (.int .i64 ((idxs (qM p st k) (l.take z)).length:Int))),(.g (.int .i64 (z:Int))),.any,.any,.any,.any,.any,.any,.any,.any,.any,.any,.any,.any,.any,.any,.any,.any,.any,.any,.any,.any,.any,.any,.any,.any,.any,.any,.any,.any,.any,.any,.any,.any,.any,.any,.any,.any,.any,.any,.any,.any,.any,.any,.any,.any,.any,.any,.any,.any,.any,.any,.any,.any,.any,.any,.any,.any,.any,.any,.any,.any,.any,.any,.any,.any,.any,.any,.any,.any,.any,.any,.any,.any,.any,.any,.any,.any,.any,.any,.any,.any,.any,.any,.any,.any,.any,.any,.any,.any,.any,.any,.any,.any,.any,.any,.any,.any,.any,.any,.any,.any,.any,.any,.any,.any,.any,.any,.any,.any,.any,.any,.any,.any,.any,.any,.any,.any,.any,.any,.any,.any,.any,.any,.any,.any,.any,.any,.any,.any,.any,.any,.any,.any,.any,.any,.any,.any,.any,.any,.any,.any,.any,.any,.any,.any,.any,.any,.any,.any,.any,.any,.any] [(5,.map (encG sealV4 0 (allG (l.drop cut))) (allG (l.drop cut)).length),(6,.cells [.mp 5]),(3,.map (encG sealV4 0 (allG (l.take cut))) (allG (l.take cut)).length),(4,.cells [.mp 3]),(1,.map (encG sealV4 0 (allG l)) (allG l).length),(2,.cells [.mp 1]),(0,.cells [.sl p.length 5 (p.flatMap encNd),.sl st.length 2 (st.flatMap encSt)])] 7) (fun z=>l.length - z) 0 ⟨Nat.zero_le _,by simp [idxs]⟩ (sealB (nb:=8) (cs:=Z.flatMap encZ) (by decide) (by simp [getL]) (fun a ha=>by obtain ⟨x,-,hx⟩:=List.mem_flatMap.1 ha;simp [encZ] at hx;subst hx;rfl) (by simp [ltB,ltE_seal,ltL,ltA,getL]) (by simp [getL]) (by
       simp only [frLF_cons,frLF_nil,frAF_any,frAF_self,true_and,and_true];refine ⟨?_,.inr (.inl rfl),.inr (.inl rfl)⟩
       exact .inr (.inr ⟨8,_,0,Z.length,1,_,rfl,rfl,by rw [hBf,hBn,List.drop_zero,Nat.mul_one,hBt],by rw [hBl];omega⟩)) (by simp [keepT_cons,keepT_nil,ltA,ltL])) ?_
      rintro z t ⟨hz,rfl⟩
      by_cases hlz2:z<l.length
      ·have r1:=row_part encC 2 (fun _=>rfl) l z hlz2 0 2 (by decide)
       have r2:=row_fit encC 2 (fun _=>rfl) l z hlz2 (j:=0) (c:=2) (by decide);rw [Nat.add_zero,List.drop_zero,List.take_of_length_le (l:=encC l[z]) (Nat.le_refl 2)] at r1;rw [Nat.add_zero] at r2;have hen:encC l[z]=[.sl l[z].parts.length 2 (l[z].parts.flatMap encP),.g (.string l[z].pseudo)]:=rfl;have HIz:=HI l[z] (List.getElem_mem hlz2);rw [hen] at r1 HIz;have hnx:=idxs_len_take (qM p st k) hlz2;have hh:=hit z hlz2;have hmi:=miss z hlz2;have hcz:=hcl z;rw [List.length_take] at hcz;generalize hcc:(idxs (qM p st k) (l.take z)).length=c at *
       (repeat ((first | with_reducible refine W.step (b:=true) ?_ | skip);simp only [go_sem,↓reduceIte,Nat.reduceAdd,Nat.reduceSub,Nat.reduceMul,Nat.reduceEqDiff,Nat.reduceLeDiff,Nat.reduceLT,Int.reduceLE,Int.reduceLT,Int.reduceToNat,Int.reduceEq,hlz2,r1,r2];(try with_reducible refine drawn hmix (by kernel_rfl) ?_);try with_reducible refine ⟨by kernel_rfl,?_⟩))
       refine AtCallD.mk HIz ?_
       cases hq:qM p st k l[z] with
       | true =>
         obtain ⟨a1,b1⟩:=hh hq;rw [hq,if_pos rfl] at hnx;have ca:c<A.length:=(List.getElem?_eq_some_iff.1 a1).1;have cb:(B.length≤c)=False:=eq_false (by omega);have ca2:(A.flatMap encZ)[c]?=some (.g (.int .i64 (z:Int))):=by rw [mapZ,List.getElem?_map,a1];rfl
         have cb2:c<B.length:=by omega
         have cbi:((B.length:Int)≤(c:Int))=False:=eq_false (by omega)
         by_cases hci:cut≤z
         ·rw [if_pos hci] at b1
          have cb3:(B.flatMap encZ)[c]?=some (.g (.int .i64 ((z:Int) - (cut:Int)))):=by rw [mapZ,List.getElem?_map,b1];rfl
          have fw:IntKind.i64.wrap ((z:Int) - (cut:Int))=(z:Int) - (cut:Int):=by rw [IntWalk.i64_in _ (by omega)]
          have c3:=eq_true hci;have c4:(z<cut)=False:=eq_false (by omega);have c3i:((cut:Int)≤(z:Int))=True:=eq_true (by omega);have c4i:((z:Int)<(cut:Int))=False:=eq_false (by omega)
          (repeat ((first | with_reducible refine W.step (b:=true) ?_ | skip);simp only [go_sem,↓reduceIte,Nat.reduceAdd,Nat.reduceSub,Nat.reduceMul,Nat.reduceEqDiff,Nat.reduceLeDiff,Nat.reduceLT,Int.reduceLE,Int.reduceLT,Int.reduceToNat,Int.reduceEq,ca,cb,cbi,ca2,cb2,cb3,fw,c3,c4,c3i,c4i];(try with_reducible refine drawn hmix (by kernel_rfl) ?_);try with_reducible refine ⟨by kernel_rfl,?_⟩))
          refine ⟨z+1,_,⟨hlz2,rfl⟩,by show l.length - (z+1)<l.length - z;omega,?_⟩;rw [up1 (by omega),up1 (by omega),hnx];exact VS.tm (by simp [leL])
         ·rw [if_neg hci] at b1
          have cb3:(B.flatMap encZ)[c]?=some (.g (.int .i64 (z:Int))):=by rw [mapZ,List.getElem?_map,b1];rfl
          have c3:=eq_false hci;have c4:(z<cut)=True:=eq_true (by omega);have c3i:((cut:Int)≤(z:Int))=False:=eq_false (by omega);have c4i:((z:Int)<(cut:Int))=True:=eq_true (by omega)
          (repeat ((first | with_reducible refine W.step (b:=true) ?_ | skip);simp only [go_sem,↓reduceIte,Nat.reduceAdd,Nat.reduceSub,Nat.reduceMul,Nat.reduceEqDiff,Nat.reduceLeDiff,Nat.reduceLT,Int.reduceLE,Int.reduceLT,Int.reduceToNat,Int.reduceEq,ca,cb,cbi,ca2,cb2,cb3,c3,c4,c3i,c4i];(try with_reducible refine drawn hmix (by kernel_rfl) ?_);try with_reducible refine ⟨by kernel_rfl,?_⟩))
          refine ⟨z+1,_,⟨hlz2,rfl⟩,by show l.length - (z+1)<l.length - z;omega,?_⟩;rw [up1 (by omega),up1 (by omega),hnx];exact VS.tm (by simp [leL])
       | false =>
         have hne:=hmi hq;rw [hq,if_neg (by decide)] at hnx
         by_cases ca:c<A.length
         ·rw [List.getElem?_eq_getElem ca] at hne
          have ca2:(A.flatMap encZ)[c]?=some (.g (.int .i64 A[c])):=by rw [mapZ,List.getElem?_map,List.getElem?_eq_getElem ca];rfl
          have c5:(A[c]=(z:Int))=False:=eq_false (fun e=>hne (by rw [e]))
          (repeat ((first | with_reducible refine W.step (b:=true) ?_ | skip);simp only [go_sem,↓reduceIte,Nat.reduceAdd,Nat.reduceSub,Nat.reduceMul,Nat.reduceEqDiff,Nat.reduceLeDiff,Nat.reduceLT,Int.reduceLE,Int.reduceLT,Int.reduceToNat,Int.reduceEq,ca,ca2,c5];(try with_reducible refine drawn hmix (by kernel_rfl) ?_);try with_reducible refine ⟨by kernel_rfl,?_⟩))
          refine ⟨z+1,_,⟨hlz2,rfl⟩,by show l.length - (z+1)<l.length - z;omega,?_⟩;rw [up1 (by omega),hnx];exact VS.tm (by simp [leL])
         ·(repeat ((first | with_reducible refine W.step (b:=true) ?_ | skip);simp only [go_sem,↓reduceIte,Nat.reduceAdd,Nat.reduceSub,Nat.reduceMul,Nat.reduceEqDiff,Nat.reduceLeDiff,Nat.reduceLT,Int.reduceLE,Int.reduceLT,Int.reduceToNat,Int.reduceEq,ca];(try with_reducible refine drawn hmix (by kernel_rfl) ?_);try with_reducible refine ⟨by kernel_rfl,?_⟩))
          refine ⟨z+1,_,⟨hlz2,rfl⟩,by show l.length - (z+1)<l.length - z;omega,?_⟩;rw [up1 (by omega),hnx];exact VS.tm (by simp [leL])
      ·have hze:z=l.length:=by omega
       subst hze;rw [List.take_length,←hAlen];have ha9:(A.length=B.length)=True:=eq_true hAl;have ha8:((A.length:Int)=(B.length:Int))=True:=eq_true (by omega);have HII:=ints_p A A (by omega);rw [decide_eq_true (rfl:A=A)] at HII
       (repeat ((first | with_reducible refine W.step (b:=false) ?_ | skip);simp only [go_sem,↓reduceIte,Nat.reduceAdd,Nat.reduceSub,Nat.reduceMul,Nat.reduceEqDiff,Nat.reduceLeDiff,Nat.reduceLT,Int.reduceLE,Int.reduceLT,Int.reduceToNat,Int.reduceEq,hlz2,ha9,ha8];try with_reducible refine drawn hmix (by kernel_rfl) ?_))
       refine AtCall.mem (m':=[(1,.map (encG sealV4 0 (allG l)) (allG l).length),(2,.cells [.mp 1]),(5,.map (encG sealV4 0 (allG (l.drop cut))) (allG (l.drop cut)).length),(6,.cells [.mp 5]),(3,.map (encG sealV4 0 (allG (l.take cut))) (allG (l.take cut)).length),(4,.cells [.mp 3]),(0,.cells [.sl p.length 5 (p.flatMap encNd),.sl st.length 2 (st.flatMap encSt)])]) (M1 _ 7 (by decide) rfl rfl) ?_
       (repeat ((first | with_reducible refine W.step (b:=false) ?_ | skip);simp only [go_sem,↓reduceIte,Nat.reduceAdd,Nat.reduceSub,Nat.reduceMul,Nat.reduceEqDiff,Nat.reduceLeDiff,Nat.reduceLT,Int.reduceLE,Int.reduceLT,Int.reduceToNat,Int.reduceEq];try with_reducible refine drawn hmix (by kernel_rfl) ?_))
       refine AtCall.mk HII ?_
       (repeat ((first | with_reducible refine W.step (b:=false) ?_ | skip);simp only [go_sem,↓reduceIte,Nat.reduceAdd,Nat.reduceSub,Nat.reduceMul,Nat.reduceEqDiff,Nat.reduceLeDiff,Nat.reduceLT,Int.reduceLE,Int.reduceLT,Int.reduceToNat,Int.reduceEq];try with_reducible refine drawn hmix (by kernel_rfl) ?_))
       refine ⟨k+1,_,⟨hlt,rfl⟩,by show p.length - (k+1)<p.length - k;omega,?_⟩;rw [up1 (by omega)];exact VSdrop (by simp [ltB,ltE_seal,ltL,ltA,getL]) (by simp [keepT_cons,keepT_nil,ltA,ltL])
    ·have y0:(Y.length=0)=False:=eq_false (fun h=>hY (List.eq_nil_of_length_eq_zero h))
     have y1:Y.length*9≤17179869184:=by omega
     (repeat ((first | with_reducible refine W.step (b:=true) ?_ | skip);simp only [go_sem,↓reduceIte,Nat.reduceAdd,Nat.reduceSub,Nat.reduceMul,Nat.reduceEqDiff,Nat.reduceLeDiff,Nat.reduceLT,Int.reduceLE,Int.reduceLT,Int.reduceToNat,Int.reduceEq,y0,y1];(try with_reducible refine drawn hmix (by kernel_rfl) ?_);try with_reducible refine ⟨by kernel_rfl,?_⟩))
     refine AtCallD.mem (m':=[(5,.map (encG sealV4 0 (allG (l.drop cut))) (allG (l.drop cut)).length),(6,.cells [.mp 5]),(8,.cells (Y.flatMap encZ)),(3,.map (encG sealV4 0 (allG (l.take cut))) (allG (l.take cut)).length),(4,.cells [.mp 3]),(1,.map (encG sealV4 0 (allG l)) (allG l).length),(2,.cells [.mp 1]),(0,.cells [.sl p.length 5 (p.flatMap encNd),.sl st.length 2 (st.flatMap encSt)])]) (M5 _ 9 (by decide) rfl rfl) ?_
     by_cases hZ:Z=[]
     ·subst hZ
      (repeat ((first | with_reducible refine W.step (b:=true) ?_ | skip);simp only [go_sem,↓reduceIte,Nat.reduceAdd,Nat.reduceSub,Nat.reduceMul,Nat.reduceEqDiff,Nat.reduceLeDiff,Nat.reduceLT,Int.reduceLE,Int.reduceLT,Int.reduceToNat,Int.reduceEq];(try with_reducible refine drawn hmix (by kernel_rfl) ?_);try with_reducible refine ⟨by kernel_rfl,?_⟩))
      have hBf:B.flatMap encZ=Y.flatMap encZ:=by rw [←hB];simp
      have hBn:B.length=Y.length:=by rw [←hB];simp
      have hBt:(Y.flatMap encZ).take Y.length=Y.flatMap encZ:=List.take_of_length_le (by rw [←hBf,←hBn,lenZ];exact Nat.le_refl _);have hBl:(Y.flatMap encZ).length=Y.length:=by rw [←hBf,←hBn,lenZ]
      refine W.loop (s1:=stL [.any,(.sl l.length 2 (l.flatMap encC)),(.g (.int .i64 (cut:Int))),(.ptr 0 0),.any,.any,(.g (.bool false)),(.ptr 2 0),(.ptr 4 0),(.ptr 6 0),(.g (.int .i64 (k:Int))),(.sl A.length 1 (A.flatMap encZ)),(.sl B.length 1 (B.flatMap encZ)),(.g (.int .i64 ((0:Nat):Int))),(.g (.int .i64 ((0:Nat):Int))),.any,.any,.any,.any,.any,.any,.any,.any,.any,.any,.any,.any,.any,.any,.any,.any,.any,.any,.any,.any,.any,.any,.any,.any,.any,.any,.any,.any,.any,.any,.any,.any,.any,.any,.any,.any,.any,.any,.any,.any,.any,.any,.any,.any,.any,.any,.any,.any,.any,.any,.any,.any,.any,.any,.any,.any,.any,.any,.any,.any,.any,.any,.any,.any,.any,.any,.any,.any,.any,.any,.any,.any,.any,.any,.any,.any,.any,.any,.any,.any,.any,.any,.any,.any,.any,.any,.any,.any,.any,.any,.any,.any,.any,.any,.any,.any,.any,.any,.any,.any,.any,.any,.any,.any,.any,.any,.any,.any,.any,.any,.any,.any,.any,.any,.any,.any,.any,.any,.any,.any,.any,.any,.any,.any,.any,.any,.any,.any,.any,.any,.any,.any,.any,.any,.any,.any,.any,.any,.any,.any,.any,.any,.any,.any,.any,.any,.any,.any,.any,.any,.any] [(5,.map (encG sealV4 0 (allG (l.drop cut))) (allG (l.drop cut)).length),(6,.cells [.mp 5]),(3,.map (encG sealV4 0 (allG (l.take cut))) (allG (l.take cut)).length),(4,.cells [.mp 3]),(1,.map (encG sealV4 0 (allG l)) (allG l).length),(2,.cells [.mp 1]),(0,.cells [.sl p.length 5 (p.flatMap encNd),.sl st.length 2 (st.flatMap encSt)])] 7) (fun (z:Nat) t=>z≤l.length∧t=stL [.any,(.sl l.length 2 (l.flatMap encC)),(.g (.int .i64 (cut:Int))),(.ptr 0 0),.any,.any,(.g (.bool false)),(.ptr 2 0),(.ptr 4 0),(.ptr 6 0),(.g (.int .i64 (k:Int))),(.sl A.length 1 (A.flatMap encZ)),(.sl B.length 1 (B.flatMap encZ)),(.g (.int .i64 ((idxs (qM p st k) (l.take z)).length:Int))),(.g (.int .i64 (z:Int))),.any,.any,.any,.any,.any,.any,.any,.any,.any,.any,.any,.any,.any,.any,.any,.any,.any,.any,.any,.any,.any,.any,.any,.any,.any,.any,.any,.any,.any,.any,.any,.any,.any,.any,.any,.any,.any,.any,.any,.any,.any,.any,.any,.any,.any,.any,.any,.any,.any,.any,.any,.any,.any,.any,.any,.any,.any,.any,.any,.any,.any,.any,.any,.any,.any,.any,.any,.any,.any,.any,.any,.any,.any,.any,.any,.any,.any,.any,.any,.any,.any,.any,.any,.any,.any,.any,.any,.any,.any,.any,.any,.any,.any,.any,.any,.any,.any,.any,.any,.any,.any,.any,.any,.any,.any,.any,.any,.any,.any,.any,.any,.any,.any,.any,.any,.any,.any,.any,.any,.any,.any,.any,.any,.any,.any,.any,.any,.any,.any,.any,.any,.any,.any,.any,.any,.any,.any,.any,.any,.any,.any,.any,.any,.any,.any,.any,.any,.any,.any,.any,.any] [(5,.map (encG sealV4 0 (allG (l.drop cut))) (allG (l.drop cut)).length),(6,.cells [.mp 5]),(3,.map (encG sealV4 0 (allG (l.take cut))) (allG (l.take cut)).length),(4,.cells [.mp 3]),(1,.map (encG sealV4 0 (allG l)) (allG l).length),(2,.cells [.mp 1]),(0,.cells [.sl p.length 5 (p.flatMap encNd),.sl st.length 2 (st.flatMap encSt)])] 7) (fun z=>l.length - z) 0 ⟨Nat.zero_le _,by simp [idxs]⟩ (sealB (nb:=8) (cs:=Y.flatMap encZ) (by decide) (by simp [getL]) (fun a ha=>by obtain ⟨x,-,hx⟩:=List.mem_flatMap.1 ha;simp [encZ] at hx;subst hx;rfl) (by simp [ltB,ltE_seal,ltL,ltA,getL]) (by simp [getL]) (by
       simp only [frLF_cons,frLF_nil,frAF_any,frAF_self,true_and,and_true];refine ⟨?_,.inr (.inl rfl),.inr (.inl rfl)⟩
       exact .inr (.inr ⟨8,_,0,Y.length,1,_,rfl,rfl,by rw [hBf,hBn,List.drop_zero,Nat.mul_one,hBt],by rw [hBl];omega⟩)) (by simp [keepT_cons,keepT_nil,ltA,ltL])) ?_
      rintro z t ⟨hz,rfl⟩
      by_cases hlz2:z<l.length
      ·have r1:=row_part encC 2 (fun _=>rfl) l z hlz2 0 2 (by decide)
       have r2:=row_fit encC 2 (fun _=>rfl) l z hlz2 (j:=0) (c:=2) (by decide);rw [Nat.add_zero,List.drop_zero,List.take_of_length_le (l:=encC l[z]) (Nat.le_refl 2)] at r1;rw [Nat.add_zero] at r2;have hen:encC l[z]=[.sl l[z].parts.length 2 (l[z].parts.flatMap encP),.g (.string l[z].pseudo)]:=rfl;have HIz:=HI l[z] (List.getElem_mem hlz2);rw [hen] at r1 HIz;have hnx:=idxs_len_take (qM p st k) hlz2;have hh:=hit z hlz2;have hmi:=miss z hlz2;have hcz:=hcl z;rw [List.length_take] at hcz;generalize hcc:(idxs (qM p st k) (l.take z)).length=c at *
       (repeat ((first | with_reducible refine W.step (b:=true) ?_ | skip);simp only [go_sem,↓reduceIte,Nat.reduceAdd,Nat.reduceSub,Nat.reduceMul,Nat.reduceEqDiff,Nat.reduceLeDiff,Nat.reduceLT,Int.reduceLE,Int.reduceLT,Int.reduceToNat,Int.reduceEq,hlz2,r1,r2];(try with_reducible refine drawn hmix (by kernel_rfl) ?_);try with_reducible refine ⟨by kernel_rfl,?_⟩))
       refine AtCallD.mk HIz ?_
       cases hq:qM p st k l[z] with
       | true =>
         obtain ⟨a1,b1⟩:=hh hq;rw [hq,if_pos rfl] at hnx;have ca:c<A.length:=(List.getElem?_eq_some_iff.1 a1).1;have cb:(B.length≤c)=False:=eq_false (by omega);have ca2:(A.flatMap encZ)[c]?=some (.g (.int .i64 (z:Int))):=by rw [mapZ,List.getElem?_map,a1];rfl
         have cb2:c<B.length:=by omega
         have cbi:((B.length:Int)≤(c:Int))=False:=eq_false (by omega)
         by_cases hci:cut≤z
         ·rw [if_pos hci] at b1
          have cb3:(B.flatMap encZ)[c]?=some (.g (.int .i64 ((z:Int) - (cut:Int)))):=by rw [mapZ,List.getElem?_map,b1];rfl
          have fw:IntKind.i64.wrap ((z:Int) - (cut:Int))=(z:Int) - (cut:Int):=by rw [IntWalk.i64_in _ (by omega)]
          have c3:=eq_true hci;have c4:(z<cut)=False:=eq_false (by omega);have c3i:((cut:Int)≤(z:Int))=True:=eq_true (by omega);have c4i:((z:Int)<(cut:Int))=False:=eq_false (by omega)
          (repeat ((first | with_reducible refine W.step (b:=true) ?_ | skip);simp only [go_sem,↓reduceIte,Nat.reduceAdd,Nat.reduceSub,Nat.reduceMul,Nat.reduceEqDiff,Nat.reduceLeDiff,Nat.reduceLT,Int.reduceLE,Int.reduceLT,Int.reduceToNat,Int.reduceEq,ca,cb,cbi,ca2,cb2,cb3,fw,c3,c4,c3i,c4i];(try with_reducible refine drawn hmix (by kernel_rfl) ?_);try with_reducible refine ⟨by kernel_rfl,?_⟩))
          refine ⟨z+1,_,⟨hlz2,rfl⟩,by show l.length - (z+1)<l.length - z;omega,?_⟩;rw [up1 (by omega),up1 (by omega),hnx];exact VS.tm (by simp [leL])
         ·rw [if_neg hci] at b1
          have cb3:(B.flatMap encZ)[c]?=some (.g (.int .i64 (z:Int))):=by rw [mapZ,List.getElem?_map,b1];rfl
          have c3:=eq_false hci;have c4:(z<cut)=True:=eq_true (by omega);have c3i:((cut:Int)≤(z:Int))=False:=eq_false (by omega);have c4i:((z:Int)<(cut:Int))=True:=eq_true (by omega)
          (repeat ((first | with_reducible refine W.step (b:=true) ?_ | skip);simp only [go_sem,↓reduceIte,Nat.reduceAdd,Nat.reduceSub,Nat.reduceMul,Nat.reduceEqDiff,Nat.reduceLeDiff,Nat.reduceLT,Int.reduceLE,Int.reduceLT,Int.reduceToNat,Int.reduceEq,ca,cb,cbi,ca2,cb2,cb3,c3,c4,c3i,c4i];(try with_reducible refine drawn hmix (by kernel_rfl) ?_);try with_reducible refine ⟨by kernel_rfl,?_⟩))
          refine ⟨z+1,_,⟨hlz2,rfl⟩,by show l.length - (z+1)<l.length - z;omega,?_⟩;rw [up1 (by omega),up1 (by omega),hnx];exact VS.tm (by simp [leL])
       | false =>
         have hne:=hmi hq;rw [hq,if_neg (by decide)] at hnx
         by_cases ca:c<A.length
         ·rw [List.getElem?_eq_getElem ca] at hne
          have ca2:(A.flatMap encZ)[c]?=some (.g (.int .i64 A[c])):=by rw [mapZ,List.getElem?_map,List.getElem?_eq_getElem ca];rfl
          have c5:(A[c]=(z:Int))=False:=eq_false (fun e=>hne (by rw [e]))
          (repeat ((first | with_reducible refine W.step (b:=true) ?_ | skip);simp only [go_sem,↓reduceIte,Nat.reduceAdd,Nat.reduceSub,Nat.reduceMul,Nat.reduceEqDiff,Nat.reduceLeDiff,Nat.reduceLT,Int.reduceLE,Int.reduceLT,Int.reduceToNat,Int.reduceEq,ca,ca2,c5];(try with_reducible refine drawn hmix (by kernel_rfl) ?_);try with_reducible refine ⟨by kernel_rfl,?_⟩))
          refine ⟨z+1,_,⟨hlz2,rfl⟩,by show l.length - (z+1)<l.length - z;omega,?_⟩;rw [up1 (by omega),hnx];exact VS.tm (by simp [leL])
         ·(repeat ((first | with_reducible refine W.step (b:=true) ?_ | skip);simp only [go_sem,↓reduceIte,Nat.reduceAdd,Nat.reduceSub,Nat.reduceMul,Nat.reduceEqDiff,Nat.reduceLeDiff,Nat.reduceLT,Int.reduceLE,Int.reduceLT,Int.reduceToNat,Int.reduceEq,ca];(try with_reducible refine drawn hmix (by kernel_rfl) ?_);try with_reducible refine ⟨by kernel_rfl,?_⟩))
          refine ⟨z+1,_,⟨hlz2,rfl⟩,by show l.length - (z+1)<l.length - z;omega,?_⟩;rw [up1 (by omega),hnx];exact VS.tm (by simp [leL])
      ·have hze:z=l.length:=by omega
       subst hze;rw [List.take_length,←hAlen];have ha9:(A.length=B.length)=True:=eq_true hAl;have ha8:((A.length:Int)=(B.length:Int))=True:=eq_true (by omega);have HII:=ints_p A A (by omega);rw [decide_eq_true (rfl:A=A)] at HII
       (repeat ((first | with_reducible refine W.step (b:=false) ?_ | skip);simp only [go_sem,↓reduceIte,Nat.reduceAdd,Nat.reduceSub,Nat.reduceMul,Nat.reduceEqDiff,Nat.reduceLeDiff,Nat.reduceLT,Int.reduceLE,Int.reduceLT,Int.reduceToNat,Int.reduceEq,hlz2,ha9,ha8];try with_reducible refine drawn hmix (by kernel_rfl) ?_))
       refine AtCall.mem (m':=[(1,.map (encG sealV4 0 (allG l)) (allG l).length),(2,.cells [.mp 1]),(5,.map (encG sealV4 0 (allG (l.drop cut))) (allG (l.drop cut)).length),(6,.cells [.mp 5]),(3,.map (encG sealV4 0 (allG (l.take cut))) (allG (l.take cut)).length),(4,.cells [.mp 3]),(0,.cells [.sl p.length 5 (p.flatMap encNd),.sl st.length 2 (st.flatMap encSt)])]) (M1 _ 7 (by decide) rfl rfl) ?_
       (repeat ((first | with_reducible refine W.step (b:=false) ?_ | skip);simp only [go_sem,↓reduceIte,Nat.reduceAdd,Nat.reduceSub,Nat.reduceMul,Nat.reduceEqDiff,Nat.reduceLeDiff,Nat.reduceLT,Int.reduceLE,Int.reduceLT,Int.reduceToNat,Int.reduceEq];try with_reducible refine drawn hmix (by kernel_rfl) ?_))
       refine AtCall.mk HII ?_
       (repeat ((first | with_reducible refine W.step (b:=false) ?_ | skip);simp only [go_sem,↓reduceIte,Nat.reduceAdd,Nat.reduceSub,Nat.reduceMul,Nat.reduceEqDiff,Nat.reduceLeDiff,Nat.reduceLT,Int.reduceLE,Int.reduceLT,Int.reduceToNat,Int.reduceEq];try with_reducible refine drawn hmix (by kernel_rfl) ?_))
       refine ⟨k+1,_,⟨hlt,rfl⟩,by show p.length - (k+1)<p.length - k;omega,?_⟩;rw [up1 (by omega)];exact VSdrop (by simp [ltB,ltE_seal,ltL,ltA,getL]) (by simp [keepT_cons,keepT_nil,ltA,ltL])
     ·have z0:(Z.length=0)=False:=eq_false (fun h=>hZ (List.eq_nil_of_length_eq_zero h))
      have z1:(Y.length+Z.length)*9≤17179869184:=by omega
      have z9:Z.length≠0:=fun h=>hZ (List.eq_nil_of_length_eq_zero h);have z2:(Y.length+Z.length≤Y.length)=False:=eq_false (by omega);have hlz:=lenZ Y
      (repeat ((first | with_reducible refine W.step (b:=true) ?_ | skip);simp only [go_sem,↓reduceIte,Nat.reduceAdd,Nat.reduceSub,Nat.reduceMul,Nat.reduceEqDiff,Nat.reduceLeDiff,Nat.reduceLT,Int.reduceLE,Int.reduceLT,Int.reduceToNat,Int.reduceEq,z0,z1,z2,hlz];(try with_reducible refine drawn hmix (by kernel_rfl) ?_);try with_reducible refine ⟨by kernel_rfl,?_⟩))
      have hBf:B.flatMap encZ=Y.flatMap encZ++Z.flatMap encZ:=by rw [←hB];simp
      have hBn:B.length=(Y.length+Z.length):=by rw [←hB];simp
      have hBt:(Y.flatMap encZ++Z.flatMap encZ).take (Y.length+Z.length)=Y.flatMap encZ++Z.flatMap encZ:=List.take_of_length_le (by rw [←hBf,←hBn,lenZ];exact Nat.le_refl _);have hBl:(Y.flatMap encZ++Z.flatMap encZ).length=(Y.length+Z.length):=by rw [←hBf,←hBn,lenZ]
      refine W.loop (s1:=stL [.any,(.sl l.length 2 (l.flatMap encC)),(.g (.int .i64 (cut:Int))),(.ptr 0 0),.any,.any,(.g (.bool false)),(.ptr 2 0),(.ptr 4 0),(.ptr 6 0),(.g (.int .i64 (k:Int))),(.sl A.length 1 (A.flatMap encZ)),(.sl B.length 1 (B.flatMap encZ)),(.g (.int .i64 ((0:Nat):Int))),(.g (.int .i64 ((0:Nat):Int))),.any,.any,.any,.any,.any,.any,.any,.any,.any,.any,.any,.any,.any,.any,.any,.any,.any,.any,.any,.any,.any,.any,.any,.any,.any,.any,.any,.any,.any,.any,.any,.any,.any,.any,.any,.any,.any,.any,.any,.any,.any,.any,.any,.any,.any,.any,.any,.any,.any,.any,.any,.any,.any,.any,.any,.any,.any,.any,.any,.any,.any,.any,.any,.any,.any,.any,.any,.any,.any,.any,.any,.any,.any,.any,.any,.any,.any,.any,.any,.any,.any,.any,.any,.any,.any,.any,.any,.any,.any,.any,.any,.any,.any,.any,.any,.any,.any,.any,.any,.any,.any,.any,.any,.any,.any,.any,.any,.any,.any,.any,.any,.any,.any,.any,.any,.any,.any,.any,.any,.any,.any,.any,.any,.any,.any,.any,.any,.any,.any,.any,.any,.any,.any,.any,.any,.any,.any,.any,.any,.any,.any,.any,.any,.any,.any,.any,.any,.any,.any,.any,.any] [(5,.map (encG sealV4 0 (allG (l.drop cut))) (allG (l.drop cut)).length),(6,.cells [.mp 5]),(3,.map (encG sealV4 0 (allG (l.take cut))) (allG (l.take cut)).length),(4,.cells [.mp 3]),(1,.map (encG sealV4 0 (allG l)) (allG l).length),(2,.cells [.mp 1]),(0,.cells [.sl p.length 5 (p.flatMap encNd),.sl st.length 2 (st.flatMap encSt)])] 7) (fun (z:Nat) t=>z≤l.length∧t=stL [.any,(.sl l.length 2 (l.flatMap encC)),(.g (.int .i64 (cut:Int))),(.ptr 0 0),.any,.any,(.g (.bool false)),(.ptr 2 0),(.ptr 4 0),(.ptr 6 0),(.g (.int .i64 (k:Int))),(.sl A.length 1 (A.flatMap encZ)),(.sl B.length 1 (B.flatMap encZ)),(.g (.int .i64 ((idxs (qM p st k) (l.take z)).length:Int))),(.g (.int .i64 (z:Int))),.any,.any,.any,.any,.any,.any,.any,.any,.any,.any,.any,.any,.any,.any,.any,.any,.any,.any,.any,.any,.any,.any,.any,.any,.any,.any,.any,.any,.any,.any,.any,.any,.any,.any,.any,.any,.any,.any,.any,.any,.any,.any,.any,.any,.any,.any,.any,.any,.any,.any,.any,.any,.any,.any,.any,.any,.any,.any,.any,.any,.any,.any,.any,.any,.any,.any,.any,.any,.any,.any,.any,.any,.any,.any,.any,.any,.any,.any,.any,.any,.any,.any,.any,.any,.any,.any,.any,.any,.any,.any,.any,.any,.any,.any,.any,.any,.any,.any,.any,.any,.any,.any,.any,.any,.any,.any,.any,.any,.any,.any,.any,.any,.any,.any,.any,.any,.any,.any,.any,.any,.any,.any,.any,.any,.any,.any,.any,.any,.any,.any,.any,.any,.any,.any,.any,.any,.any,.any,.any,.any,.any,.any,.any,.any,.any,.any,.any,.any,.any,.any,.any] [(5,.map (encG sealV4 0 (allG (l.drop cut))) (allG (l.drop cut)).length),(6,.cells [.mp 5]),(3,.map (encG sealV4 0 (allG (l.take cut))) (allG (l.take cut)).length),(4,.cells [.mp 3]),(1,.map (encG sealV4 0 (allG l)) (allG l).length),(2,.cells [.mp 1]),(0,.cells [.sl p.length 5 (p.flatMap encNd),.sl st.length 2 (st.flatMap encSt)])] 7) (fun z=>l.length - z) 0 ⟨Nat.zero_le _,by simp [idxs]⟩ (sealB (nb:=9) (cs:=Y.flatMap encZ++Z.flatMap encZ) (by decide) (by simp [getL]) (fun a ha=>by rcases List.mem_append.1 ha with ha | ha <;> (obtain ⟨x,-,hx⟩:=List.mem_flatMap.1 ha;simp [encZ] at hx;subst hx;rfl)) (by simp [ltB,ltE_seal,ltL,ltA,getL]) (by simp [getL]) (by
       simp only [frLF_cons,frLF_nil,frAF_any,frAF_self,true_and,and_true];refine ⟨?_,.inr (.inl rfl),.inr (.inl rfl)⟩
       exact .inr (.inr ⟨9,_,0,(Y.length+Z.length),1,_,rfl,rfl,by rw [hBf,hBn,List.drop_zero,Nat.mul_one,hBt],by rw [hBl];omega⟩)) (by simp [keepT_cons,keepT_nil,ltA,ltL])) ?_
      rintro z t ⟨hz,rfl⟩
      by_cases hlz2:z<l.length
      ·have r1:=row_part encC 2 (fun _=>rfl) l z hlz2 0 2 (by decide)
       have r2:=row_fit encC 2 (fun _=>rfl) l z hlz2 (j:=0) (c:=2) (by decide);rw [Nat.add_zero,List.drop_zero,List.take_of_length_le (l:=encC l[z]) (Nat.le_refl 2)] at r1;rw [Nat.add_zero] at r2;have hen:encC l[z]=[.sl l[z].parts.length 2 (l[z].parts.flatMap encP),.g (.string l[z].pseudo)]:=rfl;have HIz:=HI l[z] (List.getElem_mem hlz2);rw [hen] at r1 HIz;have hnx:=idxs_len_take (qM p st k) hlz2;have hh:=hit z hlz2;have hmi:=miss z hlz2;have hcz:=hcl z;rw [List.length_take] at hcz;generalize hcc:(idxs (qM p st k) (l.take z)).length=c at *
       (repeat ((first | with_reducible refine W.step (b:=true) ?_ | skip);simp only [go_sem,↓reduceIte,Nat.reduceAdd,Nat.reduceSub,Nat.reduceMul,Nat.reduceEqDiff,Nat.reduceLeDiff,Nat.reduceLT,Int.reduceLE,Int.reduceLT,Int.reduceToNat,Int.reduceEq,hlz2,r1,r2];(try with_reducible refine drawn hmix (by kernel_rfl) ?_);try with_reducible refine ⟨by kernel_rfl,?_⟩))
       refine AtCallD.mk HIz ?_
       cases hq:qM p st k l[z] with
       | true =>
         obtain ⟨a1,b1⟩:=hh hq;rw [hq,if_pos rfl] at hnx;have ca:c<A.length:=(List.getElem?_eq_some_iff.1 a1).1;have cb:(B.length≤c)=False:=eq_false (by omega);have ca2:(A.flatMap encZ)[c]?=some (.g (.int .i64 (z:Int))):=by rw [mapZ,List.getElem?_map,a1];rfl
         have cb2:c<B.length:=by omega
         have cbi:((B.length:Int)≤(c:Int))=False:=eq_false (by omega)
         by_cases hci:cut≤z
         ·rw [if_pos hci] at b1
          have cb3:(B.flatMap encZ)[c]?=some (.g (.int .i64 ((z:Int) - (cut:Int)))):=by rw [mapZ,List.getElem?_map,b1];rfl
          have fw:IntKind.i64.wrap ((z:Int) - (cut:Int))=(z:Int) - (cut:Int):=by rw [IntWalk.i64_in _ (by omega)]
          have c3:=eq_true hci;have c4:(z<cut)=False:=eq_false (by omega);have c3i:((cut:Int)≤(z:Int))=True:=eq_true (by omega);have c4i:((z:Int)<(cut:Int))=False:=eq_false (by omega)
          (repeat ((first | with_reducible refine W.step (b:=true) ?_ | skip);simp only [go_sem,↓reduceIte,Nat.reduceAdd,Nat.reduceSub,Nat.reduceMul,Nat.reduceEqDiff,Nat.reduceLeDiff,Nat.reduceLT,Int.reduceLE,Int.reduceLT,Int.reduceToNat,Int.reduceEq,ca,cb,cbi,ca2,cb2,cb3,fw,c3,c4,c3i,c4i];(try with_reducible refine drawn hmix (by kernel_rfl) ?_);try with_reducible refine ⟨by kernel_rfl,?_⟩))
          refine ⟨z+1,_,⟨hlz2,rfl⟩,by show l.length - (z+1)<l.length - z;omega,?_⟩;rw [up1 (by omega),up1 (by omega),hnx];exact VS.tm (by simp [leL])
         ·rw [if_neg hci] at b1
          have cb3:(B.flatMap encZ)[c]?=some (.g (.int .i64 (z:Int))):=by rw [mapZ,List.getElem?_map,b1];rfl
          have c3:=eq_false hci;have c4:(z<cut)=True:=eq_true (by omega);have c3i:((cut:Int)≤(z:Int))=False:=eq_false (by omega);have c4i:((z:Int)<(cut:Int))=True:=eq_true (by omega)
          (repeat ((first | with_reducible refine W.step (b:=true) ?_ | skip);simp only [go_sem,↓reduceIte,Nat.reduceAdd,Nat.reduceSub,Nat.reduceMul,Nat.reduceEqDiff,Nat.reduceLeDiff,Nat.reduceLT,Int.reduceLE,Int.reduceLT,Int.reduceToNat,Int.reduceEq,ca,cb,cbi,ca2,cb2,cb3,c3,c4,c3i,c4i];(try with_reducible refine drawn hmix (by kernel_rfl) ?_);try with_reducible refine ⟨by kernel_rfl,?_⟩))
          refine ⟨z+1,_,⟨hlz2,rfl⟩,by show l.length - (z+1)<l.length - z;omega,?_⟩;rw [up1 (by omega),up1 (by omega),hnx];exact VS.tm (by simp [leL])
       | false =>
         have hne:=hmi hq;rw [hq,if_neg (by decide)] at hnx
         by_cases ca:c<A.length
         ·rw [List.getElem?_eq_getElem ca] at hne
          have ca2:(A.flatMap encZ)[c]?=some (.g (.int .i64 A[c])):=by rw [mapZ,List.getElem?_map,List.getElem?_eq_getElem ca];rfl
          have c5:(A[c]=(z:Int))=False:=eq_false (fun e=>hne (by rw [e]))
          (repeat ((first | with_reducible refine W.step (b:=true) ?_ | skip);simp only [go_sem,↓reduceIte,Nat.reduceAdd,Nat.reduceSub,Nat.reduceMul,Nat.reduceEqDiff,Nat.reduceLeDiff,Nat.reduceLT,Int.reduceLE,Int.reduceLT,Int.reduceToNat,Int.reduceEq,ca,ca2,c5];(try with_reducible refine drawn hmix (by kernel_rfl) ?_);try with_reducible refine ⟨by kernel_rfl,?_⟩))
          refine ⟨z+1,_,⟨hlz2,rfl⟩,by show l.length - (z+1)<l.length - z;omega,?_⟩;rw [up1 (by omega),hnx];exact VS.tm (by simp [leL])
         ·(repeat ((first | with_reducible refine W.step (b:=true) ?_ | skip);simp only [go_sem,↓reduceIte,Nat.reduceAdd,Nat.reduceSub,Nat.reduceMul,Nat.reduceEqDiff,Nat.reduceLeDiff,Nat.reduceLT,Int.reduceLE,Int.reduceLT,Int.reduceToNat,Int.reduceEq,ca];(try with_reducible refine drawn hmix (by kernel_rfl) ?_);try with_reducible refine ⟨by kernel_rfl,?_⟩))
          refine ⟨z+1,_,⟨hlz2,rfl⟩,by show l.length - (z+1)<l.length - z;omega,?_⟩;rw [up1 (by omega),hnx];exact VS.tm (by simp [leL])
      ·have hze:z=l.length:=by omega
       subst hze;rw [List.take_length,←hAlen];have ha9:(A.length=B.length)=True:=eq_true hAl;have ha8:((A.length:Int)=(B.length:Int))=True:=eq_true (by omega);have HII:=ints_p A A (by omega);rw [decide_eq_true (rfl:A=A)] at HII
       (repeat ((first | with_reducible refine W.step (b:=false) ?_ | skip);simp only [go_sem,↓reduceIte,Nat.reduceAdd,Nat.reduceSub,Nat.reduceMul,Nat.reduceEqDiff,Nat.reduceLeDiff,Nat.reduceLT,Int.reduceLE,Int.reduceLT,Int.reduceToNat,Int.reduceEq,hlz2,ha9,ha8];try with_reducible refine drawn hmix (by kernel_rfl) ?_))
       refine AtCall.mem (m':=[(1,.map (encG sealV4 0 (allG l)) (allG l).length),(2,.cells [.mp 1]),(5,.map (encG sealV4 0 (allG (l.drop cut))) (allG (l.drop cut)).length),(6,.cells [.mp 5]),(3,.map (encG sealV4 0 (allG (l.take cut))) (allG (l.take cut)).length),(4,.cells [.mp 3]),(0,.cells [.sl p.length 5 (p.flatMap encNd),.sl st.length 2 (st.flatMap encSt)])]) (M1 _ 7 (by decide) rfl rfl) ?_
       (repeat ((first | with_reducible refine W.step (b:=false) ?_ | skip);simp only [go_sem,↓reduceIte,Nat.reduceAdd,Nat.reduceSub,Nat.reduceMul,Nat.reduceEqDiff,Nat.reduceLeDiff,Nat.reduceLT,Int.reduceLE,Int.reduceLT,Int.reduceToNat,Int.reduceEq];try with_reducible refine drawn hmix (by kernel_rfl) ?_))
       refine AtCall.mk HII ?_
       (repeat ((first | with_reducible refine W.step (b:=false) ?_ | skip);simp only [go_sem,↓reduceIte,Nat.reduceAdd,Nat.reduceSub,Nat.reduceMul,Nat.reduceEqDiff,Nat.reduceLeDiff,Nat.reduceLT,Int.reduceLE,Int.reduceLT,Int.reduceToNat,Int.reduceEq];try with_reducible refine drawn hmix (by kernel_rfl) ?_))
       refine ⟨k+1,_,⟨hlt,rfl⟩,by show p.length - (k+1)<p.length - k;omega,?_⟩;rw [up1 (by omega)];exact VSdrop (by simp [ltB,ltE_seal,ltL,ltA,getL]) (by simp [keepT_cons,keepT_nil,ltA,ltL])
   ·(repeat ((first | with_reducible refine W.step (b:=false) ?_ | skip);simp only [go_sem,↓reduceIte,Nat.reduceAdd,Nat.reduceSub,Nat.reduceMul,Nat.reduceEqDiff,Nat.reduceLeDiff,Nat.reduceLT,Int.reduceLE,Int.reduceLT,Int.reduceToNat,Int.reduceEq,hlt];try with_reducible refine drawn hmix (by kernel_rfl) ?_))
    exact postP_one _ (.inr rfl) rfl (.plain rfl)
end Go.Proofs.YtlnaihkombcbcaaGreat
namespace Go.Proofs.YtlnaihkombcbcaaGreat
open Go.ChangeShapes Go.WideShapes Go.RowKit Go.Ev
theorem c_ints:Tryz.prog.cellsOf 83=1:=by kernel_rfl
theorem c_attrs:Tryz.prog.cellsOf 221=1:=by kernel_rfl
theorem c_attr:Tryz.prog.cellsOf 225=2:=by kernel_rfl
theorem c_node:Tryz.prog.cellsOf 223=5:=by kernel_rfl
theorem c_stt:Tryz.prog.cellsOf 152=2:=by kernel_rfl
theorem c_page:Tryz.prog.cellsOf 69=1:=by kernel_rfl
theorem c_states:Tryz.prog.cellsOf 70=1:=by kernel_rfl
section
variable {H:Type} {enc:TypeId×Value→H} {W:World} {sp:Nat→Bool} {held:Bool}
theorem open_z (fuel:Nat) (cs:List Value) (x:DataW H×List MemPlace) (h:DataW.trod enc Tryz.prog W 0 sp held fuel 3 cs=some x) (_:Fits Tryz.prog 3 x.1):∃ a:Int,Ats W (encZ a) cs∧True:=by
 obtain ⟨k,e0,-⟩:=DataW.trod_int Tryz.underlying3 h;subst e0;exact ⟨k,VRs.cons_mk rfl (by rw [VRs]),trivial⟩
set_option maxRecDepth 100000 in
theorem open_atr (fuel:Nat) (cs:List Value) (x:DataW H×List MemPlace) (h:DataW.trod enc Tryz.prog W 0 sp held fuel 225 cs=some x) (_:Fits Tryz.prog 225 x.1):∃ a:Atr,Ats W (encA a) cs∧True:=by
 obtain ⟨hl,n,rfl,hf⟩:=field_of Tryz.underlying225 h;rw [show Tryz.prog.cellsOf 225=2 by kernel_rfl] at hl;obtain ⟨c0,c1,rfl⟩:∃ c0 c1,cs=[c0,c1]:=by
  match cs,hl with
  | [a,b],_=>exact ⟨a,b,rfl⟩
 obtain ⟨y0,h0,f0⟩:∃ y,DataW.trod enc Tryz.prog W 0 sp held n 9 ((List.drop 0 [c0,c1]).take (Tryz.prog.cellsOf 9))=some y∧(Fits Tryz.prog 225 x.1→Fits Tryz.prog 9 y.1):=hf 0 _ rfl;obtain ⟨y1,h1,f1⟩:∃ y,DataW.trod enc Tryz.prog W 0 sp held n 9 ((List.drop 1 [c0,c1]).take (Tryz.prog.cellsOf 9))=some y∧(Fits Tryz.prog 225 x.1→Fits Tryz.prog 9 y.1):=hf 1 _ rfl;simp only [c_int,c_str,c_ints,c_attrs,c_page,c_states,List.drop,List.take] at h0 h1;obtain ⟨a,e0,-⟩:=DataW.trod_string Tryz.underlying9 h0;obtain ⟨b,e1,-⟩:=DataW.trod_string Tryz.underlying9 h1;simp only [List.cons.injEq,and_true] at e0 e1;subst e0 e1;exact ⟨⟨a,b⟩,VRs.cons_mk rfl (VRs.cons_mk rfl (by rw [VRs])),trivial⟩
set_option maxRecDepth 100000 in
theorem open_stt (fuel:Nat) (cs:List Value) (x:DataW H×List MemPlace) (h:DataW.trod enc Tryz.prog W 0 sp held fuel 152 cs=some x) (_:Fits Tryz.prog 152 x.1):∃ a:Stt,Ats W (encSt a) cs∧True:=by
 obtain ⟨hl,n,rfl,hf⟩:=field_of Tryz.underlying152 h;rw [show Tryz.prog.cellsOf 152=2 by kernel_rfl] at hl;obtain ⟨c0,c1,rfl⟩:∃ c0 c1,cs=[c0,c1]:=by
  match cs,hl with
  | [a,b],_=>exact ⟨a,b,rfl⟩
 obtain ⟨y0,h0,f0⟩:∃ y,DataW.trod enc Tryz.prog W 0 sp held n 3 ((List.drop 0 [c0,c1]).take (Tryz.prog.cellsOf 3))=some y∧(Fits Tryz.prog 152 x.1→Fits Tryz.prog 3 y.1):=hf 0 _ rfl;obtain ⟨y1,h1,f1⟩:∃ y,DataW.trod enc Tryz.prog W 0 sp held n 9 ((List.drop 1 [c0,c1]).take (Tryz.prog.cellsOf 9))=some y∧(Fits Tryz.prog 152 x.1→Fits Tryz.prog 9 y.1):=hf 1 _ rfl;simp only [c_int,c_str,c_ints,c_attrs,c_page,c_states,List.drop,List.take] at h0 h1;obtain ⟨a,e0,-⟩:=DataW.trod_int Tryz.underlying3 h0;obtain ⟨b,e1,-⟩:=DataW.trod_string Tryz.underlying9 h1;simp only [List.cons.injEq,and_true] at e0 e1;subst e0 e1;exact ⟨⟨a,b⟩,VRs.cons_mk rfl (VRs.cons_mk rfl (by rw [VRs])),trivial⟩
set_option maxRecDepth 100000 in
theorem open_nod (fuel:Nat) (cs:List Value) (x:DataW H×List MemPlace) (h:DataW.trod enc Tryz.prog W 0 sp held fuel 223 cs=some x) (hfit:Fits Tryz.prog 223 x.1):∃ a:Nod,Ats W (encNd a) cs∧True:=by
 obtain ⟨hl,n,rfl,hf⟩:=field_of Tryz.underlying223 h;rw [show Tryz.prog.cellsOf 223=5 by kernel_rfl] at hl;obtain ⟨c0,c1,c2,c3,c4,rfl⟩:∃ c0 c1 c2 c3 c4,cs=[c0,c1,c2,c3,c4]:=by
  match cs,hl with
  | [a,b,c,d,e],_=>exact ⟨a,b,c,d,e,rfl⟩
 obtain ⟨y0,h0,f0⟩:∃ y,DataW.trod enc Tryz.prog W 0 sp held n 9 ((List.drop 0 [c0,c1,c2,c3,c4]).take (Tryz.prog.cellsOf 9))=some y∧(Fits Tryz.prog 223 x.1→Fits Tryz.prog 9 y.1):=hf 0 _ rfl;obtain ⟨y1,h1,f1⟩:∃ y,DataW.trod enc Tryz.prog W 0 sp held n 221 ((List.drop 1 [c0,c1,c2,c3,c4]).take (Tryz.prog.cellsOf 221))=some y∧(Fits Tryz.prog 223 x.1→Fits Tryz.prog 221 y.1):=hf 1 _ rfl;obtain ⟨y2,h2,f2⟩:∃ y,DataW.trod enc Tryz.prog W 0 sp held n 9 ((List.drop 2 [c0,c1,c2,c3,c4]).take (Tryz.prog.cellsOf 9))=some y∧(Fits Tryz.prog 223 x.1→Fits Tryz.prog 9 y.1):=hf 2 _ rfl;obtain ⟨y3,h3,f3⟩:∃ y,DataW.trod enc Tryz.prog W 0 sp held n 3 ((List.drop 3 [c0,c1,c2,c3,c4]).take (Tryz.prog.cellsOf 3))=some y∧(Fits Tryz.prog 223 x.1→Fits Tryz.prog 3 y.1):=hf 3 _ rfl;obtain ⟨y4,h4,f4⟩:∃ y,DataW.trod enc Tryz.prog W 0 sp held n 83 ((List.drop 4 [c0,c1,c2,c3,c4]).take (Tryz.prog.cellsOf 83))=some y∧(Fits Tryz.prog 223 x.1→Fits Tryz.prog 83 y.1):=hf 4 _ rfl;simp only [c_int,c_str,c_ints,c_attrs,c_page,c_states,List.drop,List.take] at h0 h1 h2 h3 h4;obtain ⟨nm,e0,-⟩:=DataW.trod_string Tryz.underlying9 h0;obtain ⟨l,v,e1,hv,-,-⟩:=open_sl (fun _=>True) encA 2 (fun _=>rfl) (by decide) Tryz.underlying221 c_attr (fun m _=>open_atr m) h1 (f1 hfit);obtain ⟨tx,e2,-⟩:=DataW.trod_string Tryz.underlying9 h2;obtain ⟨u,e3,-⟩:=DataW.trod_int Tryz.underlying3 h3;obtain ⟨ks,w,e4,hw,-,-⟩:=open_sl (fun _=>True) encZ 1 (fun _=>rfl) (by decide) Tryz.underlying83 c_int (fun m _=>open_z m) h4 (f4 hfit);simp only [List.cons.injEq,and_true] at e0 e1 e2 e3 e4;subst e0 e1 e2 e3 e4;exact ⟨⟨nm,l,tx,u,ks⟩,VRs.cons_mk rfl (VRs.cons_mk hv (VRs.cons_mk rfl (VRs.cons_mk rfl (VRs.cons_mk hw (by rw [VRs]))))),trivial⟩
set_option maxRecDepth 1000000 in
theorem open_world {base:Nat} {v:Value} {d:DataW H} {ps:List MemPlace} (hval:Value.okWide Tryz.prog W .any base 72 v) (h:DataW.Trod enc Tryz.prog W 0 sp held 72 v d ps) (hfit:Fits Tryz.prog 72 d) :
 ∃ (p:List Nod) (st:List Stt),At W (.agg [.sl p.length 5 (p.flatMap encNd),.sl st.length 2 (st.flatMap encSt)]) v:=by
 obtain ⟨fuel,hv⟩:=h;obtain ⟨cells,rfl,-⟩:=okWide_struct Tryz.underlying72 hval;obtain ⟨x,hx⟩:∃ x,x=(d,ps):=⟨_,rfl⟩;have hfit:Fits Tryz.prog 72 x.1:=by rw [hx];exact hfit
 rw [←hx] at hv;obtain ⟨cs,hcs⟩:∃ cs,(Value.agg cells).cells.toList=cs:=⟨_,rfl⟩;have h:DataW.trod enc Tryz.prog W 0 sp held fuel 72 cs=some x:=by rw [←hcs];exact hv
 clear hx;obtain ⟨hl,n,rfl,hf⟩:=field_of Tryz.underlying72 h;rw [show Tryz.prog.cellsOf 72=2 by kernel_rfl] at hl;obtain ⟨c0,c1,rfl⟩:∃ c0 c1,cs=[c0,c1]:=by
  match cs,hl with
  | [a,b],_=>exact ⟨a,b,rfl⟩
 obtain ⟨y0,h0,f0⟩:∃ y,DataW.trod enc Tryz.prog W 0 sp held n 69 ((List.drop 0 [c0,c1]).take (Tryz.prog.cellsOf 69))=some y∧(Fits Tryz.prog 72 x.1→Fits Tryz.prog 69 y.1):=hf 0 _ rfl;obtain ⟨y1,h1,f1⟩:∃ y,DataW.trod enc Tryz.prog W 0 sp held n 70 ((List.drop 1 [c0,c1]).take (Tryz.prog.cellsOf 70))=some y∧(Fits Tryz.prog 72 x.1→Fits Tryz.prog 70 y.1):=hf 1 _ rfl;simp only [c_int,c_str,c_ints,c_attrs,c_page,c_states,List.drop,List.take] at h0 h1;obtain ⟨p,v0,e0,hv0,-,-⟩:=open_sl (fun _=>True) encNd 5 (fun _=>rfl) (by decide) Tryz.underlying69 c_node (fun m _=>open_nod m) h0 (f0 hfit);obtain ⟨st,v1,e1,hv1,-,-⟩:=open_sl (fun _=>True) encSt 2 (fun _=>rfl) (by decide) Tryz.underlying70 c_stt (fun m _=>open_stt m) h1 (f1 hfit);simp only [List.cons.injEq,and_true] at e0 e1;subst e0 e1;refine ⟨p,st,cells,rfl,?_⟩;have hc:cells.toList=[c0,c1]:=by simpa [Value.cells] using hcs
 rw [hc];exact VRs.cons_mk hv0 (VRs.cons_mk hv1 (by rw [VRs]))
end
end Go.Proofs.YtlnaihkombcbcaaGreat
namespace Go.Proofs.YtlnaihkombcbcaaGreat
open Go.ChangeShapes Go.WideShapes Go.ChangeAt Go.RowKit Go.Ev
theorem own:ownKnob Tryz.prog.godebug=none:=by kernel_rfl
section
variable {H:Type} {enc:TypeId×Value→H} {P:Program}
theorem post_of_below {f:Func} {s:ChangeSpec} {apart fresh handsOn again:Bool} {W W':World} {args:Array Value} {v:Value} {ds gs:List (DataW H)} {before pa pv:List MemPlace}
 (hW:DataW.Whole enc P f.params.toList s.vars apart W args.toList ds gs before)
 (hres:∀ (b:Nat) (sp:Nat→Bool) (hd:Bool),DataW.TrodAll enc P W' b sp hd f.resultTypes.toList (v.resultList f.resultTypes.size) (s.fn H (ds++gs)).results [])
 (hargs:∀ sp:Nat→Bool,(∀ p∈before,sp p.block=true)→DataW.TrodAll enc P W' 0 sp true f.params.toList args.toList (s.fn H (ds++gs)).args pa)
 (hvars:∀ sp:Nat→Bool,(∀ p∈before,sp p.block=true)→DataW.TrodVars enc P W' sp s.vars (s.fn H (ds++gs)).vars pv)
 (hps:before=pa++pv) (hB:Below W.heap.size W W')
 (hok:∀ (j:Nat) (t:TypeId) (r:Value),f.resultTypes[j]?=some t→(v.resultList f.resultTypes.size)[j]?=some r→Value.okWide P W' .any 0 t r) :
 s.post enc P f apart fresh handsOn again W args v W':=by
 have hold:∀ p∈before,(fun b=>decide (b<W.heap.size)) p.block=true:=fun p hp=>by simpa using hW.lt p hp
 have hlt:=fun p hp=>hW.lt p hp;refine ⟨ds,gs,before,[],pa,pv,hW,hres _ _ _,hargs _ hold,hvars _ hold,World.keptBut_mono (fun p hp=>⟨hp,?_⟩) (hB.frame (·∈before)),fun _=>?_⟩
 ·rw [hps,List.mem_append] at hp
  exact Or.inr hp
 ·obtain ⟨_,_,_,_,_,hz,hn⟩:=hW
  refine ⟨hok,_,_,([]++pa)++pv,⟨[]++pa,pv,trodAll_append (hargs _ (fun _ _=>rfl)) (hres _ _ _),hvars _ (fun _ _=>rfl),rfl,?_,?_⟩,?_⟩
  ·intro b off hp
   have hp':MemPlace.cell b off∈before:=by rw [hps];simpa using hp
   rw [hB.frozen (hlt _ hp')];exact hz b off hp'
  ·intro ha
   have:=hn ha;rw [hps] at this;simpa using this
  ·intro p hp _
   rw [hps];simpa using hp
end
theorem readableCxs:Tryz.prog.readableRec 50=true:=by kernel_rfl
theorem inTableCxs:50<Tryz.prog.types.size:=of_decide_eq_true (by kernel_rfl)
theorem readableW:Tryz.prog.readableRec 72=true:=by kernel_rfl
theorem inTableW:72<Tryz.prog.types.size:=of_decide_eq_true (by kernel_rfl)
theorem readableI:Tryz.prog.readableRec 3=true:=by kernel_rfl
theorem inTableI:3<Tryz.prog.types.size:=of_decide_eq_true (by kernel_rfl)
namespace quickSame
set_option maxRecDepth 1000000 in
theorem contract (H:Type) (enc:TypeId×Value→H) (W:World) (base:Nat) (args:Array Value) (ds gs:List (DataW H)) (before:List MemPlace)
 (hval:∀ (j:Nat) t v,Tryz.f11.params[j]?=some t→args[j]?=some v→Value.okWide Tryz.prog W .any base t v)
 (hW:DataW.Whole enc Tryz.prog Tryz.f11.params.toList Rows.quickSameSpec.vars false W args.toList ds gs before)
 (hw:(DataW.weightsEach Tryz.prog (Tryz.f11.params.toList++Rows.quickSameSpec.plain.varTypes Tryz.prog) (ds++gs)).all (·≤reachBytes)=true) :
 Calls Tryz.prog 11 args W fun e W'=>∃ v,e=.returned v∧Rows.quickSameSpec.post enc Tryz.prog Tryz.f11 false true false false W args v W':=by
 have hW':=hW;obtain ⟨p,q,hA0,hV,rfl,hfz,hnd⟩:=hW;have hA:DataW.TrodAll enc Tryz.prog W 0 (fun _=>true) true Tryz.f11.params.toList args.toList ds p:=hA0;rw [show Tryz.f11.params=#[72,50,3] by kernel_rfl] at hA hval hw;obtain ⟨v0,vs0,d0,ds0,p0,q0,hargs,rfl,rfl,h0,r0⟩:=trodAll_cons hA;obtain ⟨v1,vs1,d1,ds1,p1,q1,rfl,rfl,rfl,h1,r1⟩:=trodAll_cons r0;obtain ⟨v2,vs2,d2,ds2,p2,q2,rfl,rfl,rfl,h2,r2⟩:=trodAll_cons r1;obtain ⟨rfl,rfl,rfl⟩:=trodAll_nil r2;obtain rfl:args=#[v0,v1,v2]:=by cases args;simp_all
 obtain ⟨rfl,rfl⟩:=trodVars_none hV;have hw':=List.all_eq_true.1 hw;have fit0:Fits Tryz.prog 72 d0:=fun x hx=>by
  simpa using hw' x (mem_weightsEach (i:=0) rfl rfl x hx)
 have fit1:Fits Tryz.prog 50 d1:=fun x hx=>by
  simpa using hw' x (mem_weightsEach (i:=1) rfl rfl x hx)
 obtain ⟨pg,st,hpg⟩:=open_world (hval 0 72 v0 (by simp) (by simp)) h0 fit0;obtain ⟨a,ha,ga⟩:=open_cxs (hval 1 50 v1 (by simp) (by simp)) h1 fit1;obtain ⟨n,rfl⟩:=okWide_int Tryz.underlying3 (hval 2 3 v2 (by simp) (by simp));clear hA0;have hlt0:∀ x∈p0,x.block<W.heap.size:=fun x hx=>by simpa using hW'.lt x (by simp [hx])
 have hlt1:∀ x∈p1,x.block<W.heap.size:=fun x hx=>by simpa using hW'.lt x (by simp [hx])
 have hlt2:∀ x∈p2,x.block<W.heap.size:=fun x hx=>by simpa using hW'.lt x (by simp [hx])
 refine ((same13_p pg st a n ga).pure.at W #[v0,v1,.int .i64 n] (fun g cs h=>by cases h) (VRs.cons_mk hpg (VRs.cons_mk ha (VRs.cons_mk rfl (by rw [VRs]))))).mono ?_;rintro e W' ⟨r,rfl,hr,hB⟩;obtain rfl:r=.bool true:=hr
 exact ⟨_,rfl,post_of_below (pa:=p0++(p1++(p2++[]))) (pv:=[]) hW' (fun _ _ _=>trodAll_cons_mk (shut_bool Tryz.underlying4 _) trodAll_mk0)
  (fun sp hsp=>trodAll_cons_mk (WideElems.Trod_stays p_laid readableW inTableW h0 (fun x hx=>hB.same (hlt0 x hx)) (fun x hx=>hsp x (by simp [hx])))
    (trodAll_cons_mk (WideElems.Trod_stays p_laid readableCxs inTableCxs h1 (fun x hx=>hB.same (hlt1 x hx)) (fun x hx=>hsp x (by simp [hx])))
      (trodAll_cons_mk (WideElems.Trod_stays p_laid readableI inTableI h2 (fun x hx=>hB.same (hlt2 x hx)) (fun x hx=>hsp x (by simp [hx]))) trodAll_mk0)))
  (fun _ _=>rfl) rfl hB (ok_one (by kernel_rfl) rfl (okWide_bool_mk Tryz.underlying4 _))⟩
set_option maxRecDepth 100000 in
theorem lifted (os:Os) (started:os.Started) (H:Type) (enc:TypeId×Value→H) :
 ReturnsInHanded {} Tryz.checked os 11 .any (Rows.quickSameSpec.pre6 enc Tryz.prog Tryz.f11 Rows.quickSameRow.domain false) (Rows.quickSameSpec.post enc Tryz.prog Tryz.f11 false true false false):=by
 refine returnsInHanded_of_change_sized (C:=Tryz.checked) own started (by kernel_rfl) Tryz.func11
  (ChangeSpec.witness6 (enc:=enc) (C:=Tryz.checked) false ⟨#[],#[.agg #[.slice none 0 0,.slice none 0 0],.slice none 0 0,.int .i64 0],[]⟩ 8 (by kernel_rfl) (by kernel_rfl) (by kernel_rfl) (by kernel_rfl)) ?_
 intro W base args ds gs before hval hW _ hw _;exact contract H enc W base args ds gs before hval hW hw
theorem said:Rows.QuickSameSaid :=
 OpenClaim.holds_of_wide 11 Tryz.f11 rfl rfl rfl rfl rfl rfl rfl ⟨rfl,rfl,rfl,rfl,rfl⟩ rfl rfl rfl rfl rfl row_named Tryz.func11 closed
  (of_decide_eq_true (by kernel_rfl)) row_wrapper
  (fun os started H enc _=>lifted os started H enc)
end quickSame
end Go.Proofs.YtlnaihkombcbcaaGreat
end
