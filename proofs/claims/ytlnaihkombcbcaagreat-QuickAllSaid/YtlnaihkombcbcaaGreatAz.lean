/- The law QuickAll is true of every input: the statement of the first form. -/
import Derived.Test.YtlnaihkombcbcaaGreatAd4
import Derived.Test.YtlnaihkombcbcaaGreatAc8
import Derived.WalkKit
import Derived.ProofKit
import Derived.OpenShut
import Derived.SizedLaws
import Derived.WideKeyArgs
set_option linter.unusedSimpArgs false
noncomputable section
namespace Go.Proofs.YtlnaihkombcbcaaGreat
open Go.RowKit Go.Ev
attribute [local go_sem] eq_self false_and and_false Bool.false_eq_true List.set_cons_succ List.set_cons_zero List.getD_cons_succ List.getD_cons_zero List.getElem?_cons_succ List.getElem?_cons_zero true_and and_true and_self Bool.not_true Bool.not_false Nat.add_zero Nat.zero_add Nat.mul_one Int.toNat_natCast Int.natCast_nonneg Int.ofNat_lt Option.bind_some Option.map_some List.map_cons List.map_nil decide_true decide_false BEq.rfl Bool.and_self Bool.and_true Bool.and_false beq_self_eq_true List.cons_append List.nil_append List.take_zero List.take_succ_cons List.take_nil List.drop_succ_cons List.drop_zero List.drop_nil List.append_nil List.length_cons List.length_nil List.all_cons List.all_nil Nat.le_refl Int.le_refl Option.map_none List.replicate_zero List.replicate_succ Nat.zero_mul Nat.sub_zero Nat.zero_le Nat.le_zero_eq getR_nil Option.some_or Option.none_or Option.or_none Option.isSome_some Option.isSome_none Option.getD_some Option.getD_none Int.toNat_zero Int.natCast_zero Int.natCast_one Int.cast_ofNat_Int List.toList_toArray
attribute [go_sem] appL newsA isSlice
theorem ei_cxs:elemI Tryz.prog 50=some (2,40,true):=by kernel_rfl
theorem un_cxs:slOrStr (Tryz.prog.underlying 50)=true:=by kernel_rfl
attribute [go_sem] ei_cxs un_cxs
def hY (a c:Nat):Nat:=if c=3 then a else if c=4 then a+1 else c
theorem renY {G G':Gr} {cs:List AV} {l l':List AV} {m:ML} {n a:Nat} (ha:3≤a) (hc:noIdsL cs=true) (h0:getL m 0=some (.cells cs)) (h1:getL m 1=some (.map (encG sealV4 0 G) G.length)) (h2:getL m 2=some (.cells [.mp 1])) (h3:getL m a=some (.map (encG sealV4 0 G') G'.length)) (h4:getL m (a+1)=some (.cells [.mp a])) (hl:reT (hY a) 5 l' l) :
 VS gt0 .none (stL l m n) (stL l' [(3,.map (encG sealV4 0 G') G'.length),(4,.cells [.mp 3]),(1,.map (encG sealV4 0 G) G.length),(2,.cells [.mp 1]),(0,.cells cs)] 5):=by
 have get:∀ {c:Nat} {k:Blk},getL [(3,Blk.map (encG sealV4 0 G') G'.length),(4,.cells [.mp 3]),(1,.map (encG sealV4 0 G) G.length),(2,.cells [.mp 1]),(0,.cells cs)] c=some k→(c=3∧k=.map (encG sealV4 0 G') G'.length)∨(c=4∧k=.cells [.mp 3])∨(c=1∧k=.map (encG sealV4 0 G) G.length)∨(c=2∧k=.cells [.mp 1])∨(c=0∧k=.cells cs):=by
  intro c k h;have:=getL_mem h;simp only [List.mem_cons,List.not_mem_nil,or_false,Prod.mk.injEq] at this;exact this
 refine VS.renF (hY a) (fun c hc=>absurd hc (Nat.not_lt_zero _)) (fun _ _=>Nat.zero_le _) (Nat.zero_le _) (fun c c' k k' h h' e=>?_) (fun c k h=>?_) hl
 ·have g1:c≤4:=by rcases get h with ⟨rfl,-⟩ | ⟨rfl,-⟩ | ⟨rfl,-⟩ | ⟨rfl,-⟩ | ⟨rfl,-⟩ <;> decide
  have g2:c'≤4:=by rcases get h' with ⟨rfl,-⟩ | ⟨rfl,-⟩ | ⟨rfl,-⟩ | ⟨rfl,-⟩ | ⟨rfl,-⟩ <;> decide
  unfold hY at e
  split at e <;> split at e <;> (try split at e) <;> (try split at e) <;> omega
 ·have e0:hY a 0=0:=rfl
  have e1:hY a 1=1:=rfl;have e2:hY a 2=2:=rfl;have e3:hY a 3=a:=rfl;have e4:hY a 4=a+1:=rfl;rcases get h with ⟨rfl,rfl⟩ | ⟨rfl,rfl⟩ | ⟨rfl,rfl⟩ | ⟨rfl,rfl⟩ | ⟨rfl,rfl⟩
  ·exact ⟨by decide,by rw [ltB,ltE_seal];trivial,by rw [e3,h3,reFB,reFE_seal]⟩
  ·exact ⟨by decide,by simp [ltB,ltL,ltA],by rw [e4,h4,reFB,reFL,reFL,reF,e3]⟩
  ·exact ⟨by decide,by rw [ltB,ltE_seal];trivial,by rw [e1,h1,reFB,reFE_seal]⟩
  ·exact ⟨by decide,by simp [ltB,ltL,ltA],by rw [e2,h2,reFB,reFL,reFL,reF,e1]⟩
  ·exact ⟨by decide,ltL_id _ _ hc,by rw [e0,h0,reFB,reFL_id _ _ hc]⟩
def Sc (nb:Nat) (cs:List AV) (c:Nat):Option (List AV):=if c=nb then some cs else none
def h5 (nb c:Nat):Nat:=if c=5 then nb else c
theorem grow5 {cs:List AV} {M m:ML} {l l':List AV} {n nb:Nat} (hnb:5≤nb) (hcs:noIdsL cs=true) (hb:getL m nb=some (.cells cs)) (hM:∀ p∈M,p.1<5∧ltB 6 p.2∧reFB (h5 nb) p.2=p.2∧getL m p.1=some p.2) (hl:reT (h5 nb) 6 l' l) :
 VS gt0 .none (stL l m n) (stL l' ((5,.cells cs)::M) 6):=by
 have get:∀ {c:Nat} {k:Blk},getL ((5,Blk.cells cs)::M) c=some k→(c=5∧k=.cells cs)∨(c<5∧(c,k)∈M):=by
  intro c k h;rw [getL] at h
  split at h
  ·rename_i e;cases h;exact .inl ⟨e.symm,rfl⟩
  ·exact .inr ⟨(hM _ (getL_mem h)).1,getL_mem h⟩
 refine VS.renF (h5 nb) (fun c hc=>absurd hc (Nat.not_lt_zero _)) (fun _ _=>Nat.zero_le _) (Nat.zero_le _) (fun c c' k k' h h' e=>?_) (fun c k h=>?_) hl
 ·have g1:c≤5:=by rcases get h with ⟨e,-⟩ | ⟨h1,-⟩ <;> omega
  have g2:c'≤5:=by rcases get h' with ⟨e,-⟩ | ⟨h1,-⟩ <;> omega
  unfold h5 at e
  split at e <;> split at e <;> omega
 ·rcases get h with ⟨rfl,rfl⟩ | ⟨h1,h2⟩
  ·exact ⟨by decide,ltL_id _ _ hcs,by rw [show h5 nb 5=nb from rfl,hb,reFB,reFL_id _ _ hcs]⟩
  ·obtain ⟨g1,g2,g3,g4⟩:=hM _ h2
   have e:h5 nb c=c:=by unfold h5;rw [if_neg (by have g1:c<5:=g1;omega)]
   exact ⟨Nat.lt_succ_of_lt g1,g2,by rw [e,g3];exact g4⟩
theorem seal5 {M m:ML} {l l' cs:List AV} {n nb N:Nat} (hnb:N≤nb) (hb:getL m nb=some (.cells cs)) (hp:∀ a∈cs,plainA a=true) (hM:∀ p∈M,p.1<N∧ltB N p.2∧getL m p.1=some p.2) (hM2:∀ p∈M,getL M p.1=some p.2) (hl:frLF (Sc nb cs) l' l) (hk:keepT N l' l') :
 VS gt0 .none (stL l m n) (stL l' M N):=by
 refine VS.trans (VS.sealF (m':=M) (Sc nb cs) (fun c x hx=>?_) hl fun c x hc=>?_) (VSdrop (m':=M) (fun p hp=>⟨(hM p hp).1,(hM p hp).2.1,hM2 p hp⟩) hk)
 ·unfold Sc at hx
  split at hx
  ·rename_i e;cases hx;subst e;exact ⟨hb,hp⟩
  ·cases hx
 ·have h1:=hM _ (getL_mem hc)
  exact ⟨by unfold Sc;rw [if_neg (by have:=h1.1;omega)],.inl h1.2.2⟩
set_option maxRecDepth 100000 in
set_option maxHeartbeats 4000000 in
theorem all13_p (p:List Nod) (st:List Stt) (l:List Cx) (hg:∀ c∈l,c.parts.length≤140737488351232):PureN Tryz.prog gt0 12 [.agg [.sl p.length 5 (p.flatMap encNd),.sl st.length 2 (st.flatMap encSt)],.sl l.length 2 (l.flatMap encC)] (.g (.bool true)):=by
 have HS:=small13_p p st l hg;refine PureN.of_w (c:=_) Tryz.func12 rfl (by kernel_rfl) rfl ?_;simp only [Tryz.f12,List.replicate,List.length_cons,List.length_nil,Nat.reduceAdd,Nat.reduceSub,List.cons_append,List.nil_append]
 (repeat ((first | with_reducible refine W.step (b:=false) ?_ | skip);simp only [go_sem,↓reduceIte,Nat.reduceAdd,Nat.reduceSub,Nat.reduceMul,Nat.reduceEqDiff,Nat.reduceLeDiff,Nat.reduceLT,Int.reduceLE,Int.reduceLT,Int.reduceToNat,Int.reduceEq];try with_reducible refine drawn hmix (by kernel_rfl) ?_))
 refine AtCall.mk fixed13_p ?_
 (repeat ((first | with_reducible refine W.step (b:=false) ?_ | skip);simp only [go_sem,↓reduceIte,Nat.reduceAdd,Nat.reduceSub,Nat.reduceMul,Nat.reduceEqDiff,Nat.reduceLeDiff,Nat.reduceLT,Int.reduceLE,Int.reduceLT,Int.reduceToNat,Int.reduceEq];try with_reducible refine drawn hmix (by kernel_rfl) ?_))
 refine AtCall.mk HS ?_
 cases hsm:smallB p st l with
 | false =>
   (repeat ((first | with_reducible refine W.step (b:=false) ?_ | skip);simp only [go_sem,↓reduceIte,Nat.reduceAdd,Nat.reduceSub,Nat.reduceMul,Nat.reduceEqDiff,Nat.reduceLeDiff,Nat.reduceLT,Int.reduceLE,Int.reduceLT,Int.reduceToNat,Int.reduceEq];try with_reducible refine drawn hmix (by kernel_rfl) ?_))
   refine AtCall.mk fixed13_p ?_
   (repeat ((first | with_reducible refine W.step (b:=false) ?_ | skip);simp only [go_sem,↓reduceIte,Nat.reduceAdd,Nat.reduceSub,Nat.reduceMul,Nat.reduceEqDiff,Nat.reduceLeDiff,Nat.reduceLT,Int.reduceLE,Int.reduceLT,Int.reduceToNat,Int.reduceEq];try with_reducible refine drawn hmix (by kernel_rfl) ?_))
   exact postP_one _ (.inr rfl) rfl (.plain rfl)
 | true =>
   obtain ⟨hA,hp40,hl40⟩:=small_asked hsm;have hA0:Asked p st []:=⟨hA.pg,hA.tiny,hA.st,by decide,fun c hc=>by simp at hc⟩;have f0:((40:Int)<(l.length:Int))=False:=eq_false (by omega);have hA2:Asked p st (l++l):=⟨hA.pg,hA.tiny,hA.st,by rw [List.length_append];omega,fun c hc=>hA.sel c (by simpa using hc)⟩
   (repeat ((first | with_reducible refine W.step (b:=false) ?_ | skip);simp only [go_sem,↓reduceIte,Nat.reduceAdd,Nat.reduceSub,Nat.reduceMul,Nat.reduceEqDiff,Nat.reduceLeDiff,Nat.reduceLT,Int.reduceLE,Int.reduceLT,Int.reduceToNat,Int.reduceEq,f0];try with_reducible refine drawn hmix (by kernel_rfl) ?_))
   refine AtCall.mem (new_at l (by omega) (fun c hc=>okQ_cx (hA.sel c hc)) _ _) ?_;have l4:(l.flatMap encC).length=l.length*2:=flatMap_len (enc:=encC) (sz:=2) (fun _=>rfl) l;have l5:(l.flatMap encC).take (l.length*2)=l.flatMap encC:=List.take_of_length_le (by omega);have l6:(l.flatMap encC).all isCell=true:=List.all_eq_true.2 fun a ha=>by
    obtain ⟨y,-,hy⟩:=List.mem_flatMap.1 ha;simp only [encC,List.mem_cons,List.not_mem_nil,or_false] at hy;rcases hy with rfl | rfl <;> rfl
   by_cases hl0:l.length=0
   ·have l0:=eq_true hl0
    have hl9:l=[]:=List.eq_nil_of_length_eq_zero hl0
    (repeat ((first | with_reducible refine W.step (b:=false) ?_ | skip);simp only [go_sem,↓reduceIte,Nat.reduceAdd,Nat.reduceSub,Nat.reduceMul,Nat.reduceEqDiff,Nat.reduceLeDiff,Nat.reduceLT,Int.reduceLE,Int.reduceLT,Int.reduceToNat,Int.reduceEq,l0,l4,l5,l6];try with_reducible refine drawn hmix (by kernel_rfl) ?_))
    have hBf:(l++l).flatMap encC=([]:List AV):=by rw [hl9];rfl
    have hBn:(l++l).length=0:=by have h:=@List.length_append _ l l;omega
    have hBl:(([]:List AV)).length=0*2:=by rw [←hBf,←hBn];exact flatMap_len (enc:=encC) (sz:=2) (fun _=>rfl) _
    refine AtCall.mem (CallM.sealed (m':=[(1,.map (encG sealV4 0 (allG l)) (allG l).length),(2,.cells [.mp 1]),(0,.cells [.sl p.length 5 (p.flatMap encNd),.sl st.length 2 (st.flatMap encSt)])]) (new_at (l++l) hA2.len (fun c hc=>okQ_cx (hA2.sel c hc)) _ _) rfl ?_) ?_
    ·refine VS.sealF (Sc 3 (([]:List AV))) (fun c x hx=>?_) (by
      simp only [frLF_cons,frLF_nil,and_true]
      refine .inr (.inr ⟨3,([]:List AV),0,0,2,_,by unfold Sc;rw [if_pos rfl],rfl,by rw [hBf,hBn,List.drop_zero,List.take_of_length_le (by rw [hBl];exact Nat.le_refl _)],by rw [hBl];omega⟩)) (fun c x hx=>?_)
     ·unfold Sc at hx
      split at hx
      ·rename_i e;cases hx;subst e
       refine ⟨by simp [getL],fun a ha=>?_⟩;rw [←hBf] at ha;obtain ⟨y,-,hy⟩:=List.mem_flatMap.1 ha;simp only [encC,List.mem_cons,List.not_mem_nil,or_false] at hy;rcases hy with rfl | rfl <;> rfl
      ·cases hx
     ·have hm:=getL_mem hx
      simp only [List.mem_cons,List.not_mem_nil,or_false,Prod.mk.injEq] at hm;rcases hm with ⟨rfl,rfl⟩ | ⟨rfl,rfl⟩ | ⟨rfl,rfl⟩ <;> exact ⟨by unfold Sc;rw [if_neg (by decide)],.inl (by simp [getL])⟩
    (repeat ((first | with_reducible refine W.step (b:=false) ?_ | skip);simp only [go_sem,↓reduceIte,Nat.reduceAdd,Nat.reduceSub,Nat.reduceMul,Nat.reduceEqDiff,Nat.reduceLeDiff,Nat.reduceLT,Int.reduceLE,Int.reduceLT,Int.reduceToNat,Int.reduceEq];try with_reducible refine drawn hmix (by kernel_rfl) ?_))
    refine AtCall.mem (m':=[(1,.map (encG sealV4 0 (allG l)) (allG l).length),(2,.cells [.mp 1]),(4,.map (encG sealV4 0 (allG (l++l))) (allG (l++l)).length),(5,.cells [.mp 4]),(0,.cells [.sl p.length 5 (p.flatMap encNd),.sl st.length 2 (st.flatMap encSt)])]) (all_at hA 1 _ 6 (by decide) rfl rfl) ?_
    (repeat ((first | with_reducible refine W.step (b:=false) ?_ | skip);simp only [go_sem,↓reduceIte,Nat.reduceAdd,Nat.reduceSub,Nat.reduceMul,Nat.reduceEqDiff,Nat.reduceLeDiff,Nat.reduceLT,Int.reduceLE,Int.reduceLT,Int.reduceToNat,Int.reduceEq];try with_reducible refine drawn hmix (by kernel_rfl) ?_))
    refine W.loop (s1:=stL [.any,(.sl l.length 2 (l.flatMap encC)),(.ptr 0 0),.any,(.g (.bool false)),(.ptr 2 0),(.ptr 4 0),(.sl p.length 1 ((((List.range p.length).map fun n:Nat=>ansM p st l (n:Int))).flatMap encRow)),(.g (.int .i64 ((0:Nat):Int))),.any,.any,.any,.any,.any,.any,.any,.any,.any,.any,.any,.any,.any,.any,.any,.any,.any,.any,.any,.any,.any,.any,.any,.any,.any,.any,.any,.any,.any,.any,.any,.any,.any,.any,.any,.any,.any,.any,.any,.any,.any,.any,.any,.any,.any,.any,.any,.any,.any,.any,.any,.any,.any,.any,.any,.any,.any,.any,.any,.any,.any,.any,.any,.any,.any,.any,.any,.any,.any,.any,.any,.any,.any,.any,.any,.any,.any,.any,.any,.any,.any,.any,.any,.any,.any,.any,.any,.any,.any,.any,.any,.any,.any,.any,.any,.any,.any,.any,.any] [(3,.map (encG sealV4 0 (allG (l++l))) (allG (l++l)).length),(4,.cells [.mp 3]),(1,.map (encG sealV4 0 (allG l)) (allG l).length),(2,.cells [.mp 1]),(0,.cells [.sl p.length 5 (p.flatMap encNd),.sl st.length 2 (st.flatMap encSt)])] 5) (fun (k:Nat) t=>k≤p.length∧t=stL [.any,(.sl l.length 2 (l.flatMap encC)),(.ptr 0 0),.any,(.g (.bool false)),(.ptr 2 0),(.ptr 4 0),(.sl p.length 1 ((((List.range p.length).map fun n:Nat=>ansM p st l (n:Int))).flatMap encRow)),(.g (.int .i64 (k:Int))),.any,.any,.any,.any,.any,.any,.any,.any,.any,.any,.any,.any,.any,.any,.any,.any,.any,.any,.any,.any,.any,.any,.any,.any,.any,.any,.any,.any,.any,.any,.any,.any,.any,.any,.any,.any,.any,.any,.any,.any,.any,.any,.any,.any,.any,.any,.any,.any,.any,.any,.any,.any,.any,.any,.any,.any,.any,.any,.any,.any,.any,.any,.any,.any,.any,.any,.any,.any,.any,.any,.any,.any,.any,.any,.any,.any,.any,.any,.any,.any,.any,.any,.any,.any,.any,.any,.any,.any,.any,.any,.any,.any,.any,.any,.any,.any,.any,.any,.any] [(3,.map (encG sealV4 0 (allG (l++l))) (allG (l++l)).length),(4,.cells [.mp 3]),(1,.map (encG sealV4 0 (allG l)) (allG l).length),(2,.cells [.mp 1]),(0,.cells [.sl p.length 5 (p.flatMap encNd),.sl st.length 2 (st.flatMap encSt)])] 5) (fun k=>p.length - k) 0 ⟨Nat.zero_le _,rfl⟩ (renY (a:=4) (by decide) rfl (by simp [getL]) (by simp [getL]) (by simp [getL]) (by simp [getL]) (by simp [getL]) (by simp [reT_cons,reT_nil,reF,reFL,ltA,ltL,hY])) ?_;rintro k t ⟨hk,rfl⟩
    by_cases hlt:k<p.length
    ·have hrow:((((List.range p.length).map fun n:Nat=>ansM p st l (n:Int))).flatMap encRow)[k]?=some (.sl (ansM p st l (k:Int)).length 1 ((ansM p st l (k:Int)).flatMap encZ)):=by
      have h9:=flat_get encRow 1 (fun _=>rfl) (((List.range p.length).map fun n:Nat=>ansM p st l (n:Int))) k (by rw [List.length_map,List.length_range];exact hlt) 0 (by decide);rw [Nat.mul_one,Nat.add_zero] at h9;rw [h9];simp [encRow]
     have hyy:ansM p st (l++l) (k:Int)=ansM p st l (k:Int)++(ansM p st l (k:Int)).map (·+(l.length:Int)):=by
      rw [ans_idxs,ans_idxs,idxs_append,List.map_append,List.map_map,List.map_map]
      congr 1
     have hab:∀ x∈ansM p st l (k:Int),0≤x∧x<40:=by
      intro x hx;rw [ans_idxs] at hx;obtain ⟨i,hi,rfl⟩:=List.mem_map.1 hx;have:i<l.length:=by
       unfold idxs at hi;obtain ⟨e,he,rfl⟩:=List.mem_map.1 hi;obtain ⟨j,hj,hx⟩:=List.getElem_of_mem (List.mem_filter.1 he).1;rw [List.getElem_zipIdx] at hx;rw [←hx];simp only [Nat.zero_add];rw [List.length_zipIdx] at hj;exact hj
      omega
     have hAl:(ansM p st l (k:Int)).length≤40:=by rw [ans_idxs,List.length_map];have:=idxs_len (qM p st (k:Int)) l;omega
     have hE:ansM p st [] (k:Int)=[]:=by rw [ans_idxs];rfl
     have MX:=fun m n h0 h1 h2=>(match_at (rd:=[]) hA (k:Int) 1 m n h0 h1 h2).2;have MY:=fun m n h0 h1 h2=>(match_at (rd:=[]) hA2 (k:Int) 3 m n h0 h1 h2).2;have MZ:=fun m n h0 h1 h2=>(match_at (rd:=[]) hA0 (k:Int) 5 m n h0 h1 h2).2;rw [hyy] at MY;rw [hE] at MZ;have hlr:(((List.range p.length).map fun n:Nat=>ansM p st l (n:Int))).length=p.length:=by rw [List.length_map,List.length_range]
     (repeat ((first | with_reducible refine W.step (b:=false) ?_ | skip);simp only [go_sem,↓reduceIte,Nat.reduceAdd,Nat.reduceSub,Nat.reduceMul,Nat.reduceEqDiff,Nat.reduceLeDiff,Nat.reduceLT,Int.reduceLE,Int.reduceLT,Int.reduceToNat,Int.reduceEq,hlt,hrow];try with_reducible refine drawn hmix (by kernel_rfl) ?_))
     generalize ansM p st l (k:Int)=A at *
     by_cases hz:A.length=0
     ·have z0:=eq_true hz
      (repeat ((first | with_reducible refine W.step (b:=false) ?_ | skip);simp only [go_sem,↓reduceIte,Nat.reduceAdd,Nat.reduceSub,Nat.reduceMul,Nat.reduceEqDiff,Nat.reduceLeDiff,Nat.reduceLT,Int.reduceLE,Int.reduceLT,Int.reduceToNat,Int.reduceEq,z0];try with_reducible refine drawn hmix (by kernel_rfl) ?_))
      refine W.loop (s1:=stL [.any,(.sl l.length 2 (l.flatMap encC)),(.ptr 0 0),.any,(.g (.bool false)),(.ptr 2 0),(.ptr 4 0),(.sl p.length 1 ((((List.range p.length).map fun n:Nat=>ansM p st l (n:Int))).flatMap encRow)),(.g (.int .i64 (k:Int))),(.sl A.length 1 (A.flatMap encZ)),(.gs 5 0 ((A++(A.take 0).map (·+(l.length:Int)))).length 1 ((A++(A.take 0).map (·+(l.length:Int)))).length),(.g (.int .i64 ((0:Nat):Int))),.any,.any,.any,.any,.any,.any,.any,.any,.any,.any,.any,.any,.any,.any,.any,.any,.any,.any,.any,.any,.any,.any,.any,.any,.any,.any,.any,.any,.any,.any,.any,.any,.any,.any,.any,.any,.any,.any,.any,.any,.any,.any,.any,.any,.any,.any,.any,.any,.any,.any,.any,.any,.any,.any,.any,.any,.any,.any,.any,.any,.any,.any,.any,.any,.any,.any,.any,.any,.any,.any,.any,.any,.any,.any,.any,.any,.any,.any,.any,.any,.any,.any,.any,.any,.any,.any,.any,.any,.any,.any,.any,.any,.any,.any,.any,.any] ((5,.cells (((A++(A.take 0).map (·+(l.length:Int)))).flatMap encZ))::[(3,.map (encG sealV4 0 (allG (l++l))) (allG (l++l)).length),(4,.cells [.mp 3]),(1,.map (encG sealV4 0 (allG l)) (allG l).length),(2,.cells [.mp 1]),(0,.cells [.sl p.length 5 (p.flatMap encNd),.sl st.length 2 (st.flatMap encSt)])]) 6) (fun (i:Nat) t=>i≤A.length∧t=stL [.any,(.sl l.length 2 (l.flatMap encC)),(.ptr 0 0),.any,(.g (.bool false)),(.ptr 2 0),(.ptr 4 0),(.sl p.length 1 ((((List.range p.length).map fun n:Nat=>ansM p st l (n:Int))).flatMap encRow)),(.g (.int .i64 (k:Int))),(.sl A.length 1 (A.flatMap encZ)),(.gs 5 0 ((A++(A.take i).map (·+(l.length:Int)))).length 1 ((A++(A.take i).map (·+(l.length:Int)))).length),(.g (.int .i64 (i:Int))),.any,.any,.any,.any,.any,.any,.any,.any,.any,.any,.any,.any,.any,.any,.any,.any,.any,.any,.any,.any,.any,.any,.any,.any,.any,.any,.any,.any,.any,.any,.any,.any,.any,.any,.any,.any,.any,.any,.any,.any,.any,.any,.any,.any,.any,.any,.any,.any,.any,.any,.any,.any,.any,.any,.any,.any,.any,.any,.any,.any,.any,.any,.any,.any,.any,.any,.any,.any,.any,.any,.any,.any,.any,.any,.any,.any,.any,.any,.any,.any,.any,.any,.any,.any,.any,.any,.any,.any,.any,.any,.any,.any,.any,.any,.any,.any] ((5,.cells (((A++(A.take i).map (·+(l.length:Int)))).flatMap encZ))::[(3,.map (encG sealV4 0 (allG (l++l))) (allG (l++l)).length),(4,.cells [.mp 3]),(1,.map (encG sealV4 0 (allG l)) (allG l).length),(2,.cells [.mp 1]),(0,.cells [.sl p.length 5 (p.flatMap encNd),.sl st.length 2 (st.flatMap encSt)])]) 6) (fun i=>A.length - i) 0 ⟨Nat.zero_le _,rfl⟩ ?_ ?_
      ·have hA9:A=[]:=List.eq_nil_of_length_eq_zero hz
       rw [hA9];exact VS.tm (by simp [leL])
      rintro i t ⟨hi,rfl⟩
      by_cases hlti:i<A.length
      ·have ra:=rowZ hlti
       have hx:=hab A[i] (List.getElem_mem hlti);have fw:IntKind.i64.wrap (A[i]+(l.length:Int))=A[i]+(l.length:Int):=by rw [IntWalk.i64_in _ (by omega)]
       have hnx:(A++(A.take (i+1)).map (·+(l.length:Int)))=(A++(A.take i).map (·+(l.length:Int)))++[A[i]+(l.length:Int)]:=by
        rw [List.take_succ_eq_append_getElem hlti,List.map_append,List.append_assoc];rfl
       have hbl:(A++(A.take i).map (·+(l.length:Int))).length=A.length+i:=by rw [List.length_append,List.length_map,List.length_take];omega
       have hlz:=lenZ (A++(A.take i).map (·+(l.length:Int)));generalize (A++(A.take i).map (·+(l.length:Int)))=bo at *;have x1:(bo.length+1≤bo.length)=False:=eq_false (by omega);have x2:(bo.length+1)*9≤17179869184:=by omega
       (repeat ((first | with_reducible refine W.step (b:=false) ?_ | skip);simp only [go_sem,↓reduceIte,Nat.reduceAdd,Nat.reduceSub,Nat.reduceMul,Nat.reduceEqDiff,Nat.reduceLeDiff,Nat.reduceLT,Int.reduceLE,Int.reduceLT,Int.reduceToNat,Int.reduceEq,hlti,ra,fw,x1,x2,hlz];try with_reducible refine drawn hmix (by kernel_rfl) ?_))
       refine ⟨i+1,_,⟨hlti,rfl⟩,by show A.length - (i+1)<A.length - i;omega,?_⟩;rw [up1 (by omega),hnx];exact grow5 (nb:=7) (by decide) (noIdsL_flat (fun _=>rfl) _) (by rw [List.flatMap_append];simp [getL,encZ]) (by simp [ltB,ltE_seal,ltL,ltA,getL,reFB,reFE_seal,reFL,reF,h5]) (by simp [reT_cons,reT_nil,reF,reFL,ltA,ltL,h5])
      ·have hie:i=A.length:=by omega
       subst hie;rw [List.take_length];refine W.vs (s1:=stL [.any,(.sl l.length 2 (l.flatMap encC)),(.ptr 0 0),.any,(.g (.bool false)),(.ptr 2 0),(.ptr 4 0),(.sl p.length 1 ((((List.range p.length).map fun n:Nat=>ansM p st l (n:Int))).flatMap encRow)),(.g (.int .i64 (k:Int))),(.sl A.length 1 (A.flatMap encZ)),(.sl (A++A.map (·+(l.length:Int))).length 1 ((A++A.map (·+(l.length:Int))).flatMap encZ)),(.g (.int .i64 (A.length:Int))),.any,.any,.any,.any,.any,.any,.any,.any,.any,.any,.any,.any,.any,.any,.any,.any,.any,.any,.any,.any,.any,.any,.any,.any,.any,.any,.any,.any,.any,.any,.any,.any,.any,.any,.any,.any,.any,.any,.any,.any,.any,.any,.any,.any,.any,.any,.any,.any,.any,.any,.any,.any,.any,.any,.any,.any,.any,.any,.any,.any,.any,.any,.any,.any,.any,.any,.any,.any,.any,.any,.any,.any,.any,.any,.any,.any,.any,.any,.any,.any,.any,.any,.any,.any,.any,.any,.any,.any,.any,.any,.any,.any,.any,.any,.any,.any] [(3,.map (encG sealV4 0 (allG (l++l))) (allG (l++l)).length),(4,.cells [.mp 3]),(1,.map (encG sealV4 0 (allG l)) (allG l).length),(2,.cells [.mp 1]),(0,.cells [.sl p.length 5 (p.flatMap encNd),.sl st.length 2 (st.flatMap encSt)])] 5) ?_ ?_
       ·refine seal5 (nb:=5) (N:=5) (cs:=(A++A.map (·+(l.length:Int))).flatMap encZ) (by decide) rfl (fun a ha=>by obtain ⟨x,-,hx⟩:=List.mem_flatMap.1 ha;simp [encZ] at hx;subst hx;rfl) (by simp [ltB,ltE_seal,ltL,ltA,getL,reFB,reFE_seal,reFL,reF,h5]) (by simp [getL]) ?_ (by simp [keepT_cons,keepT_nil,ltA,ltL])
        simp only [frLF_cons,frLF_nil,frAF_any,frAF_self,true_and,and_true];exact .inr (.inr ⟨5,_,0,_,1,_,rfl,rfl,by rw [List.drop_zero,List.take_of_length_le (by rw [lenZ];omega)],by rw [lenZ];omega⟩)
       have HI1:=ints_p A A (by omega);have hbl:(A++A.map (·+(l.length:Int))).length≤80:=by rw [List.length_append,List.length_map];omega
       have HI2:=ints_p (A++A.map (·+(l.length:Int))) (A++A.map (·+(l.length:Int))) (by omega);rw [decide_eq_true (rfl:A=A)] at HI1;rw [decide_eq_true rfl] at HI2;generalize (A++A.map (·+(l.length:Int)))=bo at *
       (repeat ((first | with_reducible refine W.step (b:=true) ?_ | skip);simp only [go_sem,↓reduceIte,Nat.reduceAdd,Nat.reduceSub,Nat.reduceMul,Nat.reduceEqDiff,Nat.reduceLeDiff,Nat.reduceLT,Int.reduceLE,Int.reduceLT,Int.reduceToNat,Int.reduceEq,hlti];(try with_reducible refine drawn hmix (by kernel_rfl) ?_);try with_reducible refine ⟨by kernel_rfl,?_⟩))
       refine AtCallD.mem (m':=[(1,.map (encG sealV4 0 (allG l)) (allG l).length),(2,.cells [.mp 1]),(3,.map (encG sealV4 0 (allG (l++l))) (allG (l++l)).length),(4,.cells [.mp 3]),(0,.cells [.sl p.length 5 (p.flatMap encNd),.sl st.length 2 (st.flatMap encSt)])]) (MX _ 5 (by decide) rfl rfl) ?_
       (repeat ((first | with_reducible refine W.step (b:=true) ?_ | skip);simp only [go_sem,↓reduceIte,Nat.reduceAdd,Nat.reduceSub,Nat.reduceMul,Nat.reduceEqDiff,Nat.reduceLeDiff,Nat.reduceLT,Int.reduceLE,Int.reduceLT,Int.reduceToNat,Int.reduceEq];(try with_reducible refine drawn hmix (by kernel_rfl) ?_);try with_reducible refine ⟨by kernel_rfl,?_⟩))
       refine AtCallD.mk HI1 ?_
       (repeat ((first | with_reducible refine W.step (b:=true) ?_ | skip);simp only [go_sem,↓reduceIte,Nat.reduceAdd,Nat.reduceSub,Nat.reduceMul,Nat.reduceEqDiff,Nat.reduceLeDiff,Nat.reduceLT,Int.reduceLE,Int.reduceLT,Int.reduceToNat,Int.reduceEq];(try with_reducible refine drawn hmix (by kernel_rfl) ?_);try with_reducible refine ⟨by kernel_rfl,?_⟩))
       refine AtCallD.mem (m':=[(3,.map (encG sealV4 0 (allG (l++l))) (allG (l++l)).length),(4,.cells [.mp 3]),(1,.map (encG sealV4 0 (allG l)) (allG l).length),(2,.cells [.mp 1]),(0,.cells [.sl p.length 5 (p.flatMap encNd),.sl st.length 2 (st.flatMap encSt)])]) (MY _ 5 (by decide) rfl rfl) ?_
       (repeat ((first | with_reducible refine W.step (b:=true) ?_ | skip);simp only [go_sem,↓reduceIte,Nat.reduceAdd,Nat.reduceSub,Nat.reduceMul,Nat.reduceEqDiff,Nat.reduceLeDiff,Nat.reduceLT,Int.reduceLE,Int.reduceLT,Int.reduceToNat,Int.reduceEq];(try with_reducible refine drawn hmix (by kernel_rfl) ?_);try with_reducible refine ⟨by kernel_rfl,?_⟩))
       refine AtCallD.mk HI2 ?_
       (repeat ((first | with_reducible refine W.step (b:=true) ?_ | skip);simp only [go_sem,↓reduceIte,Nat.reduceAdd,Nat.reduceSub,Nat.reduceMul,Nat.reduceEqDiff,Nat.reduceLeDiff,Nat.reduceLT,Int.reduceLE,Int.reduceLT,Int.reduceToNat,Int.reduceEq];(try with_reducible refine drawn hmix (by kernel_rfl) ?_);try with_reducible refine ⟨by kernel_rfl,?_⟩))
       refine AtCallD.mem (new_nil _ 5) ?_
       (repeat ((first | with_reducible refine W.step (b:=true) ?_ | skip);simp only [go_sem,↓reduceIte,Nat.reduceAdd,Nat.reduceSub,Nat.reduceMul,Nat.reduceEqDiff,Nat.reduceLeDiff,Nat.reduceLT,Int.reduceLE,Int.reduceLT,Int.reduceToNat,Int.reduceEq];(try with_reducible refine drawn hmix (by kernel_rfl) ?_);try with_reducible refine ⟨by kernel_rfl,?_⟩))
       refine AtCallD.mem (m':=[(5,.map [] 0),(6,.cells [.mp 5]),(3,.map (encG sealV4 0 (allG (l++l))) (allG (l++l)).length),(4,.cells [.mp 3]),(1,.map (encG sealV4 0 (allG l)) (allG l).length),(2,.cells [.mp 1]),(0,.cells [.sl p.length 5 (p.flatMap encNd),.sl st.length 2 (st.flatMap encSt)])]) (MZ _ 7 (by decide) rfl rfl) ?_
       (repeat ((first | with_reducible refine W.step (b:=true) ?_ | skip);simp only [go_sem,↓reduceIte,Nat.reduceAdd,Nat.reduceSub,Nat.reduceMul,Nat.reduceEqDiff,Nat.reduceLeDiff,Nat.reduceLT,Int.reduceLE,Int.reduceLT,Int.reduceToNat,Int.reduceEq];(try with_reducible refine drawn hmix (by kernel_rfl) ?_);try with_reducible refine ⟨by kernel_rfl,?_⟩))
       refine ⟨k+1,_,⟨hlt,rfl⟩,by show p.length - (k+1)<p.length - k;omega,?_⟩;rw [up1 (by omega)];exact VSdrop (by simp [ltB,ltE_seal,ltL,ltA,getL,reFB,reFE_seal,reFL,reF,h5]) (by simp [keepT_cons,keepT_nil,ltA,ltL])
     ·have z0:=eq_false hz
      have z1:A.length*9≤17179869184:=by omega
      (repeat ((first | with_reducible refine W.step (b:=false) ?_ | skip);simp only [go_sem,↓reduceIte,Nat.reduceAdd,Nat.reduceSub,Nat.reduceMul,Nat.reduceEqDiff,Nat.reduceLeDiff,Nat.reduceLT,Int.reduceLE,Int.reduceLT,Int.reduceToNat,Int.reduceEq,z0,z1];try with_reducible refine drawn hmix (by kernel_rfl) ?_))
      refine W.loop (s1:=stL [.any,(.sl l.length 2 (l.flatMap encC)),(.ptr 0 0),.any,(.g (.bool false)),(.ptr 2 0),(.ptr 4 0),(.sl p.length 1 ((((List.range p.length).map fun n:Nat=>ansM p st l (n:Int))).flatMap encRow)),(.g (.int .i64 (k:Int))),(.sl A.length 1 (A.flatMap encZ)),(.gs 5 0 ((A++(A.take 0).map (·+(l.length:Int)))).length 1 ((A++(A.take 0).map (·+(l.length:Int)))).length),(.g (.int .i64 ((0:Nat):Int))),.any,.any,.any,.any,.any,.any,.any,.any,.any,.any,.any,.any,.any,.any,.any,.any,.any,.any,.any,.any,.any,.any,.any,.any,.any,.any,.any,.any,.any,.any,.any,.any,.any,.any,.any,.any,.any,.any,.any,.any,.any,.any,.any,.any,.any,.any,.any,.any,.any,.any,.any,.any,.any,.any,.any,.any,.any,.any,.any,.any,.any,.any,.any,.any,.any,.any,.any,.any,.any,.any,.any,.any,.any,.any,.any,.any,.any,.any,.any,.any,.any,.any,.any,.any,.any,.any,.any,.any,.any,.any,.any,.any,.any,.any,.any,.any] ((5,.cells (((A++(A.take 0).map (·+(l.length:Int)))).flatMap encZ))::[(3,.map (encG sealV4 0 (allG (l++l))) (allG (l++l)).length),(4,.cells [.mp 3]),(1,.map (encG sealV4 0 (allG l)) (allG l).length),(2,.cells [.mp 1]),(0,.cells [.sl p.length 5 (p.flatMap encNd),.sl st.length 2 (st.flatMap encSt)])]) 6) (fun (i:Nat) t=>i≤A.length∧t=stL [.any,(.sl l.length 2 (l.flatMap encC)),(.ptr 0 0),.any,(.g (.bool false)),(.ptr 2 0),(.ptr 4 0),(.sl p.length 1 ((((List.range p.length).map fun n:Nat=>ansM p st l (n:Int))).flatMap encRow)),(.g (.int .i64 (k:Int))),(.sl A.length 1 (A.flatMap encZ)),(.gs 5 0 ((A++(A.take i).map (·+(l.length:Int)))).length 1 ((A++(A.take i).map (·+(l.length:Int)))).length),(.g (.int .i64 (i:Int))),.any,.any,.any,.any,.any,.any,.any,.any,.any,.any,.any,.any,.any,.any,.any,.any,.any,.any,.any,.any,.any,.any,.any,.any,.any,.any,.any,.any,.any,.any,.any,.any,.any,.any,.any,.any,.any,.any,.any,.any,.any,.any,.any,.any,.any,.any,.any,.any,.any,.any,.any,.any,.any,.any,.any,.any,.any,.any,.any,.any,.any,.any,.any,.any,.any,.any,.any,.any,.any,.any,.any,.any,.any,.any,.any,.any,.any,.any,.any,.any,.any,.any,.any,.any,.any,.any,.any,.any,.any,.any,.any,.any,.any,.any,.any,.any] ((5,.cells (((A++(A.take i).map (·+(l.length:Int)))).flatMap encZ))::[(3,.map (encG sealV4 0 (allG (l++l))) (allG (l++l)).length),(4,.cells [.mp 3]),(1,.map (encG sealV4 0 (allG l)) (allG l).length),(2,.cells [.mp 1]),(0,.cells [.sl p.length 5 (p.flatMap encNd),.sl st.length 2 (st.flatMap encSt)])]) 6) (fun i=>A.length - i) 0 ⟨Nat.zero_le _,rfl⟩ ?_ ?_
      ·rw [List.take_zero,List.map_nil,List.append_nil]
       exact grow5 (nb:=6) (by decide) (noIdsL_flat (fun _=>rfl) _) (by simp [getL]) (by simp [ltB,ltE_seal,ltL,ltA,getL,reFB,reFE_seal,reFL,reF,h5]) (by simp [reT_cons,reT_nil,reF,reFL,ltA,ltL,h5])
      rintro i t ⟨hi,rfl⟩
      by_cases hlti:i<A.length
      ·have ra:=rowZ hlti
       have hx:=hab A[i] (List.getElem_mem hlti);have fw:IntKind.i64.wrap (A[i]+(l.length:Int))=A[i]+(l.length:Int):=by rw [IntWalk.i64_in _ (by omega)]
       have hnx:(A++(A.take (i+1)).map (·+(l.length:Int)))=(A++(A.take i).map (·+(l.length:Int)))++[A[i]+(l.length:Int)]:=by
        rw [List.take_succ_eq_append_getElem hlti,List.map_append,List.append_assoc];rfl
       have hbl:(A++(A.take i).map (·+(l.length:Int))).length=A.length+i:=by rw [List.length_append,List.length_map,List.length_take];omega
       have hlz:=lenZ (A++(A.take i).map (·+(l.length:Int)));generalize (A++(A.take i).map (·+(l.length:Int)))=bo at *;have x1:(bo.length+1≤bo.length)=False:=eq_false (by omega);have x2:(bo.length+1)*9≤17179869184:=by omega
       (repeat ((first | with_reducible refine W.step (b:=false) ?_ | skip);simp only [go_sem,↓reduceIte,Nat.reduceAdd,Nat.reduceSub,Nat.reduceMul,Nat.reduceEqDiff,Nat.reduceLeDiff,Nat.reduceLT,Int.reduceLE,Int.reduceLT,Int.reduceToNat,Int.reduceEq,hlti,ra,fw,x1,x2,hlz];try with_reducible refine drawn hmix (by kernel_rfl) ?_))
       refine ⟨i+1,_,⟨hlti,rfl⟩,by show A.length - (i+1)<A.length - i;omega,?_⟩;rw [up1 (by omega),hnx];exact grow5 (nb:=7) (by decide) (noIdsL_flat (fun _=>rfl) _) (by rw [List.flatMap_append];simp [getL,encZ]) (by simp [ltB,ltE_seal,ltL,ltA,getL,reFB,reFE_seal,reFL,reF,h5]) (by simp [reT_cons,reT_nil,reF,reFL,ltA,ltL,h5])
      ·have hie:i=A.length:=by omega
       subst hie;rw [List.take_length];refine W.vs (s1:=stL [.any,(.sl l.length 2 (l.flatMap encC)),(.ptr 0 0),.any,(.g (.bool false)),(.ptr 2 0),(.ptr 4 0),(.sl p.length 1 ((((List.range p.length).map fun n:Nat=>ansM p st l (n:Int))).flatMap encRow)),(.g (.int .i64 (k:Int))),(.sl A.length 1 (A.flatMap encZ)),(.sl (A++A.map (·+(l.length:Int))).length 1 ((A++A.map (·+(l.length:Int))).flatMap encZ)),(.g (.int .i64 (A.length:Int))),.any,.any,.any,.any,.any,.any,.any,.any,.any,.any,.any,.any,.any,.any,.any,.any,.any,.any,.any,.any,.any,.any,.any,.any,.any,.any,.any,.any,.any,.any,.any,.any,.any,.any,.any,.any,.any,.any,.any,.any,.any,.any,.any,.any,.any,.any,.any,.any,.any,.any,.any,.any,.any,.any,.any,.any,.any,.any,.any,.any,.any,.any,.any,.any,.any,.any,.any,.any,.any,.any,.any,.any,.any,.any,.any,.any,.any,.any,.any,.any,.any,.any,.any,.any,.any,.any,.any,.any,.any,.any,.any,.any,.any,.any,.any,.any] [(3,.map (encG sealV4 0 (allG (l++l))) (allG (l++l)).length),(4,.cells [.mp 3]),(1,.map (encG sealV4 0 (allG l)) (allG l).length),(2,.cells [.mp 1]),(0,.cells [.sl p.length 5 (p.flatMap encNd),.sl st.length 2 (st.flatMap encSt)])] 5) ?_ ?_
       ·refine seal5 (nb:=5) (N:=5) (cs:=(A++A.map (·+(l.length:Int))).flatMap encZ) (by decide) rfl (fun a ha=>by obtain ⟨x,-,hx⟩:=List.mem_flatMap.1 ha;simp [encZ] at hx;subst hx;rfl) (by simp [ltB,ltE_seal,ltL,ltA,getL,reFB,reFE_seal,reFL,reF,h5]) (by simp [getL]) ?_ (by simp [keepT_cons,keepT_nil,ltA,ltL])
        simp only [frLF_cons,frLF_nil,frAF_any,frAF_self,true_and,and_true];exact .inr (.inr ⟨5,_,0,_,1,_,rfl,rfl,by rw [List.drop_zero,List.take_of_length_le (by rw [lenZ];omega)],by rw [lenZ];omega⟩)
       have HI1:=ints_p A A (by omega);have hbl:(A++A.map (·+(l.length:Int))).length≤80:=by rw [List.length_append,List.length_map];omega
       have HI2:=ints_p (A++A.map (·+(l.length:Int))) (A++A.map (·+(l.length:Int))) (by omega);rw [decide_eq_true (rfl:A=A)] at HI1;rw [decide_eq_true rfl] at HI2;generalize (A++A.map (·+(l.length:Int)))=bo at *
       (repeat ((first | with_reducible refine W.step (b:=true) ?_ | skip);simp only [go_sem,↓reduceIte,Nat.reduceAdd,Nat.reduceSub,Nat.reduceMul,Nat.reduceEqDiff,Nat.reduceLeDiff,Nat.reduceLT,Int.reduceLE,Int.reduceLT,Int.reduceToNat,Int.reduceEq,hlti];(try with_reducible refine drawn hmix (by kernel_rfl) ?_);try with_reducible refine ⟨by kernel_rfl,?_⟩))
       refine AtCallD.mem (m':=[(1,.map (encG sealV4 0 (allG l)) (allG l).length),(2,.cells [.mp 1]),(3,.map (encG sealV4 0 (allG (l++l))) (allG (l++l)).length),(4,.cells [.mp 3]),(0,.cells [.sl p.length 5 (p.flatMap encNd),.sl st.length 2 (st.flatMap encSt)])]) (MX _ 5 (by decide) rfl rfl) ?_
       (repeat ((first | with_reducible refine W.step (b:=true) ?_ | skip);simp only [go_sem,↓reduceIte,Nat.reduceAdd,Nat.reduceSub,Nat.reduceMul,Nat.reduceEqDiff,Nat.reduceLeDiff,Nat.reduceLT,Int.reduceLE,Int.reduceLT,Int.reduceToNat,Int.reduceEq];(try with_reducible refine drawn hmix (by kernel_rfl) ?_);try with_reducible refine ⟨by kernel_rfl,?_⟩))
       refine AtCallD.mk HI1 ?_
       (repeat ((first | with_reducible refine W.step (b:=true) ?_ | skip);simp only [go_sem,↓reduceIte,Nat.reduceAdd,Nat.reduceSub,Nat.reduceMul,Nat.reduceEqDiff,Nat.reduceLeDiff,Nat.reduceLT,Int.reduceLE,Int.reduceLT,Int.reduceToNat,Int.reduceEq];(try with_reducible refine drawn hmix (by kernel_rfl) ?_);try with_reducible refine ⟨by kernel_rfl,?_⟩))
       refine AtCallD.mem (m':=[(3,.map (encG sealV4 0 (allG (l++l))) (allG (l++l)).length),(4,.cells [.mp 3]),(1,.map (encG sealV4 0 (allG l)) (allG l).length),(2,.cells [.mp 1]),(0,.cells [.sl p.length 5 (p.flatMap encNd),.sl st.length 2 (st.flatMap encSt)])]) (MY _ 5 (by decide) rfl rfl) ?_
       (repeat ((first | with_reducible refine W.step (b:=true) ?_ | skip);simp only [go_sem,↓reduceIte,Nat.reduceAdd,Nat.reduceSub,Nat.reduceMul,Nat.reduceEqDiff,Nat.reduceLeDiff,Nat.reduceLT,Int.reduceLE,Int.reduceLT,Int.reduceToNat,Int.reduceEq];(try with_reducible refine drawn hmix (by kernel_rfl) ?_);try with_reducible refine ⟨by kernel_rfl,?_⟩))
       refine AtCallD.mk HI2 ?_
       (repeat ((first | with_reducible refine W.step (b:=true) ?_ | skip);simp only [go_sem,↓reduceIte,Nat.reduceAdd,Nat.reduceSub,Nat.reduceMul,Nat.reduceEqDiff,Nat.reduceLeDiff,Nat.reduceLT,Int.reduceLE,Int.reduceLT,Int.reduceToNat,Int.reduceEq];(try with_reducible refine drawn hmix (by kernel_rfl) ?_);try with_reducible refine ⟨by kernel_rfl,?_⟩))
       refine AtCallD.mem (new_nil _ 5) ?_
       (repeat ((first | with_reducible refine W.step (b:=true) ?_ | skip);simp only [go_sem,↓reduceIte,Nat.reduceAdd,Nat.reduceSub,Nat.reduceMul,Nat.reduceEqDiff,Nat.reduceLeDiff,Nat.reduceLT,Int.reduceLE,Int.reduceLT,Int.reduceToNat,Int.reduceEq];(try with_reducible refine drawn hmix (by kernel_rfl) ?_);try with_reducible refine ⟨by kernel_rfl,?_⟩))
       refine AtCallD.mem (m':=[(5,.map [] 0),(6,.cells [.mp 5]),(3,.map (encG sealV4 0 (allG (l++l))) (allG (l++l)).length),(4,.cells [.mp 3]),(1,.map (encG sealV4 0 (allG l)) (allG l).length),(2,.cells [.mp 1]),(0,.cells [.sl p.length 5 (p.flatMap encNd),.sl st.length 2 (st.flatMap encSt)])]) (MZ _ 7 (by decide) rfl rfl) ?_
       (repeat ((first | with_reducible refine W.step (b:=true) ?_ | skip);simp only [go_sem,↓reduceIte,Nat.reduceAdd,Nat.reduceSub,Nat.reduceMul,Nat.reduceEqDiff,Nat.reduceLeDiff,Nat.reduceLT,Int.reduceLE,Int.reduceLT,Int.reduceToNat,Int.reduceEq];(try with_reducible refine drawn hmix (by kernel_rfl) ?_);try with_reducible refine ⟨by kernel_rfl,?_⟩))
       refine ⟨k+1,_,⟨hlt,rfl⟩,by show p.length - (k+1)<p.length - k;omega,?_⟩;rw [up1 (by omega)];exact VSdrop (by simp [ltB,ltE_seal,ltL,ltA,getL,reFB,reFE_seal,reFL,reF,h5]) (by simp [keepT_cons,keepT_nil,ltA,ltL])
    ·(repeat ((first | with_reducible refine W.step (b:=false) ?_ | skip);simp only [go_sem,↓reduceIte,Nat.reduceAdd,Nat.reduceSub,Nat.reduceMul,Nat.reduceEqDiff,Nat.reduceLeDiff,Nat.reduceLT,Int.reduceLE,Int.reduceLT,Int.reduceToNat,Int.reduceEq,hlt];try with_reducible refine drawn hmix (by kernel_rfl) ?_))
     exact postP_one _ (.inr rfl) rfl (.plain rfl)
   ·have l0:=eq_false hl0
    have l1:l.length*41≤17179869184:=by omega
    have l2:(l.length+l.length)*41≤17179869184:=by omega
    have l3:(l.length+l.length≤l.length)=False:=eq_false (by omega)
    (repeat ((first | with_reducible refine W.step (b:=false) ?_ | skip);simp only [go_sem,↓reduceIte,Nat.reduceAdd,Nat.reduceSub,Nat.reduceMul,Nat.reduceEqDiff,Nat.reduceLeDiff,Nat.reduceLT,Int.reduceLE,Int.reduceLT,Int.reduceToNat,Int.reduceEq,l0,l1,l2,l3,l4,l5,l6];try with_reducible refine drawn hmix (by kernel_rfl) ?_))
    have hBf:(l++l).flatMap encC=l.flatMap encC++l.flatMap encC:=by rw [List.flatMap_append]
    have hBn:(l++l).length=(l.length+l.length):=by have h:=@List.length_append _ l l;omega
    have hBl:(l.flatMap encC++l.flatMap encC).length=(l.length+l.length)*2:=by rw [←hBf,←hBn];exact flatMap_len (enc:=encC) (sz:=2) (fun _=>rfl) _
    refine AtCall.mem (CallM.sealed (m':=[(1,.map (encG sealV4 0 (allG l)) (allG l).length),(2,.cells [.mp 1]),(0,.cells [.sl p.length 5 (p.flatMap encNd),.sl st.length 2 (st.flatMap encSt)])]) (new_at (l++l) hA2.len (fun c hc=>okQ_cx (hA2.sel c hc)) _ _) rfl ?_) ?_
    ·refine VS.sealF (Sc 5 (l.flatMap encC++l.flatMap encC)) (fun c x hx=>?_) (by
      simp only [frLF_cons,frLF_nil,and_true]
      refine .inr (.inr ⟨5,l.flatMap encC++l.flatMap encC,0,(l.length+l.length),2,_,by unfold Sc;rw [if_pos rfl],rfl,by rw [hBf,hBn,List.drop_zero,List.take_of_length_le (by rw [hBl];exact Nat.le_refl _)],by rw [hBl];omega⟩)) (fun c x hx=>?_)
     ·unfold Sc at hx
      split at hx
      ·rename_i e;cases hx;subst e
       refine ⟨by simp [getL],fun a ha=>?_⟩;rw [←hBf] at ha;obtain ⟨y,-,hy⟩:=List.mem_flatMap.1 ha;simp only [encC,List.mem_cons,List.not_mem_nil,or_false] at hy;rcases hy with rfl | rfl <;> rfl
      ·cases hx
     ·have hm:=getL_mem hx
      simp only [List.mem_cons,List.not_mem_nil,or_false,Prod.mk.injEq] at hm;rcases hm with ⟨rfl,rfl⟩ | ⟨rfl,rfl⟩ | ⟨rfl,rfl⟩ <;> exact ⟨by unfold Sc;rw [if_neg (by decide)],.inl (by simp [getL])⟩
    (repeat ((first | with_reducible refine W.step (b:=false) ?_ | skip);simp only [go_sem,↓reduceIte,Nat.reduceAdd,Nat.reduceSub,Nat.reduceMul,Nat.reduceEqDiff,Nat.reduceLeDiff,Nat.reduceLT,Int.reduceLE,Int.reduceLT,Int.reduceToNat,Int.reduceEq];try with_reducible refine drawn hmix (by kernel_rfl) ?_))
    refine AtCall.mem (m':=[(1,.map (encG sealV4 0 (allG l)) (allG l).length),(2,.cells [.mp 1]),(6,.map (encG sealV4 0 (allG (l++l))) (allG (l++l)).length),(7,.cells [.mp 6]),(0,.cells [.sl p.length 5 (p.flatMap encNd),.sl st.length 2 (st.flatMap encSt)])]) (all_at hA 1 _ 8 (by decide) rfl rfl) ?_
    (repeat ((first | with_reducible refine W.step (b:=false) ?_ | skip);simp only [go_sem,↓reduceIte,Nat.reduceAdd,Nat.reduceSub,Nat.reduceMul,Nat.reduceEqDiff,Nat.reduceLeDiff,Nat.reduceLT,Int.reduceLE,Int.reduceLT,Int.reduceToNat,Int.reduceEq];try with_reducible refine drawn hmix (by kernel_rfl) ?_))
    refine W.loop (s1:=stL [.any,(.sl l.length 2 (l.flatMap encC)),(.ptr 0 0),.any,(.g (.bool false)),(.ptr 2 0),(.ptr 4 0),(.sl p.length 1 ((((List.range p.length).map fun n:Nat=>ansM p st l (n:Int))).flatMap encRow)),(.g (.int .i64 ((0:Nat):Int))),.any,.any,.any,.any,.any,.any,.any,.any,.any,.any,.any,.any,.any,.any,.any,.any,.any,.any,.any,.any,.any,.any,.any,.any,.any,.any,.any,.any,.any,.any,.any,.any,.any,.any,.any,.any,.any,.any,.any,.any,.any,.any,.any,.any,.any,.any,.any,.any,.any,.any,.any,.any,.any,.any,.any,.any,.any,.any,.any,.any,.any,.any,.any,.any,.any,.any,.any,.any,.any,.any,.any,.any,.any,.any,.any,.any,.any,.any,.any,.any,.any,.any,.any,.any,.any,.any,.any,.any,.any,.any,.any,.any,.any,.any,.any,.any,.any,.any,.any] [(3,.map (encG sealV4 0 (allG (l++l))) (allG (l++l)).length),(4,.cells [.mp 3]),(1,.map (encG sealV4 0 (allG l)) (allG l).length),(2,.cells [.mp 1]),(0,.cells [.sl p.length 5 (p.flatMap encNd),.sl st.length 2 (st.flatMap encSt)])] 5) (fun (k:Nat) t=>k≤p.length∧t=stL [.any,(.sl l.length 2 (l.flatMap encC)),(.ptr 0 0),.any,(.g (.bool false)),(.ptr 2 0),(.ptr 4 0),(.sl p.length 1 ((((List.range p.length).map fun n:Nat=>ansM p st l (n:Int))).flatMap encRow)),(.g (.int .i64 (k:Int))),.any,.any,.any,.any,.any,.any,.any,.any,.any,.any,.any,.any,.any,.any,.any,.any,.any,.any,.any,.any,.any,.any,.any,.any,.any,.any,.any,.any,.any,.any,.any,.any,.any,.any,.any,.any,.any,.any,.any,.any,.any,.any,.any,.any,.any,.any,.any,.any,.any,.any,.any,.any,.any,.any,.any,.any,.any,.any,.any,.any,.any,.any,.any,.any,.any,.any,.any,.any,.any,.any,.any,.any,.any,.any,.any,.any,.any,.any,.any,.any,.any,.any,.any,.any,.any,.any,.any,.any,.any,.any,.any,.any,.any,.any,.any,.any,.any,.any,.any] [(3,.map (encG sealV4 0 (allG (l++l))) (allG (l++l)).length),(4,.cells [.mp 3]),(1,.map (encG sealV4 0 (allG l)) (allG l).length),(2,.cells [.mp 1]),(0,.cells [.sl p.length 5 (p.flatMap encNd),.sl st.length 2 (st.flatMap encSt)])] 5) (fun k=>p.length - k) 0 ⟨Nat.zero_le _,rfl⟩ (renY (a:=6) (by decide) rfl (by simp [getL]) (by simp [getL]) (by simp [getL]) (by simp [getL]) (by simp [getL]) (by simp [reT_cons,reT_nil,reF,reFL,ltA,ltL,hY])) ?_;rintro k t ⟨hk,rfl⟩
    by_cases hlt:k<p.length
    ·have hrow:((((List.range p.length).map fun n:Nat=>ansM p st l (n:Int))).flatMap encRow)[k]?=some (.sl (ansM p st l (k:Int)).length 1 ((ansM p st l (k:Int)).flatMap encZ)):=by
      have h9:=flat_get encRow 1 (fun _=>rfl) (((List.range p.length).map fun n:Nat=>ansM p st l (n:Int))) k (by rw [List.length_map,List.length_range];exact hlt) 0 (by decide);rw [Nat.mul_one,Nat.add_zero] at h9;rw [h9];simp [encRow]
     have hyy:ansM p st (l++l) (k:Int)=ansM p st l (k:Int)++(ansM p st l (k:Int)).map (·+(l.length:Int)):=by
      rw [ans_idxs,ans_idxs,idxs_append,List.map_append,List.map_map,List.map_map]
      congr 1
     have hab:∀ x∈ansM p st l (k:Int),0≤x∧x<40:=by
      intro x hx;rw [ans_idxs] at hx;obtain ⟨i,hi,rfl⟩:=List.mem_map.1 hx;have:i<l.length:=by
       unfold idxs at hi;obtain ⟨e,he,rfl⟩:=List.mem_map.1 hi;obtain ⟨j,hj,hx⟩:=List.getElem_of_mem (List.mem_filter.1 he).1;rw [List.getElem_zipIdx] at hx;rw [←hx];simp only [Nat.zero_add];rw [List.length_zipIdx] at hj;exact hj
      omega
     have hAl:(ansM p st l (k:Int)).length≤40:=by rw [ans_idxs,List.length_map];have:=idxs_len (qM p st (k:Int)) l;omega
     have hE:ansM p st [] (k:Int)=[]:=by rw [ans_idxs];rfl
     have MX:=fun m n h0 h1 h2=>(match_at (rd:=[]) hA (k:Int) 1 m n h0 h1 h2).2;have MY:=fun m n h0 h1 h2=>(match_at (rd:=[]) hA2 (k:Int) 3 m n h0 h1 h2).2;have MZ:=fun m n h0 h1 h2=>(match_at (rd:=[]) hA0 (k:Int) 5 m n h0 h1 h2).2;rw [hyy] at MY;rw [hE] at MZ;have hlr:(((List.range p.length).map fun n:Nat=>ansM p st l (n:Int))).length=p.length:=by rw [List.length_map,List.length_range]
     (repeat ((first | with_reducible refine W.step (b:=false) ?_ | skip);simp only [go_sem,↓reduceIte,Nat.reduceAdd,Nat.reduceSub,Nat.reduceMul,Nat.reduceEqDiff,Nat.reduceLeDiff,Nat.reduceLT,Int.reduceLE,Int.reduceLT,Int.reduceToNat,Int.reduceEq,hlt,hrow];try with_reducible refine drawn hmix (by kernel_rfl) ?_))
     generalize ansM p st l (k:Int)=A at *
     by_cases hz:A.length=0
     ·have z0:=eq_true hz
      (repeat ((first | with_reducible refine W.step (b:=false) ?_ | skip);simp only [go_sem,↓reduceIte,Nat.reduceAdd,Nat.reduceSub,Nat.reduceMul,Nat.reduceEqDiff,Nat.reduceLeDiff,Nat.reduceLT,Int.reduceLE,Int.reduceLT,Int.reduceToNat,Int.reduceEq,z0];try with_reducible refine drawn hmix (by kernel_rfl) ?_))
      refine W.loop (s1:=stL [.any,(.sl l.length 2 (l.flatMap encC)),(.ptr 0 0),.any,(.g (.bool false)),(.ptr 2 0),(.ptr 4 0),(.sl p.length 1 ((((List.range p.length).map fun n:Nat=>ansM p st l (n:Int))).flatMap encRow)),(.g (.int .i64 (k:Int))),(.sl A.length 1 (A.flatMap encZ)),(.gs 5 0 ((A++(A.take 0).map (·+(l.length:Int)))).length 1 ((A++(A.take 0).map (·+(l.length:Int)))).length),(.g (.int .i64 ((0:Nat):Int))),.any,.any,.any,.any,.any,.any,.any,.any,.any,.any,.any,.any,.any,.any,.any,.any,.any,.any,.any,.any,.any,.any,.any,.any,.any,.any,.any,.any,.any,.any,.any,.any,.any,.any,.any,.any,.any,.any,.any,.any,.any,.any,.any,.any,.any,.any,.any,.any,.any,.any,.any,.any,.any,.any,.any,.any,.any,.any,.any,.any,.any,.any,.any,.any,.any,.any,.any,.any,.any,.any,.any,.any,.any,.any,.any,.any,.any,.any,.any,.any,.any,.any,.any,.any,.any,.any,.any,.any,.any,.any,.any,.any,.any,.any,.any,.any] ((5,.cells (((A++(A.take 0).map (·+(l.length:Int)))).flatMap encZ))::[(3,.map (encG sealV4 0 (allG (l++l))) (allG (l++l)).length),(4,.cells [.mp 3]),(1,.map (encG sealV4 0 (allG l)) (allG l).length),(2,.cells [.mp 1]),(0,.cells [.sl p.length 5 (p.flatMap encNd),.sl st.length 2 (st.flatMap encSt)])]) 6) (fun (i:Nat) t=>i≤A.length∧t=stL [.any,(.sl l.length 2 (l.flatMap encC)),(.ptr 0 0),.any,(.g (.bool false)),(.ptr 2 0),(.ptr 4 0),(.sl p.length 1 ((((List.range p.length).map fun n:Nat=>ansM p st l (n:Int))).flatMap encRow)),(.g (.int .i64 (k:Int))),(.sl A.length 1 (A.flatMap encZ)),(.gs 5 0 ((A++(A.take i).map (·+(l.length:Int)))).length 1 ((A++(A.take i).map (·+(l.length:Int)))).length),(.g (.int .i64 (i:Int))),.any,.any,.any,.any,.any,.any,.any,.any,.any,.any,.any,.any,.any,.any,.any,.any,.any,.any,.any,.any,.any,.any,.any,.any,.any,.any,.any,.any,.any,.any,.any,.any,.any,.any,.any,.any,.any,.any,.any,.any,.any,.any,.any,.any,.any,.any,.any,.any,.any,.any,.any,.any,.any,.any,.any,.any,.any,.any,.any,.any,.any,.any,.any,.any,.any,.any,.any,.any,.any,.any,.any,.any,.any,.any,.any,.any,.any,.any,.any,.any,.any,.any,.any,.any,.any,.any,.any,.any,.any,.any,.any,.any,.any,.any,.any,.any] ((5,.cells (((A++(A.take i).map (·+(l.length:Int)))).flatMap encZ))::[(3,.map (encG sealV4 0 (allG (l++l))) (allG (l++l)).length),(4,.cells [.mp 3]),(1,.map (encG sealV4 0 (allG l)) (allG l).length),(2,.cells [.mp 1]),(0,.cells [.sl p.length 5 (p.flatMap encNd),.sl st.length 2 (st.flatMap encSt)])]) 6) (fun i=>A.length - i) 0 ⟨Nat.zero_le _,rfl⟩ ?_ ?_
      ·have hA9:A=[]:=List.eq_nil_of_length_eq_zero hz
       rw [hA9];exact VS.tm (by simp [leL])
      rintro i t ⟨hi,rfl⟩
      by_cases hlti:i<A.length
      ·have ra:=rowZ hlti
       have hx:=hab A[i] (List.getElem_mem hlti);have fw:IntKind.i64.wrap (A[i]+(l.length:Int))=A[i]+(l.length:Int):=by rw [IntWalk.i64_in _ (by omega)]
       have hnx:(A++(A.take (i+1)).map (·+(l.length:Int)))=(A++(A.take i).map (·+(l.length:Int)))++[A[i]+(l.length:Int)]:=by
        rw [List.take_succ_eq_append_getElem hlti,List.map_append,List.append_assoc];rfl
       have hbl:(A++(A.take i).map (·+(l.length:Int))).length=A.length+i:=by rw [List.length_append,List.length_map,List.length_take];omega
       have hlz:=lenZ (A++(A.take i).map (·+(l.length:Int)));generalize (A++(A.take i).map (·+(l.length:Int)))=bo at *;have x1:(bo.length+1≤bo.length)=False:=eq_false (by omega);have x2:(bo.length+1)*9≤17179869184:=by omega
       (repeat ((first | with_reducible refine W.step (b:=false) ?_ | skip);simp only [go_sem,↓reduceIte,Nat.reduceAdd,Nat.reduceSub,Nat.reduceMul,Nat.reduceEqDiff,Nat.reduceLeDiff,Nat.reduceLT,Int.reduceLE,Int.reduceLT,Int.reduceToNat,Int.reduceEq,hlti,ra,fw,x1,x2,hlz];try with_reducible refine drawn hmix (by kernel_rfl) ?_))
       refine ⟨i+1,_,⟨hlti,rfl⟩,by show A.length - (i+1)<A.length - i;omega,?_⟩;rw [up1 (by omega),hnx];exact grow5 (nb:=7) (by decide) (noIdsL_flat (fun _=>rfl) _) (by rw [List.flatMap_append];simp [getL,encZ]) (by simp [ltB,ltE_seal,ltL,ltA,getL,reFB,reFE_seal,reFL,reF,h5]) (by simp [reT_cons,reT_nil,reF,reFL,ltA,ltL,h5])
      ·have hie:i=A.length:=by omega
       subst hie;rw [List.take_length];refine W.vs (s1:=stL [.any,(.sl l.length 2 (l.flatMap encC)),(.ptr 0 0),.any,(.g (.bool false)),(.ptr 2 0),(.ptr 4 0),(.sl p.length 1 ((((List.range p.length).map fun n:Nat=>ansM p st l (n:Int))).flatMap encRow)),(.g (.int .i64 (k:Int))),(.sl A.length 1 (A.flatMap encZ)),(.sl (A++A.map (·+(l.length:Int))).length 1 ((A++A.map (·+(l.length:Int))).flatMap encZ)),(.g (.int .i64 (A.length:Int))),.any,.any,.any,.any,.any,.any,.any,.any,.any,.any,.any,.any,.any,.any,.any,.any,.any,.any,.any,.any,.any,.any,.any,.any,.any,.any,.any,.any,.any,.any,.any,.any,.any,.any,.any,.any,.any,.any,.any,.any,.any,.any,.any,.any,.any,.any,.any,.any,.any,.any,.any,.any,.any,.any,.any,.any,.any,.any,.any,.any,.any,.any,.any,.any,.any,.any,.any,.any,.any,.any,.any,.any,.any,.any,.any,.any,.any,.any,.any,.any,.any,.any,.any,.any,.any,.any,.any,.any,.any,.any,.any,.any,.any,.any,.any,.any] [(3,.map (encG sealV4 0 (allG (l++l))) (allG (l++l)).length),(4,.cells [.mp 3]),(1,.map (encG sealV4 0 (allG l)) (allG l).length),(2,.cells [.mp 1]),(0,.cells [.sl p.length 5 (p.flatMap encNd),.sl st.length 2 (st.flatMap encSt)])] 5) ?_ ?_
       ·refine seal5 (nb:=5) (N:=5) (cs:=(A++A.map (·+(l.length:Int))).flatMap encZ) (by decide) rfl (fun a ha=>by obtain ⟨x,-,hx⟩:=List.mem_flatMap.1 ha;simp [encZ] at hx;subst hx;rfl) (by simp [ltB,ltE_seal,ltL,ltA,getL,reFB,reFE_seal,reFL,reF,h5]) (by simp [getL]) ?_ (by simp [keepT_cons,keepT_nil,ltA,ltL])
        simp only [frLF_cons,frLF_nil,frAF_any,frAF_self,true_and,and_true];exact .inr (.inr ⟨5,_,0,_,1,_,rfl,rfl,by rw [List.drop_zero,List.take_of_length_le (by rw [lenZ];omega)],by rw [lenZ];omega⟩)
       have HI1:=ints_p A A (by omega);have hbl:(A++A.map (·+(l.length:Int))).length≤80:=by rw [List.length_append,List.length_map];omega
       have HI2:=ints_p (A++A.map (·+(l.length:Int))) (A++A.map (·+(l.length:Int))) (by omega);rw [decide_eq_true (rfl:A=A)] at HI1;rw [decide_eq_true rfl] at HI2;generalize (A++A.map (·+(l.length:Int)))=bo at *
       (repeat ((first | with_reducible refine W.step (b:=true) ?_ | skip);simp only [go_sem,↓reduceIte,Nat.reduceAdd,Nat.reduceSub,Nat.reduceMul,Nat.reduceEqDiff,Nat.reduceLeDiff,Nat.reduceLT,Int.reduceLE,Int.reduceLT,Int.reduceToNat,Int.reduceEq,hlti];(try with_reducible refine drawn hmix (by kernel_rfl) ?_);try with_reducible refine ⟨by kernel_rfl,?_⟩))
       refine AtCallD.mem (m':=[(1,.map (encG sealV4 0 (allG l)) (allG l).length),(2,.cells [.mp 1]),(3,.map (encG sealV4 0 (allG (l++l))) (allG (l++l)).length),(4,.cells [.mp 3]),(0,.cells [.sl p.length 5 (p.flatMap encNd),.sl st.length 2 (st.flatMap encSt)])]) (MX _ 5 (by decide) rfl rfl) ?_
       (repeat ((first | with_reducible refine W.step (b:=true) ?_ | skip);simp only [go_sem,↓reduceIte,Nat.reduceAdd,Nat.reduceSub,Nat.reduceMul,Nat.reduceEqDiff,Nat.reduceLeDiff,Nat.reduceLT,Int.reduceLE,Int.reduceLT,Int.reduceToNat,Int.reduceEq];(try with_reducible refine drawn hmix (by kernel_rfl) ?_);try with_reducible refine ⟨by kernel_rfl,?_⟩))
       refine AtCallD.mk HI1 ?_
       (repeat ((first | with_reducible refine W.step (b:=true) ?_ | skip);simp only [go_sem,↓reduceIte,Nat.reduceAdd,Nat.reduceSub,Nat.reduceMul,Nat.reduceEqDiff,Nat.reduceLeDiff,Nat.reduceLT,Int.reduceLE,Int.reduceLT,Int.reduceToNat,Int.reduceEq];(try with_reducible refine drawn hmix (by kernel_rfl) ?_);try with_reducible refine ⟨by kernel_rfl,?_⟩))
       refine AtCallD.mem (m':=[(3,.map (encG sealV4 0 (allG (l++l))) (allG (l++l)).length),(4,.cells [.mp 3]),(1,.map (encG sealV4 0 (allG l)) (allG l).length),(2,.cells [.mp 1]),(0,.cells [.sl p.length 5 (p.flatMap encNd),.sl st.length 2 (st.flatMap encSt)])]) (MY _ 5 (by decide) rfl rfl) ?_
       (repeat ((first | with_reducible refine W.step (b:=true) ?_ | skip);simp only [go_sem,↓reduceIte,Nat.reduceAdd,Nat.reduceSub,Nat.reduceMul,Nat.reduceEqDiff,Nat.reduceLeDiff,Nat.reduceLT,Int.reduceLE,Int.reduceLT,Int.reduceToNat,Int.reduceEq];(try with_reducible refine drawn hmix (by kernel_rfl) ?_);try with_reducible refine ⟨by kernel_rfl,?_⟩))
       refine AtCallD.mk HI2 ?_
       (repeat ((first | with_reducible refine W.step (b:=true) ?_ | skip);simp only [go_sem,↓reduceIte,Nat.reduceAdd,Nat.reduceSub,Nat.reduceMul,Nat.reduceEqDiff,Nat.reduceLeDiff,Nat.reduceLT,Int.reduceLE,Int.reduceLT,Int.reduceToNat,Int.reduceEq];(try with_reducible refine drawn hmix (by kernel_rfl) ?_);try with_reducible refine ⟨by kernel_rfl,?_⟩))
       refine AtCallD.mem (new_nil _ 5) ?_
       (repeat ((first | with_reducible refine W.step (b:=true) ?_ | skip);simp only [go_sem,↓reduceIte,Nat.reduceAdd,Nat.reduceSub,Nat.reduceMul,Nat.reduceEqDiff,Nat.reduceLeDiff,Nat.reduceLT,Int.reduceLE,Int.reduceLT,Int.reduceToNat,Int.reduceEq];(try with_reducible refine drawn hmix (by kernel_rfl) ?_);try with_reducible refine ⟨by kernel_rfl,?_⟩))
       refine AtCallD.mem (m':=[(5,.map [] 0),(6,.cells [.mp 5]),(3,.map (encG sealV4 0 (allG (l++l))) (allG (l++l)).length),(4,.cells [.mp 3]),(1,.map (encG sealV4 0 (allG l)) (allG l).length),(2,.cells [.mp 1]),(0,.cells [.sl p.length 5 (p.flatMap encNd),.sl st.length 2 (st.flatMap encSt)])]) (MZ _ 7 (by decide) rfl rfl) ?_
       (repeat ((first | with_reducible refine W.step (b:=true) ?_ | skip);simp only [go_sem,↓reduceIte,Nat.reduceAdd,Nat.reduceSub,Nat.reduceMul,Nat.reduceEqDiff,Nat.reduceLeDiff,Nat.reduceLT,Int.reduceLE,Int.reduceLT,Int.reduceToNat,Int.reduceEq];(try with_reducible refine drawn hmix (by kernel_rfl) ?_);try with_reducible refine ⟨by kernel_rfl,?_⟩))
       refine ⟨k+1,_,⟨hlt,rfl⟩,by show p.length - (k+1)<p.length - k;omega,?_⟩;rw [up1 (by omega)];exact VSdrop (by simp [ltB,ltE_seal,ltL,ltA,getL,reFB,reFE_seal,reFL,reF,h5]) (by simp [keepT_cons,keepT_nil,ltA,ltL])
     ·have z0:=eq_false hz
      have z1:A.length*9≤17179869184:=by omega
      (repeat ((first | with_reducible refine W.step (b:=false) ?_ | skip);simp only [go_sem,↓reduceIte,Nat.reduceAdd,Nat.reduceSub,Nat.reduceMul,Nat.reduceEqDiff,Nat.reduceLeDiff,Nat.reduceLT,Int.reduceLE,Int.reduceLT,Int.reduceToNat,Int.reduceEq,z0,z1];try with_reducible refine drawn hmix (by kernel_rfl) ?_))
      refine W.loop (s1:=stL [.any,(.sl l.length 2 (l.flatMap encC)),(.ptr 0 0),.any,(.g (.bool false)),(.ptr 2 0),(.ptr 4 0),(.sl p.length 1 ((((List.range p.length).map fun n:Nat=>ansM p st l (n:Int))).flatMap encRow)),(.g (.int .i64 (k:Int))),(.sl A.length 1 (A.flatMap encZ)),(.gs 5 0 ((A++(A.take 0).map (·+(l.length:Int)))).length 1 ((A++(A.take 0).map (·+(l.length:Int)))).length),(.g (.int .i64 ((0:Nat):Int))),.any,.any,.any,.any,.any,.any,.any,.any,.any,.any,.any,.any,.any,.any,.any,.any,.any,.any,.any,.any,.any,.any,.any,.any,.any,.any,.any,.any,.any,.any,.any,.any,.any,.any,.any,.any,.any,.any,.any,.any,.any,.any,.any,.any,.any,.any,.any,.any,.any,.any,.any,.any,.any,.any,.any,.any,.any,.any,.any,.any,.any,.any,.any,.any,.any,.any,.any,.any,.any,.any,.any,.any,.any,.any,.any,.any,.any,.any,.any,.any,.any,.any,.any,.any,.any,.any,.any,.any,.any,.any,.any,.any,.any,.any,.any,.any] ((5,.cells (((A++(A.take 0).map (·+(l.length:Int)))).flatMap encZ))::[(3,.map (encG sealV4 0 (allG (l++l))) (allG (l++l)).length),(4,.cells [.mp 3]),(1,.map (encG sealV4 0 (allG l)) (allG l).length),(2,.cells [.mp 1]),(0,.cells [.sl p.length 5 (p.flatMap encNd),.sl st.length 2 (st.flatMap encSt)])]) 6) (fun (i:Nat) t=>i≤A.length∧t=stL [.any,(.sl l.length 2 (l.flatMap encC)),(.ptr 0 0),.any,(.g (.bool false)),(.ptr 2 0),(.ptr 4 0),(.sl p.length 1 ((((List.range p.length).map fun n:Nat=>ansM p st l (n:Int))).flatMap encRow)),(.g (.int .i64 (k:Int))),(.sl A.length 1 (A.flatMap encZ)),(.gs 5 0 ((A++(A.take i).map (·+(l.length:Int)))).length 1 ((A++(A.take i).map (·+(l.length:Int)))).length),(.g (.int .i64 (i:Int))),.any,.any,.any,.any,.any,.any,.any,.any,.any,.any,.any,.any,.any,.any,.any,.any,.any,.any,.any,.any,.any,.any,.any,.any,.any,.any,.any,.any,.any,.any,.any,.any,.any,.any,.any,.any,.any,.any,.any,.any,.any,.any,.any,.any,.any,.any,.any,.any,.any,.any,.any,.any,.any,.any,.any,.any,.any,.any,.any,.any,.any,.any,.any,.any,.any,.any,.any,.any,.any,.any,.any,.any,.any,.any,.any,.any,.any,.any,.any,.any,.any,.any,.any,.any,.any,.any,.any,.any,.any,.any,.any,.any,.any,.any,.any,.any] ((5,.cells (((A++(A.take i).map (·+(l.length:Int)))).flatMap encZ))::[(3,.map (encG sealV4 0 (allG (l++l))) (allG (l++l)).length),(4,.cells [.mp 3]),(1,.map (encG sealV4 0 (allG l)) (allG l).length),(2,.cells [.mp 1]),(0,.cells [.sl p.length 5 (p.flatMap encNd),.sl st.length 2 (st.flatMap encSt)])]) 6) (fun i=>A.length - i) 0 ⟨Nat.zero_le _,rfl⟩ ?_ ?_
      ·rw [List.take_zero,List.map_nil,List.append_nil]
       exact grow5 (nb:=6) (by decide) (noIdsL_flat (fun _=>rfl) _) (by simp [getL]) (by simp [ltB,ltE_seal,ltL,ltA,getL,reFB,reFE_seal,reFL,reF,h5]) (by simp [reT_cons,reT_nil,reF,reFL,ltA,ltL,h5])
      rintro i t ⟨hi,rfl⟩
      by_cases hlti:i<A.length
      ·have ra:=rowZ hlti
       have hx:=hab A[i] (List.getElem_mem hlti);have fw:IntKind.i64.wrap (A[i]+(l.length:Int))=A[i]+(l.length:Int):=by rw [IntWalk.i64_in _ (by omega)]
       have hnx:(A++(A.take (i+1)).map (·+(l.length:Int)))=(A++(A.take i).map (·+(l.length:Int)))++[A[i]+(l.length:Int)]:=by
        rw [List.take_succ_eq_append_getElem hlti,List.map_append,List.append_assoc];rfl
       have hbl:(A++(A.take i).map (·+(l.length:Int))).length=A.length+i:=by rw [List.length_append,List.length_map,List.length_take];omega
       have hlz:=lenZ (A++(A.take i).map (·+(l.length:Int)));generalize (A++(A.take i).map (·+(l.length:Int)))=bo at *;have x1:(bo.length+1≤bo.length)=False:=eq_false (by omega);have x2:(bo.length+1)*9≤17179869184:=by omega
       (repeat ((first | with_reducible refine W.step (b:=false) ?_ | skip);simp only [go_sem,↓reduceIte,Nat.reduceAdd,Nat.reduceSub,Nat.reduceMul,Nat.reduceEqDiff,Nat.reduceLeDiff,Nat.reduceLT,Int.reduceLE,Int.reduceLT,Int.reduceToNat,Int.reduceEq,hlti,ra,fw,x1,x2,hlz];try with_reducible refine drawn hmix (by kernel_rfl) ?_))
       refine ⟨i+1,_,⟨hlti,rfl⟩,by show A.length - (i+1)<A.length - i;omega,?_⟩;rw [up1 (by omega),hnx];exact grow5 (nb:=7) (by decide) (noIdsL_flat (fun _=>rfl) _) (by rw [List.flatMap_append];simp [getL,encZ]) (by simp [ltB,ltE_seal,ltL,ltA,getL,reFB,reFE_seal,reFL,reF,h5]) (by simp [reT_cons,reT_nil,reF,reFL,ltA,ltL,h5])
      ·have hie:i=A.length:=by omega
       subst hie;rw [List.take_length];refine W.vs (s1:=stL [.any,(.sl l.length 2 (l.flatMap encC)),(.ptr 0 0),.any,(.g (.bool false)),(.ptr 2 0),(.ptr 4 0),(.sl p.length 1 ((((List.range p.length).map fun n:Nat=>ansM p st l (n:Int))).flatMap encRow)),(.g (.int .i64 (k:Int))),(.sl A.length 1 (A.flatMap encZ)),(.sl (A++A.map (·+(l.length:Int))).length 1 ((A++A.map (·+(l.length:Int))).flatMap encZ)),(.g (.int .i64 (A.length:Int))),.any,.any,.any,.any,.any,.any,.any,.any,.any,.any,.any,.any,.any,.any,.any,.any,.any,.any,.any,.any,.any,.any,.any,.any,.any,.any,.any,.any,.any,.any,.any,.any,.any,.any,.any,.any,.any,.any,.any,.any,.any,.any,.any,.any,.any,.any,.any,.any,.any,.any,.any,.any,.any,.any,.any,.any,.any,.any,.any,.any,.any,.any,.any,.any,.any,.any,.any,.any,.any,.any,.any,.any,.any,.any,.any,.any,.any,.any,.any,.any,.any,.any,.any,.any,.any,.any,.any,.any,.any,.any,.any,.any,.any,.any,.any,.any] [(3,.map (encG sealV4 0 (allG (l++l))) (allG (l++l)).length),(4,.cells [.mp 3]),(1,.map (encG sealV4 0 (allG l)) (allG l).length),(2,.cells [.mp 1]),(0,.cells [.sl p.length 5 (p.flatMap encNd),.sl st.length 2 (st.flatMap encSt)])] 5) ?_ ?_
       ·refine seal5 (nb:=5) (N:=5) (cs:=(A++A.map (·+(l.length:Int))).flatMap encZ) (by decide) rfl (fun a ha=>by obtain ⟨x,-,hx⟩:=List.mem_flatMap.1 ha;simp [encZ] at hx;subst hx;rfl) (by simp [ltB,ltE_seal,ltL,ltA,getL,reFB,reFE_seal,reFL,reF,h5]) (by simp [getL]) ?_ (by simp [keepT_cons,keepT_nil,ltA,ltL])
        simp only [frLF_cons,frLF_nil,frAF_any,frAF_self,true_and,and_true];exact .inr (.inr ⟨5,_,0,_,1,_,rfl,rfl,by rw [List.drop_zero,List.take_of_length_le (by rw [lenZ];omega)],by rw [lenZ];omega⟩)
       have HI1:=ints_p A A (by omega);have hbl:(A++A.map (·+(l.length:Int))).length≤80:=by rw [List.length_append,List.length_map];omega
       have HI2:=ints_p (A++A.map (·+(l.length:Int))) (A++A.map (·+(l.length:Int))) (by omega);rw [decide_eq_true (rfl:A=A)] at HI1;rw [decide_eq_true rfl] at HI2;generalize (A++A.map (·+(l.length:Int)))=bo at *
       (repeat ((first | with_reducible refine W.step (b:=true) ?_ | skip);simp only [go_sem,↓reduceIte,Nat.reduceAdd,Nat.reduceSub,Nat.reduceMul,Nat.reduceEqDiff,Nat.reduceLeDiff,Nat.reduceLT,Int.reduceLE,Int.reduceLT,Int.reduceToNat,Int.reduceEq,hlti];(try with_reducible refine drawn hmix (by kernel_rfl) ?_);try with_reducible refine ⟨by kernel_rfl,?_⟩))
       refine AtCallD.mem (m':=[(1,.map (encG sealV4 0 (allG l)) (allG l).length),(2,.cells [.mp 1]),(3,.map (encG sealV4 0 (allG (l++l))) (allG (l++l)).length),(4,.cells [.mp 3]),(0,.cells [.sl p.length 5 (p.flatMap encNd),.sl st.length 2 (st.flatMap encSt)])]) (MX _ 5 (by decide) rfl rfl) ?_
       (repeat ((first | with_reducible refine W.step (b:=true) ?_ | skip);simp only [go_sem,↓reduceIte,Nat.reduceAdd,Nat.reduceSub,Nat.reduceMul,Nat.reduceEqDiff,Nat.reduceLeDiff,Nat.reduceLT,Int.reduceLE,Int.reduceLT,Int.reduceToNat,Int.reduceEq];(try with_reducible refine drawn hmix (by kernel_rfl) ?_);try with_reducible refine ⟨by kernel_rfl,?_⟩))
       refine AtCallD.mk HI1 ?_
       (repeat ((first | with_reducible refine W.step (b:=true) ?_ | skip);simp only [go_sem,↓reduceIte,Nat.reduceAdd,Nat.reduceSub,Nat.reduceMul,Nat.reduceEqDiff,Nat.reduceLeDiff,Nat.reduceLT,Int.reduceLE,Int.reduceLT,Int.reduceToNat,Int.reduceEq];(try with_reducible refine drawn hmix (by kernel_rfl) ?_);try with_reducible refine ⟨by kernel_rfl,?_⟩))
       refine AtCallD.mem (m':=[(3,.map (encG sealV4 0 (allG (l++l))) (allG (l++l)).length),(4,.cells [.mp 3]),(1,.map (encG sealV4 0 (allG l)) (allG l).length),(2,.cells [.mp 1]),(0,.cells [.sl p.length 5 (p.flatMap encNd),.sl st.length 2 (st.flatMap encSt)])]) (MY _ 5 (by decide) rfl rfl) ?_
       (repeat ((first | with_reducible refine W.step (b:=true) ?_ | skip);simp only [go_sem,↓reduceIte,Nat.reduceAdd,Nat.reduceSub,Nat.reduceMul,Nat.reduceEqDiff,Nat.reduceLeDiff,Nat.reduceLT,Int.reduceLE,Int.reduceLT,Int.reduceToNat,Int.reduceEq];(try with_reducible refine drawn hmix (by kernel_rfl) ?_);try with_reducible refine ⟨by kernel_rfl,?_⟩))
       refine AtCallD.mk HI2 ?_
       (repeat ((first | with_reducible refine W.step (b:=true) ?_ | skip);simp only [go_sem,↓reduceIte,Nat.reduceAdd,Nat.reduceSub,Nat.reduceMul,Nat.reduceEqDiff,Nat.reduceLeDiff,Nat.reduceLT,Int.reduceLE,Int.reduceLT,Int.reduceToNat,Int.reduceEq];(try with_reducible refine drawn hmix (by kernel_rfl) ?_);try with_reducible refine ⟨by kernel_rfl,?_⟩))
       refine AtCallD.mem (new_nil _ 5) ?_
       (repeat ((first | with_reducible refine W.step (b:=true) ?_ | skip);simp only [go_sem,↓reduceIte,Nat.reduceAdd,Nat.reduceSub,Nat.reduceMul,Nat.reduceEqDiff,Nat.reduceLeDiff,Nat.reduceLT,Int.reduceLE,Int.reduceLT,Int.reduceToNat,Int.reduceEq];(try with_reducible refine drawn hmix (by kernel_rfl) ?_);try with_reducible refine ⟨by kernel_rfl,?_⟩))
       refine AtCallD.mem (m':=[(5,.map [] 0),(6,.cells [.mp 5]),(3,.map (encG sealV4 0 (allG (l++l))) (allG (l++l)).length),(4,.cells [.mp 3]),(1,.map (encG sealV4 0 (allG l)) (allG l).length),(2,.cells [.mp 1]),(0,.cells [.sl p.length 5 (p.flatMap encNd),.sl st.length 2 (st.flatMap encSt)])]) (MZ _ 7 (by decide) rfl rfl) ?_
       (repeat ((first | with_reducible refine W.step (b:=true) ?_ | skip);simp only [go_sem,↓reduceIte,Nat.reduceAdd,Nat.reduceSub,Nat.reduceMul,Nat.reduceEqDiff,Nat.reduceLeDiff,Nat.reduceLT,Int.reduceLE,Int.reduceLT,Int.reduceToNat,Int.reduceEq];(try with_reducible refine drawn hmix (by kernel_rfl) ?_);try with_reducible refine ⟨by kernel_rfl,?_⟩))
       refine ⟨k+1,_,⟨hlt,rfl⟩,by show p.length - (k+1)<p.length - k;omega,?_⟩;rw [up1 (by omega)];exact VSdrop (by simp [ltB,ltE_seal,ltL,ltA,getL,reFB,reFE_seal,reFL,reF,h5]) (by simp [keepT_cons,keepT_nil,ltA,ltL])
    ·(repeat ((first | with_reducible refine W.step (b:=false) ?_ | skip);simp only [go_sem,↓reduceIte,Nat.reduceAdd,Nat.reduceSub,Nat.reduceMul,Nat.reduceEqDiff,Nat.reduceLeDiff,Nat.reduceLT,Int.reduceLE,Int.reduceLT,Int.reduceToNat,Int.reduceEq,hlt];try with_reducible refine drawn hmix (by kernel_rfl) ?_))
     exact postP_one _ (.inr rfl) rfl (.plain rfl)
end Go.Proofs.YtlnaihkombcbcaaGreat
namespace Go.Proofs.YtlnaihkombcbcaaGreat
open Go.ChangeShapes Go.WideShapes Go.ChangeAt Go.RowKit Go.Ev
theorem own:ownKnob Tryz.prog.godebug=none:=by kernel_rfl
section
variable {H:Type} {enc:TypeId×Value→H} {P:Program}
theorem post_of_below {f:Func} {s:ChangeSpec} {apart fresh handsOn again:Bool} {W W':World} {args:Array Value} {v:Value} {ds gs:List (DataW H)} {before pa pv:List MemPlace}
 (hW:DataW.Whole enc P f.params.toList s.vars apart W args.toList ds gs before)
 (hres:∀ (b:Nat) (sp:Nat→Bool) (hd:Bool),DataW.TrodAll enc P W' b sp hd f.resultTypes.toList (v.resultList f.resultTypes.size) (s.fn H (ds++gs)).results [])
 (hargs:∀ sp:Nat→Bool,(∀ p∈before,sp p.block=true)→DataW.TrodAll enc P W' 0 sp true f.params.toList args.toList (s.fn H (ds++gs)).args pa)
 (hvars:∀ sp:Nat→Bool,(∀ p∈before,sp p.block=true)→DataW.TrodVars enc P W' sp s.vars (s.fn H (ds++gs)).vars pv)
 (hps:before=pa++pv) (hB:Below W.heap.size W W')
 (hok:∀ (j:Nat) (t:TypeId) (r:Value),f.resultTypes[j]?=some t→(v.resultList f.resultTypes.size)[j]?=some r→Value.okWide P W' .any 0 t r) :
 s.post enc P f apart fresh handsOn again W args v W':=by
 have hold:∀ p∈before,(fun b=>decide (b<W.heap.size)) p.block=true:=fun p hp=>by simpa using hW.lt p hp
 have hlt:=fun p hp=>hW.lt p hp;refine ⟨ds,gs,before,[],pa,pv,hW,hres _ _ _,hargs _ hold,hvars _ hold,World.keptBut_mono (fun p hp=>⟨hp,?_⟩) (hB.frame (·∈before)),fun _=>?_⟩
 ·rw [hps,List.mem_append] at hp
  exact Or.inr hp
 ·obtain ⟨_,_,_,_,_,hz,hn⟩:=hW
  refine ⟨hok,_,_,([]++pa)++pv,⟨[]++pa,pv,trodAll_append (hargs _ (fun _ _=>rfl)) (hres _ _ _),hvars _ (fun _ _=>rfl),rfl,?_,?_⟩,?_⟩
  ·intro b off hp
   have hp':MemPlace.cell b off∈before:=by rw [hps];simpa using hp
   rw [hB.frozen (hlt _ hp')];exact hz b off hp'
  ·intro ha
   have:=hn ha;rw [hps] at this;simpa using this
  ·intro p hp _
   rw [hps];simpa using hp
end
theorem readableCxs:Tryz.prog.readableRec 50=true:=by kernel_rfl
theorem inTableCxs:50<Tryz.prog.types.size:=of_decide_eq_true (by kernel_rfl)
theorem readableW:Tryz.prog.readableRec 72=true:=by kernel_rfl
theorem inTableW:72<Tryz.prog.types.size:=of_decide_eq_true (by kernel_rfl)
namespace quickAll
set_option maxRecDepth 1000000 in
theorem contract (H:Type) (enc:TypeId×Value→H) (W:World) (base:Nat) (args:Array Value) (ds gs:List (DataW H)) (before:List MemPlace)
 (hval:∀ (j:Nat) t v,Tryz.f12.params[j]?=some t→args[j]?=some v→Value.okWide Tryz.prog W .any base t v)
 (hW:DataW.Whole enc Tryz.prog Tryz.f12.params.toList Rows.quickAllSpec.vars false W args.toList ds gs before)
 (hw:(DataW.weightsEach Tryz.prog (Tryz.f12.params.toList++Rows.quickAllSpec.plain.varTypes Tryz.prog) (ds++gs)).all (·≤reachBytes)=true) :
 Calls Tryz.prog 12 args W fun e W'=>∃ v,e=.returned v∧Rows.quickAllSpec.post enc Tryz.prog Tryz.f12 false true false false W args v W':=by
 have hW':=hW;obtain ⟨p,q,hA0,hV,rfl,hfz,hnd⟩:=hW;have hA:DataW.TrodAll enc Tryz.prog W 0 (fun _=>true) true Tryz.f12.params.toList args.toList ds p:=hA0;rw [show Tryz.f12.params=#[72,50] by kernel_rfl] at hA hval hw;obtain ⟨v0,vs0,d0,ds0,p0,q0,hargs,rfl,rfl,h0,r0⟩:=trodAll_cons hA;obtain ⟨v1,vs1,d1,ds1,p1,q1,rfl,rfl,rfl,h1,r1⟩:=trodAll_cons r0;obtain ⟨rfl,rfl,rfl⟩:=trodAll_nil r1;obtain rfl:args=#[v0,v1]:=by cases args;simp_all
 obtain ⟨rfl,rfl⟩:=trodVars_none hV;have hw':=List.all_eq_true.1 hw;have fit0:Fits Tryz.prog 72 d0:=fun x hx=>by
  simpa using hw' x (mem_weightsEach (i:=0) rfl rfl x hx)
 have fit1:Fits Tryz.prog 50 d1:=fun x hx=>by
  simpa using hw' x (mem_weightsEach (i:=1) rfl rfl x hx)
 obtain ⟨pg,st,hpg⟩:=open_world (hval 0 72 v0 (by simp) (by simp)) h0 fit0;obtain ⟨a,ha,ga⟩:=open_cxs (hval 1 50 v1 (by simp) (by simp)) h1 fit1;clear hA0;have hlt0:∀ x∈p0,x.block<W.heap.size:=fun x hx=>by simpa using hW'.lt x (by simp [hx])
 have hlt1:∀ x∈p1,x.block<W.heap.size:=fun x hx=>by simpa using hW'.lt x (by simp [hx])
 refine ((all13_p pg st a ga).pure.at W #[v0,v1] (fun g cs h=>by cases h) (VRs.cons_mk hpg (VRs.cons_mk ha (by rw [VRs])))).mono ?_;rintro e W' ⟨r,rfl,hr,hB⟩;obtain rfl:r=.bool true:=hr
 exact ⟨_,rfl,post_of_below (pa:=p0++(p1++[])) (pv:=[]) hW' (fun _ _ _=>trodAll_cons_mk (shut_bool Tryz.underlying4 _) trodAll_mk0)
  (fun sp hsp=>trodAll_cons_mk (WideElems.Trod_stays p_laid readableW inTableW h0 (fun x hx=>hB.same (hlt0 x hx)) (fun x hx=>hsp x (by simp [hx])))
    (trodAll_cons_mk (WideElems.Trod_stays p_laid readableCxs inTableCxs h1 (fun x hx=>hB.same (hlt1 x hx)) (fun x hx=>hsp x (by simp [hx]))) trodAll_mk0))
  (fun _ _=>rfl) rfl hB (ok_one (by kernel_rfl) rfl (okWide_bool_mk Tryz.underlying4 _))⟩
set_option maxRecDepth 100000 in
theorem lifted (os:Os) (started:os.Started) (H:Type) (enc:TypeId×Value→H) :
 ReturnsInHanded {} Tryz.checked os 12 .any (Rows.quickAllSpec.pre6 enc Tryz.prog Tryz.f12 Rows.quickAllRow.domain false) (Rows.quickAllSpec.post enc Tryz.prog Tryz.f12 false true false false):=by
 refine returnsInHanded_of_change_sized (C:=Tryz.checked) own started (by kernel_rfl) Tryz.func12
  (ChangeSpec.witness6 (enc:=enc) (C:=Tryz.checked) false ⟨#[],#[.agg #[.slice none 0 0,.slice none 0 0],.slice none 0 0],[]⟩ 8 (by kernel_rfl) (by kernel_rfl) (by kernel_rfl) (by kernel_rfl)) ?_
 intro W base args ds gs before hval hW _ hw _;exact contract H enc W base args ds gs before hval hW hw
theorem said:Rows.QuickAllSaid :=
 OpenClaim.holds_of_wide 12 Tryz.f12 rfl rfl rfl rfl rfl rfl rfl ⟨rfl,rfl,rfl,rfl,rfl⟩ rfl rfl rfl rfl rfl row_named Tryz.func12 closed
  (of_decide_eq_true (by kernel_rfl)) row_wrapper
  (fun os started H enc _=>lifted os started H enc)
end quickAll
end Go.Proofs.YtlnaihkombcbcaaGreat
end
