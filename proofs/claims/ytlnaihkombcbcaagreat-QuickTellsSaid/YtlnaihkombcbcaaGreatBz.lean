/- The law QuickTells is true of every input: the statement of the first form. -/
import Derived.Test.YtlnaihkombcbcaaGreatBd5
import Derived.Test.YtlnaihkombcbcaaGreatBd4
import Derived.Test.YtlnaihkombcbcaaGreatBc8
import Derived.WalkKit
import Derived.ProofKit
import Derived.OpenShut
import Derived.SizedLaws
import Derived.WideKeyArgs
set_option linter.unusedSimpArgs false
noncomputable section
namespace Go.Proofs.YtlnaihkombcbcaaGreat
open Go.RowKit Go.Ev
attribute [local go_sem] eq_self false_and and_false Bool.false_eq_true List.set_cons_succ List.set_cons_zero List.getD_cons_succ List.getD_cons_zero List.getElem?_cons_succ List.getElem?_cons_zero true_and and_true and_self Bool.not_true Bool.not_false Nat.add_zero Nat.zero_add Nat.mul_one Int.toNat_natCast Int.natCast_nonneg Int.ofNat_lt Option.bind_some Option.map_some List.map_cons List.map_nil decide_true decide_false BEq.rfl Bool.and_self Bool.and_true Bool.and_false beq_self_eq_true List.cons_append List.nil_append List.take_zero List.take_succ_cons List.take_nil List.drop_succ_cons List.drop_zero List.drop_nil List.append_nil List.length_cons List.length_nil List.all_cons List.all_nil Nat.le_refl Int.le_refl Option.map_none List.replicate_zero List.replicate_succ Nat.zero_mul Nat.sub_zero Nat.zero_le Nat.le_zero_eq getR_nil Option.some_or Option.none_or Option.or_none Option.isSome_some Option.isSome_none Option.getD_some Option.getD_none Int.toNat_zero Int.natCast_zero Int.natCast_one Int.cast_ofNat_Int List.toList_toArray
attribute [go_sem] appL newsA isSlice
theorem ag_bools:aggO Tryz.prog 310=some (false,1):=by kernel_rfl
theorem el_bools:elemO Tryz.prog 310=some 1:=by kernel_rfl
theorem ei_bools:elemI Tryz.prog 310=some (1,1,true):=by kernel_rfl
theorem ez_bools:elemZ Tryz.prog 310=[.bool false]:=by kernel_rfl
theorem un_bools:slOrStr (Tryz.prog.underlying 310)=true:=by kernel_rfl
attribute [go_sem] ag_bools el_bools ei_bools ez_bools un_bools
def bo (f:Nat→Bool) (N:Nat):List AV:=(List.range N).map fun n=>AV.g (.bool (f n))
theorem bo_len (f:Nat→Bool) (N:Nat):(bo f N).length=N:=by unfold bo;rw [List.length_map,List.length_range]
theorem bo_get {f:Nat→Bool} {N k:Nat} (h:k<N):(bo f N)[k]?=some (.g (.bool (f k))):=by unfold bo;rw [List.getElem?_map,List.getElem?_range h];rfl
theorem bo_at {f:Nat→Bool} {N k:Nat} (h:k<(bo f N).length):(bo f N)[k]=.g (.bool (f k)):=by
 have h1:k<N:=by rwa [bo_len] at h
 have h2:=bo_get (f:=f) h1;rw [List.getElem?_eq_getElem h] at h2;exact Option.some.inj h2
theorem bo_congr {f g:Nat→Bool} {N:Nat} (h:∀ j,j<N→f j=g j):bo f N=bo g N:=by
 unfold bo;exact List.map_congr_left fun j hj=>by rw [h j (List.mem_range.1 hj)]
theorem bo_set {f:Nat→Bool} {N i:Nat} (b:Bool) (h:i<N):(bo f N).take i++.g (.bool b)::(bo f N).drop (i+1)=bo (fun j=>if j=i then b else f j) N:=by
 rw [put_set (by rw [bo_len];exact h)];refine List.ext_getElem (by rw [List.length_set,bo_len,bo_len]) fun j h1 h2=>?_;rw [List.getElem_set,bo_at,bo_at]
 by_cases e:i=j
 ·subst e;simp
 ·rw [if_neg e,if_neg (fun h=>e h.symm)]
theorem bo_zero:∀ N,zerosA [.bool false] N=bo (fun _=>false) N:=by
 have h:∀ N,zerosA [.bool false] N=List.replicate N (AV.g (.bool false)):=by
  intro N
  induction N with
  | zero=>rfl
  | succ N ih=>rw [zerosA,ih];rfl
 intro N;rw [h];refine List.ext_getElem (by rw [List.length_replicate,bo_len]) fun j h1 h2=>?_;rw [List.getElem_replicate,bo_at]
theorem bo_plain (f:Nat→Bool) (N:Nat):∀ a∈bo f N,plainA a=true:=fun a ha=>by
 unfold bo at ha;obtain ⟨x,-,rfl⟩:=List.mem_map.1 ha
 rfl
theorem bo_ids (f:Nat→Bool) (N:Nat):noIdsL (bo f N)=true:=noIdsL_map (fun _=>rfl) _
theorem rowP2 {l:List Part} {k:Nat} (hk:k<l.length):(l.flatMap encP)[k*2]?=some (.g (.int .i64 l[k].comb))∧(l.flatMap encP)[k*2+1]?=some (.sl l[k].l.length 6 (l[k].l.flatMap encS)):=by
 have h:=flat_get encP 2 (fun _=>rfl) l k hk;exact ⟨h 0 (by decide),h 1 (by decide)⟩
set_option maxRecDepth 100000 in
set_option maxHeartbeats 4000000 in
theorem some12_p (p:List Nod) (f:Nat→Bool) (n:Nat) (comb:Int) (hp:OkPg p) (hT:TreeP p) (hn:elemB p n=true):PureN Tryz.prog gt0 285 [.sl p.length 5 (p.flatMap encNd),.sl p.length 1 (bo f p.length),.g (.int .i64 (n:Int)),.g (.int .i64 comb)] (.g (.bool (someR p f n comb))):=by
 refine PureN.of_w (c:=_) Tryz.func285 rfl (by kernel_rfl) rfl ?_;simp only [Tryz.f285,List.replicate,List.length_cons,List.length_nil,Nat.reduceAdd,Nat.reduceSub,List.cons_append,List.nil_append];obtain ⟨n0,n1⟩:=elem_pos hT hn;have hlen:=hp.len
 (repeat ((first | with_reducible refine W.step (b:=false) ?_ | skip);simp only [go_sem,↓reduceIte,Nat.reduceAdd,Nat.reduceSub,Nat.reduceMul,Nat.reduceEqDiff,Nat.reduceLeDiff,Nat.reduceLT,Int.reduceLE,Int.reduceLT,Int.reduceToNat,Int.reduceEq];try with_reducible refine drawn hmix (by kernel_rfl) ?_))
 refine W.loop (s1:=stL [(.sl p.length 5 (p.flatMap encNd)),(.sl p.length 1 (bo f p.length)),(.g (.int .i64 (n:Int))),(.g (.int .i64 comb)),.any,.any,.any,.any,(.g (.bool false)),(.g (.int .i64 ((1:Nat):Int))),.any,.any,.any,.any,.any,.any,.any,.any,.any,.any,.any,.any,.any,.any,.any,.any,.any] [] 0)
  (fun (m:Nat) t=>m≤p.length∧0<m∧(∀ j,j<m→0<j→(f j&&standsR p n j comb)=false)∧t=stL [(.sl p.length 5 (p.flatMap encNd)),(.sl p.length 1 (bo f p.length)),(.g (.int .i64 (n:Int))),(.g (.int .i64 comb)),.any,.any,.any,.any,(.g (.bool false)),(.g (.int .i64 (m:Int))),.any,.any,.any,.any,.any,.any,.any,.any,.any,.any,.any,.any,.any,.any,.any,.any,.any] [] 0) (fun m=>p.length - m) 1 ⟨by omega,by decide,fun j h1 h2=>by omega,rfl⟩ (VS.tm (by simp [leL])) ?_
 rintro m t ⟨hm,hm0,hno,rfl⟩
 by_cases hlt:m<p.length
 ·have r:=bo_get (f:=f) hlt
  have nxt:(f m&&standsR p n m comb)=false→∀ j,j<m+1→0<j→(f j&&standsR p n j comb)=false:=fun h j h1 h2=>by
   rcases Nat.lt_or_ge j m with h3 | h3
   ·exact hno j h3 h2
   ·obtain rfl:j=m:=by omega
    exact h
  cases hfm:f m with
  | false =>
    rw [hfm] at r
    (repeat ((first | with_reducible refine W.step (b:=false) ?_ | skip);simp only [go_sem,↓reduceIte,Nat.reduceAdd,Nat.reduceSub,Nat.reduceMul,Nat.reduceEqDiff,Nat.reduceLeDiff,Nat.reduceLT,Int.reduceLE,Int.reduceLT,Int.reduceToNat,Int.reduceEq,hlt,r];try with_reducible refine drawn hmix (by kernel_rfl) ?_))
    refine ⟨m+1,_,⟨by omega,by omega,nxt (by rw [hfm];rfl),rfl⟩,by show p.length - (m+1)<p.length - m;omega,VS.tm ?_⟩;rw [up1 (by omega)];simp [leL]
  | true =>
    rw [hfm] at r
    (repeat ((first | with_reducible refine W.step (b:=false) ?_ | skip);simp only [go_sem,↓reduceIte,Nat.reduceAdd,Nat.reduceSub,Nat.reduceMul,Nat.reduceEqDiff,Nat.reduceLeDiff,Nat.reduceLT,Int.reduceLE,Int.reduceLT,Int.reduceToNat,Int.reduceEq,hlt,r];try with_reducible refine drawn hmix (by kernel_rfl) ?_))
    refine AtCall.mk (stands12_p p n m comb hp hT n1 hlt hm0) ?_
    cases hst:standsR p n m comb with
    | false =>
      (repeat ((first | with_reducible refine W.step (b:=false) ?_ | skip);simp only [go_sem,↓reduceIte,Nat.reduceAdd,Nat.reduceSub,Nat.reduceMul,Nat.reduceEqDiff,Nat.reduceLeDiff,Nat.reduceLT,Int.reduceLE,Int.reduceLT,Int.reduceToNat,Int.reduceEq];try with_reducible refine drawn hmix (by kernel_rfl) ?_))
      refine ⟨m+1,_,⟨by omega,by omega,nxt (by rw [hst,Bool.and_false]),rfl⟩,by show p.length - (m+1)<p.length - m;omega,VS.tm ?_⟩;rw [up1 (by omega)];simp [leL]
    | true =>
      have ha:someR p f n comb=true:=by
       unfold someR;exact List.any_eq_true.2 ⟨m,List.mem_range.2 hlt,by rw [decide_eq_true hm0,hfm,hst];rfl⟩
      rw [ha]
      (repeat ((first | with_reducible refine W.step (b:=false) ?_ | skip);simp only [go_sem,↓reduceIte,Nat.reduceAdd,Nat.reduceSub,Nat.reduceMul,Nat.reduceEqDiff,Nat.reduceLeDiff,Nat.reduceLT,Int.reduceLE,Int.reduceLT,Int.reduceToNat,Int.reduceEq];try with_reducible refine drawn hmix (by kernel_rfl) ?_))
      exact postP_one _ (.inr rfl) rfl (.plain rfl)
 ·have ha:someR p f n comb=false:=by
   unfold someR;refine List.any_eq_false.2 fun j hj=>?_;have h1:=List.mem_range.1 hj
   by_cases h2:0<j
   ·rw [hno j (by omega) h2,Bool.and_false];decide
   ·rw [decide_eq_false h2,Bool.false_and];decide
  rw [ha]
  (repeat ((first | with_reducible refine W.step (b:=false) ?_ | skip);simp only [go_sem,↓reduceIte,Nat.reduceAdd,Nat.reduceSub,Nat.reduceMul,Nat.reduceEqDiff,Nat.reduceLeDiff,Nat.reduceLT,Int.reduceLE,Int.reduceLT,Int.reduceToNat,Int.reduceEq,hlt];try with_reducible refine drawn hmix (by kernel_rfl) ?_))
  exact postP_one _ (.inr rfl) rfl (.plain rfl)
abbrev frontS (p:List Nod) (st:List Stt) (PT:List Part) (k:Nat):Nat→Bool:=fitsS p st (PT.take k).reverse
set_option maxRecDepth 100000 in
set_option maxHeartbeats 4000000 in
theorem fits12_p (p:List Nod) (st:List Stt) (PT:List Part) (s:ByteArray) (hp:OkPg p) (hT:TreeP p) (hp0:0<p.length) (hs:st.length≤1000000) (hPT:okPT PT):PureN Tryz.prog gt0 225 [.sl p.length 5 (p.flatMap encNd),.sl st.length 2 (st.flatMap encSt),.agg [.sl PT.length 2 (PT.flatMap encP),.g (.string s)]] (.sl p.length 1 (bo (fitsS p st PT.reverse) p.length)):=by
 refine PureN.of_w (c:=_) Tryz.func225 rfl (by kernel_rfl) rfl ?_;simp only [Tryz.f225,List.replicate,List.length_cons,List.length_nil,Nat.reduceAdd,Nat.reduceSub,List.cons_append,List.nil_append];have hlen:=hp.len;have hpt:=hPT.1;have fm:(p.length*(1+1)≤17179869184)=True:=eq_true (by omega);have fm2:(p.length*2≤17179869184)=True:=eq_true (by omega)
 (repeat ((first | with_reducible refine W.step (b:=false) ?_ | skip);simp only [go_sem,↓reduceIte,Nat.reduceAdd,Nat.reduceSub,Nat.reduceMul,Nat.reduceEqDiff,Nat.reduceLeDiff,Nat.reduceLT,Int.reduceLE,Int.reduceLT,Int.reduceToNat,Int.reduceEq,fm,fm2];try with_reducible refine drawn hmix (by kernel_rfl) ?_))
 refine W.loop (s1:=stL [(.sl p.length 5 (p.flatMap encNd)),(.sl st.length 2 (st.flatMap encSt)),.any,.any,.any,(.ptr 0 0),.any,(.sl p.length 1 (bo (frontS p st PT 0) p.length)),(.g (.int .i64 ((0:Nat):Int))),.any,.any,.any,.any,.any,.any,.any,.any,.any,.any,.any,.any,.any,.any,.any,.any,.any,.any,.any,.any,.any,.any,.any,.any,.any,.any,.any,.any,.any,.any,.any,.any,.any,.any,.any,.any,.any,.any,.any,.any,.any,.any,.any,.any,.any,.any,.any,.any,.any,.any,.any,.any,.any,.any,.any,.any,.any] [(0,.cells [.sl PT.length 2 (PT.flatMap encP),.g (.string s)])] 1)
  (fun (i:Nat) t=>i≤PT.length∧t=stL [(.sl p.length 5 (p.flatMap encNd)),(.sl st.length 2 (st.flatMap encSt)),.any,.any,.any,(.ptr 0 0),.any,(.sl p.length 1 (bo (frontS p st PT i) p.length)),(.g (.int .i64 (i:Int))),.any,.any,.any,.any,.any,.any,.any,.any,.any,.any,.any,.any,.any,.any,.any,.any,.any,.any,.any,.any,.any,.any,.any,.any,.any,.any,.any,.any,.any,.any,.any,.any,.any,.any,.any,.any,.any,.any,.any,.any,.any,.any,.any,.any,.any,.any,.any,.any,.any,.any,.any,.any,.any,.any,.any,.any,.any] [(0,.cells [.sl PT.length 2 (PT.flatMap encP),.g (.string s)])] 1) (fun i=>PT.length - i) 0 ⟨Nat.zero_le _,rfl⟩ ?_ ?_
 ·have hz:bo (frontS p st PT 0) p.length=bo (fun _=>false) p.length:=bo_congr fun j _=>by simp [frontS,fitsS]
  rw [hz,bo_zero];refine VS.trans (VS.sealT (m':=[(0,.cells [.sl PT.length 2 (PT.flatMap encP),.g (.string s)])]) (l':=[(.sl p.length 5 (p.flatMap encNd)),(.sl st.length 2 (st.flatMap encSt)),.any,.any,.any,(.ptr 0 0),.any,(.sl p.length 1 (bo (fun _=>false) p.length)),(.g (.int .i64 ((0:Nat):Int))),.any,.any,.any,.any,.any,.any,.any,.any,.any,.any,.any,.any,.any,.any,.any,.any,.any,.any,.any,.any,.any,.any,.any,.any,.any,.any,.any,.any,.any,.any,.any,.any,.any,.any,.any,.any,.any,.any,.any,.any,.any,.any,.any,.any,.any,.any,.any,.any,.any,.any,.any,.any,.any,.any,.any,.any,.any]) 1 (bo (fun _=>false) p.length) rfl (bo_plain _ _) ?_ ⟨⟨by decide,.inl rfl⟩,trivial⟩) (VS.ren [(0,0)] (by simp) (by simp) (by simp) (by simp only [go_sem,↓reduceIte,Nat.reduceAdd,Nat.reduceSub,Nat.reduceMul,Nat.reduceEqDiff,Nat.reduceLeDiff,Nat.reduceLT,Int.reduceLE,Int.reduceLT,Int.reduceToNat,Int.reduceEq]) ⟨⟨0,_,rfl,rfl,_,rfl,.inl ⟨rfl,rfl⟩⟩,trivial⟩);simp only [frL_cons,frL_nil,frA_any,frA_self,and_true,true_and];exact ⟨.inr (.inr ⟨0,_,1,_,rfl,by rw [List.drop_zero,Nat.mul_one,List.take_of_length_le (by rw [bo_len];exact Nat.le_refl _)],by rw [bo_len];omega⟩),.inr (.inl rfl)⟩
 rintro i t ⟨hi,rfl⟩
 by_cases hlt:i<PT.length
 rotate_left
 ·obtain rfl:i=PT.length:=by omega
  have hfr:frontS p st PT PT.length=fitsS p st PT.reverse:=by unfold frontS;rw [List.take_length]
  rw [hfr]
  (repeat ((first | with_reducible refine W.step (b:=false) ?_ | skip);simp only [go_sem,↓reduceIte,Nat.reduceAdd,Nat.reduceSub,Nat.reduceMul,Nat.reduceEqDiff,Nat.reduceLeDiff,Nat.reduceLT,Int.reduceLE,Int.reduceLT,Int.reduceToNat,Int.reduceEq,hlt];try with_reducible refine drawn hmix (by kernel_rfl) ?_))
  exact postP_one _ (.inr rfl) rfl (.plain rfl)
 have rP:=rowP2 hlt;obtain ⟨q1,q2⟩:=hPT.2 _ (List.getElem_mem hlt)
 (repeat ((first | with_reducible refine W.step (b:=false) ?_ | skip);simp only [go_sem,↓reduceIte,Nat.reduceAdd,Nat.reduceSub,Nat.reduceMul,Nat.reduceEqDiff,Nat.reduceLeDiff,Nat.reduceLT,Int.reduceLE,Int.reduceLT,Int.reduceToNat,Int.reduceEq,hlt,fm,fm2];try with_reducible refine drawn hmix (by kernel_rfl) ?_))
 refine W.loop (s1:=stL [(.sl p.length 5 (p.flatMap encNd)),(.sl st.length 2 (st.flatMap encSt)),.any,.any,.any,(.ptr 0 0),.any,(.sl p.length 1 (bo (frontS p st PT i) p.length)),(.g (.int .i64 (i:Int))),(.gs 1 0 p.length 1 p.length),(.g (.int .i64 ((1:Nat):Int))),.any,.any,.any,.any,.any,.any,.any,.any,.any,.any,.any,.any,.any,.any,.any,.any,.any,.any,.any,.any,.any,.any,.any,.any,.any,.any,.any,.any,.any,.any,.any,.any,.any,.any,.any,.any,.any,.any,.any,.any,.any,.any,.any,.any,.any,.any,.any,.any,.any,.any,.any,.any,.any,.any,.any] [(0,.cells [.sl PT.length 2 (PT.flatMap encP),.g (.string s)]),(1,.cells (bo (fun j=>decide (j<1)&&frontS p st PT (i+1) j) p.length))] 2)
  (fun (n:Nat) t=>n≤p.length∧0<n∧t=stL [(.sl p.length 5 (p.flatMap encNd)),(.sl st.length 2 (st.flatMap encSt)),.any,.any,.any,(.ptr 0 0),.any,(.sl p.length 1 (bo (frontS p st PT i) p.length)),(.g (.int .i64 (i:Int))),(.gs 1 0 p.length 1 p.length),(.g (.int .i64 (n:Int))),.any,.any,.any,.any,.any,.any,.any,.any,.any,.any,.any,.any,.any,.any,.any,.any,.any,.any,.any,.any,.any,.any,.any,.any,.any,.any,.any,.any,.any,.any,.any,.any,.any,.any,.any,.any,.any,.any,.any,.any,.any,.any,.any,.any,.any,.any,.any,.any,.any,.any,.any,.any,.any,.any,.any] [(0,.cells [.sl PT.length 2 (PT.flatMap encP),.g (.string s)]),(1,.cells (bo (fun j=>decide (j<n)&&frontS p st PT (i+1) j) p.length))] 2) (fun n=>p.length - n) 1 ⟨by omega,by decide,rfl⟩ ?_ ?_
 ·have hz:bo (fun j=>decide (j<1)&&frontS p st PT (i+1) j) p.length=zerosA [.bool false] p.length:=by
   rw [bo_zero];refine bo_congr fun j _=>?_
   by_cases h1:j<1
   ·obtain rfl:j=0:=by omega
    cases hc:frontS p st PT (i+1) 0 with
    | false=>rfl
    | true=>exact absurd (elem_pos hT (fitsS_elem hc)).1 (by decide)
   ·rw [decide_eq_false h1,Bool.false_and]
  rw [hz];exact VS.ren [(0,0),(1,1)] (by simp) (by simp) (by simp) (by simp only [go_sem,↓reduceIte,Nat.reduceAdd,Nat.reduceSub,Nat.reduceMul,Nat.reduceEqDiff,Nat.reduceLeDiff,Nat.reduceLT,Int.reduceLE,Int.reduceLT,Int.reduceToNat,Int.reduceEq]) ⟨⟨0,_,rfl,rfl,_,rfl,.inl ⟨rfl,rfl⟩⟩,⟨1,_,rfl,rfl,_,rfl,.inl ⟨rfl,by rw [bo_zero];exact bo_ids _ _⟩⟩,trivial⟩
 rintro n t ⟨hn,hn0,rfl⟩
 by_cases hnl:n<p.length
 ·have hg:n+1≤(bo (fun j=>decide (j<n)&&frontS p st PT (i+1) j) p.length).length:=by rw [bo_len];exact hnl
  have hput:∀ b:Bool,b=frontS p st PT (i+1) n→(bo (fun j=>decide (j<n)&&frontS p st PT (i+1) j) p.length).take n++.g (.bool b)::(bo (fun j=>decide (j<n)&&frontS p st PT (i+1) j) p.length).drop (n+1)=bo (fun j=>decide (j<n+1)&&frontS p st PT (i+1) j) p.length:=fun b hb=>by
   rw [bo_set b hnl];refine bo_congr fun j _=>?_
   by_cases hj:j=n
   ·subst hj
    rw [if_pos rfl,hb,decide_eq_true (Nat.lt_succ_self _),Bool.true_and]
   ·rw [if_neg hj]
    congr 1
    exact decide_eq_decide.2 (by omega)
  have hstep:frontS p st PT (i+1) n=(elemB p n&&(PT[i].l.all (holdsS p st n)&&(decide (i=0)||someR p (frontS p st PT i) n PT[i].comb))):=row_step hT hlt;have fin:∀ m:ML,(getL m 0=some (.cells [.sl PT.length 2 (PT.flatMap encP),.g (.string s)]))→getL m 1=some (.cells (bo (fun j=>decide (j<n+1)&&frontS p st PT (i+1) j) p.length))→reM 0 [(0,0),(1,1)] m [(0,.cells [.sl PT.length 2 (PT.flatMap encP),.g (.string s)]),(1,.cells (bo (fun j=>decide (j<n+1)&&frontS p st PT (i+1) j) p.length))]:=fun m h0 h1=>⟨⟨0,_,rfl,h0,_,rfl,.inl ⟨rfl,rfl⟩⟩,⟨1,_,rfl,h1,_,rfl,.inl ⟨rfl,bo_ids _ _⟩⟩,trivial⟩;have hup:IntKind.i64.wrap ((n:Int)+1)=((n+1:Nat):Int):=up1 (by omega)
  (repeat ((first | with_reducible refine W.step (b:=false) ?_ | skip);simp only [go_sem,↓reduceIte,Nat.reduceAdd,Nat.reduceSub,Nat.reduceMul,Nat.reduceEqDiff,Nat.reduceLeDiff,Nat.reduceLT,Int.reduceLE,Int.reduceLT,Int.reduceToNat,Int.reduceEq,hnl];try with_reducible refine drawn hmix (by kernel_rfl) ?_))
  refine AtCall.mk (element10_p p n) ?_
  cases he:elemB p n with
  | false =>
    have hp2:=hput false (by rw [hstep,he];rfl)
    (repeat ((first | with_reducible refine W.step (b:=false) ?_ | skip);simp only [go_sem,↓reduceIte,Nat.reduceAdd,Nat.reduceSub,Nat.reduceMul,Nat.reduceEqDiff,Nat.reduceLeDiff,Nat.reduceLT,Int.reduceLE,Int.reduceLT,Int.reduceToNat,Int.reduceEq,hnl,hg,hp2,hup];try with_reducible refine drawn hmix (by kernel_rfl) ?_))
    exact ⟨n+1,_,⟨by omega,by omega,rfl⟩,by show p.length - (n+1)<p.length - n;omega,VS.ren [(0,0),(1,1)] (by simp) (by simp) (by simp) (by simp only [go_sem,↓reduceIte,Nat.reduceAdd,Nat.reduceSub,Nat.reduceMul,Nat.reduceEqDiff,Nat.reduceLeDiff,Nat.reduceLT,Int.reduceLE,Int.reduceLT,Int.reduceToNat,Int.reduceEq]) (fin _ rfl rfl)⟩
  | true =>
    (repeat ((first | with_reducible refine W.step (b:=false) ?_ | skip);simp only [go_sem,↓reduceIte,Nat.reduceAdd,Nat.reduceSub,Nat.reduceMul,Nat.reduceEqDiff,Nat.reduceLeDiff,Nat.reduceLT,Int.reduceLE,Int.reduceLT,Int.reduceToNat,Int.reduceEq,hlt,rP];try with_reducible refine drawn hmix (by kernel_rfl) ?_))
    refine AtCall.mk (each12_p p st n PT[i].l hp hs he q1 q2) ?_
    cases hal:PT[i].l.all (holdsS p st n) with
    | false =>
      have hp2:=hput false (by rw [hstep,he,hal];rfl)
      (repeat ((first | with_reducible refine W.step (b:=false) ?_ | skip);simp only [go_sem,↓reduceIte,Nat.reduceAdd,Nat.reduceSub,Nat.reduceMul,Nat.reduceEqDiff,Nat.reduceLeDiff,Nat.reduceLT,Int.reduceLE,Int.reduceLT,Int.reduceToNat,Int.reduceEq,hnl,hg,hp2,hup];try with_reducible refine drawn hmix (by kernel_rfl) ?_))
      exact ⟨n+1,_,⟨by omega,by omega,rfl⟩,by show p.length - (n+1)<p.length - n;omega,VS.ren [(0,0),(1,1)] (by simp) (by simp) (by simp) (by simp only [go_sem,↓reduceIte,Nat.reduceAdd,Nat.reduceSub,Nat.reduceMul,Nat.reduceEqDiff,Nat.reduceLeDiff,Nat.reduceLT,Int.reduceLE,Int.reduceLT,Int.reduceToNat,Int.reduceEq]) (fin _ rfl rfl)⟩
    | true =>
      by_cases hi0:i=0
      ·have f0:((i:Int)=0)=True:=eq_true (by omega)
       have hp2:=hput true (by rw [hstep,he,hal,decide_eq_true hi0];rfl)
       (repeat ((first | with_reducible refine W.step (b:=false) ?_ | skip);simp only [go_sem,↓reduceIte,Nat.reduceAdd,Nat.reduceSub,Nat.reduceMul,Nat.reduceEqDiff,Nat.reduceLeDiff,Nat.reduceLT,Int.reduceLE,Int.reduceLT,Int.reduceToNat,Int.reduceEq,hnl,hg,hp2,hup,f0];try with_reducible refine drawn hmix (by kernel_rfl) ?_))
       exact ⟨n+1,_,⟨by omega,by omega,rfl⟩,by show p.length - (n+1)<p.length - n;omega,VS.ren [(0,0),(1,1)] (by simp) (by simp) (by simp) (by simp only [go_sem,↓reduceIte,Nat.reduceAdd,Nat.reduceSub,Nat.reduceMul,Nat.reduceEqDiff,Nat.reduceLeDiff,Nat.reduceLT,Int.reduceLE,Int.reduceLT,Int.reduceToNat,Int.reduceEq]) (fin _ rfl rfl)⟩
      ·have f0:((i:Int)=0)=False:=eq_false (by omega)
       have hp2:=hput (someR p (frontS p st PT i) n PT[i].comb) (by rw [hstep,he,hal,decide_eq_false hi0];rfl)
       (repeat ((first | with_reducible refine W.step (b:=false) ?_ | skip);simp only [go_sem,↓reduceIte,Nat.reduceAdd,Nat.reduceSub,Nat.reduceMul,Nat.reduceEqDiff,Nat.reduceLeDiff,Nat.reduceLT,Int.reduceLE,Int.reduceLT,Int.reduceToNat,Int.reduceEq,hlt,rP,f0];try with_reducible refine drawn hmix (by kernel_rfl) ?_))
       refine AtCall.mk (some12_p p (frontS p st PT i) n PT[i].comb hp hT he) ?_
       (repeat ((first | with_reducible refine W.step (b:=false) ?_ | skip);simp only [go_sem,↓reduceIte,Nat.reduceAdd,Nat.reduceSub,Nat.reduceMul,Nat.reduceEqDiff,Nat.reduceLeDiff,Nat.reduceLT,Int.reduceLE,Int.reduceLT,Int.reduceToNat,Int.reduceEq,hnl,hg,hp2,hup];try with_reducible refine drawn hmix (by kernel_rfl) ?_))
       exact ⟨n+1,_,⟨by omega,by omega,rfl⟩,by show p.length - (n+1)<p.length - n;omega,VS.ren [(0,0),(1,1)] (by simp) (by simp) (by simp) (by simp only [go_sem,↓reduceIte,Nat.reduceAdd,Nat.reduceSub,Nat.reduceMul,Nat.reduceEqDiff,Nat.reduceLeDiff,Nat.reduceLT,Int.reduceLE,Int.reduceLT,Int.reduceToNat,Int.reduceEq]) (fin _ rfl rfl)⟩
 ·obtain rfl:n=p.length:=by omega
  have hz:bo (fun j=>decide (j<p.length)&&frontS p st PT (i+1) j) p.length=bo (frontS p st PT (i+1)) p.length:=bo_congr fun j hj=>by rw [decide_eq_true hj,Bool.true_and]
  rw [hz];refine W.vs (s1:=stL [(.sl p.length 5 (p.flatMap encNd)),(.sl st.length 2 (st.flatMap encSt)),.any,.any,.any,(.ptr 0 0),.any,.any,(.g (.int .i64 (i:Int))),(.sl p.length 1 (bo (frontS p st PT (i+1)) p.length)),(.g (.int .i64 (p.length:Int))),.any,.any,.any,.any,.any,.any,.any,.any,.any,.any,.any,.any,.any,.any,.any,.any,.any,.any,.any,.any,.any,.any,.any,.any,.any,.any,.any,.any,.any,.any,.any,.any,.any,.any,.any,.any,.any,.any,.any,.any,.any,.any,.any,.any,.any,.any,.any,.any,.any,.any,.any,.any,.any,.any,.any] [(0,.cells [.sl PT.length 2 (PT.flatMap encP),.g (.string s)])] 2) ?_ ?_
  ·refine VS.sealT 1 _ rfl (bo_plain _ _) ?_ ⟨⟨by decide,.inl rfl⟩,trivial⟩
   simp only [frL_cons,frL_nil,frA_any,frA_self,and_true,true_and];exact .inr (.inr ⟨0,_,1,_,rfl,by rw [List.drop_zero,Nat.mul_one,List.take_of_length_le (by rw [bo_len];exact Nat.le_refl _)],by rw [bo_len];omega⟩)
  (repeat ((first | with_reducible refine W.step (b:=false) ?_ | skip);simp only [go_sem,↓reduceIte,Nat.reduceAdd,Nat.reduceSub,Nat.reduceMul,Nat.reduceEqDiff,Nat.reduceLeDiff,Nat.reduceLT,Int.reduceLE,Int.reduceLT,Int.reduceToNat,Int.reduceEq,hnl];try with_reducible refine drawn hmix (by kernel_rfl) ?_))
  refine ⟨i+1,_,⟨by omega,rfl⟩,by show PT.length - (i+1)<PT.length - i;omega,?_⟩;rw [up1 (by omega)];exact VS.ren [(0,0)] (by simp) (by simp) (by simp) (by simp only [go_sem,↓reduceIte,Nat.reduceAdd,Nat.reduceSub,Nat.reduceMul,Nat.reduceEqDiff,Nat.reduceLeDiff,Nat.reduceLT,Int.reduceLE,Int.reduceLT,Int.reduceToNat,Int.reduceEq]) ⟨⟨0,_,rfl,rfl,_,rfl,.inl ⟨rfl,rfl⟩⟩,trivial⟩
attribute [go_sem] appL newsA isSlice
theorem tree_pos {p:List Nod} (h:treeB p=true):0<p.length:=by
 rcases Nat.eq_zero_or_pos p.length with h0 | h0
 ·unfold treeB at h
  rw [decide_eq_true h0] at h
  cases h
 ·exact h0
theorem allR_none {p:List Nod} {st:List Stt} {c:Cx} (h:∀ n:Nat,(treeB p&&isM p st c (n:Int))=false):allR p st c=[]:=by
 unfold allR;rw [List.filter_eq_nil_iff.2 (fun n _=>by rw [h n];decide)]
 rfl
theorem allR_len (p:List Nod) (st:List Stt) (c:Cx):(allR p st c).length≤p.length:=by
 unfold allR;rw [List.length_map];exact Nat.le_trans (List.length_filter_le _ _) (by simp)
def tellN (f:Nat→Bool) (n:Nat):List Int:=((List.range n).filter f).map fun n:Nat=>(n:Int)
theorem tellN_succ (f:Nat→Bool) (n:Nat):tellN f (n+1)=tellN f n++if f n=true then [(n:Int)] else []:=by
 unfold tellN;rw [List.range_succ,List.filter_append,List.map_append]
 congr 1
 cases h:f n <;> simp [h]
theorem tellN_len (f:Nat→Bool) (n:Nat):(tellN f n).length≤n:=by
 unfold tellN;rw [List.length_map];exact Nat.le_trans (List.length_filter_le _ _) (by simp)
set_option maxRecDepth 100000 in
set_option maxHeartbeats 4000000 in
theorem all12_p (p:List Nod) (st:List Stt) (c:Cx) (hp:OkPg p) (hs:st.length≤1000000) (hPT:okPT c.parts):PureN Tryz.prog gt0 170 [.sl p.length 5 (p.flatMap encNd),.sl st.length 2 (st.flatMap encSt),.agg (encC c)] (.sl (allR p st c).length 1 ((allR p st c).flatMap encZ)):=by
 obtain ⟨PT,s⟩:=c;simp only at hPT;refine PureN.of_w (c:=_) Tryz.func170 rfl (by kernel_rfl) rfl ?_;simp only [Tryz.f170,List.replicate,List.length_cons,List.length_nil,Nat.reduceAdd,Nat.reduceSub,List.cons_append,List.nil_append,encC];have hlen:=hp.len
 (repeat ((first | with_reducible refine W.step (b:=false) ?_ | skip);simp only [go_sem,↓reduceIte,Nat.reduceAdd,Nat.reduceSub,Nat.reduceMul,Nat.reduceEqDiff,Nat.reduceLeDiff,Nat.reduceLT,Int.reduceLE,Int.reduceLT,Int.reduceToNat,Int.reduceEq];try with_reducible refine drawn hmix (by kernel_rfl) ?_))
 refine AtCall.mk (tree10_p p hp) ?_
 cases ht:treeB p with
 | false =>
   rw [allR_none (fun n=>by rw [ht];rfl)]
   (repeat ((first | with_reducible refine W.step (b:=false) ?_ | skip);simp only [go_sem,↓reduceIte,Nat.reduceAdd,Nat.reduceSub,Nat.reduceMul,Nat.reduceEqDiff,Nat.reduceLeDiff,Nat.reduceLT,Int.reduceLE,Int.reduceLT,Int.reduceToNat,Int.reduceEq];try with_reducible refine drawn hmix (by kernel_rfl) ?_))
   exact postP_one _ (.inr rfl) rfl (seal_Z (l:=[]) rfl rfl)
 | true =>
   have hT:=tree_P ht
   by_cases h0:PT.length=0
   ·have f0:((PT.length:Int)=0)=True:=eq_true (by omega)
    have hno:∀ n:Nat,(treeB p&&isM p st ⟨PT,s⟩ (n:Int))=false:=fun n=>by
     rw [isM_row,List.eq_nil_of_length_eq_zero h0];simp [fitsS]
    rw [allR_none hno]
    (repeat ((first | with_reducible refine W.step (b:=false) ?_ | skip);simp only [go_sem,↓reduceIte,Nat.reduceAdd,Nat.reduceSub,Nat.reduceMul,Nat.reduceEqDiff,Nat.reduceLeDiff,Nat.reduceLT,Int.reduceLE,Int.reduceLT,Int.reduceToNat,Int.reduceEq,f0];try with_reducible refine drawn hmix (by kernel_rfl) ?_))
    exact postP_one _ (.inr rfl) rfl (seal_Z (l:=[]) rfl rfl)
   have f0:((PT.length:Int)=0)=False:=eq_false (by omega);have hall:allR p st ⟨PT,s⟩=tellN (fitsS p st PT.reverse) p.length:=by
    unfold allR tellN
    congr 1
    refine List.filter_congr fun n _=>?_;rw [ht,Bool.true_and,isM_row]
   rw [hall]
   (repeat ((first | with_reducible refine W.step (b:=false) ?_ | skip);simp only [go_sem,↓reduceIte,Nat.reduceAdd,Nat.reduceSub,Nat.reduceMul,Nat.reduceEqDiff,Nat.reduceLeDiff,Nat.reduceLT,Int.reduceLE,Int.reduceLT,Int.reduceToNat,Int.reduceEq,f0];try with_reducible refine drawn hmix (by kernel_rfl) ?_))
   refine AtCall.mk (fits12_p p st PT s hp hT (tree_pos ht) hs hPT) ?_
   (repeat ((first | with_reducible refine W.step (b:=false) ?_ | skip);simp only [go_sem,↓reduceIte,Nat.reduceAdd,Nat.reduceSub,Nat.reduceMul,Nat.reduceEqDiff,Nat.reduceLeDiff,Nat.reduceLT,Int.reduceLE,Int.reduceLT,Int.reduceToNat,Int.reduceEq];try with_reducible refine drawn hmix (by kernel_rfl) ?_))
   generalize fitsS p st PT.reverse=f
   refine W.loop (s1:=stL [.any,.any,.any,.any,.any,.any,.any,(.gs 1 0 0 1 0),(.sl p.length 1 (bo f p.length)),(.g (.int .i64 ((0:Nat):Int))),.any,.any,.any,.any,.any,.any,.any,.any,.any,.any,.any,.any,.any,.any,.any,.any,.any,.any,.any,.any,.any,.any,.any,.any,.any,.any,.any,.any,.any,.any] [(1,.cells [])] 2)
    (fun (n:Nat) t=>n≤p.length∧t=stL [.any,.any,.any,.any,.any,.any,.any,(.gs 1 0 (tellN f n).length 1 (tellN f n).length),(.sl p.length 1 (bo f p.length)),(.g (.int .i64 (n:Int))),.any,.any,.any,.any,.any,.any,.any,.any,.any,.any,.any,.any,.any,.any,.any,.any,.any,.any,.any,.any,.any,.any,.any,.any,.any,.any,.any,.any,.any,.any] [(1,.cells ((tellN f n).flatMap encZ))] 2) (fun n=>p.length - n) 0 ⟨Nat.zero_le _,rfl⟩ (VS.ren [(1,1)] (by simp) (by simp) (by simp) (by simp only [go_sem,↓reduceIte,Nat.reduceAdd,Nat.reduceSub,Nat.reduceMul,Nat.reduceEqDiff,Nat.reduceLeDiff,Nat.reduceLT,Int.reduceLE,Int.reduceLT,Int.reduceToNat,Int.reduceEq]) ⟨⟨1,_,rfl,rfl,_,rfl,.inl ⟨rfl,rfl⟩⟩,trivial⟩) ?_
   rintro n t ⟨hn,rfl⟩
   by_cases hlt:n<p.length
   ·have r:=bo_get (f:=f) hlt
    have hol:=tellN_len f n;have hts:=tellN_succ f n;generalize tellN f n=o at hol hts ⊢;have E1:(o.flatMap encZ).length=o.length:=lenZ o;have E2:¬(o.length+1≤o.length):=by omega
    have E3:(o.length+1)*9≤17179869184:=by omega
    have E6:∀ x,o.flatMap encZ++[AV.g (.int .i64 x)]=(o++[x]).flatMap encZ:=fun x=>by rw [List.flatMap_append];rfl
    cases hf:f n with
    | true =>
      rw [hf] at r hts;rw [if_pos rfl] at hts
      (repeat ((first | with_reducible refine W.step (b:=false) ?_ | skip);simp only [go_sem,↓reduceIte,Nat.reduceAdd,Nat.reduceSub,Nat.reduceMul,Nat.reduceEqDiff,Nat.reduceLeDiff,Nat.reduceLT,Int.reduceLE,Int.reduceLT,Int.reduceToNat,Int.reduceEq,hlt,r,E1,E2,E3];try with_reducible refine drawn hmix (by kernel_rfl) ?_))
      refine ⟨n+1,_,⟨by omega,rfl⟩,by show p.length - (n+1)<p.length - n;omega,VS.ren [(1,3)] (by simp) (by simp) (by simp) ?_ ?_⟩
      ·rw [up1 (by omega),hts]
       simp only [go_sem,↓reduceIte,Nat.reduceAdd,Nat.reduceSub,Nat.reduceMul,Nat.reduceEqDiff,Nat.reduceLeDiff,Nat.reduceLT,Int.reduceLE,Int.reduceLT,Int.reduceToNat,Int.reduceEq,List.length_append]
      ·rw [hts]
       exact reM_w rfl (by rw [←E6];rfl) (ids_Z _)
    | false =>
      rw [hf] at r hts;rw [if_neg (by decide),List.append_nil] at hts
      (repeat ((first | with_reducible refine W.step (b:=false) ?_ | skip);simp only [go_sem,↓reduceIte,Nat.reduceAdd,Nat.reduceSub,Nat.reduceMul,Nat.reduceEqDiff,Nat.reduceLeDiff,Nat.reduceLT,Int.reduceLE,Int.reduceLT,Int.reduceToNat,Int.reduceEq,hlt,r];try with_reducible refine drawn hmix (by kernel_rfl) ?_))
      refine ⟨n+1,_,⟨by omega,rfl⟩,by show p.length - (n+1)<p.length - n;omega,?_⟩;rw [up1 (by omega),hts];exact VS.tm (by simp [leL])
   ·obtain rfl:n=p.length:=by omega
    (repeat ((first | with_reducible refine W.step (b:=false) ?_ | skip);simp only [go_sem,↓reduceIte,Nat.reduceAdd,Nat.reduceSub,Nat.reduceMul,Nat.reduceEqDiff,Nat.reduceLeDiff,Nat.reduceLT,Int.reduceLE,Int.reduceLT,Int.reduceToNat,Int.reduceEq,hlt];try with_reducible refine drawn hmix (by kernel_rfl) ?_))
    exact postP_one _ (.inr rfl) rfl (seal_Z rfl rfl)
set_option maxRecDepth 100000 in
set_option maxHeartbeats 4000000 in
theorem is12_p (p:List Nod) (st:List Stt) (n:Int) (c:Cx) (hp:OkPg p) (hs:st.length≤1000000) (hPT:okPT c.parts):PureN Tryz.prog gt0 102 [.sl p.length 5 (p.flatMap encNd),.sl st.length 2 (st.flatMap encSt),.g (.int .i64 n),.agg (encC c)] (.g (.bool (treeB p&&isM p st c n))):=by
 have HA:=all12_p p st c hp hs hPT;have hmem:=mem_allR (p:=p) (st:=st) (c:=c) (n:=n);have hlen:=Nat.le_trans (allR_len p st c) hp.len;generalize allR p st c=l at HA hmem hlen;generalize (treeB p&&isM p st c n)=b at hmem ⊢;refine PureN.of_w (c:=_) Tryz.func102 rfl (by kernel_rfl) rfl ?_;simp only [Tryz.f102,List.replicate,List.length_cons,List.length_nil,Nat.reduceAdd,Nat.reduceSub,List.cons_append,List.nil_append,encC]
 (repeat ((first | with_reducible refine W.step (b:=false) ?_ | skip);simp only [go_sem,↓reduceIte,Nat.reduceAdd,Nat.reduceSub,Nat.reduceMul,Nat.reduceEqDiff,Nat.reduceLeDiff,Nat.reduceLT,Int.reduceLE,Int.reduceLT,Int.reduceToNat,Int.reduceEq];try with_reducible refine drawn hmix (by kernel_rfl) ?_))
 refine AtCall.mk HA ?_
 (repeat ((first | with_reducible refine W.step (b:=false) ?_ | skip);simp only [go_sem,↓reduceIte,Nat.reduceAdd,Nat.reduceSub,Nat.reduceMul,Nat.reduceEqDiff,Nat.reduceLeDiff,Nat.reduceLT,Int.reduceLE,Int.reduceLT,Int.reduceToNat,Int.reduceEq];try with_reducible refine drawn hmix (by kernel_rfl) ?_))
 refine W.loop (s1:=stL [.any,.any,(.g (.int .i64 n)),.any,.any,.any,.any,.any,(.g (.bool false)),(.sl l.length 1 (l.flatMap encZ)),(.g (.int .i64 ((0:Nat):Int))),.any,.any,.any,.any,.any,.any,.any,.any,.any,.any,.any,.any,.any,.any,.any,.any] [] 0)
  (fun (i:Nat) t=>i≤l.length∧(∀ x∈l.take i,decide (x=n)=false)∧t=stL [.any,.any,(.g (.int .i64 n)),.any,.any,.any,.any,.any,(.g (.bool false)),(.sl l.length 1 (l.flatMap encZ)),(.g (.int .i64 (i:Int))),.any,.any,.any,.any,.any,.any,.any,.any,.any,.any,.any,.any,.any,.any,.any,.any] [] 0) (fun i=>l.length - i) 0 ⟨Nat.zero_le _,by simp,rfl⟩ (VS.ren [] (by simp) (by simp) (by simp) (by simp only [go_sem,↓reduceIte,Nat.reduceAdd,Nat.reduceSub,Nat.reduceMul,Nat.reduceEqDiff,Nat.reduceLeDiff,Nat.reduceLT,Int.reduceLE,Int.reduceLT,Int.reduceToNat,Int.reduceEq]) trivial) ?_
 rintro i t ⟨hi,hno,rfl⟩
 by_cases hlt:i<l.length
 ·have r:=rowZ hlt
  by_cases hx:l[i]=n
  ·have fx:=eq_true hx
   obtain rfl:b=true:=hmem.1 (hx▸List.getElem_mem hlt)
   (repeat ((first | with_reducible refine W.step (b:=false) ?_ | skip);simp only [go_sem,↓reduceIte,Nat.reduceAdd,Nat.reduceSub,Nat.reduceMul,Nat.reduceEqDiff,Nat.reduceLeDiff,Nat.reduceLT,Int.reduceLE,Int.reduceLT,Int.reduceToNat,Int.reduceEq,hlt,r,fx];try with_reducible refine drawn hmix (by kernel_rfl) ?_))
   exact postP_one _ (.inr rfl) rfl (.plain rfl)
  ·(repeat ((first | with_reducible refine W.step (b:=false) ?_ | skip);simp only [go_sem,↓reduceIte,Nat.reduceAdd,Nat.reduceSub,Nat.reduceMul,Nat.reduceEqDiff,Nat.reduceLeDiff,Nat.reduceLT,Int.reduceLE,Int.reduceLT,Int.reduceToNat,Int.reduceEq,hlt,r,hx];try with_reducible refine drawn hmix (by kernel_rfl) ?_))
   refine ⟨i+1,_,⟨by omega,take_next (pr:=fun x:Int=>decide (x=n)) hlt hno (decide_eq_false hx),rfl⟩,by show l.length - (i+1)<l.length - i;omega,VS.tm ?_⟩;rw [up1 (by omega)];simp [leL]
 ·obtain rfl:b=false:=by
   rw [Bool.eq_false_iff];intro hb;have h1:=hmem.2 hb;have h2:=hno n (by rw [List.take_of_length_le (by omega)];exact h1);rw [decide_eq_true rfl] at h2
   cases h2
  (repeat ((first | with_reducible refine W.step (b:=false) ?_ | skip);simp only [go_sem,↓reduceIte,Nat.reduceAdd,Nat.reduceSub,Nat.reduceMul,Nat.reduceEqDiff,Nat.reduceLeDiff,Nat.reduceLT,Int.reduceLE,Int.reduceLT,Int.reduceToNat,Int.reduceEq,hlt];try with_reducible refine drawn hmix (by kernel_rfl) ?_))
  exact postP_one _ (.inr rfl) rfl (.plain rfl)
theorem rowS0 {l:List Simp} {k:Nat} (hk:k<l.length):(l.flatMap encS)[k*6]?=some (.g (.int .i64 l[k].kind)):=by
 have h:=flat_get encS 6 encS_len l k hk 0 (by decide);rw [Nat.add_zero] at h;rw [h]
 cases l[k]
 rw [encS_m];rfl
set_option maxRecDepth 100000 in
set_option maxHeartbeats 4000000 in
theorem first13_p (l:List Simp) (k:Int) (hl:l.length≤1000000):PureN Tryz.prog gt0 169 [.sl l.length 6 (l.flatMap encS),.g (.int .i64 k)] (.g (.bool (l.any fun x=>decide (x.kind=k)))):=by
 refine PureN.of_w (c:=_) Tryz.func169 rfl (by kernel_rfl) rfl ?_;simp only [Tryz.f169,List.replicate,List.length_cons,List.length_nil,Nat.reduceAdd,Nat.reduceSub,List.cons_append,List.nil_append]
 (repeat ((first | with_reducible refine W.step (b:=false) ?_ | skip);simp only [go_sem,↓reduceIte,Nat.reduceAdd,Nat.reduceSub,Nat.reduceMul,Nat.reduceEqDiff,Nat.reduceLeDiff,Nat.reduceLT,Int.reduceLE,Int.reduceLT,Int.reduceToNat,Int.reduceEq];try with_reducible refine drawn hmix (by kernel_rfl) ?_))
 refine W.loop (s1:=stL [(.sl l.length 6 (l.flatMap encS)),(.g (.int .i64 k)),.any,.any,(.g (.bool false)),(.g (.int .i64 ((0:Nat):Int))),.any,.any,.any,.any,.any,.any,.any,.any,.any,.any,.any,.any,.any] [] 0)
  (fun (i:Nat) t=>i≤l.length∧(∀ x∈l.take i,decide (x.kind=k)=false)∧t=stL [(.sl l.length 6 (l.flatMap encS)),(.g (.int .i64 k)),.any,.any,(.g (.bool false)),(.g (.int .i64 (i:Int))),.any,.any,.any,.any,.any,.any,.any,.any,.any,.any,.any,.any,.any] [] 0) (fun i=>l.length - i) 0 ⟨Nat.zero_le _,by simp,rfl⟩ (VS.tm (by simp [leL])) ?_
 rintro i t ⟨hi,hno,rfl⟩
 by_cases hlt:i<l.length
 ·have r:=rowS0 hlt
  by_cases hx:l[i].kind=k
  ·have fx:=eq_true hx
   have ha:(l.any fun x=>decide (x.kind=k))=true:=List.any_eq_true.2 ⟨l[i],List.getElem_mem hlt,decide_eq_true hx⟩;rw [ha]
   (repeat ((first | with_reducible refine W.step (b:=false) ?_ | skip);simp only [go_sem,↓reduceIte,Nat.reduceAdd,Nat.reduceSub,Nat.reduceMul,Nat.reduceEqDiff,Nat.reduceLeDiff,Nat.reduceLT,Int.reduceLE,Int.reduceLT,Int.reduceToNat,Int.reduceEq,hlt,r,fx];try with_reducible refine drawn hmix (by kernel_rfl) ?_))
   exact postP_one _ (.inr rfl) rfl (.plain rfl)
  ·(repeat ((first | with_reducible refine W.step (b:=false) ?_ | skip);simp only [go_sem,↓reduceIte,Nat.reduceAdd,Nat.reduceSub,Nat.reduceMul,Nat.reduceEqDiff,Nat.reduceLeDiff,Nat.reduceLT,Int.reduceLE,Int.reduceLT,Int.reduceToNat,Int.reduceEq,hlt,r,hx];try with_reducible refine drawn hmix (by kernel_rfl) ?_))
   refine ⟨i+1,_,⟨by omega,take_next (pr:=fun x:Simp=>decide (x.kind=k)) hlt hno (decide_eq_false hx),rfl⟩,by show l.length - (i+1)<l.length - i;omega,VS.tm ?_⟩;rw [up1 (by omega)];simp [leL]
 ·have ha:(l.any fun x=>decide (x.kind=k))=false:=List.any_eq_false.2 (fun x hx=>by rw [hno x (by rw [List.take_of_length_le (by omega)];exact hx)];decide)
  rw [ha]
  (repeat ((first | with_reducible refine W.step (b:=false) ?_ | skip);simp only [go_sem,↓reduceIte,Nat.reduceAdd,Nat.reduceSub,Nat.reduceMul,Nat.reduceEqDiff,Nat.reduceLeDiff,Nat.reduceLT,Int.reduceLE,Int.reduceLT,Int.reduceToNat,Int.reduceEq,hlt];try with_reducible refine drawn hmix (by kernel_rfl) ?_))
  exact postP_one _ (.inr rfl) rfl (.plain rfl)
theorem any_find {α:Type} (q:α→Bool) (l:List α):l.any q=(l.find? q).isSome:=by rw [Bool.eq_iff_iff,List.find?_isSome,List.any_eq_true]
theorem keyS_kind (l:List Simp):(keyS l).1=if (l.any fun x=>decide (x.kind=3))=true then 3 else if (l.any fun x=>decide (x.kind=4))=true then 4 else if (l.any fun x=>decide (x.kind=2))=true then 2 else 0:=by
 rw [any_find,any_find,any_find];unfold keyS
 cases l.find? fun x=>decide (x.kind=3) with
 | some x=>rfl
 | none =>
   cases l.find? fun x=>decide (x.kind=4) with
   | some x=>rfl
   | none =>
     cases l.find? fun x=>decide (x.kind=2) with
     | some x=>rfl
     | none=>rfl
set_option maxRecDepth 100000 in
set_option maxHeartbeats 4000000 in
theorem key13_p (c:Cx) (hPT:okPT c.parts):PureN Tryz.prog gt0 101 [.agg (encC c)] (.g (.int .i64 (keyM c).1)):=by
 obtain ⟨PT,s⟩:=c;simp only at hPT;refine PureN.of_w (c:=_) Tryz.func101 rfl (by kernel_rfl) rfl ?_;simp only [Tryz.f101,List.replicate,List.length_cons,List.length_nil,Nat.reduceAdd,Nat.reduceSub,List.cons_append,List.nil_append,encC];have hpl:=hPT.1
 by_cases h0:PT.length=0
 ·have f0:((PT.length:Int)=0)=True:=eq_true (by omega)
  have hk:(keyM ⟨PT,s⟩).1=0:=by unfold keyM;rw [List.eq_nil_of_length_eq_zero h0];rfl
  rw [hk]
  (repeat ((first | with_reducible refine W.step (b:=false) ?_ | skip);simp only [go_sem,↓reduceIte,Nat.reduceAdd,Nat.reduceSub,Nat.reduceMul,Nat.reduceEqDiff,Nat.reduceLeDiff,Nat.reduceLT,Int.reduceLE,Int.reduceLT,Int.reduceToNat,Int.reduceEq,f0];try with_reducible refine drawn hmix (by kernel_rfl) ?_))
  exact postP_one _ (.inr rfl) rfl (.plain rfl)
 have f0:((PT.length:Int)=0)=False:=eq_false (by omega);have hlt:PT.length - 1<PT.length:=by omega
 have fw:IntKind.i64.wrap ((PT.length:Int) - 1)=((PT.length - 1:Nat):Int):=(IntWalk.i64_in _ (by omega)).trans (by omega);obtain ⟨-,rP⟩:=rowP2 hlt;have hl:=(hPT.2 _ (List.getElem_mem hlt)).1;have hk:(keyM ⟨PT,s⟩).1=(keyS PT[PT.length - 1].l).1:=by
  unfold keyM;rw [List.getLast?_eq_getElem?,List.getElem?_eq_getElem hlt]
 rw [hk,keyS_kind];generalize PT[PT.length - 1].l=l at rP hl ⊢;generalize PT.length - 1=i at fw rP hlt
 (repeat ((first | with_reducible refine W.step (b:=false) ?_ | skip);simp only [go_sem,↓reduceIte,Nat.reduceAdd,Nat.reduceSub,Nat.reduceMul,Nat.reduceEqDiff,Nat.reduceLeDiff,Nat.reduceLT,Int.reduceLE,Int.reduceLT,Int.reduceToNat,Int.reduceEq,f0,fw,hlt,rP];try with_reducible refine drawn hmix (by kernel_rfl) ?_))
 refine AtCall.mk (first13_p l 3 hl) ?_
 cases h3:l.any fun x=>decide (x.kind=3) with
 | true =>
   (repeat ((first | with_reducible refine W.step (b:=false) ?_ | skip);simp only [go_sem,↓reduceIte,Nat.reduceAdd,Nat.reduceSub,Nat.reduceMul,Nat.reduceEqDiff,Nat.reduceLeDiff,Nat.reduceLT,Int.reduceLE,Int.reduceLT,Int.reduceToNat,Int.reduceEq];try with_reducible refine drawn hmix (by kernel_rfl) ?_))
   exact postP_one _ (.inr rfl) rfl (.plain rfl)
 | false =>
   (repeat ((first | with_reducible refine W.step (b:=false) ?_ | skip);simp only [go_sem,↓reduceIte,Nat.reduceAdd,Nat.reduceSub,Nat.reduceMul,Nat.reduceEqDiff,Nat.reduceLeDiff,Nat.reduceLT,Int.reduceLE,Int.reduceLT,Int.reduceToNat,Int.reduceEq];try with_reducible refine drawn hmix (by kernel_rfl) ?_))
   refine AtCall.mk (first13_p l 4 hl) ?_
   cases h4:l.any fun x=>decide (x.kind=4) with
   | true =>
     (repeat ((first | with_reducible refine W.step (b:=false) ?_ | skip);simp only [go_sem,↓reduceIte,Nat.reduceAdd,Nat.reduceSub,Nat.reduceMul,Nat.reduceEqDiff,Nat.reduceLeDiff,Nat.reduceLT,Int.reduceLE,Int.reduceLT,Int.reduceToNat,Int.reduceEq];try with_reducible refine drawn hmix (by kernel_rfl) ?_))
     exact postP_one _ (.inr rfl) rfl (.plain rfl)
   | false =>
     (repeat ((first | with_reducible refine W.step (b:=false) ?_ | skip);simp only [go_sem,↓reduceIte,Nat.reduceAdd,Nat.reduceSub,Nat.reduceMul,Nat.reduceEqDiff,Nat.reduceLeDiff,Nat.reduceLT,Int.reduceLE,Int.reduceLT,Int.reduceToNat,Int.reduceEq];try with_reducible refine drawn hmix (by kernel_rfl) ?_))
     refine AtCall.mk (first13_p l 2 hl) ?_
     cases h2:l.any fun x=>decide (x.kind=2) with
     | true =>
       (repeat ((first | with_reducible refine W.step (b:=false) ?_ | skip);simp only [go_sem,↓reduceIte,Nat.reduceAdd,Nat.reduceSub,Nat.reduceMul,Nat.reduceEqDiff,Nat.reduceLeDiff,Nat.reduceLT,Int.reduceLE,Int.reduceLT,Int.reduceToNat,Int.reduceEq];try with_reducible refine drawn hmix (by kernel_rfl) ?_))
       exact postP_one _ (.inr rfl) rfl (.plain rfl)
     | false =>
       (repeat ((first | with_reducible refine W.step (b:=false) ?_ | skip);simp only [go_sem,↓reduceIte,Nat.reduceAdd,Nat.reduceSub,Nat.reduceMul,Nat.reduceEqDiff,Nat.reduceLeDiff,Nat.reduceLT,Int.reduceLE,Int.reduceLT,Int.reduceToNat,Int.reduceEq];try with_reducible refine drawn hmix (by kernel_rfl) ?_))
       exact postP_one _ (.inr rfl) rfl (.plain rfl)
theorem bl_i4 (parts:List (Nat×AV)):evBuild Tryz.prog 80 parts=aggM (rowsL 1 [.g (.int .i64 0),.g (.int .i64 0),.g (.int .i64 0),.g (.int .i64 0)] parts):=evArr_eq (by kernel_rfl) parts
theorem ar_i4:arrO Tryz.prog 80=some (4,1,3):=by kernel_rfl
theorem sz_i4:szO Tryz.prog 80=some 4:=by kernel_rfl
theorem ag_i4:aggO Tryz.prog 80=some (true,4):=by kernel_rfl
theorem ze_i4:zeroO Tryz.prog 80=some [.g (.int .i64 0),.g (.int .i64 0),.g (.int .i64 0),.g (.int .i64 0)]:=by kernel_rfl
attribute [go_sem] bl_i4 ar_i4 sz_i4 ag_i4 ze_i4
theorem cntK_step (pr:Int→Bool) {l:List Cx} {k:Nat} (h:k<l.length):cntK pr (l.take (k+1))=cntK pr (l.take k)+if pr (keyM l[k]).1=true then 1 else 0:=by
 unfold cntK;rw [List.take_succ_eq_append_getElem h,List.filter_append,List.length_append]
 congr 1
 cases hq:pr (keyM l[k]).1 <;> simp [hq]
def cellsK (l:List Cx):List AV:=[.g (.int .i64 (cntK (isK 3) l:Nat)),.g (.int .i64 (cntK (isK 4) l:Nat)),.g (.int .i64 (cntK (isK 2) l:Nat)),.g (.int .i64 (cntK isRest l:Nat))]
theorem rowCx {l:List Cx} {k:Nat} (hk:k<l.length):((l.flatMap encC).drop (k*2)).take 2=[.sl l[k].parts.length 2 (l[k].parts.flatMap encP),.g (.string l[k].pseudo)]∧k*2+2≤(l.flatMap encC).length:=by
 have h2:=row_part encC 2 (fun _=>rfl) l k hk 0 2 (by decide);exact ⟨h2,row_fit encC 2 (fun _=>rfl) l k hk (j:=0) (by decide)⟩
set_option maxRecDepth 100000 in
set_option maxHeartbeats 4000000 in
theorem keys13_p (l:List Cx) (hl:l.length≤1000000) (hc:∀ c∈l,okPT c.parts):PureN Tryz.prog gt0 49 [.sl l.length 2 (l.flatMap encC)] (.agg (cellsK l)):=by
 refine PureN.of_w (c:=_) Tryz.func49 rfl (by kernel_rfl) rfl ?_;simp only [Tryz.f49,List.replicate,List.length_cons,List.length_nil,Nat.reduceAdd,Nat.reduceSub,List.cons_append,List.nil_append]
 (repeat ((first | with_reducible refine W.step (b:=false) ?_ | skip);simp only [go_sem,↓reduceIte,Nat.reduceAdd,Nat.reduceSub,Nat.reduceMul,Nat.reduceEqDiff,Nat.reduceLeDiff,Nat.reduceLT,Int.reduceLE,Int.reduceLT,Int.reduceToNat,Int.reduceEq];try with_reducible refine drawn hmix (by kernel_rfl) ?_))
 refine W.loop (s1:=stL [(.sl l.length 2 (l.flatMap encC)),.any,(.ptr 0 0),(.ptr 1 0),(.g (.int .i64 ((0:Nat):Int))),.any,.any,.any,.any,.any,.any,.any,.any,.any,.any,.any,.any,.any,.any,.any,.any,.any,.any,.any,.any,.any,.any,.any,.any,.any,.any,.any,.any,.any,.any,.any,.any,.any,.any,.any] [(0,.cells [.g (.int .i64 0),.g (.int .i64 0),.g (.int .i64 0),.g (.int .i64 0)]),(1,.cells (cellsK (l.take 0)))] 2)
  (fun (k:Nat) t=>k≤l.length∧t=stL [(.sl l.length 2 (l.flatMap encC)),.any,(.ptr 0 0),(.ptr 1 0),(.g (.int .i64 (k:Int))),.any,.any,.any,.any,.any,.any,.any,.any,.any,.any,.any,.any,.any,.any,.any,.any,.any,.any,.any,.any,.any,.any,.any,.any,.any,.any,.any,.any,.any,.any,.any,.any,.any,.any,.any] [(0,.cells [.g (.int .i64 0),.g (.int .i64 0),.g (.int .i64 0),.g (.int .i64 0)]),(1,.cells (cellsK (l.take k)))] 2) (fun k=>l.length - k) 0 ⟨Nat.zero_le _,rfl⟩
  (VS.ren [(0,0),(1,1)] (by simp) (by simp) (by simp) (by simp only [go_sem,↓reduceIte,Nat.reduceAdd,Nat.reduceSub,Nat.reduceMul,Nat.reduceEqDiff,Nat.reduceLeDiff,Nat.reduceLT,Int.reduceLE,Int.reduceLT,Int.reduceToNat,Int.reduceEq]) ⟨⟨0,_,rfl,rfl,_,rfl,.inl ⟨rfl,rfl⟩⟩,⟨1,_,rfl,rfl,_,rfl,.inl ⟨rfl,rfl⟩⟩,trivial⟩) ?_
 rintro k t ⟨hk,rfl⟩
 by_cases hlt:k<l.length
 ·obtain ⟨r1,r2⟩:=rowCx hlt
  have hup:IntKind.i64.wrap ((k:Int)+1)=((k+1:Nat):Int):=up1 (by omega);have hb:∀ pr,cntK pr (l.take k)≤1000000:=fun pr=>Nat.le_trans (cntK_le _ _) (by rw [List.length_take];omega);have hu:∀ pr,IntKind.i64.wrap ((cntK pr (l.take k):Int)+1)=((cntK pr (l.take k)+1:Nat):Int):=fun pr=>up1 (by have:=hb pr;omega);have s3:=cntK_step (isK 3) hlt;have s4:=cntK_step (isK 4) hlt;have s2:=cntK_step (isK 2) hlt;have sr:=cntK_step isRest hlt;have hcells:cellsK (l.take k)=[.g (.int .i64 (cntK (isK 3) (l.take k):Nat)),.g (.int .i64 (cntK (isK 4) (l.take k):Nat)),.g (.int .i64 (cntK (isK 2) (l.take k):Nat)),.g (.int .i64 (cntK isRest (l.take k):Nat))]:=rfl;have HK:=key13_p l[k] (hc _ (List.getElem_mem hlt));rw [hcells];have hnx:cellsK (l.take (k+1))=[.g (.int .i64 (cntK (isK 3) (l.take (k+1)):Nat)),.g (.int .i64 (cntK (isK 4) (l.take (k+1)):Nat)),.g (.int .i64 (cntK (isK 2) (l.take (k+1)):Nat)),.g (.int .i64 (cntK isRest (l.take (k+1)):Nat))]:=rfl;generalize (keyM l[k]).1=κ at s3 s4 s2 sr HK
  (repeat ((first | with_reducible refine W.step (b:=false) ?_ | skip);simp only [go_sem,↓reduceIte,Nat.reduceAdd,Nat.reduceSub,Nat.reduceMul,Nat.reduceEqDiff,Nat.reduceLeDiff,Nat.reduceLT,Int.reduceLE,Int.reduceLT,Int.reduceToNat,Int.reduceEq,hlt,r1,r2];try with_reducible refine drawn hmix (by kernel_rfl) ?_))
  refine AtCall.mk HK ?_
  by_cases h3:κ=3
  ·have f3:=eq_true h3
   subst h3;have hq:cellsK (l.take (k+1))=[.g (.int .i64 ((cntK (isK 3) (l.take k)+1:Nat):Int)),.g (.int .i64 (cntK (isK 4) (l.take k):Nat)),.g (.int .i64 (cntK (isK 2) (l.take k):Nat)),.g (.int .i64 (cntK isRest (l.take k):Nat))]:=by
    rw [hnx,s3,s4,s2,sr];rfl
   (repeat ((first | with_reducible refine W.step (b:=false) ?_ | skip);simp only [go_sem,↓reduceIte,Nat.reduceAdd,Nat.reduceSub,Nat.reduceMul,Nat.reduceEqDiff,Nat.reduceLeDiff,Nat.reduceLT,Int.reduceLE,Int.reduceLT,Int.reduceToNat,Int.reduceEq,hu,hup];try with_reducible refine drawn hmix (by kernel_rfl) ?_))
   refine ⟨k+1,_,⟨by omega,rfl⟩,by show l.length - (k+1)<l.length - k;omega,?_⟩;rw [hq];exact VS.ren [(0,0),(1,1)] (by simp) (by simp) (by simp) (by simp only [go_sem,↓reduceIte,Nat.reduceAdd,Nat.reduceSub,Nat.reduceMul,Nat.reduceEqDiff,Nat.reduceLeDiff,Nat.reduceLT,Int.reduceLE,Int.reduceLT,Int.reduceToNat,Int.reduceEq]) ⟨⟨0,_,rfl,rfl,_,rfl,.inl ⟨rfl,rfl⟩⟩,⟨1,_,rfl,rfl,_,rfl,.inl ⟨rfl,rfl⟩⟩,trivial⟩
  by_cases h4:κ=4
  ·subst h4
   have hq:cellsK (l.take (k+1))=[.g (.int .i64 (cntK (isK 3) (l.take k):Nat)),.g (.int .i64 ((cntK (isK 4) (l.take k)+1:Nat):Int)),.g (.int .i64 (cntK (isK 2) (l.take k):Nat)),.g (.int .i64 (cntK isRest (l.take k):Nat))]:=by
    rw [hnx,s3,s4,s2,sr];rfl
   (repeat ((first | with_reducible refine W.step (b:=false) ?_ | skip);simp only [go_sem,↓reduceIte,Nat.reduceAdd,Nat.reduceSub,Nat.reduceMul,Nat.reduceEqDiff,Nat.reduceLeDiff,Nat.reduceLT,Int.reduceLE,Int.reduceLT,Int.reduceToNat,Int.reduceEq,hu,hup];try with_reducible refine drawn hmix (by kernel_rfl) ?_))
   refine ⟨k+1,_,⟨by omega,rfl⟩,by show l.length - (k+1)<l.length - k;omega,?_⟩;rw [hq];exact VS.ren [(0,0),(1,1)] (by simp) (by simp) (by simp) (by simp only [go_sem,↓reduceIte,Nat.reduceAdd,Nat.reduceSub,Nat.reduceMul,Nat.reduceEqDiff,Nat.reduceLeDiff,Nat.reduceLT,Int.reduceLE,Int.reduceLT,Int.reduceToNat,Int.reduceEq]) ⟨⟨0,_,rfl,rfl,_,rfl,.inl ⟨rfl,rfl⟩⟩,⟨1,_,rfl,rfl,_,rfl,.inl ⟨rfl,rfl⟩⟩,trivial⟩
  by_cases h2:κ=2
  ·subst h2
   have hq:cellsK (l.take (k+1))=[.g (.int .i64 (cntK (isK 3) (l.take k):Nat)),.g (.int .i64 (cntK (isK 4) (l.take k):Nat)),.g (.int .i64 ((cntK (isK 2) (l.take k)+1:Nat):Int)),.g (.int .i64 (cntK isRest (l.take k):Nat))]:=by
    rw [hnx,s3,s4,s2,sr];rfl
   (repeat ((first | with_reducible refine W.step (b:=false) ?_ | skip);simp only [go_sem,↓reduceIte,Nat.reduceAdd,Nat.reduceSub,Nat.reduceMul,Nat.reduceEqDiff,Nat.reduceLeDiff,Nat.reduceLT,Int.reduceLE,Int.reduceLT,Int.reduceToNat,Int.reduceEq,hu,hup];try with_reducible refine drawn hmix (by kernel_rfl) ?_))
   refine ⟨k+1,_,⟨by omega,rfl⟩,by show l.length - (k+1)<l.length - k;omega,?_⟩;rw [hq];exact VS.ren [(0,0),(1,1)] (by simp) (by simp) (by simp) (by simp only [go_sem,↓reduceIte,Nat.reduceAdd,Nat.reduceSub,Nat.reduceMul,Nat.reduceEqDiff,Nat.reduceLeDiff,Nat.reduceLT,Int.reduceLE,Int.reduceLT,Int.reduceToNat,Int.reduceEq]) ⟨⟨0,_,rfl,rfl,_,rfl,.inl ⟨rfl,rfl⟩⟩,⟨1,_,rfl,rfl,_,rfl,.inl ⟨rfl,rfl⟩⟩,trivial⟩
  have b3:isK 3 κ=false:=by simpa [isK] using h3
  have b4:isK 4 κ=false:=by simpa [isK] using h4
  have b2:isK 2 κ=false:=by simpa [isK] using h2
  have br:isRest κ=true:=by
   have e:isRest κ=(!(isK 3 κ)&&!(isK 4 κ)&&!(isK 2 κ)):=rfl;rw [e,b3,b4,b2];rfl
  have hq:cellsK (l.take (k+1))=[.g (.int .i64 (cntK (isK 3) (l.take k):Nat)),.g (.int .i64 (cntK (isK 4) (l.take k):Nat)),.g (.int .i64 (cntK (isK 2) (l.take k):Nat)),.g (.int .i64 ((cntK isRest (l.take k)+1:Nat):Int))]:=by
   rw [hnx,s3,s4,s2,sr,b3,b4,b2,br];rfl
  (repeat ((first | with_reducible refine W.step (b:=false) ?_ | skip);simp only [go_sem,↓reduceIte,Nat.reduceAdd,Nat.reduceSub,Nat.reduceMul,Nat.reduceEqDiff,Nat.reduceLeDiff,Nat.reduceLT,Int.reduceLE,Int.reduceLT,Int.reduceToNat,Int.reduceEq,h3,h4,h2,hu,hup];try with_reducible refine drawn hmix (by kernel_rfl) ?_))
  refine ⟨k+1,_,⟨by omega,rfl⟩,by show l.length - (k+1)<l.length - k;omega,?_⟩;rw [hq];exact VS.ren [(0,0),(1,1)] (by simp) (by simp) (by simp) (by simp only [go_sem,↓reduceIte,Nat.reduceAdd,Nat.reduceSub,Nat.reduceMul,Nat.reduceEqDiff,Nat.reduceLeDiff,Nat.reduceLT,Int.reduceLE,Int.reduceLT,Int.reduceToNat,Int.reduceEq]) ⟨⟨0,_,rfl,rfl,_,rfl,.inl ⟨rfl,rfl⟩⟩,⟨1,_,rfl,rfl,_,rfl,.inl ⟨rfl,rfl⟩⟩,trivial⟩
 ·obtain rfl:k=l.length:=by omega
  rw [List.take_length];unfold cellsK
  (repeat ((first | with_reducible refine W.step (b:=false) ?_ | skip);simp only [go_sem,↓reduceIte,Nat.reduceAdd,Nat.reduceSub,Nat.reduceMul,Nat.reduceEqDiff,Nat.reduceLeDiff,Nat.reduceLT,Int.reduceLE,Int.reduceLT,Int.reduceToNat,Int.reduceEq,hlt];try with_reducible refine drawn hmix (by kernel_rfl) ?_))
  exact postP_one _ (.inr rfl) (by unfold resV;simp only [go_sem,↓reduceIte,Nat.reduceAdd,Nat.reduceSub,Nat.reduceMul,Nat.reduceEqDiff,Nat.reduceLeDiff,Nat.reduceLT,Int.reduceLE,Int.reduceLT,Int.reduceToNat,Int.reduceEq]) (SealTo.agg (by simp [plainA]))
theorem idxs_step {α:Type} (q:α→Bool) {l:List α} {k:Nat} (h:k<l.length):idxs q (l.take (k+1))=idxs q (l.take k)++if q l[k]=true then [k] else []:=by
 rw [List.take_succ_eq_append_getElem h,idxs_append]
 congr 1
 unfold idxs
 cases hq:q l[k] <;> simp [hq]
 omega
set_option maxRecDepth 100000 in
set_option maxHeartbeats 4000000 in
theorem match13_p (l:List Cx) (p:List Nod) (st:List Stt) (n:Int) (hp:OkPg p) (hs:st.length≤1000000) (hl:l.length≤1000000) (hc:∀ c∈l,okPT c.parts):PureN Tryz.prog gt0 51 [.sl l.length 2 (l.flatMap encC),.sl p.length 5 (p.flatMap encNd),.sl st.length 2 (st.flatMap encSt),.g (.int .i64 n)] (.sl (ansM p st l n).length 1 ((ansM p st l n).flatMap encZ)):=by
 refine PureN.of_w (c:=_) Tryz.func51 rfl (by kernel_rfl) rfl ?_;simp only [Tryz.f51,List.replicate,List.length_cons,List.length_nil,Nat.reduceAdd,Nat.reduceSub,List.cons_append,List.nil_append];rw [ans_idxs]
 (repeat ((first | with_reducible refine W.step (b:=false) ?_ | skip);simp only [go_sem,↓reduceIte,Nat.reduceAdd,Nat.reduceSub,Nat.reduceMul,Nat.reduceEqDiff,Nat.reduceLeDiff,Nat.reduceLT,Int.reduceLE,Int.reduceLT,Int.reduceToNat,Int.reduceEq];try with_reducible refine drawn hmix (by kernel_rfl) ?_))
 refine W.loop (s1:=stL [(.sl l.length 2 (l.flatMap encC)),(.sl p.length 5 (p.flatMap encNd)),(.sl st.length 2 (st.flatMap encSt)),(.g (.int .i64 n)),.any,.any,.any,.any,.any,(.gs 0 0 0 1 0),(.g (.int .i64 ((0:Nat):Int))),.any,.any,.any,.any,.any,.any,.any,.any,.any,.any,.any,.any,.any,.any,.any,.any,.any,.any,.any,.any] [(0,.cells [])] 1)
  (fun (k:Nat) t=>k≤l.length∧t=stL [(.sl l.length 2 (l.flatMap encC)),(.sl p.length 5 (p.flatMap encNd)),(.sl st.length 2 (st.flatMap encSt)),(.g (.int .i64 n)),.any,.any,.any,.any,.any,(.gs 0 0 ((idxs (qM p st n) (l.take k)).map fun i:Nat=>(i:Int)).length 1 ((idxs (qM p st n) (l.take k)).map fun i:Nat=>(i:Int)).length),(.g (.int .i64 (k:Int))),.any,.any,.any,.any,.any,.any,.any,.any,.any,.any,.any,.any,.any,.any,.any,.any,.any,.any,.any,.any] [(0,.cells (((idxs (qM p st n) (l.take k)).map fun i:Nat=>(i:Int)).flatMap encZ))] 1) (fun k=>l.length - k) 0 ⟨Nat.zero_le _,rfl⟩ (VS.tm (by simp [leL])) ?_
 rintro k t ⟨hk,rfl⟩
 by_cases hlt:k<l.length
 ·obtain ⟨r1,r2⟩:=rowCx hlt
  have HI:=is12_p p st n l[k] hp hs (hc _ (List.getElem_mem hlt));have hst:=congrArg (List.map fun i:Nat=>(i:Int)) (idxs_step (qM p st n) hlt);rw [List.map_append] at hst;have hol:((idxs (qM p st n) (l.take k)).map fun i:Nat=>(i:Int)).length≤1000000:=by
   rw [List.length_map];exact Nat.le_trans (idxs_len _ _) (by rw [List.length_take];omega)
  have hqd:(treeB p&&isM p st l[k] n)=qM p st n l[k]:=rfl;rw [hqd] at HI;generalize (idxs (qM p st n) (l.take k)).map (fun i:Nat=>(i:Int))=o at hst hol ⊢;have E1:(o.flatMap encZ).length=o.length:=lenZ o;have E2:¬(o.length+1≤o.length):=by omega
  have E3:(o.length+1)*9≤17179869184:=by omega
  have E6:∀ x,o.flatMap encZ++[AV.g (.int .i64 x)]=(o++[x]).flatMap encZ:=fun x=>by rw [List.flatMap_append];rfl
  (repeat ((first | with_reducible refine W.step (b:=false) ?_ | skip);simp only [go_sem,↓reduceIte,Nat.reduceAdd,Nat.reduceSub,Nat.reduceMul,Nat.reduceEqDiff,Nat.reduceLeDiff,Nat.reduceLT,Int.reduceLE,Int.reduceLT,Int.reduceToNat,Int.reduceEq,hlt,r1,r2];try with_reducible refine drawn hmix (by kernel_rfl) ?_))
  refine AtCall.mk HI ?_
  cases hq:qM p st n l[k] with
  | true =>
    rw [hq,if_pos rfl] at hst
    (repeat ((first | with_reducible refine W.step (b:=false) ?_ | skip);simp only [go_sem,↓reduceIte,Nat.reduceAdd,Nat.reduceSub,Nat.reduceMul,Nat.reduceEqDiff,Nat.reduceLeDiff,Nat.reduceLT,Int.reduceLE,Int.reduceLT,Int.reduceToNat,Int.reduceEq,E1,E2,E3];try with_reducible refine drawn hmix (by kernel_rfl) ?_))
    refine ⟨k+1,_,⟨by omega,rfl⟩,by show l.length - (k+1)<l.length - k;omega,VS.ren [(0,2)] (by simp) (by simp) (by simp) ?_ ?_⟩
    ·rw [up1 (by omega),hst]
     simp only [go_sem,↓reduceIte,Nat.reduceAdd,Nat.reduceSub,Nat.reduceMul,Nat.reduceEqDiff,Nat.reduceLeDiff,Nat.reduceLT,Int.reduceLE,Int.reduceLT,Int.reduceToNat,Int.reduceEq,List.length_append]
    ·rw [hst]
     exact reM_w rfl (by rw [List.map_cons,List.map_nil,←E6];rfl) (ids_Z _)
  | false =>
    rw [hq,if_neg (by decide),List.map_nil,List.append_nil] at hst
    (repeat ((first | with_reducible refine W.step (b:=false) ?_ | skip);simp only [go_sem,↓reduceIte,Nat.reduceAdd,Nat.reduceSub,Nat.reduceMul,Nat.reduceEqDiff,Nat.reduceLeDiff,Nat.reduceLT,Int.reduceLE,Int.reduceLT,Int.reduceToNat,Int.reduceEq];try with_reducible refine drawn hmix (by kernel_rfl) ?_))
    refine ⟨k+1,_,⟨by omega,rfl⟩,by show l.length - (k+1)<l.length - k;omega,?_⟩;rw [up1 (by omega),hst];exact VS.tm (by simp [leL])
 ·obtain rfl:k=l.length:=by omega
  rw [List.take_length]
  (repeat ((first | with_reducible refine W.step (b:=false) ?_ | skip);simp only [go_sem,↓reduceIte,Nat.reduceAdd,Nat.reduceSub,Nat.reduceMul,Nat.reduceEqDiff,Nat.reduceLeDiff,Nat.reduceLT,Int.reduceLE,Int.reduceLT,Int.reduceToNat,Int.reduceEq,hlt];try with_reducible refine drawn hmix (by kernel_rfl) ?_))
  exact postP_one _ (.inr rfl) rfl (seal_Z rfl rfl)
attribute [go_sem] appL newsA isSlice
section
variable {P:Program} {GT:GTab} {rd:List Mem} {m m' m2:ML} {n n2:Nat} {f:FuncId} {args args':List AV} {a:AV}
end
section
variable {rd:List Mem}
theorem new_at (l:List Cx) (hl:l.length≤1000000) (hc:∀ c∈l,okCx c) (m:ML) (n:Nat):CallM Tryz.prog gt0 rd m n 46 [.sl l.length 2 (l.flatMap encC)] (.ptr (n+1) 0) ((n,.map (encG sealV4 0 (allG l)) (allG l).length)::(n+1,.cells [.mp n])::m) (n+2):=by
 have:=CallM.at (rd:=rd) (m:=m) (n:=n) (q:=[]) (new_m l hl hc) rfl (ltL_id 0 _ rfl) trivial trivial ⟨.inl (Nat.zero_le _),.inl (Nat.zero_le _),trivial⟩;have e0:fnm [] 0 n 0=n:=by simp [fnm]
 have e1:fnm [] 0 n 1=n+1:=by simp [fnm]
 simp only [afterL,e0,e1,reFL,reF,reFB,reFE_seal,List.map_cons,List.map_nil,List.any_nil,Bool.not_false,List.cons_append,List.nil_append,Nat.sub_zero] at this;rw [List.filter_eq_self.2 (fun _ _=>rfl)] at this;exact this
theorem all_at {p:List Nod} {st:List Stt} {l:List Cx} (h:Asked p st l) (a:Nat) (m:ML) (n:Nat) (ha:a+1<n) (h0:getL m a=some (.map (encG sealV4 0 (allG l)) (allG l).length)) (h1:getL m (a+1)=some (.cells [.mp a])) :
 CallM Tryz.prog gt0 rd m n 48 [.ptr (a+1) 0,.sl p.length 5 (p.flatMap encNd),.sl st.length 2 (st.flatMap encSt)] (.sl p.length 1 (((List.range p.length).map fun n:Nat=>ansM p st l (n:Int)).flatMap encRow)) ((a,.map (encG sealV4 0 (allG l)) (allG l).length)::(a+1,.cells [.mp a])::m.filter fun p=>!(Nat.beq a p.1||Nat.beq (a+1) p.1)) n:=by
 have e0:fnm [(0,a),(1,a+1)] 2 n 0=a:=by simp [fnm,lk]
 have e1:fnm [(0,a),(1,a+1)] 2 n 1=a+1:=by simp [fnm,lk]
 have hb:Nat.beq a (a+1)=false:=by rw [←Bool.not_eq_true,Nat.beq_eq];omega
 have x1:ltL 2 [AV.ptr 1 0,.sl p.length 5 (p.flatMap encNd),.sl st.length 2 (st.flatMap encSt)]:=by simp [ltL,ltA]
 have x2:inM (fnm [(0,a),(1,a+1)] 2 n) 2 n m (memIx (allG l)):=by
  simp only [inM,e0,e1,reFB,reFE_seal,reFL,reF,ltB,ltL,ltA,h0,h1,and_true];exact ⟨⟨⟨by decide,by omega⟩,by rw [ltE_seal];trivial⟩,⟨by decide,ha⟩,by decide⟩
 have x3:injM (fnm [(0,a),(1,a+1)] 2 n) (memIx (allG l)):=by simp [injM,e0,e1,hb]
 have x4:subM 2 (memIx (allG l)) (memIx (allG l)):=by simp [subM]
 have:=CallM.at (rd:=rd) (m:=m) (n:=n) (q:=[(0,a),(1,a+1)]) (all_m h) rfl x1 x2 x3 x4;simp only [afterL,e0,e1,reFL,reF,reFB,reFE_seal,List.map_cons,List.map_nil,List.any_cons,List.any_nil,Bool.or_false,List.cons_append,List.nil_append,Nat.sub_self,Nat.add_zero] at this;exact this
end
attribute [go_sem] appL newsA isSlice
theorem eqg_i4:Tryz.prog.eqGuardType Tryz.prog.depth 80=false:=by kernel_rfl
attribute [go_sem] eqg_i4
theorem p40 (a b c d:Value):pv Tryz.prog (part 3 #[a,b,c,d] (0*1))=some a:=by kernel_rfl
theorem p41 (a b c d:Value):pv Tryz.prog (part 3 #[a,b,c,d] (1*1))=some b:=by kernel_rfl
theorem p42 (a b c d:Value):pv Tryz.prog (part 3 #[a,b,c,d] (2*1))=some c:=by kernel_rfl
theorem p43 (a b c d:Value):pv Tryz.prog (part 3 #[a,b,c,d] (3*1))=some d:=by kernel_rfl
theorem eq4 (a b c d:Int):pv Tryz.prog (Op.equal 80 (.agg #[.int .i64 a,.int .i64 b,.int .i64 c,.int .i64 d]) (.agg #[.int .i64 a,.int .i64 b,.int .i64 c,.int .i64 d]))=some true:=by
 show pv Tryz.prog (Op.equalIn (9999+1) 80 _ _)=_;rw [Op.equalIn,pv_bind,pv_underlying Tryz.underlying80,Option.bind_some];simp only;rw [pv_bind,sz3,Option.bind_some,pv_bind];have hr:∀ {β:Type} (init:β) (f:Nat→β→Sem (ForInStep β)),forIn [:4] init f=forIn [0,1,2,3] init f:=by
  intro β init f;rw [Std.Legacy.Range.forIn_eq_forIn_range']
  rfl
 rw [hr,List.forIn_cons,pv_bind,pv_bind,p40,Option.bind_some,pv_bind,p40,Option.bind_some,pv_bind,eq3,Option.bind_some];simp only [beq_self_eq_true,Bool.not_true,Bool.false_eq_true,if_false];rw [pv_pureA,Option.bind_some];simp only;rw [List.forIn_cons,pv_bind,pv_bind,p41,Option.bind_some,pv_bind,p41,Option.bind_some,pv_bind,eq3,Option.bind_some];simp only [beq_self_eq_true,Bool.not_true,Bool.false_eq_true,if_false];rw [pv_pureA,Option.bind_some];simp only;rw [List.forIn_cons,pv_bind,pv_bind,p42,Option.bind_some,pv_bind,p42,Option.bind_some,pv_bind,eq3,Option.bind_some];simp only [beq_self_eq_true,Bool.not_true,Bool.false_eq_true,if_false];rw [pv_pureA,Option.bind_some];simp only;rw [List.forIn_cons,pv_bind,pv_bind,p43,Option.bind_some,pv_bind,p43,Option.bind_some,pv_bind,eq3,Option.bind_some];simp only [beq_self_eq_true,Bool.not_true,Bool.false_eq_true,if_false];simp [pv,pure,Pure.pure]
theorem neq4 (a b c d:Int):pv Tryz.prog (binOp .neq 80 (.agg #[.int .i64 a,.int .i64 b,.int .i64 c,.int .i64 d]) (.agg #[.int .i64 a,.int .i64 b,.int .i64 c,.int .i64 d]))=some (.bool false):=by
 show pv Tryz.prog (do pure (Value.bool (!(←Op.equal 80 (.agg #[.int .i64 a,.int .i64 b,.int .i64 c,.int .i64 d]) (.agg #[.int .i64 a,.int .i64 b,.int .i64 c,.int .i64 d])))))=_;rw [pv_bind,eq4];rfl
set_option maxRecDepth 100000 in
set_option maxHeartbeats 4000000 in
theorem tells13_p (p:List Nod) (st:List Stt) (l:List Cx) (n:Int) (hg:∀ c∈l,c.parts.length≤140737488351232):PureN Tryz.prog gt0 10 [.agg [.sl p.length 5 (p.flatMap encNd),.sl st.length 2 (st.flatMap encSt)],.sl l.length 2 (l.flatMap encC),.g (.int .i64 n)] (.g (.bool true)):=by
 have HS:=small13_p p st l hg;refine PureN.of_w (c:=_) Tryz.func10 rfl (by kernel_rfl) rfl ?_;simp only [Tryz.f10,List.replicate,List.length_cons,List.length_nil,Nat.reduceAdd,Nat.reduceSub,List.cons_append,List.nil_append]
 (repeat ((first | with_reducible refine W.step (b:=false) ?_ | skip);simp only [go_sem,↓reduceIte,Nat.reduceAdd,Nat.reduceSub,Nat.reduceMul,Nat.reduceEqDiff,Nat.reduceLeDiff,Nat.reduceLT,Int.reduceLE,Int.reduceLT,Int.reduceToNat,Int.reduceEq];try with_reducible refine drawn hmix (by kernel_rfl) ?_))
 refine AtCall.mk HS ?_
 cases hsm:smallB p st l with
 | false =>
   (repeat ((first | with_reducible refine W.step (b:=false) ?_ | skip);simp only [go_sem,↓reduceIte,Nat.reduceAdd,Nat.reduceSub,Nat.reduceMul,Nat.reduceEqDiff,Nat.reduceLeDiff,Nat.reduceLT,Int.reduceLE,Int.reduceLT,Int.reduceToNat,Int.reduceEq];try with_reducible refine drawn hmix (by kernel_rfl) ?_))
   refine AtCall.mk fixed13_p ?_
   (repeat ((first | with_reducible refine W.step (b:=false) ?_ | skip);simp only [go_sem,↓reduceIte,Nat.reduceAdd,Nat.reduceSub,Nat.reduceMul,Nat.reduceEqDiff,Nat.reduceLeDiff,Nat.reduceLT,Int.reduceLE,Int.reduceLT,Int.reduceToNat,Int.reduceEq];try with_reducible refine drawn hmix (by kernel_rfl) ?_))
   exact postP_one _ (.inr rfl) rfl (.plain rfl)
 | true =>
   obtain ⟨hA,hp40,hl40⟩:=small_asked hsm;have hPT:∀ c∈l,okPT c.parts:=fun c hc=>(hA.sel c hc).1;have HK:∀ (m:ML) (k a:Nat),getL m a=some (.map (encG sealV4 0 (allG l)) (allG l).length)→getL m (a+1)=some (.cells [.mp a])→CallM Tryz.prog gt0 [] m k 47 [.ptr (a+1) 0] (.tup [.g (.int .i64 (cntK (isK 3) l:Nat)),.g (.int .i64 (cntK (isK 4) l:Nat)),.g (.int .i64 (cntK (isK 2) l:Nat)),.g (.int .i64 (cntK isRest l:Nat))]) m k:=fun m k a h0 h1=>keys_at l hA.len m k a h0 h1;have HR:PureN Tryz.prog gt0 49 [.sl l.length 2 (l.flatMap encC)] (.agg [.g (.int .i64 (cntK (isK 3) l:Nat)),.g (.int .i64 (cntK (isK 4) l:Nat)),.g (.int .i64 (cntK (isK 2) l:Nat)),.g (.int .i64 (cntK isRest l:Nat))]):=keys13_p l hA.len hPT;have hlr:(((List.range p.length).map fun n:Nat=>ansM p st l (n:Int))).length=p.length:=by rw [List.length_map,List.length_range]
   have hAl:∀ k:Int,(ansM p st l k).length≤1000000:=fun k=>by rw [ans_idxs,List.length_map];have:=idxs_len (qM p st k) l;omega
   (repeat ((first | with_reducible refine W.step (b:=false) ?_ | skip);simp only [go_sem,↓reduceIte,Nat.reduceAdd,Nat.reduceSub,Nat.reduceMul,Nat.reduceEqDiff,Nat.reduceLeDiff,Nat.reduceLT,Int.reduceLE,Int.reduceLT,Int.reduceToNat,Int.reduceEq];try with_reducible refine drawn hmix (by kernel_rfl) ?_))
   refine AtCall.mem (new_at l (by omega) (fun c hc=>okQ_cx (hA.sel c hc)) _ _) ?_
   (repeat ((first | with_reducible refine W.step (b:=false) ?_ | skip);simp only [go_sem,↓reduceIte,Nat.reduceAdd,Nat.reduceSub,Nat.reduceMul,Nat.reduceEqDiff,Nat.reduceLeDiff,Nat.reduceLT,Int.reduceLE,Int.reduceLT,Int.reduceToNat,Int.reduceEq];try with_reducible refine drawn hmix (by kernel_rfl) ?_))
   refine AtCall.mem (HK _ _ 1 rfl rfl) ?_
   (repeat ((first | with_reducible refine W.step (b:=false) ?_ | skip);simp only [go_sem,↓reduceIte,Nat.reduceAdd,Nat.reduceSub,Nat.reduceMul,Nat.reduceEqDiff,Nat.reduceLeDiff,Nat.reduceLT,Int.reduceLE,Int.reduceLT,Int.reduceToNat,Int.reduceEq];try with_reducible refine drawn hmix (by kernel_rfl) ?_))
   refine AtCall.mem (m':=[(1,.map (encG sealV4 0 (allG l)) (allG l).length),(2,.cells [.mp 1]),(0,.cells [.sl p.length 5 (p.flatMap encNd),.sl st.length 2 (st.flatMap encSt)])]) (all_at hA 1 _ 3 (by decide) rfl rfl) ?_
   (repeat ((first | with_reducible refine W.step (b:=false) ?_ | skip);simp only [go_sem,↓reduceIte,Nat.reduceAdd,Nat.reduceSub,Nat.reduceMul,Nat.reduceEqDiff,Nat.reduceLeDiff,Nat.reduceLT,Int.reduceLE,Int.reduceLT,Int.reduceToNat,Int.reduceEq];try with_reducible refine drawn hmix (by kernel_rfl) ?_))
   refine AtCall.mk HR ?_
   (repeat ((first | with_reducible refine W.step (b:=false) ?_ | skip);simp only [go_sem,↓reduceIte,Nat.reduceAdd,Nat.reduceSub,Nat.reduceMul,Nat.reduceEqDiff,Nat.reduceLeDiff,Nat.reduceLT,Int.reduceLE,Int.reduceLT,Int.reduceToNat,Int.reduceEq,neq4];try with_reducible refine drawn hmix (by kernel_rfl) ?_))
   refine W.loop (s1:=stL [.any,(.sl l.length 2 (l.flatMap encC)),(.g (.int .i64 n)),(.ptr 0 0),.any,.any,(.g (.bool false)),(.ptr 2 0),.any,.any,.any,.any,(.sl p.length 1 ((((List.range p.length).map fun n:Nat=>ansM p st l (n:Int))).flatMap encRow)),(.g (.int .i64 ((0:Nat):Int))),.any,.any,.any,.any,.any,.any,.any,.any,.any,.any,.any,.any,.any,.any,.any,.any,.any,.any,.any,.any,.any,.any,.any,.any,.any,.any,.any,.any,.any,.any,.any,.any,.any,.any,.any,.any,.any,.any,.any,.any,.any,.any,.any,.any,.any,.any,.any,.any,.any,.any,.any,.any,.any,.any,.any,.any,.any,.any,.any,.any,.any,.any,.any,.any,.any,.any,.any,.any,.any,.any,.any,.any,.any] [(1,.map (encG sealV4 0 (allG l)) (allG l).length),(2,.cells [.mp 1]),(0,.cells [.sl p.length 5 (p.flatMap encNd),.sl st.length 2 (st.flatMap encSt)])] 3)
    (fun (k:Nat) t=>k≤p.length∧t=stL [.any,(.sl l.length 2 (l.flatMap encC)),(.g (.int .i64 n)),(.ptr 0 0),.any,.any,(.g (.bool false)),(.ptr 2 0),.any,.any,.any,.any,(.sl p.length 1 ((((List.range p.length).map fun n:Nat=>ansM p st l (n:Int))).flatMap encRow)),(.g (.int .i64 (k:Int))),.any,.any,.any,.any,.any,.any,.any,.any,.any,.any,.any,.any,.any,.any,.any,.any,.any,.any,.any,.any,.any,.any,.any,.any,.any,.any,.any,.any,.any,.any,.any,.any,.any,.any,.any,.any,.any,.any,.any,.any,.any,.any,.any,.any,.any,.any,.any,.any,.any,.any,.any,.any,.any,.any,.any,.any,.any,.any,.any,.any,.any,.any,.any,.any,.any,.any,.any,.any,.any,.any,.any,.any,.any] [(1,.map (encG sealV4 0 (allG l)) (allG l).length),(2,.cells [.mp 1]),(0,.cells [.sl p.length 5 (p.flatMap encNd),.sl st.length 2 (st.flatMap encSt)])] 3) (fun k=>p.length - k) 0 ⟨Nat.zero_le _,rfl⟩ (VS.tm (by simp [leL])) ?_
   rintro k t ⟨hk,rfl⟩
   by_cases hlt:k<p.length
   ·have hrow:((((List.range p.length).map fun n:Nat=>ansM p st l (n:Int))).flatMap encRow)[k]?=some (.sl (ansM p st l (k:Int)).length 1 ((ansM p st l (k:Int)).flatMap encZ)):=by
     have h9:=flat_get encRow 1 (fun _=>rfl) (((List.range p.length).map fun n:Nat=>ansM p st l (n:Int))) k (by rw [hlr];exact hlt) 0 (by decide);rw [Nat.mul_one,Nat.add_zero] at h9;rw [h9];simp [encRow]
    have HM:=match13_p l p st (k:Int) hA.pg hA.st hA.len hPT;have HI:=ints_p (ansM p st l (k:Int)) (ansM p st l (k:Int)) (hAl k);rw [decide_eq_true rfl] at HI
    (repeat ((first | with_reducible refine W.step (b:=false) ?_ | skip);simp only [go_sem,↓reduceIte,Nat.reduceAdd,Nat.reduceSub,Nat.reduceMul,Nat.reduceEqDiff,Nat.reduceLeDiff,Nat.reduceLT,Int.reduceLE,Int.reduceLT,Int.reduceToNat,Int.reduceEq,hlt,hrow];try with_reducible refine drawn hmix (by kernel_rfl) ?_))
    refine AtCallQ.mk HM ?_
    (repeat ((first | with_reducible refine W.step (b:=false) ?_ | skip);simp only [go_sem,↓reduceIte,Nat.reduceAdd,Nat.reduceSub,Nat.reduceMul,Nat.reduceEqDiff,Nat.reduceLeDiff,Nat.reduceLT,Int.reduceLE,Int.reduceLT,Int.reduceToNat,Int.reduceEq];try with_reducible refine drawn hmix (by kernel_rfl) ?_))
    refine AtCallQ.mk HI ?_
    (repeat ((first | with_reducible refine W.step (b:=false) ?_ | skip);simp only [go_sem,↓reduceIte,Nat.reduceAdd,Nat.reduceSub,Nat.reduceMul,Nat.reduceEqDiff,Nat.reduceLeDiff,Nat.reduceLT,Int.reduceLE,Int.reduceLT,Int.reduceToNat,Int.reduceEq];try with_reducible refine drawn hmix (by kernel_rfl) ?_))
    refine ⟨k+1,_,⟨hlt,rfl⟩,by show p.length - (k+1)<p.length - k;omega,VS.tm ?_⟩;rw [up1 (by omega)];simp [leL]
   ·have MX:=fun m k h0 h1 h2=>(match_at (rd:=[]) hA n 1 m k h0 h1 h2).2
    have HM:=match13_p l p st n hA.pg hA.st hA.len hPT;have HI:=ints_p (ansM p st l n) (ansM p st l n) (hAl n);rw [decide_eq_true rfl] at HI
    (repeat ((first | with_reducible refine W.step (b:=true) ?_ | skip);simp only [go_sem,↓reduceIte,Nat.reduceAdd,Nat.reduceSub,Nat.reduceMul,Nat.reduceEqDiff,Nat.reduceLeDiff,Nat.reduceLT,Int.reduceLE,Int.reduceLT,Int.reduceToNat,Int.reduceEq,hlt];(try with_reducible refine drawn hmix (by kernel_rfl) ?_);try with_reducible refine ⟨by kernel_rfl,?_⟩))
    refine AtCallD.mk fixed13_p ?_
    (repeat ((first | with_reducible refine W.step (b:=true) ?_ | skip);simp only [go_sem,↓reduceIte,Nat.reduceAdd,Nat.reduceSub,Nat.reduceMul,Nat.reduceEqDiff,Nat.reduceLeDiff,Nat.reduceLT,Int.reduceLE,Int.reduceLT,Int.reduceToNat,Int.reduceEq];(try with_reducible refine drawn hmix (by kernel_rfl) ?_);try with_reducible refine ⟨by kernel_rfl,?_⟩))
    refine AtCallD.mem (m':=[(1,.map (encG sealV4 0 (allG l)) (allG l).length),(2,.cells [.mp 1]),(0,.cells [.sl p.length 5 (p.flatMap encNd),.sl st.length 2 (st.flatMap encSt)])]) (MX _ 3 (by decide) rfl rfl) ?_
    (repeat ((first | with_reducible refine W.step (b:=true) ?_ | skip);simp only [go_sem,↓reduceIte,Nat.reduceAdd,Nat.reduceSub,Nat.reduceMul,Nat.reduceEqDiff,Nat.reduceLeDiff,Nat.reduceLT,Int.reduceLE,Int.reduceLT,Int.reduceToNat,Int.reduceEq];(try with_reducible refine drawn hmix (by kernel_rfl) ?_);try with_reducible refine ⟨by kernel_rfl,?_⟩))
    refine AtCallD.mk HM ?_
    (repeat ((first | with_reducible refine W.step (b:=true) ?_ | skip);simp only [go_sem,↓reduceIte,Nat.reduceAdd,Nat.reduceSub,Nat.reduceMul,Nat.reduceEqDiff,Nat.reduceLeDiff,Nat.reduceLT,Int.reduceLE,Int.reduceLT,Int.reduceToNat,Int.reduceEq];(try with_reducible refine drawn hmix (by kernel_rfl) ?_);try with_reducible refine ⟨by kernel_rfl,?_⟩))
    refine AtCallD.mk HI ?_
    (repeat ((first | with_reducible refine W.step (b:=true) ?_ | skip);simp only [go_sem,↓reduceIte,Nat.reduceAdd,Nat.reduceSub,Nat.reduceMul,Nat.reduceEqDiff,Nat.reduceLeDiff,Nat.reduceLT,Int.reduceLE,Int.reduceLT,Int.reduceToNat,Int.reduceEq];(try with_reducible refine drawn hmix (by kernel_rfl) ?_);try with_reducible refine ⟨by kernel_rfl,?_⟩))
    exact postP_one _ (.inr rfl) rfl (.plain rfl)
end Go.Proofs.YtlnaihkombcbcaaGreat
namespace Go.Proofs.YtlnaihkombcbcaaGreat
open Go.ChangeShapes Go.WideShapes Go.ChangeAt Go.RowKit Go.Ev
theorem own:ownKnob Tryz.prog.godebug=none:=by kernel_rfl
section
variable {H:Type} {enc:TypeId×Value→H} {P:Program}
theorem post_of_below {f:Func} {s:ChangeSpec} {apart fresh handsOn again:Bool} {W W':World} {args:Array Value} {v:Value} {ds gs:List (DataW H)} {before pa pv:List MemPlace}
 (hW:DataW.Whole enc P f.params.toList s.vars apart W args.toList ds gs before)
 (hres:∀ (b:Nat) (sp:Nat→Bool) (hd:Bool),DataW.TrodAll enc P W' b sp hd f.resultTypes.toList (v.resultList f.resultTypes.size) (s.fn H (ds++gs)).results [])
 (hargs:∀ sp:Nat→Bool,(∀ p∈before,sp p.block=true)→DataW.TrodAll enc P W' 0 sp true f.params.toList args.toList (s.fn H (ds++gs)).args pa)
 (hvars:∀ sp:Nat→Bool,(∀ p∈before,sp p.block=true)→DataW.TrodVars enc P W' sp s.vars (s.fn H (ds++gs)).vars pv)
 (hps:before=pa++pv) (hB:Below W.heap.size W W')
 (hok:∀ (j:Nat) (t:TypeId) (r:Value),f.resultTypes[j]?=some t→(v.resultList f.resultTypes.size)[j]?=some r→Value.okWide P W' .any 0 t r) :
 s.post enc P f apart fresh handsOn again W args v W':=by
 have hold:∀ p∈before,(fun b=>decide (b<W.heap.size)) p.block=true:=fun p hp=>by simpa using hW.lt p hp
 have hlt:=fun p hp=>hW.lt p hp;refine ⟨ds,gs,before,[],pa,pv,hW,hres _ _ _,hargs _ hold,hvars _ hold,World.keptBut_mono (fun p hp=>⟨hp,?_⟩) (hB.frame (·∈before)),fun _=>?_⟩
 ·rw [hps,List.mem_append] at hp
  exact Or.inr hp
 ·obtain ⟨_,_,_,_,_,hz,hn⟩:=hW
  refine ⟨hok,_,_,([]++pa)++pv,⟨[]++pa,pv,trodAll_append (hargs _ (fun _ _=>rfl)) (hres _ _ _),hvars _ (fun _ _=>rfl),rfl,?_,?_⟩,?_⟩
  ·intro b off hp
   have hp':MemPlace.cell b off∈before:=by rw [hps];simpa using hp
   rw [hB.frozen (hlt _ hp')];exact hz b off hp'
  ·intro ha
   have:=hn ha;rw [hps] at this;simpa using this
  ·intro p hp _
   rw [hps];simpa using hp
end
theorem readableCxs:Tryz.prog.readableRec 50=true:=by kernel_rfl
theorem inTableCxs:50<Tryz.prog.types.size:=of_decide_eq_true (by kernel_rfl)
theorem readableW:Tryz.prog.readableRec 72=true:=by kernel_rfl
theorem inTableW:72<Tryz.prog.types.size:=of_decide_eq_true (by kernel_rfl)
theorem readableI:Tryz.prog.readableRec 3=true:=by kernel_rfl
theorem inTableI:3<Tryz.prog.types.size:=of_decide_eq_true (by kernel_rfl)
namespace quickTells
set_option maxRecDepth 1000000 in
theorem contract (H:Type) (enc:TypeId×Value→H) (W:World) (base:Nat) (args:Array Value) (ds gs:List (DataW H)) (before:List MemPlace)
 (hval:∀ (j:Nat) t v,Tryz.f10.params[j]?=some t→args[j]?=some v→Value.okWide Tryz.prog W .any base t v)
 (hW:DataW.Whole enc Tryz.prog Tryz.f10.params.toList Rows.quickTellsSpec.vars false W args.toList ds gs before)
 (hw:(DataW.weightsEach Tryz.prog (Tryz.f10.params.toList++Rows.quickTellsSpec.plain.varTypes Tryz.prog) (ds++gs)).all (·≤reachBytes)=true) :
 Calls Tryz.prog 10 args W fun e W'=>∃ v,e=.returned v∧Rows.quickTellsSpec.post enc Tryz.prog Tryz.f10 false true false false W args v W':=by
 have hW':=hW;obtain ⟨p,q,hA0,hV,rfl,hfz,hnd⟩:=hW;have hA:DataW.TrodAll enc Tryz.prog W 0 (fun _=>true) true Tryz.f10.params.toList args.toList ds p:=hA0;rw [show Tryz.f10.params=#[72,50,3] by kernel_rfl] at hA hval hw;obtain ⟨v0,vs0,d0,ds0,p0,q0,hargs,rfl,rfl,h0,r0⟩:=trodAll_cons hA;obtain ⟨v1,vs1,d1,ds1,p1,q1,rfl,rfl,rfl,h1,r1⟩:=trodAll_cons r0;obtain ⟨v2,vs2,d2,ds2,p2,q2,rfl,rfl,rfl,h2,r2⟩:=trodAll_cons r1;obtain ⟨rfl,rfl,rfl⟩:=trodAll_nil r2;obtain rfl:args=#[v0,v1,v2]:=by cases args;simp_all
 obtain ⟨rfl,rfl⟩:=trodVars_none hV;have hw':=List.all_eq_true.1 hw;have fit0:Fits Tryz.prog 72 d0:=fun x hx=>by
  simpa using hw' x (mem_weightsEach (i:=0) rfl rfl x hx)
 have fit1:Fits Tryz.prog 50 d1:=fun x hx=>by
  simpa using hw' x (mem_weightsEach (i:=1) rfl rfl x hx)
 obtain ⟨pg,st,hpg⟩:=open_world (hval 0 72 v0 (by simp) (by simp)) h0 fit0;obtain ⟨a,ha,ga⟩:=open_cxs (hval 1 50 v1 (by simp) (by simp)) h1 fit1;obtain ⟨n,rfl⟩:=okWide_int Tryz.underlying3 (hval 2 3 v2 (by simp) (by simp));clear hA0;have hlt0:∀ x∈p0,x.block<W.heap.size:=fun x hx=>by simpa using hW'.lt x (by simp [hx])
 have hlt1:∀ x∈p1,x.block<W.heap.size:=fun x hx=>by simpa using hW'.lt x (by simp [hx])
 have hlt2:∀ x∈p2,x.block<W.heap.size:=fun x hx=>by simpa using hW'.lt x (by simp [hx])
 refine ((tells13_p pg st a n ga).pure.at W #[v0,v1,.int .i64 n] (fun g cs h=>by cases h) (VRs.cons_mk hpg (VRs.cons_mk ha (VRs.cons_mk rfl (by rw [VRs]))))).mono ?_;rintro e W' ⟨r,rfl,hr,hB⟩;obtain rfl:r=.bool true:=hr
 exact ⟨_,rfl,post_of_below (pa:=p0++(p1++(p2++[]))) (pv:=[]) hW' (fun _ _ _=>trodAll_cons_mk (shut_bool Tryz.underlying4 _) trodAll_mk0)
  (fun sp hsp=>trodAll_cons_mk (WideElems.Trod_stays p_laid readableW inTableW h0 (fun x hx=>hB.same (hlt0 x hx)) (fun x hx=>hsp x (by simp [hx])))
    (trodAll_cons_mk (WideElems.Trod_stays p_laid readableCxs inTableCxs h1 (fun x hx=>hB.same (hlt1 x hx)) (fun x hx=>hsp x (by simp [hx])))
      (trodAll_cons_mk (WideElems.Trod_stays p_laid readableI inTableI h2 (fun x hx=>hB.same (hlt2 x hx)) (fun x hx=>hsp x (by simp [hx]))) trodAll_mk0)))
  (fun _ _=>rfl) rfl hB (ok_one (by kernel_rfl) rfl (okWide_bool_mk Tryz.underlying4 _))⟩
set_option maxRecDepth 100000 in
theorem lifted (os:Os) (started:os.Started) (H:Type) (enc:TypeId×Value→H) :
 ReturnsInHanded {} Tryz.checked os 10 .any (Rows.quickTellsSpec.pre6 enc Tryz.prog Tryz.f10 Rows.quickTellsRow.domain false) (Rows.quickTellsSpec.post enc Tryz.prog Tryz.f10 false true false false):=by
 refine returnsInHanded_of_change_sized (C:=Tryz.checked) own started (by kernel_rfl) Tryz.func10
  (ChangeSpec.witness6 (enc:=enc) (C:=Tryz.checked) false ⟨#[],#[.agg #[.slice none 0 0,.slice none 0 0],.slice none 0 0,.int .i64 0],[]⟩ 8 (by kernel_rfl) (by kernel_rfl) (by kernel_rfl) (by kernel_rfl)) ?_
 intro W base args ds gs before hval hW _ hw _;exact contract H enc W base args ds gs before hval hW hw
theorem said:Rows.QuickTellsSaid :=
 OpenClaim.holds_of_wide 10 Tryz.f10 rfl rfl rfl rfl rfl rfl rfl ⟨rfl,rfl,rfl,rfl,rfl⟩ rfl rfl rfl rfl rfl row_named Tryz.func10 closed
  (of_decide_eq_true (by kernel_rfl)) row_wrapper
  (fun os started H enc _=>lifted os started H enc)
end quickTells
end Go.Proofs.YtlnaihkombcbcaaGreat
end
