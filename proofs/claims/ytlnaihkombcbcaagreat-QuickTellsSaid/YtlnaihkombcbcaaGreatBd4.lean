/- What selectors mean by the document: plain lists. -/
import Derived.Test.YtlnaihkombcbcaaGreatBd3
import Derived.Test.YtlnaihkombcbcaaGreatBc7
import Derived.Test.YtlnaihkombcbcaaGreatBd2
set_option linter.unusedSimpArgs false
noncomputable section
namespace Go.Proofs.YtlnaihkombcbcaaGreat
open Go.RowKit Go.Ev
attribute [local go_sem] eq_self false_and and_false Bool.false_eq_true List.set_cons_succ List.set_cons_zero List.getD_cons_succ List.getD_cons_zero List.getElem?_cons_succ List.getElem?_cons_zero true_and and_true and_self Bool.not_true Bool.not_false Nat.add_zero Nat.zero_add Nat.mul_one Int.toNat_natCast Int.natCast_nonneg Int.ofNat_lt Option.bind_some Option.map_some List.map_cons List.map_nil decide_true decide_false BEq.rfl Bool.and_self Bool.and_true Bool.and_false beq_self_eq_true List.cons_append List.nil_append List.take_zero List.take_succ_cons List.take_nil List.drop_succ_cons List.drop_zero List.drop_nil List.append_nil List.length_cons List.length_nil List.all_cons List.all_nil Nat.le_refl Int.le_refl Option.map_none List.replicate_zero List.replicate_succ Nat.zero_mul Nat.sub_zero Nat.zero_le Nat.le_zero_eq getR_nil Option.some_or Option.none_or Option.or_none Option.isSome_some Option.isSome_none Option.getD_some Option.getD_none Int.toNat_zero Int.natCast_zero Int.natCast_one Int.cast_ofNat_Int List.toList_toArray
attribute [go_sem] appL newsA isSlice
set_option maxRecDepth 100000 in
set_option maxHeartbeats 4000000 in
theorem ints_p (xs ys:List Int) (hx:xs.length≤1000000):PureN Tryz.prog gt0 50 [.sl xs.length 1 (xs.flatMap encZ),.sl ys.length 1 (ys.flatMap encZ)] (.g (.bool (decide (xs=ys)))):=by
 refine PureN.of_w (c:=_) Tryz.func50 rfl (by kernel_rfl) rfl ?_;simp only [Tryz.f50,List.replicate,List.length_cons,List.length_nil,Nat.reduceAdd,Nat.reduceSub,List.cons_append,List.nil_append]
 by_cases hl:xs.length=ys.length
 ·have fl:((xs.length:Int)=(ys.length:Int))=True:=eq_true (by omega)
  (repeat ((first | with_reducible refine W.step (b:=false) ?_ | skip);simp only [go_sem,↓reduceIte,Nat.reduceAdd,Nat.reduceSub,Nat.reduceMul,Nat.reduceEqDiff,Nat.reduceLeDiff,Nat.reduceLT,Int.reduceLE,Int.reduceLT,Int.reduceToNat,Int.reduceEq,fl];try with_reducible refine drawn hmix (by kernel_rfl) ?_))
  refine W.loop (s1:=stL [(.sl xs.length 1 (xs.flatMap encZ)),(.sl ys.length 1 (ys.flatMap encZ)),.any,.any,(.g (.bool false)),(.g (.int .i64 ((0:Nat):Int))),.any,.any,.any,.any,.any,.any,.any,.any,.any,.any,.any,.any,.any,.any,.any,.any,.any,.any,.any,.any] [] 0)
   (fun (k:Nat) t=>k≤xs.length∧xs.take k=ys.take k∧t=stL [(.sl xs.length 1 (xs.flatMap encZ)),(.sl ys.length 1 (ys.flatMap encZ)),.any,.any,(.g (.bool false)),(.g (.int .i64 (k:Int))),.any,.any,.any,.any,.any,.any,.any,.any,.any,.any,.any,.any,.any,.any,.any,.any,.any,.any,.any,.any] [] 0) (fun k=>xs.length - k) 0 ⟨Nat.zero_le _,by simp,rfl⟩ (VS.tm (by simp [leL])) ?_
  rintro k t ⟨hk,hq,rfl⟩
  by_cases hlt:k<xs.length
  ·have hlt2:k<ys.length:=by omega
   have r1:=rowZ hlt;have r2:=rowZ hlt2
   by_cases he:xs[k]=ys[k]
   ·have fe:=eq_true he
    (repeat ((first | with_reducible refine W.step (b:=false) ?_ | skip);simp only [go_sem,↓reduceIte,Nat.reduceAdd,Nat.reduceSub,Nat.reduceMul,Nat.reduceEqDiff,Nat.reduceLeDiff,Nat.reduceLT,Int.reduceLE,Int.reduceLT,Int.reduceToNat,Int.reduceEq,hlt,hlt2,r1,r2,fe];try with_reducible refine drawn hmix (by kernel_rfl) ?_))
    refine ⟨k+1,_,⟨by omega,by rw [List.take_succ_eq_append_getElem hlt,List.take_succ_eq_append_getElem hlt2,hq,he],rfl⟩,by show xs.length - (k+1)<xs.length - k;omega,VS.tm ?_⟩;rw [up1 (by omega)];simp [leL]
   ·have fe:=eq_false he
    have hne:decide (xs=ys)=false:=decide_eq_false (fun e=>he (by subst e;rfl));rw [hne]
    (repeat ((first | with_reducible refine W.step (b:=false) ?_ | skip);simp only [go_sem,↓reduceIte,Nat.reduceAdd,Nat.reduceSub,Nat.reduceMul,Nat.reduceEqDiff,Nat.reduceLeDiff,Nat.reduceLT,Int.reduceLE,Int.reduceLT,Int.reduceToNat,Int.reduceEq,hlt,hlt2,r1,r2,fe];try with_reducible refine drawn hmix (by kernel_rfl) ?_))
    exact postP_one _ (.inr rfl) rfl (.plain rfl)
  ·have heq:decide (xs=ys)=true:=decide_eq_true (by rw [List.take_of_length_le (by omega),List.take_of_length_le (by omega)] at hq;exact hq)
   rw [heq]
   (repeat ((first | with_reducible refine W.step (b:=false) ?_ | skip);simp only [go_sem,↓reduceIte,Nat.reduceAdd,Nat.reduceSub,Nat.reduceMul,Nat.reduceEqDiff,Nat.reduceLeDiff,Nat.reduceLT,Int.reduceLE,Int.reduceLT,Int.reduceToNat,Int.reduceEq,hlt];try with_reducible refine drawn hmix (by kernel_rfl) ?_))
   exact postP_one _ (.inr rfl) rfl (.plain rfl)
 ·have hne:decide (xs=ys)=false:=decide_eq_false (fun e=>hl (by rw [e]))
  have fl:((xs.length:Int)=(ys.length:Int))=False:=eq_false (by omega);rw [hne]
  (repeat ((first | with_reducible refine W.step (b:=false) ?_ | skip);simp only [go_sem,↓reduceIte,Nat.reduceAdd,Nat.reduceSub,Nat.reduceMul,Nat.reduceEqDiff,Nat.reduceLeDiff,Nat.reduceLT,Int.reduceLE,Int.reduceLT,Int.reduceToNat,Int.reduceEq,fl];try with_reducible refine drawn hmix (by kernel_rfl) ?_))
  exact postP_one _ (.inr rfl) rfl (.plain rfl)
def fewM (st:List Stt):Bool:=decide (st.length≤30)&&st.all fun x=>decide (x.name.size≤100)
theorem rowSt1 {l:List Stt} {k:Nat} (hk:k<l.length):(l.flatMap encSt)[k*2+1]?=some (.g (.string l[k].name)) :=
 flat_get encSt 2 (fun _=>rfl) l k hk 1 (by decide)
theorem fl_st1:fldO Tryz.prog 152 1=some (1,9):=by kernel_rfl
attribute [go_sem] fl_st1
set_option maxRecDepth 100000 in
set_option maxHeartbeats 4000000 in
theorem few_p (st:List Stt):PureN Tryz.prog gt0 94 [.sl st.length 2 (st.flatMap encSt)] (.g (.bool (fewM st))):=by
 refine PureN.of_w (c:=_) Tryz.func94 rfl (by kernel_rfl) rfl ?_;simp only [Tryz.f94,List.replicate,List.length_cons,List.length_nil,Nat.reduceAdd,Nat.reduceSub,List.cons_append,List.nil_append];unfold fewM
 (repeat ((first | with_reducible refine W.step (b:=false) ?_ | skip);simp only [go_sem,↓reduceIte,Nat.reduceAdd,Nat.reduceSub,Nat.reduceMul,Nat.reduceEqDiff,Nat.reduceLeDiff,Nat.reduceLT,Int.reduceLE,Int.reduceLT,Int.reduceToNat,Int.reduceEq];try with_reducible refine drawn hmix (by kernel_rfl) ?_))
 refine W.loop (s1:=stL [(.sl st.length 2 (st.flatMap encSt)),.any,(.g (.bool false)),(.g (.int .i64 ((0:Nat):Int))),.any,.any,.any,.any,.any,.any,.any,.any,.any,.any,.any,.any,.any,.any,.any,.any,.any,.any,.any,.any,.any] [] 0)
  (fun (k:Nat) t=>(k≤st.length∧∀ y∈st.take k,decide (y.name.size≤100)=true)∧t=stL [(.sl st.length 2 (st.flatMap encSt)),.any,(.g (.bool false)),(.g (.int .i64 (k:Int))),.any,.any,.any,.any,.any,.any,.any,.any,.any,.any,.any,.any,.any,.any,.any,.any,.any,.any,.any,.any,.any] [] 0) (fun k=>st.length - k) 0 ⟨⟨Nat.zero_le _,by simp⟩,rfl⟩ (VS.tm (by simp [leL])) ?_
 rintro k t ⟨⟨hk,hq⟩,rfl⟩
 by_cases hlt:k<st.length
 ·have r:=rowSt1 hlt
  by_cases h30:st.length≤30
  ·have f30:((st.length:Int)≤30)=True:=eq_true (by omega)
   by_cases hs:st[k].name.size≤100
   ·have fs:((100:Int)<(st[k].name.size:Int))=False:=eq_false (by omega)
    (repeat ((first | with_reducible refine W.step (b:=false) ?_ | skip);simp only [go_sem,↓reduceIte,Nat.reduceAdd,Nat.reduceSub,Nat.reduceMul,Nat.reduceEqDiff,Nat.reduceLeDiff,Nat.reduceLT,Int.reduceLE,Int.reduceLT,Int.reduceToNat,Int.reduceEq,hlt,f30,r,fs];try with_reducible refine drawn hmix (by kernel_rfl) ?_))
    refine ⟨k+1,_,⟨⟨hlt,fun y hy=>?_⟩,rfl⟩,by show st.length - (k+1)<st.length - k;omega,?_⟩
    ·rw [List.take_succ_eq_append_getElem hlt,List.mem_append] at hy
     rcases hy with hy | hy
     ·exact hq y hy
     ·simp at hy;subst hy;exact decide_eq_true hs
    ·rw [up1 (by omega)]
     exact VS.tm (by simp [leL])
   ·have fs:((100:Int)<(st[k].name.size:Int))=True:=eq_true (by omega)
    have hf:(st.all fun x=>decide (x.name.size≤100))=false:=List.all_eq_false.2 ⟨_,List.getElem_mem hlt,by simpa using hs⟩;rw [hf,Bool.and_false]
    (repeat ((first | with_reducible refine W.step (b:=false) ?_ | skip);simp only [go_sem,↓reduceIte,Nat.reduceAdd,Nat.reduceSub,Nat.reduceMul,Nat.reduceEqDiff,Nat.reduceLeDiff,Nat.reduceLT,Int.reduceLE,Int.reduceLT,Int.reduceToNat,Int.reduceEq,hlt,f30,r,fs];try with_reducible refine drawn hmix (by kernel_rfl) ?_))
    exact postP_one _ (.inr rfl) rfl (.plain rfl)
  ·have f30:((st.length:Int)≤30)=False:=eq_false (by omega)
   rw [decide_eq_false h30,Bool.false_and]
   (repeat ((first | with_reducible refine W.step (b:=false) ?_ | skip);simp only [go_sem,↓reduceIte,Nat.reduceAdd,Nat.reduceSub,Nat.reduceMul,Nat.reduceEqDiff,Nat.reduceLeDiff,Nat.reduceLT,Int.reduceLE,Int.reduceLT,Int.reduceToNat,Int.reduceEq,hlt,f30];try with_reducible refine drawn hmix (by kernel_rfl) ?_))
   exact postP_one _ (.inr rfl) rfl (.plain rfl)
 ·rw [List.take_of_length_le (by omega)] at hq
  rw [List.all_eq_true.2 hq,Bool.and_true]
  by_cases h30:st.length≤30
  ·have f30:((st.length:Int)≤30)=True:=eq_true (by omega)
   rw [decide_eq_true h30]
   (repeat ((first | with_reducible refine W.step (b:=false) ?_ | skip);simp only [go_sem,↓reduceIte,Nat.reduceAdd,Nat.reduceSub,Nat.reduceMul,Nat.reduceEqDiff,Nat.reduceLeDiff,Nat.reduceLT,Int.reduceLE,Int.reduceLT,Int.reduceToNat,Int.reduceEq,hlt,f30];try with_reducible refine drawn hmix (by kernel_rfl) ?_))
   exact postP_one _ (.inr rfl) rfl (.plain rfl)
  ·have f30:((st.length:Int)≤30)=False:=eq_false (by omega)
   rw [decide_eq_false h30]
   (repeat ((first | with_reducible refine W.step (b:=false) ?_ | skip);simp only [go_sem,↓reduceIte,Nat.reduceAdd,Nat.reduceSub,Nat.reduceMul,Nat.reduceEqDiff,Nat.reduceLeDiff,Nat.reduceLT,Int.reduceLE,Int.reduceLT,Int.reduceToNat,Int.reduceEq,hlt,f30];try with_reducible refine drawn hmix (by kernel_rfl) ?_))
   exact postP_one _ (.inr rfl) rfl (.plain rfl)
def ndSm (m:Nat) (x:Nod):Bool:=decide (x.name.size≤100)&&(decide (x.text.size≤300)&&(decide (x.attrs.length≤20)&&(decide (x.kids.length≤m)&&x.attrs.all fun a=>decide (a.name.size≤100)&&decide (a.value.size≤100))))
def pgSm (m:Nat) (p:List Nod):Bool:=decide (p.length≤m)&&p.all (ndSm m)
theorem rowNdS {l:List Nod} {k:Nat} (hk:k<l.length):((l.flatMap encNd).drop (k*5)).take 5=[.g (.string l[k].name),.sl l[k].attrs.length 2 (l[k].attrs.flatMap encA),.g (.string l[k].text),.g (.int .i64 l[k].up),.sl l[k].kids.length 1 (l[k].kids.flatMap encZ)]∧k*5+5≤(l.flatMap encNd).length :=
 ⟨row_part encNd 5 (fun _=>rfl) l k hk 0 5 (by decide),row_fit encNd 5 (fun _=>rfl) l k hk (j:=0) (by decide)⟩
set_option maxRecDepth 100000 in
set_option maxHeartbeats 4000000 in
theorem small10_p (p:List Nod) (m:Nat) (hm:m≤1000):PureN Tryz.prog gt0 93 [.sl p.length 5 (p.flatMap encNd),.g (.int .i64 (m:Int))] (.g (.bool (pgSm m p))):=by
 refine PureN.of_w (c:=_) Tryz.func93 rfl (by kernel_rfl) rfl ?_;simp only [Tryz.f93,List.replicate,List.length_cons,List.length_nil,Nat.reduceAdd,Nat.reduceSub,List.cons_append,List.nil_append];unfold pgSm
 (repeat ((first | with_reducible refine W.step (b:=false) ?_ | skip);simp only [go_sem,↓reduceIte,Nat.reduceAdd,Nat.reduceSub,Nat.reduceMul,Nat.reduceEqDiff,Nat.reduceLeDiff,Nat.reduceLT,Int.reduceLE,Int.reduceLT,Int.reduceToNat,Int.reduceEq];try with_reducible refine drawn hmix (by kernel_rfl) ?_))
 refine W.loop (s1:=stL [(.sl p.length 5 (p.flatMap encNd)),(.g (.int .i64 (m:Int))),.any,.any,(.g (.bool false)),(.g (.int .i64 ((0:Nat):Int))),.any,.any,.any,.any,.any,.any,.any,.any,.any,.any,.any,.any,.any,.any,.any,.any,.any,.any,.any,.any,.any,.any,.any,.any,.any,.any,.any,.any,.any,.any,.any,.any,.any,.any,.any,.any,.any,.any,.any,.any,.any,.any,.any,.any,.any,.any,.any,.any,.any,.any,.any,.any,.any,.any,.any,.any,.any,.any,.any,.any,.any,.any,.any,.any,.any,.any,.any,.any,.any,.any] [] 0)
  (fun (k:Nat) t=>(k≤p.length∧∀ y∈p.take k,ndSm m y=true)∧t=stL [(.sl p.length 5 (p.flatMap encNd)),(.g (.int .i64 (m:Int))),.any,.any,(.g (.bool false)),(.g (.int .i64 (k:Int))),.any,.any,.any,.any,.any,.any,.any,.any,.any,.any,.any,.any,.any,.any,.any,.any,.any,.any,.any,.any,.any,.any,.any,.any,.any,.any,.any,.any,.any,.any,.any,.any,.any,.any,.any,.any,.any,.any,.any,.any,.any,.any,.any,.any,.any,.any,.any,.any,.any,.any,.any,.any,.any,.any,.any,.any,.any,.any,.any,.any,.any,.any,.any,.any,.any,.any,.any,.any,.any,.any] [] 0) (fun k=>p.length - k) 0 ⟨⟨Nat.zero_le _,by simp⟩,rfl⟩ (VS.tm (by simp [leL])) ?_
 rintro k t ⟨⟨hk,hq⟩,rfl⟩
 by_cases hlt:k<p.length
 ·obtain ⟨s1,s2⟩:=rowNdS hlt
  by_cases hlm:p.length≤m
  ·have fm:((p.length:Int)≤(m:Int))=True:=eq_true (by omega)
   have bad:ndSm m p[k]=false→(decide (p.length≤m)&&p.all (ndSm m))=false:=fun h=>by
    rw [show p.all (ndSm m)=false from List.all_eq_false.2 ⟨_,List.getElem_mem hlt,by rw [h];decide⟩,Bool.and_false]
   by_cases h1:p[k].name.size≤100
   rotate_left
   ·have f1:((100:Int)<(p[k].name.size:Int))=True:=eq_true (by omega)
    rw [bad (by unfold ndSm;rw [decide_eq_false h1];rfl)]
    (repeat ((first | with_reducible refine W.step (b:=false) ?_ | skip);simp only [go_sem,↓reduceIte,Nat.reduceAdd,Nat.reduceSub,Nat.reduceMul,Nat.reduceEqDiff,Nat.reduceLeDiff,Nat.reduceLT,Int.reduceLE,Int.reduceLT,Int.reduceToNat,Int.reduceEq,hlt,fm,s1,s2,f1];try with_reducible refine drawn hmix (by kernel_rfl) ?_))
    exact postP_one _ (.inr rfl) rfl (.plain rfl)
   have f1:((100:Int)<(p[k].name.size:Int))=False:=eq_false (by omega)
   by_cases h2:p[k].text.size≤300
   rotate_left
   ·have f2:((300:Int)<(p[k].text.size:Int))=True:=eq_true (by omega)
    rw [bad (by unfold ndSm;rw [decide_eq_false h2];simp)]
    (repeat ((first | with_reducible refine W.step (b:=false) ?_ | skip);simp only [go_sem,↓reduceIte,Nat.reduceAdd,Nat.reduceSub,Nat.reduceMul,Nat.reduceEqDiff,Nat.reduceLeDiff,Nat.reduceLT,Int.reduceLE,Int.reduceLT,Int.reduceToNat,Int.reduceEq,hlt,fm,s1,s2,f1,f2];try with_reducible refine drawn hmix (by kernel_rfl) ?_))
    exact postP_one _ (.inr rfl) rfl (.plain rfl)
   have f2:((300:Int)<(p[k].text.size:Int))=False:=eq_false (by omega)
   by_cases h3:p[k].attrs.length≤20
   rotate_left
   ·have f3:((20:Int)<(p[k].attrs.length:Int))=True:=eq_true (by omega)
    rw [bad (by unfold ndSm;rw [decide_eq_false h3];simp)]
    (repeat ((first | with_reducible refine W.step (b:=false) ?_ | skip);simp only [go_sem,↓reduceIte,Nat.reduceAdd,Nat.reduceSub,Nat.reduceMul,Nat.reduceEqDiff,Nat.reduceLeDiff,Nat.reduceLT,Int.reduceLE,Int.reduceLT,Int.reduceToNat,Int.reduceEq,hlt,fm,s1,s2,f1,f2,f3];try with_reducible refine drawn hmix (by kernel_rfl) ?_))
    exact postP_one _ (.inr rfl) rfl (.plain rfl)
   have f3:((20:Int)<(p[k].attrs.length:Int))=False:=eq_false (by omega)
   by_cases h4:p[k].kids.length≤m
   rotate_left
   ·have f4:((m:Int)<(p[k].kids.length:Int))=True:=eq_true (by omega)
    rw [bad (by unfold ndSm;rw [decide_eq_false h4];simp)]
    (repeat ((first | with_reducible refine W.step (b:=false) ?_ | skip);simp only [go_sem,↓reduceIte,Nat.reduceAdd,Nat.reduceSub,Nat.reduceMul,Nat.reduceEqDiff,Nat.reduceLeDiff,Nat.reduceLT,Int.reduceLE,Int.reduceLT,Int.reduceToNat,Int.reduceEq,hlt,fm,s1,s2,f1,f2,f3,f4];try with_reducible refine drawn hmix (by kernel_rfl) ?_))
    exact postP_one _ (.inr rfl) rfl (.plain rfl)
   have f4:((m:Int)<(p[k].kids.length:Int))=False:=eq_false (by omega)
   (repeat ((first | with_reducible refine W.step (b:=false) ?_ | skip);simp only [go_sem,↓reduceIte,Nat.reduceAdd,Nat.reduceSub,Nat.reduceMul,Nat.reduceEqDiff,Nat.reduceLeDiff,Nat.reduceLT,Int.reduceLE,Int.reduceLT,Int.reduceToNat,Int.reduceEq,hlt,fm,s1,s2,f1,f2,f3,f4];try with_reducible refine drawn hmix (by kernel_rfl) ?_))
   refine W.loop (s1:=stL [(.sl p.length 5 (p.flatMap encNd)),(.g (.int .i64 (m:Int))),.any,.any,(.g (.bool false)),(.g (.int .i64 (k:Int))),(.ptr 0 0),(.g (.int .i64 ((0:Nat):Int))),.any,.any,.any,.any,.any,.any,.any,.any,.any,.any,.any,.any,.any,.any,.any,.any,.any,.any,.any,.any,.any,.any,.any,.any,.any,.any,.any,.any,.any,.any,.any,.any,.any,.any,.any,.any,.any,.any,.any,.any,.any,.any,.any,.any,.any,.any,.any,.any,.any,.any,.any,.any,.any,.any,.any,.any,.any,.any,.any,.any,.any,.any,.any,.any,.any,.any,.any,.any] [(0,.cells [.g (.string p[k].name),.sl p[k].attrs.length 2 (p[k].attrs.flatMap encA),.g (.string p[k].text),.g (.int .i64 p[k].up),.sl p[k].kids.length 1 (p[k].kids.flatMap encZ)])] 1)
    (fun (j:Nat) t=>(j≤p[k].attrs.length∧∀ y∈p[k].attrs.take j,(decide (y.name.size≤100)&&decide (y.value.size≤100))=true)∧t=stL [(.sl p.length 5 (p.flatMap encNd)),(.g (.int .i64 (m:Int))),.any,.any,(.g (.bool false)),(.g (.int .i64 (k:Int))),(.ptr 0 0),(.g (.int .i64 (j:Int))),.any,.any,.any,.any,.any,.any,.any,.any,.any,.any,.any,.any,.any,.any,.any,.any,.any,.any,.any,.any,.any,.any,.any,.any,.any,.any,.any,.any,.any,.any,.any,.any,.any,.any,.any,.any,.any,.any,.any,.any,.any,.any,.any,.any,.any,.any,.any,.any,.any,.any,.any,.any,.any,.any,.any,.any,.any,.any,.any,.any,.any,.any,.any,.any,.any,.any,.any,.any] [(0,.cells [.g (.string p[k].name),.sl p[k].attrs.length 2 (p[k].attrs.flatMap encA),.g (.string p[k].text),.g (.int .i64 p[k].up),.sl p[k].kids.length 1 (p[k].kids.flatMap encZ)])] 1) (fun j=>p[k].attrs.length - j) 0 ⟨⟨Nat.zero_le _,by simp⟩,rfl⟩ (VS.tm (by simp [leL])) ?_
   rintro j t ⟨⟨hj,hqa⟩,rfl⟩
   by_cases hlj:j<p[k].attrs.length
   ·obtain ⟨a1,a2,-⟩:=rowA hlj
    by_cases g1:p[k].attrs[j].name.size≤100
    rotate_left
    ·have e1:((100:Int)<(p[k].attrs[j].name.size:Int))=True:=eq_true (by omega)
     have hf:(p[k].attrs.all fun a=>decide (a.name.size≤100)&&decide (a.value.size≤100))=false:=List.all_eq_false.2 ⟨_,List.getElem_mem hlj,by rw [decide_eq_false g1];simp⟩;rw [bad (by unfold ndSm;rw [hf];simp)]
     (repeat ((first | with_reducible refine W.step (b:=true) ?_ | skip);simp only [go_sem,↓reduceIte,Nat.reduceAdd,Nat.reduceSub,Nat.reduceMul,Nat.reduceEqDiff,Nat.reduceLeDiff,Nat.reduceLT,Int.reduceLE,Int.reduceLT,Int.reduceToNat,Int.reduceEq,hlj,a1,a2,e1];(try with_reducible refine drawn hmix (by kernel_rfl) ?_);try with_reducible refine ⟨by kernel_rfl,?_⟩))
     exact postP_one _ (.inr rfl) rfl (.plain rfl)
    have e1:((100:Int)<(p[k].attrs[j].name.size:Int))=False:=eq_false (by omega)
    by_cases g2:p[k].attrs[j].value.size≤100
    rotate_left
    ·have e2:((100:Int)<(p[k].attrs[j].value.size:Int))=True:=eq_true (by omega)
     have hf:(p[k].attrs.all fun a=>decide (a.name.size≤100)&&decide (a.value.size≤100))=false:=List.all_eq_false.2 ⟨_,List.getElem_mem hlj,by rw [decide_eq_false g2];simp⟩;rw [bad (by unfold ndSm;rw [hf];simp)]
     (repeat ((first | with_reducible refine W.step (b:=true) ?_ | skip);simp only [go_sem,↓reduceIte,Nat.reduceAdd,Nat.reduceSub,Nat.reduceMul,Nat.reduceEqDiff,Nat.reduceLeDiff,Nat.reduceLT,Int.reduceLE,Int.reduceLT,Int.reduceToNat,Int.reduceEq,hlj,a1,a2,e1,e2];(try with_reducible refine drawn hmix (by kernel_rfl) ?_);try with_reducible refine ⟨by kernel_rfl,?_⟩))
     exact postP_one _ (.inr rfl) rfl (.plain rfl)
    have e2:((100:Int)<(p[k].attrs[j].value.size:Int))=False:=eq_false (by omega)
    (repeat ((first | with_reducible refine W.step (b:=true) ?_ | skip);simp only [go_sem,↓reduceIte,Nat.reduceAdd,Nat.reduceSub,Nat.reduceMul,Nat.reduceEqDiff,Nat.reduceLeDiff,Nat.reduceLT,Int.reduceLE,Int.reduceLT,Int.reduceToNat,Int.reduceEq,hlj,a1,a2,e1,e2];(try with_reducible refine drawn hmix (by kernel_rfl) ?_);try with_reducible refine ⟨by kernel_rfl,?_⟩))
    refine ⟨j+1,_,⟨⟨hlj,fun y hy=>?_⟩,rfl⟩,by show p[k].attrs.length - (j+1)<p[k].attrs.length - j;omega,?_⟩
    ·rw [List.take_succ_eq_append_getElem hlj,List.mem_append] at hy
     rcases hy with hy | hy
     ·exact hqa y hy
     ·simp at hy;subst hy;rw [decide_eq_true g1,decide_eq_true g2];rfl
    ·rw [up1 (by omega)]
     exact VS.tm (by simp [leL])
   ·(repeat ((first | with_reducible refine W.step (b:=false) ?_ | skip);simp only [go_sem,↓reduceIte,Nat.reduceAdd,Nat.reduceSub,Nat.reduceMul,Nat.reduceEqDiff,Nat.reduceLeDiff,Nat.reduceLT,Int.reduceLE,Int.reduceLT,Int.reduceToNat,Int.reduceEq,hlj];try with_reducible refine drawn hmix (by kernel_rfl) ?_))
    rw [List.take_of_length_le (by omega)] at hqa;refine ⟨k+1,_,⟨⟨hlt,fun y hy=>?_⟩,rfl⟩,by show p.length - (k+1)<p.length - k;omega,?_⟩
    ·rw [List.take_succ_eq_append_getElem hlt,List.mem_append] at hy
     rcases hy with hy | hy
     ·exact hq y hy
     ·simp at hy;subst hy
      unfold ndSm;rw [decide_eq_true h1,decide_eq_true h2,decide_eq_true h3,decide_eq_true h4,List.all_eq_true.2 hqa];rfl
    ·rw [up1 (by omega)]
     exact VSdrop (by simp) (by simp [keepT_cons,keepT_nil,ltA])
  ·have fm:((p.length:Int)≤(m:Int))=False:=eq_false (by omega)
   rw [decide_eq_false hlm,Bool.false_and]
   (repeat ((first | with_reducible refine W.step (b:=false) ?_ | skip);simp only [go_sem,↓reduceIte,Nat.reduceAdd,Nat.reduceSub,Nat.reduceMul,Nat.reduceEqDiff,Nat.reduceLeDiff,Nat.reduceLT,Int.reduceLE,Int.reduceLT,Int.reduceToNat,Int.reduceEq,hlt,fm];try with_reducible refine drawn hmix (by kernel_rfl) ?_))
   exact postP_one _ (.inr rfl) rfl (.plain rfl)
 ·rw [List.take_of_length_le (by omega)] at hq
  rw [List.all_eq_true.2 hq,Bool.and_true]
  by_cases hlm:p.length≤m
  ·have fm:((p.length:Int)≤(m:Int))=True:=eq_true (by omega)
   rw [decide_eq_true hlm]
   (repeat ((first | with_reducible refine W.step (b:=false) ?_ | skip);simp only [go_sem,↓reduceIte,Nat.reduceAdd,Nat.reduceSub,Nat.reduceMul,Nat.reduceEqDiff,Nat.reduceLeDiff,Nat.reduceLT,Int.reduceLE,Int.reduceLT,Int.reduceToNat,Int.reduceEq,hlt,fm];try with_reducible refine drawn hmix (by kernel_rfl) ?_))
   exact postP_one _ (.inr rfl) rfl (.plain rfl)
  ·have fm:((p.length:Int)≤(m:Int))=False:=eq_false (by omega)
   rw [decide_eq_false hlm]
   (repeat ((first | with_reducible refine W.step (b:=false) ?_ | skip);simp only [go_sem,↓reduceIte,Nat.reduceAdd,Nat.reduceSub,Nat.reduceMul,Nat.reduceEqDiff,Nat.reduceLeDiff,Nat.reduceLT,Int.reduceLE,Int.reduceLT,Int.reduceToNat,Int.reduceEq,hlt,fm];try with_reducible refine drawn hmix (by kernel_rfl) ?_))
   exact postP_one _ (.inr rfl) rfl (.plain rfl)
attribute [go_sem] appL newsA isSlice
def cntX (m:Nat):Simp→Nat→Nat
 | .mk _ nm v _ _ l,n=>if nm.size≤100∧v.size≤100 then cntL l (n+1) else m+1
where cntL:List Simp→Nat→Nat
 | [],n=>n
 | x::xs,n=>if n≤m then cntL xs (cntX m x n) else n
abbrev cntL (m:Nat):=cntX.cntL m
theorem cntL_nil (m n:Nat):cntL m [] n=n:=rfl
theorem cntL_cons (m n:Nat) (x:Simp) (xs:List Simp):cntL m (x::xs) n=if n≤m then cntL m xs (cntX m x n) else n:=rfl
theorem cntL_stop (m n:Nat) (l:List Simp) (h:¬n≤m):cntL m l n=n:=by
 cases l with
 | nil=>rfl
 | cons x xs=>rw [cntL_cons,if_neg h]
def smS:Simp→Prop
 | .mk _ nm _ _ _ l=>nm.size≤100∧l.length≤1000∧smL l
where smL:List Simp→Prop
 | []=>True
 | x::xs=>smS x∧smL xs
theorem cnt_spec (m:Nat) (hm:m≤1000) (N:Nat):∀ (l:List Simp),SizeOf.sizeOf l≤N→∀ n,n≤m+1→n≤cntL m l n∧cntL m l n≤m+1∧(cntL m l n≤m→n+l.length≤cntL m l n∧smS.smL l):=by
 induction N with
 | zero=>intro l hl;cases l <;> simp at hl
 | succ N ih =>
   intro l hl n hn
   cases l with
   | nil=>exact ⟨Nat.le_refl _,hn,fun _=>⟨Nat.le_refl _,trivial⟩⟩
   | cons x xs =>
     obtain ⟨kind,nm,v,a,b,ll⟩:=x;rw [List.cons.sizeOf_spec,Simp.mk.sizeOf_spec] at hl;rw [cntL_cons]
     by_cases h:n≤m
     ·rw [if_pos h]
      have hx:cntX m (.mk kind nm v a b ll) n=if nm.size≤100∧v.size≤100 then cntL m ll (n+1) else m+1:=by rw [cntX]
      rw [hx]
      by_cases hs:nm.size≤100∧v.size≤100
      ·rw [if_pos hs]
       obtain ⟨i1,i2,i3⟩:=ih ll (by omega) (n+1) (by omega);obtain ⟨j1,j2,j3⟩:=ih xs (by omega) (cntL m ll (n+1)) i2;refine ⟨by omega,j2,fun hc=>?_⟩;obtain ⟨k1,k2⟩:=j3 hc;obtain ⟨k3,k4⟩:=i3 (by omega);refine ⟨by rw [List.length_cons];omega,⟨⟨hs.1,by omega,k4⟩,k2⟩⟩
      ·rw [if_neg hs,cntL_stop m (m+1) xs (by omega)]
       exact ⟨by omega,Nat.le_refl _,fun h=>by omega⟩
     ·rw [if_neg h]
      exact ⟨Nat.le_refl _,hn,fun h2=>absurd h2 h⟩
theorem rowSv {l:List Simp} {k:Nat} (hk:k<l.length):(l.flatMap encS)[k*6+1]?=some (.g (.string l[k].name))∧(l.flatMap encS)[k*6+2]?=some (.g (.string l[k].value))∧(l.flatMap encS)[k*6+5]?=some (.sl l[k].l.length 6 (l[k].l.flatMap encS)):=by
 have h:=flat_get encS 6 lenSq l k hk;obtain ⟨a,b,e⟩:∃ a b,encS l[k]=[.g (.int .i64 l[k].kind),.g (.string l[k].name),.g (.string l[k].value),.g (.int .i64 a),.g (.int .i64 b),.sl l[k].l.length 6 (l[k].l.flatMap encS)]:=by
  cases hx:l[k];exact ⟨_,_,encS_m _ _ _ _ _ _⟩
 rw [e] at h;exact ⟨h 1 (by decide),h 2 (by decide),h 5 (by decide)⟩
theorem cntX_of {m n:Nat} (x:Simp):cntX m x n=if x.name.size≤100∧x.value.size≤100 then cntL m x.l (n+1) else m+1:=by
 cases x;rw [cntX];rfl
set_option maxRecDepth 100000 in
set_option maxHeartbeats 4000000 in
theorem count_p (m:Nat) (hm:m≤1000) (N:Nat):∀ (l:List Simp),SizeOf.sizeOf l≤N→∀ n,n≤m+1→PureN Tryz.prog gt0 110 [.sl l.length 6 (l.flatMap encS),.g (.int .i64 (n:Int)),.g (.int .i64 (m:Int))] (.g (.int .i64 (cntL m l n:Int))):=by
 induction N with
 | zero=>intro l hl;cases l <;> simp at hl
 | succ N ih =>
   intro l hl n hn;refine PureN.of_w (c:=_) Tryz.func110 rfl (by kernel_rfl) rfl ?_;simp only [Tryz.f110,List.replicate,List.length_cons,List.length_nil,Nat.reduceAdd,Nat.reduceSub,List.cons_append,List.nil_append]
   (repeat ((first | with_reducible refine W.step (b:=false) ?_ | skip);simp only [go_sem,↓reduceIte,Nat.reduceAdd,Nat.reduceSub,Nat.reduceMul,Nat.reduceEqDiff,Nat.reduceLeDiff,Nat.reduceLT,Int.reduceLE,Int.reduceLT,Int.reduceToNat,Int.reduceEq];try with_reducible refine drawn hmix (by kernel_rfl) ?_))
   refine W.loop (s1:=stL [(.sl l.length 6 (l.flatMap encS)),(.g (.int .i64 (n:Int))),(.g (.int .i64 (m:Int))),.any,.any,.any,(.g (.int .i64 0)),(.g (.int .i64 ((0:Nat):Int))),.any,.any,.any,.any,.any,.any,.any,.any,.any,.any,.any,.any,.any,.any,.any,.any,.any,.any,.any,.any,.any,.any,.any,.any,.any,.any,.any,.any,.any,.any,.any,.any,.any,.any,.any,.any,.any,.any,.any,.any] [] 0)
    (fun (z:Nat×Nat) t=>(z.1≤l.length∧z.1≤z.2∧z.2≤m+1∧cntL m l n=cntL m (l.drop z.1) z.2)∧t=stL [(.sl l.length 6 (l.flatMap encS)),(.g (.int .i64 (z.2:Int))),(.g (.int .i64 (m:Int))),.any,.any,.any,(.g (.int .i64 0)),(.g (.int .i64 (z.1:Int))),.any,.any,.any,.any,.any,.any,.any,.any,.any,.any,.any,.any,.any,.any,.any,.any,.any,.any,.any,.any,.any,.any,.any,.any,.any,.any,.any,.any,.any,.any,.any,.any,.any,.any,.any,.any,.any,.any,.any,.any] [] 0) (fun z=>l.length - z.1) (0,n) ⟨⟨Nat.zero_le _,Nat.zero_le _,hn,rfl⟩,rfl⟩ (VS.tm (by simp [leL])) ?_
   rintro ⟨k,c⟩ t ⟨⟨hk,hkc,hc,he⟩,rfl⟩;simp only at hk hkc hc he;rw [he]
   by_cases hlt:k<l.length
   ·rw [List.drop_eq_getElem_cons hlt,cntL_cons] at he ⊢
    by_cases hcm:c≤m
    ·have fc:((c:Int)≤(m:Int))=True:=eq_true (by omega)
     rw [if_pos hcm,cntX_of] at he ⊢;obtain ⟨r1,r2,r3⟩:=rowSv hlt
     by_cases h1:l[k].name.size≤100
     rotate_left
     ·have f1:((100:Int)<(l[k].name.size:Int))=True:=eq_true (by omega)
      rw [if_neg (fun h=>h1 h.1),cntL_stop m _ _ (by omega)]
      (repeat ((first | with_reducible refine W.step (b:=false) ?_ | skip);simp only [go_sem,↓reduceIte,Nat.reduceAdd,Nat.reduceSub,Nat.reduceMul,Nat.reduceEqDiff,Nat.reduceLeDiff,Nat.reduceLT,Int.reduceLE,Int.reduceLT,Int.reduceToNat,Int.reduceEq,hlt,fc,r1,r2,r3,f1];try with_reducible refine drawn hmix (by kernel_rfl) ?_))
      refine postP_one _ (.inr rfl) ?_ (.plain rfl);unfold resV;simp only [go_sem,↓reduceIte,Nat.reduceAdd,Nat.reduceSub,Nat.reduceMul,Nat.reduceEqDiff,Nat.reduceLeDiff,Nat.reduceLT,Int.reduceLE,Int.reduceLT,Int.reduceToNat,Int.reduceEq];rw [up1 (by omega)]
     have f1:((100:Int)<(l[k].name.size:Int))=False:=eq_false (by omega)
     by_cases h2:l[k].value.size≤100
     rotate_left
     ·have f2:((100:Int)<(l[k].value.size:Int))=True:=eq_true (by omega)
      rw [if_neg (fun h=>h2 h.2),cntL_stop m _ _ (by omega)]
      (repeat ((first | with_reducible refine W.step (b:=false) ?_ | skip);simp only [go_sem,↓reduceIte,Nat.reduceAdd,Nat.reduceSub,Nat.reduceMul,Nat.reduceEqDiff,Nat.reduceLeDiff,Nat.reduceLT,Int.reduceLE,Int.reduceLT,Int.reduceToNat,Int.reduceEq,hlt,fc,r1,r2,r3,f1,f2];try with_reducible refine drawn hmix (by kernel_rfl) ?_))
      refine postP_one _ (.inr rfl) ?_ (.plain rfl);unfold resV;simp only [go_sem,↓reduceIte,Nat.reduceAdd,Nat.reduceSub,Nat.reduceMul,Nat.reduceEqDiff,Nat.reduceLeDiff,Nat.reduceLT,Int.reduceLE,Int.reduceLT,Int.reduceToNat,Int.reduceEq];rw [up1 (by omega)]
     have f2:((100:Int)<(l[k].value.size:Int))=False:=eq_false (by omega);rw [if_pos ⟨h1,h2⟩] at he ⊢;have hsz:=List.sizeOf_lt_of_mem (List.getElem_mem hlt);have hsl:SizeOf.sizeOf l[k].l<SizeOf.sizeOf l[k]:=by
      cases hx:l[k];rw [Simp.mk.sizeOf_spec];show SizeOf.sizeOf (Simp.l _)<_;simp [Simp.l];omega
     have IH:=ih l[k].l (by omega) (c+1) (by omega);obtain ⟨s1,s2,-⟩:=cnt_spec m hm N l[k].l (by omega) (c+1) (by omega);have fc1:IntKind.i64.wrap ((c:Int)+1)=((c+1:Nat):Int):=up1 (by omega)
     (repeat ((first | with_reducible refine W.step (b:=false) ?_ | skip);simp only [go_sem,↓reduceIte,Nat.reduceAdd,Nat.reduceSub,Nat.reduceMul,Nat.reduceEqDiff,Nat.reduceLeDiff,Nat.reduceLT,Int.reduceLE,Int.reduceLT,Int.reduceToNat,Int.reduceEq,hlt,fc,r1,r2,r3,f1,f2,fc1];try with_reducible refine drawn hmix (by kernel_rfl) ?_))
     refine AtCall.mk IH ?_
     (repeat ((first | with_reducible refine W.step (b:=false) ?_ | skip);simp only [go_sem,↓reduceIte,Nat.reduceAdd,Nat.reduceSub,Nat.reduceMul,Nat.reduceEqDiff,Nat.reduceLeDiff,Nat.reduceLT,Int.reduceLE,Int.reduceLT,Int.reduceToNat,Int.reduceEq];try with_reducible refine drawn hmix (by kernel_rfl) ?_))
     refine ⟨(k+1,cntL m l[k].l (c+1)),_,⟨⟨hlt,by simp only;omega,s2,by rw [←he]⟩,rfl⟩,by show l.length - (k+1)<l.length - k;omega,?_⟩;rw [up1 (by omega)];exact VS.tm (by simp [leL])
    ·have fc:((c:Int)≤(m:Int))=False:=eq_false (by omega)
     rw [if_neg hcm]
     (repeat ((first | with_reducible refine W.step (b:=false) ?_ | skip);simp only [go_sem,↓reduceIte,Nat.reduceAdd,Nat.reduceSub,Nat.reduceMul,Nat.reduceEqDiff,Nat.reduceLeDiff,Nat.reduceLT,Int.reduceLE,Int.reduceLT,Int.reduceToNat,Int.reduceEq,hlt,fc];try with_reducible refine drawn hmix (by kernel_rfl) ?_))
     exact postP_one _ (.inr rfl) rfl (.plain rfl)
   ·rw [List.drop_of_length_le (by omega),cntL_nil]
    (repeat ((first | with_reducible refine W.step (b:=false) ?_ | skip);simp only [go_sem,↓reduceIte,Nat.reduceAdd,Nat.reduceSub,Nat.reduceMul,Nat.reduceEqDiff,Nat.reduceLeDiff,Nat.reduceLT,Int.reduceLE,Int.reduceLT,Int.reduceToNat,Int.reduceEq,hlt];try with_reducible refine drawn hmix (by kernel_rfl) ?_))
    exact postP_one _ (.inr rfl) rfl (.plain rfl)
attribute [go_sem] appL newsA isSlice
def cntP (m:Nat):List Part→Nat→Nat
 | [],n=>n
 | x::xs,n=>if n≤m then cntP m xs (cntL m x.l n) else n
def smC (m:Nat):List Cx→Nat→Bool
 | [],n=>decide (n≤m)
 | c::cs,n=>if n≤m then (if c.pseudo.size≤100 then smC m cs (cntP m c.parts (n+c.parts.length)) else false) else false
theorem cntP_stop (m n:Nat) (l:List Part) (h:¬n≤m):cntP m l n=n:=by
 cases l with
 | nil=>rfl
 | cons x xs=>rw [cntP,if_neg h]
theorem cntP_spec {m:Nat} (hm:m≤1000):∀ (l:List Part) (n:Nat),n≤cntP m l n∧(cntP m l n≤m→n+simps l≤cntP m l n∧∀ x∈l,smS.smL x.l)
 | [],n=>⟨Nat.le_refl _,fun _=>⟨by simp [simps,cntP],fun x hx=>by simp at hx⟩⟩
 | x::xs,n=>by
   rw [cntP]
   by_cases h:n≤m
   ·rw [if_pos h]
    obtain ⟨i1,i2,i3⟩:=cnt_spec m hm _ x.l (Nat.le_refl _) n (by omega);obtain ⟨j1,j2⟩:=cntP_spec hm xs (cntL m x.l n);refine ⟨by omega,fun hc=>?_⟩;obtain ⟨k1,k2⟩:=j2 hc;obtain ⟨k3,k4⟩:=i3 (by omega);refine ⟨by simp only [simps,List.map_cons,List.sum_cons] at k1 ⊢;omega,fun y hy=>?_⟩;rcases List.mem_cons.1 hy with rfl | hy
    ·exact k4
    ·exact k2 y hy
   ·rw [if_neg h]
    exact ⟨Nat.le_refl _,fun h2=>absurd h2 h⟩
def smCx (m:Nat) (c:Cx):Prop:=c.parts.length+simps c.parts≤m∧c.pseudo.size≤100∧∀ x∈c.parts,smS.smL x.l
theorem smC_spec {m:Nat} (hm:m≤1000):∀ (l:List Cx) (n:Nat),smC m l n=true→n≤m∧∀ c∈l,smCx m c
 | [],n,h=>⟨of_decide_eq_true h,fun c hc=>by simp at hc⟩
 | c :: cs,n,h=>by
   rw [smC] at h
   by_cases hn:n≤m
   ·rw [if_pos hn] at h
    by_cases hp:c.pseudo.size≤100
    ·rw [if_pos hp] at h
     obtain ⟨h1,h2⟩:=smC_spec hm cs _ h;obtain ⟨j1,j2⟩:=cntP_spec hm c.parts (n+c.parts.length);obtain ⟨k1,k2⟩:=j2 h1;refine ⟨hn,fun y hy=>?_⟩;rcases List.mem_cons.1 hy with rfl | hy
     ·exact ⟨by omega,hp,k2⟩
     ·exact h2 y hy
    ·rw [if_neg hp] at h;cases h
   ·rw [if_neg hn] at h;cases h
theorem rowCs {l:List Cx} {k:Nat} (hk:k<l.length):(l.flatMap encC)[k*2]?=some (.sl l[k].parts.length 2 (l[k].parts.flatMap encP))∧(l.flatMap encC)[k*2+1]?=some (.g (.string l[k].pseudo)):=by
 have h:=flat_get encC 2 (fun _=>rfl) l k hk;exact ⟨h 0 (by decide),h 1 (by decide)⟩
set_option maxRecDepth 100000 in
set_option maxHeartbeats 4000000 in
theorem small4_p (l:List Cx) (m:Nat) (hm:m≤1000) (hg:∀ c∈l,c.parts.length≤140737488351232):PureN Tryz.prog gt0 54 [.sl l.length 2 (l.flatMap encC),.g (.int .i64 (m:Int))] (.g (.bool (smC m l l.length))):=by
 refine PureN.of_w (c:=_) Tryz.func54 rfl (by kernel_rfl) rfl ?_;simp only [Tryz.f54,List.replicate,List.length_cons,List.length_nil,Nat.reduceAdd,Nat.reduceSub,List.cons_append,List.nil_append];obtain ⟨R,hR⟩:∃ R,smC m l l.length=R:=⟨_,rfl⟩;rw [hR]
 (repeat ((first | with_reducible refine W.step (b:=false) ?_ | skip);simp only [go_sem,↓reduceIte,Nat.reduceAdd,Nat.reduceSub,Nat.reduceMul,Nat.reduceEqDiff,Nat.reduceLeDiff,Nat.reduceLT,Int.reduceLE,Int.reduceLT,Int.reduceToNat,Int.reduceEq];try with_reducible refine drawn hmix (by kernel_rfl) ?_))
 refine W.loop (s1:=stL [(.sl l.length 2 (l.flatMap encC)),(.g (.int .i64 (m:Int))),.any,.any,(.g (.bool false)),(.g (.int .i64 (l.length:Int))),(.g (.int .i64 ((0:Nat):Int))),.any,.any,.any,.any,.any,.any,.any,.any,.any,.any,.any,.any,.any,.any,.any,.any,.any,.any,.any,.any,.any,.any,.any,.any,.any,.any,.any,.any,.any,.any,.any,.any,.any,.any,.any,.any,.any,.any,.any,.any,.any,.any,.any,.any,.any,.any,.any,.any,.any,.any,.any,.any,.any,.any,.any,.any,.any,.any,.any] [] 0)
  (fun (z:Nat×Nat) t=>(z.1≤l.length∧l.length≤z.2∧R=smC m (l.drop z.1) z.2)∧t=stL [(.sl l.length 2 (l.flatMap encC)),(.g (.int .i64 (m:Int))),.any,.any,(.g (.bool false)),(.g (.int .i64 (z.2:Int))),(.g (.int .i64 (z.1:Int))),.any,.any,.any,.any,.any,.any,.any,.any,.any,.any,.any,.any,.any,.any,.any,.any,.any,.any,.any,.any,.any,.any,.any,.any,.any,.any,.any,.any,.any,.any,.any,.any,.any,.any,.any,.any,.any,.any,.any,.any,.any,.any,.any,.any,.any,.any,.any,.any,.any,.any,.any,.any,.any,.any,.any,.any,.any,.any,.any] [] 0) (fun z=>l.length - z.1) (0,l.length) ⟨⟨Nat.zero_le _,Nat.le_refl _,hR.symm⟩,rfl⟩ (VS.tm (by simp [leL])) ?_
 rintro ⟨i,n⟩ t ⟨⟨hi,hln,he⟩,rfl⟩;simp only at hi hln he
 by_cases hlt:i<l.length
 ·rw [List.drop_eq_getElem_cons hlt,smC] at he
  by_cases hnm:n≤m
  ·rw [if_pos hnm] at he
   have fn:((n:Int)≤(m:Int))=True:=eq_true (by omega);obtain ⟨r1,r2⟩:=rowCs hlt;have hgl:=hg _ (List.getElem_mem hlt);have fw:IntKind.i64.wrap ((n:Int)+(l[i].parts.length:Int))=((n+l[i].parts.length:Nat):Int):=by rw [IntWalk.i64_in _ (by omega)];omega
   (repeat ((first | with_reducible refine W.step (b:=false) ?_ | skip);simp only [go_sem,↓reduceIte,Nat.reduceAdd,Nat.reduceSub,Nat.reduceMul,Nat.reduceEqDiff,Nat.reduceLeDiff,Nat.reduceLT,Int.reduceLE,Int.reduceLT,Int.reduceToNat,Int.reduceEq,hlt,fn,r1,fw];try with_reducible refine drawn hmix (by kernel_rfl) ?_))
   refine W.loop (s1:=stL [(.sl l.length 2 (l.flatMap encC)),(.g (.int .i64 (m:Int))),.any,.any,(.g (.bool false)),(.g (.int .i64 ((n+l[i].parts.length:Nat):Int))),(.g (.int .i64 (i:Int))),(.g (.int .i64 ((0:Nat):Int))),.any,.any,.any,.any,.any,.any,.any,.any,.any,.any,.any,.any,.any,.any,.any,.any,.any,.any,.any,.any,.any,.any,.any,.any,.any,.any,.any,.any,.any,.any,.any,.any,.any,.any,.any,.any,.any,.any,.any,.any,.any,.any,.any,.any,.any,.any,.any,.any,.any,.any,.any,.any,.any,.any,.any,.any,.any,.any] [] 0)
    (fun (z:Nat×Nat) t=>(z.1≤l[i].parts.length∧l[i].parts.length≤z.2∧l.length≤z.2∧cntP m l[i].parts (n+l[i].parts.length)=cntP m (l[i].parts.drop z.1) z.2)∧t=stL [(.sl l.length 2 (l.flatMap encC)),(.g (.int .i64 (m:Int))),.any,.any,(.g (.bool false)),(.g (.int .i64 (z.2:Int))),(.g (.int .i64 (i:Int))),(.g (.int .i64 (z.1:Int))),.any,.any,.any,.any,.any,.any,.any,.any,.any,.any,.any,.any,.any,.any,.any,.any,.any,.any,.any,.any,.any,.any,.any,.any,.any,.any,.any,.any,.any,.any,.any,.any,.any,.any,.any,.any,.any,.any,.any,.any,.any,.any,.any,.any,.any,.any,.any,.any,.any,.any,.any,.any,.any,.any,.any,.any,.any,.any] [] 0) (fun z=>l[i].parts.length - z.1) (0,n+l[i].parts.length) ⟨⟨Nat.zero_le _,by simp only;omega,by simp only;omega,rfl⟩,rfl⟩ (VS.tm (by simp [leL])) ?_
   rintro ⟨k,c⟩ t ⟨⟨hk,hpc,hlc,hc⟩,rfl⟩;simp only at hk hpc hlc hc
   by_cases hlk:k<l[i].parts.length
   ·by_cases hcm:c≤m
    ·have fc:((c:Int)≤(m:Int))=True:=eq_true (by omega)
     rw [List.drop_eq_getElem_cons hlk,cntP,if_pos hcm] at hc;obtain ⟨-,q2⟩:=rowPq hlk;obtain ⟨s1,s2,-⟩:=cnt_spec m hm _ l[i].parts[k].l (Nat.le_refl _) c (by omega);have HC:=count_p m hm _ l[i].parts[k].l (Nat.le_refl _) c (by omega)
     (repeat ((first | with_reducible refine W.step (b:=false) ?_ | skip);simp only [go_sem,↓reduceIte,Nat.reduceAdd,Nat.reduceSub,Nat.reduceMul,Nat.reduceEqDiff,Nat.reduceLeDiff,Nat.reduceLT,Int.reduceLE,Int.reduceLT,Int.reduceToNat,Int.reduceEq,hlt,r1,hlk,fc,q2];try with_reducible refine drawn hmix (by kernel_rfl) ?_))
     refine AtCall.mk HC ?_
     (repeat ((first | with_reducible refine W.step (b:=false) ?_ | skip);simp only [go_sem,↓reduceIte,Nat.reduceAdd,Nat.reduceSub,Nat.reduceMul,Nat.reduceEqDiff,Nat.reduceLeDiff,Nat.reduceLT,Int.reduceLE,Int.reduceLT,Int.reduceToNat,Int.reduceEq];try with_reducible refine drawn hmix (by kernel_rfl) ?_))
     refine ⟨(k+1,cntL m l[i].parts[k].l c),_,⟨⟨hlk,by simp only;omega,by simp only;omega,hc⟩,rfl⟩,by show l[i].parts.length - (k+1)<l[i].parts.length - k;omega,?_⟩;rw [up1 (by omega)];exact VS.tm (by simp [leL])
    ·have fc:((c:Int)≤(m:Int))=False:=eq_false (by omega)
     rw [cntP_stop m c _ hcm] at hc;rw [hc] at he
     by_cases hps:l[i].pseudo.size≤100
     ·have fp:((100:Int)<(l[i].pseudo.size:Int))=False:=eq_false (by omega)
      rw [if_pos hps] at he
      (repeat ((first | with_reducible refine W.step (b:=false) ?_ | skip);simp only [go_sem,↓reduceIte,Nat.reduceAdd,Nat.reduceSub,Nat.reduceMul,Nat.reduceEqDiff,Nat.reduceLeDiff,Nat.reduceLT,Int.reduceLE,Int.reduceLT,Int.reduceToNat,Int.reduceEq,hlt,r1,r2,hlk,fc,fp];try with_reducible refine drawn hmix (by kernel_rfl) ?_))
      refine ⟨(i+1,c),_,⟨⟨hlt,hlc,he⟩,rfl⟩,by show l.length - (i+1)<l.length - i;omega,?_⟩;rw [up1 (by omega)];exact VS.tm (by simp [leL])
     ·have fp:((100:Int)<(l[i].pseudo.size:Int))=True:=eq_true (by omega)
      rw [if_neg hps] at he;rw [he]
      (repeat ((first | with_reducible refine W.step (b:=false) ?_ | skip);simp only [go_sem,↓reduceIte,Nat.reduceAdd,Nat.reduceSub,Nat.reduceMul,Nat.reduceEqDiff,Nat.reduceLeDiff,Nat.reduceLT,Int.reduceLE,Int.reduceLT,Int.reduceToNat,Int.reduceEq,hlt,r1,r2,hlk,fc,fp];try with_reducible refine drawn hmix (by kernel_rfl) ?_))
      exact postP_one _ (.inr rfl) rfl (.plain rfl)
   ·rw [List.drop_of_length_le (by omega),cntP] at hc
    rw [hc] at he
    by_cases hps:l[i].pseudo.size≤100
    ·have fp:((100:Int)<(l[i].pseudo.size:Int))=False:=eq_false (by omega)
     rw [if_pos hps] at he
     (repeat ((first | with_reducible refine W.step (b:=false) ?_ | skip);simp only [go_sem,↓reduceIte,Nat.reduceAdd,Nat.reduceSub,Nat.reduceMul,Nat.reduceEqDiff,Nat.reduceLeDiff,Nat.reduceLT,Int.reduceLE,Int.reduceLT,Int.reduceToNat,Int.reduceEq,hlt,r1,r2,hlk,fp];try with_reducible refine drawn hmix (by kernel_rfl) ?_))
     refine ⟨(i+1,c),_,⟨⟨hlt,hlc,he⟩,rfl⟩,by show l.length - (i+1)<l.length - i;omega,?_⟩;rw [up1 (by omega)];exact VS.tm (by simp [leL])
    ·have fp:((100:Int)<(l[i].pseudo.size:Int))=True:=eq_true (by omega)
     rw [if_neg hps] at he;rw [he]
     (repeat ((first | with_reducible refine W.step (b:=false) ?_ | skip);simp only [go_sem,↓reduceIte,Nat.reduceAdd,Nat.reduceSub,Nat.reduceMul,Nat.reduceEqDiff,Nat.reduceLeDiff,Nat.reduceLT,Int.reduceLE,Int.reduceLT,Int.reduceToNat,Int.reduceEq,hlt,r1,r2,hlk,fp];try with_reducible refine drawn hmix (by kernel_rfl) ?_))
     exact postP_one _ (.inr rfl) rfl (.plain rfl)
  ·rw [if_neg hnm] at he
   have fn:((n:Int)≤(m:Int))=False:=eq_false (by omega);rw [he]
   (repeat ((first | with_reducible refine W.step (b:=false) ?_ | skip);simp only [go_sem,↓reduceIte,Nat.reduceAdd,Nat.reduceSub,Nat.reduceMul,Nat.reduceEqDiff,Nat.reduceLeDiff,Nat.reduceLT,Int.reduceLE,Int.reduceLT,Int.reduceToNat,Int.reduceEq,hlt,fn];try with_reducible refine drawn hmix (by kernel_rfl) ?_))
   exact postP_one _ (.inr rfl) rfl (.plain rfl)
 ·rw [List.drop_of_length_le (by omega),smC] at he
  by_cases hnm:n≤m
  ·have fn:((n:Int)≤(m:Int))=True:=eq_true (by omega)
   rw [he,decide_eq_true hnm]
   (repeat ((first | with_reducible refine W.step (b:=false) ?_ | skip);simp only [go_sem,↓reduceIte,Nat.reduceAdd,Nat.reduceSub,Nat.reduceMul,Nat.reduceEqDiff,Nat.reduceLeDiff,Nat.reduceLT,Int.reduceLE,Int.reduceLT,Int.reduceToNat,Int.reduceEq,hlt,fn];try with_reducible refine drawn hmix (by kernel_rfl) ?_))
   exact postP_one _ (.inr rfl) rfl (.plain rfl)
  ·have fn:((n:Int)≤(m:Int))=False:=eq_false (by omega)
   rw [he,decide_eq_false hnm]
   (repeat ((first | with_reducible refine W.step (b:=false) ?_ | skip);simp only [go_sem,↓reduceIte,Nat.reduceAdd,Nat.reduceSub,Nat.reduceMul,Nat.reduceEqDiff,Nat.reduceLeDiff,Nat.reduceLT,Int.reduceLE,Int.reduceLT,Int.reduceToNat,Int.reduceEq,hlt,fn];try with_reducible refine drawn hmix (by kernel_rfl) ?_))
   exact postP_one _ (.inr rfl) rfl (.plain rfl)
attribute [go_sem] appL newsA isSlice
theorem fixed13_p:PureN Tryz.prog gt0 45 [] (.g (.bool true)):=by
 refine PureN.ofC rfl ⟨_,Tryz.func45,rfl,by kernel_rfl⟩ fun w rargs ha=>?_;have hr:rargs.toList=[]:=ha;have hra:rargs=#[]:=Array.toList_inj.1 hr;rw [hra];exact fixed13_any w
theorem ag_w13:aggO Tryz.prog 72=some (true,2):=by kernel_rfl
theorem fl_w130:fldO Tryz.prog 72 0=some (0,69):=by kernel_rfl
theorem fl_w131:fldO Tryz.prog 72 1=some (1,70):=by kernel_rfl
attribute [go_sem] ag_w13 fl_w130 fl_w131
def smallB (p:List Nod) (st:List Stt) (l:List Cx):Bool:=pgSm 40 p&&(fewM st&&smC 40 l l.length)
set_option maxRecDepth 100000 in
set_option maxHeartbeats 4000000 in
theorem small13_p (p:List Nod) (st:List Stt) (l:List Cx) (hg:∀ c∈l,c.parts.length≤140737488351232):PureN Tryz.prog gt0 44 [.agg [.sl p.length 5 (p.flatMap encNd),.sl st.length 2 (st.flatMap encSt)],.sl l.length 2 (l.flatMap encC)] (.g (.bool (smallB p st l))):=by
 have H1:=small10_p p 40 (by decide);have H2:=few_p st;have H3:=small4_p l 40 (by decide) hg;refine PureN.of_w (c:=_) Tryz.func44 rfl (by kernel_rfl) rfl ?_;simp only [Tryz.f44,List.replicate,List.length_cons,List.length_nil,Nat.reduceAdd,Nat.reduceSub,List.cons_append,List.nil_append];unfold smallB
 (repeat ((first | with_reducible refine W.step (b:=false) ?_ | skip);simp only [go_sem,↓reduceIte,Nat.reduceAdd,Nat.reduceSub,Nat.reduceMul,Nat.reduceEqDiff,Nat.reduceLeDiff,Nat.reduceLT,Int.reduceLE,Int.reduceLT,Int.reduceToNat,Int.reduceEq];try with_reducible refine drawn hmix (by kernel_rfl) ?_))
 refine AtCall.mk H1 ?_
 cases pgSm 40 p with
 | false =>
   (repeat ((first | with_reducible refine W.step (b:=false) ?_ | skip);simp only [go_sem,↓reduceIte,Nat.reduceAdd,Nat.reduceSub,Nat.reduceMul,Nat.reduceEqDiff,Nat.reduceLeDiff,Nat.reduceLT,Int.reduceLE,Int.reduceLT,Int.reduceToNat,Int.reduceEq];try with_reducible refine drawn hmix (by kernel_rfl) ?_))
   exact postP_one _ (.inr rfl) rfl (.plain rfl)
 | true =>
   (repeat ((first | with_reducible refine W.step (b:=false) ?_ | skip);simp only [go_sem,↓reduceIte,Nat.reduceAdd,Nat.reduceSub,Nat.reduceMul,Nat.reduceEqDiff,Nat.reduceLeDiff,Nat.reduceLT,Int.reduceLE,Int.reduceLT,Int.reduceToNat,Int.reduceEq];try with_reducible refine drawn hmix (by kernel_rfl) ?_))
   refine AtCall.mk H2 ?_
   cases fewM st with
   | false =>
     (repeat ((first | with_reducible refine W.step (b:=false) ?_ | skip);simp only [go_sem,↓reduceIte,Nat.reduceAdd,Nat.reduceSub,Nat.reduceMul,Nat.reduceEqDiff,Nat.reduceLeDiff,Nat.reduceLT,Int.reduceLE,Int.reduceLT,Int.reduceToNat,Int.reduceEq];try with_reducible refine drawn hmix (by kernel_rfl) ?_))
     exact postP_one _ (.inr rfl) rfl (.plain rfl)
   | true =>
     (repeat ((first | with_reducible refine W.step (b:=false) ?_ | skip);simp only [go_sem,↓reduceIte,Nat.reduceAdd,Nat.reduceSub,Nat.reduceMul,Nat.reduceEqDiff,Nat.reduceLeDiff,Nat.reduceLT,Int.reduceLE,Int.reduceLT,Int.reduceToNat,Int.reduceEq];try with_reducible refine drawn hmix (by kernel_rfl) ?_))
     refine AtCall.mk H3 ?_
     (repeat ((first | with_reducible refine W.step (b:=false) ?_ | skip);simp only [go_sem,↓reduceIte,Nat.reduceAdd,Nat.reduceSub,Nat.reduceMul,Nat.reduceEqDiff,Nat.reduceLeDiff,Nat.reduceLT,Int.reduceLE,Int.reduceLT,Int.reduceToNat,Int.reduceEq];try with_reducible refine drawn hmix (by kernel_rfl) ?_))
     exact postP_one _ (.inr rfl) rfl (.plain rfl)
theorem smL_mem:∀ {l:List Simp},smS.smL l→∀ x∈l,smS x
 | x::xs,h,y,hy=>by
   rcases List.mem_cons.1 hy with rfl | hy
   ·exact h.1
   ·exact smL_mem h.2 y hy
theorem smS_ok (N:Nat):∀ (x:Simp),SizeOf.sizeOf x≤N→smS x→okS x∧x.name.size≤100:=by
 induction N with
 | zero=>intro x hl;cases x;simp at hl
 | succ N ih =>
   rintro ⟨kind,nm,v,a,b,l⟩ hl h;rw [Simp.mk.sizeOf_spec] at hl;obtain ⟨h1,h2,h3⟩:=h;refine ⟨⟨by omega,?_⟩,h1⟩;have key:∀ (l':List Simp),(∀ x∈l',okS x)→okS.okL l':=by
    intro l'
    induction l' with
    | nil=>intro _;trivial
    | cons x xs ihx=>intro h;exact ⟨h x List.mem_cons_self,ihx fun y hy=>h y (List.mem_cons_of_mem _ hy)⟩
   exact key l fun x hx=>(ih x (by have:=List.sizeOf_lt_of_mem hx;omega) (smL_mem h3 x hx)).1
theorem simps_mem {PT:List Part} {pt:Part} (h:pt∈PT):pt.l.length≤simps PT:=by
 unfold simps
 induction PT with
 | nil=>simp at h
 | cons x xs ih =>
   rw [List.map_cons,List.sum_cons];rcases List.mem_cons.1 h with rfl | h
   ·omega
   ·have:=ih h;omega
theorem smCx_ok {c:Cx} (h:smCx 40 c):okQ c:=by
 obtain ⟨h1,-,h3⟩:=h;refine ⟨⟨by omega,fun pt hp=>⟨by have:=simps_mem hp;omega,fun x hx=>(smS_ok _ x (Nat.le_refl _) (smL_mem (h3 pt hp) x hx)).1⟩⟩,by omega,fun pt hp x hx=>?_⟩;have:=(smS_ok _ x (Nat.le_refl _) (smL_mem (h3 pt hp) x hx)).2;omega
theorem small_asked {p:List Nod} {st:List Stt} {l:List Cx} (h:smallB p st l=true):Asked p st l∧p.length≤40∧l.length≤40:=by
 unfold smallB at h;obtain ⟨h1,h2⟩:=Bool.and_eq_true_iff.1 h;obtain ⟨h2,h3⟩:=Bool.and_eq_true_iff.1 h2;obtain ⟨g1,g2⟩:=Bool.and_eq_true_iff.1 h1;obtain ⟨g3,g4⟩:=Bool.and_eq_true_iff.1 h2;have g1:=of_decide_eq_true g1;have g3:=of_decide_eq_true g3;obtain ⟨g5,g6⟩:=smC_spec (by decide) l _ h3;have hnd:∀ x∈p,x.name.size≤100∧x.text.size≤300∧x.attrs.length≤20∧x.kids.length≤40∧∀ a∈x.attrs,a.value.size≤100:=by
  intro x hx;have:=List.all_eq_true.1 g2 x hx;unfold ndSm at this;simp only [Bool.and_eq_true,decide_eq_true_eq,List.all_eq_true] at this;exact ⟨this.1,this.2.1,this.2.2.1,this.2.2.2.1,fun a ha=>(this.2.2.2.2 a ha).2⟩
 refine ⟨⟨⟨by omega,fun x hx=>by have:=(hnd x hx).2.2.2.1;omega,fun x hx=>by have:=(hnd x hx).2.2.1;omega,fun x hx=>by have:=(hnd x hx).1;have:=(hnd x hx).2.1;omega,fun x hx a ha=>by have:=(hnd x hx).2.2.2.2 a ha;omega⟩,
  fun x hx=>⟨by have:=(hnd x hx).1;omega,fun a ha=>by have:=(hnd x hx).2.2.2.2 a ha;omega⟩,by omega,by omega,fun c hc=>smCx_ok (g6 c hc)⟩,g1,g5⟩
attribute [go_sem] appL newsA isSlice
def qM (p:List Nod) (st:List Stt) (n:Int) (c:Cx):Bool:=treeB p&&isM p st c n
theorem ans_idxs (p:List Nod) (st:List Stt) (l:List Cx) (n:Int):ansM p st l n=(idxs (qM p st n) l).map fun i:Nat=>(i:Int):=by
 unfold ansM
 cases h:treeB p&&elemB p n with
 | true =>
   rw [if_pos rfl];have ht:=(Bool.and_eq_true_iff.1 h).1;have:qM p st n=fun c=>isM p st c n:=by funext c;unfold qM;rw [ht,Bool.true_and]
   rw [this]
 | false =>
   rw [if_neg (by decide)];have:qM p st n=fun _=>false:=by
    funext c
    unfold qM isM
    cases ht:treeB p with
    | false=>rfl
    | true =>
      rw [ht,Bool.true_and] at h;rw [h];rfl
   rw [this];unfold idxs;simp
section
variable {rd:List Mem}
theorem match_at {p:List Nod} {st:List Stt} {l:List Cx} (h:Asked p st l) (k:Int) (a:Nat) (m:ML) (n:Nat) (ha:a+1<n) (h0:getL m a=some (.map (encG sealV4 0 (allG l)) (allG l).length)) (h1:getL m (a+1)=some (.cells [.mp a])) :
 CallM Tryz.prog gt0 rd m n 52 [.ptr (a+1) 0,.sl p.length 5 (p.flatMap encNd),.sl st.length 2 (st.flatMap encSt),.g (.int .i64 k)] (.sl (ansM p st l k).length 1 ((ansM p st l k).flatMap encZ)) ((a,.map (encG sealV4 0 (allG l)) (allG l).length)::(a+1,.cells [.mp a])::m.filter fun p=>!(Nat.beq a p.1||Nat.beq (a+1) p.1)) n ∧
 CallD Tryz.prog gt0 rd m n 52 [.ptr (a+1) 0,.sl p.length 5 (p.flatMap encNd),.sl st.length 2 (st.flatMap encSt),.g (.int .i64 k)] [a,a+1] (.sl (ansM p st l k).length 1 ((ansM p st l k).flatMap encZ)) ((a,.map (encG sealV4 0 (allG l)) (allG l).length)::(a+1,.cells [.mp a])::m.filter fun p=>!(Nat.beq a p.1||Nat.beq (a+1) p.1)) n:=by
 have e0:fnm [(0,a),(1,a+1)] 2 n 0=a:=by simp [fnm,lk]
 have e1:fnm [(0,a),(1,a+1)] 2 n 1=a+1:=by simp [fnm,lk]
 have hb:Nat.beq a (a+1)=false:=by rw [←Bool.not_eq_true,Nat.beq_eq];omega
 have x1:ltL 2 [AV.ptr 1 0,.sl p.length 5 (p.flatMap encNd),.sl st.length 2 (st.flatMap encSt),.g (.int .i64 k)]:=by simp [ltL,ltA]
 have x2:inM (fnm [(0,a),(1,a+1)] 2 n) 2 n m (memIx (allG l)):=by
  simp only [inM,e0,e1,reFB,reFE_seal,reFL,reF,ltB,ltL,ltA,h0,h1,and_true];exact ⟨⟨⟨by decide,by omega⟩,by rw [ltE_seal];trivial⟩,⟨by decide,ha⟩,by decide⟩
 have x3:injM (fnm [(0,a),(1,a+1)] 2 n) (memIx (allG l)):=by simp [injM,e0,e1,hb]
 have x4:subM 2 (memIx (allG l)) (memIx (allG l)):=by simp [subM]
 constructor
 ·have:=CallM.at (rd:=rd) (m:=m) (n:=n) (q:=[(0,a),(1,a+1)]) (match_m h k) rfl x1 x2 x3 x4
  simp only [afterL,e0,e1,reFL,reF,reFB,reFE_seal,List.map_cons,List.map_nil,List.any_cons,List.any_nil,Bool.or_false,List.cons_append,List.nil_append,Nat.sub_self,Nat.add_zero] at this;exact this
 ·have:=CallM.atD (rd:=rd) (m:=m) (n:=n) (q:=[(0,a),(1,a+1)]) (match_m h k) rfl x1 x2 x3 x4 (Nat.le_refl _) (fun p hp=>by
   rcases List.mem_cons.1 hp with rfl | hp
   ·exact (by decide:0<2)
   ·rw [List.mem_singleton] at hp;subst hp;exact (by decide:1<2))
  simp only [afterL,e0,e1,reFL,reF,reFB,reFE_seal,List.map_cons,List.map_nil,List.any_cons,List.any_nil,Bool.or_false,List.cons_append,List.nil_append,Nat.sub_self,Nat.add_zero] at this;exact this
end
attribute [go_sem] appL newsA isSlice
end Go.Proofs.YtlnaihkombcbcaaGreat
namespace Go.Proofs.YtlnaihkombcbcaaGreat
open Go.ChangeShapes Go.WideShapes Go.RowKit Go.Ev
theorem c_ints:Tryz.prog.cellsOf 83=1:=by kernel_rfl
theorem c_attrs:Tryz.prog.cellsOf 221=1:=by kernel_rfl
theorem c_attr:Tryz.prog.cellsOf 225=2:=by kernel_rfl
theorem c_node:Tryz.prog.cellsOf 223=5:=by kernel_rfl
theorem c_stt:Tryz.prog.cellsOf 152=2:=by kernel_rfl
theorem c_page:Tryz.prog.cellsOf 69=1:=by kernel_rfl
theorem c_states:Tryz.prog.cellsOf 70=1:=by kernel_rfl
section
variable {H:Type} {enc:TypeId×Value→H} {W:World} {sp:Nat→Bool} {held:Bool}
theorem open_z (fuel:Nat) (cs:List Value) (x:DataW H×List MemPlace) (h:DataW.trod enc Tryz.prog W 0 sp held fuel 3 cs=some x) (_:Fits Tryz.prog 3 x.1):∃ a:Int,Ats W (encZ a) cs∧True:=by
 obtain ⟨k,e0,-⟩:=DataW.trod_int Tryz.underlying3 h;subst e0;exact ⟨k,VRs.cons_mk rfl (by rw [VRs]),trivial⟩
set_option maxRecDepth 100000 in
theorem open_atr (fuel:Nat) (cs:List Value) (x:DataW H×List MemPlace) (h:DataW.trod enc Tryz.prog W 0 sp held fuel 225 cs=some x) (_:Fits Tryz.prog 225 x.1):∃ a:Atr,Ats W (encA a) cs∧True:=by
 obtain ⟨hl,n,rfl,hf⟩:=field_of Tryz.underlying225 h;rw [show Tryz.prog.cellsOf 225=2 by kernel_rfl] at hl;obtain ⟨c0,c1,rfl⟩:∃ c0 c1,cs=[c0,c1]:=by
  match cs,hl with
  | [a,b],_=>exact ⟨a,b,rfl⟩
 obtain ⟨y0,h0,f0⟩:∃ y,DataW.trod enc Tryz.prog W 0 sp held n 9 ((List.drop 0 [c0,c1]).take (Tryz.prog.cellsOf 9))=some y∧(Fits Tryz.prog 225 x.1→Fits Tryz.prog 9 y.1):=hf 0 _ rfl;obtain ⟨y1,h1,f1⟩:∃ y,DataW.trod enc Tryz.prog W 0 sp held n 9 ((List.drop 1 [c0,c1]).take (Tryz.prog.cellsOf 9))=some y∧(Fits Tryz.prog 225 x.1→Fits Tryz.prog 9 y.1):=hf 1 _ rfl;simp only [c_int,c_str,c_ints,c_attrs,c_page,c_states,List.drop,List.take] at h0 h1;obtain ⟨a,e0,-⟩:=DataW.trod_string Tryz.underlying9 h0;obtain ⟨b,e1,-⟩:=DataW.trod_string Tryz.underlying9 h1;simp only [List.cons.injEq,and_true] at e0 e1;subst e0 e1;exact ⟨⟨a,b⟩,VRs.cons_mk rfl (VRs.cons_mk rfl (by rw [VRs])),trivial⟩
set_option maxRecDepth 100000 in
theorem open_stt (fuel:Nat) (cs:List Value) (x:DataW H×List MemPlace) (h:DataW.trod enc Tryz.prog W 0 sp held fuel 152 cs=some x) (_:Fits Tryz.prog 152 x.1):∃ a:Stt,Ats W (encSt a) cs∧True:=by
 obtain ⟨hl,n,rfl,hf⟩:=field_of Tryz.underlying152 h;rw [show Tryz.prog.cellsOf 152=2 by kernel_rfl] at hl;obtain ⟨c0,c1,rfl⟩:∃ c0 c1,cs=[c0,c1]:=by
  match cs,hl with
  | [a,b],_=>exact ⟨a,b,rfl⟩
 obtain ⟨y0,h0,f0⟩:∃ y,DataW.trod enc Tryz.prog W 0 sp held n 3 ((List.drop 0 [c0,c1]).take (Tryz.prog.cellsOf 3))=some y∧(Fits Tryz.prog 152 x.1→Fits Tryz.prog 3 y.1):=hf 0 _ rfl;obtain ⟨y1,h1,f1⟩:∃ y,DataW.trod enc Tryz.prog W 0 sp held n 9 ((List.drop 1 [c0,c1]).take (Tryz.prog.cellsOf 9))=some y∧(Fits Tryz.prog 152 x.1→Fits Tryz.prog 9 y.1):=hf 1 _ rfl;simp only [c_int,c_str,c_ints,c_attrs,c_page,c_states,List.drop,List.take] at h0 h1;obtain ⟨a,e0,-⟩:=DataW.trod_int Tryz.underlying3 h0;obtain ⟨b,e1,-⟩:=DataW.trod_string Tryz.underlying9 h1;simp only [List.cons.injEq,and_true] at e0 e1;subst e0 e1;exact ⟨⟨a,b⟩,VRs.cons_mk rfl (VRs.cons_mk rfl (by rw [VRs])),trivial⟩
set_option maxRecDepth 100000 in
theorem open_nod (fuel:Nat) (cs:List Value) (x:DataW H×List MemPlace) (h:DataW.trod enc Tryz.prog W 0 sp held fuel 223 cs=some x) (hfit:Fits Tryz.prog 223 x.1):∃ a:Nod,Ats W (encNd a) cs∧True:=by
 obtain ⟨hl,n,rfl,hf⟩:=field_of Tryz.underlying223 h;rw [show Tryz.prog.cellsOf 223=5 by kernel_rfl] at hl;obtain ⟨c0,c1,c2,c3,c4,rfl⟩:∃ c0 c1 c2 c3 c4,cs=[c0,c1,c2,c3,c4]:=by
  match cs,hl with
  | [a,b,c,d,e],_=>exact ⟨a,b,c,d,e,rfl⟩
 obtain ⟨y0,h0,f0⟩:∃ y,DataW.trod enc Tryz.prog W 0 sp held n 9 ((List.drop 0 [c0,c1,c2,c3,c4]).take (Tryz.prog.cellsOf 9))=some y∧(Fits Tryz.prog 223 x.1→Fits Tryz.prog 9 y.1):=hf 0 _ rfl;obtain ⟨y1,h1,f1⟩:∃ y,DataW.trod enc Tryz.prog W 0 sp held n 221 ((List.drop 1 [c0,c1,c2,c3,c4]).take (Tryz.prog.cellsOf 221))=some y∧(Fits Tryz.prog 223 x.1→Fits Tryz.prog 221 y.1):=hf 1 _ rfl;obtain ⟨y2,h2,f2⟩:∃ y,DataW.trod enc Tryz.prog W 0 sp held n 9 ((List.drop 2 [c0,c1,c2,c3,c4]).take (Tryz.prog.cellsOf 9))=some y∧(Fits Tryz.prog 223 x.1→Fits Tryz.prog 9 y.1):=hf 2 _ rfl;obtain ⟨y3,h3,f3⟩:∃ y,DataW.trod enc Tryz.prog W 0 sp held n 3 ((List.drop 3 [c0,c1,c2,c3,c4]).take (Tryz.prog.cellsOf 3))=some y∧(Fits Tryz.prog 223 x.1→Fits Tryz.prog 3 y.1):=hf 3 _ rfl;obtain ⟨y4,h4,f4⟩:∃ y,DataW.trod enc Tryz.prog W 0 sp held n 83 ((List.drop 4 [c0,c1,c2,c3,c4]).take (Tryz.prog.cellsOf 83))=some y∧(Fits Tryz.prog 223 x.1→Fits Tryz.prog 83 y.1):=hf 4 _ rfl;simp only [c_int,c_str,c_ints,c_attrs,c_page,c_states,List.drop,List.take] at h0 h1 h2 h3 h4;obtain ⟨nm,e0,-⟩:=DataW.trod_string Tryz.underlying9 h0;obtain ⟨l,v,e1,hv,-,-⟩:=open_sl (fun _=>True) encA 2 (fun _=>rfl) (by decide) Tryz.underlying221 c_attr (fun m _=>open_atr m) h1 (f1 hfit);obtain ⟨tx,e2,-⟩:=DataW.trod_string Tryz.underlying9 h2;obtain ⟨u,e3,-⟩:=DataW.trod_int Tryz.underlying3 h3;obtain ⟨ks,w,e4,hw,-,-⟩:=open_sl (fun _=>True) encZ 1 (fun _=>rfl) (by decide) Tryz.underlying83 c_int (fun m _=>open_z m) h4 (f4 hfit);simp only [List.cons.injEq,and_true] at e0 e1 e2 e3 e4;subst e0 e1 e2 e3 e4;exact ⟨⟨nm,l,tx,u,ks⟩,VRs.cons_mk rfl (VRs.cons_mk hv (VRs.cons_mk rfl (VRs.cons_mk rfl (VRs.cons_mk hw (by rw [VRs]))))),trivial⟩
set_option maxRecDepth 1000000 in
theorem open_world {base:Nat} {v:Value} {d:DataW H} {ps:List MemPlace} (hval:Value.okWide Tryz.prog W .any base 72 v) (h:DataW.Trod enc Tryz.prog W 0 sp held 72 v d ps) (hfit:Fits Tryz.prog 72 d) :
 ∃ (p:List Nod) (st:List Stt),At W (.agg [.sl p.length 5 (p.flatMap encNd),.sl st.length 2 (st.flatMap encSt)]) v:=by
 obtain ⟨fuel,hv⟩:=h;obtain ⟨cells,rfl,-⟩:=okWide_struct Tryz.underlying72 hval;obtain ⟨x,hx⟩:∃ x,x=(d,ps):=⟨_,rfl⟩;have hfit:Fits Tryz.prog 72 x.1:=by rw [hx];exact hfit
 rw [←hx] at hv;obtain ⟨cs,hcs⟩:∃ cs,(Value.agg cells).cells.toList=cs:=⟨_,rfl⟩;have h:DataW.trod enc Tryz.prog W 0 sp held fuel 72 cs=some x:=by rw [←hcs];exact hv
 clear hx;obtain ⟨hl,n,rfl,hf⟩:=field_of Tryz.underlying72 h;rw [show Tryz.prog.cellsOf 72=2 by kernel_rfl] at hl;obtain ⟨c0,c1,rfl⟩:∃ c0 c1,cs=[c0,c1]:=by
  match cs,hl with
  | [a,b],_=>exact ⟨a,b,rfl⟩
 obtain ⟨y0,h0,f0⟩:∃ y,DataW.trod enc Tryz.prog W 0 sp held n 69 ((List.drop 0 [c0,c1]).take (Tryz.prog.cellsOf 69))=some y∧(Fits Tryz.prog 72 x.1→Fits Tryz.prog 69 y.1):=hf 0 _ rfl;obtain ⟨y1,h1,f1⟩:∃ y,DataW.trod enc Tryz.prog W 0 sp held n 70 ((List.drop 1 [c0,c1]).take (Tryz.prog.cellsOf 70))=some y∧(Fits Tryz.prog 72 x.1→Fits Tryz.prog 70 y.1):=hf 1 _ rfl;simp only [c_int,c_str,c_ints,c_attrs,c_page,c_states,List.drop,List.take] at h0 h1;obtain ⟨p,v0,e0,hv0,-,-⟩:=open_sl (fun _=>True) encNd 5 (fun _=>rfl) (by decide) Tryz.underlying69 c_node (fun m _=>open_nod m) h0 (f0 hfit);obtain ⟨st,v1,e1,hv1,-,-⟩:=open_sl (fun _=>True) encSt 2 (fun _=>rfl) (by decide) Tryz.underlying70 c_stt (fun m _=>open_stt m) h1 (f1 hfit);simp only [List.cons.injEq,and_true] at e0 e1;subst e0 e1;refine ⟨p,st,cells,rfl,?_⟩;have hc:cells.toList=[c0,c1]:=by simpa [Value.cells] using hcs
 rw [hc];exact VRs.cons_mk hv0 (VRs.cons_mk hv1 (by rw [VRs]))
end
end Go.Proofs.YtlnaihkombcbcaaGreat
namespace Go.Proofs.YtlnaihkombcbcaaGreat
open Go.RowKit Go.Ev
def standsR (p:List Nod) (n m:Nat) (comb:Int):Bool :=
 if comb=1 then decide (m∈aboveM p n) else
 if comb=2 then decide ((ndAt p n).up=(m:Int)) else
 if comb=3 then decide ((ndAt p n).up=(ndAt p m).up)&&decide (placeM p m=placeM p n - 1) else
 if comb=4 then decide ((ndAt p n).up=(ndAt p m).up)&&decide (placeM p m<placeM p n) else false
theorem elem_pos {p:List Nod} {n:Nat} (hT:TreeP p) (he:elemB p n=true):0<n∧n<p.length:=⟨(kin_self hT he).2,(elem_at.1 he).1⟩
theorem kin_eq {p:List Nod} {n:Nat} (hT:TreeP p) (he:elemB p n=true):∃ u:Nat,(ndAt p n).up=(u:Int)∧kinM p n=(kidsR p p.length u).filter (elemB p):=by
 obtain ⟨h0,h⟩:=elem_pos hT he;obtain ⟨u1,u2⟩:=hT.up n h0 h;obtain ⟨u,hu⟩:∃ u:Nat,(ndAt p n).up=u:=⟨(ndAt p n).up.toNat,by omega⟩;refine ⟨u,hu,?_⟩;unfold kinM;rw [if_pos ⟨he,u1,by omega⟩,hu,hT.kids u (by omega)]
theorem kidsR_nodup (p:List Nod) (k j:Nat):(kidsR p k j).Nodup:=by
 unfold kidsR;exact List.Pairwise.map _ (fun a b hne e=>hne (by omega)) (List.Pairwise.filter _ List.nodup_range)
theorem kin_nodup {p:List Nod} {n:Nat} (hT:TreeP p) (he:elemB p n=true):(kinM p n).Nodup:=by
 obtain ⟨u,-,h⟩:=kin_eq hT he;rw [h];exact List.Pairwise.filter _ (kidsR_nodup _ _ _)
theorem kin_iff {p:List Nod} {n m:Nat} (hT:TreeP p) (hn:elemB p n=true) (hm:elemB p m=true):(m:Int)∈kinM p n↔(ndAt p n).up=(ndAt p m).up:=by
 obtain ⟨u,hu,h⟩:=kin_eq hT hn;obtain ⟨m0,m1⟩:=elem_pos hT hm;rw [h,hu,List.mem_filter];unfold kidsR;rw [List.mem_map]
 constructor
 ·rintro ⟨⟨i,hi,e⟩,-⟩
  obtain rfl:i=m:=by omega
  exact (of_decide_eq_true (List.mem_filter.1 hi).2).2.symm
 ·intro e
  exact ⟨⟨m,List.mem_filter.2 ⟨List.mem_range.2 m1,decide_eq_true ⟨m0,e.symm⟩⟩,rfl⟩,hm⟩
theorem kin_same {p:List Nod} {n m:Nat} (hT:TreeP p) (hn:elemB p n=true) (hm:elemB p m=true) (e:(ndAt p n).up=(ndAt p m).up):kinM p n=kinM p m:=by
 obtain ⟨u,hu,h⟩:=kin_eq hT hn;obtain ⟨v,hv,k⟩:=kin_eq hT hm;obtain rfl:u=v:=by omega
 rw [h,k]
theorem idx_nodup {l:List Int} (hl:l.Nodup) {j:Nat} (hj:j<l.length):idxL (fun k=>decide (k=l[j])) l=(j:Int):=by
 refine idxL_hit hj (fun x hx=>?_) (decide_eq_true rfl);obtain ⟨i,hi,e⟩:=List.getElem_of_mem hx;rw [List.length_take] at hi;rw [List.getElem_take] at e;subst e;refine decide_eq_false fun e=>?_;have:=(List.getElem_inj hl).1 e;omega
theorem stands_rel {p:List Nod} {n m:Nat} (comb:Int) (hT:TreeP p) (hn:elemB p n=true) (hm:elemB p m=true):standsR p n m comb=decide ((m:Int)∈relatedM p n comb):=by
 obtain ⟨n0,n1⟩:=elem_pos hT hn;obtain ⟨m0,m1⟩:=elem_pos hT hm;obtain ⟨u1,u2⟩:=hT.up n n0 n1;have hin:=(kin_self hT hn).1;have hnd:=kin_nodup hT hn;obtain ⟨i,hi,ei⟩:=List.getElem_of_mem hin;have hidx:idxL (fun k=>decide (k=(n:Int))) (kinM p n)=(i:Int):=by
  have:=idx_nodup hnd hi
  rwa [ei] at this
 have hpl:placeM p n=1+(i:Int):=by unfold placeM;rw [hidx]
 have hah:aheadM p n=(kinM p n).take i:=ahead_cut hi hidx;have hmem:∀ j:Nat,(hj:j<(kinM p n).length)→(kinM p n)[j]=(m:Int)→(ndAt p n).up=(ndAt p m).up∧placeM p m=1+(j:Int):=fun j hj e=>by
  have hup:=(kin_iff hT hn hm).1 (e▸List.getElem_mem hj);refine ⟨hup,?_⟩;unfold placeM;rw [←kin_same hT hn hm hup];have:=idx_nodup hnd hj;rw [e] at this;rw [this]
 unfold standsR relatedM
 by_cases c1:comb=1
 ·rw [if_pos c1,if_pos c1]
  refine decide_eq_decide.2 ⟨fun h=>List.mem_map.2 ⟨m,h,rfl⟩,fun h=>?_⟩;obtain ⟨k,hk,e⟩:=List.mem_map.1 h;obtain rfl:k=m:=by omega
  exact hk
 rw [if_neg c1,if_neg c1]
 by_cases c2:comb=2
 ·rw [if_pos c2,if_pos c2,above_step]
  refine decide_eq_decide.2 ?_
  by_cases hu:0<(ndAt p n).up
  ·rw [if_pos ⟨hu,u2⟩]
   simp only [List.take_succ_cons,List.take_zero,List.map_cons,List.map_nil,List.mem_singleton];omega
  ·rw [if_neg (by omega)]
   simp only [List.take_nil,List.map_nil,List.not_mem_nil,iff_false];omega
 rw [if_neg c2,if_neg c2]
 by_cases c3:comb=3
 ·rw [if_pos c3,if_pos c3,hah,←Bool.decide_and]
  have hl:((kinM p n).take i).length=i:=by rw [List.length_take];omega
  rw [hl];refine decide_eq_decide.2 ⟨fun ⟨h1,h2⟩=>?_,fun h=>?_⟩
  ·obtain ⟨j,hj,ej⟩:=List.getElem_of_mem ((kin_iff hT hn hm).2 h1)
   have:=(hmem j hj ej).2;rw [List.mem_iff_getElem];refine ⟨0,by rw [List.length_drop,hl];omega,?_⟩;rw [List.getElem_drop,List.getElem_take];have e0:i - 1+0=j:=by omega
   simp only [e0];exact ej
  ·obtain ⟨k,hk,ek⟩:=List.getElem_of_mem h
   rw [List.length_drop,hl] at hk;rw [List.getElem_drop,List.getElem_take] at ek;have:=hmem _ (by omega) ek;exact ⟨this.1,by omega⟩
 rw [if_neg c3,if_neg c3]
 by_cases c4:comb=4
 ·rw [if_pos c4,if_pos c4,hah,←Bool.decide_and]
  refine decide_eq_decide.2 ⟨fun ⟨h1,h2⟩=>?_,fun h=>?_⟩
  ·obtain ⟨j,hj,ej⟩:=List.getElem_of_mem ((kin_iff hT hn hm).2 h1)
   have:=(hmem j hj ej).2;rw [List.mem_take_iff_getElem];exact ⟨j,by omega,ej⟩
  ·obtain ⟨k,hk,ek⟩:=List.mem_take_iff_getElem.1 h
   have:=hmem _ (by omega) ek;exact ⟨this.1,by omega⟩
 ·rw [if_neg c4,if_neg c4]
  simp
theorem fitsS_elem {p:List Nod} {st:List Stt} {l:List Part} {n:Nat} (h:fitsS p st l n=true):elemB p n=true:=by
 cases l with
 | nil=>simp [fitsS] at h
 | cons x l=>exact (fits_head h).1
def someR (p:List Nod) (f:Nat→Bool) (n:Nat) (comb:Int):Bool:=(List.range p.length).any fun m=>decide (0<m)&&(f m&&standsR p n m comb)
theorem some_rel {p:List Nod} {st:List Stt} {l:List Part} {n:Nat} {comb:Int} (hT:TreeP p) (hn:elemB p n=true):someR p (fitsS p st l) n comb=(relatedM p n comb).any fun k=>fitsS p st l k.toNat:=by
 unfold someR;rw [Bool.eq_iff_iff,List.any_eq_true,List.any_eq_true]
 constructor
 ·rintro ⟨m,hm,h⟩
  obtain ⟨-,h2⟩:=Bool.and_eq_true_iff.1 h;obtain ⟨h3,h4⟩:=Bool.and_eq_true_iff.1 h2;rw [stands_rel comb hT hn (fitsS_elem h3)] at h4;exact ⟨m,of_decide_eq_true h4,h3⟩
 ·rintro ⟨k,hk,h⟩
  obtain ⟨m,rfl,hm⟩:=related_nat (elem_pos hT hn).2 hk;rw [Int.toNat_natCast] at h;refine ⟨m,List.mem_range.2 hm,?_⟩;rw [decide_eq_true (elem_pos hT (fitsS_elem h)).1,h,stands_rel comb hT hn (fitsS_elem h),decide_eq_true hk]
  rfl
theorem row_step {p:List Nod} {st:List Stt} {PT:List Part} {k n:Nat} (hT:TreeP p) (hk:k<PT.length) :
 fitsS p st (PT.take (k+1)).reverse n=(elemB p n&&(PT[k].l.all (holdsS p st n)&&(decide (k=0)||someR p (fitsS p st (PT.take k).reverse) n PT[k].comb))):=by
 rw [List.take_succ_eq_append_getElem hk,List.reverse_append];show fitsS p st (PT[k]::(PT.take k).reverse) n=_
 by_cases he:elemB p n=true
 ·cases hr:(PT.take k).reverse with
  | nil =>
    have h0:k=0:=by
     have:=congrArg List.length hr;rw [List.length_reverse,List.length_take,List.length_nil] at this;omega
    rw [fitsS,decide_eq_true h0,Bool.true_or,Bool.and_true]
  | cons y l =>
    have h0:k≠0:=by
     intro h0;rw [h0] at hr;simp at hr
    rw [fitsS,decide_eq_false h0,Bool.false_or,some_rel hT he,Bool.and_assoc]
 ·rw [Bool.not_eq_true] at he
  cases hr:(PT.take k).reverse with
  | nil=>rw [fitsS,he];rfl
  | cons y l=>rw [fitsS,he];rfl
theorem isM_row {p:List Nod} {st:List Stt} {c:Cx} (n:Nat):isM p st c n=fitsS p st c.parts.reverse n:=by
 unfold isM;rw [Int.toNat_natCast]
 cases h:fitsS p st c.parts.reverse n with
 | false=>rw [Bool.and_false]
 | true=>rw [fitsS_elem h];rfl
theorem isM_in {p:List Nod} {st:List Stt} {c:Cx} {n:Int} (h:isM p st c n=true):∃ k:Nat,n=(k:Int)∧k<p.length:=by
 unfold isM at h;obtain ⟨k,h1,h2,-⟩:=at_nat (Bool.and_eq_true_iff.1 h).1;exact ⟨k,h1,h2⟩
def allR (p:List Nod) (st:List Stt) (c:Cx):List Int:=((List.range p.length).filter fun n:Nat=>treeB p&&isM p st c (n:Int)).map fun n:Nat=>(n:Int)
theorem mem_allR {p:List Nod} {st:List Stt} {c:Cx} {n:Int}:n∈allR p st c↔(treeB p&&isM p st c n)=true:=by
 unfold allR;rw [List.mem_map]
 constructor
 ·rintro ⟨k,hk,rfl⟩
  exact (List.mem_filter.1 hk).2
 ·intro h
  obtain ⟨k,rfl,hk⟩:=isM_in (Bool.and_eq_true_iff.1 h).2;exact ⟨k,List.mem_filter.2 ⟨List.mem_range.2 hk,h⟩,rfl⟩
theorem nth_ref {a b i:Int} (ha:bigN a=false) (hb:bigN b=false) (hi:bigN i=false) :
 nthM a b i=if a=0∨i=b then decide (i=b) else if a<0 then decide (i<b)&&decide (Int.tmod (b - i) (-a)=0) else decide (b<i)&&decide (Int.tmod (i - b) a=0):=by
 unfold nthM;rw [ha,hb,hi,Bool.not_false,Bool.true_and,Bool.true_and,Bool.true_and]
 by_cases h0:a=0
 ·rw [if_pos h0,if_pos (.inl h0)]
 rw [if_neg h0]
 by_cases he:i=b
 ·subst he
  rw [if_pos (.inr rfl),Int.sub_self];simp
 rw [if_neg (by omega)];have key:∀ x y:Int,y≠0→Int.tmod x y=0→(0≤Int.tdiv x y↔0≤x*y):=fun x y hy hm=>by
  have e:=Int.mul_tdiv_add_tmod x y;rw [hm,Int.add_zero] at e;generalize Int.tdiv x y=q at e ⊢;rw [←e];have hsq:0<y*y:=by
   rcases Int.lt_or_gt_of_ne hy with h | h
   ·exact Int.mul_pos_of_neg_of_neg h h
   ·exact Int.mul_pos h h
  constructor
  ·intro hq
   have:=Int.mul_nonneg (Int.le_of_lt hsq) hq
   rwa [Int.mul_right_comm] at this
  ·intro h
   rw [Int.mul_right_comm] at h;exact Int.nonneg_of_mul_nonneg_right h hsq
 by_cases hn:a<0
 ·rw [if_pos hn]
  have hm:Int.tmod (i - b) a=0↔Int.tmod (b - i) (-a)=0:=by
   rw [Int.tmod_neg,show b - i=-(i - b) by omega,Int.neg_tmod,Int.neg_eq_zero]
  by_cases h:Int.tmod (i - b) a=0
  ·have h2:=hm.1 h
   rw [decide_eq_true h,decide_eq_true h2,Bool.true_and,Bool.and_true];refine decide_eq_decide.2 ((key _ _ h0 h).trans ⟨fun h3=>?_,fun h3=>?_⟩)
   ·rcases Int.lt_or_gt_of_ne he with h4 | h4
    ·exact h4
    ·have:=Int.mul_neg_of_pos_of_neg (show 0<i - b by omega) hn
     omega
   ·exact Int.le_of_lt (Int.mul_pos_of_neg_of_neg (by omega) hn)
  ·rw [decide_eq_false h,decide_eq_false (fun h2=>h (hm.2 h2)),Bool.false_and,Bool.and_false]
 ·rw [if_neg hn]
  by_cases h:Int.tmod (i - b) a=0
  ·rw [decide_eq_true h,Bool.true_and,Bool.and_true]
   refine decide_eq_decide.2 ((key _ _ h0 h).trans ⟨fun h3=>?_,fun h3=>?_⟩)
   ·rcases Int.lt_or_gt_of_ne he with h4 | h4
    ·have:=Int.mul_neg_of_neg_of_pos (show i - b<0 by omega) (show 0<a by omega)
     omega
    ·exact h4
   ·exact Int.le_of_lt (Int.mul_pos (by omega) (by omega))
  ·rw [decide_eq_false h,Bool.false_and,Bool.and_false]
end Go.Proofs.YtlnaihkombcbcaaGreat
end
