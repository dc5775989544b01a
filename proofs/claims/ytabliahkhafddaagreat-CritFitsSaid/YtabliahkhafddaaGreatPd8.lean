/- maybe: what may change, what holds, how simple selectors may fit: by walks over shapes. -/
import Derived.Test.YtabliahkhafddaaGreatPd7
import Derived.Test.YtabliahkhafddaaGreatPd2
import Derived.Test.YtabliahkhafddaaGreatPd6
set_option linter.unusedSimpArgs false
noncomputable section
namespace Go.Proofs.YtabliahkhafddaaGreat
open Go.RowKit Go.Ev
open Go.Ev.AV renaming any→aN
attribute [local go_sem] eq_self false_and and_false Bool.false_eq_true List.set_cons_succ List.set_cons_zero List.getD_cons_succ List.getD_cons_zero List.getElem?_cons_succ List.getElem?_cons_zero true_and and_true and_self Bool.not_true Bool.not_false Nat.add_zero Nat.zero_add Nat.mul_one Int.toNat_natCast Int.natCast_nonneg Int.ofNat_lt Option.bind_some Option.map_some List.map_cons List.map_nil decide_true decide_false BEq.rfl Bool.and_self Bool.and_true Bool.and_false beq_self_eq_true List.cons_append List.nil_append List.take_zero List.take_succ_cons List.take_nil List.drop_succ_cons List.drop_zero List.drop_nil List.append_nil List.length_cons List.length_nil List.all_cons List.all_nil Nat.le_refl Int.le_refl Option.map_none List.replicate_zero List.replicate_succ Nat.zero_mul Nat.sub_zero Nat.zero_le Nat.le_zero_eq Q2f Option.some_or Option.none_or Option.or_none Option.isSome_some Option.isSome_none Option.getD_some Option.getD_none Int.toNat_zero Int.natCast_zero Int.natCast_one Int.cast_ofNat_Int List.toList_toArray
attribute [go_sem] appL newsA isSlice
set_option maxRecDepth 100000 in
set_option maxHeartbeats 4000000 in
theorem ints_p (xs ys:List Int) (hx:xs.length≤1000000):PureN Tryz.prog gt0 42 [.sl xs.length 1 (xs.flatMap encZ),.sl ys.length 1 (ys.flatMap encZ)] (.g (.bool (decide (xs=ys)))):=by
 refine PureN.of_w (c:=_) Tryz.func42 rfl (by kernel_rfl) rfl ?_;simp only [Tryz.f42,List.replicate,List.length_cons,List.length_nil,Nat.reduceAdd,Nat.reduceSub,List.cons_append,List.nil_append]
 by_cases hl:xs.length=ys.length
 ·have fl:((xs.length:Int)=(ys.length:Int))=True:=eq_true (by omega)
  (repeat ((try with_reducible refine W.step (b:=false) ?_);simp (decide:=true) only [go_sem,↓reduceIte,Nat.reduceAdd,Nat.reduceSub,fl];try with_reducible refine drawn hmix (by kernel_rfl) ?_))
  refine W.loop (s1:=stL [(.sl xs.length 1 (xs.flatMap encZ)),(.sl ys.length 1 (ys.flatMap encZ)),aN,aN,(.g (.bool false)),(.g (.int .i64 ((0:Nat):Int))),aN,aN,aN,aN,aN,aN,aN,aN,aN,aN,aN,aN,aN,aN,aN,aN,aN,aN,aN,aN] [] 0)
   (fun (k:Nat) t=>k≤xs.length∧xs.take k=ys.take k∧t=stL [(.sl xs.length 1 (xs.flatMap encZ)),(.sl ys.length 1 (ys.flatMap encZ)),aN,aN,(.g (.bool false)),(.g (.int .i64 (k:Int))),aN,aN,aN,aN,aN,aN,aN,aN,aN,aN,aN,aN,aN,aN,aN,aN,aN,aN,aN,aN] [] 0) (fun k=>xs.length - k) 0 ⟨Nat.zero_le _,by simp,rfl⟩ (VS.tm (by simp [leL])) ?_
  rintro k t ⟨hk,hq,rfl⟩
  by_cases hlt:k<xs.length
  ·have hlt2:k<ys.length:=by omega
   have r1:=rowZ hlt;have r2:=rowZ hlt2
   by_cases he:xs[k]=ys[k]
   ·have fe:=eq_true he
    (repeat ((try with_reducible refine W.step (b:=false) ?_);simp (decide:=true) only [go_sem,↓reduceIte,Nat.reduceAdd,Nat.reduceSub,hlt,hlt2,r1,r2,fe];try with_reducible refine drawn hmix (by kernel_rfl) ?_))
    refine ⟨k+1,_,⟨by omega,by rw [List.take_succ_eq_append_getElem hlt,List.take_succ_eq_append_getElem hlt2,hq,he],rfl⟩,by show xs.length - (k+1)<xs.length - k;omega,VS.tm ?_⟩;rw [up1 (by omega)];simp [leL]
   ·have fe:=eq_false he
    have hne:decide (xs=ys)=false:=decide_eq_false (fun e=>he (by subst e;rfl));rw [hne]
    (repeat ((try with_reducible refine W.step (b:=false) ?_);simp (decide:=true) only [go_sem,↓reduceIte,Nat.reduceAdd,Nat.reduceSub,hlt,hlt2,r1,r2,fe];try with_reducible refine drawn hmix (by kernel_rfl) ?_))
    exact Q0a _ (.inr rfl) rfl (.plain rfl)
  ·have heq:decide (xs=ys)=true:=decide_eq_true (by rw [List.take_of_length_le (by omega),List.take_of_length_le (by omega)] at hq;exact hq)
   rw [heq]
   (repeat ((try with_reducible refine W.step (b:=false) ?_);simp (decide:=true) only [go_sem,↓reduceIte,Nat.reduceAdd,Nat.reduceSub,hlt];try with_reducible refine drawn hmix (by kernel_rfl) ?_))
   exact Q0a _ (.inr rfl) rfl (.plain rfl)
 ·have hne:decide (xs=ys)=false:=decide_eq_false (fun e=>hl (by rw [e]))
  have fl:((xs.length:Int)=(ys.length:Int))=False:=eq_false (by omega);rw [hne]
  (repeat ((try with_reducible refine W.step (b:=false) ?_);simp (decide:=true) only [go_sem,↓reduceIte,Nat.reduceAdd,Nat.reduceSub,fl];try with_reducible refine drawn hmix (by kernel_rfl) ?_))
  exact Q0a _ (.inr rfl) rfl (.plain rfl)
def fewM (st:List Stt):Bool:=decide (st.length≤30)&&st.all fun x=>decide (x.name.size≤100)
theorem rowSt1 {l:List Stt} {k:Nat} (hk:k<l.length):(l.flatMap encSt)[k*2+1]?=some (.g (.string l[k].name)) :=
 flat_get encSt 2 (fun _=>rfl) l k hk 1 (by decide)
theorem fl_st1:fldO Tryz.prog 108 1=some (1,9):=by kernel_rfl
attribute [go_sem] fl_st1
set_option maxRecDepth 100000 in
set_option maxHeartbeats 4000000 in
theorem few_p (st:List Stt):PureN Tryz.prog gt0 18 [.sl st.length 2 (st.flatMap encSt)] (.g (.bool (fewM st))):=by
 refine PureN.of_w (c:=_) Tryz.func18 rfl (by kernel_rfl) rfl ?_;simp only [Tryz.f18,List.replicate,List.length_cons,List.length_nil,Nat.reduceAdd,Nat.reduceSub,List.cons_append,List.nil_append];unfold fewM
 (repeat ((try with_reducible refine W.step (b:=false) ?_);simp (decide:=true) only [go_sem,↓reduceIte,Nat.reduceAdd,Nat.reduceSub]))
 refine W.loop (s1:=stL [(.sl st.length 2 (st.flatMap encSt)),aN,(.g (.bool false)),(.g (.int .i64 ((0:Nat):Int))),aN,aN,aN,aN,aN,aN,aN,aN,aN,aN,aN,aN,aN,aN,aN,aN,aN,aN,aN,aN,aN] [] 0)
  (fun (k:Nat) t=>(k≤st.length∧∀ y∈st.take k,decide (y.name.size≤100)=true)∧t=stL [(.sl st.length 2 (st.flatMap encSt)),aN,(.g (.bool false)),(.g (.int .i64 (k:Int))),aN,aN,aN,aN,aN,aN,aN,aN,aN,aN,aN,aN,aN,aN,aN,aN,aN,aN,aN,aN,aN] [] 0) (fun k=>st.length - k) 0 ⟨⟨Nat.zero_le _,by simp⟩,rfl⟩ (VS.tm (by simp [leL])) ?_
 rintro k t ⟨⟨hk,hq⟩,rfl⟩
 by_cases hlt:k<st.length
 ·have r:=rowSt1 hlt
  by_cases h30:st.length≤30
  ·have f30:((st.length:Int)≤30)=True:=eq_true (by omega)
   by_cases hs:st[k].name.size≤100
   ·have fs:((100:Int)<(st[k].name.size:Int))=False:=eq_false (by omega)
    (repeat ((try with_reducible refine W.step (b:=false) ?_);simp (decide:=true) only [go_sem,↓reduceIte,Nat.reduceAdd,Nat.reduceSub,hlt,f30,r,fs]))
    refine ⟨k+1,_,⟨⟨hlt,fun y hy=>?_⟩,rfl⟩,by show st.length - (k+1)<st.length - k;omega,?_⟩
    ·rw [List.take_succ_eq_append_getElem hlt,List.mem_append] at hy
     rcases hy with hy | hy
     ·exact hq y hy
     ·simp at hy;subst hy;exact decide_eq_true hs
    ·rw [up1 (by omega)]
     exact VS.tm (by simp [leL])
   ·have fs:((100:Int)<(st[k].name.size:Int))=True:=eq_true (by omega)
    have hf:(st.all fun x=>decide (x.name.size≤100))=false:=List.all_eq_false.2 ⟨_,List.getElem_mem hlt,by simpa using hs⟩;rw [hf,Bool.and_false]
    (repeat ((try with_reducible refine W.step (b:=false) ?_);simp (decide:=true) only [go_sem,↓reduceIte,Nat.reduceAdd,Nat.reduceSub,hlt,f30,r,fs]))
    exact Q0a _ (.inr rfl) rfl (.plain rfl)
  ·have f30:((st.length:Int)≤30)=False:=eq_false (by omega)
   rw [decide_eq_false h30,Bool.false_and]
   (repeat ((try with_reducible refine W.step (b:=false) ?_);simp (decide:=true) only [go_sem,↓reduceIte,Nat.reduceAdd,Nat.reduceSub,hlt,f30]))
   exact Q0a _ (.inr rfl) rfl (.plain rfl)
 ·rw [List.take_of_length_le (by omega)] at hq
  rw [List.all_eq_true.2 hq,Bool.and_true]
  by_cases h30:st.length≤30
  ·have f30:((st.length:Int)≤30)=True:=eq_true (by omega)
   rw [decide_eq_true h30]
   (repeat ((try with_reducible refine W.step (b:=false) ?_);simp (decide:=true) only [go_sem,↓reduceIte,Nat.reduceAdd,Nat.reduceSub,hlt,f30]))
   exact Q0a _ (.inr rfl) rfl (.plain rfl)
  ·have f30:((st.length:Int)≤30)=False:=eq_false (by omega)
   rw [decide_eq_false h30]
   (repeat ((try with_reducible refine W.step (b:=false) ?_);simp (decide:=true) only [go_sem,↓reduceIte,Nat.reduceAdd,Nat.reduceSub,hlt,f30]))
   exact Q0a _ (.inr rfl) rfl (.plain rfl)
def ndSm (m:Nat) (x:Nod):Bool:=decide (x.name.size≤100)&&(decide (x.text.size≤300)&&(decide (x.attrs.length≤20)&&(decide (x.kids.length≤m)&&x.attrs.all fun a=>decide (a.name.size≤100)&&decide (a.value.size≤100))))
def pgSm (m:Nat) (p:List Nod):Bool:=decide (p.length≤m)&&p.all (ndSm m)
theorem rowNdS {l:List Nod} {k:Nat} (hk:k<l.length):((l.flatMap encNd).drop (k*5)).take 5=[.g (.string l[k].name),.sl l[k].attrs.length 2 (l[k].attrs.flatMap encA),.g (.string l[k].text),.g (.int .i64 l[k].up),.sl l[k].kids.length 1 (l[k].kids.flatMap encZ)]∧k*5+5≤(l.flatMap encNd).length :=
 ⟨Q2m encNd 5 (fun _=>rfl) l k hk 0 5 (by decide),row_fit encNd 5 (fun _=>rfl) l k hk (j:=0) (by decide)⟩
set_option maxRecDepth 100000 in
set_option maxHeartbeats 4000000 in
theorem small10_p (p:List Nod) (m:Nat) (hm:m≤1000):PureN Tryz.prog gt0 11 [.sl p.length 5 (p.flatMap encNd),.g (.int .i64 (m:Int))] (.g (.bool (pgSm m p))):=by
 refine PureN.of_w (c:=_) Tryz.func11 rfl (by kernel_rfl) rfl ?_;simp only [Tryz.f11,List.replicate,List.length_cons,List.length_nil,Nat.reduceAdd,Nat.reduceSub,List.cons_append,List.nil_append];unfold pgSm
 (repeat ((try with_reducible refine W.step (b:=false) ?_);simp (decide:=true) only [go_sem,↓reduceIte,Nat.reduceAdd,Nat.reduceSub]))
 refine W.loop (s1:=stL [(.sl p.length 5 (p.flatMap encNd)),(.g (.int .i64 (m:Int))),aN,aN,(.g (.bool false)),(.g (.int .i64 ((0:Nat):Int))),aN,aN,aN,aN,aN,aN,aN,aN,aN,aN,aN,aN,aN,aN,aN,aN,aN,aN,aN,aN,aN,aN,aN,aN,aN,aN,aN,aN,aN,aN,aN,aN,aN,aN,aN,aN,aN,aN,aN,aN,aN,aN,aN,aN,aN,aN,aN,aN,aN,aN,aN,aN,aN,aN,aN,aN,aN,aN,aN,aN,aN,aN,aN,aN,aN,aN,aN,aN,aN,aN] [] 0)
  (fun (k:Nat) t=>(k≤p.length∧∀ y∈p.take k,ndSm m y=true)∧t=stL [(.sl p.length 5 (p.flatMap encNd)),(.g (.int .i64 (m:Int))),aN,aN,(.g (.bool false)),(.g (.int .i64 (k:Int))),aN,aN,aN,aN,aN,aN,aN,aN,aN,aN,aN,aN,aN,aN,aN,aN,aN,aN,aN,aN,aN,aN,aN,aN,aN,aN,aN,aN,aN,aN,aN,aN,aN,aN,aN,aN,aN,aN,aN,aN,aN,aN,aN,aN,aN,aN,aN,aN,aN,aN,aN,aN,aN,aN,aN,aN,aN,aN,aN,aN,aN,aN,aN,aN,aN,aN,aN,aN,aN,aN] [] 0) (fun k=>p.length - k) 0 ⟨⟨Nat.zero_le _,by simp⟩,rfl⟩ (VS.tm (by simp [leL])) ?_
 rintro k t ⟨⟨hk,hq⟩,rfl⟩
 by_cases hlt:k<p.length
 ·obtain ⟨s1,s2⟩:=rowNdS hlt
  by_cases hlm:p.length≤m
  ·have fm:((p.length:Int)≤(m:Int))=True:=eq_true (by omega)
   have bad:ndSm m p[k]=false→(decide (p.length≤m)&&p.all (ndSm m))=false:=fun h=>by
    rw [show p.all (ndSm m)=false from List.all_eq_false.2 ⟨_,List.getElem_mem hlt,by rw [h];decide⟩,Bool.and_false]
   by_cases h1:p[k].name.size≤100
   rotate_left
   ·have f1:((100:Int)<(p[k].name.size:Int))=True:=eq_true (by omega)
    rw [bad (by unfold ndSm;rw [decide_eq_false h1];rfl)]
    (repeat ((try with_reducible refine W.step (b:=false) ?_);simp (decide:=true) only [go_sem,↓reduceIte,Nat.reduceAdd,Nat.reduceSub,hlt,fm,s1,s2,f1]))
    exact Q0a _ (.inr rfl) rfl (.plain rfl)
   have f1:((100:Int)<(p[k].name.size:Int))=False:=eq_false (by omega)
   by_cases h2:p[k].text.size≤300
   rotate_left
   ·have f2:((300:Int)<(p[k].text.size:Int))=True:=eq_true (by omega)
    rw [bad (by unfold ndSm;rw [decide_eq_false h2];simp)]
    (repeat ((try with_reducible refine W.step (b:=false) ?_);simp (decide:=true) only [go_sem,↓reduceIte,Nat.reduceAdd,Nat.reduceSub,hlt,fm,s1,s2,f1,f2]))
    exact Q0a _ (.inr rfl) rfl (.plain rfl)
   have f2:((300:Int)<(p[k].text.size:Int))=False:=eq_false (by omega)
   by_cases h3:p[k].attrs.length≤20
   rotate_left
   ·have f3:((20:Int)<(p[k].attrs.length:Int))=True:=eq_true (by omega)
    rw [bad (by unfold ndSm;rw [decide_eq_false h3];simp)]
    (repeat ((try with_reducible refine W.step (b:=false) ?_);simp (decide:=true) only [go_sem,↓reduceIte,Nat.reduceAdd,Nat.reduceSub,hlt,fm,s1,s2,f1,f2,f3]))
    exact Q0a _ (.inr rfl) rfl (.plain rfl)
   have f3:((20:Int)<(p[k].attrs.length:Int))=False:=eq_false (by omega)
   by_cases h4:p[k].kids.length≤m
   rotate_left
   ·have f4:((m:Int)<(p[k].kids.length:Int))=True:=eq_true (by omega)
    rw [bad (by unfold ndSm;rw [decide_eq_false h4];simp)]
    (repeat ((try with_reducible refine W.step (b:=false) ?_);simp (decide:=true) only [go_sem,↓reduceIte,Nat.reduceAdd,Nat.reduceSub,hlt,fm,s1,s2,f1,f2,f3,f4]))
    exact Q0a _ (.inr rfl) rfl (.plain rfl)
   have f4:((m:Int)<(p[k].kids.length:Int))=False:=eq_false (by omega)
   (repeat ((try with_reducible refine W.step (b:=false) ?_);simp (decide:=true) only [go_sem,↓reduceIte,Nat.reduceAdd,Nat.reduceSub,hlt,fm,s1,s2,f1,f2,f3,f4]))
   refine W.loop (s1:=stL [(.sl p.length 5 (p.flatMap encNd)),(.g (.int .i64 (m:Int))),aN,aN,(.g (.bool false)),(.g (.int .i64 (k:Int))),(.ptr 0 0),(.g (.int .i64 ((0:Nat):Int))),aN,aN,aN,aN,aN,aN,aN,aN,aN,aN,aN,aN,aN,aN,aN,aN,aN,aN,aN,aN,aN,aN,aN,aN,aN,aN,aN,aN,aN,aN,aN,aN,aN,aN,aN,aN,aN,aN,aN,aN,aN,aN,aN,aN,aN,aN,aN,aN,aN,aN,aN,aN,aN,aN,aN,aN,aN,aN,aN,aN,aN,aN,aN,aN,aN,aN,aN,aN] [(0,.cells [.g (.string p[k].name),.sl p[k].attrs.length 2 (p[k].attrs.flatMap encA),.g (.string p[k].text),.g (.int .i64 p[k].up),.sl p[k].kids.length 1 (p[k].kids.flatMap encZ)])] 1)
    (fun (j:Nat) t=>(j≤p[k].attrs.length∧∀ y∈p[k].attrs.take j,(decide (y.name.size≤100)&&decide (y.value.size≤100))=true)∧t=stL [(.sl p.length 5 (p.flatMap encNd)),(.g (.int .i64 (m:Int))),aN,aN,(.g (.bool false)),(.g (.int .i64 (k:Int))),(.ptr 0 0),(.g (.int .i64 (j:Int))),aN,aN,aN,aN,aN,aN,aN,aN,aN,aN,aN,aN,aN,aN,aN,aN,aN,aN,aN,aN,aN,aN,aN,aN,aN,aN,aN,aN,aN,aN,aN,aN,aN,aN,aN,aN,aN,aN,aN,aN,aN,aN,aN,aN,aN,aN,aN,aN,aN,aN,aN,aN,aN,aN,aN,aN,aN,aN,aN,aN,aN,aN,aN,aN,aN,aN,aN,aN] [(0,.cells [.g (.string p[k].name),.sl p[k].attrs.length 2 (p[k].attrs.flatMap encA),.g (.string p[k].text),.g (.int .i64 p[k].up),.sl p[k].kids.length 1 (p[k].kids.flatMap encZ)])] 1) (fun j=>p[k].attrs.length - j) 0 ⟨⟨Nat.zero_le _,by simp⟩,rfl⟩ (VS.tm (by simp [leL])) ?_
   rintro j t ⟨⟨hj,hqa⟩,rfl⟩
   by_cases hlj:j<p[k].attrs.length
   ·obtain ⟨a1,a2,-⟩:=rowA hlj
    by_cases g1:p[k].attrs[j].name.size≤100
    rotate_left
    ·have e1:((100:Int)<(p[k].attrs[j].name.size:Int))=True:=eq_true (by omega)
     have hf:(p[k].attrs.all fun a=>decide (a.name.size≤100)&&decide (a.value.size≤100))=false:=List.all_eq_false.2 ⟨_,List.getElem_mem hlj,by rw [decide_eq_false g1];simp⟩;rw [bad (by unfold ndSm;rw [hf];simp)]
     (repeat ((try with_reducible refine W.step (b:=true) ?_);simp (decide:=true) only [go_sem,↓reduceIte,Nat.reduceAdd,Nat.reduceSub,hlj,a1,a2,e1];(try with_reducible refine drawn hmix (by kernel_rfl) ?_);try with_reducible refine ⟨by kernel_rfl,?_⟩))
     exact Q0a _ (.inr rfl) rfl (.plain rfl)
    have e1:((100:Int)<(p[k].attrs[j].name.size:Int))=False:=eq_false (by omega)
    by_cases g2:p[k].attrs[j].value.size≤100
    rotate_left
    ·have e2:((100:Int)<(p[k].attrs[j].value.size:Int))=True:=eq_true (by omega)
     have hf:(p[k].attrs.all fun a=>decide (a.name.size≤100)&&decide (a.value.size≤100))=false:=List.all_eq_false.2 ⟨_,List.getElem_mem hlj,by rw [decide_eq_false g2];simp⟩;rw [bad (by unfold ndSm;rw [hf];simp)]
     (repeat ((try with_reducible refine W.step (b:=true) ?_);simp (decide:=true) only [go_sem,↓reduceIte,Nat.reduceAdd,Nat.reduceSub,hlj,a1,a2,e1,e2];(try with_reducible refine drawn hmix (by kernel_rfl) ?_);try with_reducible refine ⟨by kernel_rfl,?_⟩))
     exact Q0a _ (.inr rfl) rfl (.plain rfl)
    have e2:((100:Int)<(p[k].attrs[j].value.size:Int))=False:=eq_false (by omega)
    (repeat ((try with_reducible refine W.step (b:=true) ?_);simp (decide:=true) only [go_sem,↓reduceIte,Nat.reduceAdd,Nat.reduceSub,hlj,a1,a2,e1,e2];(try with_reducible refine drawn hmix (by kernel_rfl) ?_);try with_reducible refine ⟨by kernel_rfl,?_⟩))
    refine ⟨j+1,_,⟨⟨hlj,fun y hy=>?_⟩,rfl⟩,by show p[k].attrs.length - (j+1)<p[k].attrs.length - j;omega,?_⟩
    ·rw [List.take_succ_eq_append_getElem hlj,List.mem_append] at hy
     rcases hy with hy | hy
     ·exact hqa y hy
     ·simp at hy;subst hy;rw [decide_eq_true g1,decide_eq_true g2];rfl
    ·rw [up1 (by omega)]
     exact VS.tm (by simp [leL])
   ·(repeat ((try with_reducible refine W.step (b:=false) ?_);simp (decide:=true) only [go_sem,↓reduceIte,Nat.reduceAdd,Nat.reduceSub,hlj]))
    rw [List.take_of_length_le (by omega)] at hqa;refine ⟨k+1,_,⟨⟨hlt,fun y hy=>?_⟩,rfl⟩,by show p.length - (k+1)<p.length - k;omega,?_⟩
    ·rw [List.take_succ_eq_append_getElem hlt,List.mem_append] at hy
     rcases hy with hy | hy
     ·exact hq y hy
     ·simp at hy;subst hy
      unfold ndSm;rw [decide_eq_true h1,decide_eq_true h2,decide_eq_true h3,decide_eq_true h4,List.all_eq_true.2 hqa];rfl
    ·rw [up1 (by omega)]
     exact VSdrop (by simp) (by simp [Q0e,Q0g,ltA])
  ·have fm:((p.length:Int)≤(m:Int))=False:=eq_false (by omega)
   rw [decide_eq_false hlm,Bool.false_and]
   (repeat ((try with_reducible refine W.step (b:=false) ?_);simp (decide:=true) only [go_sem,↓reduceIte,Nat.reduceAdd,Nat.reduceSub,hlt,fm]))
   exact Q0a _ (.inr rfl) rfl (.plain rfl)
 ·rw [List.take_of_length_le (by omega)] at hq
  rw [List.all_eq_true.2 hq,Bool.and_true]
  by_cases hlm:p.length≤m
  ·have fm:((p.length:Int)≤(m:Int))=True:=eq_true (by omega)
   rw [decide_eq_true hlm]
   (repeat ((try with_reducible refine W.step (b:=false) ?_);simp (decide:=true) only [go_sem,↓reduceIte,Nat.reduceAdd,Nat.reduceSub,hlt,fm]))
   exact Q0a _ (.inr rfl) rfl (.plain rfl)
  ·have fm:((p.length:Int)≤(m:Int))=False:=eq_false (by omega)
   rw [decide_eq_false hlm]
   (repeat ((try with_reducible refine W.step (b:=false) ?_);simp (decide:=true) only [go_sem,↓reduceIte,Nat.reduceAdd,Nat.reduceSub,hlt,fm]))
   exact Q0a _ (.inr rfl) rfl (.plain rfl)
attribute [go_sem] appL newsA isSlice
theorem find_hit {α:Type} {pr:α→Bool} {l:List α} {k:Nat} (hk:k<l.length) (h:∀ x∈l.take k,pr x=false) (hp:pr l[k]=true):l.find? pr=some l[k]:=by
 have e:l=l.take k++l[k]::l.drop (k+1):=by rw [←List.drop_eq_getElem_cons hk,List.take_append_drop]
 conv=>lhs;rw [e]
 have h0:(l.take k).find? pr=none:=by
  rw [List.find?_eq_none];intro x hx;rw [h x hx];decide
 rw [List.find?_append,h0,List.find?_cons,hp];rfl
theorem find_miss {α:Type} {pr:α→Bool} {l:List α} (h:∀ x∈l,pr x=false):l.find? pr=none:=by
 rw [List.find?_eq_none];intro x hx;rw [h x hx];decide
theorem seal_Z {b n:Nat} {l:List Int} {m:ML} (hg:getL m b=some (.cells (l.flatMap encZ))) (hn:n=l.length):SealTo m (.gs b 0 n 1 n) (.sl l.length 1 (l.flatMap encZ)):=by
 subst hn
 have h:=SealTo.gs (m:=m) (b:=b) (o:=0) (k:=l.length) (sz:=1) (c:=l.length) hg (by rw [lenZ];omega) (fun a ha=>by
  have h1:=List.mem_of_mem_drop (List.mem_of_mem_take ha);obtain ⟨x,-,hx⟩:=List.mem_flatMap.1 h1
  simp [encZ] at hx;subst hx;rfl)
 rwa [List.drop_zero,Nat.mul_one,takeZ] at h
theorem sealN_w {b n:Nat} {l:List ByteArray} {m:ML} (hg:getL m b=some (.cells (l.flatMap encN))) (hn:n=l.length):SealTo m (.gs b 0 n 1 n) (.sl l.length 1 (l.flatMap encN)):=by
 subst hn
 have h:=SealTo.gs (m:=m) (b:=b) (o:=0) (k:=l.length) (sz:=1) (c:=l.length) hg (by rw [lenN];omega) (fun a ha=>by
  have h1:=List.mem_of_mem_drop (List.mem_of_mem_take ha);obtain ⟨x,-,hx⟩:=List.mem_flatMap.1 h1
  simp [encN] at hx;subst hx;rfl)
 rwa [List.drop_zero,Nat.mul_one,List.take_of_length_le (by rw [lenN];exact Nat.le_refl _)] at h
theorem reM_w {n1:Nat} {q:Ren} {m:ML} {c b:Nat} {cs:List AV} (h1:lkE n1 q c=some b) (h2:getL m b=some (.cells cs)) (h3:noIdsL cs=true):reM n1 q m [(c,.cells cs)] :=
 ⟨⟨b,.cells cs,h1,h2,cs,rfl,.inl ⟨rfl,h3⟩⟩,trivial⟩
theorem idsN_w (l:List ByteArray):noIdsL (l.flatMap encN)=true:=Q0y (fun _=>rfl) l
def inW (l:List ByteArray) (x:ByteArray):Bool:=l.any fun y=>decide (y=x)
theorem inW_iff {l:List ByteArray} {x:ByteArray}:inW l x=true↔x∈l:=by
 unfold inW;rw [List.any_eq_true];exact ⟨fun ⟨y,h1,h2⟩=>of_decide_eq_true h2▸h1,fun h=>⟨x,h,decide_eq_true rfl⟩⟩
set_option maxRecDepth 100000 in
set_option maxHeartbeats 4000000 in
theorem in11w_p (l:List ByteArray) (x:ByteArray) (hlen:l.length≤1000000):PureN Tryz.prog gt0 131 [.sl l.length 1 (l.flatMap encN),.g (.string x)] (.g (.bool (inW l x))):=by
 refine PureN.of_w (c:=_) Tryz.func131 rfl (by kernel_rfl) rfl ?_;simp only [Tryz.f131,List.replicate,List.length_cons,List.length_nil,Nat.reduceAdd,Nat.reduceSub,List.cons_append,List.nil_append]
 (repeat ((try with_reducible refine W.step (b:=false) ?_);simp (decide:=true) only [go_sem,↓reduceIte,Nat.reduceAdd,Nat.reduceSub]))
 refine W.loop (s1:=stL [(.sl l.length 1 (l.flatMap encN)),(.g (.string x)),aN,aN,(.g (.bool false)),(.g (.int .i64 ((0:Nat):Int))),aN,aN,aN,aN,aN,aN,aN,aN,aN,aN,aN,aN] [] 0)
  (fun (k:Nat) s=>k≤l.length∧x∉l.take k∧s=stL [(.sl l.length 1 (l.flatMap encN)),(.g (.string x)),aN,aN,(.g (.bool false)),(.g (.int .i64 (k:Int))),aN,aN,aN,aN,aN,aN,aN,aN,aN,aN,aN,aN] [] 0) (fun k=>l.length - k) 0 ⟨Nat.zero_le _,by simp,rfl⟩ (VS.tm (by simp [leL])) ?_
 rintro k t ⟨hk,hnx,rfl⟩
 by_cases hlt:k<l.length
 ·have r0:=rowN hlt
  (repeat ((try with_reducible refine W.step (b:=false) ?_);simp (decide:=true) only [go_sem,↓reduceIte,Nat.reduceAdd,Nat.reduceSub,hlt,r0]))
  refine condK_split (fun h=>?_) (fun h=>?_)
  ·have hm:x∈l:=by
    have e:l[k]=x:=of_decide_eq_true h;rw [←e];exact List.getElem_mem hlt
   rw [inW_iff.2 hm]
   (repeat ((try with_reducible refine W.step (b:=false) ?_);simp (decide:=true) only [go_sem,↓reduceIte,Nat.reduceAdd,Nat.reduceSub]))
   exact Q0a _ (.inr rfl) rfl (.plain rfl)
  ·have hne:l[k]≠x:=of_decide_eq_false h
   (repeat ((try with_reducible refine W.step (b:=false) ?_);simp (decide:=true) only [go_sem,↓reduceIte,Nat.reduceAdd,Nat.reduceSub]))
   refine ⟨k+1,_,⟨by omega,?_,rfl⟩,by show l.length - (k+1)<l.length - k;omega,VS.tm ?_⟩
   ·rw [List.take_succ_eq_append_getElem hlt,List.mem_append,not_or]
    exact ⟨hnx,fun h=>hne (List.mem_singleton.1 h).symm⟩
   ·rw [up1 (by omega)]
    simp only [go_sem,↓reduceIte,Nat.reduceAdd,Nat.reduceSub,Nat.reduceMul,Nat.reduceEqDiff,Nat.reduceLeDiff,Nat.reduceLT,Int.reduceLE,Int.reduceLT,Int.reduceToNat,Int.reduceEq,or_true,true_or]
 ·(repeat ((try with_reducible refine W.step (b:=false) ?_);simp (decide:=true) only [go_sem,↓reduceIte,Nat.reduceAdd,Nat.reduceSub,hlt]))
  have hm:¬x∈l:=by
   obtain rfl:k=l.length:=by omega
   rwa [List.take_length] at hnx
  rw [show inW l x=false from by rw [←Bool.not_eq_true,inW_iff];exact hm];exact Q0a _ (.inr rfl) rfl (.plain rfl)
theorem plainZ (l:List Int):∀ a∈l.flatMap encZ,plainA a=true:=fun a ha=>by
 obtain ⟨x,-,hx⟩:=List.mem_flatMap.1 ha;simp [encZ] at hx;subst hx;rfl
def blQ (x:Int):Bool:=decide (x=32)||(decide (x=9)||(decide (x=10)||(decide (x=12)||decide (x=13))))
theorem blQ_eq (c:UInt8):blQ (c.toNat:Int)=isBl c:=by
 have:∀ k:Fin 256,blQ ((UInt8.ofNat k.val).toNat:Int)=isBl (UInt8.ofNat k.val):=by decide +kernel
 have h:=this ⟨c.toNat,c.toNat_lt⟩
 rwa [UInt8.ofNat_toNat] at h
set_option maxRecDepth 100000 in
set_option maxHeartbeats 4000000 in
theorem blank9_p (x:Int):PureN Tryz.prog gt0 213 [.g (.int .u8 x)] (.g (.bool (blQ x))):=by
 refine PureN.of_w (c:=_) Tryz.func213 rfl (by kernel_rfl) rfl ?_;simp only [Tryz.f213,List.replicate,List.length_cons,List.length_nil,Nat.reduceAdd,Nat.reduceSub,List.cons_append,List.nil_append];unfold blQ
 by_cases h1:x=32
 ·have f1:=eq_true h1
  rw [decide_eq_true h1,Bool.true_or]
  (repeat ((try with_reducible refine W.step (b:=false) ?_);simp (decide:=true) only [go_sem,↓reduceIte,Nat.reduceAdd,Nat.reduceSub,f1]))
  exact Q0a _ (.inr rfl) rfl (.plain rfl)
 rw [decide_eq_false h1,Bool.false_or]
 by_cases h2:x=9
 ·have f2:=eq_true h2
  rw [decide_eq_true h2,Bool.true_or]
  (repeat ((try with_reducible refine W.step (b:=false) ?_);simp (decide:=true) only [go_sem,↓reduceIte,Nat.reduceAdd,Nat.reduceSub,h1,f2]))
  exact Q0a _ (.inr rfl) rfl (.plain rfl)
 rw [decide_eq_false h2,Bool.false_or]
 by_cases h3:x=10
 ·have f3:=eq_true h3
  rw [decide_eq_true h3,Bool.true_or]
  (repeat ((try with_reducible refine W.step (b:=false) ?_);simp (decide:=true) only [go_sem,↓reduceIte,Nat.reduceAdd,Nat.reduceSub,h1,h2,f3]))
  exact Q0a _ (.inr rfl) rfl (.plain rfl)
 rw [decide_eq_false h3,Bool.false_or]
 by_cases h4:x=12
 ·have f4:=eq_true h4
  rw [decide_eq_true h4,Bool.true_or]
  (repeat ((try with_reducible refine W.step (b:=false) ?_);simp (decide:=true) only [go_sem,↓reduceIte,Nat.reduceAdd,Nat.reduceSub,h1,h2,h3,f4]))
  exact Q0a _ (.inr rfl) rfl (.plain rfl)
 rw [decide_eq_false h4,Bool.false_or]
 (repeat ((try with_reducible refine W.step (b:=false) ?_);simp (decide:=true) only [go_sem,↓reduceIte,Nat.reduceAdd,Nat.reduceSub,h1,h2,h3,h4]))
 exact Q0a _ (.inr rfl) rfl (.plain rfl)
set_option maxRecDepth 100000 in
set_option maxHeartbeats 4000000 in
theorem Q4g (p:List Nod) (n:Int):PureN Tryz.prog gt0 17 [.sl p.length 5 (p.flatMap encNd),.g (.int .i64 n)] (.g (.bool (elemB p n))):=by
 refine PureN.of_w (c:=_) Tryz.func17 rfl (by kernel_rfl) rfl ?_;simp only [Tryz.f17,List.replicate,List.length_cons,List.length_nil,Nat.reduceAdd,Nat.reduceSub,List.cons_append,List.nil_append];unfold elemB
 by_cases h0:0≤n
 ·obtain ⟨k,rfl⟩:∃ k:Nat,n=k:=⟨n.toNat,by omega⟩
  by_cases hk:k<p.length
  ·have r:=rowNd hk
   rw [Q0o hk]
   by_cases hn:p[k].name=⟨#[]⟩
   ·have fn:=eq_true hn
    (repeat ((try with_reducible refine W.step (b:=false) ?_);simp (decide:=true) only [go_sem,↓reduceIte,Nat.reduceAdd,Nat.reduceSub,hk,r,fn]))
    exact Q0a _ (.inr rfl) rfl (.plain rfl)
   ·(repeat ((try with_reducible refine W.step (b:=false) ?_);simp (decide:=true) only [go_sem,↓reduceIte,Nat.reduceAdd,Nat.reduceSub,hk,r,hn]))
    exact Q0a _ (.inr rfl) rfl (.plain rfl)
  ·(repeat ((try with_reducible refine W.step (b:=false) ?_);simp (decide:=true) only [go_sem,↓reduceIte,Nat.reduceAdd,Nat.reduceSub,hk]))
   exact Q0a _ (.inr rfl) rfl (.plain rfl)
 ·(repeat ((try with_reducible refine W.step (b:=false) ?_);simp (decide:=true) only [go_sem,↓reduceIte,Nat.reduceAdd,Nat.reduceSub,h0]))
  exact Q0a _ (.inr rfl) rfl (.plain rfl)
set_option maxRecDepth 100000 in
set_option maxHeartbeats 4000000 in
theorem attr10_p (p:List Nod) (n:Int) (s:ByteArray) (hp:OkPg p):PureN Tryz.prog gt0 14 [.sl p.length 5 (p.flatMap encNd),.g (.int .i64 n),.g (.string s)] (.tup [.g (.string ((atM p n s).getD ⟨#[]⟩)),.g (.bool (atM p n s).isSome)]):=by
 have HE:=Q4g p n;refine PureN.of_w (c:=_) Tryz.func14 rfl (by kernel_rfl) rfl ?_;simp only [Tryz.f14,List.replicate,List.length_cons,List.length_nil,Nat.reduceAdd,Nat.reduceSub,List.cons_append,List.nil_append]
 (repeat ((try with_reducible refine W.step (b:=false) ?_);simp (decide:=true) only [go_sem,↓reduceIte,Nat.reduceAdd,Nat.reduceSub]))
 refine AtCall.mk HE ?_
 by_cases he:elemB p n=true
 ·have hat:atM p n s=((ndAt p n).attrs.find? fun x=>decide (x.name=s)).map (·.value):=if_pos he
  rw [he];obtain ⟨k,rfl⟩:∃ k:Nat,n=k:=⟨n.toNat,by simp [elemB] at he;omega⟩;have hk:k<p.length:=by simp [elemB] at he;omega
  rw [Q0o hk] at hat;have r:=rowNd hk;have hla:=hp.attrs _ (List.getElem_mem hk)
  (repeat ((try with_reducible refine W.step (b:=false) ?_);simp (decide:=true) only [go_sem,↓reduceIte,Nat.reduceAdd,Nat.reduceSub,hk,r]))
  generalize p[k].attrs=l at hat hla ⊢
  refine W.loop (s1:=stL [aN,aN,(.g (.string s)),aN,aN,aN,(.g (.string ⟨#[]⟩)),(.g (.bool false)),(.sl l.length 2 (l.flatMap encA)),(.g (.int .i64 ((0:Nat):Int))),aN,aN,aN,aN,aN,aN,aN,aN,aN,aN,aN,aN,aN,aN,aN,aN,aN,aN,aN,aN,aN,aN,aN,aN,aN,aN,aN] [] 0)
   (fun (k:Nat) t=>k≤l.length∧(∀ x∈l.take k,decide (x.name=s)=false)∧t=stL [aN,aN,(.g (.string s)),aN,aN,aN,(.g (.string ⟨#[]⟩)),(.g (.bool false)),(.sl l.length 2 (l.flatMap encA)),(.g (.int .i64 (k:Int))),aN,aN,aN,aN,aN,aN,aN,aN,aN,aN,aN,aN,aN,aN,aN,aN,aN,aN,aN,aN,aN,aN,aN,aN,aN,aN,aN] [] 0) (fun k=>l.length - k) 0 ⟨Nat.zero_le _,by simp,rfl⟩ (VS.tm (by simp [leL])) ?_
  rintro i t ⟨hi,hno,rfl⟩
  by_cases hlt:i<l.length
  ·have ra:=rowA hlt
   by_cases hx:l[i].name=s
   ·have fx:=eq_true hx
    rw [hat,find_hit hlt hno (decide_eq_true hx)]
    (repeat ((try with_reducible refine W.step (b:=false) ?_);simp (decide:=true) only [go_sem,↓reduceIte,Nat.reduceAdd,Nat.reduceSub,hlt,ra,fx]))
    exact Q3n _ (.inr rfl) rfl rfl rfl rfl
   ·(repeat ((try with_reducible refine W.step (b:=false) ?_);simp (decide:=true) only [go_sem,↓reduceIte,Nat.reduceAdd,Nat.reduceSub,hlt,ra,hx]))
    refine ⟨i+1,_,⟨by omega,Q1e (pr:=fun x:Atr=>decide (x.name=s)) hlt hno (decide_eq_false hx),rfl⟩,by show l.length - (i+1)<l.length - i;omega,VS.tm ?_⟩;rw [up1 (by omega)];simp [leL]
  ·rw [hat,find_miss (fun x hx=>hno x (by rw [List.take_of_length_le (by omega)];exact hx))]
   (repeat ((try with_reducible refine W.step (b:=false) ?_);simp (decide:=true) only [go_sem,↓reduceIte,Nat.reduceAdd,Nat.reduceSub,hlt]))
   exact Q3n _ (.inr rfl) rfl rfl rfl rfl
 ·have hat:atM p n s=none:=if_neg he
  rw [hat,Bool.not_eq_true _ |>.mp he]
  (repeat ((try with_reducible refine W.step (b:=false) ?_);simp (decide:=true) only [go_sem,↓reduceIte,Nat.reduceAdd,Nat.reduceSub]))
  exact Q3n _ (.inr rfl) rfl rfl rfl rfl
theorem cutS_list (s:ByteArray) (a b:Nat):(cutS s a b).data.toList=(s.data.toList.take b).drop a:=by
 unfold cutS;rw [List.drop_take]
structure WdI (L:List UInt8) (i a:Nat) (o:List ByteArray):Prop where
 le:i≤L.length+1
 at_:a≤i
 eq:i≤L.length→(o.map fun x=>x.data.toList)++wordsL ((L.take i).drop a) (L.drop i)=wordsL [] L
 fin:i=L.length+1→(o.map fun x=>x.data.toList)=wordsL [] L
 len:o.length≤i
theorem cur_step {L:List UInt8} {a i:Nat} (h:a≤i) (hi:i<L.length):(L.take (i+1)).drop a=(L.take i).drop a++[L[i]]:=by
 rw [List.take_succ_eq_append_getElem hi,List.drop_append_of_le_length (by rw [List.length_take];omega)]
theorem cur_nil {L:List UInt8} {a i:Nat} (hi:i≤L.length):(L.take i).drop a=[]↔i≤a:=by
 rw [List.drop_eq_nil_iff,List.length_take];omega
theorem WdI.next {L:List UInt8} {i a:Nat} {o:List ByteArray} (h:WdI L i a o) (hi:i<L.length) (hb:isBl L[i]=false):WdI L (i+1) a o:=by
 refine ⟨by omega,by have:=h.at_;omega,fun h2=>?_,fun h2=>by omega,by have:=h.len;omega⟩;rw [←h.eq (by omega),List.drop_eq_getElem_cons hi,wordsL,hb,cur_step h.at_ hi];simp
theorem WdI.blank {L:List UInt8} {i a:Nat} {o:List ByteArray} (h:WdI L i a o) (hi:i<L.length) (hb:isBl L[i]=true) (s:ByteArray) (hs:s.data.toList=(L.take i).drop a):WdI L (i+1) (i+1) (if a<i then o++[s] else o):=by
 have hn:(L.take (i+1)).drop (i+1)=[]:=(cur_nil (by omega)).2 (Nat.le_refl _);refine ⟨by omega,Nat.le_refl _,fun h2=>?_,fun h2=>by omega,?_⟩
 ·rw [←h.eq (by omega),List.drop_eq_getElem_cons hi,wordsL,hb,hn]
  by_cases ha:a<i
  ·rw [if_pos ha,if_pos rfl,if_neg (fun e=>by have:=(cur_nil (by omega)).1 e;omega),List.map_append,List.map_cons,List.map_nil,hs,List.append_assoc]
   rfl
  ·rw [if_neg ha,if_pos rfl,if_pos ((cur_nil (by omega)).2 (by omega))]
 ·have:=h.len
  split
  ·rw [List.length_append,List.length_singleton];omega
  ·omega
theorem WdI.last {L:List UInt8} {a:Nat} {o:List ByteArray} (h:WdI L L.length a o) (s:ByteArray) (hs:s.data.toList=(L.take L.length).drop a):WdI L (L.length+1) (L.length+1) (if a<L.length then o++[s] else o):=by
 refine ⟨Nat.le_refl _,Nat.le_refl _,fun h2=>by omega,fun _=>?_,?_⟩
 ·rw [←h.eq (Nat.le_refl _),List.drop_length,wordsL]
  by_cases ha:a<L.length
  ·rw [if_pos ha,if_neg (fun e=>by have:=(cur_nil (Nat.le_refl _)).1 e;omega),List.map_append,List.map_cons,List.map_nil,hs]
  ·rw [if_neg ha,if_pos ((cur_nil (Nat.le_refl _)).2 (by omega)),List.append_nil]
 ·have:=h.len
  split
  ·rw [List.length_append,List.length_singleton];omega
  ·omega
theorem WdI.done {s:ByteArray} {i a:Nat} {o:List ByteArray} (h:WdI s.data.toList i a o) (hi:¬i≤s.data.toList.length):o=wordsB s:=by
 have h1:=h.fin (by have:=h.le;omega);unfold wordsB;rw [←h1,List.map_map];have:((fun l=>⟨l.toArray⟩)∘fun x:ByteArray=>x.data.toList)=id:=by funext x;rfl
 rw [this,List.map_id]
set_option maxRecDepth 100000 in
set_option maxHeartbeats 4000000 in
theorem words10_p (s:ByteArray) (hs:s.size≤1000000):PureN Tryz.prog gt0 281 [.g (.string s)] (.sl (wordsB s).length 1 ((wordsB s).flatMap encN)):=by
 refine PureN.of_w (c:=_) Tryz.func281 rfl (by kernel_rfl) rfl ?_;simp only [Tryz.f281,List.replicate,List.length_cons,List.length_nil,Nat.reduceAdd,Nat.reduceSub,List.cons_append,List.nil_append];have hsz:s.data.toList.length=s.size:=by rw [Array.length_toList];rfl
 (repeat ((try with_reducible refine W.step (b:=false) ?_);simp (decide:=true) only [go_sem,↓reduceIte,Nat.reduceAdd,Nat.reduceSub]))
 refine W.loop (s1:=stL [(.g (.string s)),aN,aN,(.gs 0 0 0 1 0),(.g (.int .i64 ((0:Nat):Int))),(.g (.int .i64 ((0:Nat):Int))),aN,aN,aN,aN,aN,aN,aN,aN,aN,aN,aN,aN,aN,aN,aN,aN,aN,aN,aN,aN,aN,aN,aN,aN,aN,aN,aN,aN,aN,aN] [(0,.cells [])] 1)
  (fun (q:Nat×Nat×List ByteArray) t=>WdI s.data.toList q.1 q.2.1 q.2.2∧t=stL [(.g (.string s)),aN,aN,(.gs 0 0 q.2.2.length 1 q.2.2.length),(.g (.int .i64 (q.2.1:Int))),(.g (.int .i64 (q.1:Int))),aN,aN,aN,aN,aN,aN,aN,aN,aN,aN,aN,aN,aN,aN,aN,aN,aN,aN,aN,aN,aN,aN,aN,aN,aN,aN,aN,aN,aN,aN] [(0,.cells (q.2.2.flatMap encN))] 1) (fun q=>s.size+1 - q.1)
  (0,0,[]) ⟨⟨Nat.zero_le _,Nat.le_refl _,fun _=>rfl,fun h=>by omega,Nat.le_refl _⟩,rfl⟩ (VS.tm (by simp [leL])) ?_
 rintro ⟨i,a,o⟩ t ⟨hI,rfl⟩;simp only at hI;have hle:=hI.le;have hat:=hI.at_;have hol:=hI.len;have E1:(o.flatMap encN).length=o.length:=by rw [row_len encN 1 (fun _=>rfl)];omega
 have E2:¬(o.length+1≤o.length):=by omega
 have E3:(o.length+1)*17≤17179869184:=by omega
 have E6:∀ x,o.flatMap encN++[AV.g (.string x)]=(o++[x]).flatMap encN:=fun x=>by rw [List.flatMap_append];rfl
 have hfin:IntKind.i64.wrap ((i:Int)+1)=((i+1:Nat):Int):=up1 (by omega)
 by_cases hi:i≤s.size
 ·have hia:((i:Int)≤(s.size:Int))=True:=eq_true (by omega)
  by_cases hlast:i=s.size
  ·subst hlast
   have hIl:WdI s.data.toList s.data.toList.length a o:=by rw [hsz];exact hI
   have hn:=hIl.last (cutS s a s.size) (by rw [cutS_list,hsz]);rw [hsz] at hn
   by_cases ha:a<s.size
   ·have fs:a≤s.size∧s.size≤s.size:=⟨by omega,Nat.le_refl _⟩
    rw [if_pos ha] at hn
    (repeat ((try with_reducible refine W.step (b:=false) ?_);simp (decide:=true) only [go_sem,↓reduceIte,Nat.reduceAdd,Nat.reduceSub,ha,fs,E1,E2,E3]))
    refine ⟨(s.size+1,s.size+1,o++[cutS s a s.size]),_,⟨hn,rfl⟩,by show s.size+1 - (s.size+1)<s.size+1 - s.size;omega,VS.ren [(0,2)] (by simp) (by simp) (by simp) ?_ ?_⟩
    ·rw [hfin]
     simp only [go_sem,↓reduceIte,Nat.reduceAdd,Nat.reduceSub,Nat.reduceMul,Nat.reduceEqDiff,Nat.reduceLeDiff,Nat.reduceLT,Int.reduceLE,Int.reduceLT,Int.reduceToNat,Int.reduceEq,List.length_append]
    ·exact reM_w rfl (by rw [←E6];rfl) (idsN_w _)
   ·rw [if_neg ha] at hn
    (repeat ((try with_reducible refine W.step (b:=false) ?_);simp (decide:=true) only [go_sem,↓reduceIte,Nat.reduceAdd,Nat.reduceSub,ha]))
    refine ⟨(s.size+1,s.size+1,o),_,⟨hn,rfl⟩,by show s.size+1 - (s.size+1)<s.size+1 - s.size;omega,VS.tm ?_⟩;rw [hfin];simp [leL]
  ·have hlt:i<s.size:=by omega
   have hl2:i<s.data.toList.length:=by omega
   have hc:((s.data.toList.getD i 0))=s.data.toList[i]:=by rw [List.getD_eq_getElem?_getD,List.getElem?_eq_getElem hl2];rfl
   have f1:((i:Int)=(s.size:Int))=False:=eq_false (by omega)
   (repeat ((try with_reducible refine W.step (b:=false) ?_);simp (decide:=true) only [go_sem,↓reduceIte,Nat.reduceAdd,Nat.reduceSub,hia,f1,hlt,hc]))
   refine AtCall.mk (blank9_p (s.data.toList[i].toNat:Int)) ?_;rw [blQ_eq]
   cases hb:isBl s.data.toList[i] with
   | true =>
     have hn:=hI.blank hl2 hb (cutS s a i) (cutS_list s a i)
     by_cases ha:a<i
     ·have fs:a≤i∧i≤s.size:=⟨by omega,by omega⟩
      rw [if_pos ha] at hn
      (repeat ((try with_reducible refine W.step (b:=false) ?_);simp (decide:=true) only [go_sem,↓reduceIte,Nat.reduceAdd,Nat.reduceSub,ha,fs,E1,E2,E3]))
      refine ⟨(i+1,i+1,o++[cutS s a i]),_,⟨hn,rfl⟩,by show s.size+1 - (i+1)<s.size+1 - i;omega,VS.ren [(0,2)] (by simp) (by simp) (by simp) ?_ ?_⟩
      ·rw [hfin]
       simp only [go_sem,↓reduceIte,Nat.reduceAdd,Nat.reduceSub,Nat.reduceMul,Nat.reduceEqDiff,Nat.reduceLeDiff,Nat.reduceLT,Int.reduceLE,Int.reduceLT,Int.reduceToNat,Int.reduceEq,List.length_append]
      ·exact reM_w rfl (by rw [←E6];rfl) (idsN_w _)
     ·rw [if_neg ha] at hn
      (repeat ((try with_reducible refine W.step (b:=false) ?_);simp (decide:=true) only [go_sem,↓reduceIte,Nat.reduceAdd,Nat.reduceSub,ha]))
      refine ⟨(i+1,i+1,o),_,⟨hn,rfl⟩,by show s.size+1 - (i+1)<s.size+1 - i;omega,VS.tm ?_⟩;rw [hfin];simp [leL]
   | false =>
     have hn:=hI.next hl2 hb
     (repeat ((try with_reducible refine W.step (b:=false) ?_);simp (decide:=true) only [go_sem,↓reduceIte,Nat.reduceAdd,Nat.reduceSub]))
     refine ⟨(i+1,a,o),_,⟨hn,rfl⟩,by show s.size+1 - (i+1)<s.size+1 - i;omega,VS.tm ?_⟩;rw [hfin];simp [leL]
 ·have hia:((i:Int)≤(s.size:Int))=False:=eq_false (by omega)
  obtain rfl:=hI.done (by omega)
  (repeat ((try with_reducible refine W.step (b:=false) ?_);simp (decide:=true) only [go_sem,↓reduceIte,Nat.reduceAdd,Nat.reduceSub,hia]))
  exact Q0a _ (.inr rfl) rfl (sealN_w rfl rfl)
set_option maxRecDepth 100000 in
set_option maxHeartbeats 4000000 in
theorem classes10_p (p:List Nod) (n:Int) (hp:OkPg p):PureN Tryz.prog gt0 214 [.sl p.length 5 (p.flatMap encNd),.g (.int .i64 n)] (.sl (classesM p n).length 1 ((classesM p n).flatMap encN)):=by
 refine PureN.of_w (c:=_) Tryz.func214 rfl (by kernel_rfl) rfl ?_;simp only [Tryz.f214,List.replicate,List.length_cons,List.length_nil,Nat.reduceAdd,Nat.reduceSub,List.cons_append,List.nil_append]
 (repeat ((try with_reducible refine W.step (b:=false) ?_);simp (decide:=true) only [go_sem,↓reduceIte,Nat.reduceAdd,Nat.reduceSub]))
 refine AtCall.mk (attr10_p p n clsB hp) ?_
 (repeat ((try with_reducible refine W.step (b:=false) ?_);simp (decide:=true) only [go_sem,↓reduceIte,Nat.reduceAdd,Nat.reduceSub]))
 refine AtCall.mk (words10_p ((atM p n clsB).getD ⟨#[]⟩) (at_size hp n clsB)) ?_
 (repeat ((try with_reducible refine W.step (b:=false) ?_);simp (decide:=true) only [go_sem,↓reduceIte,Nat.reduceAdd,Nat.reduceSub]))
 exact Q0a _ (.inr rfl) rfl (.plain rfl)
theorem filt_step {α:Type} (q:α→Bool) {l:List α} {i:Nat} (h:i<l.length):(l.take (i+1)).filter q=(l.take i).filter q++if q l[i]=true then [l[i]] else []:=by
 rw [List.take_succ_eq_append_getElem h,List.filter_append]
 congr 1
 cases hq:q l[i] <;> simp [hq]
set_option maxRecDepth 100000 in
set_option maxHeartbeats 4000000 in
theorem kin10_p (p:List Nod) (n:Int) (hp:OkPg p):PureN Tryz.prog gt0 290 [.sl p.length 5 (p.flatMap encNd),.g (.int .i64 n)] (.sl (kinM p n).length 1 ((kinM p n).flatMap encZ)):=by
 refine PureN.of_w (c:=_) Tryz.func290 rfl (by kernel_rfl) rfl ?_;simp only [Tryz.f290,List.replicate,List.length_cons,List.length_nil,Nat.reduceAdd,Nat.reduceSub,List.cons_append,List.nil_append]
 (repeat ((try with_reducible refine W.step (b:=false) ?_);simp (decide:=true) only [go_sem,↓reduceIte,Nat.reduceAdd,Nat.reduceSub]))
 refine AtCall.mk (Q4g p n) ?_
 by_cases he:elemB p n=true
 rotate_left
 ·rw [Bool.not_eq_true] at he
  have hk:kinM p n=[]:=by unfold kinM;rw [if_neg (by rw [he];simp)]
  rw [he,hk]
  (repeat ((try with_reducible refine W.step (b:=false) ?_);simp (decide:=true) only [go_sem,↓reduceIte,Nat.reduceAdd,Nat.reduceSub]))
  exact Q0a _ (.inr rfl) rfl (seal_Z (l:=[]) rfl rfl)
 rw [he];obtain ⟨k,rfl,hk,hnd⟩:=at_nat he;have r:=rowNd hk
 by_cases hu0:p[k].up<0
 ·have hkn:kinM p k=[]:=by unfold kinM;rw [hnd,if_neg (by omega)]
  have fu:=eq_true hu0;rw [hkn]
  (repeat ((try with_reducible refine W.step (b:=false) ?_);simp (decide:=true) only [go_sem,↓reduceIte,Nat.reduceAdd,Nat.reduceSub,hk,r,fu]))
  exact Q0a _ (.inr rfl) rfl (seal_Z (l:=[]) rfl rfl)
 have fu:=eq_false hu0
 by_cases hu1:(p.length:Int)≤p[k].up
 ·have hkn:kinM p k=[]:=by unfold kinM;rw [hnd,if_neg (by omega)]
  have fv:=eq_true hu1;rw [hkn]
  (repeat ((try with_reducible refine W.step (b:=false) ?_);simp (decide:=true) only [go_sem,↓reduceIte,Nat.reduceAdd,Nat.reduceSub,hk,r,fu,fv]))
  exact Q0a _ (.inr rfl) rfl (seal_Z (l:=[]) rfl rfl)
 obtain ⟨u,hu⟩:∃ u:Nat,p[k].up=u:=⟨p[k].up.toNat,by omega⟩;have hul:u<p.length:=by omega
 have ru:=rowNd hul;have hkn:kinM p k=(p[u].kids).filter (elemB p):=by unfold kinM;rw [hnd,if_pos ⟨he,by omega,by omega⟩,hu,Q0o hul]
 rw [hu] at r;have fu2:((u:Int)<0)=False:=eq_false (by omega);have fv2:((p.length:Int)≤(u:Int))=False:=eq_false (by omega);have hkl:=hp.kids _ (List.getElem_mem hul);rw [hkn]
 (repeat ((try with_reducible refine W.step (b:=false) ?_);simp (decide:=true) only [go_sem,↓reduceIte,Nat.reduceAdd,Nat.reduceSub,hk,r,hul,ru,fu2,fv2]))
 generalize p[u].kids=l at hkl ⊢
 refine W.loop (s1:=stL [(.sl p.length 5 (p.flatMap encNd)),aN,aN,aN,aN,(.gs 0 0 0 1 0),(.sl l.length 1 (l.flatMap encZ)),(.g (.int .i64 ((0:Nat):Int))),aN,aN,aN,aN,aN,aN,aN,aN,aN,aN,aN,aN,aN,aN,aN,aN,aN,aN,aN,aN,aN,aN,aN,aN,aN,aN,aN,aN,aN,aN,aN,aN,aN,aN,aN,aN,aN,aN,aN,aN,aN,aN,aN,aN,aN,aN,aN,aN,aN,aN,aN,aN,aN] [(0,.cells [])] 1)
  (fun (i:Nat) t=>i≤l.length∧t=stL [(.sl p.length 5 (p.flatMap encNd)),aN,aN,aN,aN,(.gs 0 0 ((l.take i).filter (elemB p)).length 1 ((l.take i).filter (elemB p)).length),(.sl l.length 1 (l.flatMap encZ)),(.g (.int .i64 (i:Int))),aN,aN,aN,aN,aN,aN,aN,aN,aN,aN,aN,aN,aN,aN,aN,aN,aN,aN,aN,aN,aN,aN,aN,aN,aN,aN,aN,aN,aN,aN,aN,aN,aN,aN,aN,aN,aN,aN,aN,aN,aN,aN,aN,aN,aN,aN,aN,aN,aN,aN,aN,aN,aN] [(0,.cells (((l.take i).filter (elemB p)).flatMap encZ))] 1) (fun i=>l.length - i) 0 ⟨Nat.zero_le _,rfl⟩ (VS.tm (by simp [leL])) ?_
 rintro i t ⟨hi,rfl⟩
 by_cases hlt:i<l.length
 ·have hz:=rowZ hlt
  have hol:((l.take i).filter (elemB p)).length≤1000000:=Nat.le_trans (List.length_filter_le _ _) (by rw [List.length_take];omega);have hfs:=filt_step (elemB p) hlt;generalize (l.take i).filter (elemB p)=o at hol hfs ⊢;have E1:(o.flatMap encZ).length=o.length:=lenZ o;have E2:¬(o.length+1≤o.length):=by omega
  have E3:(o.length+1)*9≤17179869184:=by omega
  have E6:∀ x,o.flatMap encZ++[AV.g (.int .i64 x)]=(o++[x]).flatMap encZ:=fun x=>by rw [List.flatMap_append];rfl
  (repeat ((try with_reducible refine W.step (b:=false) ?_);simp (decide:=true) only [go_sem,↓reduceIte,Nat.reduceAdd,Nat.reduceSub,hlt,hz]))
  refine AtCall.mk (Q4g p l[i]) ?_
  cases hb:elemB p l[i] with
  | true =>
    rw [hb,if_pos rfl] at hfs
    (repeat ((try with_reducible refine W.step (b:=false) ?_);simp (decide:=true) only [go_sem,↓reduceIte,Nat.reduceAdd,Nat.reduceSub,hlt,hz,E1,E2,E3]))
    refine ⟨i+1,_,⟨by omega,rfl⟩,by show l.length - (i+1)<l.length - i;omega,VS.ren [(0,2)] (by simp) (by simp) (by simp) ?_ ?_⟩
    ·rw [up1 (by omega),hfs]
     simp only [go_sem,↓reduceIte,Nat.reduceAdd,Nat.reduceSub,Nat.reduceMul,Nat.reduceEqDiff,Nat.reduceLeDiff,Nat.reduceLT,Int.reduceLE,Int.reduceLT,Int.reduceToNat,Int.reduceEq,List.length_append]
    ·rw [hfs]
     exact reM_w rfl (by rw [←E6];rfl) (ids_Z _)
  | false =>
    rw [hb,if_neg (by decide),List.append_nil] at hfs
    (repeat ((try with_reducible refine W.step (b:=false) ?_);simp (decide:=true) only [go_sem,↓reduceIte,Nat.reduceAdd,Nat.reduceSub]))
    refine ⟨i+1,_,⟨by omega,rfl⟩,by show l.length - (i+1)<l.length - i;omega,?_⟩;rw [up1 (by omega),hfs];exact VS.tm (by simp [leL])
 ·obtain rfl:i=l.length:=by omega
  rw [List.take_length]
  (repeat ((try with_reducible refine W.step (b:=false) ?_);simp (decide:=true) only [go_sem,↓reduceIte,Nat.reduceAdd,Nat.reduceSub,hlt]))
  exact Q0a _ (.inr rfl) rfl (seal_Z rfl rfl)
theorem ba_nil {a b:ByteArray}:a++b=⟨#[]⟩↔a=⟨#[]⟩∧b=⟨#[]⟩:=by
 have z:∀ x:ByteArray,x.size=0→x=⟨#[]⟩:=fun x h=>by
  cases x with
  | mk d=>congr 1;exact Array.eq_empty_of_size_eq_zero h
 constructor
 ·intro h
  have h1:=congrArg ByteArray.size h;rw [ByteArray.size_append] at h1;have h2:ByteArray.size ⟨#[]⟩=0:=rfl;exact ⟨z a (by omega),z b (by omega)⟩
 ·rintro ⟨rfl,rfl⟩
  rfl
set_option maxRecDepth 100000 in
set_option maxHeartbeats 4000000 in
theorem tree10_p (p:List Nod) (hp:OkPg p):PureN Tryz.prog gt0 12 [.sl p.length 5 (p.flatMap encNd)] (.g (.bool (treeB p))):=by
 refine PureN.of_w (c:=_) Tryz.func12 rfl (by kernel_rfl) rfl ?_;simp only [Tryz.f12,List.replicate,List.length_cons,List.length_nil,Nat.reduceAdd,Nat.reduceSub,List.cons_append,List.nil_append];have hlen:=hp.len
 by_cases h0:p.length=0
 ·have hb:treeB p=false:=by unfold treeB;rw [decide_eq_true h0];rfl
  rw [hb];have f0:((p.length:Int)=0)=True:=eq_true (by omega)
  (repeat ((try with_reducible refine W.step (b:=false) ?_);simp (decide:=true) only [go_sem,↓reduceIte,Nat.reduceAdd,Nat.reduceSub,f0]))
  exact Q0a _ (.inr rfl) rfl (.plain rfl)
 have f0:((p.length:Int)=0)=False:=eq_false (by omega);have hpos:0<p.length:=by omega
 have r:=rowNd hpos;have e0:=Q0o hpos;simp only [Nat.zero_mul,Nat.zero_add,Int.natCast_zero] at r e0;have f1:(0<(p.length:Int))=True:=eq_true (by omega);have ht0:treeB p=(decide (p[0].up=-1)&&(decide (p[0].name++p[0].text=⟨#[]⟩)&&(decide (p[0].attrs.length=0)&&((List.range p.length).all (fun k:Nat=>decide (k=0)||(decide (0≤(ndAt p k).up)&&decide ((ndAt p k).up<k)))&&(List.range p.length).all (fun k:Nat=>decide ((ndAt p k).kids=kidsR p p.length k)))))):=by
  unfold treeB;rw [decide_eq_false h0,e0];rfl
 rw [ht0]
 by_cases hu:p[0].up=-1
 rotate_left
 ·have fu:=eq_false hu
  rw [decide_eq_false hu,Bool.false_and]
  (repeat ((try with_reducible refine W.step (b:=false) ?_);simp (decide:=true) only [go_sem,↓reduceIte,Nat.reduceAdd,Nat.reduceSub,f0,f1,r,fu]))
  exact Q0a _ (.inr rfl) rfl (.plain rfl)
 have fu:=eq_true hu
 by_cases hs:p[0].name=⟨#[]⟩
 rotate_left
 ·have fs:=eq_false hs
  rw [decide_eq_false (fun e=>hs (ba_nil.1 e).1),Bool.false_and,Bool.and_false]
  (repeat ((try with_reducible refine W.step (b:=false) ?_);simp (decide:=true) only [go_sem,↓reduceIte,Nat.reduceAdd,Nat.reduceSub,f0,f1,r,fu,fs]))
  exact Q0a _ (.inr rfl) rfl (.plain rfl)
 have fs:=eq_true hs
 by_cases hx:p[0].text=⟨#[]⟩
 rotate_left
 ·have fx:=eq_false hx
  rw [decide_eq_false (fun e=>hx (ba_nil.1 e).2),Bool.false_and,Bool.and_false]
  (repeat ((try with_reducible refine W.step (b:=false) ?_);simp (decide:=true) only [go_sem,↓reduceIte,Nat.reduceAdd,Nat.reduceSub,f0,f1,r,fu,fs,fx]))
  exact Q0a _ (.inr rfl) rfl (.plain rfl)
 have fx:=eq_true hx
 by_cases ha:p[0].attrs.length=0
 rotate_left
 ·have fa:((0:Int)<(p[0].attrs.length:Int))=True:=eq_true (by omega)
  have fb:0<p[0].attrs.length:=by omega
  rw [decide_eq_false ha,Bool.false_and,Bool.and_false,Bool.and_false]
  (repeat ((try with_reducible refine W.step (b:=false) ?_);simp (decide:=true) only [go_sem,↓reduceIte,Nat.reduceAdd,Nat.reduceSub,f0,f1,r,fu,fs,fx,fa,fb]))
  exact Q0a _ (.inr rfl) rfl (.plain rfl)
 have fa:((0:Int)<(p[0].attrs.length:Int))=False:=eq_false (by omega);have fb:¬0<p[0].attrs.length:=by omega
 rw [decide_eq_true hu,decide_eq_true (ba_nil.2 ⟨hs,hx⟩),decide_eq_true ha,Bool.true_and,Bool.true_and,Bool.true_and]
 (repeat ((try with_reducible refine W.step (b:=false) ?_);simp (decide:=true) only [go_sem,↓reduceIte,Nat.reduceAdd,Nat.reduceSub,f0,f1,r,fu,fs,fx,fa,fb]))
 clear e0 ht0 hu fu hs fs hx fx ha fa fb r f1 f0
 refine W.loop (s1:=stL [(.sl p.length 5 (p.flatMap encNd)),aN,(.g (.bool false)),(.g (.int .i64 ((1:Nat):Int))),aN,aN,aN,aN,aN,aN,aN,aN,aN,aN,aN,aN,aN,aN,aN,aN,aN,aN,aN,aN,aN,aN,aN,aN,aN,aN,aN,aN,aN,aN,aN,aN,aN,aN,aN,aN,aN,aN,aN,aN,aN,aN,aN,aN,aN,aN,aN,aN,aN,aN,aN,aN,aN,aN,aN,aN,aN,aN,aN,aN,aN,aN,aN,aN,aN,aN,aN,aN,aN,aN,aN,aN,aN,aN,aN,aN,aN,aN,aN,aN,aN,aN,aN,aN,aN,aN,aN,aN] [] 0)
  (fun (k:Nat) t=>k≤p.length∧0<k∧(∀ i:Nat,i<k→0<i→0≤(ndAt p i).up∧(ndAt p i).up<i)∧t=stL [(.sl p.length 5 (p.flatMap encNd)),aN,(.g (.bool false)),(.g (.int .i64 (k:Int))),aN,aN,aN,aN,aN,aN,aN,aN,aN,aN,aN,aN,aN,aN,aN,aN,aN,aN,aN,aN,aN,aN,aN,aN,aN,aN,aN,aN,aN,aN,aN,aN,aN,aN,aN,aN,aN,aN,aN,aN,aN,aN,aN,aN,aN,aN,aN,aN,aN,aN,aN,aN,aN,aN,aN,aN,aN,aN,aN,aN,aN,aN,aN,aN,aN,aN,aN,aN,aN,aN,aN,aN,aN,aN,aN,aN,aN,aN,aN,aN,aN,aN,aN,aN,aN,aN,aN,aN] [] 0)
  (fun k=>p.length - k) 1 ⟨hpos,by decide,fun i h1 h2=>by omega,rfl⟩ (VS.tm (by simp [leL])) ?_
 rintro k t ⟨hk,hk1,hup,rfl⟩
 by_cases hlt:k<p.length
 ·have rk:=rowNd hlt
  have ek:=Q0o hlt
  by_cases hu0:p[k].up<0
  ·have fu:=eq_true hu0
   have hf:(List.range p.length).all (fun k:Nat=>decide (k=0)||(decide (0≤(ndAt p k).up)&&decide ((ndAt p k).up<k)))=false:=by
    refine List.all_eq_false.2 ⟨k,List.mem_range.2 hlt,?_⟩;rw [ek,decide_eq_false (p:=k=0) (by omega),decide_eq_false (p:=0≤p[k].up) (by omega),Bool.false_and];decide
   rw [hf,Bool.false_and]
   (repeat ((try with_reducible refine W.step (b:=false) ?_);simp (decide:=true) only [go_sem,↓reduceIte,Nat.reduceAdd,Nat.reduceSub,hlt,rk,fu]))
   exact Q0a _ (.inr rfl) rfl (.plain rfl)
  have fu:=eq_false hu0
  by_cases hu1:(k:Int)≤p[k].up
  ·have fv:=eq_true hu1
   have hf:(List.range p.length).all (fun k:Nat=>decide (k=0)||(decide (0≤(ndAt p k).up)&&decide ((ndAt p k).up<k)))=false:=by
    refine List.all_eq_false.2 ⟨k,List.mem_range.2 hlt,?_⟩;rw [ek,decide_eq_false (p:=k=0) (by omega),decide_eq_false (p:=p[k].up<(k:Int)) (by omega),Bool.and_false];decide
   rw [hf,Bool.false_and]
   (repeat ((try with_reducible refine W.step (b:=false) ?_);simp (decide:=true) only [go_sem,↓reduceIte,Nat.reduceAdd,Nat.reduceSub,hlt,rk,fu,fv]))
   exact Q0a _ (.inr rfl) rfl (.plain rfl)
  have fv:=eq_false hu1
  (repeat ((try with_reducible refine W.step (b:=false) ?_);simp (decide:=true) only [go_sem,↓reduceIte,Nat.reduceAdd,Nat.reduceSub,hlt,rk,fu,fv]))
  refine ⟨k+1,_,⟨by omega,by omega,fun i h1 h2=>?_,rfl⟩,by show p.length - (k+1)<p.length - k;omega,VS.tm ?_⟩
  ·rcases Nat.lt_or_ge i k with h3 | h3
   ·exact hup i h3 h2
   ·obtain rfl:i=k:=by omega
    rw [ek];omega
  ·rw [up1 (by omega)]
   simp [leL]
 obtain rfl:k=p.length:=by omega
 have hup1:(List.range p.length).all (fun k:Nat=>decide (k=0)||(decide (0≤(ndAt p k).up)&&decide ((ndAt p k).up<k)))=true:=by
  rw [List.all_eq_true];intro i hi
  by_cases h0:i=0
  ·rw [decide_eq_true h0];rfl
  ·obtain ⟨g1,g2⟩:=hup i (List.mem_range.1 hi) (by omega)
   rw [decide_eq_true g1,decide_eq_true g2,Bool.true_and,Bool.or_true]
 rw [hup1,Bool.true_and]
 (repeat ((try with_reducible refine W.step (b:=false) ?_);simp (decide:=true) only [go_sem,↓reduceIte,Nat.reduceAdd,Nat.reduceSub,hlt]))
 clear hup hup1 hlt hk hk1
 refine W.loop (s1:=stL [(.sl p.length 5 (p.flatMap encNd)),aN,(.g (.bool false)),aN,(.g (.int .i64 ((0:Nat):Int))),aN,aN,aN,aN,aN,aN,aN,aN,aN,aN,aN,aN,aN,aN,aN,aN,aN,aN,aN,aN,aN,aN,aN,aN,aN,aN,aN,aN,aN,aN,aN,aN,aN,aN,aN,aN,aN,aN,aN,aN,aN,aN,aN,aN,aN,aN,aN,aN,aN,aN,aN,aN,aN,aN,aN,aN,aN,aN,aN,aN,aN,aN,aN,aN,aN,aN,aN,aN,aN,aN,aN,aN,aN,aN,aN,aN,aN,aN,aN,aN,aN,aN,aN,aN,aN,aN,aN] [] 0)
  (fun (k:Nat) t=>k≤p.length∧(∀ i:Nat,i<k→(ndAt p i).kids=kidsR p p.length i)∧t=stL [(.sl p.length 5 (p.flatMap encNd)),aN,(.g (.bool false)),aN,(.g (.int .i64 (k:Int))),aN,aN,aN,aN,aN,aN,aN,aN,aN,aN,aN,aN,aN,aN,aN,aN,aN,aN,aN,aN,aN,aN,aN,aN,aN,aN,aN,aN,aN,aN,aN,aN,aN,aN,aN,aN,aN,aN,aN,aN,aN,aN,aN,aN,aN,aN,aN,aN,aN,aN,aN,aN,aN,aN,aN,aN,aN,aN,aN,aN,aN,aN,aN,aN,aN,aN,aN,aN,aN,aN,aN,aN,aN,aN,aN,aN,aN,aN,aN,aN,aN,aN,aN,aN,aN,aN,aN] [] 0)
  (fun k=>p.length - k) 0 ⟨Nat.zero_le _,fun i hi=>absurd hi (Nat.not_lt_zero _),rfl⟩ (VS.tm (by simp [leL])) ?_
 rintro k t ⟨hk,hsm,rfl⟩
 by_cases hlt:k<p.length
 rotate_left
 ·have hf:(List.range p.length).all (fun k:Nat=>decide ((ndAt p k).kids=kidsR p p.length k))=true:=by
   rw [List.all_eq_true];exact fun i hi=>decide_eq_true (hsm i (by have:=List.mem_range.1 hi;omega))
  rw [hf]
  (repeat ((try with_reducible refine W.step (b:=false) ?_);simp (decide:=true) only [go_sem,↓reduceIte,Nat.reduceAdd,Nat.reduceSub,hlt]))
  exact Q0a _ (.inr rfl) rfl (.plain rfl)
 have hrl:∀ j,(kidsR p j k).length≤j:=fun j=>by unfold kidsR;rw [List.length_map];exact Nat.le_trans (List.length_filter_le _ _) (by simp)
 have hk1:kidsR p 1 k=[]:=by unfold kidsR;simp
 (repeat ((try with_reducible refine W.step (b:=false) ?_);simp (decide:=true) only [go_sem,↓reduceIte,Nat.reduceAdd,Nat.reduceSub,hlt]))
 refine W.loop (s1:=stL [(.sl p.length 5 (p.flatMap encNd)),aN,(.g (.bool false)),aN,(.g (.int .i64 (k:Int))),(.gs 0 0 0 1 0),(.g (.int .i64 ((1:Nat):Int))),aN,aN,aN,aN,aN,aN,aN,aN,aN,aN,aN,aN,aN,aN,aN,aN,aN,aN,aN,aN,aN,aN,aN,aN,aN,aN,aN,aN,aN,aN,aN,aN,aN,aN,aN,aN,aN,aN,aN,aN,aN,aN,aN,aN,aN,aN,aN,aN,aN,aN,aN,aN,aN,aN,aN,aN,aN,aN,aN,aN,aN,aN,aN,aN,aN,aN,aN,aN,aN,aN,aN,aN,aN,aN,aN,aN,aN,aN,aN,aN,aN,aN,aN,aN,aN] [(0,.cells [])] 1)
  (fun (j:Nat) t=>j≤p.length∧0<j∧t=stL [(.sl p.length 5 (p.flatMap encNd)),aN,(.g (.bool false)),aN,(.g (.int .i64 (k:Int))),(.gs 0 0 (kidsR p j k).length 1 (kidsR p j k).length),(.g (.int .i64 (j:Int))),aN,aN,aN,aN,aN,aN,aN,aN,aN,aN,aN,aN,aN,aN,aN,aN,aN,aN,aN,aN,aN,aN,aN,aN,aN,aN,aN,aN,aN,aN,aN,aN,aN,aN,aN,aN,aN,aN,aN,aN,aN,aN,aN,aN,aN,aN,aN,aN,aN,aN,aN,aN,aN,aN,aN,aN,aN,aN,aN,aN,aN,aN,aN,aN,aN,aN,aN,aN,aN,aN,aN,aN,aN,aN,aN,aN,aN,aN,aN,aN,aN,aN,aN,aN,aN] [(0,.cells ((kidsR p j k).flatMap encZ))] 1)
  (fun j=>p.length - j) 1 ⟨by omega,by decide,by rw [hk1];rfl⟩ (VS.tm (by simp [leL])) ?_
 rintro j t ⟨hj,hj0,rfl⟩
 by_cases hjl:j<p.length
 ·have rj:=rowNd hjl
  have ej:=Q0o hjl;have hsu:=Q3p p j k;have hol:=hrl j;rw [ej] at hsu;generalize kidsR p j k=o at hsu hol ⊢;have E1:(o.flatMap encZ).length=o.length:=lenZ o;have E2:¬(o.length+1≤o.length):=by omega
  have E3:(o.length+1)*9≤17179869184:=by omega
  have E6:∀ x,o.flatMap encZ++[AV.g (.int .i64 x)]=(o++[x]).flatMap encZ:=fun x=>by rw [List.flatMap_append];rfl
  by_cases hx:p[j].up=(k:Int)
  ·have fx:=eq_true hx
   rw [if_pos ⟨hj0,hx⟩] at hsu
   (repeat ((try with_reducible refine W.step (b:=false) ?_);simp (decide:=true) only [go_sem,↓reduceIte,Nat.reduceAdd,Nat.reduceSub,hjl,rj,fx,E1,E2,E3]))
   refine ⟨j+1,_,⟨by omega,by omega,rfl⟩,by show p.length - (j+1)<p.length - j;omega,VS.ren [(0,2)] (by simp) (by simp) (by simp) ?_ ?_⟩
   ·rw [up1 (by omega),hsu]
    simp only [go_sem,↓reduceIte,Nat.reduceAdd,Nat.reduceSub,Nat.reduceMul,Nat.reduceEqDiff,Nat.reduceLeDiff,Nat.reduceLT,Int.reduceLE,Int.reduceLT,Int.reduceToNat,Int.reduceEq,List.length_append]
   ·rw [hsu]
    exact reM_w rfl (by rw [←E6];rfl) (ids_Z _)
  ·have fx:=eq_false hx
   rw [if_neg (fun h=>hx h.2),List.append_nil] at hsu
   (repeat ((try with_reducible refine W.step (b:=false) ?_);simp (decide:=true) only [go_sem,↓reduceIte,Nat.reduceAdd,Nat.reduceSub,hjl,rj,fx]))
   refine ⟨j+1,_,⟨by omega,by omega,rfl⟩,by show p.length - (j+1)<p.length - j;omega,?_⟩;rw [up1 (by omega),hsu];exact VS.tm (by simp [leL])
 obtain rfl:j=p.length:=by omega
 have rk:=rowNd hlt;have ek:=Q0o hlt;have hol:=hrl p.length;refine W.vs (s1:=stL [(.sl p.length 5 (p.flatMap encNd)),aN,(.g (.bool false)),aN,(.g (.int .i64 (k:Int))),(.sl (kidsR p p.length k).length 1 ((kidsR p p.length k).flatMap encZ)),(.g (.int .i64 (p.length:Int))),aN,aN,aN,aN,aN,aN,aN,aN,aN,aN,aN,aN,aN,aN,aN,aN,aN,aN,aN,aN,aN,aN,aN,aN,aN,aN,aN,aN,aN,aN,aN,aN,aN,aN,aN,aN,aN,aN,aN,aN,aN,aN,aN,aN,aN,aN,aN,aN,aN,aN,aN,aN,aN,aN,aN,aN,aN,aN,aN,aN,aN,aN,aN,aN,aN,aN,aN,aN,aN,aN,aN,aN,aN,aN,aN,aN,aN,aN,aN,aN,aN,aN,aN,aN,aN] [] 1) ?_ ?_
 ·refine VS.sealT 0 _ rfl (plainZ _) ?_ trivial
  simp only [Q4b,frL_nil,frA_any,Q4c,and_true,true_and];exact .inr (.inr ⟨0,_,1,_,rfl,by rw [List.drop_zero,Nat.mul_one,takeZ],by rw [lenZ];omega⟩)
 (repeat ((try with_reducible refine W.step (b:=false) ?_);simp (decide:=true) only [go_sem,↓reduceIte,Nat.reduceAdd,Nat.reduceSub,hjl,hlt,rk]))
 refine AtCall.mk (ints_p (kidsR p p.length k) p[k].kids (by omega)) ?_
 by_cases hq:kidsR p p.length k=p[k].kids
 ·rw [decide_eq_true hq]
  (repeat ((try with_reducible refine W.step (b:=false) ?_);simp (decide:=true) only [go_sem,↓reduceIte,Nat.reduceAdd,Nat.reduceSub]))
  refine ⟨k+1,_,⟨by omega,fun i hi=>?_,rfl⟩,by show p.length - (k+1)<p.length - k;omega,?_⟩
  ·rcases Nat.lt_or_ge i k with h3 | h3
   ·exact hsm i h3
   ·obtain rfl:i=k:=by omega
    rw [ek];exact hq.symm
  ·rw [up1 (by omega)]
   exact VS.ren [] (by simp) (by simp) (by simp) (by simp only [go_sem,↓reduceIte,Nat.reduceAdd,Nat.reduceSub,Nat.reduceMul,Nat.reduceEqDiff,Nat.reduceLeDiff,Nat.reduceLT,Int.reduceLE,Int.reduceLT,Int.reduceToNat,Int.reduceEq]) trivial
 ·rw [decide_eq_false hq]
  have hf:(List.range p.length).all (fun k:Nat=>decide ((ndAt p k).kids=kidsR p p.length k))=false:=List.all_eq_false.2 ⟨k,List.mem_range.2 hlt,by rw [ek,decide_eq_false (fun e=>hq e.symm)];decide⟩;rw [hf]
  (repeat ((try with_reducible refine W.step (b:=false) ?_);simp (decide:=true) only [go_sem,↓reduceIte,Nat.reduceAdd,Nat.reduceSub]))
  exact Q0a _ (.inr rfl) rfl (.plain rfl)
attribute [go_sem] appL newsA isSlice
theorem ag_msafe:aggO Tryz.prog 195=some (true,2):=by kernel_rfl
theorem ag_asafe:aggO Tryz.prog 48=some (true,2):=by kernel_rfl
theorem ag_mworld:aggO Tryz.prog 198=some (true,5):=by kernel_rfl
theorem sz_msafe:szO Tryz.prog 195=some 2:=by kernel_rfl
theorem sz_asafe:szO Tryz.prog 48=some 2:=by kernel_rfl
theorem sz_mworld:szO Tryz.prog 198=some 5:=by kernel_rfl
theorem fl_msafe0:fldO Tryz.prog 195 0=some (0,48):=by kernel_rfl
theorem fl_asafe0:fldO Tryz.prog 48 0=some (0,46):=by kernel_rfl
theorem fl_asafe1:fldO Tryz.prog 48 1=some (1,46):=by kernel_rfl
theorem fl_mworld0:fldO Tryz.prog 198 0=some (0,195):=by kernel_rfl
theorem fl_mworld1:fldO Tryz.prog 198 1=some (2,23):=by kernel_rfl
theorem fl_mworld2:fldO Tryz.prog 198 2=some (3,37):=by kernel_rfl
theorem fl_mworld3:fldO Tryz.prog 198 3=some (4,196):=by kernel_rfl
theorem ze_simp:zeroO Tryz.prog 141=some [.g (.int .i64 0),.g (.string ⟨#[]⟩),.g (.string ⟨#[]⟩),.g (.int .i64 0),.g (.int .i64 0),.g (.slice none 0 0)]:=by kernel_rfl
attribute [go_sem] ag_msafe ag_asafe ag_mworld sz_msafe sz_asafe sz_mworld fl_msafe0 fl_asafe0 fl_asafe1 fl_mworld0 fl_mworld1 fl_mworld2 fl_mworld3 ze_simp
theorem VSkeep {GT:GTab} {E:Beg} {l l':List AV} {m m':ML} {n n':Nat} (hE:E.nx≤n') (hm:∀ p∈m',p.1<n'∧ltB n' p.2∧getL m p.1=some p.2) (hl:keepT n' l' l):VS GT E (stL l m n) (stL l' m' n') :=
 VS.renF (fun c=>c) (fun _ _=>rfl) (fun _ h=>h) hE (fun _ _ _ _ _ _ h=>h) (fun c k h=>by rw [reFB_same];exact hm (c,k) (Q1a h)) (keepT_re hl)
structure OkSf (S:Saf):Prop where
 cls:S.cls.length≤1000000
 atts:S.atts.length≤1000000
 size:∀ x∈S.cls,x.size≤1000000
theorem cany_p (s:ByteArray) (hs:s.size≤1000000):PureN Tryz.prog gt0 382 [.g (.string s),.g (.string blanks5)] (.g (.bool (s.data.toList.any isBl))):=by
 refine PureN.ofC rfl ⟨_,Tryz.func382,by kernel_rfl,by kernel_rfl⟩ fun w rargs ha=>?_;obtain ⟨v0,vs,e0,h1,v1,vs1,rfl,h2,h3⟩:=ha;rw [VRs] at h3;subst h3;obtain rfl:rargs=#[v0,v1]:=by rw [←Array.toList_inj];exact e0
 obtain rfl:v0=.string s:=h1;obtain rfl:v1=.string blanks5:=h2;have e:(!(s.data.toList.all fun c=>!isBl c))=s.data.toList.any isBl:=by
  generalize s.data.toList=l
  induction l with
  | nil=>rfl
  | cons x l ih=>rw [List.all_cons,List.any_cons,←ih];cases isBl x <;> simp
 rw [←e];exact cany_any s w hs
def safA (S:Saf):List AV:=[.sl S.cls.length 1 (S.cls.flatMap encN),.sl S.atts.length 1 (S.atts.flatMap encN)]
set_option maxRecDepth 100000 in
set_option maxHeartbeats 4000000 in
theorem clsSafe_p (S:Saf) (name:ByteArray) (hS:OkSf S) (hn:name.size≤1000000):PureN Tryz.prog gt0 360 [.agg (safA S),.g (.string name)] (.g (.bool (clsSafe S name))):=by
 refine PureN.of_w (c:=_) Tryz.func360 rfl (by kernel_rfl) rfl ?_;simp only [Tryz.f360,List.replicate,List.length_cons,List.length_nil,Nat.reduceAdd,Nat.reduceSub,List.cons_append,List.nil_append,safA];unfold clsSafe
 by_cases h0:name=⟨#[]⟩
 ·have f0:=eq_true h0
  rw [decide_eq_true h0,Bool.not_true,Bool.false_and]
  (repeat ((try with_reducible refine W.step (b:=false) ?_);simp (decide:=true) only [go_sem,↓reduceIte,Nat.reduceAdd,Nat.reduceSub,f0]))
  exact Q0a _ (.inr rfl) rfl (.plain rfl)
 ·rw [decide_eq_false h0,Bool.not_false,Bool.true_and]
  (repeat ((try with_reducible refine W.step (b:=false) ?_);simp (decide:=true) only [go_sem,↓reduceIte,Nat.reduceAdd,Nat.reduceSub,h0]))
  refine AtCall.mk (cany_p name hn) ?_
  cases hb:name.data.toList.any isBl with
  | true =>
    (repeat ((try with_reducible refine W.step (b:=false) ?_);simp (decide:=true) only [go_sem,↓reduceIte,Nat.reduceAdd,Nat.reduceSub]))
    exact Q0a _ (.inr rfl) rfl (.plain rfl)
  | false =>
    (repeat ((try with_reducible refine W.step (b:=false) ?_);simp (decide:=true) only [go_sem,↓reduceIte,Nat.reduceAdd,Nat.reduceSub]))
    refine AtCall.mk (containsN_p S.cls name (Nat.le_succ_of_le hS.cls)) ?_
    (repeat ((try with_reducible refine W.step (b:=false) ?_);simp (decide:=true) only [go_sem,↓reduceIte,Nat.reduceAdd,Nat.reduceSub]))
    exact Q0a _ (.inr rfl) rfl (.plain rfl)
set_option maxRecDepth 100000 in
set_option maxHeartbeats 4000000 in
theorem idxFN_p (l:List ByteArray) (hl:l.length≤1000000) (pr:ByteArray→Bool) (g:Nat) (b:AV) (hb:noIds b=true)
 (hc:∀ x∈l,PureN Tryz.prog gt0 g [b,.g (.string x)] (.g (.bool (pr x)))) :
 PureN Tryz.prog gt0 396 [.sl l.length 1 (l.flatMap encN),.fn (.func g) [b] []] (.g (.int .i64 (idxL pr l))):=by
 refine PureN.of_w (c:=_) Tryz.func396 rfl (by kernel_rfl) (by simp [noIdsL,noIds,hb]) ?_;simp only [Tryz.f396,List.replicate,List.length_cons,List.length_nil,Nat.reduceAdd,Nat.reduceSub,List.cons_append,List.nil_append]
 (repeat ((try with_reducible refine W.step (b:=false) ?_);simp (decide:=true) only [go_sem,↓reduceIte,Nat.reduceAdd,Nat.reduceSub]))
 refine W.loop (s1:=stL [(.sl l.length 1 (l.flatMap encN)),(.fn (.func g) [b] []),aN,aN,aN,aN,aN,(.g (.int .i64 (l.length:Int))),(.g (.int .i64 ((0:Nat):Int))),aN,aN,aN,aN,aN,aN,aN,aN,aN,aN] [] 0)
  (fun (k:Nat) t=>k≤l.length∧(∀ x∈l.take k,pr x=false)∧t=stL [(.sl l.length 1 (l.flatMap encN)),(.fn (.func g) [b] []),aN,aN,aN,aN,aN,(.g (.int .i64 (l.length:Int))),(.g (.int .i64 (k:Int))),aN,aN,aN,aN,aN,aN,aN,aN,aN,aN] [] 0) (fun k=>l.length - k) 0 ⟨Nat.zero_le _,by simp,rfl⟩ (VS.tm (by simp [leL])) ?_
 rintro k t ⟨hk,he,rfl⟩
 by_cases hlt:k<l.length
 ·have r:=rowN hlt
  (repeat ((try with_reducible refine W.step (b:=false) ?_);simp (decide:=true) only [go_sem,↓reduceIte,Nat.reduceAdd,Nat.reduceSub,hlt,r]))
  refine AtCall.mk (hc _ (List.getElem_mem hlt)) ?_
  cases hx:pr l[k] with
  | true =>
    rw [Q3i hlt he hx]
    (repeat ((try with_reducible refine W.step (b:=false) ?_);simp (decide:=true) only [go_sem,↓reduceIte,Nat.reduceAdd,Nat.reduceSub]))
    exact Q0a _ (.inr rfl) rfl (.plain rfl)
  | false =>
    (repeat ((try with_reducible refine W.step (b:=false) ?_);simp (decide:=true) only [go_sem,↓reduceIte,Nat.reduceAdd,Nat.reduceSub]))
    refine ⟨k+1,_,⟨by omega,Q1e hlt he hx,rfl⟩,by show l.length - (k+1)<l.length - k;omega,VS.tm ?_⟩;rw [up1 (by omega)];simp [leL]
 ·rw [Q2v (fun x hx=>he x (by rw [List.take_of_length_le (by omega)];exact hx))]
  (repeat ((try with_reducible refine W.step (b:=false) ?_);simp (decide:=true) only [go_sem,↓reduceIte,Nat.reduceAdd,Nat.reduceSub,hlt]))
  exact Q0a _ (.inr rfl) rfl (.plain rfl)
set_option maxRecDepth 100000 in
set_option maxHeartbeats 4000000 in
theorem conFN_p (l:List ByteArray) (hl:l.length≤1000000) (pr:ByteArray→Bool) (g:Nat) (b:AV) (hb:noIds b=true)
 (hc:∀ x∈l,PureN Tryz.prog gt0 g [b,.g (.string x)] (.g (.bool (pr x)))) :
 PureN Tryz.prog gt0 381 [.sl l.length 1 (l.flatMap encN),.fn (.func g) [b] []] (.g (.bool (l.any pr))):=by
 refine PureN.of_w (c:=_) Tryz.func381 rfl (by kernel_rfl) (by simp [noIdsL,noIds,hb]) ?_;simp only [Tryz.f381,List.replicate,List.length_cons,List.length_nil,Nat.reduceAdd,Nat.reduceSub,List.cons_append,List.nil_append]
 (repeat ((try with_reducible refine W.step (b:=false) ?_);simp (decide:=true) only [go_sem,↓reduceIte,Nat.reduceAdd,Nat.reduceSub]))
 refine AtCall.mk (idxFN_p l hl pr g b hb hc) ?_;rw [←idx_ge]
 (repeat ((try with_reducible refine W.step (b:=false) ?_);simp (decide:=true) only [go_sem,↓reduceIte,Nat.reduceAdd,Nat.reduceSub]))
 exact Q0a _ (.inr rfl) rfl (.plain rfl)
set_option maxRecDepth 100000 in
set_option maxHeartbeats 4000000 in
theorem attSafe_p (S:Saf) (name:ByteArray) (hS:OkSf S):PureN Tryz.prog gt0 359 [.agg (safA S),.g (.string name)] (.g (.bool (attSafe S name))):=by
 refine PureN.of_w (c:=_) Tryz.func359 rfl (by kernel_rfl) rfl ?_;have HC:=conFN_p S.cls hS.cls (clsSafe S) 360 (.agg (safA S)) rfl fun x hx=>clsSafe_p S x hS (hS.size x hx);simp only [Tryz.f359,List.replicate,List.length_cons,List.length_nil,Nat.reduceAdd,Nat.reduceSub,List.cons_append,List.nil_append,safA] at HC ⊢;unfold attSafe
 by_cases hc:name=clsB
 ·have fc:(name=⟨#[99,108,97,115,115]⟩)=True:=eq_true hc
  rw [if_pos hc]
  (repeat ((try with_reducible refine W.step (b:=false) ?_);simp (decide:=true) only [go_sem,↓reduceIte,Nat.reduceAdd,Nat.reduceSub,fc]))
  refine AtCall.mk HC ?_
  (repeat ((try with_reducible refine W.step (b:=false) ?_);simp (decide:=true) only [go_sem,↓reduceIte,Nat.reduceAdd,Nat.reduceSub]))
  exact Q0a _ (.inr rfl) rfl (.plain rfl)
 have fc:(name=⟨#[99,108,97,115,115]⟩)=False:=eq_false hc;rw [if_neg hc]
 by_cases h0:name=⟨#[]⟩
 ·have f0:=eq_true h0
  rw [decide_eq_true h0,Bool.not_true,Bool.false_and]
  (repeat ((try with_reducible refine W.step (b:=false) ?_);simp (decide:=true) only [go_sem,↓reduceIte,Nat.reduceAdd,Nat.reduceSub,fc,f0]))
  exact Q0a _ (.inr rfl) rfl (.plain rfl)
 ·rw [decide_eq_false h0,Bool.not_false,Bool.true_and]
  (repeat ((try with_reducible refine W.step (b:=false) ?_);simp (decide:=true) only [go_sem,↓reduceIte,Nat.reduceAdd,Nat.reduceSub,fc,h0]))
  refine AtCall.mk (containsN_p S.atts name (Nat.le_succ_of_le hS.atts)) ?_
  (repeat ((try with_reducible refine W.step (b:=false) ?_);simp (decide:=true) only [go_sem,↓reduceIte,Nat.reduceAdd,Nat.reduceSub]))
  exact Q0a _ (.inr rfl) rfl (.plain rfl)
set_option maxRecDepth 100000 in
set_option maxHeartbeats 4000000 in
theorem maySafe_p (S:Saf) (x:Simp) (hS:OkSf S) (hx:x.name.size≤1000000):PureN Tryz.prog gt0 341 [.agg (safA S),.agg (encS x)] (.g (.bool (maySafe S x.kind x.name))):=by
 obtain ⟨kind,name,value,a,b,l⟩:=x;have HA:=attSafe_p S idB hS;have HB:=attSafe_p S name hS;have HC:=clsSafe_p S name hS hx;refine PureN.of_w (c:=_) Tryz.func341 rfl (by kernel_rfl) (by simp [noIdsL,noIds,noIds_S,safA]) ?_;simp only [Tryz.f341,List.replicate,List.length_cons,List.length_nil,Nat.reduceAdd,Nat.reduceSub,List.cons_append,List.nil_append,safA,encS_m] at HA HB HC ⊢;show W _ _ _ _ _ (postP _ _ (.g (.bool (maySafe S kind name))));unfold maySafe
 by_cases h3:kind=3
 ·have f3:=eq_true h3
  rw [if_pos h3]
  (repeat ((try with_reducible refine W.step (b:=false) ?_);simp (decide:=true) only [go_sem,↓reduceIte,Nat.reduceAdd,Nat.reduceSub,f3]))
  refine AtCall.mk HA ?_
  (repeat ((try with_reducible refine W.step (b:=false) ?_);simp (decide:=true) only [go_sem,↓reduceIte,Nat.reduceAdd,Nat.reduceSub]))
  exact Q0a _ (.inr rfl) rfl (.plain rfl)
 have f3:=eq_false h3;rw [if_neg h3]
 by_cases h4:kind=4
 ·have f4:=eq_true h4
  rw [if_pos h4]
  (repeat ((try with_reducible refine W.step (b:=false) ?_);simp (decide:=true) only [go_sem,↓reduceIte,Nat.reduceAdd,Nat.reduceSub,f3,f4]))
  refine AtCall.mk HC ?_
  (repeat ((try with_reducible refine W.step (b:=false) ?_);simp (decide:=true) only [go_sem,↓reduceIte,Nat.reduceAdd,Nat.reduceSub]))
  exact Q0a _ (.inr rfl) rfl (.plain rfl)
 have f4:=eq_false h4;rw [if_neg h4]
 by_cases h5:kind=5
 ·have f5:=eq_true h5
  rw [if_pos (.inl h5)]
  (repeat ((try with_reducible refine W.step (b:=false) ?_);simp (decide:=true) only [go_sem,↓reduceIte,Nat.reduceAdd,Nat.reduceSub,f3,f4,f5]))
  refine AtCall.mk HB ?_
  (repeat ((try with_reducible refine W.step (b:=false) ?_);simp (decide:=true) only [go_sem,↓reduceIte,Nat.reduceAdd,Nat.reduceSub]))
  exact Q0a _ (.inr rfl) rfl (.plain rfl)
 have f5:=eq_false h5
 by_cases h6:kind=6
 ·have f6:=eq_true h6
  rw [if_pos (.inr h6)]
  (repeat ((try with_reducible refine W.step (b:=false) ?_);simp (decide:=true) only [go_sem,↓reduceIte,Nat.reduceAdd,Nat.reduceSub,f3,f4,f5,f6]))
  refine AtCall.mk HB ?_
  (repeat ((try with_reducible refine W.step (b:=false) ?_);simp (decide:=true) only [go_sem,↓reduceIte,Nat.reduceAdd,Nat.reduceSub]))
  exact Q0a _ (.inr rfl) rfl (.plain rfl)
 have f6:=eq_false h6;rw [if_neg (fun h=>h.elim h5 h6)]
 (repeat ((try with_reducible refine W.step (b:=false) ?_);simp (decide:=true) only [go_sem,↓reduceIte,Nat.reduceAdd,Nat.reduceSub,f3,f4,f5,f6]))
 exact Q0a _ (.inr rfl) rfl (.plain rfl)
set_option maxRecDepth 100000 in
set_option maxHeartbeats 4000000 in
theorem within_p (a:Int):PureN Tryz.prog gt0 119 [.g (.int .i64 a)] (.g (.int .i64 (wiQ a))):=by
 refine PureN.of_w (c:=_) Tryz.func119 rfl (by kernel_rfl) rfl ?_;simp only [Tryz.f119,List.replicate,List.length_cons,List.length_nil,Nat.reduceAdd,Nat.reduceSub,List.cons_append,List.nil_append];have hw:(if 2<(if a<0 then 0 else a) then 2 else if a<0 then 0 else a)=wiQ a:=by
  unfold wiQ
  by_cases h:a<0
  ·rw [if_pos h];omega
  ·rw [if_neg h];split <;> omega
 (repeat ((try with_reducible refine W.step (b:=false) ?_);simp (decide:=true) only [go_sem,↓reduceIte,Nat.reduceAdd,Nat.reduceSub,hw]))
 exact Q0a _ (.inr rfl) rfl (.plain rfl)
end Go.Proofs.YtabliahkhafddaaGreat
end
