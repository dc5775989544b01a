/- maybe.Of, crit.Keeps: by walks over shapes. -/
import Derived.Test.YtabliahkhafddaaGreatLd5
import Derived.Test.YtabliahkhafddaaGreatLc7
import Derived.Test.YtabliahkhafddaaGreatLd2
import Derived.Test.YtabliahkhafddaaGreatLc8
import Derived.JoinedOf
import Derived.WalkKit
import Derived.ProofKit
import Derived.OpenShut
import Derived.SizedLaws
import Derived.WideKeyArgs
import Derived.Test.YtabliahkhafddaaGreatRows
import Derived.Test.YtabliahkhafddaaGreatLd0
import Derived.Sort.OwnSortedInts
set_option linter.unusedSimpArgs false
noncomputable section
namespace Go.Proofs.YtabliahkhafddaaGreat
open Go.RowKit Go.Ev
open Go.Ev.AV renaming any→aN
attribute [local go_sem] eq_self false_and and_false Bool.false_eq_true List.set_cons_succ List.set_cons_zero List.getD_cons_succ List.getD_cons_zero List.getElem?_cons_succ List.getElem?_cons_zero true_and and_true and_self Bool.not_true Bool.not_false Nat.add_zero Nat.zero_add Nat.mul_one Int.toNat_natCast Int.natCast_nonneg Int.ofNat_lt Option.bind_some Option.map_some List.map_cons List.map_nil decide_true decide_false BEq.rfl Bool.and_self Bool.and_true Bool.and_false beq_self_eq_true List.cons_append List.nil_append List.take_zero List.take_succ_cons List.take_nil List.drop_succ_cons List.drop_zero List.drop_nil List.append_nil List.length_cons List.length_nil List.all_cons List.all_nil Nat.le_refl Int.le_refl Option.map_none List.replicate_zero List.replicate_succ Nat.zero_mul Nat.sub_zero Nat.zero_le Nat.le_zero_eq Q1z Option.some_or Option.none_or Option.or_none Option.isSome_some Option.isSome_none Option.getD_some Option.getD_none Int.toNat_zero Int.natCast_zero Int.natCast_one Int.cast_ofNat_Int List.toList_toArray
attribute [go_sem] appL newsA isSlice
theorem find_hit {α:Type} {pr:α→Bool} {l:List α} {k:Nat} (hk:k<l.length) (h:∀ x∈l.take k,pr x=false) (hp:pr l[k]=true):l.find? pr=some l[k]:=by
 have e:l=l.take k++l[k]::l.drop (k+1):=by rw [←List.drop_eq_getElem_cons hk,List.take_append_drop]
 conv=>lhs;rw [e]
 have h0:(l.take k).find? pr=none:=by
  rw [List.find?_eq_none];intro x hx;rw [h x hx];decide
 rw [List.find?_append,h0,List.find?_cons,hp];rfl
theorem find_miss {α:Type} {pr:α→Bool} {l:List α} (h:∀ x∈l,pr x=false):l.find? pr=none:=by
 rw [List.find?_eq_none];intro x hx;rw [h x hx];decide
theorem reM_w {n1:Nat} {q:Ren} {m:ML} {c b:Nat} {cs:List AV} (h1:lkE n1 q c=some b) (h2:getL m b=some (.cells cs)) (h3:noIdsL cs=true):reM n1 q m [(c,.cells cs)] :=
 ⟨⟨b,.cells cs,h1,h2,cs,rfl,.inl ⟨rfl,h3⟩⟩,trivial⟩
def inW (l:List ByteArray) (x:ByteArray):Bool:=l.any fun y=>decide (y=x)
theorem plainZ (l:List Int):∀ a∈l.flatMap encZ,plainA a=true:=fun a ha=>by
 obtain ⟨x,-,hx⟩:=List.mem_flatMap.1 ha;simp [encZ] at hx;subst hx;rfl
set_option maxRecDepth 100000 in
set_option maxHeartbeats 4000000 in
theorem element10_p (p:List Nod) (n:Int):PureN Tryz.prog gt0 17 [.sl p.length 5 (p.flatMap encNd),.g (.int .i64 n)] (.g (.bool (elemB p n))):=by
 refine PureN.of_w (c:=_) Tryz.func17 rfl (by kernel_rfl) rfl ?_;simp only [Tryz.f17,List.replicate,List.length_cons,List.length_nil,Nat.reduceAdd,Nat.reduceSub,List.cons_append,List.nil_append];unfold elemB
 by_cases h0:0≤n
 ·obtain ⟨k,rfl⟩:∃ k:Nat,n=k:=⟨n.toNat,by omega⟩
  by_cases hk:k<p.length
  ·have r:=rowNd hk
   rw [Q0p hk]
   by_cases hn:p[k].name=⟨#[]⟩
   ·have fn:=eq_true hn
    (repeat ((try with_reducible refine W.step (b:=false) ?_);simp (decide:=true) only [go_sem,↓reduceIte,Nat.reduceAdd,Nat.reduceSub,hk,r,fn]))
    exact Q0c _ (.inr rfl) rfl (.plain rfl)
   ·(repeat ((try with_reducible refine W.step (b:=false) ?_);simp (decide:=true) only [go_sem,↓reduceIte,Nat.reduceAdd,Nat.reduceSub,hk,r,hn]))
    exact Q0c _ (.inr rfl) rfl (.plain rfl)
  ·(repeat ((try with_reducible refine W.step (b:=false) ?_);simp (decide:=true) only [go_sem,↓reduceIte,Nat.reduceAdd,Nat.reduceSub,hk]))
   exact Q0c _ (.inr rfl) rfl (.plain rfl)
 ·(repeat ((try with_reducible refine W.step (b:=false) ?_);simp (decide:=true) only [go_sem,↓reduceIte,Nat.reduceAdd,Nat.reduceSub,h0]))
  exact Q0c _ (.inr rfl) rfl (.plain rfl)
set_option maxRecDepth 100000 in
set_option maxHeartbeats 4000000 in
theorem attr10_p (p:List Nod) (n:Int) (s:ByteArray) (hp:OkPg p):PureN Tryz.prog gt0 14 [.sl p.length 5 (p.flatMap encNd),.g (.int .i64 n),.g (.string s)] (.tup [.g (.string ((atM p n s).getD ⟨#[]⟩)),.g (.bool (atM p n s).isSome)]):=by
 have HE:=element10_p p n;refine PureN.of_w (c:=_) Tryz.func14 rfl (by kernel_rfl) rfl ?_;simp only [Tryz.f14,List.replicate,List.length_cons,List.length_nil,Nat.reduceAdd,Nat.reduceSub,List.cons_append,List.nil_append]
 (repeat ((try with_reducible refine W.step (b:=false) ?_);simp (decide:=true) only [go_sem,↓reduceIte,Nat.reduceAdd,Nat.reduceSub]))
 refine AtCall.mk HE ?_
 by_cases he:elemB p n=true
 ·have hat:atM p n s=((ndAt p n).attrs.find? fun x=>decide (x.name=s)).map (·.value):=if_pos he
  rw [he];obtain ⟨k,rfl⟩:∃ k:Nat,n=k:=⟨n.toNat,by simp [elemB] at he;omega⟩;have hk:k<p.length:=by simp [elemB] at he;omega
  rw [Q0p hk] at hat;have r:=rowNd hk;have hla:=hp.attrs _ (List.getElem_mem hk)
  (repeat ((try with_reducible refine W.step (b:=false) ?_);simp (decide:=true) only [go_sem,↓reduceIte,Nat.reduceAdd,Nat.reduceSub,hk,r]))
  generalize p[k].attrs=l at hat hla ⊢
  refine W.loop (s1:=stL [aN,aN,(.g (.string s)),aN,aN,aN,(.g (.string ⟨#[]⟩)),(.g (.bool false)),(.sl l.length 2 (l.flatMap encA)),(.g (.int .i64 ((0:Nat):Int))),aN,aN,aN,aN,aN,aN,aN,aN,aN,aN,aN,aN,aN,aN,aN,aN,aN,aN,aN,aN,aN,aN,aN,aN,aN,aN,aN] [] 0)
   (fun (k:Nat) t=>k≤l.length∧(∀ x∈l.take k,decide (x.name=s)=false)∧t=stL [aN,aN,(.g (.string s)),aN,aN,aN,(.g (.string ⟨#[]⟩)),(.g (.bool false)),(.sl l.length 2 (l.flatMap encA)),(.g (.int .i64 (k:Int))),aN,aN,aN,aN,aN,aN,aN,aN,aN,aN,aN,aN,aN,aN,aN,aN,aN,aN,aN,aN,aN,aN,aN,aN,aN,aN,aN] [] 0) (fun k=>l.length - k) 0 ⟨Nat.zero_le _,by simp,rfl⟩ (VS.tm (by simp [leL])) ?_
  rintro i t ⟨hi,hno,rfl⟩
  by_cases hlt:i<l.length
  ·have ra:=rowA hlt
   by_cases hx:l[i].name=s
   ·have fx:=eq_true hx
    rw [hat,find_hit hlt hno (decide_eq_true hx)]
    (repeat ((try with_reducible refine W.step (b:=false) ?_);simp (decide:=true) only [go_sem,↓reduceIte,Nat.reduceAdd,Nat.reduceSub,hlt,ra,fx]))
    exact Q2w _ (.inr rfl) rfl rfl rfl rfl
   ·(repeat ((try with_reducible refine W.step (b:=false) ?_);simp (decide:=true) only [go_sem,↓reduceIte,Nat.reduceAdd,Nat.reduceSub,hlt,ra,hx]))
    refine ⟨i+1,_,⟨by omega,take_next (pr:=fun x:Atr=>decide (x.name=s)) hlt hno (decide_eq_false hx),rfl⟩,by show l.length - (i+1)<l.length - i;omega,VS.tm ?_⟩;rw [up1 (by omega)];simp [leL]
  ·rw [hat,find_miss (fun x hx=>hno x (by rw [List.take_of_length_le (by omega)];exact hx))]
   (repeat ((try with_reducible refine W.step (b:=false) ?_);simp (decide:=true) only [go_sem,↓reduceIte,Nat.reduceAdd,Nat.reduceSub,hlt]))
   exact Q2w _ (.inr rfl) rfl rfl rfl rfl
 ·have hat:atM p n s=none:=if_neg he
  rw [hat,Bool.not_eq_true _ |>.mp he]
  (repeat ((try with_reducible refine W.step (b:=false) ?_);simp (decide:=true) only [go_sem,↓reduceIte,Nat.reduceAdd,Nat.reduceSub]))
  exact Q2w _ (.inr rfl) rfl rfl rfl rfl
structure WdI (L:List UInt8) (i a:Nat) (o:List ByteArray):Prop where
 le:i≤L.length+1
 at_:a≤i
 eq:i≤L.length→(o.map fun x=>x.data.toList)++wordsL ((L.take i).drop a) (L.drop i)=wordsL [] L
 fin:i=L.length+1→(o.map fun x=>x.data.toList)=wordsL [] L
 len:o.length≤i
theorem ba_nil {a b:ByteArray}:a++b=⟨#[]⟩↔a=⟨#[]⟩∧b=⟨#[]⟩:=by
 have z:∀ x:ByteArray,x.size=0→x=⟨#[]⟩:=fun x h=>by
  cases x with
  | mk d=>congr 1;exact Array.eq_empty_of_size_eq_zero h
 constructor
 ·intro h
  have h1:=congrArg ByteArray.size h;rw [ByteArray.size_append] at h1;have h2:ByteArray.size ⟨#[]⟩=0:=rfl;exact ⟨z a (by omega),z b (by omega)⟩
 ·rintro ⟨rfl,rfl⟩
  rfl
set_option maxRecDepth 100000 in
set_option maxHeartbeats 4000000 in
theorem tree10_p (p:List Nod) (hp:OkPg p):PureN Tryz.prog gt0 12 [.sl p.length 5 (p.flatMap encNd)] (.g (.bool (treeB p))):=by
 refine PureN.of_w (c:=_) Tryz.func12 rfl (by kernel_rfl) rfl ?_;simp only [Tryz.f12,List.replicate,List.length_cons,List.length_nil,Nat.reduceAdd,Nat.reduceSub,List.cons_append,List.nil_append];have hlen:=hp.len
 by_cases h0:p.length=0
 ·have hb:treeB p=false:=by unfold treeB;rw [decide_eq_true h0];rfl
  rw [hb];have f0:((p.length:Int)=0)=True:=eq_true (by omega)
  (repeat ((try with_reducible refine W.step (b:=false) ?_);simp (decide:=true) only [go_sem,↓reduceIte,Nat.reduceAdd,Nat.reduceSub,f0]))
  exact Q0c _ (.inr rfl) rfl (.plain rfl)
 have f0:((p.length:Int)=0)=False:=eq_false (by omega);have hpos:0<p.length:=by omega
 have r:=rowNd hpos;have e0:=Q0p hpos;simp only [Nat.zero_mul,Nat.zero_add,Int.natCast_zero] at r e0;have f1:(0<(p.length:Int))=True:=eq_true (by omega);have ht0:treeB p=(decide (p[0].up=-1)&&(decide (p[0].name++p[0].text=⟨#[]⟩)&&(decide (p[0].attrs.length=0)&&((List.range p.length).all (fun k:Nat=>decide (k=0)||(decide (0≤(ndAt p k).up)&&decide ((ndAt p k).up<k)))&&(List.range p.length).all (fun k:Nat=>decide ((ndAt p k).kids=kidsR p p.length k)))))):=by
  unfold treeB;rw [decide_eq_false h0,e0];rfl
 rw [ht0]
 by_cases hu:p[0].up=-1
 rotate_left
 ·have fu:=eq_false hu
  rw [decide_eq_false hu,Bool.false_and]
  (repeat ((try with_reducible refine W.step (b:=false) ?_);simp (decide:=true) only [go_sem,↓reduceIte,Nat.reduceAdd,Nat.reduceSub,f0,f1,r,fu]))
  exact Q0c _ (.inr rfl) rfl (.plain rfl)
 have fu:=eq_true hu
 by_cases hs:p[0].name=⟨#[]⟩
 rotate_left
 ·have fs:=eq_false hs
  rw [decide_eq_false (fun e=>hs (ba_nil.1 e).1),Bool.false_and,Bool.and_false]
  (repeat ((try with_reducible refine W.step (b:=false) ?_);simp (decide:=true) only [go_sem,↓reduceIte,Nat.reduceAdd,Nat.reduceSub,f0,f1,r,fu,fs]))
  exact Q0c _ (.inr rfl) rfl (.plain rfl)
 have fs:=eq_true hs
 by_cases hx:p[0].text=⟨#[]⟩
 rotate_left
 ·have fx:=eq_false hx
  rw [decide_eq_false (fun e=>hx (ba_nil.1 e).2),Bool.false_and,Bool.and_false]
  (repeat ((try with_reducible refine W.step (b:=false) ?_);simp (decide:=true) only [go_sem,↓reduceIte,Nat.reduceAdd,Nat.reduceSub,f0,f1,r,fu,fs,fx]))
  exact Q0c _ (.inr rfl) rfl (.plain rfl)
 have fx:=eq_true hx
 by_cases ha:p[0].attrs.length=0
 rotate_left
 ·have fa:((0:Int)<(p[0].attrs.length:Int))=True:=eq_true (by omega)
  have fb:0<p[0].attrs.length:=by omega
  rw [decide_eq_false ha,Bool.false_and,Bool.and_false,Bool.and_false]
  (repeat ((try with_reducible refine W.step (b:=false) ?_);simp (decide:=true) only [go_sem,↓reduceIte,Nat.reduceAdd,Nat.reduceSub,f0,f1,r,fu,fs,fx,fa,fb]))
  exact Q0c _ (.inr rfl) rfl (.plain rfl)
 have fa:((0:Int)<(p[0].attrs.length:Int))=False:=eq_false (by omega);have fb:¬0<p[0].attrs.length:=by omega
 rw [decide_eq_true hu,decide_eq_true (ba_nil.2 ⟨hs,hx⟩),decide_eq_true ha,Bool.true_and,Bool.true_and,Bool.true_and]
 (repeat ((try with_reducible refine W.step (b:=false) ?_);simp (decide:=true) only [go_sem,↓reduceIte,Nat.reduceAdd,Nat.reduceSub,f0,f1,r,fu,fs,fx,fa,fb]))
 clear e0 ht0 hu fu hs fs hx fx ha fa fb r f1 f0
 refine W.loop (s1:=stL [(.sl p.length 5 (p.flatMap encNd)),aN,(.g (.bool false)),(.g (.int .i64 ((1:Nat):Int))),aN,aN,aN,aN,aN,aN,aN,aN,aN,aN,aN,aN,aN,aN,aN,aN,aN,aN,aN,aN,aN,aN,aN,aN,aN,aN,aN,aN,aN,aN,aN,aN,aN,aN,aN,aN,aN,aN,aN,aN,aN,aN,aN,aN,aN,aN,aN,aN,aN,aN,aN,aN,aN,aN,aN,aN,aN,aN,aN,aN,aN,aN,aN,aN,aN,aN,aN,aN,aN,aN,aN,aN,aN,aN,aN,aN,aN,aN,aN,aN,aN,aN,aN,aN,aN,aN,aN,aN] [] 0)
  (fun (k:Nat) t=>k≤p.length∧0<k∧(∀ i:Nat,i<k→0<i→0≤(ndAt p i).up∧(ndAt p i).up<i)∧t=stL [(.sl p.length 5 (p.flatMap encNd)),aN,(.g (.bool false)),(.g (.int .i64 (k:Int))),aN,aN,aN,aN,aN,aN,aN,aN,aN,aN,aN,aN,aN,aN,aN,aN,aN,aN,aN,aN,aN,aN,aN,aN,aN,aN,aN,aN,aN,aN,aN,aN,aN,aN,aN,aN,aN,aN,aN,aN,aN,aN,aN,aN,aN,aN,aN,aN,aN,aN,aN,aN,aN,aN,aN,aN,aN,aN,aN,aN,aN,aN,aN,aN,aN,aN,aN,aN,aN,aN,aN,aN,aN,aN,aN,aN,aN,aN,aN,aN,aN,aN,aN,aN,aN,aN,aN,aN] [] 0)
  (fun k=>p.length - k) 1 ⟨hpos,by decide,fun i h1 h2=>by omega,rfl⟩ (VS.tm (by simp [leL])) ?_
 rintro k t ⟨hk,hk1,hup,rfl⟩
 by_cases hlt:k<p.length
 ·have rk:=rowNd hlt
  have ek:=Q0p hlt
  by_cases hu0:p[k].up<0
  ·have fu:=eq_true hu0
   have hf:(List.range p.length).all (fun k:Nat=>decide (k=0)||(decide (0≤(ndAt p k).up)&&decide ((ndAt p k).up<k)))=false:=by
    refine List.all_eq_false.2 ⟨k,List.mem_range.2 hlt,?_⟩;rw [ek,decide_eq_false (p:=k=0) (by omega),decide_eq_false (p:=0≤p[k].up) (by omega),Bool.false_and];decide
   rw [hf,Bool.false_and]
   (repeat ((try with_reducible refine W.step (b:=false) ?_);simp (decide:=true) only [go_sem,↓reduceIte,Nat.reduceAdd,Nat.reduceSub,hlt,rk,fu]))
   exact Q0c _ (.inr rfl) rfl (.plain rfl)
  have fu:=eq_false hu0
  by_cases hu1:(k:Int)≤p[k].up
  ·have fv:=eq_true hu1
   have hf:(List.range p.length).all (fun k:Nat=>decide (k=0)||(decide (0≤(ndAt p k).up)&&decide ((ndAt p k).up<k)))=false:=by
    refine List.all_eq_false.2 ⟨k,List.mem_range.2 hlt,?_⟩;rw [ek,decide_eq_false (p:=k=0) (by omega),decide_eq_false (p:=p[k].up<(k:Int)) (by omega),Bool.and_false];decide
   rw [hf,Bool.false_and]
   (repeat ((try with_reducible refine W.step (b:=false) ?_);simp (decide:=true) only [go_sem,↓reduceIte,Nat.reduceAdd,Nat.reduceSub,hlt,rk,fu,fv]))
   exact Q0c _ (.inr rfl) rfl (.plain rfl)
  have fv:=eq_false hu1
  (repeat ((try with_reducible refine W.step (b:=false) ?_);simp (decide:=true) only [go_sem,↓reduceIte,Nat.reduceAdd,Nat.reduceSub,hlt,rk,fu,fv]))
  refine ⟨k+1,_,⟨by omega,by omega,fun i h1 h2=>?_,rfl⟩,by show p.length - (k+1)<p.length - k;omega,VS.tm ?_⟩
  ·rcases Nat.lt_or_ge i k with h3 | h3
   ·exact hup i h3 h2
   ·obtain rfl:i=k:=by omega
    rw [ek];omega
  ·rw [up1 (by omega)]
   simp [leL]
 obtain rfl:k=p.length:=by omega
 have hup1:(List.range p.length).all (fun k:Nat=>decide (k=0)||(decide (0≤(ndAt p k).up)&&decide ((ndAt p k).up<k)))=true:=by
  rw [List.all_eq_true];intro i hi
  by_cases h0:i=0
  ·rw [decide_eq_true h0];rfl
  ·obtain ⟨g1,g2⟩:=hup i (List.mem_range.1 hi) (by omega)
   rw [decide_eq_true g1,decide_eq_true g2,Bool.true_and,Bool.or_true]
 rw [hup1,Bool.true_and]
 (repeat ((try with_reducible refine W.step (b:=false) ?_);simp (decide:=true) only [go_sem,↓reduceIte,Nat.reduceAdd,Nat.reduceSub,hlt]))
 clear hup hup1 hlt hk hk1
 refine W.loop (s1:=stL [(.sl p.length 5 (p.flatMap encNd)),aN,(.g (.bool false)),aN,(.g (.int .i64 ((0:Nat):Int))),aN,aN,aN,aN,aN,aN,aN,aN,aN,aN,aN,aN,aN,aN,aN,aN,aN,aN,aN,aN,aN,aN,aN,aN,aN,aN,aN,aN,aN,aN,aN,aN,aN,aN,aN,aN,aN,aN,aN,aN,aN,aN,aN,aN,aN,aN,aN,aN,aN,aN,aN,aN,aN,aN,aN,aN,aN,aN,aN,aN,aN,aN,aN,aN,aN,aN,aN,aN,aN,aN,aN,aN,aN,aN,aN,aN,aN,aN,aN,aN,aN,aN,aN,aN,aN,aN,aN] [] 0)
  (fun (k:Nat) t=>k≤p.length∧(∀ i:Nat,i<k→(ndAt p i).kids=kidsR p p.length i)∧t=stL [(.sl p.length 5 (p.flatMap encNd)),aN,(.g (.bool false)),aN,(.g (.int .i64 (k:Int))),aN,aN,aN,aN,aN,aN,aN,aN,aN,aN,aN,aN,aN,aN,aN,aN,aN,aN,aN,aN,aN,aN,aN,aN,aN,aN,aN,aN,aN,aN,aN,aN,aN,aN,aN,aN,aN,aN,aN,aN,aN,aN,aN,aN,aN,aN,aN,aN,aN,aN,aN,aN,aN,aN,aN,aN,aN,aN,aN,aN,aN,aN,aN,aN,aN,aN,aN,aN,aN,aN,aN,aN,aN,aN,aN,aN,aN,aN,aN,aN,aN,aN,aN,aN,aN,aN,aN] [] 0)
  (fun k=>p.length - k) 0 ⟨Nat.zero_le _,fun i hi=>absurd hi (Nat.not_lt_zero _),rfl⟩ (VS.tm (by simp [leL])) ?_
 rintro k t ⟨hk,hsm,rfl⟩
 by_cases hlt:k<p.length
 rotate_left
 ·have hf:(List.range p.length).all (fun k:Nat=>decide ((ndAt p k).kids=kidsR p p.length k))=true:=by
   rw [List.all_eq_true];exact fun i hi=>decide_eq_true (hsm i (by have:=List.mem_range.1 hi;omega))
  rw [hf]
  (repeat ((try with_reducible refine W.step (b:=false) ?_);simp (decide:=true) only [go_sem,↓reduceIte,Nat.reduceAdd,Nat.reduceSub,hlt]))
  exact Q0c _ (.inr rfl) rfl (.plain rfl)
 have hrl:∀ j,(kidsR p j k).length≤j:=fun j=>by unfold kidsR;rw [List.length_map];exact Nat.le_trans (List.length_filter_le _ _) (by simp)
 have hk1:kidsR p 1 k=[]:=by unfold kidsR;simp
 (repeat ((try with_reducible refine W.step (b:=false) ?_);simp (decide:=true) only [go_sem,↓reduceIte,Nat.reduceAdd,Nat.reduceSub,hlt]))
 refine W.loop (s1:=stL [(.sl p.length 5 (p.flatMap encNd)),aN,(.g (.bool false)),aN,(.g (.int .i64 (k:Int))),(.gs 0 0 0 1 0),(.g (.int .i64 ((1:Nat):Int))),aN,aN,aN,aN,aN,aN,aN,aN,aN,aN,aN,aN,aN,aN,aN,aN,aN,aN,aN,aN,aN,aN,aN,aN,aN,aN,aN,aN,aN,aN,aN,aN,aN,aN,aN,aN,aN,aN,aN,aN,aN,aN,aN,aN,aN,aN,aN,aN,aN,aN,aN,aN,aN,aN,aN,aN,aN,aN,aN,aN,aN,aN,aN,aN,aN,aN,aN,aN,aN,aN,aN,aN,aN,aN,aN,aN,aN,aN,aN,aN,aN,aN,aN,aN,aN] [(0,.cells [])] 1)
  (fun (j:Nat) t=>j≤p.length∧0<j∧t=stL [(.sl p.length 5 (p.flatMap encNd)),aN,(.g (.bool false)),aN,(.g (.int .i64 (k:Int))),(.gs 0 0 (kidsR p j k).length 1 (kidsR p j k).length),(.g (.int .i64 (j:Int))),aN,aN,aN,aN,aN,aN,aN,aN,aN,aN,aN,aN,aN,aN,aN,aN,aN,aN,aN,aN,aN,aN,aN,aN,aN,aN,aN,aN,aN,aN,aN,aN,aN,aN,aN,aN,aN,aN,aN,aN,aN,aN,aN,aN,aN,aN,aN,aN,aN,aN,aN,aN,aN,aN,aN,aN,aN,aN,aN,aN,aN,aN,aN,aN,aN,aN,aN,aN,aN,aN,aN,aN,aN,aN,aN,aN,aN,aN,aN,aN,aN,aN,aN,aN,aN] [(0,.cells ((kidsR p j k).flatMap encZ))] 1)
  (fun j=>p.length - j) 1 ⟨by omega,by decide,by rw [hk1];rfl⟩ (VS.tm (by simp [leL])) ?_
 rintro j t ⟨hj,hj0,rfl⟩
 by_cases hjl:j<p.length
 ·have rj:=rowNd hjl
  have ej:=Q0p hjl;have hsu:=Q2x p j k;have hol:=hrl j;rw [ej] at hsu;generalize kidsR p j k=o at hsu hol ⊢;have E1:(o.flatMap encZ).length=o.length:=lenZ o;have E2:¬(o.length+1≤o.length):=by omega
  have E3:(o.length+1)*9≤17179869184:=by omega
  have E6:∀ x,o.flatMap encZ++[AV.g (.int .i64 x)]=(o++[x]).flatMap encZ:=fun x=>by rw [List.flatMap_append];rfl
  by_cases hx:p[j].up=(k:Int)
  ·have fx:=eq_true hx
   rw [if_pos ⟨hj0,hx⟩] at hsu
   (repeat ((try with_reducible refine W.step (b:=false) ?_);simp (decide:=true) only [go_sem,↓reduceIte,Nat.reduceAdd,Nat.reduceSub,hjl,rj,fx,E1,E2,E3]))
   refine ⟨j+1,_,⟨by omega,by omega,rfl⟩,by show p.length - (j+1)<p.length - j;omega,VS.ren [(0,2)] (by simp) (by simp) (by simp) ?_ ?_⟩
   ·rw [up1 (by omega),hsu]
    simp only [go_sem,↓reduceIte,Nat.reduceAdd,Nat.reduceSub,Nat.reduceMul,Nat.reduceEqDiff,Nat.reduceLeDiff,Nat.reduceLT,Int.reduceLE,Int.reduceLT,Int.reduceToNat,Int.reduceEq,List.length_append]
   ·rw [hsu]
    exact reM_w rfl (by rw [←E6];rfl) (ids_Z _)
  ·have fx:=eq_false hx
   rw [if_neg (fun h=>hx h.2),List.append_nil] at hsu
   (repeat ((try with_reducible refine W.step (b:=false) ?_);simp (decide:=true) only [go_sem,↓reduceIte,Nat.reduceAdd,Nat.reduceSub,hjl,rj,fx]))
   refine ⟨j+1,_,⟨by omega,by omega,rfl⟩,by show p.length - (j+1)<p.length - j;omega,?_⟩;rw [up1 (by omega),hsu];exact VS.tm (by simp [leL])
 obtain rfl:j=p.length:=by omega
 have rk:=rowNd hlt;have ek:=Q0p hlt;have hol:=hrl p.length;refine W.vs (s1:=stL [(.sl p.length 5 (p.flatMap encNd)),aN,(.g (.bool false)),aN,(.g (.int .i64 (k:Int))),(.sl (kidsR p p.length k).length 1 ((kidsR p p.length k).flatMap encZ)),(.g (.int .i64 (p.length:Int))),aN,aN,aN,aN,aN,aN,aN,aN,aN,aN,aN,aN,aN,aN,aN,aN,aN,aN,aN,aN,aN,aN,aN,aN,aN,aN,aN,aN,aN,aN,aN,aN,aN,aN,aN,aN,aN,aN,aN,aN,aN,aN,aN,aN,aN,aN,aN,aN,aN,aN,aN,aN,aN,aN,aN,aN,aN,aN,aN,aN,aN,aN,aN,aN,aN,aN,aN,aN,aN,aN,aN,aN,aN,aN,aN,aN,aN,aN,aN,aN,aN,aN,aN,aN,aN] [] 1) ?_ ?_
 ·refine VS.sealT 0 _ rfl (plainZ _) ?_ trivial
  simp only [frL_cons,frL_nil,frA_any,frA_self,and_true,true_and];exact .inr (.inr ⟨0,_,1,_,rfl,by rw [List.drop_zero,Nat.mul_one,takeZ],by rw [lenZ];omega⟩)
 (repeat ((try with_reducible refine W.step (b:=false) ?_);simp (decide:=true) only [go_sem,↓reduceIte,Nat.reduceAdd,Nat.reduceSub,hjl,hlt,rk]))
 refine AtCall.mk (ints_p (kidsR p p.length k) p[k].kids (by omega)) ?_
 by_cases hq:kidsR p p.length k=p[k].kids
 ·rw [decide_eq_true hq]
  (repeat ((try with_reducible refine W.step (b:=false) ?_);simp (decide:=true) only [go_sem,↓reduceIte,Nat.reduceAdd,Nat.reduceSub]))
  refine ⟨k+1,_,⟨by omega,fun i hi=>?_,rfl⟩,by show p.length - (k+1)<p.length - k;omega,?_⟩
  ·rcases Nat.lt_or_ge i k with h3 | h3
   ·exact hsm i h3
   ·obtain rfl:i=k:=by omega
    rw [ek];exact hq.symm
  ·rw [up1 (by omega)]
   exact VS.ren [] (by simp) (by simp) (by simp) (by simp only [go_sem,↓reduceIte,Nat.reduceAdd,Nat.reduceSub,Nat.reduceMul,Nat.reduceEqDiff,Nat.reduceLeDiff,Nat.reduceLT,Int.reduceLE,Int.reduceLT,Int.reduceToNat,Int.reduceEq]) trivial
 ·rw [decide_eq_false hq]
  have hf:(List.range p.length).all (fun k:Nat=>decide ((ndAt p k).kids=kidsR p p.length k))=false:=List.all_eq_false.2 ⟨k,List.mem_range.2 hlt,by rw [ek,decide_eq_false (fun e=>hq e.symm)];decide⟩;rw [hf]
  (repeat ((try with_reducible refine W.step (b:=false) ?_);simp (decide:=true) only [go_sem,↓reduceIte,Nat.reduceAdd,Nat.reduceSub]))
  exact Q0c _ (.inr rfl) rfl (.plain rfl)
attribute [go_sem] appL newsA isSlice
theorem ag_msafe:aggO Tryz.prog 195=some (true,2):=by kernel_rfl
theorem ag_asafe:aggO Tryz.prog 48=some (true,2):=by kernel_rfl
theorem ag_mworld:aggO Tryz.prog 198=some (true,5):=by kernel_rfl
theorem sz_msafe:szO Tryz.prog 195=some 2:=by kernel_rfl
theorem sz_asafe:szO Tryz.prog 48=some 2:=by kernel_rfl
theorem sz_mworld:szO Tryz.prog 198=some 5:=by kernel_rfl
theorem fl_msafe0:fldO Tryz.prog 195 0=some (0,48):=by kernel_rfl
theorem fl_asafe0:fldO Tryz.prog 48 0=some (0,46):=by kernel_rfl
theorem fl_asafe1:fldO Tryz.prog 48 1=some (1,46):=by kernel_rfl
theorem fl_mworld0:fldO Tryz.prog 198 0=some (0,195):=by kernel_rfl
theorem fl_mworld1:fldO Tryz.prog 198 1=some (2,23):=by kernel_rfl
theorem fl_mworld2:fldO Tryz.prog 198 2=some (3,37):=by kernel_rfl
theorem fl_mworld3:fldO Tryz.prog 198 3=some (4,196):=by kernel_rfl
theorem ze_simp:zeroO Tryz.prog 141=some [.g (.int .i64 0),.g (.string ⟨#[]⟩),.g (.string ⟨#[]⟩),.g (.int .i64 0),.g (.int .i64 0),.g (.slice none 0 0)]:=by kernel_rfl
attribute [go_sem] ag_msafe ag_asafe ag_mworld sz_msafe sz_asafe sz_mworld fl_msafe0 fl_asafe0 fl_asafe1 fl_mworld0 fl_mworld1 fl_mworld2 fl_mworld3 ze_simp
structure OkSf (S:Saf):Prop where
 cls:S.cls.length≤1000000
 atts:S.atts.length≤1000000
 size:∀ x∈S.cls,x.size≤1000000
attribute [go_sem] appL newsA isSlice
section
variable {P:Program} {GT:GTab} {rd:List Mem} {m m' m2:ML} {n n2:Nat} {f:FuncId} {args args':List AV} {a:AV}
theorem CallM.weakQ (h:CallM P GT rd m n f args' a m2 n2) (hw:wkL args' args):CallM P GT rd m n f args a m2 n2:=by
 have up:∀ {xs bs:List AV} {w:World} {G:Gh} {vs:List Value},wkL xs bs→VRs w G bs vs→VRs w G xs vs:=by
  intro xs
  induction xs with
  | nil=>intro bs w G vs h1 h2;obtain rfl:bs=[]:=h1;exact h2
  | cons x xs ih =>
    intro bs w G vs h1 h2;obtain ⟨y,ys,rfl,h3,h4⟩:=h1;obtain ⟨v,us,rfl,h5,h6⟩:=h2;exact ⟨v,us,rfl,h3 _ _ _ h5,ih h4 h6⟩
 exact ⟨fun base w G rargs hm ha=>h.1 base w G rargs hm (up hw ha),h.2⟩
end
attribute [go_sem] appL newsA isSlice
def okN:Simp→Prop
 | .mk _ name _ _ _ l=>name.size≤1000000∧okNL l
where okNL:List Simp→Prop
 | []=>True
 | x::xs=>okN x∧okNL xs
def mv (b nb c:Nat):Nat:=if c=b then nb else c
attribute [go_sem] appL newsA isSlice
attribute [go_sem] appL newsA isSlice
attribute [go_sem] appL newsA isSlice
theorem bl_msafe (parts:List (Nat×AV)):evBuild Tryz.prog 195 parts=aggM (fillL [(0,2)] [.g (.slice none 0 0),.g (.slice none 0 0)] parts):=Q0u (by kernel_rfl) parts
theorem bl_mworld (parts:List (Nat×AV)):evBuild Tryz.prog 198 parts=aggM (fillL [(0,2),(2,1),(3,1),(4,1)] [.g (.slice none 0 0),.g (.slice none 0 0),.g (.slice none 0 0),.g (.slice none 0 0),.g (.map none)] parts):=Q0u (by kernel_rfl) parts
theorem ze_mworld:zeroO Tryz.prog 198=some [.g (.slice none 0 0),.g (.slice none 0 0),.g (.slice none 0 0),.g (.slice none 0 0),.g (.map none)]:=by kernel_rfl
attribute [go_sem] bl_msafe bl_mworld ze_mworld
section
variable {rd:List Mem}
end
attribute [go_sem] appL newsA isSlice
theorem el_pages:elemO Tryz.prog 51=some 1:=by kernel_rfl
theorem ag_pages:aggO Tryz.prog 51=some (false,1):=by kernel_rfl
attribute [go_sem] el_pages ag_pages
attribute [go_sem] appL newsA isSlice
theorem lenC (l:List Cx):(l.flatMap encC).length=l.length*2:=Q1v (sz:=2) (fun _=>rfl) l
theorem takeC (l:List Cx):(l.flatMap encC).take (l.length*2)=l.flatMap encC:=List.take_of_length_le (by rw [lenC];exact Nat.le_refl _)
theorem cellC (l:List Cx):(l.flatMap encC).all isCell=true:=by
 rw [List.all_eq_true];intro a ha;obtain ⟨x,-,hx⟩:=List.mem_flatMap.1 ha;simp [encC] at hx;rcases hx with rfl | rfl <;> rfl
attribute [go_sem] lenC takeC cellC
theorem ez_cxs:elemZ Tryz.prog 42=[.slice none 0 0,.string ⟨#[]⟩]:=by kernel_rfl
theorem ei_cxs2:elemI Tryz.prog 42=some (2,40,true):=by kernel_rfl
theorem un_cxs2:slOrStr (Tryz.prog.underlying 42)=true:=by kernel_rfl
attribute [go_sem] ez_cxs ei_cxs2 un_cxs2
attribute [go_sem] appL newsA isSlice
theorem ag_shk:aggO Tryz.prog 132=some (true,3):=by kernel_rfl
theorem sz_shk:szO Tryz.prog 132=some 3:=by kernel_rfl
theorem fl_shk0:fldO Tryz.prog 132 0=some (0,48):=by kernel_rfl
theorem fl_shk1:fldO Tryz.prog 132 1=some (2,51):=by kernel_rfl
theorem bl_shk (parts:List (Nat×AV)):evBuild Tryz.prog 132 parts=aggM (fillL [(0,2),(2,1)] [.g (.slice none 0 0),.g (.slice none 0 0),.g (.slice none 0 0)] parts):=Q0u (by kernel_rfl) parts
theorem bl_item (parts:List (Nat×AV)):evBuild Tryz.prog 65 parts=aggM (fillL [(0,1),(1,1),(2,1),(3,1),(4,1),(5,1),(6,1),(7,1)] [.g (.int .i64 0),.g (.slice none 0 0),.g (.slice none 0 0),.g (.slice none 0 0),.g (.int .i64 0),.g (.int .i64 0),.g (.slice none 0 0),.g (.slice none 0 0)] parts):=Q0u (by kernel_rfl) parts
theorem ei_items2:elemI Tryz.prog 54=some (8,144,true):=by kernel_rfl
theorem un_items2:slOrStr (Tryz.prog.underlying 54)=true:=by kernel_rfl
theorem sz_cxs:szO Tryz.prog 42=some 1:=by kernel_rfl
theorem sz_items:szO Tryz.prog 54=some 1:=by kernel_rfl
attribute [go_sem] sz_cxs sz_items ag_shk sz_shk fl_shk0 fl_shk1 bl_shk bl_item ei_items2 un_items2
structure OkC (c:Cx):Prop where
 parts:okPT c.parts
 names:∀ pt∈c.parts,∀ x∈pt.l,okN x
structure OkS (S:Saf) (PG:List (List Nod)):Prop where
 len:PG.length≤1000000
 pages:∀ p∈PG,OkPg p
 safe:OkSf S
def shI (lost:Cx→Bool):Itm→Itm×Bool
 | .mk k s d n mn mx v l=>if k=1 then (.mk k (s.filter fun c=>!lost c) d n mn mx v l,decide (s.filter (fun c=>!lost c)≠[])) else if k=2 then (.mk k s d n mn mx v (shL l),decide (shL l≠[])) else if k=3 then (if shL l=[] then .mk 4 [] [] n 0 0 [] [] else .mk k s d n mn mx v (shL l),true) else (.mk k s d n mn mx v l,true)
where shL:List Itm→List Itm
 | []=>[]
 | x::xs=>if (shI lost x).2=true then (shI lost x).1::shL xs else shL xs
attribute [go_sem] appL newsA isSlice
attribute [go_sem] appL newsA isSlice
attribute [go_sem] appL newsA isSlice
attribute [go_sem] appL newsA isSlice
theorem pgSm_ok {m:Nat} (hm:m≤1000) {p:List Nod} (h:pgSm m p=true):OkPg p:=by
 unfold pgSm at h;obtain ⟨g1,g2⟩:=Bool.and_eq_true_iff.1 h;have g1:=of_decide_eq_true g1;have hnd:∀ x∈p,x.name.size≤100∧x.text.size≤300∧x.attrs.length≤20∧x.kids.length≤m∧∀ a∈x.attrs,a.value.size≤100:=by
  intro x hx;have:=List.all_eq_true.1 g2 x hx;unfold ndSm at this;simp only [Bool.and_eq_true,decide_eq_true_eq,List.all_eq_true] at this;exact ⟨this.1,this.2.1,this.2.2.1,this.2.2.2.1,fun a ha=>(this.2.2.2.2 a ha).2⟩
 exact ⟨by omega,fun x hx=>by have:=(hnd x hx).2.2.2.1;omega,fun x hx=>by have:=(hnd x hx).2.2.1;omega,fun x hx=>by have:=(hnd x hx).1;have:=(hnd x hx).2.1;omega,fun x hx a ha=>by have:=(hnd x hx).2.2.2.2 a ha;omega⟩
theorem ag_w19:aggO Tryz.prog 53=some (true,5):=by kernel_rfl
theorem sz_w19:szO Tryz.prog 53=some 5:=by kernel_rfl
theorem fl_w190:fldO Tryz.prog 53 0=some (0,48):=by kernel_rfl
theorem fl_w191:fldO Tryz.prog 53 1=some (2,49):=by kernel_rfl
theorem fl_w192:fldO Tryz.prog 53 2=some (3,50):=by kernel_rfl
theorem fl_w193:fldO Tryz.prog 53 3=some (4,51):=by kernel_rfl
theorem bl_w19 (parts:List (Nat×AV)):evBuild Tryz.prog 53 parts=aggM (fillL [(0,2),(2,1),(3,1),(4,1)] [.g (.slice none 0 0),.g (.slice none 0 0),.g (.slice none 0 0),.g (.slice none 0 0),.g (.slice none 0 0)] parts):=Q0u (by kernel_rfl) parts
theorem ze_w19:zeroO Tryz.prog 53=some [.g (.slice none 0 0),.g (.slice none 0 0),.g (.slice none 0 0),.g (.slice none 0 0),.g (.slice none 0 0)]:=by kernel_rfl
theorem ag_sheets2:aggO Tryz.prog 49=some (false,1):=by kernel_rfl
theorem ag_turns2:aggO Tryz.prog 50=some (false,1):=by kernel_rfl
theorem el_sheets2:elemO Tryz.prog 49=some 1:=by kernel_rfl
theorem el_turns2:elemO Tryz.prog 50=some 1:=by kernel_rfl
attribute [go_sem] el_sheets2 el_turns2 ag_w19 sz_w19 fl_w190 fl_w191 fl_w192 fl_w193 bl_w19 ze_w19 ag_sheets2 ag_turns2
attribute [go_sem] appL newsA isSlice
theorem fl_stw:fldO Tryz.prog 108 0=some (0,3):=by kernel_rfl
attribute [go_sem] fl_stw
attribute [go_sem] appL newsA isSlice
theorem ag_bools:aggO Tryz.prog 110=some (false,1):=by kernel_rfl
theorem el_bools:elemO Tryz.prog 110=some 1:=by kernel_rfl
theorem ei_bools:elemI Tryz.prog 110=some (1,1,true):=by kernel_rfl
theorem ez_bools:elemZ Tryz.prog 110=[.bool false]:=by kernel_rfl
theorem un_bools:slOrStr (Tryz.prog.underlying 110)=true:=by kernel_rfl
attribute [go_sem] ag_bools el_bools ei_bools ez_bools un_bools
def bo (f:Nat→Bool) (N:Nat):List AV:=(List.range N).map fun n=>AV.g (.bool (f n))
attribute [go_sem] appL newsA isSlice
theorem ei_declsX:elemI Tryz.prog 62=some (3,48,true):=by kernel_rfl
attribute [go_sem] ei_declsX
theorem bl_declX (parts:List (Nat×AV)):evBuild Tryz.prog 75 parts=aggM (fillL [(0,1),(1,1),(2,1)] [.g (.string ⟨#[]⟩),.g (.slice none 0 0),.g (.bool false)] parts):=Q0u (by kernel_rfl) parts
attribute [go_sem] bl_declX
theorem bl_safeX (parts:List (Nat×AV)):evBuild Tryz.prog 48 parts=aggM (fillL [(0,1),(1,1)] [.g (.slice none 0 0),.g (.slice none 0 0)] parts):=Q0u (by kernel_rfl) parts
attribute [go_sem] bl_safeX
end Go.Proofs.YtabliahkhafddaaGreat
namespace Go.Proofs.YtabliahkhafddaaGreat
open Go.ChangeShapes Go.WideShapes Go.RowKit Go.Ev
open Go.Ev.AV renaming any→aN
theorem c_ints:Tryz.prog.cellsOf 27=1:=by kernel_rfl
theorem c_attrs:Tryz.prog.cellsOf 32=1:=by kernel_rfl
theorem c_attr:Tryz.prog.cellsOf 100=2:=by kernel_rfl
theorem c_node:Tryz.prog.cellsOf 34=5:=by kernel_rfl
theorem c_page:Tryz.prog.cellsOf 23=1:=by kernel_rfl
section
variable {H:Type} {enc:TypeId×Value→H} {W:World} {sp:Nat→Bool} {held:Bool}
theorem open_z (fuel:Nat) (cs:List Value) (x:DataW H×List MemPlace) (h:DataW.trod enc Tryz.prog W 0 sp held fuel 3 cs=some x) (_:Fits Tryz.prog 3 x.1):∃ a:Int,Ats W (encZ a) cs∧True:=by
 obtain ⟨k,e0,-⟩:=DataW.trod_int Tryz.underlying3 h;subst e0;exact ⟨k,VRs.cons_mk rfl (by rw [VRs]),trivial⟩
set_option maxRecDepth 100000 in
theorem open_atr (fuel:Nat) (cs:List Value) (x:DataW H×List MemPlace) (h:DataW.trod enc Tryz.prog W 0 sp held fuel 100 cs=some x) (_:Fits Tryz.prog 100 x.1):∃ a:Atr,Ats W (encA a) cs∧True:=by
 obtain ⟨hl,n,rfl,hf⟩:=field_of Tryz.underlying100 h;rw [show Tryz.prog.cellsOf 100=2 by kernel_rfl] at hl;obtain ⟨c0,c1,rfl⟩:∃ c0 c1,cs=[c0,c1]:=by
  match cs,hl with
  | [a,b],_=>exact ⟨a,b,rfl⟩
 obtain ⟨y0,h0,f0⟩:∃ y,DataW.trod enc Tryz.prog W 0 sp held n 9 ((List.drop 0 [c0,c1]).take (Tryz.prog.cellsOf 9))=some y∧(Fits Tryz.prog 100 x.1→Fits Tryz.prog 9 y.1):=hf 0 _ rfl;obtain ⟨y1,h1,f1⟩:∃ y,DataW.trod enc Tryz.prog W 0 sp held n 9 ((List.drop 1 [c0,c1]).take (Tryz.prog.cellsOf 9))=some y∧(Fits Tryz.prog 100 x.1→Fits Tryz.prog 9 y.1):=hf 1 _ rfl;simp only [c_int,c_str,c_ints,c_attrs,c_page,List.drop,List.take] at h0 h1;obtain ⟨a,e0,-⟩:=DataW.trod_string Tryz.underlying9 h0;obtain ⟨b,e1,-⟩:=DataW.trod_string Tryz.underlying9 h1;simp only [List.cons.injEq,and_true] at e0 e1;subst e0 e1;exact ⟨⟨a,b⟩,VRs.cons_mk rfl (VRs.cons_mk rfl (by rw [VRs])),trivial⟩
set_option maxRecDepth 100000 in
theorem open_nod (fuel:Nat) (cs:List Value) (x:DataW H×List MemPlace) (h:DataW.trod enc Tryz.prog W 0 sp held fuel 34 cs=some x) (hfit:Fits Tryz.prog 34 x.1):∃ a:Nod,Ats W (encNd a) cs∧True:=by
 obtain ⟨hl,n,rfl,hf⟩:=field_of Tryz.underlying34 h;rw [show Tryz.prog.cellsOf 34=5 by kernel_rfl] at hl;obtain ⟨c0,c1,c2,c3,c4,rfl⟩:∃ c0 c1 c2 c3 c4,cs=[c0,c1,c2,c3,c4]:=by
  match cs,hl with
  | [a,b,c,d,e],_=>exact ⟨a,b,c,d,e,rfl⟩
 obtain ⟨y0,h0,f0⟩:∃ y,DataW.trod enc Tryz.prog W 0 sp held n 9 ((List.drop 0 [c0,c1,c2,c3,c4]).take (Tryz.prog.cellsOf 9))=some y∧(Fits Tryz.prog 34 x.1→Fits Tryz.prog 9 y.1):=hf 0 _ rfl;obtain ⟨y1,h1,f1⟩:∃ y,DataW.trod enc Tryz.prog W 0 sp held n 32 ((List.drop 1 [c0,c1,c2,c3,c4]).take (Tryz.prog.cellsOf 32))=some y∧(Fits Tryz.prog 34 x.1→Fits Tryz.prog 32 y.1):=hf 1 _ rfl;obtain ⟨y2,h2,f2⟩:∃ y,DataW.trod enc Tryz.prog W 0 sp held n 9 ((List.drop 2 [c0,c1,c2,c3,c4]).take (Tryz.prog.cellsOf 9))=some y∧(Fits Tryz.prog 34 x.1→Fits Tryz.prog 9 y.1):=hf 2 _ rfl;obtain ⟨y3,h3,f3⟩:∃ y,DataW.trod enc Tryz.prog W 0 sp held n 3 ((List.drop 3 [c0,c1,c2,c3,c4]).take (Tryz.prog.cellsOf 3))=some y∧(Fits Tryz.prog 34 x.1→Fits Tryz.prog 3 y.1):=hf 3 _ rfl;obtain ⟨y4,h4,f4⟩:∃ y,DataW.trod enc Tryz.prog W 0 sp held n 27 ((List.drop 4 [c0,c1,c2,c3,c4]).take (Tryz.prog.cellsOf 27))=some y∧(Fits Tryz.prog 34 x.1→Fits Tryz.prog 27 y.1):=hf 4 _ rfl;simp only [c_int,c_str,c_ints,c_attrs,c_page,List.drop,List.take] at h0 h1 h2 h3 h4;obtain ⟨nm,e0,-⟩:=DataW.trod_string Tryz.underlying9 h0;obtain ⟨l,v,e1,hv,-,-⟩:=open_sl (fun _=>True) encA 2 (fun _=>rfl) (by decide) Tryz.underlying32 c_attr (fun m _=>open_atr m) h1 (f1 hfit);obtain ⟨tx,e2,-⟩:=DataW.trod_string Tryz.underlying9 h2;obtain ⟨u,e3,-⟩:=DataW.trod_int Tryz.underlying3 h3;obtain ⟨ks,w,e4,hw,-,-⟩:=open_sl (fun _=>True) encZ 1 (fun _=>rfl) (by decide) Tryz.underlying27 c_int (fun m _=>open_z m) h4 (f4 hfit);simp only [List.cons.injEq,and_true] at e0 e1 e2 e3 e4;subst e0 e1 e2 e3 e4;exact ⟨⟨nm,l,tx,u,ks⟩,VRs.cons_mk rfl (VRs.cons_mk hv (VRs.cons_mk rfl (VRs.cons_mk rfl (VRs.cons_mk hw (by rw [VRs]))))),trivial⟩
end
end Go.Proofs.YtabliahkhafddaaGreat
namespace Go.Proofs.YtabliahkhafddaaGreat
open Go.ChangeShapes Go.WideShapes Go.ChangeAt Go.RowKit Go.Ev
open Go.Ev.AV renaming any→aN
section
variable {H:Type} {enc:TypeId×Value→H} {W:World} {sp:Nat→Bool} {held:Bool}
set_option maxRecDepth 1000000 in
theorem open_pg1 {base:Nat} {v:Value} {d:DataW H} {ps:List MemPlace} (hval:Value.okWide Tryz.prog W .any base 23 v) (h:DataW.Trod enc Tryz.prog W 0 sp held 23 v d ps) (hfit:Fits Tryz.prog 23 d) :
 ∃ p:List Nod,At W (.sl p.length 5 (p.flatMap encNd)) v:=by
 obtain ⟨fuel,hv⟩:=h;obtain ⟨a,n,c,rfl⟩:=okWide_slice Tryz.underlying23 hval;obtain ⟨l,v,e,hl,-,-⟩:=open_sl (fun _=>True) encNd 5 (fun _=>rfl) (by decide) Tryz.underlying23 c_node (fun m _=>open_nod m) hv hfit;simp only [Value.cells,List.cons.injEq,and_true] at e;subst e;exact ⟨l,hl⟩
end
theorem Q0m {a b:Bool} (ha:a=true) (hb:b=true):(a&&b)=true:=by subst ha hb;rfl
theorem f_laid:laidOutB Tryz.prog=true:=by kernel_rfl
theorem f_rowed:mapsRowed Tryz.prog=true:=by kernel_rfl
theorem f_keys:Tryz.prog.plainKeys=false:=by kernel_rfl
theorem f_heard:Tryz.prog.stopsHeard=true:=by kernel_rfl
theorem f_enter:Tryz.prog.mayEnter=true:=by kernel_rfl
theorem ownB:ownKnob Tryz.prog.godebug=none:=by kernel_rfl
section
variable {H:Type} {enc:TypeId×Value→H} {P:Program}
theorem postB_of {f:Func} {s:ChangeSpec} {apart fresh handsOn again:Bool} {W W':World} {args:Array Value} {v:Value} {ds gs:List (DataW H)} {before pa pv:List MemPlace}
 (hW:DataW.Whole enc P f.params.toList s.vars apart W args.toList ds gs before)
 (hres:∀ (b:Nat) (sp:Nat→Bool) (hd:Bool),DataW.TrodAll enc P W' b sp hd f.resultTypes.toList (v.resultList f.resultTypes.size) (s.fn H (ds++gs)).results [])
 (hargs:∀ sp:Nat→Bool,(∀ p∈before,sp p.block=true)→DataW.TrodAll enc P W' 0 sp true f.params.toList args.toList (s.fn H (ds++gs)).args pa)
 (hvars:∀ sp:Nat→Bool,(∀ p∈before,sp p.block=true)→DataW.TrodVars enc P W' sp s.vars (s.fn H (ds++gs)).vars pv)
 (hps:before=pa++pv) (hB:Below W.heap.size W W')
 (hok:∀ (j:Nat) (t:TypeId) (r:Value),f.resultTypes[j]?=some t→(v.resultList f.resultTypes.size)[j]?=some r→Value.okWide P W' .any 0 t r) :
 s.post enc P f apart fresh handsOn again W args v W':=by
 have hold:∀ p∈before,(fun b=>decide (b<W.heap.size)) p.block=true:=fun p hp=>by simpa using hW.lt p hp
 have hlt:=fun p hp=>hW.lt p hp;refine ⟨ds,gs,before,[],pa,pv,hW,hres _ _ _,hargs _ hold,hvars _ hold,World.keptBut_mono (fun p hp=>⟨hp,?_⟩) (hB.frame (·∈before)),fun _=>?_⟩
 ·rw [hps,List.mem_append] at hp
  exact Or.inr hp
 ·obtain ⟨_,_,_,_,_,hz,hn⟩:=hW
  refine ⟨hok,_,_,([]++pa)++pv,⟨[]++pa,pv,trodAll_append (hargs _ (fun _ _=>rfl)) (hres _ _ _),hvars _ (fun _ _=>rfl),rfl,?_,?_⟩,?_⟩
  ·intro b off hp
   have hp':MemPlace.cell b off∈before:=by rw [hps];simpa using hp
   rw [hB.frozen (hlt _ hp')];exact hz b off hp'
  ·intro ha
   have:=hn ha;rw [hps] at this;simpa using this
  ·intro p hp _
   rw [hps];simpa using hp
end
theorem rdPg:Tryz.prog.readableRec 23=true:=by kernel_rfl
theorem itPg:23<Tryz.prog.types.size:=of_decide_eq_true (by kernel_rfl)
end Go.Proofs.YtabliahkhafddaaGreat
namespace Go.Proofs.YtabliahkhafddaaGreat
open Go.Ev.AV renaming any→aN
namespace critUp
theorem row_named:Tryz.prog.funcNamed Rows.critUpRow.func=some 3:=by kernel_rfl
theorem row_inPlace:Rows.critUpRow.inPlace=Tryz.prog.inPlace 3:=by kernel_rfl
theorem row_unfollowed:Rows.critUpRow.unfollowed=Tryz.prog.unfollowed 3:=by kernel_rfl
theorem row_recurses:Rows.critUpRow.recurses=Tryz.prog.recurses 3:=by kernel_rfl
theorem row_vars:Rows.critUpRow.named=Tryz.prog.varsNamed 3:=by kernel_rfl
theorem row_wrapper:Tryz.f3.isWrapper Tryz.prog Rows.critUpRow.wrapper Rows.critUpRow.mainSum:=by
 unfold Func.isWrapper
 first | (rw [if_pos (by decide +kernel)];kernel_rfl) | (rw [if_neg (by decide +kernel)];exact ⟨rfl,rfl⟩)
theorem closed:joinedFacts Tryz.prog 3 Tryz.f3 Rows.critUpSpec Rows.critUpRow=true:=by
 unfold joinedFacts;exact Q0m (Q0m (Q0m (Q0m (Q0m (Q0m (Q0m (Q0m (Q0m (Q0m (Q0m (Q0m (Q0m (Q0m (Q0m (Q0m (Q0m (Q0m (Q0m (Q0m (Q0m (Q0m (Q0m (Q0m (Q0m (Q0m (Q0m (Q0m (Q0m (Q0m (Q0m (by kernel_rfl) f_laid) f_rowed) (by kernel_rfl)) (by kernel_rfl)) (by kernel_rfl)) (by kernel_rfl)) (by kernel_rfl)) (by kernel_rfl)) (beq_iff_eq.2 row_inPlace)) (beq_iff_eq.2 row_unfollowed)) (beq_iff_eq.2 row_recurses)) (beq_iff_eq.2 row_vars)) (by kernel_rfl)) (by kernel_rfl)) (by kernel_rfl)) (by kernel_rfl)) (by kernel_rfl)) (by kernel_rfl)) (by kernel_rfl)) (by kernel_rfl)) (by kernel_rfl)) (beq_iff_eq.2 f_keys.symm)) (by kernel_rfl)) f_heard) f_enter) (by kernel_rfl)) (by kernel_rfl)) (by kernel_rfl)) (by kernel_rfl)) (by kernel_rfl)) (by kernel_rfl)
end critUp
end Go.Proofs.YtabliahkhafddaaGreat
namespace Go.Proofs.YtabliahkhafddaaGreat
open Go.RowKit Go.Ev
open Go.Ev.AV renaming any→aN
attribute [local go_sem] Oper.semAt_some
def upL (p:List Nod) (k:Nat):List Int:=if 0<k then ((k::aboveM p k:List Nat).filter fun j:Nat=>elemB p (j:Int)).map fun j:Nat=>(j:Int) else []
theorem upL_step {p:List Nod} (hT:TreeP p) {k:Nat} (h0:0<k) (hk:k<p.length):upL p k=(if elemB p (k:Int)=true then [(k:Int)] else [])++upL p (ndAt p (k:Int)).up.toNat:=by
 have hu:=hT.up k h0 hk;unfold upL;rw [if_pos h0,Q0x]
 by_cases h1:0<(ndAt p (k:Int)).up
 ·rw [if_pos ⟨h1,hu.2⟩,if_pos (show 0<(ndAt p (k:Int)).up.toNat by omega),List.filter_cons]
  split <;> rfl
 ·rw [if_neg (fun h=>h1 h.1),if_neg (show ¬0<(ndAt p (k:Int)).up.toNat by omega),List.filter_cons]
  split <;> rfl
def intAt (c:Option Value):Nat:=match c with
 | some (.int _ k)=>k.toNat
 | _=>0
theorem ko_wk {Ow:World→Nat→Prop} {z nb:Nat} {A B:World} (h:KO Ow z A B) (hn:nb<A.heap.size):KO (fun W k=>k=nb∨Ow W k) z A B :=
 ⟨fun k hk hno=>h.same k hk fun ho=>hno (.inr ho),fun k hk ho=>ho.imp id (h.own k hk),fun k ho=>ho.elim (fun e=>by rw [e];exact Nat.lt_of_lt_of_le hn h.below.size) (h.lt k),h.below⟩
theorem ko_set {Ow:World→Nat→Prop} {z nb:Nat} {A:World} (v:Value) (hz:z≤nb) (hn:nb<A.heap.size) (hS:∀ k,Ow (A.setCell ⟨nb,0,none⟩ v) k↔Ow A k) (hl:∀ k,Ow A k→k<A.heap.size):KO (fun W k=>k=nb∨Ow W k) z A (A.setCell ⟨nb,0,none⟩ v) :=
 ⟨fun k _ hno=>Below.heap_setCell A ⟨nb,0,none⟩ v k fun e=>hno (.inl e),fun k _ ho=>ho.imp id (hS k).1,fun k ho=>by
   have hs:(A.setCell ⟨nb,0,none⟩ v).heap.size=A.heap.size:=by simp [World.setCell]
   rw [hs]
   exact ho.elim (fun e=>by rw [e];exact hn) fun h=>hl k ((hS k).1 h),(Below.refl z A).setCell (p:=⟨nb,0,none⟩) hz v⟩
set_option maxRecDepth 100000 in
set_option maxHeartbeats 2000000 in
theorem above_iter (z0 z nb pb N:Nat) (v:Value) (p:List Nod) (n0:Nat) (w:World) (hp:OkPg p) (hT:TreeP p) (hn:n0<p.length) (hN:(upL p n0).length≤N) (hz0:z0≤z) (hz:z≤w.heap.size) (hzn:z≤nb) (hpn:pb≠nb)
 (hv:AtB z0 w (.sl p.length 5 (p.flatMap encNd)) v) (hl:w.heap[pb]?=some (.cells #[v] 23 (0,0))) (hk:w.heap[nb]?=some (.cells #[.int .i64 (n0:Int)] 3 (0,0))) :
 IterS Tryz.prog 90 #[.pointer (some ⟨nb,0,none⟩),.pointer (some ⟨pb,0,none⟩)] (fun x:Int=>#[.int .i64 x]) nb pb z N (fun xs=>xs=upL p n0) w:=by
 intro n l Ow J W hW hOs hOn hOp hJ hJs hOa hOS hY h0;have hpb:=(Array.getElem?_eq_some_iff.1 hl).1;have hnb:=(Array.getElem?_eq_some_iff.1 hk).1;have hl':=(hW.block _ hpb).trans hl;have hk':=(hW.block _ hnb).trans hk;have hWz:Below z w W:=hW.mono hz;have hvW:AtB z0 W (.sl p.length 5 (p.flatMap encNd)) v:=hv.below (hWz.mono hz0);obtain ⟨b,o,cap,rfl,hcap,hpos,hbz,hc⟩:∃ b o cap,v=.slice (some ⟨b,o,none⟩) p.length cap∧p.length≤cap∧0<p.length∧b<z0∧∀ k (hk:k<p.length) j a,(encNd p[k])[j]?=some a→∃ x,W.cell? ⟨b,o+(k*5+j),none⟩=some x∧AtB z0 W a x:=by
  rcases slB_cells encNd 5 (fun _=>rfl) (by decide) hvW with ⟨rfl,-⟩ | h
  ·simp at hn
  ·exact h
 have HU:=Lib.hid fun k (hk:k<p.length)=>(show W.cell? ⟨b,o+k*5+3,none⟩=some (.int .i64 p[k].up) by
  obtain ⟨x,h1,h2⟩:=hc k hk 3 _ rfl;obtain rfl:x=_:=h2
  rw [Nat.add_assoc];exact h1)
 have HV:=Lib.hid hvW;have HE:=Lib.hid fun n=>element_p p n;have HT:=Lib.hid hT;have HP:=Lib.hid hp;clear hc hv hl hk hvW hT hp;have hlen:p.length≤1000000:=HP.out.len;refine callsIn_of_wp Tryz.func90 rfl trivial ?_ rfl;simp only [Tryz.ntmps90,List.size_toArray,List.length_cons,List.length_nil,Nat.reduceAdd,Nat.reduceSub,Array.replicate_succ,Array.replicate_zero,List.push_toArray,List.append_toArray,List.nil_append,List.cons_append]
 gi_wp2
 gi_loopw [4] (fun _ wr=>∃ (k:Nat) (pre:List Int),k<p.length∧wr.heap[nb]?=some (.cells #[.int .i64 (k:Int)] 3 (0,0))∧wr.heap[pb]?=W.heap[pb]?∧Hid (pre++upL p k=upL p n0)∧J pre wr∧KO (fun W k=>k=nb∨Ow W k) z W wr∧¬Ow wr nb∧¬Ow wr pb) (fun _ wr=>intAt (wr.cell? ⟨nb,0,none⟩))
 case atStart=>exact ⟨n0,[],hn,hk',rfl,Lib.hid rfl,h0,KO.refl (fun k hk=>hk.elim (fun h=>by rw [h];exact Nat.lt_of_lt_of_le hnb hW.size) (hOs k)),hOn,hOp⟩
 case round =>
  obtain ⟨k,pre,hk,hcn,hcp,hx,hj,hK,hon,hop⟩:=hrel;have hB:=hK.below;have hlw:wr.heap[pb]?=some (.cells #[.slice (some ⟨b,o,none⟩) p.length cap] 23 (0,0)):=hcp.trans hl';have hc1:wr.cell? ⟨nb,0,none⟩=some (.int .i64 (k:Int)):=by rw [Lib.cell_of_heap hcn];rfl
  have hc2:wr.cell? ⟨pb,0,none⟩=some (.slice (some ⟨b,o,none⟩) p.length cap):=by rw [Lib.cell_of_heap hlw];rfl
  by_cases hk0:0<k
  ·have HCA:=Lib.hid ((HE.out (k:Int)).pure.at wr #[.slice (some ⟨b,o,none⟩) p.length cap,.int .i64 (k:Int)] (fun g cs h=>by cases h) (VRs.cons_mk ((HV.out.below (hB.mono hz0)).toAt (by have:=hB.size;have:=hW.size;omega)) (VRs.cons_mk rfl (by rw [VRs]))))
   have HST:=Lib.hid (upL_step HT.out hk0 hk);have hup:=HT.out.up k hk0 hk;rw [Q0p hk] at hup;have hcu:wr.cell? ⟨b,o+k*5+3,none⟩=some (.int .i64 p[k].up):=(hB.cell (p:=⟨b,o+k*5+3,none⟩) (by show b<z;omega)).trans (HU.out k hk);obtain ⟨u,hu⟩:∃ u:Nat,p[k].up=u:=⟨p[k].up.toNat,by omega⟩;have hnbw:=(Array.getElem?_eq_some_iff.1 hcn).1;have hpbw:=(Array.getElem?_eq_some_iff.1 hlw).1;have hszw:=hB.size
   gi_wp2_with fail
   refine ⟨trivial,fun h=>(by cases h),(callsIn_wide.2 HCA.out).mono ?_⟩;rintro e w2 ⟨r,rfl,hr,hB2⟩;obtain rfl:r=.bool (elemB p (k:Int)):=hr;clear HCA;have hj2:=hJ _ _ _ hj hB2;have hon2:¬Ow w2 nb:=fun h=>hon (hOa _ _ _ hszw hB2 h);have hop2:¬Ow w2 pb:=fun h=>hop (hOa _ _ _ hszw hB2 h);have hlt2:∀ j,Ow w2 j→j<w2.heap.size:=fun j hj=>Nat.lt_of_lt_of_le (hK.lt j (.inr (hOa _ _ _ hszw hB2 hj))) hB2.size;have hK2:=hK.trans (KO.grow hB2 (by omega) (fun j hj=>hj.imp id (hOa _ _ _ hszw hB2)) hK.lt);have hcn2:=(hB2.block nb hnbw).trans hcn;have hlw2:=(hB2.block pb hpbw).trans hlw;have hcu2:=(hB2.cell (p:=⟨b,o+k*5+3,none⟩) (by show b<wr.heap.size;omega)).trans hcu;have hsz2:=hB2.size;have hc12:w2.cell? ⟨nb,0,none⟩=some (.int .i64 (k:Int)):=by rw [Lib.cell_of_heap hcn2];rfl
   have hfin:∀ (W2:World) (q:List Int),W2.heap[nb]?=some (.cells #[.int .i64 (k:Int)] 3 (0,0))→W2.heap[pb]?=some (.cells #[.slice (some ⟨b,o,none⟩) p.length cap] 23 (0,0))→J q W2→KO (fun W k=>k=nb∨Ow W k) z W W2→¬Ow W2 nb→¬Ow W2 pb→q++upL p u=upL p n0 →
    ∃ (k2:Nat) (pre2:List Int),k2<p.length∧(W2.setCell ⟨nb,0,none⟩ (.int .i64 (u:Int))).heap[nb]?=some (.cells #[.int .i64 (k2:Int)] 3 (0,0))∧(W2.setCell ⟨nb,0,none⟩ (.int .i64 (u:Int))).heap[pb]?=W.heap[pb]?∧Hid (pre2++upL p k2=upL p n0)∧J pre2 (W2.setCell ⟨nb,0,none⟩ (.int .i64 (u:Int))) ∧
      KO (fun W k=>k=nb∨Ow W k) z W (W2.setCell ⟨nb,0,none⟩ (.int .i64 (u:Int)))∧¬Ow (W2.setCell ⟨nb,0,none⟩ (.int .i64 (u:Int))) nb∧¬Ow (W2.setCell ⟨nb,0,none⟩ (.int .i64 (u:Int))) pb:=by
    intro W2 q g1 g2 g3 g4 g5 g6 g7;have hn2:=(Array.getElem?_eq_some_iff.1 g1).1;refine ⟨u,q,by omega,?_,?_,Lib.hid g7,hJs _ _ _ g3,g4.trans (ko_set _ hzn hn2 (hOS W2 _) fun j hj=>g4.lt j (.inr hj)),fun h=>g5 ((hOS _ _ _).1 h),fun h=>g6 ((hOS _ _ _).1 h)⟩
    ·have:=Q0o (o:=0) (.int .i64 (u:Int)) g1
     simpa using this
    ·rw [Below.heap_setCell W2 ⟨nb,0,none⟩ _ pb hpn,g2,hl']
   have hms:∀ W2:World,W2.heap[nb]?=some (.cells #[.int .i64 (k:Int)] 3 (0,0))→intAt ((W2.setCell ⟨nb,0,none⟩ (.int .i64 (u:Int))).cell? ⟨nb,0,none⟩)<intAt (wr.cell? ⟨nb,0,none⟩):=fun W2 g1=>by
    have h9:=Q0o (o:=0) (.int .i64 (u:Int)) g1;rw [Lib.cell_of_heap h9,hc1];simp [intAt];omega
   rw [HST.out,Q0p hk,hu,Int.toNat_natCast] at hx;have HF:=Lib.hid hfin;have HM:=Lib.hid hms;clear hfin hms
   cases hel:elemB p (k:Int) with
   | true =>
     rw [hel,if_pos rfl] at hx;have hpb:pre.length<N:=by
      have h9:=congrArg List.length hx.out;simp only [List.length_append,List.length_cons,List.length_nil] at h9;omega
     gi_wp2_with fail
     refine upon_yield rfl (hY _ _ _ _ hj2 hpb (by omega)) ?_;rintro W2 ⟨hj3,hK3⟩;have hcn3:=(hK3.same nb (by omega) hon2).trans hcn2;have hlw3:=(hK3.same pb (by omega) hop2).trans hlw2;have hK4:=hK2.trans (ko_wk (nb:=nb) hK3 (by omega));have hon3:¬Ow W2 nb:=fun h=>hon2 (hK3.own nb (by omega) h);have hop3:¬Ow W2 pb:=fun h=>hop2 (hK3.own pb (by omega) h);have hc13:W2.cell? ⟨nb,0,none⟩=some (.int .i64 (k:Int)):=by rw [Lib.cell_of_heap hcn3];rfl
     have hc23:W2.cell? ⟨pb,0,none⟩=some (.slice (some ⟨b,o,none⟩) p.length cap):=by rw [Lib.cell_of_heap hlw3];rfl
     have hcu3:W2.cell? ⟨b,o+k*5+3,none⟩=some (.int .i64 (u:Int)):=by rw [←hu];exact (hK4.below.cell (p:=⟨b,o+k*5+3,none⟩) (by show b<z;omega)).trans (HU.out k hk)
     have hfz:W2.frozen? ⟨nb,0,none⟩=false:=Lib.frozen_of_heap hcn3 0;have HFin:=Lib.hid (HF.out W2 _ hcn3 hlw3 hj3 hK4 hon3 hop3 (by rw [←hx.out];simp));have HMin:=Lib.hid (HM.out W2 hcn3);clear HF HM
     gi_wp2
     go_roundw
     case rel=>exact HFin.out
     case measure=>exact HMin.out
   | false =>
     rw [hel,if_neg (by decide)] at hx;have hc23:w2.cell? ⟨pb,0,none⟩=some (.slice (some ⟨b,o,none⟩) p.length cap):=by rw [Lib.cell_of_heap hlw2];rfl
     rw [hu] at hcu2;have hfz:w2.frozen? ⟨nb,0,none⟩=false:=Lib.frozen_of_heap hcn2 0;have HFin:=Lib.hid (HF.out w2 _ hcn2 hlw2 hj2 hK2 hon2 hop2 (by rw [←hx.out];simp));have HMin:=Lib.hid (HM.out w2 hcn2);clear HF HM
     gi_wp2
     refine ⟨fun _ h=>(by cases h),?_⟩
     gi_wp2
     go_roundw
     case rel=>exact HFin.out
     case measure=>exact HMin.out
  ·obtain rfl:k=0:=by omega
   have hx0:pre=upL p n0:=by have:=hx.out;unfold upL at this ⊢;simpa using this
   gi_wp2
   go_end0
   exact ⟨⟨_,rfl⟩,_,rfl,by rw [←hx0];exact hj,hK⟩
theorem Tryz.infoI:(Tryz.prog.info? 3).map (fun i=>(i.zero,i.size,i.bytes))=some (some (.int .i64 0),1,8):=by kernel_rfl
theorem owns_set {w:World} {base:Nat} {e:TypeId} {size:Nat} {v:Value} {n:Nat} {xs:List Value} (h:w.ownsRow base e size v n xs) {a:Addr} (ha:v.ownBlock≠some a.block) (u:Value):(w.setCell a u).ownsRow base e size v n xs:=by
 obtain ⟨h1,h2⟩:=h;refine ⟨h1,?_⟩;rcases h2 with h2 | ⟨g,cap,cur,rfl,hg,hh,r⟩
 ·exact .inl h2
 ·exact .inr ⟨g,cap,cur,rfl,hg,by rw [Below.heap_setCell _ _ _ _ (fun e=>ha (by rw [←e];rfl))];exact hh,r⟩
def Fre (z nb pb k:Nat):Prop:=(k<z∧k≠nb∧k≠pb)∨z+3≤k
def AIc (B z nb pb:Nat) (xs0:List Int) (w:World) (pre:List Int) (W:World):Prop :=
 ∃ v,W.heap[z]?=some (.cells #[v] 27 (0,0))∧W.ownsRow B 3 1 v (xs0++pre).length ((xs0++pre).map (Value.int .i64))∧(∀ k,v.ownBlock=some k→Fre z nb pb k)∧Below B w W
def OwC (z:Nat) (W:World) (k:Nat):Prop:=k=z∨∃ v,W.heap[z]?=some (.cells #[v] 27 (0,0))∧v.ownBlock=some k
theorem box_eqI {W:World} {z:Nat} {v v':Value} {t:TypeId} (h:W.heap[z]?=some (.cells #[v] t (0,0))) (h':W.heap[z]?=some (.cells #[v'] t (0,0))):v'=v:=by
 rw [h] at h';simpa using h'.symm
theorem AIc.own {B z nb pb:Nat} {xs0 pre:List Int} {w W:World} (h:AIc B z nb pb xs0 w pre W) {k:Nat} (hk:OwC z W k):k<W.heap.size∧(k=z∨Fre z nb pb k):=by
 obtain ⟨v,h1,h2,h3,-⟩:=h;rcases hk with rfl | ⟨v',h4,h5⟩
 ·exact ⟨(Array.getElem?_eq_some_iff.1 h1).1,.inl rfl⟩
 ·obtain rfl:=box_eqI h1 h4
  exact ⟨(h2.lt k h5).2,.inr (h3 k h5)⟩
theorem AIc.below {B z nb pb:Nat} {xs0 pre:List Int} {w W W':World} (hBz:B≤w.heap.size) (h:AIc B z nb pb xs0 w pre W) (hb:Below W.heap.size W W'):AIc B z nb pb xs0 w pre W':=by
 obtain ⟨v,h1,h2,h3,h4⟩:=h;have hz:=(Array.getElem?_eq_some_iff.1 h1).1;exact ⟨v,(hb.block _ hz).trans h1,owns_below h2 hb,h3,h4.trans (hb.mono (Nat.le_trans hBz h4.size))⟩
theorem AIc.set {B z nb pb:Nat} {xs0 pre:List Int} {w W:World} (hBn:B≤nb) (hnz:nb<z) (h:AIc B z nb pb xs0 w pre W) (u:Value):AIc B z nb pb xs0 w pre (W.setCell ⟨nb,0,none⟩ u):=by
 obtain ⟨v,h1,h2,h3,h4⟩:=h;refine ⟨v,?_,owns_set h2 (fun e=>?_) u,h3,h4.setCell (p:=⟨nb,0,none⟩) hBn u⟩
 ·rw [Below.heap_setCell W ⟨nb,0,none⟩ u z (by show z≠nb;omega)];exact h1
 ·rcases h3 _ e with h | h
  ·exact h.2.1 rfl
  ·simp only at h;omega
theorem AIc.put {B z nb pb j:Nat} {xs0 pre:List Int} {w W:World} (h:AIc B z nb pb xs0 w pre W) (hj:z<j) (hBj:B≤j) {r r':Loop} (hr:W.heap[j]?=some (.loop r)):AIc B z nb pb xs0 w pre (W.putObj j (.loop r')):=by
 obtain ⟨v,h1,h2,h5,h3⟩:=h;refine ⟨v,(World.putObj_heap_other (by omega)).trans h1,ownsRow_putObj h2 _ hr rfl,h5,h3.os,h3.tape,h3.output,?_,fun k hk=>?_⟩
 ·have:=h3.size
  show w.heap.size≤(W.putObj _ _).heap.size;simp;exact this
 ·rw [World.putObj_heap_other (by omega)]
  exact h3.block k hk
theorem aic_snoc {B z nb pb:Nat} (hBz:B≤z) {xs0 pre:List Int} {w W w1:World} {x:Int} {v1 v2:Value} (h1:W.heap[z]?=some (.cells #[v1] 27 (0,0))) (h2:W.ownsRow B 3 1 v1 (xs0++pre).length ((xs0++pre).map (Value.int .i64))) (h5:∀ k,v1.ownBlock=some k→Fre z nb pb k) (h3:Below B w W) (h4:z+3≤W.heap.size)
 (hgrow:(W.alloc (.cells #[.int .i64 x] 3)).grownBy w1 v1.ownBlock) (hown:w1.ownsRow B 3 1 v2 ((xs0++pre).length+1) ((xs0++pre).map (Value.int .i64)++[.int .i64 x])) (hblk:v2.ownBlock=v1.ownBlock∨v2.ownBlock=some (W.alloc (.cells #[.int .i64 x] 3)).heap.size) :
 AIc B z nb pb xs0 w (pre++[x]) (w1.setCell ⟨z,0,none⟩ v2)∧KO (OwC z) B W (w1.setCell ⟨z,0,none⟩ v2):=by
 have hne:some z≠v1.ownBlock:=fun e=>by
  rcases h5 z e.symm with h | h <;> omega
 have hb1:w1.heap[z]?=some (.cells #[v1] 27 (0,0)):=by
  rw [hgrow.block _ (by simp;omega) hne,Below.heap_alloc _ _ _ (by omega)];exact h1
 have hBg:Below B W w1:=((Below.refl _ W).alloc (by omega) _).grown hgrow (by simp;omega) fun k e=>(h2.lt k e).1;have hBs:=hBg.setCell (p:=⟨z,0,none⟩) hBz v2;have hbox:(w1.setCell ⟨z,0,none⟩ v2).heap[z]?=some (.cells #[v2] 27 (0,0)):=by
  have:=Q0o (o:=0) v2 hb1;simpa using this
 have hf2:∀ k,v2.ownBlock=some k→Fre z nb pb k:=fun k hk=>by
  rcases hblk with h7 | h7
  ·exact h5 k (h7.symm.trans hk)
  ·rw [hk] at h7
   simp at h7;exact .inr (by omega)
 have hne2:v2.ownBlock≠some z:=fun e=>by
  rcases hf2 z e with h | h <;> omega
 have hown2:(w1.setCell ⟨z,0,none⟩ v2).ownsRow B 3 1 v2 ((xs0++pre).length+1) ((xs0++pre).map (Value.int .i64)++[.int .i64 x]):=owns_set hown (a:=⟨z,0,none⟩) hne2 v2;refine ⟨⟨v2,hbox,?_,hf2,h3.trans hBs⟩,⟨fun k hk hn=>?_,fun k hk ho=>?_,fun k ho=>?_,hBs⟩⟩
 ·rw [←List.append_assoc,List.map_append,List.length_append]
  exact hown2
 ·have hkz:k≠z:=fun h=>hn (.inl h)
  rw [Q0l v2 rfl hkz,hgrow.block k (by simp;omega) fun e=>hn (.inr ⟨v1,h1,e.symm⟩),Below.heap_alloc _ _ _ hk]
 ·rcases ho with h | ⟨v,h5,h6⟩
  ·exact .inl h
  ·obtain rfl:=box_eqI hbox h5
   rcases hblk with h7 | h7
   ·exact .inr ⟨v1,h1,h7.symm.trans h6⟩
   ·rw [h6] at h7
    simp at h7;omega
 ·rcases ho with rfl | ⟨v,h5,h6⟩
  ·exact (Array.getElem?_eq_some_iff.1 hbox).1
  ·obtain rfl:=box_eqI hbox h5
   exact (hown2.lt k h6).2
theorem above_lenC (p:List Nod):∀ n:Nat,0<n→(aboveM p n).length+1≤n:=by
 intro n
 induction n using Nat.strongRecOn with
 | ind n ih =>
   intro hn;rw [Q0x]
   split
   ·rename_i h
    have:=ih (ndAt p n).up.toNat (by omega) (by omega);simp only [List.length_cons];omega
   ·simp;omega
theorem upL_len (p:List Nod) (n:Nat):(upL p n).length≤n:=by
 unfold upL
 split
 ·rename_i h
  rw [List.length_map];refine Nat.le_trans (List.length_filter_le _ _) ?_;rw [List.length_cons];exact above_lenC p n h
 ·simp
set_option maxRecDepth 100000 in
set_option maxHeartbeats 4000000 in
theorem appendC_any (B z0 nb pb:Nat) (xs0:List Int) (v0 vp:Value) (p:List Nod) (n0:Nat) (w:World) (hp:OkPg p) (hT:TreeP p) (hn:n0<p.length) (hz0:z0≤B) (hBn:B≤nb) (hpn:pb≠nb) (hx0:xs0.length≤1000000000000)
 (hv:AtB z0 w (.sl p.length 5 (p.flatMap encNd)) vp) (hl:w.heap[pb]?=some (.cells #[vp] 23 (0,0))) (hk:w.heap[nb]?=some (.cells #[.int .i64 (n0:Int)] 3 (0,0)))
 (h0:w.ownsRow B 3 1 v0 xs0.length (xs0.map (Value.int .i64))) (hf:∀ k,v0.ownBlock=some k→k≠nb∧k≠pb) :
 Calls Tryz.prog 45 #[v0,.func (.func 90) #[] #[.pointer (some ⟨nb,0,none⟩),.pointer (some ⟨pb,0,none⟩)]] w fun e w'=>∃ v,e=.returned v∧w'.ownsRow B 3 1 v (xs0++upL p n0).length ((xs0++upL p n0).map (Value.int .i64))∧Below B w w':=by
 obtain ⟨i0,hi,hi0,hi1,hi2⟩:=info_parts Tryz.infoI;have hpb:=(Array.getElem?_eq_some_iff.1 hl).1;have hnb:=(Array.getElem?_eq_some_iff.1 hk).1;have hlen:p.length≤1000000:=hp.len;have hul:=upL_len p n0;have heg:∀ args w,(callFunc 90 args).run Tryz.prog w=.ok (.enter 90 args) w:=fun args w=>by rfl
 refine callsIn_wide (n:=7).1 (callsIn_of_wp_marks Tryz.func45 rfl trivial ?_ rfl);simp only [Tryz.ntmps45,List.size_toArray,List.length_cons,List.length_nil,Nat.reduceAdd,Nat.reduceSub,Array.replicate_succ,Array.replicate_zero,List.push_toArray,List.append_toArray,List.nil_append,List.cons_append];obtain ⟨a0,c0,rfl⟩:∃ a c,v0=.slice a xs0.length c:=by
  rcases h0.2 with ⟨rfl,h⟩ | ⟨g,cap,cur,rfl,-⟩
  ·exact ⟨_,_,by rw [h]⟩
  ·exact ⟨_,_,rfl⟩
 generalize hlb:(#[.pointer (some ⟨nb,0,none⟩),.pointer (some ⟨pb,0,none⟩)]:Array Value)=lb
 gi_wp2
 subst hlb;have hsz1:(w.alloc (.cells #[.slice a0 xs0.length c0] 27)).heap.size=w.heap.size+1:=by simp
 have hb0:Below B w (w.alloc (.cells #[.slice a0 xs0.length c0] 27)):=(Q0g w _).mono (by omega);have hbn:∀ x,w.heap[nb]?=some x→(w.alloc (.cells #[.slice a0 xs0.length c0] 27)).heap[nb]?=some x:=fun x h=>by rw [Below.heap_alloc _ _ _ hnb];exact h
 have hIa0:AIc B w.heap.size nb pb xs0 w [] (w.alloc (.cells #[.slice a0 xs0.length c0] 27)):=⟨_,by rw [heap_al_new],by rw [List.append_nil];exact h0.alloc _,fun k hk=>.inl ⟨(h0.lt k hk).2,hf k hk⟩,hb0⟩
 refine range_allS (α:=Int) (gf:=90) (lb:=#[.pointer (some ⟨nb,0,none⟩),.pointer (some ⟨pb,0,none⟩)]) rfl heg (encs:=fun x:Int=>#[.int .i64 x]) (fun _=>rfl) (nb:=nb) (pb:=pb) (z:=B) (N:=(upL p n0).length) (S:=fun xs=>xs=upL p n0) (by rw [hsz1];omega) (by rw [hsz1];omega) (by rw [hsz1];omega)
  (AIc B w.heap.size nb pb xs0 w) (OwC w.heap.size) ?start ?ia ?il ?ow ?oa ?ol ?od ?is ?on ?op ?os ?seq (fun x=>{ tmps:=#[.slice a0 xs0.length c0,.func (.func 90) #[] #[.pointer (some ⟨nb,0,none⟩),.pointer (some ⟨pb,0,none⟩)],.pointer (some ⟨w.heap.size,0,none⟩),undef,.slice none 0 0,.int .i64 x,.func (.func 90) #[] #[.pointer (some ⟨nb,0,none⟩),.pointer (some ⟨pb,0,none⟩)],.int .i64 x,undef,undef,undef,undef,undef],defers:=[] }) ?assign ?body ?done
 case start=>exact hIa0
 case ia=>exact fun s A B h hb=>h.below (by omega) hb
 case il =>
  rw [hsz1];exact fun s A r r' h hr=>h.put (by omega) (by omega) hr
 case ow=>exact fun k hk=>(hIa0.own hk).1
 case oa =>
  intro A B k hA hb hk;rw [hsz1] at hA;rcases hk with h | ⟨v,h1,h2⟩
  ·exact .inl h
  ·exact .inr ⟨v,(hb.block _ (by omega)).symm.trans h1,h2⟩
 case ol =>
  rw [hsz1];intro A r r' k hr;have hz:∀ x,(A.putObj (w.heap.size+1+1) (.loop r')).heap[w.heap.size]?=some x↔A.heap[w.heap.size]?=some x:=fun x=>by rw [World.putObj_heap_other (by omega)]
  exact or_congr Iff.rfl (exists_congr fun v=>and_congr (hz _) Iff.rfl)
 case od =>
  rw [hsz1];intro s A h;refine ⟨fun hk=>?_,fun hk=>?_⟩ <;> (rcases (h.own hk).2 with h | h | h <;> omega)
 case is=>exact fun s A u h=>h.set hBn hnb u
 case on =>
  intro h;rcases (hIa0.own h).2 with h | h | h
  ·omega
  ·exact h.2.1 rfl
  ·omega
 case op =>
  intro h;rcases (hIa0.own h).2 with h | h | h
  ·omega
  ·exact h.2.2 rfl
  ·omega
 case os =>
  intro A u k;have hz:∀ x,(A.setCell ⟨nb,0,none⟩ u).heap[w.heap.size]?=some x↔A.heap[w.heap.size]?=some x:=fun x=>by rw [Below.heap_setCell A ⟨nb,0,none⟩ u w.heap.size (by show w.heap.size≠nb;omega)]
  exact or_congr Iff.rfl (exists_congr fun v=>and_congr (hz _) Iff.rfl)
 case seq =>
  exact above_iter z0 B nb pb (upL p n0).length vp p n0 _ hp hT hn (Nat.le_refl _) hz0 (by rw [hsz1];omega) hBn hpn (hv.below (hb0.mono hz0)) (by rw [Below.heap_alloc _ _ _ hpb];exact hl) (hbn _ hk)
 case assign =>
  intro l x W m K hK
  gi_wp2
  exact hK
 case body =>
  rintro l pre x W m ⟨v1,h1,h2,h5,h3⟩ hpl hWs;rw [hsz1] at hWs;have hc1:W.cell? ⟨w.heap.size,0,none⟩=some v1:=by rw [Lib.cell_of_heap h1];rfl
  have hf1:W.frozen? ⟨w.heap.size,0,none⟩=false:=Lib.frozen_of_heap h1 0;have hlx:(xs0++pre).length≤1000001000000:=by rw [List.length_append];omega
  gi_wp2_with (gi_at_builtin;refine wpListIn_append_own_at _ rfl _ _ 27 rfl B 3 i0 (.int .i64 0) 1 8 Tryz.underlying27 hi hi0 hi1 hi2 rfl (by decide) _ _ _ rfl (h2.alloc _) ⟨W.heap.size,0,none⟩ 1 1 [.int .i64 x] rfl rfl ?c1 ?c2 ?c3 ?c4 ?c5 ?_)
  case c1=>exact cell_one_new _ _ _
  case c2=>simp [Value.oneCell']
  case c3=>unfold maxLen;omega
  case c4=>omega
  case c5=>simp;omega
  intro v' w1 hown' hgrow _ hblk;obtain ⟨g',cap',rfl⟩:=ownsRow_succ hown';have HE:=Lib.hid (aic_snoc (by omega) h1 h2 h5 h3 (by omega) hgrow (by rw [List.length_append,List.map_append,List.append_assoc];exact hown') (by rw [World.size_alloc];exact hblk));have hne:some w.heap.size≠v1.ownBlock:=fun e=>by
   rcases h5 _ e.symm with h | h <;> omega
  have hb1:w1.heap[w.heap.size]?=some (.cells #[v1] 27 (0,0)):=by
   rw [hgrow.block _ (by simp;omega) hne,Below.heap_alloc _ _ _ (by omega)];exact h1
  clear hc1 hf1;have hc1:w1.cell? ⟨w.heap.size,0,none⟩=some v1:=by rw [Lib.cell_of_heap hb1];rfl
  have hf1:w1.frozen? ⟨w.heap.size,0,none⟩=false:=Lib.frozen_of_heap hb1 0;clear hb1 h1 h2 h3 hown' hblk
  gi_wp2
  exact HE.out
 case done =>
  rintro D xs W hD rfl ⟨v1,h1,h2,h5,h3⟩ hbel hdef;have hc1:W.cell? ⟨w.heap.size,0,none⟩=some v1:=by rw [Lib.cell_of_heap h1];rfl
  gi_wp2
  refine ⟨by simp,.inl ⟨_,_,rfl,run_takeDeferred hdef,?_⟩⟩;refine ⟨_,results_tmp rfl _ _ _,v1,rfl,ownsRow_putObj h2 _ hdef rfl,?_⟩;exact h3.grown (grownBy_putObj' W D _) (by have:=h3.size;omega) fun k e=>by cases e;simp at hD;omega
end Go.Proofs.YtabliahkhafddaaGreat
namespace Go.Proofs.YtabliahkhafddaaGreat
open Go.RowKit Go.Ev Go.Sort
open Go.Ev.AV renaming any→aN
attribute [local go_sem] Oper.semAt_some
theorem PureN.of_callsR {P:Program} {GT:GTab} {f:FuncId} {args:List AV} {a:AV} (hid:noIdsL args=true) (hfn:∃ fn,P.funcs[f]?=some fn∧(fn.name == "runtime.NumGoroutine")=false∧fn.body.isNone=false)
 (h:∀ (w:World) (rargs:Array Value),Ats w args rargs.toList→Calls P f rargs w fun e w'=>∃ r,e=.returned r∧VR w' ⟨fun _=>none,fun b=>w.heap.size≤b∧b<w'.heap.size⟩ a r∧Below w.heap.size w w'):PureN P GT f args a:=by
 refine ⟨fun w I rargs hI _ ha=>?_,hid,hfn⟩;have ha':Ats w args rargs.toList:=Q2d (I:=I) (I':=fun b=>b<w.heap.size) (fun rb hr=>hI rb hr) (fun _ _=>rfl) _ ha;refine (h w rargs ha').mono ?_;rintro e w' ⟨r,rfl,hv,hB⟩;exact ⟨fun b=>I b∨(w.heap.size≤b∧b<w'.heap.size),⟨fun _ h=>.inl h,fun _ h=>h.imp id fun h=>h.1,fun rb h=>h.elim (fun h=>Nat.lt_of_lt_of_le (hI rb h) hB.size) fun h=>h.2,hB.os,hB.tape,hB.output,hB.size,hB.block⟩,r,rfl,VR_keep (fun _ h=>.inr h) (fun _ _=>rfl) _ hv⟩
theorem keeps_iffI {zs:List Int} {j:Nat} (hj:j<zs.length):Lib.keeps zs.toArray j=true↔∀ h:0<j,zs[j]≠zs[j - 1]:=by
 by_cases h0:0<j
 ·have e1:zs.toArray[j]! = zs[j]:=by simp [hj]
  have e2:zs.toArray[j - 1]! = zs[j - 1]:=by simp [show j - 1<zs.length by omega]
  by_cases e:zs[j]=zs[j - 1]
  ·rw [Lib.keeps_neg h0 (by rw [e1,e2,e])]
   simp [h0,e]
  ·rw [Lib.keeps_pos (by rw [e1,e2];exact e)]
   simp [e]
 ·rw [Lib.keeps_lt_one _ j (by omega)]
  simp [show ¬0<j by omega]
theorem compact_mapI (zs:List Int):Lib.compact zs=((List.range zs.length).filter (Lib.keeps zs.toArray)).map fun j=>zs.toArray[j]! := by
 unfold Lib.compact Lib.compactUpTo;simp
theorem mem_compactI (zs:List Int) (x:Int):x∈Lib.compact zs↔x∈zs:=by
 rw [compact_mapI]
 constructor
 ·intro h
  obtain ⟨j,hj,rfl⟩:=List.mem_map.1 h;have hj2:=List.mem_range.1 (List.mem_filter.1 hj).1;simp [hj2]
 ·intro h
  obtain ⟨n,hn,rfl⟩:=List.getElem_of_mem h;have key:∀ n (hn:n<zs.length),∃ j,∃ hj:j<zs.length,Lib.keeps zs.toArray j=true∧zs[j]=zs[n]:=by
   intro n
   induction n with
   | zero=>exact fun hn=>⟨0,hn,(keeps_iffI hn).2 fun h=>absurd h (by omega),rfl⟩
   | succ n ih =>
     intro hn
     by_cases e:zs[n+1]=zs[n]
     ·obtain ⟨j,hj,h1,h2⟩:=ih (by omega)
      exact ⟨j,hj,h1,by rw [h2,e]⟩
     ·exact ⟨n+1,hn,(keeps_iffI hn).2 fun _=>e,rfl⟩
  obtain ⟨j,hj,h1,h2⟩:=key n hn;refine List.mem_map.2 ⟨j,List.mem_filter.2 ⟨List.mem_range.2 hj,h1⟩,?_⟩;rw [←h2];simp [hj]
theorem compact_lt {zs:List Int} (h:zs.Pairwise (·≤·)):(Lib.compact zs).Pairwise (·<·):=by
 rw [compact_mapI];refine List.pairwise_map.2 (List.Pairwise.imp_of_mem (R:=fun a b=>a<b) ?_ ((List.pairwise_lt_range).filter _));intro i j hi hj hij;have hj1:=List.mem_filter.1 hj;have hi2:=List.mem_range.1 (List.mem_filter.1 hi).1;have hj2:=List.mem_range.1 hj1.1;have hk:=(keeps_iffI hj2).1 hj1.2 (by omega);have e1:zs.toArray[i]! = zs[i]:=by simp [hi2]
 have e2:zs.toArray[j]! = zs[j]:=by simp [hj2]
 rw [e1,e2];have h1:zs[i]≤zs[j - 1]:=by
  by_cases e:i=j - 1
  ·subst e;exact Int.le_refl _
  ·exact List.pairwise_iff_getElem.1 h i (j - 1) hi2 (by omega) (by omega)
 have h2:zs[j - 1]≤zs[j]:=List.pairwise_iff_getElem.1 h (j - 1) j (by omega) hj2 (by omega);omega
theorem eq_of_lt:∀ {a b:List Int},a.Pairwise (·<·)→b.Pairwise (·<·)→(∀ x,x∈a↔x∈b)→a=b
 | [],[],_,_,_=>rfl
 | [],y::_,_,_,h=>by have:=(h y).2 List.mem_cons_self;simp at this
 | x::_,[],_,_,h=>by have:=(h x).1 List.mem_cons_self;simp at this
 | x :: xs,y::ys,ha,hb,h=>by
   rw [List.pairwise_cons] at ha hb;have e:x=y:=by
    rcases List.mem_cons.1 ((h x).1 List.mem_cons_self) with e | h1
    ·exact e
    ·rcases List.mem_cons.1 ((h y).2 List.mem_cons_self) with e | h2
     ·exact e.symm
     ·have:=hb.1 x h1
      have:=ha.1 y h2;omega
   subst e;rw [eq_of_lt ha.2 hb.2 fun z=>⟨fun hz=>?_,fun hz=>?_⟩]
   ·rcases List.mem_cons.1 ((h z).1 (List.mem_cons_of_mem _ hz)) with e | h1
    ·have:=ha.1 z hz;omega
    ·exact h1
   ·rcases List.mem_cons.1 ((h z).2 (List.mem_cons_of_mem _ hz)) with e | h1
    ·have:=hb.1 z hz;omega
    ·exact h1
def accC (p:List Nod) (k:Nat):List Int:=(List.range k).flatMap fun n=>if hasC p n=true then upL p n else []
theorem accC_succ (p:List Nod) (k:Nat):accC p (k+1)=accC p k++if hasC p k=true then upL p k else []:=by
 unfold accC;rw [List.range_succ,List.flatMap_append];simp
theorem accC_len (p:List Nod) (k N:Nat) (hk:k≤N):(accC p k).length≤k*N:=by
 induction k with
 | zero=>simp [accC]
 | succ k ih =>
   rw [accC_succ,List.length_append,Nat.succ_mul];have:=ih (by omega);have h2:(if hasC p k=true then upL p k else []).length≤N:=by
    split
    ·have:=upL_len p k;omega
    ·simp
   omega
theorem mem_upL {p:List Nod} {n:Nat} {x:Int}:x∈upL p n↔0<n∧∃ m:Nat,x=(m:Int)∧(m=n∨m∈aboveM p n)∧elemB p (m:Int)=true:=by
 unfold upL
 split
 ·rename_i h
  rw [List.mem_map]
  constructor
  ·rintro ⟨m,hm,rfl⟩
   obtain ⟨h1,h2⟩:=List.mem_filter.1 hm;exact ⟨h,m,rfl,List.mem_cons.1 h1,h2⟩
  ·rintro ⟨-,m,rfl,h1,h2⟩
   exact ⟨m,List.mem_filter.2 ⟨List.mem_cons.2 h1,h2⟩,rfl⟩
 ·rename_i h
  simp [h]
theorem hasC_pos {p:List Nod} (hT:TreeP p) {n:Nat} (h:hasC p n=true):0<n∧n<p.length:=by
 obtain ⟨h1,h2⟩:=elem_at.1 (hasC_elem h);refine ⟨?_,h1⟩
 cases n with
 | zero =>
   have h0:=hT.root (by intro e;subst e;simp at h1);rw [show (0:Int)=((0:Nat):Int) from rfl,Q0p h1] at h0;exact absurd h0 h2
 | succ n=>omega
theorem mem_accC {p:List Nod} (hT:TreeP p) (x:Int):x∈accC p p.length↔∃ m:Nat,x=(m:Int)∧critB p m=true:=by
 unfold accC;rw [List.mem_flatMap]
 constructor
 ·rintro ⟨n,-,h⟩
  split at h
  ·rename_i hc
   obtain ⟨-,m,rfl,h1,h2⟩:=mem_upL.1 h;exact ⟨m,rfl,Q1y.2 ⟨h2,n,hc,h1.imp Eq.symm id⟩⟩
  ·simp at h
 ·rintro ⟨m,rfl,h⟩
  obtain ⟨h1,c,hc,h2⟩:=Q1y.1 h;obtain ⟨c0,c1⟩:=hasC_pos hT hc;refine ⟨c,List.mem_range.2 c1,?_⟩;rw [if_pos hc];exact mem_upL.2 ⟨c0,m,rfl,h2.imp Eq.symm id,h1⟩
theorem sortI_sorted (l:List Int):(l.mergeSort fun x y=>decide (x≤y)).Pairwise (·≤·):=by
 have h:=List.pairwise_mergeSort (le:=fun (x y:Int)=>decide (x≤y)) (by intro a b c h k;simp at *;omega) (by intro a b;simp;omega) l;exact h.imp fun h=>of_decide_eq_true h
theorem accC_nodes {p:List Nod} (ht:treeB p=true):Lib.compact ((accC p p.length).mergeSort fun x y=>decide (x≤y))=nodesM p:=by
 refine eq_of_lt (compact_lt (sortI_sorted _)) (nodesM_sorted p) fun x=>?_;rw [mem_compactI,(List.mergeSort_perm _ _).mem_iff,mem_accC (tree_P ht)]
 constructor
 ·rintro ⟨m,rfl,h⟩
  exact (mem_nodesM ht).2 h
 ·intro h
  exact (nodesM_nat h).2
theorem above_call (a:Option Addr) (m c:Nat) (k:Int) (w:World):Calls Tryz.prog 46 #[.slice a m c,.int .i64 k] w fun e w'=>e=.returned (.func (.func 90) #[] #[.pointer (some ⟨w.heap.size+1,0,none⟩),.pointer (some ⟨w.heap.size,0,none⟩)])∧w'=(w.alloc (.cells #[.slice a m c] 23)).alloc (.cells #[.int .i64 k] 3):=by
 go_enter Tryz.func46,Tryz.ntmps46
 go_wp2
 go_ret
 exact ⟨by simp,rfl⟩
theorem owns_vr {w':World} {B:Nat} {v:Value} {l:List Int} (h:w'.ownsRow B 3 1 v l.length (l.map (Value.int .i64))):VR w' ⟨fun _=>none,fun b=>B≤b∧b<w'.heap.size⟩ (.sl l.length 1 (l.flatMap encZ)) v:=by
 rcases h.2 with ⟨rfl,h0⟩ | ⟨g,cap,cur,rfl,hb,hh,h1,h2,h3,h4⟩
 ·exact ⟨none,0,by rw [h0],by omega,.inl h0⟩
 ·refine ⟨_,cap,rfl,h1,.inr ⟨g,0,rfl,RowR.mk (show B≤g∧g<w'.heap.size from ⟨hb,(Array.getElem?_eq_some_iff.1 hh).1⟩) fun i a ha=>?_⟩⟩
  rw [mapZ,List.getElem?_map] at ha;obtain ⟨x,hx,rfl⟩:=Option.map_eq_some_iff.1 ha;refine ⟨.int .i64 x,?_,rfl⟩;have:=h.cells (g:=g) rfl i (.int .i64 x) (by rw [List.getElem?_map,hx];rfl);rw [Nat.zero_add];unfold Addr.add at this
  split at this
  ·rename_i h9;subst h9;exact this
  ·simpa using this
theorem ownsRow_compactI {w:World} {base g cap n:Nat} {e:TypeId} {cur:Array Value} {zs:List Int} (hbase:base≤g) (hb:w.heap[g]?=some (.cells cur e (0,0)))
 (h1:zs.length≤cap) (h2:cap≤maxLen) (h3:cur.size=cap*1) :
 (putRow (Value.int .i64) (Sort.ahead w n) g 0 (Lib.compact zs++List.replicate (zs.length - (Lib.compact zs).length) 0).toArray).ownsRow base e 1 (.slice (some ⟨g,0,none⟩) (Lib.compact zs).length cap) (Lib.compact zs).length ((Lib.compact zs).map (Value.int .i64)):=by
 have hle:=Lib.compact_length_le zs;have hl:(Lib.compact zs++List.replicate (zs.length - (Lib.compact zs).length) 0).length=zs.length:=by simp;omega
 have h9:=(ownsRow_sortedI (n:=n) (os:=#[]) hl hbase hb h1 h2 h3).2;have hg:grow (putRow (Value.int .i64) (Sort.ahead w n) g 0 (Lib.compact zs++List.replicate (zs.length - (Lib.compact zs).length) 0).toArray) #[]=putRow (Value.int .i64) (Sort.ahead w n) g 0 (Lib.compact zs++List.replicate (zs.length - (Lib.compact zs).length) 0).toArray:=by
  exact grow_nil _
 rw [hg] at h9;rcases h9 with ⟨h,-⟩ | ⟨g',cap',cur',hv,hg',hb',h4,h5,h6,h7⟩
 ·cases h
 ·cases hv
  refine ⟨by simp,.inr ⟨g,cap,cur',rfl,hbase,hb',by omega,h5,h6,?_⟩⟩;have h8:=congrArg (List.take (Lib.compact zs).length) h7;rw [List.take_take,Nat.min_eq_left (by omega),List.map_append,List.take_left' (by simp)] at h8;rw [Nat.mul_one];exact h8
theorem below_compactI {w w1:World} {g n:Nat} (d:Array Int) (h:Below w.heap.size w w1) (hbase:w.heap.size≤g):Below w.heap.size w (putRow (Value.int .i64) (Sort.ahead w1 n) g 0 d):=by
 have hg:grow (putRow (Value.int .i64) (Sort.ahead w1 n) g 0 d) #[]=putRow (Value.int .i64) (Sort.ahead w1 n) g 0 d:=grow_nil _;have:=h.grown (grownBy_sortedI (w:=w1) (g:=g) (n:=n) (os:=#[]) d) h.size fun k e=>by cases e;exact hbase
 rwa [hg] at this
set_option maxRecDepth 100000 in
set_option maxHeartbeats 4000000 in
theorem nodes_any (p:List Nod) (hp:OkPg p) (v:Value) (w:World) (hv:At w (.sl p.length 5 (p.flatMap encNd)) v) :
 Calls Tryz.prog 13 #[v] w fun e w'=>∃ r,e=.returned r∧VR w' ⟨fun _=>none,fun b=>w.heap.size≤b∧b<w'.heap.size⟩ (.sl (nodesM p).length 1 ((nodesM p).flatMap encZ)) r∧Below w.heap.size w w':=by
 have HT:=Lib.hid ((tree_p p hp).pure.at w #[v] (fun _ _ h=>by cases h) (VRs.cons_mk hv (by rw [VRs])));obtain ⟨ad,cp,rfl,-⟩:=At.sl_form hv
 go_enter Tryz.func13,Tryz.ntmps13
 go_wp2_with fail
 refine HT.out.mono ?_;rintro e w1 ⟨r,rfl,hr,hB1⟩;obtain rfl:r=.bool (treeB p):=hr
 cases ht:treeB p with
 | false =>
   have hn:nodesM p=[]:=by unfold nodesM;rw [ht,if_neg (by decide)]
   go_wp2
   go_ret
   refine ⟨_,rfl,?_,hB1⟩;rw [hn];exact ⟨none,0,rfl,Nat.zero_le _,.inl rfl⟩
 | true =>
   have hlen:=hp.len;have hB1s:=hB1.size
   go_wp2
   go_loopw [3,12] (fun sv i wr=>∃ k:Nat,k≤p.length∧i=.int .i64 k∧wr.ownsRow w.heap.size 3 1 sv (accC p k).length ((accC p k).map (Value.int .i64))∧Below w.heap.size w wr) (fun _ i _=>p.length - (intOf i).toNat)
   case atStart=>exact ⟨0,Nat.zero_le _,rfl,World.ownsRow_nil _ _ _ _,hB1⟩
   case round =>
    obtain ⟨k,hk,rfl,hown,hB⟩:=hrel
    by_cases hlt:k<p.length
    ·have hBs:=hB.size
     have hvr:At wr (.sl p.length 5 (p.flatMap encNd)) (.slice ad p.length cp):=((At.toB hv).below hB).toAt hBs;have HA:=Lib.hid ((attr_p p (k:Int) critS hp.attrs).pure.at wr #[.slice ad p.length cp,.int .i64 (k:Int),.string critS] (fun _ _ h=>by cases h) (VRs.cons_mk hvr (VRs.cons_mk rfl (VRs.cons_mk rfl (by rw [VRs])))))
     go_wp2_with fail
     refine HA.out.mono ?_;rintro e w2 ⟨r,rfl,⟨rc,rfl,hr⟩,hB2⟩;obtain ⟨x0,r0,e0,hx0,hr⟩:=hr;obtain ⟨x1,r1,rfl,hx1,hr⟩:=hr;have hr4:r1=[]:=hr;subst hr4;obtain rfl:x0=_:=hx0;obtain rfl:x1=.bool (hasC p k):=hx1;obtain rfl:rc=#[.string ((atM p (k:Int) critS).getD ⟨#[]⟩),.bool (hasC p k)]:=Array.toList_inj.1 e0;generalize (atM p (k:Int) critS).getD ⟨#[]⟩=sx;have hown2:=owns_below hown hB2;have hB3:=hB.trans (hB2.mono hBs);have hB2s:=hB2.size
     cases hc:hasC p k with
     | false =>
       go_wp2
       go_roundw
       case rel=>exact ⟨k+1,by omega,by go_num,by rw [accC_succ,hc,if_neg (by decide),List.append_nil];exact hown2,hB3⟩
       case measure=>simp [intOf];omega
     | true =>
       have hal:(accC p k).length≤1000000000000:=Nat.le_trans (accC_len p k p.length hk) (by
        have:=Nat.mul_le_mul (Nat.le_trans hk hlen) hlen
        omega)
       go_wp2_with fail
       refine (above_call ad p.length cp (k:Int) w2).mono ?_;rintro e w3 ⟨rfl,rfl⟩
       have HP:=Lib.hid (appendC_any w.heap.size w.heap.size (w2.heap.size+1) w2.heap.size (accC p k) u3 (.slice ad p.length cp) p k ((w2.alloc (.cells #[.slice ad p.length cp] 23)).alloc (.cells #[.int .i64 (k:Int)] 3)) hp (tree_P ht) hlt (Nat.le_refl _) (by omega) (by omega) hal
        ((At.toB hv).below ((hB3.alloc (by omega) _).alloc (by simp;omega) _)) (by rw [Below.heap_alloc _ _ _ (by simp),World.alloc_heap_new]) (by rw [show w2.heap.size+1=(w2.alloc (.cells #[.slice ad p.length cp] 23)).heap.size by simp,World.alloc_heap_new]) ((hown2.alloc _).alloc _)
        (fun j hj=>by have:=(hown.lt j hj).2;omega))
       have hB5:Below w.heap.size w ((w2.alloc (.cells #[.slice ad p.length cp] 23)).alloc (.cells #[.int .i64 (k:Int)] 3)):=(hB3.alloc (by omega) _).alloc (by simp;omega) _;generalize ((w2.alloc (.cells #[.slice ad p.length cp] 23)).alloc (.cells #[.int .i64 (k:Int)] 3))=w5 at *
       go_wp2_with fail
       refine HP.out.mono ?_;rintro e w6 ⟨v6,rfl,hown6,hB6⟩;have hB7:=hB5.trans hB6
       go_wp2
       go_roundw
       case rel=>exact ⟨k+1,by omega,by go_num,by rw [accC_succ,hc,if_pos rfl];exact hown6,hB7⟩
       case measure=>simp [intOf];omega
    ·obtain rfl:k=p.length:=by omega
     have HN:=Lib.hid (accC_nodes ht)
     have hal:(accC p p.length).length≤1000000000000:=Nat.le_trans (accC_len p p.length p.length hk) (by
      have:=Nat.mul_le_mul hlen hlen
      omega)
     generalize accC p p.length=acc at *;rcases hown.2 with ⟨rfl,h0⟩ | ⟨g,cap,cur,rfl,hbase,hbk,h1,h2,h3,h4⟩
     ·obtain rfl:acc=[]:=List.eq_nil_of_length_eq_zero h0
      go_wp2_with fail
      refine (Tryz.slices_Sort_int_none _ _ _).mono ?_;rintro e w2 ⟨rfl,rfl⟩
      go_wp2_with fail
      refine (Tryz.slices_Compact_int_empty _ _ _).mono ?_;rintro e w2 ⟨rfl,rfl⟩
      go_wp2
      go_ret
      refine ⟨_,rfl,?_,hB⟩;rw [←HN.out,show (([]:List Int).mergeSort fun x y=>decide (x≤y))=[] by simp];exact ⟨none,0,rfl,Nat.le_refl _,.inl rfl⟩
     ·have hH:Holds (Value.int .i64) wr g 0 acc.toArray:=holds_of_blockI hbk (by simpa using h4)
      obtain ⟨zs,hzs⟩:∃ zs,zs=acc.mergeSort fun x y=>decide (x≤y):=⟨_,rfl⟩;have hzl:zs.length=acc.length:=by rw [hzs];exact List.length_mergeSort _
      have HS:=Lib.hid (Tryz.slices_Sort_int g 0 cap acc wr hH (Array.getElem?_eq_some_iff.1 hbk).1 (by omega));rw [←hzs] at HS HN;have HO:=fun (n:Nat) (os:Array Obj)=>ownsRow_sortedI (n:=n) (os:=os) (ts:=zs) hzl hbase hbk h1 h2 h3;have HB:=fun (n:Nat) (os:Array Obj)=>hB.grown (grownBy_sortedI (w:=wr) (g:=g) (n:=n) (os:=os) zs.toArray) hB.size fun k e=>by cases e;exact hbase
      have HO2:=Lib.hid HO;have HB2:=Lib.hid HB;clear HO HB hH hown hbk h4 hzs
      go_wp2_with fail
      refine HS.out.mono ?_;rintro e w2 ⟨rfl,n2,os2,rfl⟩;have ho2:=HO2.out n2 os2;have hb2:=HB2.out n2 os2;clear HO2 HB2 HS;generalize grow (putRow (Value.int .i64) (Sort.ahead wr n2) g 0 zs.toArray) os2=w3 at *;rcases ho2.2 with ⟨h,-⟩ | ⟨g',cap',cur',hv',hg',hb',h4',h5',h6',h7'⟩
      ·cases h
      cases hv'
      have hH:Holds (Value.int .i64) w3 g 0 zs.toArray:=holds_of_blockI hb' (by rw [hzl];simpa using h7');have HC:=Tryz.slices_Compact_int g 0 cap zs w3 hH (by omega) (by omega);rw [hzl] at HC;have HC2:=Lib.hid HC;clear HC
      go_wp2_with fail
      refine HC2.out.mono ?_;rintro e w4 ⟨rfl,q,rfl⟩;have ho4:=ownsRow_compactI (n:=q) (zs:=zs) hbase hb' (by omega) h2 h6';have hb4:=below_compactI (n:=q) (Lib.compact zs++List.replicate (zs.length - (Lib.compact zs).length) 0).toArray hb2 hbase;rw [hzl] at ho4 hb4;rw [HN.out] at ho4 hb4 ⊢;have HO4:=Lib.hid ho4;have HB4:=Lib.hid hb4;clear ho4 hb4
      go_wp2
      go_ret
      exact ⟨_,rfl,owns_vr HO4.out,HB4.out⟩
theorem nodes_p (p:List Nod) (hp:OkPg p):PureN Tryz.prog gt0 13 [.sl p.length 5 (p.flatMap encNd)] (.sl (nodesM p).length 1 ((nodesM p).flatMap encZ)):=by
 refine PureN.of_callsR rfl ⟨_,Tryz.func13,rfl,by kernel_rfl⟩ fun w rargs ha=>?_;obtain ⟨v,vs,hr,hv,hvs⟩:=ha;obtain rfl:vs=[]:=hvs;obtain rfl:rargs=#[v]:=Array.toList_inj.1 hr;exact nodes_any p hp v w hv
end Go.Proofs.YtabliahkhafddaaGreat
namespace Go.Proofs.YtabliahkhafddaaGreat
open Go.RowKit Go.Ev
open Go.Ev.AV renaming any→aN
attribute [local go_sem] eq_self false_and and_false Bool.false_eq_true List.set_cons_succ List.set_cons_zero List.getD_cons_succ List.getD_cons_zero List.getElem?_cons_succ List.getElem?_cons_zero true_and and_true and_self Bool.not_true Bool.not_false Nat.add_zero Nat.zero_add Nat.mul_one Int.toNat_natCast Int.natCast_nonneg Int.ofNat_lt Option.bind_some Option.map_some List.map_cons List.map_nil decide_true decide_false BEq.rfl Bool.and_self Bool.and_true Bool.and_false beq_self_eq_true List.cons_append List.nil_append List.take_zero List.take_succ_cons List.take_nil List.drop_succ_cons List.drop_zero List.drop_nil List.append_nil List.length_cons List.length_nil List.all_cons List.all_nil Nat.le_refl Int.le_refl Option.map_none List.replicate_zero List.replicate_succ Nat.zero_mul Nat.sub_zero Nat.zero_le Nat.le_zero_eq Q1z Option.some_or Option.none_or Option.or_none Option.isSome_some Option.isSome_none Option.getD_some Option.getD_none Int.toNat_zero Int.natCast_zero Int.natCast_one Int.cast_ofNat_Int List.toList_toArray
attribute [go_sem] appL newsA isSlice
theorem ag_cprt:aggO Tryz.prog 113=some (true,2):=by kernel_rfl
theorem sz_cprt:szO Tryz.prog 113=some 2:=by kernel_rfl
theorem fl_cprt0:fldO Tryz.prog 113 0=some (0,23):=by kernel_rfl
theorem fl_cprt1:fldO Tryz.prog 113 1=some (1,27):=by kernel_rfl
theorem bl_cprt (parts:List (Nat×AV)):evBuild Tryz.prog 113 parts=aggM (fillL [(0,1),(1,1)] [.g (.slice none 0 0),.g (.slice none 0 0)] parts):=Q0u (by kernel_rfl) parts
theorem ze_cprt:zeroO Tryz.prog 113=some [.g (.slice none 0 0),.g (.slice none 0 0)]:=by kernel_rfl
theorem bl_safeT (parts:List (Nat×AV)):evBuild Tryz.prog 48 parts=aggM (fillL [(0,1),(1,1)] [.g (.slice none 0 0),.g (.slice none 0 0)] parts):=Q0u (by kernel_rfl) parts
attribute [go_sem] ag_cprt sz_cprt fl_cprt0 fl_cprt1 bl_cprt ze_cprt bl_safeT
theorem PureN.weakT {P:Program} {GT:GTab} {f:FuncId} {args args':List AV} {a:AV} (h:PureN P GT f args' a) (hw:wkL args' args) (hn:noIdsL args=true) (hp:plainA a=true):PureN P GT f args a :=
 CallM.pureN (CallM.weakQ (PureN.callM h) hw) hn (.plain hp)
end Go.Proofs.YtabliahkhafddaaGreat
end
