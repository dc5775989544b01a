/- The law CritUp is true of every input: the statement of the first form. -/
import Derived.Test.YtabliahkhafddaaGreatLd6
import Derived.Test.YtabliahkhafddaaGreatLd2
import Derived.Test.YtabliahkhafddaaGreatLd3
set_option linter.unusedSimpArgs false
noncomputable section
namespace Go.Proofs.YtabliahkhafddaaGreat
open Go.RowKit Go.Ev
open Go.Ev.AV renaming any→aN
attribute [local go_sem] eq_self false_and and_false Bool.false_eq_true List.set_cons_succ List.set_cons_zero List.getD_cons_succ List.getD_cons_zero List.getElem?_cons_succ List.getElem?_cons_zero true_and and_true and_self Bool.not_true Bool.not_false Nat.add_zero Nat.zero_add Nat.mul_one Int.toNat_natCast Int.natCast_nonneg Int.ofNat_lt Option.bind_some Option.map_some List.map_cons List.map_nil decide_true decide_false BEq.rfl Bool.and_self Bool.and_true Bool.and_false beq_self_eq_true List.cons_append List.nil_append List.take_zero List.take_succ_cons List.take_nil List.drop_succ_cons List.drop_zero List.drop_nil List.append_nil List.length_cons List.length_nil List.all_cons List.all_nil Nat.le_refl Int.le_refl Option.map_none List.replicate_zero List.replicate_succ Nat.zero_mul Nat.sub_zero Nat.zero_le Nat.le_zero_eq Q1z Option.some_or Option.none_or Option.or_none Option.isSome_some Option.isSome_none Option.getD_some Option.getD_none Int.toNat_zero Int.natCast_zero Int.natCast_one Int.cast_ofNat_Int List.toList_toArray
attribute [go_sem] appL newsA isSlice
def inZ (l:List Int) (x:Int):Bool:=l.any fun y=>decide (y=x)
set_option maxRecDepth 100000 in
set_option maxHeartbeats 4000000 in
theorem in21_p (l:List Int) (x:Int) (hl:l.length≤1000000):PureN Tryz.prog gt0 15 [.sl l.length 1 (l.flatMap encZ),.g (.int .i64 x)] (.g (.bool (inZ l x))):=by
 refine PureN.of_w (c:=_) Tryz.func15 rfl (by kernel_rfl) rfl ?_;simp only [Tryz.f15,List.replicate,List.length_cons,List.length_nil,Nat.reduceAdd,Nat.reduceSub,List.cons_append,List.nil_append];unfold inZ
 (repeat ((try with_reducible refine W.step (b:=false) ?_);simp (decide:=true) only [go_sem,↓reduceIte,Nat.reduceAdd,Nat.reduceSub]))
 refine W.loop (s1:=stL [(.sl l.length 1 (l.flatMap encZ)),(.g (.int .i64 x)),aN,aN,(.g (.bool false)),(.g (.int .i64 ((0:Nat):Int))),aN,aN,aN,aN,aN,aN,aN,aN,aN,aN,aN,aN] [] 0)
  (fun (k:Nat) t=>k≤l.length∧(∀ y∈l.take k,decide (y=x)=false)∧t=stL [(.sl l.length 1 (l.flatMap encZ)),(.g (.int .i64 x)),aN,aN,(.g (.bool false)),(.g (.int .i64 (k:Int))),aN,aN,aN,aN,aN,aN,aN,aN,aN,aN,aN,aN] [] 0) (fun k=>l.length - k) 0 ⟨Nat.zero_le _,by simp,rfl⟩ (VS.tm (by simp [leL])) ?_
 rintro k t ⟨hk,he,rfl⟩
 by_cases hlt:k<l.length
 ·have r:=rowZ hlt
  by_cases hx:l[k]=x
  ·have fx:=eq_true hx
   rw [List.any_eq_true.2 ⟨l[k],List.getElem_mem hlt,decide_eq_true hx⟩]
   (repeat ((try with_reducible refine W.step (b:=false) ?_);simp (decide:=true) only [go_sem,↓reduceIte,Nat.reduceAdd,Nat.reduceSub,hlt,r,fx]))
   exact Q0c _ (.inr rfl) rfl (.plain rfl)
  ·have fx:=eq_false hx
   (repeat ((try with_reducible refine W.step (b:=false) ?_);simp (decide:=true) only [go_sem,↓reduceIte,Nat.reduceAdd,Nat.reduceSub,hlt,r,fx]))
   refine ⟨k+1,_,⟨by omega,take_next (pr:=fun y=>decide (y=x)) hlt he (decide_eq_false hx),rfl⟩,by show l.length - (k+1)<l.length - k;omega,VS.tm ?_⟩;rw [up1 (by omega)];simp [leL]
 ·have:(l.any fun y=>decide (y=x))=false:=List.any_eq_false.2 fun y hy=>by
   have:=he y (by rw [List.take_of_length_le (by omega)];exact hy);simpa using this
  rw [this]
  (repeat ((try with_reducible refine W.step (b:=false) ?_);simp (decide:=true) only [go_sem,↓reduceIte,Nat.reduceAdd,Nat.reduceSub,hlt]))
  exact Q0c _ (.inr rfl) rfl (.plain rfl)
theorem nodesM_len {p:List Nod} (hp:OkPg p):(nodesM p).length≤1000000:=by
 unfold nodesM nodesM.tellC
 split
 ·rw [List.length_map]
  refine Nat.le_trans (List.length_filter_le _ _) ?_;rw [List.length_range];exact hp.len
 ·simp
def upB (p:List Nod) (m u:Nat):Bool:=decide (0<u)&&(decide ((u:Int)=(m:Int))||decide (m∈aboveM p u))
theorem upB_step {p:List Nod} (hT:TreeP p) {m u:Nat} (h0:0<u) (hu:u<p.length) (hx:u≠m):upB p m u=upB p m (ndAt p u).up.toNat:=by
 obtain ⟨g1,g2⟩:=hT.up u h0 hu;have hst:=Q0x (p:=p) u;obtain ⟨v,hv⟩:∃ v:Nat,(ndAt p u).up=v:=⟨(ndAt p u).up.toNat,by omega⟩;rw [hv] at hst ⊢;rw [Int.toNat_natCast] at hst ⊢;unfold upB;rw [Bool.eq_iff_iff];simp only [Bool.and_eq_true,Bool.or_eq_true,decide_eq_true_eq];rw [hst]
 by_cases hv0:0<v
 ·rw [if_pos ⟨by omega,by omega⟩,List.mem_cons]
  constructor
  ·rintro ⟨-,h | h | h⟩
   ·omega
   ·exact ⟨hv0,.inl (by omega)⟩
   ·exact ⟨hv0,.inr h⟩
  ·rintro ⟨-,h | h⟩
   ·exact ⟨h0,.inr (.inl (by omega))⟩
   ·exact ⟨h0,.inr (.inr h)⟩
 ·rw [if_neg (by omega)]
  constructor
  ·rintro ⟨-,h | h⟩
   ·omega
   ·simp at h
  ·rintro ⟨h,-⟩
   omega
set_option maxRecDepth 100000 in
set_option maxHeartbeats 4000000 in
theorem inner21_p (p:List Nod) (l:List Int) (m:Nat) (hT:TreeP p) (hl:l.length≤1000000) (hN:∀ x∈l,∃ k:Nat,x=(k:Int)∧0<k∧k<p.length) :
 PureN Tryz.prog gt0 16 [.sl p.length 5 (p.flatMap encNd),.sl l.length 1 (l.flatMap encZ),.g (.int .i64 (m:Int))] (.g (.bool (l.any fun x=>decide (x=(m:Int))||decide (m∈aboveM p x.toNat)))):=by
 refine PureN.of_w (c:=_) Tryz.func16 rfl (by kernel_rfl) rfl ?_;simp only [Tryz.f16,List.replicate,List.length_cons,List.length_nil,Nat.reduceAdd,Nat.reduceSub,List.cons_append,List.nil_append]
 (repeat ((try with_reducible refine W.step (b:=false) ?_);simp (decide:=true) only [go_sem,↓reduceIte,Nat.reduceAdd,Nat.reduceSub]))
 refine W.loop (s1:=stL [(.sl p.length 5 (p.flatMap encNd)),(.sl l.length 1 (l.flatMap encZ)),(.g (.int .i64 (m:Int))),aN,aN,aN,(.g (.bool false)),(.g (.int .i64 ((0:Nat):Int))),aN,aN,aN,aN,aN,aN,aN,aN,aN,aN,aN,aN,aN,aN,aN,aN,aN,aN,aN,aN,aN] [] 0)
  (fun (k:Nat) t=>k≤l.length∧(∀ x∈l.take k,(decide (x=(m:Int))||decide (m∈aboveM p x.toNat))=false)∧t=stL [(.sl p.length 5 (p.flatMap encNd)),(.sl l.length 1 (l.flatMap encZ)),(.g (.int .i64 (m:Int))),aN,aN,aN,(.g (.bool false)),(.g (.int .i64 (k:Int))),aN,aN,aN,aN,aN,aN,aN,aN,aN,aN,aN,aN,aN,aN,aN,aN,aN,aN,aN,aN,aN] [] 0) (fun k=>l.length - k) 0 ⟨Nat.zero_le _,by simp,rfl⟩ (VS.tm (by simp [leL])) ?_
 rintro k t ⟨hk,he,rfl⟩
 by_cases hlt:k<l.length
 ·have r:=rowZ hlt
  obtain ⟨u0,hu0,hp0,hl0⟩:=hN _ (List.getElem_mem hlt);have hval:upB p m u0=(decide (l[k]=(m:Int))||decide (m∈aboveM p l[k].toNat)):=by
   unfold upB;rw [hu0,Int.toNat_natCast,decide_eq_true hp0,Bool.true_and]
  rw [hu0] at r
  (repeat ((try with_reducible refine W.step (b:=false) ?_);simp (decide:=true) only [go_sem,↓reduceIte,Nat.reduceAdd,Nat.reduceSub,hlt,r]))
  refine W.loop (s1:=stL [(.sl p.length 5 (p.flatMap encNd)),(.sl l.length 1 (l.flatMap encZ)),(.g (.int .i64 (m:Int))),aN,aN,aN,(.g (.bool false)),(.g (.int .i64 (k:Int))),(.g (.int .i64 (u0:Int))),aN,aN,aN,aN,aN,aN,aN,aN,aN,aN,aN,aN,aN,aN,aN,aN,aN,aN,aN,aN] [] 0)
   (fun (u:Nat) t=>u<p.length∧upB p m u0=upB p m u∧t=stL [(.sl p.length 5 (p.flatMap encNd)),(.sl l.length 1 (l.flatMap encZ)),(.g (.int .i64 (m:Int))),aN,aN,aN,(.g (.bool false)),(.g (.int .i64 (k:Int))),(.g (.int .i64 (u:Int))),aN,aN,aN,aN,aN,aN,aN,aN,aN,aN,aN,aN,aN,aN,aN,aN,aN,aN,aN,aN] [] 0) (fun u=>u) u0 ⟨hl0,rfl,rfl⟩ (VS.tm (by simp [leL])) ?_
  rintro u t ⟨hu,hq,rfl⟩
  by_cases h0:0<u
  ·have f0:((0:Int)<(u:Int))=True:=eq_true (by omega)
   by_cases hx:u=m
   ·have fx:((u:Int)=(m:Int))=True:=eq_true (by omega)
    have ha:(l.any fun x=>decide (x=(m:Int))||decide (m∈aboveM p x.toNat))=true:=List.any_eq_true.2 ⟨_,List.getElem_mem hlt,by
     rw [←hval,hq];unfold upB;rw [decide_eq_true h0,decide_eq_true (show (u:Int)=(m:Int) by omega)]
     rfl⟩
    rw [ha]
    (repeat ((try with_reducible refine W.step (b:=false) ?_);simp (decide:=true) only [go_sem,↓reduceIte,Nat.reduceAdd,Nat.reduceSub,f0,h0,fx]))
    exact Q0c _ (.inr rfl) rfl (.plain rfl)
   ·have fx:((u:Int)=(m:Int))=False:=eq_false (by omega)
    obtain ⟨g1,g2⟩:=hT.up u h0 hu;have hs:=upB_step hT h0 hu hx;have r2:=rowNd hu;rw [Q0p hu] at g1 g2 hs;obtain ⟨v,hv⟩:∃ v:Nat,p[u].up=v:=⟨p[u].up.toNat,by omega⟩;rw [hv] at r2 hs g2;rw [Int.toNat_natCast] at hs
    (repeat ((try with_reducible refine W.step (b:=false) ?_);simp (decide:=true) only [go_sem,↓reduceIte,Nat.reduceAdd,Nat.reduceSub,f0,h0,fx,hx,hu,r2]))
    exact ⟨v,_,⟨by omega,hq.trans hs,rfl⟩,by show v<u;omega,VS.tm (by simp [leL])⟩
  ·obtain rfl:u=0:=by omega
   have hv:(decide (l[k]=(m:Int))||decide (m∈aboveM p l[k].toNat))=false:=by
    rw [←hval,hq]
    rfl
   (repeat ((try with_reducible refine W.step (b:=false) ?_);simp (decide:=true) only [go_sem,↓reduceIte,Nat.reduceAdd,Nat.reduceSub]))
   refine ⟨k+1,_,⟨by omega,take_next (pr:=fun x=>decide (x=(m:Int))||decide (m∈aboveM p x.toNat)) hlt he hv,rfl⟩,by show l.length - (k+1)<l.length - k;omega,VS.tm ?_⟩;rw [up1 (by omega)];simp [leL]
 ·have:(l.any fun x=>decide (x=(m:Int))||decide (m∈aboveM p x.toNat))=false:=List.any_eq_false.2 fun y hy=>by
   have:=he y (by rw [List.take_of_length_le (by omega)];exact hy);rw [this];decide
  rw [this]
  (repeat ((try with_reducible refine W.step (b:=false) ?_);simp (decide:=true) only [go_sem,↓reduceIte,Nat.reduceAdd,Nat.reduceSub,hlt]))
  exact Q0c _ (.inr rfl) rfl (.plain rfl)
theorem nodesM_pos {p:List Nod} {x:Int} (h:x∈nodesM p):∃ k:Nat,x=(k:Int)∧0<k∧k<p.length:=by
 obtain ⟨ht,m,rfl,hm⟩:=nodesM_nat h;obtain ⟨he,-⟩:=Q1y.1 hm;obtain ⟨h1,h2⟩:=elem_at.1 he;refine ⟨m,rfl,?_,h1⟩
 cases m with
 | zero =>
   have h0:=(tree_P ht).root (by intro e;subst e;simp at h1);rw [show (0:Int)=((0:Nat):Int) from rfl,Q0p h1] at h0;exact absurd h0 h2
 | succ n=>omega
theorem inZ_nodes {p:List Nod} (ht:treeB p=true) (m:Nat):inZ (nodesM p) (m:Int)=critB p m:=by
 rw [Bool.eq_iff_iff,←mem_nodesM ht];unfold inZ;rw [List.any_eq_true]
 constructor
 ·rintro ⟨y,hy,e⟩
  rw [←of_decide_eq_true e];exact hy
 ·intro h
  exact ⟨_,h,decide_eq_true rfl⟩
def belowF (p:List Nod) (k:Int):Bool:=critB p k.toNat||(decide ((ndAt p k).name=⟨#[]⟩)&&innerB p k.toNat)
set_option maxRecDepth 100000 in
set_option maxHeartbeats 4000000 in
theorem critUp_p (HF:PureN Tryz.prog gt0 10 [] (.g (.bool true))) (p:List Nod) :
 PureN Tryz.prog gt0 3 [.sl p.length 5 (p.flatMap encNd)] (.g (.bool true)):=by
 have HS:=small10_p p 40 (by decide);refine PureN.of_w (c:=_) Tryz.func3 rfl (by kernel_rfl) rfl ?_;simp only [Tryz.f3,List.replicate,List.length_cons,List.length_nil,Nat.reduceAdd,Nat.reduceSub,List.cons_append,List.nil_append]
 (repeat ((try with_reducible refine W.step (b:=false) ?_);simp (decide:=true) only [go_sem,↓reduceIte,Nat.reduceAdd,Nat.reduceSub];try with_reducible refine drawn hmix (by kernel_rfl) ?_))
 refine AtCall.mk HF ?_
 (repeat ((try with_reducible refine W.step (b:=false) ?_);simp (decide:=true) only [go_sem,↓reduceIte,Nat.reduceAdd,Nat.reduceSub];try with_reducible refine drawn hmix (by kernel_rfl) ?_))
 refine AtCall.mk HS ?_
 cases hs:pgSm 40 p with
 | false =>
   (repeat ((try with_reducible refine W.step (b:=false) ?_);simp (decide:=true) only [go_sem,↓reduceIte,Nat.reduceAdd,Nat.reduceSub];try with_reducible refine drawn hmix (by kernel_rfl) ?_))
   refine AtCall.mk HF ?_
   (repeat ((try with_reducible refine W.step (b:=false) ?_);simp (decide:=true) only [go_sem,↓reduceIte,Nat.reduceAdd,Nat.reduceSub];try with_reducible refine drawn hmix (by kernel_rfl) ?_))
   exact Q0c _ (.inr rfl) rfl (.plain rfl)
 | true =>
   have hpg:OkPg p:=pgSm_ok (m:=40) (by decide) hs;have HT:=tree10_p p hpg
   (repeat ((try with_reducible refine W.step (b:=false) ?_);simp (decide:=true) only [go_sem,↓reduceIte,Nat.reduceAdd,Nat.reduceSub];try with_reducible refine drawn hmix (by kernel_rfl) ?_))
   refine AtCall.mk HT ?_
   cases ht:treeB p with
   | false =>
     (repeat ((try with_reducible refine W.step (b:=false) ?_);simp (decide:=true) only [go_sem,↓reduceIte,Nat.reduceAdd,Nat.reduceSub];try with_reducible refine drawn hmix (by kernel_rfl) ?_))
     refine AtCall.mk HF ?_
     (repeat ((try with_reducible refine W.step (b:=false) ?_);simp (decide:=true) only [go_sem,↓reduceIte,Nat.reduceAdd,Nat.reduceSub];try with_reducible refine drawn hmix (by kernel_rfl) ?_))
     exact Q0c _ (.inr rfl) rfl (.plain rfl)
   | true =>
     have hT:=tree_P ht;have HN:=nodes_p p hpg;have hnl:=nodesM_len hpg;have hnp:=fun x hx=>nodesM_pos (p:=p) (x:=x) hx;have hiz:=fun m=>inZ_nodes ht m;have hsr:=nodesM_sorted p;have hib:∀ m,innerB p m=(nodesM p).any fun x=>decide (x=(m:Int))||decide (m∈aboveM p x.toNat):=fun m=>rfl
     generalize nodesM p=nl at *
     (repeat ((try with_reducible refine W.step (b:=false) ?_);simp (decide:=true) only [go_sem,↓reduceIte,Nat.reduceAdd,Nat.reduceSub];try with_reducible refine drawn hmix (by kernel_rfl) ?_))
     refine AtCall.mk HN ?_
     (repeat ((try with_reducible refine W.step (b:=false) ?_);simp (decide:=true) only [go_sem,↓reduceIte,Nat.reduceAdd,Nat.reduceSub];try with_reducible refine drawn hmix (by kernel_rfl) ?_))
     refine W.loop (s1:=stL [(.sl p.length 5 (p.flatMap encNd)),aN,(.g (.bool false)),(.sl nl.length 1 (nl.flatMap encZ)),(.g (.int .i64 ((1:Nat):Int))),aN,aN,aN,aN,aN,aN,aN,aN,aN,aN,aN,aN,aN,aN,aN,aN,aN,aN,aN,aN,aN,aN,aN,aN,aN,aN,aN,aN,aN,aN,aN,aN,aN,aN,aN,aN,aN,aN,aN,aN,aN,aN,aN,aN,aN,aN,aN,aN,aN,aN,aN,aN,aN,aN,aN,aN,aN,aN,aN,aN,aN,aN,aN,aN,aN,aN,aN,aN,aN,aN,aN,aN,aN,aN,aN,aN,aN,aN,aN,aN,aN,aN,aN,aN,aN,aN,aN,aN,aN,aN,aN,aN,aN,aN,aN,aN,aN,aN,aN,aN,aN,aN,aN] [] 0)
      (fun (n:Nat) t=>0<n∧n≤max 1 p.length∧t=stL [(.sl p.length 5 (p.flatMap encNd)),aN,(.g (.bool false)),(.sl nl.length 1 (nl.flatMap encZ)),(.g (.int .i64 (n:Int))),aN,aN,aN,aN,aN,aN,aN,aN,aN,aN,aN,aN,aN,aN,aN,aN,aN,aN,aN,aN,aN,aN,aN,aN,aN,aN,aN,aN,aN,aN,aN,aN,aN,aN,aN,aN,aN,aN,aN,aN,aN,aN,aN,aN,aN,aN,aN,aN,aN,aN,aN,aN,aN,aN,aN,aN,aN,aN,aN,aN,aN,aN,aN,aN,aN,aN,aN,aN,aN,aN,aN,aN,aN,aN,aN,aN,aN,aN,aN,aN,aN,aN,aN,aN,aN,aN,aN,aN,aN,aN,aN,aN,aN,aN,aN,aN,aN,aN,aN,aN,aN,aN,aN] [] 0) (fun n=>max 1 p.length - n) 1 ⟨by decide,by omega,rfl⟩ (VS.tm (by simp [leL])) ?_
     rintro n t ⟨hn0,hn,rfl⟩;have hlen:=hpg.len
     by_cases hlt:n<p.length
     ·have r:=rowNd hlt
      have HA:=attr10_p p (n:Int) critS hpg;have HI:=in21_p nl (n:Int) hnl;have hkd:=hpg.kids _ (List.getElem_mem hlt);have hcu:=crit_up ht hn0 hlt;have hkid:=hT.kids n hlt;rw [Q0p hlt] at hcu hkid;have hkn:∀ x∈p[n].kids,∃ m:Nat,x=(m:Int)∧0<m∧m<p.length:=fun x hx=>by
       rw [hkid] at hx;unfold kidsR at hx;obtain ⟨i,hi,rfl⟩:=List.mem_map.1 hx;have:=List.mem_filter.1 hi;exact ⟨i,rfl,(of_decide_eq_true this.2).1,List.mem_range.1 this.1⟩
      rw [hiz] at HI;clear hkid;generalize p[n].kids=ks at *;generalize (atM p (n:Int) critS).getD ⟨#[]⟩=sv at *;rw [show (atM p (n:Int) critS).isSome=hasC p n from rfl] at HA;rw [show (ks.any fun k=>critB p k.toNat||(decide ((ndAt p k).name=⟨#[]⟩)&&innerB p k.toNat))=ks.any (belowF p) from rfl] at hcu;generalize hasC p n=hc at *;generalize critB p n=isC at *
      (repeat ((try with_reducible refine W.step (b:=false) ?_);simp (decide:=true) only [go_sem,↓reduceIte,Nat.reduceAdd,Nat.reduceSub,hlt,r];try with_reducible refine drawn hmix (by kernel_rfl) ?_))
      refine AtCall.mk HA ?_
      (repeat ((try with_reducible refine W.step (b:=false) ?_);simp (decide:=true) only [go_sem,↓reduceIte,Nat.reduceAdd,Nat.reduceSub,hlt,r];try with_reducible refine drawn hmix (by kernel_rfl) ?_))
      refine AtCall.mk HI ?_
      (repeat ((try with_reducible refine W.step (b:=false) ?_);simp (decide:=true) only [go_sem,↓reduceIte,Nat.reduceAdd,Nat.reduceSub,hlt,r];try with_reducible refine drawn hmix (by kernel_rfl) ?_))
      refine W.loop (s1:=stL [(.sl p.length 5 (p.flatMap encNd)),aN,(.g (.bool false)),(.sl nl.length 1 (nl.flatMap encZ)),(.g (.int .i64 (n:Int))),aN,aN,(.g (.bool isC)),(.g (.bool (hc||(ks.take 0).any (belowF p)))),(.g (.int .i64 ((0:Nat):Int))),aN,aN,aN,aN,aN,aN,aN,aN,aN,aN,aN,aN,aN,aN,aN,aN,aN,aN,aN,aN,aN,aN,aN,aN,aN,aN,aN,aN,aN,aN,aN,aN,aN,aN,aN,aN,aN,aN,aN,aN,aN,aN,aN,aN,aN,aN,aN,aN,aN,aN,aN,aN,aN,aN,aN,aN,aN,aN,aN,aN,aN,aN,aN,aN,aN,aN,aN,aN,aN,aN,aN,aN,aN,aN,aN,aN,aN,aN,aN,aN,aN,aN,aN,aN,aN,aN,aN,aN,aN,aN,aN,aN,aN,aN,aN,aN,aN,aN] [] 0)
       (fun (k:Nat) t=>k≤ks.length∧t=stL [(.sl p.length 5 (p.flatMap encNd)),aN,(.g (.bool false)),(.sl nl.length 1 (nl.flatMap encZ)),(.g (.int .i64 (n:Int))),aN,aN,(.g (.bool isC)),(.g (.bool (hc||(ks.take k).any (belowF p)))),(.g (.int .i64 (k:Int))),aN,aN,aN,aN,aN,aN,aN,aN,aN,aN,aN,aN,aN,aN,aN,aN,aN,aN,aN,aN,aN,aN,aN,aN,aN,aN,aN,aN,aN,aN,aN,aN,aN,aN,aN,aN,aN,aN,aN,aN,aN,aN,aN,aN,aN,aN,aN,aN,aN,aN,aN,aN,aN,aN,aN,aN,aN,aN,aN,aN,aN,aN,aN,aN,aN,aN,aN,aN,aN,aN,aN,aN,aN,aN,aN,aN,aN,aN,aN,aN,aN,aN,aN,aN,aN,aN,aN,aN,aN,aN,aN,aN,aN,aN,aN,aN,aN,aN] [] 0) (fun k=>ks.length - k) 0 ⟨Nat.zero_le _,rfl⟩ (VS.tm (by simp [leL])) ?_
      rintro k t ⟨hk,rfl⟩
      by_cases hlk:k<ks.length
      ·have rk:=rowZ hlk
       obtain ⟨m,hm,hm0,hml⟩:=hkn _ (List.getElem_mem hlk);have hsn:(hc||(ks.take (k+1)).any (belowF p))=((hc||(ks.take k).any (belowF p))||belowF p ks[k]):=by
        rw [List.take_succ_eq_append_getElem hlk,List.any_append,List.any_cons,List.any_nil,Bool.or_false,Bool.or_assoc]
       have HIm:=in21_p nl (m:Int) hnl;have HInn:=inner21_p p nl m hT hnl hnp;have rm:=rowNd hml;rw [hiz] at HIm;rw [←hib] at HInn;have hbf:belowF p ks[k]=(critB p m||(decide (p[m].name=⟨#[]⟩)&&innerB p m)):=by
        unfold belowF;rw [hm,Q0p hml,Int.toNat_natCast]
       rw [hbf] at hsn;rw [hm] at rk
       have hfin:∀ b:Bool,(hc||(ks.take (k+1)).any (belowF p))=b→∀ l,leL l [(.sl p.length 5 (p.flatMap encNd)),aN,(.g (.bool false)),(.sl nl.length 1 (nl.flatMap encZ)),(.g (.int .i64 (n:Int))),aN,aN,(.g (.bool isC)),(.g (.bool b)),(.g (.int .i64 ((k+1:Nat):Int))),aN,aN,aN,aN,aN,aN,aN,aN,aN,aN,aN,aN,aN,aN,aN,aN,aN,aN,aN,aN,aN,aN,aN,aN,aN,aN,aN,aN,aN,aN,aN,aN,aN,aN,aN,aN,aN,aN,aN,aN,aN,aN,aN,aN,aN,aN,aN,aN,aN,aN,aN,aN,aN,aN,aN,aN,aN,aN,aN,aN,aN,aN,aN,aN,aN,aN,aN,aN,aN,aN,aN,aN,aN,aN,aN,aN,aN,aN,aN,aN,aN,aN,aN,aN,aN,aN,aN,aN,aN,aN,aN,aN,aN,aN,aN,aN,aN,aN] →
        ∃ j s1,(j≤ks.length∧s1=stL [(.sl p.length 5 (p.flatMap encNd)),aN,(.g (.bool false)),(.sl nl.length 1 (nl.flatMap encZ)),(.g (.int .i64 (n:Int))),aN,aN,(.g (.bool isC)),(.g (.bool (hc||(ks.take j).any (belowF p)))),(.g (.int .i64 (j:Int))),aN,aN,aN,aN,aN,aN,aN,aN,aN,aN,aN,aN,aN,aN,aN,aN,aN,aN,aN,aN,aN,aN,aN,aN,aN,aN,aN,aN,aN,aN,aN,aN,aN,aN,aN,aN,aN,aN,aN,aN,aN,aN,aN,aN,aN,aN,aN,aN,aN,aN,aN,aN,aN,aN,aN,aN,aN,aN,aN,aN,aN,aN,aN,aN,aN,aN,aN,aN,aN,aN,aN,aN,aN,aN,aN,aN,aN,aN,aN,aN,aN,aN,aN,aN,aN,aN,aN,aN,aN,aN,aN,aN,aN,aN,aN,aN,aN,aN] [] 0)∧ks.length - j<ks.length - k∧VS gt0 .none (stL l [] 0) s1:=fun b hb l hl=>by
        refine ⟨k+1,_,⟨by omega,rfl⟩,by omega,VS.tm ?_⟩;rw [hb];exact hl
       generalize (hc||(ks.take k).any (belowF p))=bel at *
       cases bel with
       | true =>
         (repeat ((try with_reducible refine W.step (b:=false) ?_);simp (decide:=true) only [go_sem,↓reduceIte,Nat.reduceAdd,Nat.reduceSub,hlt,r,hlk,rk];try with_reducible refine drawn hmix (by kernel_rfl) ?_))
         refine hfin true (by rw [hsn];rfl) _ ?_;rw [up1 (by omega)];simp [leL]
       | false =>
         (repeat ((try with_reducible refine W.step (b:=false) ?_);simp (decide:=true) only [go_sem,↓reduceIte,Nat.reduceAdd,Nat.reduceSub,hlt,r,hlk,rk];try with_reducible refine drawn hmix (by kernel_rfl) ?_))
         refine AtCall.mk HIm ?_
         cases hcm:critB p m with
         | true =>
           rw [hcm] at hsn
           (repeat ((try with_reducible refine W.step (b:=false) ?_);simp (decide:=true) only [go_sem,↓reduceIte,Nat.reduceAdd,Nat.reduceSub];try with_reducible refine drawn hmix (by kernel_rfl) ?_))
           refine hfin true (by rw [hsn];rfl) _ ?_;rw [up1 (by omega)];simp [leL]
         | false =>
           rw [hcm] at hsn
           by_cases hnm:p[m].name=⟨#[]⟩
           ·have fx:=eq_true hnm
            rw [decide_eq_true hnm] at hsn
            (repeat ((try with_reducible refine W.step (b:=false) ?_);simp (decide:=true) only [go_sem,↓reduceIte,Nat.reduceAdd,Nat.reduceSub,hml,rm,fx];try with_reducible refine drawn hmix (by kernel_rfl) ?_))
            refine AtCall.mk HInn ?_;generalize innerB p m=ib at *
            (repeat ((try with_reducible refine W.step (b:=false) ?_);simp (decide:=true) only [go_sem,↓reduceIte,Nat.reduceAdd,Nat.reduceSub];try with_reducible refine drawn hmix (by kernel_rfl) ?_))
            refine hfin ib (by rw [hsn];rfl) _ ?_;rw [up1 (by omega)];simp [leL]
           ·have fx:=eq_false hnm
            rw [decide_eq_false hnm] at hsn
            (repeat ((try with_reducible refine W.step (b:=false) ?_);simp (decide:=true) only [go_sem,↓reduceIte,Nat.reduceAdd,Nat.reduceSub,hml,rm,fx];try with_reducible refine drawn hmix (by kernel_rfl) ?_))
            refine hfin false (by rw [hsn];rfl) _ ?_;rw [up1 (by omega)];simp [leL]
      ·obtain rfl:k=ks.length:=by omega
       rw [List.take_length];have HE:=element10_p p (n:Int);generalize elemB p (n:Int)=eb at *;generalize (hc||ks.any (belowF p))=bel at *;subst hcu
       cases bel with
       | true =>
         (repeat ((try with_reducible refine W.step (b:=false) ?_);simp (decide:=true) only [go_sem,↓reduceIte,Nat.reduceAdd,Nat.reduceSub,hlt,r,hlk];try with_reducible refine drawn hmix (by kernel_rfl) ?_))
         refine AtCall.mk HE ?_
         cases eb with
         | true =>
           (repeat ((try with_reducible refine W.step (b:=false) ?_);simp (decide:=true) only [go_sem,↓reduceIte,Nat.reduceAdd,Nat.reduceSub];try with_reducible refine drawn hmix (by kernel_rfl) ?_))
           refine ⟨n+1,_,⟨by omega,by omega,rfl⟩,by show max 1 p.length - (n+1)<max 1 p.length - n;omega,VS.tm ?_⟩;rw [up1 (by omega)];simp [leL]
         | false =>
           (repeat ((try with_reducible refine W.step (b:=false) ?_);simp (decide:=true) only [go_sem,↓reduceIte,Nat.reduceAdd,Nat.reduceSub];try with_reducible refine drawn hmix (by kernel_rfl) ?_))
           refine ⟨n+1,_,⟨by omega,by omega,rfl⟩,by show max 1 p.length - (n+1)<max 1 p.length - n;omega,VS.tm ?_⟩;rw [up1 (by omega)];simp [leL]
       | false =>
         rw [Bool.false_and]
         (repeat ((try with_reducible refine W.step (b:=false) ?_);simp (decide:=true) only [go_sem,↓reduceIte,Nat.reduceAdd,Nat.reduceSub,hlt,r,hlk];try with_reducible refine drawn hmix (by kernel_rfl) ?_))
         refine ⟨n+1,_,⟨by omega,by omega,rfl⟩,by show max 1 p.length - (n+1)<max 1 p.length - n;omega,VS.tm ?_⟩;rw [up1 (by omega)];simp [leL]
     ·(repeat ((try with_reducible refine W.step (b:=false) ?_);simp (decide:=true) only [go_sem,↓reduceIte,Nat.reduceAdd,Nat.reduceSub,hlt];try with_reducible refine drawn hmix (by kernel_rfl) ?_))
      refine W.loop (s1:=stL [(.sl p.length 5 (p.flatMap encNd)),aN,(.g (.bool false)),(.sl nl.length 1 (nl.flatMap encZ)),aN,aN,aN,aN,aN,aN,aN,(.g (.int .i64 ((1:Nat):Int))),aN,aN,aN,aN,aN,aN,aN,aN,aN,aN,aN,aN,aN,aN,aN,aN,aN,aN,aN,aN,aN,aN,aN,aN,aN,aN,aN,aN,aN,aN,aN,aN,aN,aN,aN,aN,aN,aN,aN,aN,aN,aN,aN,aN,aN,aN,aN,aN,aN,aN,aN,aN,aN,aN,aN,aN,aN,aN,aN,aN,aN,aN,aN,aN,aN,aN,aN,aN,aN,aN,aN,aN,aN,aN,aN,aN,aN,aN,aN,aN,aN,aN,aN,aN,aN,aN,aN,aN,aN,aN,aN,aN,aN,aN,aN,aN] [] 0)
       (fun (i:Nat) t=>0<i∧i≤max 1 nl.length∧t=stL [(.sl p.length 5 (p.flatMap encNd)),aN,(.g (.bool false)),(.sl nl.length 1 (nl.flatMap encZ)),aN,aN,aN,aN,aN,aN,aN,(.g (.int .i64 (i:Int))),aN,aN,aN,aN,aN,aN,aN,aN,aN,aN,aN,aN,aN,aN,aN,aN,aN,aN,aN,aN,aN,aN,aN,aN,aN,aN,aN,aN,aN,aN,aN,aN,aN,aN,aN,aN,aN,aN,aN,aN,aN,aN,aN,aN,aN,aN,aN,aN,aN,aN,aN,aN,aN,aN,aN,aN,aN,aN,aN,aN,aN,aN,aN,aN,aN,aN,aN,aN,aN,aN,aN,aN,aN,aN,aN,aN,aN,aN,aN,aN,aN,aN,aN,aN,aN,aN,aN,aN,aN,aN,aN,aN,aN,aN,aN,aN] [] 0) (fun i=>max 1 nl.length - i) 1 ⟨by decide,by omega,rfl⟩ (VS.tm (by simp [leL])) ?_
      rintro i t ⟨hi0,hi,rfl⟩
      by_cases hli:i<nl.length
      ·obtain ⟨j,rfl⟩:∃ j,i=j+1:=⟨i - 1,by omega⟩
       have r1:=rowZ hli;have r0:=rowZ (show j<nl.length by omega);have fw:IntKind.i64.wrap (((j+1:Nat):Int) - 1)=(j:Int):=by rw [IntWalk.i64_in _ (by omega)];omega
       have hlj:j<nl.length:=by omega
       have hle:nl[j]<nl[j+1]:=List.pairwise_iff_getElem.1 hsr j (j+1) hlj hli (by omega);have fc:(nl[j+1]≤nl[j])=False:=eq_false (by omega)
       (repeat ((try with_reducible refine W.step (b:=false) ?_);simp (decide:=true) only [go_sem,↓reduceIte,Nat.reduceAdd,Nat.reduceSub,hli,hlj,r0,r1,fw,fc];try with_reducible refine drawn hmix (by kernel_rfl) ?_))
       refine ⟨j+1+1,_,⟨by omega,by omega,rfl⟩,by show max 1 nl.length - (j+1+1)<max 1 nl.length - (j+1);omega,VS.tm ?_⟩;rw [up1 (by omega)];simp [leL]
      ·have HI:=in21_p nl 0 hnl
       have h0:inZ nl 0=false:=by
        unfold inZ;refine List.any_eq_false.2 fun x hx=>?_;obtain ⟨k,rfl,hk,-⟩:=hnp x hx;simp;omega
       rw [h0] at HI
       (repeat ((try with_reducible refine W.step (b:=false) ?_);simp (decide:=true) only [go_sem,↓reduceIte,Nat.reduceAdd,Nat.reduceSub,hli];try with_reducible refine drawn hmix (by kernel_rfl) ?_))
       refine AtCall.mk HI ?_
       (repeat ((try with_reducible refine W.step (b:=false) ?_);simp (decide:=true) only [go_sem,↓reduceIte,Nat.reduceAdd,Nat.reduceSub];try with_reducible refine drawn hmix (by kernel_rfl) ?_))
       exact Q0c _ (.inr rfl) rfl (.plain rfl)
end Go.Proofs.YtabliahkhafddaaGreat
namespace Go.Proofs.YtabliahkhafddaaGreat
open Go.RowKit Go.Ev
open Go.Ev.AV renaming any→aN
def cpol:FuncId→Bool:=fun f=>pol18 f&&!(Nat.beq f 148||Nat.beq f 248||Nat.beq f 146||Nat.beq f 345||Nat.beq f 117)
def cpage:List Nod:=[⟨⟨#[]⟩,[],⟨#[]⟩,-1,[1,2,4]⟩,
 ⟨⟨#[108,105,110,107]⟩,[⟨⟨#[104,114,101,102]⟩,⟨#[97]⟩⟩],⟨#[]⟩,0,[]⟩,
 ⟨⟨#[100,105,118]⟩,[],⟨#[]⟩,0,[3]⟩,
 ⟨⟨#[112]⟩,[⟨⟨#[99,114,105,116,105,99,97,108]⟩,⟨#[]⟩⟩],⟨#[]⟩,2,[]⟩,
 ⟨⟨#[113]⟩,[],⟨#[]⟩,0,[]⟩]
def cpg:AV:=(.sl 5 5 [(.g (.string ⟨#[]⟩)),(.g (.slice none 0 0)),(.g (.string ⟨#[]⟩)),(.g (.int .i64 (-1))),(.sl 3 1 [(.g (.int .i64 (1))),(.g (.int .i64 (2))),
 (.g (.int .i64 (4)))]),(.g (.string ⟨#[108,105,110,107]⟩)),(.sl 1 2 [(.g (.string ⟨#[104,114,101,102]⟩)),(.g (.string ⟨#[97]⟩))]),(.g (.string ⟨#[]⟩)),
 (.g (.int .i64 (0))),(.g (.slice none 0 0)),(.g (.string ⟨#[100,105,118]⟩)),(.g (.slice none 0 0)),(.g (.string ⟨#[]⟩)),(.g (.int .i64 (0))),(.sl 1 1 [(.g (.int .i64 (3)))]),
 (.g (.string ⟨#[112]⟩)),(.sl 1 2 [(.g (.string ⟨#[99,114,105,116,105,99,97,108]⟩)),(.g (.string ⟨#[]⟩))]),(.g (.string ⟨#[]⟩)),(.g (.int .i64 (2))),
 (.g (.slice none 0 0)),(.g (.string ⟨#[113]⟩)),(.g (.slice none 0 0)),(.g (.string ⟨#[]⟩)),(.g (.int .i64 (0))),(.g (.slice none 0 0))])
theorem wkA.slT {n sz:Nat} {a' a:List AV} (h:wkL a' a):wkA (.sl n sz a') (.sl n sz a):=fun w G v hv=>by
 obtain ⟨ad,cap,rfl,hc,h1⟩:=hv;refine ⟨ad,cap,rfl,hc,h1.imp id fun ⟨rb,ro,h2,h3⟩=>⟨rb,ro,h2,?_⟩⟩;have up:∀ (xs bs:List AV) (o:Nat),wkL xs bs→RowR w G rb o bs→RowR w G rb o xs:=by
  intro xs
  induction xs with
  | nil=>intro bs o h1 h2;trivial
  | cons x xs ih =>
    intro bs o h1 h2;obtain ⟨y,ys,rfl,h3,h4⟩:=h1;obtain ⟨h5,⟨u,h6,h7⟩,h8⟩:=h2;exact ⟨h5,⟨u,h6,h3 _ _ _ h7⟩,ih _ _ h4 h8⟩
 exact up _ _ _ h h3
theorem cpage_ok:OkPg cpage:=⟨by decide +kernel,by decide +kernel,by decide +kernel,by decide +kernel,by decide +kernel⟩
theorem cabove:aboveM cpage 3=[2]:=by
 rw [Q0x,if_pos (by decide),show (ndAt cpage ((3:Nat):Int)).up.toNat=2 from rfl,Q0x,if_neg (by decide)]
theorem cnodes:nodesM cpage=[2,3]:=by
 have hc:∀ m,critB cpage m=(elemB cpage (m:Int)&&(decide (3=m)||decide (m∈[2]))):=fun m=>by
  unfold critB;rw [show (List.range cpage.length)=[0,1,2,3,4] from rfl,List.any_cons,List.any_cons,List.any_cons,List.any_cons,List.any_cons,List.any_nil,show hasC cpage 0=false from rfl,show hasC cpage 1=false from rfl,show hasC cpage 2=false from rfl,show hasC cpage 3=true from rfl,show hasC cpage 4=false from rfl,cabove];simp
 unfold nodesM nodesM.tellC;rw [if_pos (by kernel_rfl),show critB cpage=fun m:Nat=>(elemB cpage (m:Int)&&(decide (3=m)||decide (m∈[2]))) from funext hc]
 rfl
def cans:AV:=(.sl 2 1 [(.g (.int .i64 (2))),(.g (.int .i64 (3)))])
theorem cnodes_pure:Pure Tryz.prog (fun _=>none) 13 [cpg] (.ret cans):=by
 have h:=nodes_p cpage cpage_ok;rw [cnodes] at h
 exact (PureN.weakT h ⟨_,_,rfl,wkA.slT (by
  unfold cpage
  (repeat (first | refine ⟨_,_,rfl,wkA.refl _,?_⟩ | refine ⟨_,_,rfl,wkA.nil _,?_⟩));rfl),rfl⟩ rfl rfl).pure
def cOB:FuncId→List AV→Option AV:=oneO 40 cargB ctextB
theorem cOB_ok {GT:GTab}:ChOk Tryz.prog GT (shutCH (fun f=>Nat.beq f 40) 1000 cOB):=by
 refine shutCH_ok fun f args a _ h=>?_;obtain ⟨rfl,rfl,rfl⟩:=oneO_spec h;refine ⟨fun w rargs ha=>?_,_,Tryz.func40,by kernel_rfl,by kernel_rfl⟩;refine (ctextB_pure.at w rargs (fun g cs h=>by cases h) ha).mono ?_;rintro e w' ⟨r,rfl,hr,hB⟩;exact ⟨r,rfl,hr,hB⟩
def cch:CH:=orCH addCH (orCH (shutCH pick18 1000 known18) (orCH (tabCH (oneO 13 cpg cans)) (orCH (tabCH (oneO 79 cargA cparse)) (orCH (shutCH (fun f=>Nat.beq f 40) 1000 cOB) (tabCH idxO)))))
theorem cch_ok:ChOk Tryz.prog (fun _=>none) cch:=orCH_ok addCH_ok (orCH_ok known18_ok (orCH_ok (oneO_ok cnodes_pure ⟨_,Tryz.func13,by kernel_rfl,by kernel_rfl⟩) (orCH_ok (oneO_ok cparse_pure ⟨_,Tryz.func79,by kernel_rfl,by kernel_rfl⟩) (orCH_ok cOB_ok idxO_ok))))
theorem fixed21_ev:evF Tryz.prog (fun _=>none) cch cpol 100000 300 10 [] [] .e 0=some (.ret (.g (.bool true)),.e,0):=by kernel_rfl
theorem fixed21_any (w:World):Calls Tryz.prog 10 #[] w fun e w'=>e=.returned (.bool true)∧Below w.heap.size w w':=by
 have hp:Pure Tryz.prog (fun _=>none) 10 [] (.ret (.g (.bool true))):=evF_pure prOk cch_ok fixed21_ev rfl;refine (hp.at w #[] (fun g cs h=>by cases h) (by rw [Ats,VRs])).mono ?_;rintro e w' ⟨r,rfl,hr,hB⟩;obtain rfl:r=.bool true:=hr;exact ⟨rfl,hB⟩
theorem fixed21_p:PureN Tryz.prog gt0 10 [] (.g (.bool true)):=by
 refine PureN.ofC rfl ⟨_,Tryz.func10,rfl,by kernel_rfl⟩ fun w rargs ha=>?_;have hr:rargs.toList=[]:=ha;have hra:rargs=#[]:=Array.toList_inj.1 hr;rw [hra];exact fixed21_any w
end Go.Proofs.YtabliahkhafddaaGreat
namespace Go.Proofs.YtabliahkhafddaaGreat
open Go.ChangeShapes Go.WideShapes Go.ChangeAt Go.RowKit Go.Ev
open Go.Ev.AV renaming any→aN
namespace critUp
set_option maxRecDepth 1000000 in
theorem contract (H:Type) (enc:TypeId×Value→H) (W:World) (base:Nat) (args:Array Value) (ds gs:List (DataW H)) (before:List MemPlace)
 (hval:∀ (j:Nat) t v,Tryz.f3.params[j]?=some t→args[j]?=some v→Value.okWide Tryz.prog W .any base t v)
 (hW:DataW.Whole enc Tryz.prog Tryz.f3.params.toList Rows.critUpSpec.vars false W args.toList ds gs before)
 (hw:(DataW.weightsEach Tryz.prog (Tryz.f3.params.toList++Rows.critUpSpec.plain.varTypes Tryz.prog) (ds++gs)).all (·≤reachBytes)=true) :
 Calls Tryz.prog 3 args W fun e W'=>∃ v,e=.returned v∧Rows.critUpSpec.post enc Tryz.prog Tryz.f3 false true false false W args v W':=by
 have hW':=hW;obtain ⟨p,q,hA0,hV,rfl,hfz,hnd⟩:=hW;have hA:DataW.TrodAll enc Tryz.prog W 0 (fun _=>true) true Tryz.f3.params.toList args.toList ds p:=hA0;rw [show Tryz.f3.params=#[23] by kernel_rfl] at hA hval hw;obtain ⟨v0,vs0,d0,ds0,p0,q0,hargs,rfl,rfl,h0,r0⟩:=trodAll_cons hA;obtain ⟨rfl,rfl,rfl⟩:=trodAll_nil r0;obtain rfl:args=#[v0]:=by cases args;simp_all
 obtain ⟨rfl,rfl⟩:=trodVars_none hV;have hw':=List.all_eq_true.1 hw;have fit0:Fits Tryz.prog 23 d0:=fun x hx=>by
  simpa using hw' x (Q2h (i:=0) rfl rfl x hx)
 obtain ⟨pg,hpg⟩:=open_pg1 (hval 0 23 v0 (by simp) (by simp)) h0 fit0;clear hA0;have hlt0:∀ x∈p0,x.block<W.heap.size:=fun x hx=>by simpa using hW'.lt x (by simp [hx])
 refine ((critUp_p fixed21_p pg).pure.at W #[v0] (fun g cs h=>by cases h) (VRs.cons_mk hpg (by rw [VRs]))).mono ?_;rintro e W' ⟨r,rfl,hr,hB⟩;obtain rfl:r=.bool true:=hr
 exact ⟨_,rfl,postB_of (pa:=p0++[]) (pv:=[]) hW' (fun _ _ _=>trodAll_cons_mk (shut_bool Tryz.underlying4 _) trodAll_mk0)
  (fun sp hsp=>trodAll_cons_mk (WideElems.Trod_stays f_laid rdPg itPg h0 (fun x hx=>hB.same (hlt0 x hx)) (fun x hx=>hsp x (by simp [hx]))) trodAll_mk0)
  (fun _ _=>rfl) rfl hB (ok_one (by kernel_rfl) rfl (okWide_bool_mk Tryz.underlying4 _))⟩
set_option maxRecDepth 100000 in
theorem lifted (os:Os) (started:os.Started) (H:Type) (enc:TypeId×Value→H) :
 ReturnsInHanded {} Tryz.checked os 3 .any (Rows.critUpSpec.pre6 enc Tryz.prog Tryz.f3 Rows.critUpRow.domain false) (Rows.critUpSpec.post enc Tryz.prog Tryz.f3 false true false false):=by
 refine returnsInHanded_of_change_sized (C:=Tryz.checked) ownB started (by kernel_rfl) Tryz.func3
  (ChangeSpec.witness6 (enc:=enc) (C:=Tryz.checked) false ⟨#[],#[.slice none 0 0],[]⟩ 8 (by kernel_rfl) (by kernel_rfl) (by kernel_rfl) (by kernel_rfl)) ?_
 intro W base args ds gs before hval hW _ hw _;exact contract H enc W base args ds gs before hval hW hw
theorem said:Rows.CritUpSaid :=
 OpenClaim.holds_of_wide 3 Tryz.f3 rfl rfl rfl rfl rfl rfl rfl ⟨rfl,rfl,rfl,rfl,rfl⟩ rfl rfl rfl rfl rfl row_named Tryz.func3 closed
  (of_decide_eq_true (by kernel_rfl)) row_wrapper
  (fun os started H enc _=>lifted os started H enc)
end critUp
end Go.Proofs.YtabliahkhafddaaGreat
end
