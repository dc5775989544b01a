/- Slices of selectors: IndexFunc, Clone, DeleteFunc with a method as function. -/
import Derived.Test.YtabliahkhafddaaGreatJd8
set_option linter.unusedSimpArgs false
noncomputable section
namespace Go.Proofs.YtabliahkhafddaaGreat
open Go.RowKit Go.Ev
open Go.Ev.AV renaming any→aN
attribute [local go_sem] eq_self false_and and_false Bool.false_eq_true List.set_cons_succ List.set_cons_zero List.getD_cons_succ List.getD_cons_zero List.getElem?_cons_succ List.getElem?_cons_zero true_and and_true and_self Bool.not_true Bool.not_false Nat.add_zero Nat.zero_add Nat.mul_one Int.toNat_natCast Int.natCast_nonneg Int.ofNat_lt Option.bind_some Option.map_some List.map_cons List.map_nil decide_true decide_false BEq.rfl Bool.and_self Bool.and_true Bool.and_false beq_self_eq_true List.cons_append List.nil_append List.take_zero List.take_succ_cons List.take_nil List.drop_succ_cons List.drop_zero List.drop_nil List.append_nil List.length_cons List.length_nil List.all_cons List.all_nil Nat.le_refl Int.le_refl Option.map_none List.replicate_zero List.replicate_succ Nat.zero_mul Nat.sub_zero Nat.zero_le Nat.le_zero_eq Q2m Option.some_or Option.none_or Option.or_none Option.isSome_some Option.isSome_none Option.getD_some Option.getD_none Int.toNat_zero Int.natCast_zero Int.natCast_one Int.cast_ofNat_Int List.toList_toArray
attribute [go_sem] appL newsA isSlice
def okN:Simp→Prop
 | .mk _ name _ _ _ l=>name.size≤1000000∧okNL l
where okNL:List Simp→Prop
 | []=>True
 | x::xs=>okN x∧okNL xs
theorem okNL_mem:∀ {l:List Simp},okN.okNL l→∀ y∈l,okN y
 | x::xs,h,y,hy=>by
   rcases List.mem_cons.1 hy with rfl | hy
   ·exact h.1
   ·exact okNL_mem h.2 y hy
def mv (b nb c:Nat):Nat:=if c=b then nb else c
theorem VSmove {GT:GTab} {E:Beg} {l l':List AV} {m m':ML} {n n':Nat} (b nb:Nat) (hE:E.nx≤b) (hb:b<n') (hnb:b≤nb)
 (hm:∀ p∈m',p.1≤b∧ltB n' p.2∧getL m (mv b nb p.1)=some (reFB (mv b nb) p.2)) (hl:reT (mv b nb) n' l' l):VS GT E (stL l m n) (stL l' m' n'):=by
 refine VS.renF (mv b nb) (fun c hc=>by unfold mv;rw [if_neg (by omega)]) (fun c hc=>by unfold mv;split <;> omega) (by omega) (fun c c' k k' h h' e=>?_) (fun c k h=>?_) hl
 ·have h1:=(hm _ (Q0y h)).1
  have h2:=(hm _ (Q0y h')).1;simp only at h1 h2;unfold mv at e
  split at e <;> split at e <;> omega
 ·have h1:=hm _ (Q0y h)
  exact ⟨Nat.lt_of_le_of_lt h1.1 hb,h1.2⟩
theorem reFL_Z (g:Nat→Nat) (l:List Int):reFL g (l.flatMap encZ)=l.flatMap encZ:=Q2v _ _ (ids_Z l)
theorem ltL_Z (n:Nat) (l:List Int):ltL n (l.flatMap encZ):=Q3d _ _ (ids_Z l)
theorem ltB_K (n:Nat) (K:K2):ltB n (blkK K):=lt_encK n K 0
set_option maxRecDepth 100000 in
set_option maxHeartbeats 4000000 in
theorem simpsQ_m (S:Saf) (p:List Nod) (PT:List Part) (n:Int) (l:List Simp) (hl:l.length≤1000000) (K:K2)
 (hc:∀ x∈l,CallM Tryz.prog gt0 [] [(0,blkK K)] 1 310 [.agg (wldM S p PT),.g (.int .i64 n),.agg (encS x)] (.g (.int .i64 (simpQ S p n x))) [(0,blkK K)] 1) :
 CallM Tryz.prog gt0 [] [(0,blkK K)] 1 261 [.agg (wldM S p PT),.g (.int .i64 n),.sl l.length 6 (l.flatMap encS)] (.sl (l.map (simpQ S p n)).length 1 ((l.map (simpQ S p n)).flatMap encZ)) [(0,blkK K)] 1:=by
 refine Q0l (c:=_) Tryz.func261 rfl (by kernel_rfl) ?_;simp only [Tryz.f261,List.replicate,List.length_cons,List.length_nil,Nat.reduceAdd,Nat.reduceSub,List.cons_append,List.nil_append,wldM] at hc ⊢
 (repeat ((try with_reducible refine W.step (b:=false) ?_);simp (decide:=true) only [go_sem,↓reduceIte,Nat.reduceAdd,Nat.reduceSub]))
 refine W.loop (s1:=stL [aN,(.g (.int .i64 n)),aN,(.ptr 1 0),aN,aN,aN,(ownA 2 1 0 ((l.take 0).map (simpQ S p n))),aN,aN,(.sl l.length 6 (l.flatMap encS)),(.g (.int .i64 (l.length:Int))),(.g (.int .i64 ((0:Nat):Int))),aN,aN,aN,aN,aN,aN,aN,aN,aN,aN,aN,aN] ([(0,blkK K),(1,.cells [.sl S.cls.length 1 (S.cls.flatMap encN),.sl S.atts.length 1 (S.atts.flatMap encN),.sl p.length 5 (p.flatMap encNd),.sl PT.length 2 (PT.flatMap encP),.mp 0])]++rowsM encZ 2 (fun _=>(l.take 0).map (simpQ S p n)) 1) 3)
  (fun (k:Nat) t=>k≤l.length∧t=stL [aN,(.g (.int .i64 n)),aN,(.ptr 1 0),aN,aN,aN,(ownA 2 1 0 ((l.take k).map (simpQ S p n))),aN,aN,(.sl l.length 6 (l.flatMap encS)),(.g (.int .i64 (l.length:Int))),(.g (.int .i64 (k:Int))),aN,aN,aN,aN,aN,aN,aN,aN,aN,aN,aN,aN] ([(0,blkK K),(1,.cells [.sl S.cls.length 1 (S.cls.flatMap encN),.sl S.atts.length 1 (S.atts.flatMap encN),.sl p.length 5 (p.flatMap encNd),.sl PT.length 2 (PT.flatMap encP),.mp 0])]++rowsM encZ 2 (fun _=>(l.take k).map (simpQ S p n)) 1) 3) (fun k=>l.length - k) 0 ⟨Nat.zero_le _,rfl⟩ ?_ ?_
 ·refine VSkeep (show 1≤3 by decide) (fun q hq=>?_) (by simp [Q0e,Q0f,ltA,ownA])
  simp only [List.cons_append,List.nil_append,List.take_zero,List.map_nil,Q1z,List.mem_cons,List.not_mem_nil,or_false] at hq;rcases hq with rfl | rfl
  ·exact ⟨(show 0<3 by decide),ltB_K _ _,rfl⟩
  ·exact ⟨(show 1<3 by decide),by simp [ltB,ltL,ltA],rfl⟩
 rintro k t ⟨hk,rfl⟩;have hsn:∀ h:k<l.length,(l.take (k+1)).map (simpQ S p n)=(l.take k).map (simpQ S p n)++[simpQ S p n l[k]]:=fun h=>by rw [List.take_succ_eq_append_getElem h,List.map_append];rfl
 have hacl:((l.take k).map (simpQ S p n)).length≤1000000:=by rw [List.length_map,List.length_take];omega
 by_cases hlt:k<l.length
 ·obtain ⟨r1,r2⟩:=rowS6 hlt
  have hs:=hsn hlt;have HC:=hc _ (List.getElem_mem hlt);generalize hv:simpQ S p n l[k]=v at hs HC;generalize (l.take k).map (simpQ S p n)=acc at hs hacl ⊢;have hne:acc++[v]≠[]:=by simp
  clear hv;generalize l[k]=x at r1 HC;obtain ⟨kind,name,value,a,b,sl⟩:=x;rw [encS_m] at r1 HC;have h2:=Q1y (enc:=encZ) (b0:=2) hne
  have hfin:∀ (m2:ML) (n2:Nat) (ll:List AV),getL m2 0=some (blkK K)→getL m2 1=some (.cells [.sl S.cls.length 1 (S.cls.flatMap encN),.sl S.atts.length 1 (S.atts.flatMap encN),.sl p.length 5 (p.flatMap encNd),.sl PT.length 2 (PT.flatMap encP),.mp 0])→getL m2 5=some (.cells ((acc++[v]).flatMap encZ))→reT (mv 2 5) 3 [aN,(.g (.int .i64 n)),aN,(.ptr 1 0),aN,aN,aN,(ownA 2 1 0 (acc++[v])),aN,aN,(.sl l.length 6 (l.flatMap encS)),(.g (.int .i64 (l.length:Int))),(.g (.int .i64 ((k+1:Nat):Int))),aN,aN,aN,aN,aN,aN,aN,aN,aN,aN,aN,aN] ll →
   VS gt0 ⟨[],memL [(0,blkK K)],1⟩ (stL ll m2 n2) (stL [aN,(.g (.int .i64 n)),aN,(.ptr 1 0),aN,aN,aN,(ownA 2 1 0 (acc++[v])),aN,aN,(.sl l.length 6 (l.flatMap encS)),(.g (.int .i64 (l.length:Int))),(.g (.int .i64 ((k+1:Nat):Int))),aN,aN,aN,aN,aN,aN,aN,aN,aN,aN,aN,aN] ([(0,blkK K),(1,.cells [.sl S.cls.length 1 (S.cls.flatMap encN),.sl S.atts.length 1 (S.atts.flatMap encN),.sl p.length 5 (p.flatMap encNd),.sl PT.length 2 (PT.flatMap encP),.mp 0])]++rowsM encZ 2 (fun _=>(acc++[v])) 1) 3):=fun m2 n2 ll g0 g1 g5 hl=>by
   refine VSmove 2 5 (show 1≤2 by decide) (by decide) (by decide) (fun q hq=>?_) hl;rw [h2] at hq;simp only [List.cons_append,List.nil_append,List.mem_cons,List.not_mem_nil,or_false] at hq;rcases hq with rfl | rfl | rfl
   ·exact ⟨(show 0≤2 by decide),ltB_K _ _,by rw [reB_K];exact g0⟩
   ·exact ⟨(show 1≤2 by decide),by simp [ltB,ltL,ltA],by simp only [reFB,reFL,reF];exact g1⟩
   ·exact ⟨(show 2≤2 by decide),ltL_Z _ _,by rw [reFB,reFL_Z];exact g5⟩
  by_cases hnil:acc=[]
  ·subst hnil
   (repeat ((try with_reducible refine W.step (b:=false) ?_);simp (decide:=true) only [go_sem,↓reduceIte,Nat.reduceAdd,Nat.reduceSub,own_nil,Q1z,hlt,r1,r2]))
   refine AtCall.mem (m':=[(0,blkK K),(3,.cells [.g (.int .i64 kind),.g (.string name),.g (.string value),.g (.int .i64 a),.g (.int .i64 b),.sl sl.length 6 (sl.flatMap encS)]),(1,.cells [.sl S.cls.length 1 (S.cls.flatMap encN),.sl S.atts.length 1 (S.atts.flatMap encN),.sl p.length 5 (p.flatMap encNd),.sl PT.length 2 (PT.flatMap encP),.mp 0])]) (CallM.sub (m0:=[(0,blkK K)]) HC ⟨by decide,by simp [getL,Q0n,nmL,nmA,Q0x],by simp [nmL,nmA],by simp [Q0n,nmL,nmA,Q0x],by simp [nmA],by simp⟩) ?_
   (repeat ((try with_reducible refine W.step (b:=false) ?_);simp (decide:=true) only [go_sem,↓reduceIte,Nat.reduceAdd,Nat.reduceSub]))
   refine ⟨k+1,_,⟨by omega,rfl⟩,by show l.length - (k+1)<l.length - k;omega,?_⟩;rw [up1 (by omega),hs];refine hfin _ _ _ rfl rfl (by simp [getL,encZ]) ?_;simp [Q1i,Q2i,reF,ltA,mv,ownA]
  ·have hacc:=Q1y (enc:=encZ) (b0:=2) hnil
   have ho:=Q1e (b0:=2) (sz:=1) (j:=0) hnil;have f1:(acc.length+1≤acc.length)=False:=eq_false (by omega);have hlz:=lenZ acc;have f2:(acc.length+1)*9≤17179869184:=by omega
   (repeat ((try with_reducible refine W.step (b:=false) ?_);simp (decide:=true) only [go_sem,↓reduceIte,Nat.reduceAdd,Nat.reduceSub,hacc,ho,hlt,r1,r2,f1,f2]))
   refine AtCall.mem (m':=[(0,blkK K),(3,.cells [.g (.int .i64 kind),.g (.string name),.g (.string value),.g (.int .i64 a),.g (.int .i64 b),.sl sl.length 6 (sl.flatMap encS)]),(1,.cells [.sl S.cls.length 1 (S.cls.flatMap encN),.sl S.atts.length 1 (S.atts.flatMap encN),.sl p.length 5 (p.flatMap encNd),.sl PT.length 2 (PT.flatMap encP),.mp 0]),(2,.cells (acc.flatMap encZ))]) (CallM.sub (m0:=[(0,blkK K)]) HC ⟨by decide,by simp [getL,Q0n,nmL,nmA,Q0x],by simp [nmL,nmA],by simp [Q0n,nmL,nmA,Q0x],by simp [nmA],by simp⟩) ?_
   (repeat ((try with_reducible refine W.step (b:=false) ?_);simp (decide:=true) only [go_sem,↓reduceIte,Nat.reduceAdd,Nat.reduceSub,f1,f2]))
   refine ⟨k+1,_,⟨by omega,rfl⟩,by show l.length - (k+1)<l.length - k;omega,?_⟩;rw [up1 (by omega),hs];refine hfin _ _ _ rfl rfl (by rw [List.flatMap_append];simp [getL,encZ]) ?_;rw [Q1e hne];simp [Q1i,Q2i,reF,ltA,mv]
 ·obtain rfl:k=l.length:=by omega
  rw [List.take_length];generalize hac:l.map (simpQ S p n)=acc
  by_cases hnil:acc=[]
  ·subst hnil
   (repeat ((try with_reducible refine W.step (b:=false) ?_);simp (decide:=true) only [go_sem,↓reduceIte,Nat.reduceAdd,Nat.reduceSub,own_nil,Q1z,hlt]))
   refine ⟨.inr rfl,[aN,aN,aN,aN,aN,aN,(.sl 0 1 []),aN,aN,aN,aN,aN,aN,aN,aN,aN,aN,aN,aN,aN,aN,aN,aN,aN,aN],VS.trans (VS.weak (l':=[aN,aN,aN,aN,aN,aN,(.sl 0 1 []),aN,aN,aN,aN,aN,aN,aN,aN,aN,aN,aN,aN,aN,aN,aN,aN,aN,aN]) (m':=[(0,blkK K),(1,.cells [.sl S.cls.length 1 (S.cls.flatMap encN),.sl S.atts.length 1 (S.atts.flatMap encN),.sl p.length 5 (p.flatMap encNd),.sl PT.length 2 (PT.flatMap encP),.mp 0])]) (by (repeat (first | refine ⟨_,_,rfl,wkA.any _,?_⟩ | refine ⟨_,_,rfl,wkA.nil 1,?_⟩));rfl) ⟨.inl rfl,.inl rfl,trivial⟩) (Q2g (Nat.le_refl _) rfl (by simp [Q0e,Q0f,ltA])),rfl⟩
  ·have hacc:=Q1y (enc:=encZ) (b0:=2) hnil
   have ho:=Q1e (b0:=2) (sz:=1) (j:=0) hnil
   (repeat ((try with_reducible refine W.step (b:=false) ?_);simp (decide:=true) only [go_sem,↓reduceIte,Nat.reduceAdd,Nat.reduceSub,hacc,ho,hlt]))
   refine ⟨.inr rfl,[aN,aN,aN,aN,aN,aN,(.sl acc.length 1 (acc.flatMap encZ)),aN,aN,aN,aN,aN,aN,aN,aN,aN,aN,aN,aN,aN,aN,aN,aN,aN,aN],VS.trans (VS.sealT (l':=[aN,aN,aN,aN,aN,aN,(.sl acc.length 1 (acc.flatMap encZ)),aN,aN,aN,aN,aN,aN,aN,aN,aN,aN,aN,aN,aN,aN,aN,aN,aN,aN]) (m':=[(0,blkK K),(1,.cells [.sl S.cls.length 1 (S.cls.flatMap encN),.sl S.atts.length 1 (S.atts.flatMap encN),.sl p.length 5 (p.flatMap encNd),.sl PT.length 2 (PT.flatMap encP),.mp 0])]) 2 _ rfl (plainZ acc) ?_ ⟨⟨by decide,.inl rfl⟩,⟨by decide,.inl rfl⟩,trivial⟩) (Q2g (Nat.le_refl _) rfl (by simp [Q0e,Q0f,ltA])),rfl⟩;simp only [Q1k,Q2o,frA_any,Q1l,and_true,true_and];exact .inr (.inr ⟨0,_,1,_,rfl,by rw [List.drop_zero,Nat.mul_one,takeZ],by rw [lenZ];omega⟩)
set_option maxRecDepth 100000 in
set_option maxHeartbeats 4000000 in
theorem simpQ_m (S:Saf) (p:List Nod) (PT:List Part) (n:Int) (hp:OkPg p) (hS:OkSf S) (he:elemB p n=true) (K:K2) (N:Nat):∀ (x:Simp),SizeOf.sizeOf x≤N→okS x→okN x →
 CallM Tryz.prog gt0 [] [(0,blkK K)] 1 310 [.agg (wldM S p PT),.g (.int .i64 n),.agg (encS x)] (.g (.int .i64 (simpQ S p n x))) [(0,blkK K)] 1:=by
 induction N with
 | zero=>intro x hl;cases x;simp at hl
 | succ N ih =>
   rintro ⟨kind,name,value,a,b,l⟩ hsz hok hnm;have IH:=simpsQ_m S p PT n l hok.1 K fun y hy=>by
    have h1:=List.sizeOf_lt_of_mem hy;rw [Simp.mk.sizeOf_spec] at hsz;exact ih y (by omega) (okL_mem hok.2 y hy) (okNL_mem hnm.2 y hy)
   have HM:=maySafe_p S (.mk kind name value a b l) hS hnm.1;have HH:=hldQ_m S p PT n (.mk kind name value a b l) hp he K;have hml:(l.map (simpQ S p n)).length≤1000000:=by rw [List.length_map];exact hok.1
   refine Q0l (c:=_) Tryz.func310 rfl (by kernel_rfl) ?_;simp only [Tryz.f310,List.replicate,List.length_cons,List.length_nil,Nat.reduceAdd,Nat.reduceSub,List.cons_append,List.nil_append,wldM,safA,encS_m] at IH HM HH ⊢;rw [simpQ,simpsQ_eq]
   by_cases h11:kind=11
   ·have f11:=eq_true h11
    rw [if_pos h11]
    (repeat ((try with_reducible refine W.step (b:=false) ?_);simp (decide:=true) only [go_sem,↓reduceIte,Nat.reduceAdd,Nat.reduceSub,f11]))
    refine AtCall.mem (m':=[(0,blkK K),(2,.cells [.g (.int .i64 kind),.g (.string name),.g (.string value),.g (.int .i64 a),.g (.int .i64 b),.sl l.length 6 (l.flatMap encS)]),(1,.cells [.sl S.cls.length 1 (S.cls.flatMap encN),.sl S.atts.length 1 (S.atts.flatMap encN),.sl p.length 5 (p.flatMap encNd),.sl PT.length 2 (PT.flatMap encP),.mp 0])]) (CallM.sub (m0:=[(0,blkK K)]) IH ⟨by decide,by simp [getL,Q0n,nmL,nmA,Q0x],by simp [nmL,nmA],by simp [Q0n,nmL,nmA,Q0x],by simp [nmA],by simp⟩) ?_
    (repeat ((try with_reducible refine W.step (b:=false) ?_);simp (decide:=true) only [go_sem,↓reduceIte,Nat.reduceAdd,Nat.reduceSub]))
    refine AtCall.mk (orQ_p _ hml) ?_
    (repeat ((try with_reducible refine W.step (b:=false) ?_);simp (decide:=true) only [go_sem,↓reduceIte,Nat.reduceAdd,Nat.reduceSub]))
    refine AtCall.mk (notQ_p _) ?_
    (repeat ((try with_reducible refine W.step (b:=false) ?_);simp (decide:=true) only [go_sem,↓reduceIte,Nat.reduceAdd,Nat.reduceSub]))
    generalize 2 - wiQ (orQ (l.map (simpQ S p n)))=R;exact ⟨.inr rfl,[aN,aN,aN,aN,aN,aN,(.g (.int .i64 R)),aN,aN,aN,aN,aN,aN,aN,aN,aN,aN,aN,aN,aN,aN,aN,aN,aN,aN,aN,aN,aN],Q2g (Nat.le_refl _) rfl (by simp [Q0e,Q0f,ltA]),rfl⟩
   have f11:=eq_false h11;rw [if_neg h11]
   (repeat ((try with_reducible refine W.step (b:=false) ?_);simp (decide:=true) only [go_sem,↓reduceIte,Nat.reduceAdd,Nat.reduceSub,f11]))
   refine AtCall.mk HM ?_;have hme:maySafe S (Simp.mk kind name value a b l).kind (Simp.mk kind name value a b l).name=maySafe S kind name:=rfl;rw [hme]
   cases hm:maySafe S kind name with
   | true =>
     (repeat ((try with_reducible refine W.step (b:=false) ?_);simp (decide:=true) only [go_sem,↓reduceIte,Nat.reduceAdd,Nat.reduceSub]))
     exact ⟨.inr rfl,[aN,aN,aN,aN,aN,aN,(.g (.int .i64 1)),aN,aN,aN,aN,aN,aN,aN,aN,aN,aN,aN,aN,aN,aN,aN,aN,aN,aN,aN,aN,aN],Q2g (Nat.le_refl _) rfl (by simp [Q0e,Q0f,ltA]),rfl⟩
   | false =>
     have hh:hldQ p n (.mk kind name value a b l)=holdsS p [] n (.mk kind name value a b l):=if_neg h11;rw [hh] at HH;have ht:(if holdsS p [] n (.mk kind name value a b l)=true then (2:Int) else 0)=twoQ (holdsS p [] n (.mk kind name value a b l)):=rfl;rw [if_neg (by decide),ht];generalize holdsS p [] n (.mk kind name value a b l)=B0 at HH ⊢
     (repeat ((try with_reducible refine W.step (b:=false) ?_);simp (decide:=true) only [go_sem,↓reduceIte,Nat.reduceAdd,Nat.reduceSub]))
     refine AtCall.mem (m':=[(0,blkK K),(2,.cells [.g (.int .i64 kind),.g (.string name),.g (.string value),.g (.int .i64 a),.g (.int .i64 b),.sl l.length 6 (l.flatMap encS)]),(1,.cells [.sl S.cls.length 1 (S.cls.flatMap encN),.sl S.atts.length 1 (S.atts.flatMap encN),.sl p.length 5 (p.flatMap encNd),.sl PT.length 2 (PT.flatMap encP),.mp 0])]) (CallM.sub (m0:=[(0,blkK K)]) HH ⟨by decide,by simp [getL,Q0n,nmL,nmA,Q0x],by simp [nmL,nmA],by simp [Q0n,nmL,nmA,Q0x],by simp [nmA],by simp⟩) ?_
     (repeat ((try with_reducible refine W.step (b:=false) ?_);simp (decide:=true) only [go_sem,↓reduceIte,Nat.reduceAdd,Nat.reduceSub]))
     refine AtCall.mk (ofQ_p B0) ?_
     (repeat ((try with_reducible refine W.step (b:=false) ?_);simp (decide:=true) only [go_sem,↓reduceIte,Nat.reduceAdd,Nat.reduceSub]))
     exact ⟨.inr rfl,[aN,aN,aN,aN,aN,aN,(.g (.int .i64 (twoQ B0))),aN,aN,aN,aN,aN,aN,aN,aN,aN,aN,aN,aN,aN,aN,aN,aN,aN,aN,aN,aN,aN],Q2g (Nat.le_refl _) rfl (by simp [Q0e,Q0f,ltA]),rfl⟩
attribute [go_sem] appL newsA isSlice
set_option maxRecDepth 100000 in
set_option maxHeartbeats 4000000 in
theorem relatedQ_m (S:Saf) (p:List Nod) (PT:List Part) (n:Nat) (comb:Int) (hp:OkPg p) (hT:TreeP p) (hn:n<p.length) (hin:(n:Int)∈kinM p n) (K:K2) :
 CallM Tryz.prog gt0 [] [(0,blkK K)] 1 262 [.agg (wldM S p PT),.g (.int .i64 (n:Int)),.g (.int .i64 comb)] (.sl (relatedM p n comb).length 1 ((relatedM p n comb).flatMap encZ)) [(0,blkK K)] 1:=by
 refine Q0l (c:=_) Tryz.func262 rfl (by kernel_rfl) ?_;simp only [Tryz.f262,List.replicate,List.length_cons,List.length_nil,Nat.reduceAdd,Nat.reduceSub,List.cons_append,List.nil_append,wldM];have hlen:=hp.len;have r:=rowNd hn;have hu:=Q0r hn;obtain ⟨A,hA⟩:∃ A,A=(aboveM p n).map fun k:Nat=>(k:Int):=⟨_,rfl⟩;have hab:∀ k:Nat,aboveM p k=if 0<(ndAt p k).up∧(ndAt p k).up<k then (ndAt p k).up.toNat::aboveM p (ndAt p k).up.toNat else []:=Q4e
 have hup:∀ (k:Nat) (hk:k<p.length),0<k→0≤p[k].up∧p[k].up<k:=fun k hk h0=>by rw [←Q0r hk];exact hT.up k h0 hk
 (repeat ((try with_reducible refine W.step (b:=false) ?_);simp (decide:=true) only [go_sem,↓reduceIte,Nat.reduceAdd,Nat.reduceSub,hn,r]))
 refine W.loop (s1:=stL [aN,(.g (.int .i64 (n:Int))),(.g (.int .i64 comb)),(.ptr 1 0),aN,aN,aN,(ownA 2 1 0 ([]:List Int)),(.g (.int .i64 p[n].up)),aN,aN,aN,aN,aN,aN,aN,aN,aN,aN,aN,aN,aN,aN,aN,aN,aN,aN,aN,aN,aN,aN,aN,aN,aN,aN,aN,aN,aN,aN,aN,aN,aN,aN,aN,aN,aN,aN,aN,aN,aN,aN,aN,aN,aN,aN,aN,aN,aN,aN,aN] ([(0,blkK K),(1,.cells [.sl S.cls.length 1 (S.cls.flatMap encN),.sl S.atts.length 1 (S.atts.flatMap encN),.sl p.length 5 (p.flatMap encNd),.sl PT.length 2 (PT.flatMap encP),.mp 0])]++rowsM encZ 2 (fun _=>([]:List Int)) 1) 3)
  (fun (q:List Int×Int) t=>(q.2<p.length∧q.1.length≤n∧(0<q.2→q.2<n)∧A=q.1++(if 0<q.2 then q.2::((aboveM p q.2.toNat).map fun k:Nat=>(k:Int)) else [])∧q.1.length+q.2.toNat≤n)∧t=stL [aN,(.g (.int .i64 (n:Int))),(.g (.int .i64 comb)),(.ptr 1 0),aN,aN,aN,(ownA 2 1 0 q.1),(.g (.int .i64 q.2)),aN,aN,aN,aN,aN,aN,aN,aN,aN,aN,aN,aN,aN,aN,aN,aN,aN,aN,aN,aN,aN,aN,aN,aN,aN,aN,aN,aN,aN,aN,aN,aN,aN,aN,aN,aN,aN,aN,aN,aN,aN,aN,aN,aN,aN,aN,aN,aN,aN,aN,aN] ([(0,blkK K),(1,.cells [.sl S.cls.length 1 (S.cls.flatMap encN),.sl S.atts.length 1 (S.atts.flatMap encN),.sl p.length 5 (p.flatMap encNd),.sl PT.length 2 (PT.flatMap encP),.mp 0])]++rowsM encZ 2 (fun _=>q.1) 1) 3) (fun q=>q.2.toNat)
  ([],p[n].up) ⟨?_,rfl⟩ ?_ ?_
 ·have hb:0<p[n].up→p[n].up<n:=fun h=>by
   by_cases h0:n=0
   ·have:=hT.root0 (by omega)
    subst h0;rw [←hu];simp only [Int.natCast_zero];omega
   ·exact (hup n hn (by omega)).2
  simp only [List.length_nil,List.nil_append];refine ⟨by omega,by omega,hb,?_,by omega⟩;rw [hA,hab,hu]
  by_cases h0:0<p[n].up
  ·rw [if_pos ⟨h0,hb h0⟩,if_pos h0,List.map_cons]
   congr 1
   omega
  ·rw [if_neg (by omega),if_neg h0];rfl
 ·refine VSkeep (show 1≤3 by decide) (fun q hq=>?_) (by simp [Q0e,Q0f,ltA,ownA])
  simp only [List.cons_append,List.nil_append,Q1z,List.mem_cons,List.not_mem_nil,or_false] at hq;rcases hq with rfl | rfl
  ·exact ⟨(show 0<3 by decide),ltB_K _ _,rfl⟩
  ·exact ⟨(show 1<3 by decide),by simp [ltB,ltL,ltA],rfl⟩
 rintro ⟨acc,u⟩ t ⟨⟨h1,h2,h4,h3,h5⟩,rfl⟩;simp only at h1 h2 h3 h4 h5
 by_cases h0:0<u
 ·have f0:=eq_true h0
  obtain ⟨k,rfl⟩:∃ k:Nat,u=k:=⟨u.toNat,by omega⟩;have hk:k<p.length:=by omega
  have rk:=rowNd hk;have huk:=hup k hk (by omega);have hnext:p[k].up<p.length∧(acc++[(k:Int)]).length≤n∧(0<p[k].up→p[k].up<n)∧A=(acc++[(k:Int)])++(if 0<p[k].up then p[k].up::((aboveM p p[k].up.toNat).map fun k:Nat=>(k:Int)) else [])∧(acc++[(k:Int)]).length+p[k].up.toNat≤n:=by
   rw [List.length_append,List.length_singleton];refine ⟨by omega,by omega,fun h=>by omega,?_,by omega⟩;rw [h3,if_pos h0,Int.toNat_natCast,hab,Q0r hk]
   by_cases hz:0<p[k].up
   ·rw [if_pos ⟨hz,huk.2⟩,if_pos hz,List.map_cons,show ((p[k].up.toNat:Nat):Int)=p[k].up by omega];simp
   ·rw [if_neg (by omega),if_neg hz];simp
  have hm:p[k].up.toNat<k:=by omega
  have hne:acc++[(k:Int)]≠[]:=by simp
  have g2:=Q1y (enc:=encZ) (b0:=2) hne
  have hfin:∀ (m2:ML) (n2:Nat) (ll:List AV),getL m2 0=some (blkK K)→getL m2 1=some (.cells [.sl S.cls.length 1 (S.cls.flatMap encN),.sl S.atts.length 1 (S.atts.flatMap encN),.sl p.length 5 (p.flatMap encNd),.sl PT.length 2 (PT.flatMap encP),.mp 0])→getL m2 4=some (.cells ((acc++[(k:Int)]).flatMap encZ))→reT (mv 2 4) 3 [aN,(.g (.int .i64 (n:Int))),(.g (.int .i64 comb)),(.ptr 1 0),aN,aN,aN,(ownA 2 1 0 (acc++[(k:Int)])),(.g (.int .i64 p[k].up)),aN,aN,aN,aN,aN,aN,aN,aN,aN,aN,aN,aN,aN,aN,aN,aN,aN,aN,aN,aN,aN,aN,aN,aN,aN,aN,aN,aN,aN,aN,aN,aN,aN,aN,aN,aN,aN,aN,aN,aN,aN,aN,aN,aN,aN,aN,aN,aN,aN,aN,aN] ll →
   VS gt0 ⟨[],memL [(0,blkK K)],1⟩ (stL ll m2 n2) (stL [aN,(.g (.int .i64 (n:Int))),(.g (.int .i64 comb)),(.ptr 1 0),aN,aN,aN,(ownA 2 1 0 (acc++[(k:Int)])),(.g (.int .i64 p[k].up)),aN,aN,aN,aN,aN,aN,aN,aN,aN,aN,aN,aN,aN,aN,aN,aN,aN,aN,aN,aN,aN,aN,aN,aN,aN,aN,aN,aN,aN,aN,aN,aN,aN,aN,aN,aN,aN,aN,aN,aN,aN,aN,aN,aN,aN,aN,aN,aN,aN,aN,aN] ([(0,blkK K),(1,.cells [.sl S.cls.length 1 (S.cls.flatMap encN),.sl S.atts.length 1 (S.atts.flatMap encN),.sl p.length 5 (p.flatMap encNd),.sl PT.length 2 (PT.flatMap encP),.mp 0])]++rowsM encZ 2 (fun _=>(acc++[(k:Int)])) 1) 3):=fun m2 n2 ll g0 g1 g5 hl=>by
   refine VSmove 2 4 (show 1≤2 by decide) (by decide) (by decide) (fun q hq=>?_) hl;rw [g2] at hq;simp only [List.cons_append,List.nil_append,List.mem_cons,List.not_mem_nil,or_false] at hq;rcases hq with rfl | rfl | rfl
   ·exact ⟨(show 0≤2 by decide),ltB_K _ _,by rw [reB_K];exact g0⟩
   ·exact ⟨(show 1≤2 by decide),by simp [ltB,ltL,ltA],by simp only [reFB,reFL,reF];exact g1⟩
   ·exact ⟨(show 2≤2 by decide),ltL_Z _ _,by rw [reFB,reFL_Z];exact g5⟩
  by_cases hnil:acc=[]
  ·subst hnil
   (repeat ((try with_reducible refine W.step (b:=false) ?_);simp (decide:=true) only [go_sem,↓reduceIte,Nat.reduceAdd,Nat.reduceSub,own_nil,Q1z,f0,hk,rk]))
   refine ⟨([]++[(k:Int)],p[k].up),_,⟨hnext,rfl⟩,by show p[k].up.toNat<(k:Int).toNat;omega,?_⟩;refine hfin _ _ _ rfl rfl (by simp [getL,encZ]) ?_;simp [Q1i,Q2i,reF,ltA,mv,ownA]
  ·have hacc:=Q1y (enc:=encZ) (b0:=2) hnil
   have ho:=Q1e (b0:=2) (sz:=1) (j:=0) hnil;have f1:(acc.length+1≤acc.length)=False:=eq_false (by omega);have hlz:=lenZ acc;have f2:(acc.length+1)*9≤17179869184:=by omega
   (repeat ((try with_reducible refine W.step (b:=false) ?_);simp (decide:=true) only [go_sem,↓reduceIte,Nat.reduceAdd,Nat.reduceSub,hacc,ho,f0,hk,rk,f1,f2]))
   refine ⟨(acc++[(k:Int)],p[k].up),_,⟨hnext,rfl⟩,by show p[k].up.toNat<(k:Int).toNat;omega,?_⟩;refine hfin _ _ _ rfl rfl (by rw [List.flatMap_append];simp [getL,encZ]) ?_;rw [Q1e hne];simp [Q1i,Q2i,reF,ltA,mv]
 have f0:=eq_false h0;rw [if_neg h0,List.append_nil] at h3;subst h3;clear h1 h2 h4 h5;obtain ⟨k,hk,hix⟩:∃ k:Nat,k<(kinM p n).length∧idxL (fun k=>decide (k=(n:Int))) (kinM p n)=(k:Int):=by
  rcases find_idx (fun k=>decide (k=(n:Int))) (kinM p n) with ⟨-,h2⟩ | ⟨k,hk,h1,-⟩
  ·rw [List.find?_eq_none] at h2
   exact absurd (decide_eq_true rfl) (h2 n hin)
  ·exact ⟨k,hk,h1⟩
 have hc:aheadM p n=(kinM p n).take k:=ahead_cut hk hix;have hle:k≤(kinM p n).length:=by omega
 have hal:(aheadM p n).length=k:=by rw [hc,List.length_take];omega
 have hz:((kinM p n).flatMap encZ).take k=(aheadM p n).flatMap encZ:=by rw [hc,mapZ,mapZ,List.map_take]
 have hkl:=kin_len (n:=(n:Int)) hp;refine W.vs (s1:=stL [aN,(.g (.int .i64 (n:Int))),(.g (.int .i64 comb)),(.ptr 1 0),aN,aN,aN,(.sl A.length 1 (A.flatMap encZ)),(.g (.int .i64 u)),aN,aN,aN,aN,aN,aN,aN,aN,aN,aN,aN,aN,aN,aN,aN,aN,aN,aN,aN,aN,aN,aN,aN,aN,aN,aN,aN,aN,aN,aN,aN,aN,aN,aN,aN,aN,aN,aN,aN,aN,aN,aN,aN,aN,aN,aN,aN,aN,aN,aN,aN] [(0,blkK K),(1,.cells [.sl S.cls.length 1 (S.cls.flatMap encN),.sl S.atts.length 1 (S.atts.flatMap encN),.sl p.length 5 (p.flatMap encNd),.sl PT.length 2 (PT.flatMap encP),.mp 0])] 3) ?_ ?_
 ·by_cases hnil:A=[]
  ·rw [hnil]
   exact VS.weak (by (repeat (first | refine ⟨_,_,rfl,wkA.any _,?_⟩ | refine ⟨_,_,rfl,wkA.refl _,?_⟩ | refine ⟨_,_,rfl,wkA.nil 1,?_⟩));rfl) ⟨.inl rfl,.inl rfl,trivial⟩
  ·rw [Q1y (enc:=encZ) (b0:=2) hnil,Q1e (b0:=2) (sz:=1) (j:=0) hnil]
   refine VS.sealT 2 _ rfl (plainZ A) ?_ ⟨⟨by decide,.inl rfl⟩,⟨by decide,.inl rfl⟩,trivial⟩;simp only [Q1k,Q2o,frA_any,Q1l,and_true,true_and];exact .inr (.inr ⟨0,_,1,_,rfl,by rw [List.drop_zero,Nat.mul_one,takeZ],by rw [lenZ];omega⟩)
 have hAl:A.length≤1000000:=by
  have:=related_len (comb:=1) hp hn;unfold relatedM at this;rw [if_pos rfl,←hA] at this;exact this
 (repeat ((try with_reducible refine W.step (b:=false) ?_);simp (decide:=true) only [go_sem,↓reduceIte,Nat.reduceAdd,Nat.reduceSub,f0]))
 refine AtCall.mk (kin_p p n hp) ?_
 (repeat ((try with_reducible refine W.step (b:=false) ?_);simp (decide:=true) only [go_sem,↓reduceIte,Nat.reduceAdd,Nat.reduceSub]))
 refine AtCall.mk (indexI_p (kinM p n) n hkl) ?_;rw [hix];unfold relatedM
 by_cases h1:comb=1
 ·have f1:=eq_true h1
  rw [if_pos h1,←hA]
  (repeat ((try with_reducible refine W.step (b:=false) ?_);simp (decide:=true) only [go_sem,↓reduceIte,Nat.reduceAdd,Nat.reduceSub,f1,hle,hz]))
  exact ⟨.inr rfl,[aN,aN,aN,aN,aN,aN,(.sl A.length 1 (A.flatMap encZ)),aN,aN,aN,aN,aN,aN,aN,aN,aN,aN,aN,aN,aN,aN,aN,aN,aN,aN,aN,aN,aN,aN,aN,aN,aN,aN,aN,aN,aN,aN,aN,aN,aN,aN,aN,aN,aN,aN,aN,aN,aN,aN,aN,aN,aN,aN,aN,aN,aN,aN,aN,aN,aN],Q2g (Nat.le_refl _) rfl (by simp [Q0e,Q0f,ltA]),rfl⟩
 have f1:=eq_false h1;rw [if_neg h1]
 by_cases h2:comb=2
 ·have f2:=eq_true h2
  rw [if_pos h2,List.map_take,←hA];obtain ⟨j,hj⟩:∃ j,j=min 1 A.length:=⟨_,rfl⟩;have fm:(if (A.length:Int)<1 then (A.length:Int) else 1)=(j:Int):=by rw [hj];split <;> omega
  have fk:j≤A.length:=by omega
  have hl2:(A.take 1).length=j:=by rw [List.length_take];omega
  have hz2:(A.flatMap encZ).take j=(A.take 1).flatMap encZ:=by
   rw [mapZ,mapZ,←List.map_take,hj]
   congr 1
   rw [List.take_eq_take_iff];omega
  rw [hl2]
  (repeat ((try with_reducible refine W.step (b:=false) ?_);simp (decide:=true) only [go_sem,↓reduceIte,Nat.reduceAdd,Nat.reduceSub,f1,f2,hle,hz,fm,fk,hz2]))
  exact ⟨.inr rfl,[aN,aN,aN,aN,aN,aN,(.sl j 1 ((A.take 1).flatMap encZ)),aN,aN,aN,aN,aN,aN,aN,aN,aN,aN,aN,aN,aN,aN,aN,aN,aN,aN,aN,aN,aN,aN,aN,aN,aN,aN,aN,aN,aN,aN,aN,aN,aN,aN,aN,aN,aN,aN,aN,aN,aN,aN,aN,aN,aN,aN,aN,aN,aN,aN,aN,aN,aN],Q2g (Nat.le_refl _) rfl (by simp [Q0e,Q0f,ltA]),rfl⟩
 have f2:=eq_false h2;rw [if_neg h2]
 by_cases h3:comb=3
 ·have f3:=eq_true h3
  rw [if_pos h3];have hl2:((aheadM p n).drop ((aheadM p n).length - 1)).length=k - (k - 1):=by rw [List.length_drop,hal]
  rw [hl2];have fw:IntKind.i64.wrap ((k:Int) - 1)=(k:Int) - 1:=IntWalk.i64_in _ (by omega);have fm:(if 0<(k:Int) - 1 then (k:Int) - 1 else 0)=((k - 1:Nat):Int):=by split <;> omega
  have fk:k - 1≤k:=by omega
  have hz2:(((aheadM p n).flatMap encZ).drop (k - 1)).take (k - (k - 1))=((aheadM p n).drop ((aheadM p n).length - 1)).flatMap encZ:=by
   rw [List.take_of_length_le (by rw [List.length_drop,lenZ,hal];exact Nat.le_refl _),mapZ,mapZ,List.map_drop,hal]
  (repeat ((try with_reducible refine W.step (b:=false) ?_);simp (decide:=true) only [go_sem,↓reduceIte,Nat.reduceAdd,Nat.reduceSub,f1,f2,f3,hle,hz,fw,fm,fk,hz2]))
  exact ⟨.inr rfl,[aN,aN,aN,aN,aN,aN,(.sl (k - (k - 1)) 1 (((aheadM p n).drop ((aheadM p n).length - 1)).flatMap encZ)),aN,aN,aN,aN,aN,aN,aN,aN,aN,aN,aN,aN,aN,aN,aN,aN,aN,aN,aN,aN,aN,aN,aN,aN,aN,aN,aN,aN,aN,aN,aN,aN,aN,aN,aN,aN,aN,aN,aN,aN,aN,aN,aN,aN,aN,aN,aN,aN,aN,aN,aN,aN,aN],Q2g (Nat.le_refl _) rfl (by simp [Q0e,Q0f,ltA]),rfl⟩
 have f3:=eq_false h3;rw [if_neg h3]
 by_cases h4:comb=4
 ·have f4:=eq_true h4
  rw [if_pos h4,hal]
  (repeat ((try with_reducible refine W.step (b:=false) ?_);simp (decide:=true) only [go_sem,↓reduceIte,Nat.reduceAdd,Nat.reduceSub,f1,f2,f3,f4,hle,hz]))
  exact ⟨.inr rfl,[aN,aN,aN,aN,aN,aN,(.sl k 1 ((aheadM p n).flatMap encZ)),aN,aN,aN,aN,aN,aN,aN,aN,aN,aN,aN,aN,aN,aN,aN,aN,aN,aN,aN,aN,aN,aN,aN,aN,aN,aN,aN,aN,aN,aN,aN,aN,aN,aN,aN,aN,aN,aN,aN,aN,aN,aN,aN,aN,aN,aN,aN,aN,aN,aN,aN,aN,aN],Q2g (Nat.le_refl _) rfl (by simp [Q0e,Q0f,ltA]),rfl⟩
 ·have f4:=eq_false h4
  rw [if_neg h4]
  (repeat ((try with_reducible refine W.step (b:=false) ?_);simp (decide:=true) only [go_sem,↓reduceIte,Nat.reduceAdd,Nat.reduceSub,f1,f2,f3,f4,hle,hz]))
  exact ⟨.inr rfl,[aN,aN,aN,aN,aN,aN,(.sl 0 1 []),aN,aN,aN,aN,aN,aN,aN,aN,aN,aN,aN,aN,aN,aN,aN,aN,aN,aN,aN,aN,aN,aN,aN,aN,aN,aN,aN,aN,aN,aN,aN,aN,aN,aN,aN,aN,aN,aN,aN,aN,aN,aN,aN,aN,aN,aN,aN,aN,aN,aN,aN,aN,aN],VS.trans (VS.weak (l':=[aN,aN,aN,aN,aN,aN,(.sl 0 1 []),aN,aN,aN,aN,aN,aN,aN,aN,aN,aN,aN,aN,aN,aN,aN,aN,aN,aN,aN,aN,aN,aN,aN,aN,aN,aN,aN,aN,aN,aN,aN,aN,aN,aN,aN,aN,aN,aN,aN,aN,aN,aN,aN,aN,aN,aN,aN,aN,aN,aN,aN,aN,aN]) (m':=[(0,blkK K),(1,.cells [.sl S.cls.length 1 (S.cls.flatMap encN),.sl S.atts.length 1 (S.atts.flatMap encN),.sl p.length 5 (p.flatMap encNd),.sl PT.length 2 (PT.flatMap encP),.mp 0])]) (by (repeat (first | refine ⟨_,_,rfl,wkA.any _,?_⟩ | refine ⟨_,_,rfl,wkA.nil 1,?_⟩));rfl) ⟨.inl rfl,.inl rfl,trivial⟩) (Q2g (Nat.le_refl _) rfl (by simp [Q0e,Q0f,ltA])),rfl⟩
attribute [go_sem] appL newsA isSlice
def FindQM (S:Saf) (p:List Nod) (PT:List Part) (q:Nat) (n:Int) (find:K2→Int×K2):Prop:=∀ K:K2,OkQ S p PT q K→CallM Tryz.prog gt0 [] [(0,blkK K)] 1 195 [.agg (wldM S p PT),.g (.int .i64 n),.g (.int .i64 (q:Int))] (.g (.int .i64 (find K).1)) [(0,blkK (find K).2)] 1
def FitsQM (S:Saf) (p:List Nod) (PT:List Part) (q:Nat):Prop:=∀ (K:K2) (n:Nat),n<p.length→OkQ S p PT (q+1) K→CallM Tryz.prog gt0 [] [(0,blkK K)] 1 118 [.agg (wldM S p PT),.g (.int .i64 (n:Int)),.g (.int .i64 (q:Int))] (.g (.int .i64 (rightQ S p PT q n))) [(0,blkK (fitsKQ S p PT q K n).2)] 1
set_option maxRecDepth 100000 in
set_option maxHeartbeats 4000000 in
theorem fitsQ_of (S:Saf) (p:List Nod) (PT:List Part) (q n:Nat) (find:K2→Int×K2) (HF:FindQM S p PT q n find) (HT:∀ K,OkQ S p PT q K→(find K).1=rightQ S p PT q n) (K:K2) (hK:OkQ S p PT (q+1) K) :
 CallM Tryz.prog gt0 [] [(0,blkK K)] 1 118 [.agg (wldM S p PT),.g (.int .i64 (n:Int)),.g (.int .i64 (q:Int))] (.g (.int .i64 (rightQ S p PT q n))) [(0,blkK (memoQ find ((n:Int),(q:Int)) K).2)] 1:=by
 have hl:=fun K=>look_K ((n:Int),(q:Int)) K;have hm:=fun K v=>mset_K ((n:Int),(q:Int)) K v;have hb:0≤rightQ S p PT q n∧rightQ S p PT q n≤2:=fitsQ_bd S p _ n;have hK0:OkQ S p PT q K:=fun n' q' hq=>hK n' q' (by omega);have H:=HF K hK0;have hT:=HT K hK0;have hK1:=hK n q (Nat.lt_succ_self _);simp only [keyA] at hl hm;refine Q0l (c:=_) Tryz.func118 rfl (by kernel_rfl) ?_;simp only [Tryz.f118,List.replicate,List.length_cons,List.length_nil,Nat.reduceAdd,Nat.reduceSub,List.cons_append,List.nil_append,wldM] at H ⊢;unfold memoQ;rw [hT] at H;generalize rightQ S p PT q n=r at *;have fw:IntKind.i64.wrap (1+r)=1+r:=IntWalk.i64_in _ (by omega);have fw2:IntKind.i64.wrap (1+r - 1)=r:=(IntWalk.i64_in _ (by omega)).trans (by omega)
 by_cases h0:getK K ((n:Int),(q:Int))=0
 ·have f0:=eq_true h0
  rw [if_pos h0];simp only [hT];generalize (find K).2=K2 at H ⊢;have hgs:=get_set ((n:Int),(q:Int)) (1+r) K2
  (repeat ((try with_reducible refine W.step (b:=true) ?_);simp (decide:=true) only [go_sem,↓reduceIte,Nat.reduceAdd,Nat.reduceSub,hl,hm,f0];(try with_reducible refine drawn hmix (by kernel_rfl) ?_);try with_reducible refine ⟨by kernel_rfl,?_⟩))
  refine AtCallD.mem (m':=[(0,blkK K2),(2,.cells [.g (.int .i64 (n:Int)),.g (.int .i64 (q:Int))]),(1,.cells [.sl S.cls.length 1 (S.cls.flatMap encN),.sl S.atts.length 1 (S.atts.flatMap encN),.sl p.length 5 (p.flatMap encNd),.sl PT.length 2 (PT.flatMap encP),.mp 0])]) (CallM.subD (m0:=[(0,blkK K)]) H ⟨by decide,by simp [getL,Q0n,nmL,nmA,Q0x],by simp [nmL,nmA],by simp [Q0n,nmL,nmA,Q0x],by simp [nmA],by simp⟩) ?_
  (repeat ((try with_reducible refine W.step (b:=true) ?_);simp (decide:=true) only [go_sem,↓reduceIte,Nat.reduceAdd,Nat.reduceSub,hl,hm,hgs,fw,fw2];(try with_reducible refine drawn hmix (by kernel_rfl) ?_);try with_reducible refine ⟨by kernel_rfl,?_⟩))
  exact ⟨.inr rfl,[aN,aN,aN,aN,aN,aN,(.g (.int .i64 r)),aN,aN,aN,aN,aN,aN,aN,aN,aN,aN,aN,aN,aN,aN,aN,aN,aN,aN,aN,aN,aN,aN],Q2g (Nat.le_refl _) rfl (by simp [Q0e,Q0f,ltA]),rfl⟩
 ·have f0:=eq_false h0
  have hv:=hK1.resolve_left h0;rw [if_neg h0];have f1:(1+r=0)=False:=eq_false (by omega)
  (repeat ((try with_reducible refine W.step (b:=true) ?_);simp (decide:=true) only [go_sem,↓reduceIte,Nat.reduceAdd,Nat.reduceSub,hl,hm,f0,hv,fw2,f1];(try with_reducible refine drawn hmix (by kernel_rfl) ?_);try with_reducible refine ⟨by kernel_rfl,?_⟩))
  exact ⟨.inr rfl,[aN,aN,aN,aN,aN,aN,(.g (.int .i64 r)),aN,aN,aN,aN,aN,aN,aN,aN,aN,aN,aN,aN,aN,aN,aN,aN,aN,aN,aN,aN,aN,aN],Q2g (Nat.le_refl _) rfl (by simp [Q0e,Q0f,ltA]),rfl⟩
set_option maxRecDepth 100000 in
set_option maxHeartbeats 4000000 in
theorem findQ_m (S:Saf) (p:List Nod) (PT:List Part) (q:Nat) (hp:OkPg p) (hT:TreeP p) (hS:OkSf S) (hPT:okPT PT) (hN:∀ pt∈PT,∀ x∈pt.l,okN x) (hq:q<PT.length) (n:Nat) (hn:n<p.length) (fits:K2→Int→Int×K2)
 (hF:∀ q',q=q'+1→FitsQM S p PT q'∧fits=fitsKQ S p PT q'):FindQM S p PT q n (fun K=>findQ S p PT fits q K n):=by
 intro K hK;have rp:=rowP hq;obtain ⟨hl1,hl2⟩:=hPT.2 _ (List.getElem_mem hq);have hN2:=hN _ (List.getElem_mem hq);have hlen:=hPT.1;have HE:=element_p p n;have hfind:findQ S p PT fits q K n=if elemB p n=true then (if q=0∨partQ S p PT[q] n=0 then (partQ S p PT[q] n,K) else (andQ [partQ S p PT[q] n,(foldQ fits K 0 (relatedM p n PT[q].comb)).1],(foldQ fits K 0 (relatedM p n PT[q].comb)).2)) else (0,K):=by
  unfold findQ;rw [List.getElem?_eq_getElem hq];simp only [Int.toNat_natCast]
 refine Q0l (c:=_) Tryz.func195 rfl (by kernel_rfl) ?_;have HL:elemB p n=true→CallM Tryz.prog gt0 [] [(0,blkK K)] 1 261 [.agg (wldM S p PT),.g (.int .i64 (n:Int)),.sl PT[q].l.length 6 (PT[q].l.flatMap encS)] (.sl (PT[q].l.map (simpQ S p n)).length 1 ((PT[q].l.map (simpQ S p n)).flatMap encZ)) [(0,blkK K)] 1:=fun he=>simpsQ_m S p PT n PT[q].l hl1 K fun x hx=>simpQ_m S p PT n hp hS he K _ x (Nat.le_refl _) (hl2 x hx) (hN2 x hx);have HRel:elemB p n=true→∀ K',CallM Tryz.prog gt0 [] [(0,blkK K')] 1 262 [.agg (wldM S p PT),.g (.int .i64 (n:Int)),.g (.int .i64 PT[q].comb)] (.sl (relatedM p n PT[q].comb).length 1 ((relatedM p n PT[q].comb).flatMap encZ)) [(0,blkK K')] 1:=fun he K'=>relatedQ_m S p PT n PT[q].comb hp hT hn (kin_self hT he).1 K';have hml:(PT[q].l.map (simpQ S p n)).length≤1000000:=by rw [List.length_map];exact hl1
 have hrl:(relatedM p n PT[q].comb).length≤1000000:=related_len hp hn;have hrn:∀ x∈relatedM p n PT[q].comb,∃ k:Nat,x=(k:Int)∧k<p.length:=fun x hx=>Q4i hn hx;simp only [Tryz.f195,List.replicate,List.length_cons,List.length_nil,Nat.reduceAdd,Nat.reduceSub,List.cons_append,List.nil_append,wldM] at HL HRel ⊢;rw [hfind];have hX:partQ S p PT[q] n=andQ (PT[q].l.map (simpQ S p n)):=rfl;rw [hX];clear hX hfind hN2 hl2;generalize relatedM p n PT[q].comb=R at *;generalize hSL:PT[q].l.map (simpQ S p n)=SL at *;generalize PT[q].comb=comb at *;generalize PT[q].l=l at *;have HA:=andQ_p SL hml;generalize andQ SL=X at *
 (repeat ((try with_reducible refine W.step (b:=false) ?_);simp (decide:=true) only [go_sem,↓reduceIte,Nat.reduceAdd,Nat.reduceSub,hq,rp]))
 refine AtCall.mk HE ?_
 cases he:elemB p n with
 | false =>
   rw [if_neg (by decide)]
   (repeat ((try with_reducible refine W.step (b:=false) ?_);simp (decide:=true) only [go_sem,↓reduceIte,Nat.reduceAdd,Nat.reduceSub]))
   exact ⟨.inr rfl,[aN,aN,aN,aN,aN,aN,(.g (.int .i64 0)),aN,aN,aN,aN,aN,aN,aN,aN,aN,aN,aN,aN,aN,aN,aN,aN,aN,aN,aN,aN,aN,aN,aN,aN,aN,aN,aN,aN,aN,aN,aN,aN,aN,aN,aN,aN,aN,aN,aN,aN,aN,aN,aN,aN,aN,aN,aN,aN,aN,aN,aN],Q2g (Nat.le_refl _) rfl (by simp [Q0e,Q0f,ltA]),rfl⟩
 | true =>
   have HL':=HL he;have HR':=HRel he;rw [if_pos rfl]
   (repeat ((try with_reducible refine W.step (b:=false) ?_);simp (decide:=true) only [go_sem,↓reduceIte,Nat.reduceAdd,Nat.reduceSub,hq,rp]))
   refine AtCall.mem (m':=[(0,blkK K),(2,.cells [.g (.int .i64 comb),.sl l.length 6 (l.flatMap encS)]),(1,.cells [.sl S.cls.length 1 (S.cls.flatMap encN),.sl S.atts.length 1 (S.atts.flatMap encN),.sl p.length 5 (p.flatMap encNd),.sl PT.length 2 (PT.flatMap encP),.mp 0])]) (CallM.sub (m0:=[(0,blkK K)]) HL' ⟨by decide,by simp [getL,Q0n,nmL,nmA,Q0x],by simp [nmL,nmA],by simp [Q0n,nmL,nmA,Q0x],by simp [nmA],by simp⟩) ?_
   (repeat ((try with_reducible refine W.step (b:=false) ?_);simp (decide:=true) only [go_sem,↓reduceIte,Nat.reduceAdd,Nat.reduceSub]))
   refine AtCall.mk HA ?_
   cases q with
   | zero =>
     rw [if_pos (.inl rfl)]
     (repeat ((try with_reducible refine W.step (b:=false) ?_);simp (decide:=true) only [go_sem,↓reduceIte,Nat.reduceAdd,Nat.reduceSub]))
     exact ⟨.inr rfl,[aN,aN,aN,aN,aN,aN,(.g (.int .i64 X)),aN,aN,aN,aN,aN,aN,aN,aN,aN,aN,aN,aN,aN,aN,aN,aN,aN,aN,aN,aN,aN,aN,aN,aN,aN,aN,aN,aN,aN,aN,aN,aN,aN,aN,aN,aN,aN,aN,aN,aN,aN,aN,aN,aN,aN,aN,aN,aN,aN,aN,aN],Q2g (Nat.le_refl _) rfl (by simp [Q0e,Q0f,ltA]),rfl⟩
   | succ q =>
     have f0:(((q+1:Nat):Int)=0)=False:=eq_false (by omega)
     by_cases hX:X=0
     ·have fX:=eq_true hX
      rw [if_pos (.inr hX)]
      (repeat ((try with_reducible refine W.step (b:=false) ?_);simp (decide:=true) only [go_sem,↓reduceIte,Nat.reduceAdd,Nat.reduceSub,f0,fX]))
      exact ⟨.inr rfl,[aN,aN,aN,aN,aN,aN,(.g (.int .i64 X)),aN,aN,aN,aN,aN,aN,aN,aN,aN,aN,aN,aN,aN,aN,aN,aN,aN,aN,aN,aN,aN,aN,aN,aN,aN,aN,aN,aN,aN,aN,aN,aN,aN,aN,aN,aN,aN,aN,aN,aN,aN,aN,aN,aN,aN,aN,aN,aN,aN,aN,aN],Q2g (Nat.le_refl _) rfl (by simp [Q0e,Q0f,ltA]),rfl⟩
     ·rw [if_neg (fun h=>h.elim (by omega) hX)]
      obtain ⟨HQ,rfl⟩:=hF q rfl;have fw:IntKind.i64.wrap (((q+1:Nat):Int) - 1)=(q:Int):=by rw [IntWalk.i64_in _ (by omega)];omega
      (repeat ((try with_reducible refine W.step (b:=false) ?_);simp (decide:=true) only [go_sem,↓reduceIte,Nat.reduceAdd,Nat.reduceSub,f0,hX]))
      refine AtCall.mem (m':=[(0,blkK K),(2,.cells [.g (.int .i64 comb),.sl l.length 6 (l.flatMap encS)]),(1,.cells [.sl S.cls.length 1 (S.cls.flatMap encN),.sl S.atts.length 1 (S.atts.flatMap encN),.sl p.length 5 (p.flatMap encNd),.sl PT.length 2 (PT.flatMap encP),.mp 0])]) (CallM.sub (m0:=[(0,blkK K)]) (HR' K) ⟨by decide,by simp [getL,Q0n,nmL,nmA,Q0x],by simp [nmL,nmA],by simp [Q0n,nmL,nmA,Q0x],by simp [nmA],by simp⟩) ?_
      (repeat ((try with_reducible refine W.step (b:=false) ?_);simp (decide:=true) only [go_sem,↓reduceIte,Nat.reduceAdd,Nat.reduceSub]))
      refine W.loop (s1:=stL [aN,(.g (.int .i64 (n:Int))),(.g (.int .i64 ((q+1:Nat):Int))),(.ptr 1 0),aN,aN,aN,aN,(.g (.int .i64 X)),(.g (.int .i64 0)),aN,aN,aN,aN,aN,aN,aN,aN,aN,aN,aN,aN,aN,aN,aN,aN,aN,aN,aN,aN,aN,aN,aN,aN,aN,aN,aN,aN,aN,(.sl R.length 1 (R.flatMap encZ)),(.g (.int .i64 (R.length:Int))),(.g (.int .i64 ((0:Nat):Int))),aN,aN,aN,aN,aN,aN,aN,aN,aN,aN,aN,aN,aN,aN,aN,aN] [(0,blkK K),(1,.cells [.sl S.cls.length 1 (S.cls.flatMap encN),.sl S.atts.length 1 (S.atts.flatMap encN),.sl p.length 5 (p.flatMap encNd),.sl PT.length 2 (PT.flatMap encP),.mp 0])] 2)
       (fun (r:Nat×Int×K2) t=>r.1≤R.length∧OkQ S p PT (q+1) r.2.2∧foldQ (fitsKQ S p PT q) K 0 R=foldQ (fitsKQ S p PT q) r.2.2 r.2.1 (R.drop r.1)∧t=stL [aN,(.g (.int .i64 (n:Int))),(.g (.int .i64 ((q+1:Nat):Int))),(.ptr 1 0),aN,aN,aN,aN,(.g (.int .i64 X)),(.g (.int .i64 r.2.1)),aN,aN,aN,aN,aN,aN,aN,aN,aN,aN,aN,aN,aN,aN,aN,aN,aN,aN,aN,aN,aN,aN,aN,aN,aN,aN,aN,aN,aN,(.sl R.length 1 (R.flatMap encZ)),(.g (.int .i64 (R.length:Int))),(.g (.int .i64 (r.1:Int))),aN,aN,aN,aN,aN,aN,aN,aN,aN,aN,aN,aN,aN,aN,aN,aN] [(0,blkK r.2.2),(1,.cells [.sl S.cls.length 1 (S.cls.flatMap encN),.sl S.atts.length 1 (S.atts.flatMap encN),.sl p.length 5 (p.flatMap encNd),.sl PT.length 2 (PT.flatMap encP),.mp 0])] 2) (fun r=>R.length - r.1) (0,0,K) ⟨Nat.zero_le _,hK,rfl,rfl⟩ ?_ ?_
      ·refine VSkeep (show 1≤2 by decide) (fun r hr=>?_) (by simp [Q0e,Q0f,ltA])
       simp only [List.mem_cons,List.not_mem_nil,or_false] at hr;rcases hr with rfl | rfl
       ·exact ⟨(show 0<2 by decide),ltB_K _ _,rfl⟩
       ·exact ⟨(show 1<2 by decide),by simp [ltB,ltL,ltA],rfl⟩
      rintro ⟨i,a,K1⟩ t ⟨hi,hK1,hfo,rfl⟩;simp only at hi hK1 hfo
      by_cases hlt:i<R.length
      ·obtain ⟨k,hk,hkl⟩:=hrn _ (List.getElem_mem hlt)
       have r:=rowZ hlt;have HC:=HQ K1 k hkl hK1;obtain ⟨g1,g2,-⟩:=Q4b (S:=S) (p:=p) (PT:=PT) q (by omega) k hkl K1 hK1;have hd:R.drop i=(k:Int)::R.drop (i+1):=by rw [List.drop_eq_getElem_cons hlt,hk]
       rw [hd,foldQ,g1] at hfo;rw [hk] at r;generalize (fitsKQ S p PT q K1 k).2=K2' at HC g2 hfo;generalize rightQ S p PT q k=v at HC hfo;simp only [wldM] at HC
       (repeat ((try with_reducible refine W.step (b:=false) ?_);simp (decide:=true) only [go_sem,↓reduceIte,Nat.reduceAdd,Nat.reduceSub,hlt,r,fw]))
       refine AtCall.mem (m':=[(0,blkK K2'),(1,.cells [.sl S.cls.length 1 (S.cls.flatMap encN),.sl S.atts.length 1 (S.atts.flatMap encN),.sl p.length 5 (p.flatMap encNd),.sl PT.length 2 (PT.flatMap encP),.mp 0])]) (CallM.sub (m0:=[(0,blkK K1)]) HC ⟨by decide,by simp [getL,Q0n,nmL,nmA,Q0x],by simp [nmL,nmA],by simp [Q0n,nmL,nmA,Q0x],by simp [nmA],by simp⟩) ?_
       (repeat ((try with_reducible refine W.step (b:=false) ?_);simp (decide:=true) only [go_sem,↓reduceIte,Nat.reduceAdd,Nat.reduceSub]))
       refine AtCall.mem (PureN.read (orQ_p [a,v] (by simp)) (CloseTo.gs (b:=2) (o:=0) (k:=2) (sz:=1) (cs:=[.g (.int .i64 a),.g (.int .i64 v)]) rfl (by simp) (by simp [plainC]) CloseTo.nil)) ?_
       (repeat ((try with_reducible refine W.step (b:=false) ?_);simp (decide:=true) only [go_sem,↓reduceIte,Nat.reduceAdd,Nat.reduceSub]))
       refine ⟨(i+1,orQ [a,v],K2'),_,⟨by omega,g2,hfo,rfl⟩,by show R.length - (i+1)<R.length - i;omega,?_⟩;rw [up1 (by omega)];refine VSkeep (show 1≤2 by decide) (fun r hr=>?_) (by simp [Q0e,Q0f,ltA]);simp only [List.mem_cons,List.not_mem_nil,or_false] at hr;rcases hr with rfl | rfl
       ·exact ⟨(show 0<2 by decide),ltB_K _ _,rfl⟩
       ·exact ⟨(show 1<2 by decide),by simp [ltB,ltL,ltA],rfl⟩
      ·rw [List.drop_of_length_le (by omega),foldQ] at hfo
       rw [hfo]
       (repeat ((try with_reducible refine W.step (b:=false) ?_);simp (decide:=true) only [go_sem,↓reduceIte,Nat.reduceAdd,Nat.reduceSub,hlt]))
       refine AtCall.mem (PureN.read (andQ_p [X,a] (by simp)) (CloseTo.gs (b:=2) (o:=0) (k:=2) (sz:=1) (cs:=[.g (.int .i64 X),.g (.int .i64 a)]) rfl (by simp) (by simp [plainC]) CloseTo.nil)) ?_
       (repeat ((try with_reducible refine W.step (b:=false) ?_);simp (decide:=true) only [go_sem,↓reduceIte,Nat.reduceAdd,Nat.reduceSub]))
       exact ⟨.inr rfl,[aN,aN,aN,aN,aN,aN,(.g (.int .i64 (andQ [X,a]))),aN,aN,aN,aN,aN,aN,aN,aN,aN,aN,aN,aN,aN,aN,aN,aN,aN,aN,aN,aN,aN,aN,aN,aN,aN,aN,aN,aN,aN,aN,aN,aN,aN,aN,aN,aN,aN,aN,aN,aN,aN,aN,aN,aN,aN,aN,aN,aN,aN,aN,aN],Q2g (Nat.le_refl _) rfl (by simp [Q0e,Q0f,ltA]),rfl⟩
attribute [go_sem] appL newsA isSlice
theorem find_turnQ {S:Saf} {p:List Nod} {PT:List Part}:∀ (q:Nat),q<PT.length→∀ (n:Nat),n<p.length→∀ (fits:K2→Int→Int×K2),(∀ q',q=q'+1→fits=fitsKQ S p PT q')→∀ K,OkQ S p PT q K→(findQ S p PT fits q K n).1=rightQ S p PT q n
 | 0,hq,n,hn,fits,_,K,hK=>by
   unfold findQ;rw [List.getElem?_eq_getElem hq,rightQ_zero hq];simp only [true_or,if_true]
   split <;> rfl
 | q + 1,hq,n,hn,fits,hf,K,hK=>by
   obtain rfl:=hf q rfl;unfold findQ;rw [List.getElem?_eq_getElem hq,rightQ_step hq];simp only
   split
   ·by_cases h:partQ S p PT[q+1] n=0
    ·rw [if_pos h,if_pos (Or.inr h:q+1=0∨_),h]
    ·rw [if_neg h,if_neg (fun h2:q+1=0∨_=>h2.elim (by omega) h),Int.toNat_natCast]
     obtain ⟨g1,-,-⟩:=fold_turnQ (f:=fitsKQ S p PT q) (r:=fun k=>rightQ S p PT q k.toNat) (relatedM p n PT[q+1].comb) K 0 (fun K x hx hK=>by
      obtain ⟨k,rfl,hk⟩:=Q4i hn hx
      exact Q4b q (by omega) k hk K hK) hK
     rw [g1]
   ·rfl
theorem fitsQ_m (S:Saf) (p:List Nod) (PT:List Part) (hp:OkPg p) (hT:TreeP p) (hS:OkSf S) (hPT:okPT PT) (hN:∀ pt∈PT,∀ x∈pt.l,okN x):∀ q,q<PT.length→FitsQM S p PT q
 | 0,hq,K,n,hn,hK=>fitsQ_of S p PT 0 n _ (findQ_m S p PT 0 hp hT hS hPT hN hq n hn (fun K _=>(0,K)) (fun q' h=>by omega)) (find_turnQ 0 hq n hn _ (fun q' h=>by omega)) K hK
 | q + 1,hq,K,n,hn,hK=>fitsQ_of S p PT (q+1) n _ (findQ_m S p PT (q+1) hp hT hS hPT hN hq n hn (fitsKQ S p PT q) (fun q' h=>by
     obtain rfl:q=q':=by omega
     exact ⟨fitsQ_m S p PT hp hT hS hPT hN q (by omega),rfl⟩)) (find_turnQ (q+1) hq n hn _ (by intro q' h;obtain rfl:q=q':=(by omega);rfl)) K hK
theorem bl_msafe (parts:List (Nat×AV)):evBuild Tryz.prog 195 parts=aggM (fillL [(0,2)] [.g (.slice none 0 0),.g (.slice none 0 0)] parts):=Q1u (by kernel_rfl) parts
theorem bl_mworld (parts:List (Nat×AV)):evBuild Tryz.prog 198 parts=aggM (fillL [(0,2),(2,1),(3,1),(4,1)] [.g (.slice none 0 0),.g (.slice none 0 0),.g (.slice none 0 0),.g (.slice none 0 0),.g (.map none)] parts):=Q1u (by kernel_rfl) parts
theorem ze_mworld:zeroO Tryz.prog 198=some [.g (.slice none 0 0),.g (.slice none 0 0),.g (.slice none 0 0),.g (.slice none 0 0),.g (.map none)]:=by kernel_rfl
attribute [go_sem] bl_msafe bl_mworld ze_mworld
def swp (a b c:Nat):Nat:=if c=0 then a else if c=1 then b else c
set_option maxRecDepth 100000 in
set_option maxHeartbeats 4000000 in
theorem newWorld_m (S:Saf) (p:List Nod) (PT:List Part) (hp:OkPg p):CallM Tryz.prog gt0 [] [] 0 117 [.agg (safA S),.sl p.length 5 (p.flatMap encNd),.sl PT.length 2 (PT.flatMap encP)] (.agg [.sl S.cls.length 1 (S.cls.flatMap encN),.sl S.atts.length 1 (S.atts.flatMap encN),.sl (pageM p).length 5 ((pageM p).flatMap encNd),.sl PT.length 2 (PT.flatMap encP),.mp 1]) [(0,.cells [.sl S.cls.length 1 (S.cls.flatMap encN),.sl S.atts.length 1 (S.atts.flatMap encN),.sl (pageM p).length 5 ((pageM p).flatMap encNd),.sl PT.length 2 (PT.flatMap encP),.mp 1]),(1,blkK [])] 2:=by
 refine Q0l (c:=_) Tryz.func117 rfl (by kernel_rfl) ?_;simp only [Tryz.f117,List.replicate,List.length_cons,List.length_nil,Nat.reduceAdd,Nat.reduceSub,List.cons_append,List.nil_append,safA];have HRs:resV Tryz.prog [aN,aN,aN,aN,aN,aN,(.ptr 0 0),aN,aN,aN,aN,aN,aN,aN,aN,aN] [(0,.cells [.sl S.cls.length 1 (S.cls.flatMap encN),.sl S.atts.length 1 (S.atts.flatMap encN),.sl (pageM p).length 5 ((pageM p).flatMap encNd),.sl PT.length 2 (PT.flatMap encP),.mp 1]),(1,blkK [])] (.cell 6 198)=some (.agg [.sl S.cls.length 1 (S.cls.flatMap encN),.sl S.atts.length 1 (S.atts.flatMap encN),.sl (pageM p).length 5 ((pageM p).flatMap encNd),.sl PT.length 2 (PT.flatMap encP),.mp 1]):=by
  unfold resV;simp only [go_sem,↓reduceIte,Nat.reduceAdd,Nat.reduceSub,Nat.reduceMul,Nat.reduceEqDiff,Nat.reduceLeDiff,Nat.reduceLT,Int.reduceLE,Int.reduceLT,Int.reduceToNat,Int.reduceEq]
 have ren:∀ (m:ML) (k:Nat) (l:List AV) (nn:Nat),getL m 1=some (.cells [.sl S.cls.length 1 (S.cls.flatMap encN),.sl S.atts.length 1 (S.atts.flatMap encN),.sl (pageM p).length 5 ((pageM p).flatMap encNd),.sl PT.length 2 (PT.flatMap encP),.mp k])→getL m k=some (.map [] 0)→2≤k→reT (swp 1 k) 2 [aN,aN,aN,aN,aN,aN,(.ptr 0 0),aN,aN,aN,aN,aN,aN,aN,aN,aN] l →
  VS gt0 ⟨[],memL [],0⟩ (stL l m nn) (stL [aN,aN,aN,aN,aN,aN,(.ptr 0 0),aN,aN,aN,aN,aN,aN,aN,aN,aN] [(0,.cells [.sl S.cls.length 1 (S.cls.flatMap encN),.sl S.atts.length 1 (S.atts.flatMap encN),.sl (pageM p).length 5 ((pageM p).flatMap encNd),.sl PT.length 2 (PT.flatMap encP),.mp 1]),(1,blkK [])] 2):=fun m k l nn g1 gk hk hl=>by
  refine VS.renF (swp 1 k) (fun c hc=>absurd hc (Nat.not_lt_zero _)) (fun _ _=>Nat.zero_le _) (Nat.zero_le _) (fun c c' x x' h h' e=>?_) (fun c x h=>?_) hl
  ·have m1:=Q0y h
   have m2:=Q0y h';simp only [List.mem_cons,List.not_mem_nil,or_false,Prod.mk.injEq] at m1 m2;unfold swp at e;rcases m1 with ⟨rfl,-⟩ | ⟨rfl,-⟩ <;> rcases m2 with ⟨rfl,-⟩ | ⟨rfl,-⟩ <;> simp at e ⊢ <;> omega
  ·have m1:=Q0y h
   simp only [List.mem_cons,List.not_mem_nil,or_false,Prod.mk.injEq] at m1;rcases m1 with ⟨rfl,rfl⟩ | ⟨rfl,rfl⟩
   ·refine ⟨by decide,by simp [ltB,ltL,ltA],?_⟩
    simp only [swp,if_true,reFB,reFL,reF,if_neg (show ¬(1=0) by decide)];exact g1
   ·refine ⟨by decide,ltB_K _ _,?_⟩
    rw [reB_K];simp only [swp,if_true,if_neg (show ¬(1=0) by decide)];exact gk
 (repeat ((try with_reducible refine W.step (b:=false) ?_);simp (decide:=true) only [go_sem,↓reduceIte,Nat.reduceAdd,Nat.reduceSub]))
 refine AtCall.mk (tree_p p hp) ?_
 cases ht:treeB p with
 | true =>
   have hpg:pageM p=p:=if_pos ht;rw [hpg] at ren HRs ⊢
   (repeat ((try with_reducible refine W.step (b:=false) ?_);simp (decide:=true) only [go_sem,↓reduceIte,Nat.reduceAdd,Nat.reduceSub]))
   exact ⟨.inr rfl,_,ren _ 2 _ _ rfl rfl (by decide) (by simp [Q1i,Q2i,reF,ltA,swp]),by simp only [resA,resL,resV_ok HRs]⟩
 | false =>
   have hpg:pageM p=[]:=if_neg (by rw [ht];decide);rw [hpg] at ren HRs ⊢;simp only [List.length_nil] at HRs
   (repeat ((try with_reducible refine W.step (b:=false) ?_);simp (decide:=true) only [go_sem,↓reduceIte,Nat.reduceAdd,Nat.reduceSub]))
   exact ⟨.inr rfl,_,VS.trans (VS.weak (l':=[aN,aN,aN,aN,aN,aN,(.ptr 1 0),aN,aN,aN,aN,aN,aN,aN,aN,aN]) (m':=[(2,.map [] 0),(1,.cells [.sl S.cls.length 1 (S.cls.flatMap encN),.sl S.atts.length 1 (S.atts.flatMap encN),.sl 0 5 [],.sl PT.length 2 (PT.flatMap encP),.mp 2])]) (by (repeat (first | refine ⟨_,_,rfl,wkA.any _,?_⟩ | refine ⟨_,_,rfl,wkA.refl _,?_⟩));rfl) ⟨.inl rfl,.inr ⟨_,_,rfl,rfl,by (repeat (first | refine ⟨_,_,rfl,wkA.refl _,?_⟩ | refine ⟨_,_,rfl,wkA.nil 5,?_⟩));rfl⟩,trivial⟩) (ren _ 2 _ _ rfl rfl (by decide) (by simp [Q1i,Q2i,reF,ltA,swp])),by simp only [resA,resL,resV_ok HRs]⟩
section
variable {rd:List Mem}
theorem newWorld_at (S:Saf) (p:List Nod) (PT:List Part) (hp:OkPg p) (m:ML) (n:Nat):CallM Tryz.prog gt0 rd m n 117 [.agg (safA S),.sl p.length 5 (p.flatMap encNd),.sl PT.length 2 (PT.flatMap encP)] (.agg [.sl S.cls.length 1 (S.cls.flatMap encN),.sl S.atts.length 1 (S.atts.flatMap encN),.sl (pageM p).length 5 ((pageM p).flatMap encNd),.sl PT.length 2 (PT.flatMap encP),.mp (n+1)]) ((n,.cells [.sl S.cls.length 1 (S.cls.flatMap encN),.sl S.atts.length 1 (S.atts.flatMap encN),.sl (pageM p).length 5 ((pageM p).flatMap encNd),.sl PT.length 2 (PT.flatMap encP),.mp (n+1)])::(n+1,blkK [])::m) (n+2):=by
 have:=CallM.at (rd:=rd) (m:=m) (n:=n) (q:=[]) (newWorld_m S p PT hp) rfl (Q3d 0 _ rfl) trivial trivial ⟨.inl (Nat.zero_le _),.inl (Nat.zero_le _),trivial⟩;have e0:fnm [] 0 n 0=n:=by simp [fnm]
 have e1:fnm [] 0 n 1=n+1:=by simp [fnm]
 simp only [safA,afterL,e0,e1,reFL,reF,reFB,reB_K,List.map_cons,List.map_nil,List.any_nil,Bool.not_false,List.cons_append,List.nil_append,Nat.sub_zero] at this;rw [List.filter_eq_self.2 (fun _ _=>rfl)] at this;exact this
end
def hA3 (c:Nat):Nat:=if c=0 then 3 else if c=1 then 4 else if c=2 then 1 else c
theorem ren3 {S:Saf} {P:List Nod} {PT:List Part} {s:ByteArray} {l l':List AV} {m:ML} {n:Nat} (h0:getL m 3=some (blkK [])) (h1:getL m 4=some (.cells [.sl S.cls.length 1 (S.cls.flatMap encN),.sl S.atts.length 1 (S.atts.flatMap encN),.sl P.length 5 (P.flatMap encNd),.sl PT.length 2 (PT.flatMap encP),.mp 3])) (h2:getL m 1=some (.cells [.sl PT.length 2 (PT.flatMap encP),.g (.string s)])) (hl:reT hA3 3 l' l) :
 VS gt0 .none (stL l m n) (stL l' [(0,blkK ([]:K2)),(1,.cells [.sl S.cls.length 1 (S.cls.flatMap encN),.sl S.atts.length 1 (S.atts.flatMap encN),.sl P.length 5 (P.flatMap encNd),.sl PT.length 2 (PT.flatMap encP),.mp 0]),(2,.cells [.sl PT.length 2 (PT.flatMap encP),.g (.string s)])] 3):=by
 refine VS.renF hA3 (fun c hc=>absurd hc (Nat.not_lt_zero _)) (fun _ _=>Nat.zero_le _) (Nat.zero_le _) (fun c c' x x' h h' e=>?_) (fun c x h=>?_) hl
 ·have m1:=Q0y h
  have m2:=Q0y h';simp only [List.mem_cons,List.not_mem_nil,or_false,Prod.mk.injEq] at m1 m2;rcases m1 with ⟨rfl,-⟩ | ⟨rfl,-⟩ | ⟨rfl,-⟩ <;> rcases m2 with ⟨rfl,-⟩ | ⟨rfl,-⟩ | ⟨rfl,-⟩ <;> first | rfl | (exact absurd e (by decide))
 ·have m1:=Q0y h
  simp only [List.mem_cons,List.not_mem_nil,or_false,Prod.mk.injEq] at m1;have e0:hA3 0=3:=rfl;have e1:hA3 1=4:=rfl;have e2:hA3 2=1:=rfl;rcases m1 with ⟨rfl,rfl⟩ | ⟨rfl,rfl⟩ | ⟨rfl,rfl⟩
  ·exact ⟨by decide,ltB_K _ _,by rw [reB_K,e0];exact h0⟩
  ·exact ⟨by decide,by simp [ltB,ltL,ltA],by simp only [reFB,reFL,reF,e0,e1];exact h1⟩
  ·exact ⟨by decide,by simp [ltB,ltL,ltA],by simp only [reFB,reFL,reF,e2];exact h2⟩
def accQ (S:Saf) (P:List Nod) (PT:List Part) (k:Nat):Int×K2:=if PT.length=0 then (0,[]) else scanQ S P PT (PT.length - 1) k
theorem acc_any {S:Saf} {p:List Nod} {PT:List Part} {s:ByteArray}:(accQ S (pageM p) PT (pageM p).length).1=anyQ S p ⟨PT,s⟩:=by
 unfold accQ anyQ
 by_cases h0:PT.length=0
 ·rw [if_pos h0,if_neg (fun h=>h.2 (List.eq_nil_of_length_eq_zero h0))]
 ·rw [if_neg h0]
  by_cases ht:treeB p=true
  ·have hpg:pageM p=p:=if_pos ht
   rw [hpg,if_pos ⟨ht,fun e=>h0 (by rw [show PT=[] from e];rfl)⟩];obtain ⟨-,h2⟩:=scan_turn (S:=S) (p:=p) (PT:=PT) (q:=PT.length - 1) (by omega) p.length (Nat.le_refl _);rw [h2];have:∀ n,rightQ S p PT (PT.length - 1) n=fitsQ S p PT.reverse n:=fun n=>by unfold rightQ;rw [List.take_of_length_le (by omega)]
   simp only [this]
  ·have hpg:pageM p=[]:=if_neg ht
   rw [hpg,if_neg (fun h=>ht h.1)]
   rfl
set_option maxRecDepth 100000 in
set_option maxHeartbeats 4000000 in
theorem anyQ_p (S:Saf) (p:List Nod) (PT:List Part) (s:ByteArray) (hp:OkPg p) (hS:OkSf S) (hPT:okPT PT) (hN:∀ pt∈PT,∀ x∈pt.l,okN x):PureN Tryz.prog gt0 68 [.agg (safA S),.sl p.length 5 (p.flatMap encNd),.agg [.sl PT.length 2 (PT.flatMap encP),.g (.string s)]] (.g (.int .i64 (anyQ S p ⟨PT,s⟩))):=by
 have HW:=fun m n=>newWorld_at (rd:=[]) S p PT hp m n;refine PureN.of_w (c:=_) Tryz.func68 rfl (by kernel_rfl) rfl ?_;simp only [Tryz.f68,List.replicate,List.length_cons,List.length_nil,Nat.reduceAdd,Nat.reduceSub,List.cons_append,List.nil_append,safA] at HW ⊢;obtain ⟨hP,hT⟩:=page_ok hp;rw [←acc_any];generalize pageM p=P at *;have hlen:=hPT.1;have hPl:=hP.len
 (repeat ((try with_reducible refine W.step (b:=false) ?_);simp (decide:=true) only [go_sem,↓reduceIte,Nat.reduceAdd,Nat.reduceSub]))
 refine AtCall.mem (HW _ _) ?_
 (repeat ((try with_reducible refine W.step (b:=false) ?_);simp (decide:=true) only [go_sem,↓reduceIte,Nat.reduceAdd,Nat.reduceSub]))
 refine W.loop (s1:=stL [aN,aN,aN,aN,aN,(.ptr 2 0),aN,(.ptr 1 0),(.g (.int .i64 0)),aN,aN,aN,aN,aN,aN,aN,aN,(.g (.int .i64 ((P).length:Int))),(.g (.int .i64 ((0:Nat):Int))),aN,aN,aN,aN,aN,aN,aN,aN,aN,aN,aN,aN,aN,aN,aN,aN,aN,aN] [(0,blkK ([]:K2)),(1,.cells [.sl S.cls.length 1 (S.cls.flatMap encN),.sl S.atts.length 1 (S.atts.flatMap encN),.sl P.length 5 (P.flatMap encNd),.sl PT.length 2 (PT.flatMap encP),.mp 0]),(2,.cells [.sl PT.length 2 (PT.flatMap encP),.g (.string s)])] 3)
  (fun (k:Nat) t=>k≤P.length∧t=stL [aN,aN,aN,aN,aN,(.ptr 2 0),aN,(.ptr 1 0),(.g (.int .i64 (accQ S P PT k).1)),aN,aN,aN,aN,aN,aN,aN,aN,(.g (.int .i64 ((P).length:Int))),(.g (.int .i64 (k:Int))),aN,aN,aN,aN,aN,aN,aN,aN,aN,aN,aN,aN,aN,aN,aN,aN,aN,aN] [(0,blkK (accQ S P PT k).2),(1,.cells [.sl S.cls.length 1 (S.cls.flatMap encN),.sl S.atts.length 1 (S.atts.flatMap encN),.sl P.length 5 (P.flatMap encNd),.sl PT.length 2 (PT.flatMap encP),.mp 0]),(2,.cells [.sl PT.length 2 (PT.flatMap encP),.g (.string s)])] 3) (fun k=>P.length - k) 0 ⟨Nat.zero_le _,?_⟩ ?_ ?_
 ·unfold accQ
  split <;> rfl
 ·exact ren3 rfl rfl rfl (by simp [Q1i,Q2i,reF,ltA,hA3])
 rintro k t ⟨hk,rfl⟩
 by_cases hlt:k<P.length
 ·by_cases h0:PT.length=0
  ·have e1:∀ k,accQ S P PT k=(0,[]):=fun k=>if_pos h0
   have f0:((0:Int)<(PT.length:Int))=False:=eq_false (by omega);have f0':(0<PT.length)=False:=eq_false (by omega);simp only [e1]
   (repeat ((try with_reducible refine W.step (b:=false) ?_);simp (decide:=true) only [go_sem,↓reduceIte,Nat.reduceAdd,Nat.reduceSub,hlt,f0,f0']))
   refine ⟨k+1,_,⟨by omega,rfl⟩,by show P.length - (k+1)<P.length - k;omega,VS.tm ?_⟩;rw [up1 (by omega)];simp [leL]
  ·obtain ⟨q,hq⟩:∃ q,PT.length=q+1:=⟨PT.length - 1,by omega⟩
   have e1:∀ k,accQ S P PT k=scanQ S P PT q k:=fun k=>by unfold accQ;rw [if_neg h0,hq];rfl
   obtain ⟨g1,g2⟩:=scan_turn (S:=S) (p:=P) (PT:=PT) (q:=q) (by omega) k (by omega);obtain ⟨t1,-,-⟩:=Q4b (S:=S) (p:=P) (PT:=PT) q (by omega) k hlt _ g1;have HC:=fitsQ_m S P PT hP hT hS hPT hN q (by omega) _ k hlt g1;have es:scanQ S P PT q (k+1)=(orQ [(scanQ S P PT q k).1,rightQ S P PT q k],(fitsKQ S P PT q (scanQ S P PT q k).2 k).2):=by rw [scanQ,t1]
   simp only [e1];generalize scanQ S P PT q k=sc at *;obtain ⟨a,K⟩:=sc;simp only at HC es g1 ⊢;generalize (fitsKQ S P PT q K k).2=K2' at HC es;generalize rightQ S P PT q k=v at HC es;simp only [wldM] at HC;have f0:(0<PT.length)=True:=eq_true (by omega);have f0':((0:Int)<(PT.length:Int))=True:=eq_true (by omega);have fw:IntKind.i64.wrap ((PT.length:Int) - 1)=(q:Int):=by rw [IntWalk.i64_in _ (by omega)];omega
   (repeat ((try with_reducible refine W.step (b:=false) ?_);simp (decide:=true) only [go_sem,↓reduceIte,Nat.reduceAdd,Nat.reduceSub,hlt,f0,f0',fw]))
   refine AtCall.mem (m':=[(0,blkK K2'),(1,.cells [.sl S.cls.length 1 (S.cls.flatMap encN),.sl S.atts.length 1 (S.atts.flatMap encN),.sl P.length 5 (P.flatMap encNd),.sl PT.length 2 (PT.flatMap encP),.mp 0]),(2,.cells [.sl PT.length 2 (PT.flatMap encP),.g (.string s)])]) (CallM.sub (m0:=[(0,blkK K)]) HC ⟨by decide,by simp [getL,Q0n,nmL,nmA,Q0x],by simp [nmL,nmA],by simp [Q0n,nmL,nmA,Q0x],by simp [nmA],by simp⟩) ?_
   (repeat ((try with_reducible refine W.step (b:=false) ?_);simp (decide:=true) only [go_sem,↓reduceIte,Nat.reduceAdd,Nat.reduceSub]))
   refine AtCall.mem (PureN.read (orQ_p [a,v] (by simp)) (CloseTo.gs (b:=3) (o:=0) (k:=2) (sz:=1) (cs:=[.g (.int .i64 a),.g (.int .i64 v)]) rfl (by simp) (by simp [plainC]) CloseTo.nil)) ?_
   (repeat ((try with_reducible refine W.step (b:=false) ?_);simp (decide:=true) only [go_sem,↓reduceIte,Nat.reduceAdd,Nat.reduceSub]))
   refine ⟨k+1,_,⟨by omega,rfl⟩,by show P.length - (k+1)<P.length - k;omega,?_⟩;simp only [e1,es];rw [up1 (by omega)];refine VSkeep (Nat.zero_le _) (fun r hr=>?_) (by simp [Q0e,Q0f,ltA]);simp only [List.mem_cons,List.not_mem_nil,or_false] at hr;rcases hr with rfl | rfl | rfl
   ·exact ⟨(show 0<3 by decide),ltB_K _ _,rfl⟩
   ·exact ⟨(show 1<3 by decide),by simp [ltB,ltL,ltA],rfl⟩
   ·exact ⟨(show 2<3 by decide),by simp [ltB,ltL,ltA],rfl⟩
 ·obtain rfl:k=P.length:=by omega
  (repeat ((try with_reducible refine W.step (b:=false) ?_);simp (decide:=true) only [go_sem,↓reduceIte,Nat.reduceAdd,Nat.reduceSub,hlt]))
  exact Q0a _ (.inr rfl) rfl (.plain rfl)
attribute [go_sem] appL newsA isSlice
def encPg (p:List Nod):List AV:=[.sl p.length 5 (p.flatMap encNd)]
theorem rowPg {l:List (List Nod)} {k:Nat} (hk:k<l.length):(l.flatMap encPg)[k]?=some (.sl l[k].length 5 (l[k].flatMap encNd)):=by
 have h:=flat_get encPg 1 (fun _=>rfl) l k hk 0 (by decide);rw [Nat.mul_one,Nat.add_zero] at h;exact h
theorem closeZ {rd:List Mem} {m:ML} {b c:Nat} {l:List Int} (hg:getL m b=some (.cells (l.flatMap encZ))):CloseTo rd m [.gs b 0 l.length 1 c] [.sl l.length 1 (l.flatMap encZ)]:=by
 have hlz:=lenZ l
 have:=CloseTo.gs (rd:=rd) (m:=m) (b:=b) (o:=0) (k:=l.length) (sz:=1) (c:=c) (cs:=l.flatMap encZ) hg (by omega) (fun a ha=>by
  have h1:=List.mem_of_mem_drop (List.mem_of_mem_take ha);rw [List.mem_flatMap] at h1;obtain ⟨x,-,h1⟩:=h1;obtain rfl:=List.mem_singleton.1 h1
  rfl) CloseTo.nil
 rw [List.drop_zero,Nat.mul_one,takeZ] at this;exact this
theorem el_pages:elemO Tryz.prog 51=some 1:=by kernel_rfl
theorem ag_pages:aggO Tryz.prog 51=some (false,1):=by kernel_rfl
attribute [go_sem] el_pages ag_pages
def shakeQ (S:Saf) (PG:List (List Nod)) (c:Cx):Int:=orQ (PG.map fun p=>anyQ S p c)
set_option maxRecDepth 100000 in
set_option maxHeartbeats 4000000 in
theorem shakeAny_p (S:Saf) (PG:List (List Nod)) (c:Cx) (hl:PG.length≤1000000) (hp:∀ p∈PG,OkPg p) (hS:OkSf S) (hPT:okPT c.parts) (hN:∀ pt∈c.parts,∀ x∈pt.l,okN x) :
 PureN Tryz.prog gt0 30 [.agg (safA S),.agg (encC c),.sl PG.length 1 (PG.flatMap encPg)] (.g (.int .i64 (shakeQ S PG c))):=by
 obtain ⟨PT,s⟩:=c;simp only at hPT hN;have HC:=fun p hp=>anyQ_p S p PT s hp hS hPT hN;refine PureN.of_w (c:=_) Tryz.func30 rfl (by kernel_rfl) rfl ?_;simp only [Tryz.f30,List.replicate,List.length_cons,List.length_nil,Nat.reduceAdd,Nat.reduceSub,List.cons_append,List.nil_append,encC,safA] at HC ⊢;unfold shakeQ
 (repeat ((try with_reducible refine W.step (b:=false) ?_);simp (decide:=true) only [go_sem,↓reduceIte,Nat.reduceAdd,Nat.reduceSub]))
 refine W.loop (s1:=stL [aN,aN,(.sl PG.length 1 (PG.flatMap encPg)),(.ptr 0 0),(.ptr 1 0),aN,aN,(ownA 2 1 0 ((PG.take 0).map fun p=>anyQ S p ⟨PT,s⟩)),aN,aN,(.sl PG.length 1 (PG.flatMap encPg)),(.g (.int .i64 (PG.length:Int))),(.g (.int .i64 (((0:Nat):Int):Int))),aN,aN,aN,aN,aN,aN,aN,aN,aN,aN,aN,aN,aN] ([(0,.cells [.sl S.cls.length 1 (S.cls.flatMap encN),.sl S.atts.length 1 (S.atts.flatMap encN)]),(1,.cells [.sl PT.length 2 (PT.flatMap encP),.g (.string s)])]++rowsM encZ 2 (fun _=>((PG.take 0).map fun p=>anyQ S p ⟨PT,s⟩)) 1) 3)
  (fun (k:Nat) t=>k≤PG.length∧t=stL [aN,aN,(.sl PG.length 1 (PG.flatMap encPg)),(.ptr 0 0),(.ptr 1 0),aN,aN,(ownA 2 1 0 ((PG.take k).map fun p=>anyQ S p ⟨PT,s⟩)),aN,aN,(.sl PG.length 1 (PG.flatMap encPg)),(.g (.int .i64 (PG.length:Int))),(.g (.int .i64 (k:Int))),aN,aN,aN,aN,aN,aN,aN,aN,aN,aN,aN,aN,aN] ([(0,.cells [.sl S.cls.length 1 (S.cls.flatMap encN),.sl S.atts.length 1 (S.atts.flatMap encN)]),(1,.cells [.sl PT.length 2 (PT.flatMap encP),.g (.string s)])]++rowsM encZ 2 (fun _=>((PG.take k).map fun p=>anyQ S p ⟨PT,s⟩)) 1) 3) (fun k=>PG.length - k) 0 ⟨Nat.zero_le _,rfl⟩ ?_ ?_
 ·refine VSkeep (Nat.zero_le _) (fun q hq=>?_) (by simp [Q0e,Q0f,ltA,ownA])
  simp only [List.cons_append,List.nil_append,List.take_zero,List.map_nil,Q1z,List.mem_cons,List.not_mem_nil,or_false] at hq;rcases hq with rfl | rfl
  ·exact ⟨(show 0<3 by decide),by simp [ltB,ltL,ltA],rfl⟩
  ·exact ⟨(show 1<3 by decide),by simp [ltB,ltL,ltA],rfl⟩
 rintro k t ⟨hk,rfl⟩;have hacl:((PG.take k).map fun p=>anyQ S p ⟨PT,s⟩).length≤1000000:=by rw [List.length_map,List.length_take];omega
 by_cases hlt:k<PG.length
 ·have r:=rowPg hlt
  have hs:(PG.take (k+1)).map (fun p=>anyQ S p ⟨PT,s⟩)=(PG.take k).map (fun p=>anyQ S p ⟨PT,s⟩)++[anyQ S PG[k] ⟨PT,s⟩]:=by rw [List.take_succ_eq_append_getElem hlt,List.map_append];rfl
  have HA:=HC PG[k] (hp _ (List.getElem_mem hlt));generalize anyQ S PG[k] ⟨PT,s⟩=v at hs HA;generalize (PG.take k).map (fun p=>anyQ S p ⟨PT,s⟩)=acc at hs hacl ⊢;generalize PG[k]=p at r HA;have hne:acc++[v]≠[]:=by simp
  have h2:=Q1y (enc:=encZ) (b0:=2) hne
  have hfin:∀ (m2:ML) (n2:Nat) (nb:Nat) (ll:List AV),2≤nb→getL m2 0=some (.cells [.sl S.cls.length 1 (S.cls.flatMap encN),.sl S.atts.length 1 (S.atts.flatMap encN)])→getL m2 1=some (.cells [.sl PT.length 2 (PT.flatMap encP),.g (.string s)])→getL m2 nb=some (.cells ((acc++[v]).flatMap encZ))→reT (mv 2 nb) 3 [aN,aN,(.sl PG.length 1 (PG.flatMap encPg)),(.ptr 0 0),(.ptr 1 0),aN,aN,(ownA 2 1 0 (acc++[v])),aN,aN,(.sl PG.length 1 (PG.flatMap encPg)),(.g (.int .i64 (PG.length:Int))),(.g (.int .i64 (((k+1:Nat):Int):Int))),aN,aN,aN,aN,aN,aN,aN,aN,aN,aN,aN,aN,aN] ll →
   VS gt0 .none (stL ll m2 n2) (stL [aN,aN,(.sl PG.length 1 (PG.flatMap encPg)),(.ptr 0 0),(.ptr 1 0),aN,aN,(ownA 2 1 0 (acc++[v])),aN,aN,(.sl PG.length 1 (PG.flatMap encPg)),(.g (.int .i64 (PG.length:Int))),(.g (.int .i64 (((k+1:Nat):Int):Int))),aN,aN,aN,aN,aN,aN,aN,aN,aN,aN,aN,aN,aN] ([(0,.cells [.sl S.cls.length 1 (S.cls.flatMap encN),.sl S.atts.length 1 (S.atts.flatMap encN)]),(1,.cells [.sl PT.length 2 (PT.flatMap encP),.g (.string s)])]++rowsM encZ 2 (fun _=>(acc++[v])) 1) 3):=fun m2 n2 nb ll hnb g0 g1 g5 hl=>by
   refine VSmove 2 nb (Nat.zero_le _) (by decide) hnb (fun q hq=>?_) hl;rw [h2] at hq;have e0:mv 2 nb 0=0:=rfl;have e1:mv 2 nb 1=1:=rfl;have e2:mv 2 nb 2=nb:=rfl;simp only [List.cons_append,List.nil_append,List.mem_cons,List.not_mem_nil,or_false] at hq;rcases hq with rfl | rfl | rfl
   ·exact ⟨(show 0≤2 by decide),by simp [ltB,ltL,ltA],by simp only [reFB,reFL,reF,e0];exact g0⟩
   ·exact ⟨(show 1≤2 by decide),by simp [ltB,ltL,ltA],by simp only [reFB,reFL,reF,e1];exact g1⟩
   ·exact ⟨(show 2≤2 by decide),ltL_Z _ _,by rw [reFB,reFL_Z,e2];exact g5⟩
  by_cases hnil:acc=[]
  ·subst hnil
   (repeat ((try with_reducible refine W.step (b:=false) ?_);simp (decide:=true) only [go_sem,↓reduceIte,Nat.reduceAdd,Nat.reduceSub,own_nil,Q1z,hlt,r]))
   refine AtCall.mk HA ?_
   (repeat ((try with_reducible refine W.step (b:=false) ?_);simp (decide:=true) only [go_sem,↓reduceIte,Nat.reduceAdd,Nat.reduceSub]))
   refine ⟨k+1,_,⟨by omega,rfl⟩,by show PG.length - (k+1)<PG.length - k;omega,?_⟩;rw [up1 (by omega),hs];refine hfin _ _ 4 _ (by decide) rfl rfl (by simp [getL,encZ]) ?_;simp [Q1i,Q2i,reF,ltA,mv,ownA]
  ·have hacc:=Q1y (enc:=encZ) (b0:=2) hnil
   have ho:=Q1e (b0:=2) (sz:=1) (j:=0) hnil;have f1:(acc.length+1≤acc.length)=False:=eq_false (by omega);have hlz:=lenZ acc;have f2:(acc.length+1)*9≤17179869184:=by omega
   (repeat ((try with_reducible refine W.step (b:=false) ?_);simp (decide:=true) only [go_sem,↓reduceIte,Nat.reduceAdd,Nat.reduceSub,hacc,ho,hlt,r,f1,f2]))
   refine AtCall.mk HA ?_
   (repeat ((try with_reducible refine W.step (b:=false) ?_);simp (decide:=true) only [go_sem,↓reduceIte,Nat.reduceAdd,Nat.reduceSub,f1,f2]))
   refine ⟨k+1,_,⟨by omega,rfl⟩,by show PG.length - (k+1)<PG.length - k;omega,?_⟩;rw [up1 (by omega),hs];refine hfin _ _ 4 _ (by decide) rfl rfl (by rw [List.flatMap_append];simp [getL,encZ]) ?_;rw [Q1e hne];simp [Q1i,Q2i,reF,ltA,mv]
 ·obtain rfl:k=PG.length:=by omega
  rw [List.take_length] at hacl ⊢;generalize hac:(PG.map fun p=>anyQ S p ⟨PT,s⟩)=acc at hacl ⊢
  by_cases hnil:acc=[]
  ·subst hnil
   (repeat ((try with_reducible refine W.step (b:=false) ?_);simp (decide:=true) only [go_sem,↓reduceIte,Nat.reduceAdd,Nat.reduceSub,own_nil,Q1z,hlt]))
   refine AtCall.mem (CallM.weakQ (PureN.callM (orQ_p [] (by decide))) ⟨_,_,rfl,wkA.nil 1,rfl⟩) ?_
   (repeat ((try with_reducible refine W.step (b:=false) ?_);simp (decide:=true) only [go_sem,↓reduceIte,Nat.reduceAdd,Nat.reduceSub]))
   exact Q0a _ (.inr rfl) rfl (.plain rfl)
  ·have hacc:=Q1y (enc:=encZ) (b0:=2) hnil
   have ho:=Q1e (b0:=2) (sz:=1) (j:=0) hnil;have hlz:=lenZ acc
   (repeat ((try with_reducible refine W.step (b:=false) ?_);simp (decide:=true) only [go_sem,↓reduceIte,Nat.reduceAdd,Nat.reduceSub,hacc,ho,hlt]))
   refine AtCall.mem (PureN.read (orQ_p acc hacl) (closeZ rfl)) ?_
   (repeat ((try with_reducible refine W.step (b:=false) ?_);simp (decide:=true) only [go_sem,↓reduceIte,Nat.reduceAdd,Nat.reduceSub]))
   exact Q0a _ (.inr rfl) rfl (.plain rfl)
attribute [go_sem] appL newsA isSlice
theorem lenC (l:List Cx):(l.flatMap encC).length=l.length*2:=Q1f (sz:=2) (fun _=>rfl) l
theorem takeC (l:List Cx):(l.flatMap encC).take (l.length*2)=l.flatMap encC:=List.take_of_length_le (by rw [lenC];exact Nat.le_refl _)
theorem cellC (l:List Cx):(l.flatMap encC).all isCell=true:=by
 rw [List.all_eq_true];intro a ha;obtain ⟨x,-,hx⟩:=List.mem_flatMap.1 ha;simp [encC] at hx;rcases hx with rfl | rfl <;> rfl
attribute [go_sem] lenC takeC cellC
theorem rowCx2 {l:List Cx} {k:Nat} (hk:k<l.length):((l.flatMap encC).drop (k*2)).take 2=[.sl l[k].parts.length 2 (l[k].parts.flatMap encP),.g (.string l[k].pseudo)]∧k*2+2≤(l.flatMap encC).length :=
 ⟨Q2h encC 2 (fun _=>rfl) l k hk 0 2 (by decide),Q3u encC 2 (fun _=>rfl) l k hk (j:=0) (by decide)⟩
theorem rowCx3 {l:List Cx} {k:Nat} (hk:k<l.length):((l.flatMap encC).drop (k*2)).take 2=encC l[k]∧k*2+2≤l.length*2:=⟨(rowCx2 hk).1,by omega⟩
theorem ez_cxs:elemZ Tryz.prog 42=[.slice none 0 0,.string ⟨#[]⟩]:=by kernel_rfl
theorem ei_cxs2:elemI Tryz.prog 42=some (2,40,true):=by kernel_rfl
theorem un_cxs2:slOrStr (Tryz.prog.underlying 42)=true:=by kernel_rfl
attribute [go_sem] ez_cxs ei_cxs2 un_cxs2
def sliceC (sv:AV) (m:ML) (l:List Cx):Prop:=(sv=.sl l.length 2 (l.flatMap encC)∧True)∨∃ b K,sv=.gs b 0 l.length 2 K∧getL m b=some (.cells (l.flatMap encC))
set_option maxRecDepth 100000 in
set_option maxHeartbeats 4000000 in
theorem idxFC_m (l:List Cx) (hl:l.length≤1000000) (pr:Cx→Bool) (g:Nat) (bv:AV) (m:ML) (n:Nat) (sv:AV) (hs:sliceC sv m l)
 (hc:∀ x∈l,PureN Tryz.prog gt0 g [bv,.agg (encC x)] (.g (.bool (pr x)))) :
 CallM Tryz.prog gt0 [] m n 229 [sv,.fn (.func g) [bv] []] (.g (.int .i64 (idxL pr l))) m n:=by
 refine Q0l (c:=_) Tryz.func229 rfl (by kernel_rfl) ?_;simp only [Tryz.f229,List.replicate,List.length_cons,List.length_nil,Nat.reduceAdd,Nat.reduceSub,List.cons_append,List.nil_append];rcases hs with ⟨hsv,hb⟩ | ⟨b,K,hsv,hb⟩
 all_goals
  (repeat ((try with_reducible refine W.step (b:=false) ?_);simp (decide:=true) only [go_sem,↓reduceIte,Nat.reduceAdd,Nat.reduceSub,hsv]))
  refine W.loop (s1:=stL [sv,(.fn (.func g) [bv] []),aN,aN,aN,aN,aN,(.g (.int .i64 (l.length:Int))),(.g (.int .i64 ((0:Nat):Int))),aN,aN,aN,aN,aN,aN,aN,aN,aN,aN] m n)
   (fun (k:Nat) t=>k≤l.length∧(∀ x∈l.take k,pr x=false)∧t=stL [sv,(.fn (.func g) [bv] []),aN,aN,aN,aN,aN,(.g (.int .i64 (l.length:Int))),(.g (.int .i64 (k:Int))),aN,aN,aN,aN,aN,aN,aN,aN,aN,aN] m n) (fun k=>l.length - k) 0 ⟨Nat.zero_le _,by simp,rfl⟩ (VS.tm (by simp [leL,hsv])) ?_
  rintro k t ⟨hk,he,rfl⟩
  by_cases hlt:k<l.length
  ·obtain ⟨r,r3⟩:=rowCx3 hlt
   (repeat ((try with_reducible refine W.step (b:=false) ?_);simp (decide:=true) only [go_sem,↓reduceIte,Nat.reduceAdd,Nat.reduceSub,hsv,hlt,r,r3,hb]))
   refine AtCall.mk (hc _ (List.getElem_mem hlt)) ?_
   cases hx:pr l[k] with
   | true =>
     (repeat ((try with_reducible refine W.step (b:=false) ?_);simp (decide:=true) only [go_sem,↓reduceIte,Nat.reduceAdd,Nat.reduceSub]))
     rw [Q3q hlt he hx];exact ⟨.inr rfl,[aN,aN,aN,aN,(.g (.int .i64 (k:Int))),aN,aN,aN,aN,aN,aN,aN,aN,aN,aN,aN,aN,aN,aN],VS.tm (by simp [leL]),rfl⟩
   | false =>
     (repeat ((try with_reducible refine W.step (b:=false) ?_);simp (decide:=true) only [go_sem,↓reduceIte,Nat.reduceAdd,Nat.reduceSub]))
     refine ⟨k+1,_,⟨by omega,Q1c hlt he hx,rfl⟩,by show l.length - (k+1)<l.length - k;omega,VS.tm ?_⟩;rw [up1 (by omega)];simp [leL,hsv]
  ·(repeat ((try with_reducible refine W.step (b:=false) ?_);simp (decide:=true) only [go_sem,↓reduceIte,Nat.reduceAdd,Nat.reduceSub,hsv,hlt]))
   rw [Q3f (fun x hx=>he x (by rw [List.take_of_length_le (by omega)];exact hx))];exact ⟨.inr rfl,[aN,aN,aN,aN,(.g (.int .i64 (-1))),aN,aN,aN,aN,aN,aN,aN,aN,aN,aN,aN,aN,aN,aN],VS.tm (by simp [leL]),rfl⟩
set_option maxRecDepth 100000 in
set_option maxHeartbeats 4000000 in
theorem cloneC_m (l:List Cx) (hl:l.length≤1000000) (hne:l≠[]):CallM Tryz.prog gt0 [] [] 0 146 [.sl l.length 2 (l.flatMap encC)] (.gs 0 0 l.length 2 l.length) [(0,.cells (l.flatMap encC))] 1:=by
 refine Q0l (c:=_) Tryz.func146 rfl (by kernel_rfl) ?_;simp only [Tryz.f146,List.replicate,List.length_cons,List.length_nil,Nat.reduceAdd,Nat.reduceSub,List.cons_append,List.nil_append]
 (repeat ((try with_reducible refine W.step (b:=false) ?_);simp (decide:=true) only [go_sem,↓reduceIte,Nat.reduceAdd,Nat.reduceSub]))
 intro b hb;rw [hb (List.length_pos_iff.2 hne)];have f1:(l.length=0)=False:=eq_false (fun e=>hne (List.eq_nil_of_length_eq_zero e));have f2:(l.length≤0)=False:=eq_false (fun e=>hne (List.eq_nil_of_length_eq_zero (by omega)));have f3:l.length*41≤17179869184:=by omega
 (repeat ((try with_reducible refine W.step (b:=false) ?_);simp (decide:=true) only [go_sem,↓reduceIte,Nat.reduceAdd,Nat.reduceSub,f1,f2,f3]))
 refine ⟨.inr rfl,[aN,aN,(.gs 0 0 l.length 2 l.length),aN,aN,aN,aN,aN],VS.ren [(0,1)] (by simp) (by simp) (by decide) ?_ ?_,rfl⟩
 ·simp only [go_sem,↓reduceIte,Nat.reduceAdd,Nat.reduceSub,Nat.reduceMul,Nat.reduceEqDiff,Nat.reduceLeDiff,Nat.reduceLT,Int.reduceLE,Int.reduceLT,Int.reduceToNat,Int.reduceEq]
 ·exact ⟨⟨1,_,rfl,rfl,_,rfl,.inl ⟨rfl,Q0m (fun _=>rfl) _⟩⟩,trivial⟩
theorem cloneC_nil:PureN Tryz.prog gt0 146 [.sl 0 2 []] (.sl 0 2 []):=by
 refine PureN.of_w2 (c:=_) Tryz.func146 rfl (by kernel_rfl) rfl ?_;simp only [Tryz.f146,List.replicate,List.length_cons,List.length_nil,Nat.reduceAdd,Nat.reduceSub,List.cons_append,List.nil_append]
 (repeat ((try with_reducible refine W.step (b:=false) ?_);simp (decide:=true) only [go_sem,↓reduceIte,Nat.reduceAdd,Nat.reduceSub]))
 intro b _
 cases b
 ·(repeat ((try with_reducible refine W.step (b:=false) ?_);simp (decide:=true) only [go_sem,↓reduceIte,Nat.reduceAdd,Nat.reduceSub]))
  exact postV.of (Q0a _ (.inr rfl) rfl (SealTo.gs (b:=0) (o:=0) (k:=0) (sz:=2) (cs:=[]) rfl (Nat.le_refl _) (by simp)))
 ·(repeat ((try with_reducible refine W.step (b:=false) ?_);simp (decide:=true) only [go_sem,↓reduceIte,Nat.reduceAdd,Nat.reduceSub]))
  exact ⟨.inr rfl,_,VS.weak (l':=[aN,aN,(.sl 0 2 []),aN,aN,aN,aN,aN]) (m':=[]) ⟨_,_,rfl,wkA.any _,_,_,rfl,wkA.any _,_,_,rfl,wkA.nil 2,_,_,rfl,wkA.any _,_,_,rfl,wkA.any _,_,_,rfl,wkA.any _,_,_,rfl,wkA.any _,_,_,rfl,wkA.any _,rfl⟩ trivial,Q0a _ (.inr rfl) rfl (.plain rfl)⟩
theorem upC (arr:List Cx) (i:Nat) (x:Cx) (h:i<arr.length):(arr.flatMap encC).take (i*2)++(encC x++(arr.flatMap encC).drop (i*2+2))=(arr.set i x).flatMap encC:=by
 induction arr generalizing i with
 | nil=>exact absurd h (Nat.not_lt_zero _)
 | cons y arr ih =>
   cases i with
   | zero=>simp [encC]
   | succ i =>
     have:=ih i (by simpa using h);rw [List.set_cons_succ,List.flatMap_cons,List.flatMap_cons,←this,show (i+1)*2=i*2+2 by omega];simp [encC]
theorem takeRow (l:List Cx) (k:Nat) (h:k≤l.length):(l.flatMap encC).take (k*2)=(l.take k).flatMap encC:=by
 conv=>lhs;rw [←List.take_append_drop k l,List.flatMap_append]
 rw [List.take_append_of_le_length (by rw [lenC,List.length_take,Nat.min_eq_left h];exact Nat.le_refl _)];exact List.take_of_length_le (by rw [lenC,List.length_take,Nat.min_eq_left h];exact Nat.le_refl _)
theorem filt_not_hitC {pr:Cx→Bool}:∀ {l:List Cx} {k:Nat},(∀ x∈l.take k,pr x=false)→(l.take k).filter (fun x=>!pr x)=l.take k:=fun h=>List.filter_eq_self.2 fun x hx=>by rw [h x hx];rfl
def zC (k:Nat):List AV:=zerosA [.slice none 0 0,.string ⟨#[]⟩] k
theorem zC_len:∀ k,(zC k).length=k*2
 | 0=>rfl
 | k+1=>by show (_::_::zC k).length=_;rw [List.length_cons,List.length_cons,zC_len k];omega
theorem zC_cell:∀ k,(zC k).all isCell=true
 | 0=>rfl
 | k+1=>by show (_::_::zC k).all isCell=true;rw [List.all_cons,List.all_cons,zC_cell k];rfl
theorem zC_plain:∀ k,∀ a∈zC k,plainA a=true
 | 0,a,h=>by simp [zC,zerosA] at h
 | k+1,a,h=>by
   rcases List.mem_cons.1 (show a∈_::_::zC k from h) with rfl | h
   ·rfl
   rcases List.mem_cons.1 h with rfl | h
   ·rfl
   exact zC_plain k a h
def delC (pr:Cx→Bool) (l:List Cx):List AV:=(l.filter fun x=>!pr x).flatMap encC++zC (l.length - (l.filter fun x=>!pr x).length)
set_option maxRecDepth 100000 in
set_option maxHeartbeats 4000000 in
theorem delFC_m (l:List Cx) (hl:l.length≤1000000) (pr:Cx→Bool) (g:Nat) (bv:AV) (hbv:ltA 4 bv) (K:Nat)
 (hc:∀ x∈l,PureN Tryz.prog gt0 g [bv,.agg (encC x)] (.g (.bool (pr x)))) :
 CallM Tryz.prog gt0 [] [(3,.cells (l.flatMap encC))] 4 145 [.gs 3 0 l.length 2 K,.fn (.func g) [bv] []] (.gs 3 0 (l.filter fun x=>!pr x).length 2 K) [(3,.cells (delC pr l))] 4:=by
 refine Q0l (c:=_) Tryz.func145 rfl (by kernel_rfl) ?_;simp only [Tryz.f145,List.length_cons,List.length_nil,Nat.reduceAdd,Nat.reduceSub,List.replicate,List.cons_append,List.nil_append];have HI:=idxFC_m l hl pr g bv [(3,.cells (l.flatMap encC))] 4 (.gs 3 0 l.length 2 K) (.inr ⟨3,K,rfl,rfl⟩) hc
 (repeat ((try with_reducible refine W.step (b:=false) ?_);simp (decide:=true) only [go_sem,↓reduceIte,Nat.reduceAdd,Nat.reduceSub]))
 refine AtCall.mem HI ?_;clear HI;rcases find_idx pr l with ⟨h1,h2⟩ | ⟨i0,hi0,h1,h2⟩
 ·rw [h1]
  (repeat ((try with_reducible refine W.step (b:=false) ?_);simp (decide:=true) only [go_sem,↓reduceIte,Nat.reduceAdd,Nat.reduceSub]))
  have hall:(l.filter fun x=>!pr x)=l:=by
   rw [List.find?_eq_none] at h2;exact List.filter_eq_self.2 fun x hx=>by have:=h2 x hx;simp at this;rw [this];rfl
  have hz:delC pr l=l.flatMap encC:=by unfold delC;rw [hall,Nat.sub_self];simp [zC,zerosA]
  rw [hall,hz];exact ⟨.inr rfl,[aN,aN,aN,aN,(.gs 3 0 l.length 2 K),aN,aN,aN,aN,aN,aN,aN,aN,aN,aN,aN,aN,aN,aN,aN,aN,aN,aN,aN,aN,aN,aN,aN,aN,aN,aN,aN,aN,aN,aN,aN,aN,aN,aN,aN,aN,aN],VS.tm (by simp [leL]),rfl⟩
 ·rw [h1]
  have fi:((i0:Int)=-1)=False:=eq_false (by omega);obtain ⟨hp0,hp1⟩:=idx_first hi0 h1;have hk0:(l.take (i0+1)).filter (fun x=>!pr x)=l.take i0:=by
   rw [List.take_succ_eq_append_getElem hi0,List.filter_append,filt_not_hitC hp1,List.filter_cons,hp0];simp
  (repeat ((try with_reducible refine W.step (b:=false) ?_);simp (decide:=true) only [go_sem,↓reduceIte,Nat.reduceAdd,Nat.reduceSub,fi]))
  refine W.loop (s1:=stL [(.gs 3 0 l.length 2 K),(.fn (.func g) [bv] []),aN,aN,aN,(.g (.int .i64 (((l.take (i0+1)).filter (fun x=>!pr x)).length:Int))),(.g (.int .i64 ((i0+1:Nat):Int))),aN,aN,aN,aN,aN,aN,aN,aN,aN,aN,aN,aN,aN,aN,aN,aN,aN,aN,aN,aN,aN,aN,aN,aN,aN,aN,aN,aN,aN,aN,aN,aN,aN,aN,aN] [(3,.cells (l.flatMap encC))] 4)
   (fun (q:Nat×List Cx) t=>((l.take q.1).filter (fun x=>!pr x)).length<q.1∧q.1≤l.length∧q.2.length=l.length∧q.2.take ((l.take q.1).filter (fun x=>!pr x)).length=(l.take q.1).filter (fun x=>!pr x)∧q.2.drop q.1=l.drop q.1 ∧
     t=stL [(.gs 3 0 l.length 2 K),(.fn (.func g) [bv] []),aN,aN,aN,(.g (.int .i64 (((l.take q.1).filter (fun x=>!pr x)).length:Int))),(.g (.int .i64 (q.1:Int))),aN,aN,aN,aN,aN,aN,aN,aN,aN,aN,aN,aN,aN,aN,aN,aN,aN,aN,aN,aN,aN,aN,aN,aN,aN,aN,aN,aN,aN,aN,aN,aN,aN,aN,aN] [(3,.cells (q.2.flatMap encC))] 4)
   (fun q=>l.length - q.1) (i0+1,l) ⟨by rw [hk0];simp;omega,by omega,rfl,by rw [hk0,List.length_take,Nat.min_eq_left (by omega)],rfl,rfl⟩ ?_ ?_
  ·rw [hk0,up1 (by omega)]
   have:(l.take i0).length=i0:=by simp;omega
   rw [this];exact VS.tm (by simp [leL])
  rintro ⟨j,arr⟩ t ⟨q1,q2,q3,q4,q5,rfl⟩;simp only at q1 q2 q3 q4 q5;have hkeep:∀ (j:Nat) (h:j<l.length),(l.take (j+1)).filter (fun x=>!pr x)=(l.take j).filter (fun x=>!pr x)++if pr l[j] then [] else [l[j]]:=fun j h=>by
   rw [List.take_succ_eq_append_getElem h,List.filter_append]
   congr 1
   cases hx:pr l[j] <;> simp [hx]
  by_cases hlt:j<l.length
  ·obtain ⟨hj,hj2⟩:((arr.flatMap encC).drop (j*2)).take 2=[.sl l[j].parts.length 2 (l[j].parts.flatMap encP),.g (.string l[j].pseudo)]∧j*2+2≤arr.length*2:=by
    have h2:j<arr.length:=by omega
    have e:arr[j]=l[j]:=by
     have:=congrArg (fun x:List Cx=>x[0]?) q5;simp only [List.getElem?_drop,Nat.add_zero,List.getElem?_eq_getElem hlt,List.getElem?_eq_getElem h2] at this;exact Option.some.inj this
    rw [←e];exact rowCx3 h2
   rw [q3] at hj2
   (repeat ((try with_reducible refine W.step (b:=false) ?_);simp (decide:=true) only [go_sem,↓reduceIte,Nat.reduceAdd,Nat.reduceSub,hlt,hj,hj2,q3]))
   refine AtCall.mk (hc _ (List.getElem_mem hlt)) ?_;have hk2:=hkeep j hlt
   cases hx:pr l[j] with
   | true =>
     rw [hx] at hk2;simp only [if_true,List.append_nil] at hk2
     (repeat ((try with_reducible refine W.step (b:=false) ?_);simp (decide:=true) only [go_sem,↓reduceIte,Nat.reduceAdd,Nat.reduceSub]))
     refine ⟨(j+1,arr),_,⟨by simp only [hk2];omega,hlt,q3,by simp only [hk2];exact q4,?_,rfl⟩,by show l.length - (j+1)<l.length - j;omega,?_⟩
     ·have:=congrArg (List.drop 1) q5
      simpa [List.drop_drop] using this
     ·simp only [hk2]
      rw [up1 (by omega)];refine VSkeep (Nat.le_refl _) (fun r hr=>?_) (by simp [Q0e,Q0f,ltA,ltL,hbv]);rw [List.mem_singleton] at hr;subst hr;exact ⟨(show 3<4 by decide),Q3d _ _ (Q0m (fun _=>rfl) _),rfl⟩
   | false =>
     rw [hx] at hk2;simp only [Bool.false_eq_true,if_false] at hk2;generalize hi:((l.take j).filter (fun x=>!pr x)).length=i at *;have hil:i<l.length:=by omega
     have hfit:i+1≤l.length:=hil;have hput:(arr.flatMap encC).take (i*2)++(.sl l[j].parts.length 2 (l[j].parts.flatMap encP)::.g (.string l[j].pseudo)::(arr.flatMap encC).drop (i*2+2))=(arr.set i l[j]).flatMap encC:=upC arr i l[j] (by omega);have hfit2:i*2+2≤l.length*2:=by omega
     (repeat ((try with_reducible refine W.step (b:=false) ?_);simp (decide:=true) only [go_sem,↓reduceIte,Nat.reduceAdd,Nat.reduceSub,hil,q3,hfit,hfit2,hput]))
     refine ⟨(j+1,arr.set i l[j]),_,⟨?_,hlt,by simp [q3],?_,?_,rfl⟩,by show l.length - (j+1)<l.length - j;omega,?_⟩
     ·simp only [hk2,List.length_append,List.length_singleton,hi];omega
     ·simp only [hk2,List.length_append,List.length_singleton,hi]
      rw [List.take_succ_eq_append_getElem (by rw [List.length_set];omega),List.getElem_set_self,List.take_set_of_le (Nat.le_refl _),q4]
     ·have:=congrArg (List.drop 1) q5
      simp only;rw [List.drop_set_of_lt (by omega)];simpa [List.drop_drop] using this
     ·simp only [hk2,List.length_append,List.length_singleton,hi]
      rw [up1 (by omega),up1 (by omega)];refine VSkeep (Nat.le_refl _) (fun r hr=>?_) (by simp [Q0e,Q0f,ltA,ltL,hbv]);rw [List.mem_singleton] at hr;subst hr;exact ⟨(show 3<4 by decide),Q3d _ _ (Q0m (fun _=>rfl) _),rfl⟩
  ·obtain rfl:j=l.length:=by omega
   rw [List.take_length] at *;generalize hi:(l.filter (fun x=>!pr x)).length=i at *;have f1:i≤l.length:=by omega
   have f2:0<l.length - i:=by omega
   have f3:i+(l.length - i)≤l.length:=by omega
   have f4:=zC_cell (l.length - i);unfold zC at f4;have f5:i*2+(l.length - i)*2≤l.length*2:=by omega
   (repeat ((try with_reducible refine W.step (b:=false) ?_);simp (decide:=true) only [go_sem,↓reduceIte,Nat.reduceAdd,Nat.reduceSub,hlt,f1,f2,f3,q3,f4,f5]))
   have hi2:i≤arr.length:=by omega
   have hzl:=zC_len (l.length - i);unfold zC at hzl;have hcs:(arr.flatMap encC).take (i*2)++(zerosA [Value.slice none 0 0,Value.string ⟨#[]⟩] (l.length - i)++(arr.flatMap encC).drop (i*2+(zerosA [Value.slice none 0 0,Value.string ⟨#[]⟩] (l.length - i)).length))=delC pr l:=by
    rw [hzl,List.drop_of_length_le (by rw [lenC];omega),List.append_nil];unfold delC zC;rw [hi,←q4]
    congr 1
    exact takeRow arr i hi2
   rw [hcs];exact ⟨.inr rfl,[aN,aN,aN,aN,(.gs 3 0 i 2 K),aN,aN,aN,aN,aN,aN,aN,aN,aN,aN,aN,aN,aN,aN,aN,aN,aN,aN,aN,aN,aN,aN,aN,aN,aN,aN,aN,aN,aN,aN,aN,aN,aN,aN,aN,aN,aN],VS.tm (by simp [leL]),rfl⟩
set_option maxRecDepth 100000 in
set_option maxHeartbeats 4000000 in
theorem delFC_nil (g:Nat) (bv:AV) (m:ML) (n:Nat):CallM Tryz.prog gt0 [] m n 145 [.sl 0 2 [],.fn (.func g) [bv] []] (.sl 0 2 []) m n:=by
 have HI:=idxFC_m [] (by simp) (fun _=>true) g bv m n (.sl 0 2 []) (.inl ⟨rfl,trivial⟩) (fun x hx=>by simp at hx);refine Q0l (c:=_) Tryz.func145 rfl (by kernel_rfl) ?_;simp only [Tryz.f145,List.replicate,List.length_cons,List.length_nil,Nat.reduceAdd,Nat.reduceSub,List.cons_append,List.nil_append]
 (repeat ((try with_reducible refine W.step (b:=false) ?_);simp (decide:=true) only [go_sem,↓reduceIte,Nat.reduceAdd,Nat.reduceSub]))
 refine AtCall.mem HI ?_;have e:idxL (fun _:Cx=>true) []=-1:=rfl;rw [e]
 (repeat ((try with_reducible refine W.step (b:=false) ?_);simp (decide:=true) only [go_sem,↓reduceIte,Nat.reduceAdd,Nat.reduceSub]))
 exact ⟨.inr rfl,[aN,aN,aN,aN,(.sl 0 2 []),aN,aN,aN,aN,aN,aN,aN,aN,aN,aN,aN,aN,aN,aN,aN,aN,aN,aN,aN,aN,aN,aN,aN,aN,aN,aN,aN,aN,aN,aN,aN,aN,aN,aN,aN,aN,aN],VS.tm (by simp [leL]),rfl⟩
end Go.Proofs.YtabliahkhafddaaGreat
end
