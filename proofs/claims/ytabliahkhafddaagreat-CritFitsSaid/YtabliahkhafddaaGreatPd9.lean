/- R4.count, R4.Small: what they tell, and what it bounds: by walks over shapes. -/
import Derived.Test.YtabliahkhafddaaGreatPd8
import Derived.Test.YtabliahkhafddaaGreatPc7
set_option linter.unusedSimpArgs false
noncomputable section
namespace Go.Proofs.YtabliahkhafddaaGreat
open Go.RowKit Go.Ev
open Go.Ev.AV renaming any→aN
attribute [local go_sem] eq_self false_and and_false Bool.false_eq_true List.set_cons_succ List.set_cons_zero List.getD_cons_succ List.getD_cons_zero List.getElem?_cons_succ List.getElem?_cons_zero true_and and_true and_self Bool.not_true Bool.not_false Nat.add_zero Nat.zero_add Nat.mul_one Int.toNat_natCast Int.natCast_nonneg Int.ofNat_lt Option.bind_some Option.map_some List.map_cons List.map_nil decide_true decide_false BEq.rfl Bool.and_self Bool.and_true Bool.and_false beq_self_eq_true List.cons_append List.nil_append List.take_zero List.take_succ_cons List.take_nil List.drop_succ_cons List.drop_zero List.drop_nil List.append_nil List.length_cons List.length_nil List.all_cons List.all_nil Nat.le_refl Int.le_refl Option.map_none List.replicate_zero List.replicate_succ Nat.zero_mul Nat.sub_zero Nat.zero_le Nat.le_zero_eq Q2f Option.some_or Option.none_or Option.or_none Option.isSome_some Option.isSome_none Option.getD_some Option.getD_none Int.toNat_zero Int.natCast_zero Int.natCast_one Int.cast_ofNat_Int List.toList_toArray
attribute [go_sem] appL newsA isSlice
set_option maxRecDepth 100000 in
set_option maxHeartbeats 4000000 in
theorem orQ_p (l:List Int) (hl:l.length≤1000000):PureN Tryz.prog gt0 69 [.sl l.length 1 (l.flatMap encZ)] (.g (.int .i64 (orQ l))):=by
 refine PureN.of_w (c:=_) Tryz.func69 rfl (by kernel_rfl) rfl ?_;simp only [Tryz.f69,List.replicate,List.length_cons,List.length_nil,Nat.reduceAdd,Nat.reduceSub,List.cons_append,List.nil_append]
 (repeat ((try with_reducible refine W.step (b:=false) ?_);simp (decide:=true) only [go_sem,↓reduceIte,Nat.reduceAdd,Nat.reduceSub]))
 refine W.loop (s1:=stL [aN,aN,aN,(.g (.int .i64 (orQ (l.take 0)))),aN,aN,(.sl l.length 1 (l.flatMap encZ)),(.g (.int .i64 (l.length:Int))),(.g (.int .i64 ((0:Nat):Int))),aN,aN,aN,aN,aN,aN,aN,aN,aN] [] 0)
  (fun (k:Nat) t=>k≤l.length∧t=stL [aN,aN,aN,(.g (.int .i64 (orQ (l.take k)))),aN,aN,(.sl l.length 1 (l.flatMap encZ)),(.g (.int .i64 (l.length:Int))),(.g (.int .i64 (k:Int))),aN,aN,aN,aN,aN,aN,aN,aN,aN] [] 0) (fun k=>l.length - k) 0 ⟨Nat.zero_le _,rfl⟩ (VS.tm (by simp [leL,orQ])) ?_
 rintro k t ⟨hk,rfl⟩
 by_cases hlt:k<l.length
 ·have r:=rowZ hlt
  have hs:orQ (l.take (k+1))=max (orQ (l.take k)) (wiQ l[k]):=by
   unfold orQ;rw [List.take_succ_eq_append_getElem hlt,List.foldl_append];rfl
  have hm:(if orQ (l.take k)<wiQ l[k] then wiQ l[k] else orQ (l.take k))=orQ (l.take (k+1)):=by rw [hs];split <;> omega
  (repeat ((try with_reducible refine W.step (b:=false) ?_);simp (decide:=true) only [go_sem,↓reduceIte,Nat.reduceAdd,Nat.reduceSub,hlt,r]))
  refine AtCall.mk (within_p l[k]) ?_
  (repeat ((try with_reducible refine W.step (b:=false) ?_);simp (decide:=true) only [go_sem,↓reduceIte,Nat.reduceAdd,Nat.reduceSub,hm]))
  refine ⟨k+1,_,⟨by omega,rfl⟩,by show l.length - (k+1)<l.length - k;omega,VS.tm ?_⟩;rw [up1 (by omega)];simp [leL]
 ·obtain rfl:k=l.length:=by omega
  rw [List.take_length]
  (repeat ((try with_reducible refine W.step (b:=false) ?_);simp (decide:=true) only [go_sem,↓reduceIte,Nat.reduceAdd,Nat.reduceSub,hlt]))
  exact Q0a _ (.inr rfl) rfl (.plain rfl)
set_option maxRecDepth 100000 in
set_option maxHeartbeats 4000000 in
theorem andQ_p (l:List Int) (hl:l.length≤1000000):PureN Tryz.prog gt0 260 [.sl l.length 1 (l.flatMap encZ)] (.g (.int .i64 (andQ l))):=by
 refine PureN.of_w (c:=_) Tryz.func260 rfl (by kernel_rfl) rfl ?_;simp only [Tryz.f260,List.replicate,List.length_cons,List.length_nil,Nat.reduceAdd,Nat.reduceSub,List.cons_append,List.nil_append]
 (repeat ((try with_reducible refine W.step (b:=false) ?_);simp (decide:=true) only [go_sem,↓reduceIte,Nat.reduceAdd,Nat.reduceSub]))
 refine W.loop (s1:=stL [aN,aN,aN,(.g (.int .i64 (andQ (l.take 0)))),aN,aN,(.sl l.length 1 (l.flatMap encZ)),(.g (.int .i64 (l.length:Int))),(.g (.int .i64 ((0:Nat):Int))),aN,aN,aN,aN,aN,aN,aN,aN,aN] [] 0)
  (fun (k:Nat) t=>k≤l.length∧t=stL [aN,aN,aN,(.g (.int .i64 (andQ (l.take k)))),aN,aN,(.sl l.length 1 (l.flatMap encZ)),(.g (.int .i64 (l.length:Int))),(.g (.int .i64 (k:Int))),aN,aN,aN,aN,aN,aN,aN,aN,aN] [] 0) (fun k=>l.length - k) 0 ⟨Nat.zero_le _,rfl⟩ (VS.tm (by simp [leL,andQ])) ?_
 rintro k t ⟨hk,rfl⟩
 by_cases hlt:k<l.length
 ·have r:=rowZ hlt
  have hs:andQ (l.take (k+1))=min (andQ (l.take k)) (wiQ l[k]):=by
   unfold andQ;rw [List.take_succ_eq_append_getElem hlt,List.foldl_append];rfl
  have hm:(if wiQ l[k]<andQ (l.take k) then wiQ l[k] else andQ (l.take k))=andQ (l.take (k+1)):=by rw [hs];split <;> omega
  (repeat ((try with_reducible refine W.step (b:=false) ?_);simp (decide:=true) only [go_sem,↓reduceIte,Nat.reduceAdd,Nat.reduceSub,hlt,r]))
  refine AtCall.mk (within_p l[k]) ?_
  (repeat ((try with_reducible refine W.step (b:=false) ?_);simp (decide:=true) only [go_sem,↓reduceIte,Nat.reduceAdd,Nat.reduceSub,hm]))
  refine ⟨k+1,_,⟨by omega,rfl⟩,by show l.length - (k+1)<l.length - k;omega,VS.tm ?_⟩;rw [up1 (by omega)];simp [leL]
 ·obtain rfl:k=l.length:=by omega
  rw [List.take_length]
  (repeat ((try with_reducible refine W.step (b:=false) ?_);simp (decide:=true) only [go_sem,↓reduceIte,Nat.reduceAdd,Nat.reduceSub,hlt]))
  exact Q0a _ (.inr rfl) rfl (.plain rfl)
set_option maxRecDepth 100000 in
set_option maxHeartbeats 4000000 in
theorem notQ_p (a:Int):PureN Tryz.prog gt0 340 [.g (.int .i64 a)] (.g (.int .i64 (2 - wiQ a))):=by
 refine PureN.of_w (c:=_) Tryz.func340 rfl (by kernel_rfl) rfl ?_;simp only [Tryz.f340,List.replicate,List.length_cons,List.length_nil,Nat.reduceAdd,Nat.reduceSub,List.cons_append,List.nil_append];have hb:=wiQ_bd a;have hw:IntKind.i64.wrap (2 - wiQ a)=2 - wiQ a:=IntWalk.i64_in _ (by omega)
 (repeat ((try with_reducible refine W.step (b:=false) ?_);simp (decide:=true) only [go_sem,↓reduceIte,Nat.reduceAdd,Nat.reduceSub]))
 refine AtCall.mk (within_p a) ?_
 (repeat ((try with_reducible refine W.step (b:=false) ?_);simp (decide:=true) only [go_sem,↓reduceIte,Nat.reduceAdd,Nat.reduceSub,hw]))
 exact Q0a _ (.inr rfl) rfl (.plain rfl)
set_option maxRecDepth 100000 in
set_option maxHeartbeats 4000000 in
theorem ofQ_p (b:Bool):PureN Tryz.prog gt0 342 [.g (.bool b)] (.g (.int .i64 (twoQ b))):=by
 refine PureN.of_w (c:=_) Tryz.func342 rfl (by kernel_rfl) rfl ?_;simp only [Tryz.f342,List.replicate,List.length_cons,List.length_nil,Nat.reduceAdd,Nat.reduceSub,List.cons_append,List.nil_append]
 cases b with
 | true =>
   (repeat ((try with_reducible refine W.step (b:=false) ?_);simp (decide:=true) only [go_sem,↓reduceIte,Nat.reduceAdd,Nat.reduceSub]))
   exact Q0a _ (.inr rfl) rfl (.plain rfl)
 | false =>
   (repeat ((try with_reducible refine W.step (b:=false) ?_);simp (decide:=true) only [go_sem,↓reduceIte,Nat.reduceAdd,Nat.reduceSub]))
   exact Q0a _ (.inr rfl) rfl (.plain rfl)
section
variable {P:Program} {GT:GTab} {rd:List Mem} {m m' m2:ML} {n n2:Nat} {f:FuncId} {args args':List AV} {a:AV}
theorem VRs_of3 {w:World} {G:Gh}:∀ (xs:List AV) (vs:List Value),xs.length=vs.length→(∀ (i:Nat) (b:AV),xs[i]?=some b→∃ v,vs[i]?=some v∧VR w G b v)→VRs w G xs vs
 | [],[],_,_=>by rw [VRs]
 | [],_::_,h,_=>by simp at h
 | _::_,[],h,_=>by simp at h
 | x::xs,y::ys,h,hx=>by
   obtain ⟨v,h1,h2⟩:=hx 0 x rfl
   cases h1
   exact VRs.cons_mk h2 (VRs_of3 xs ys (by simpa using h) fun i b hb=>hx (i+1) b hb)
theorem CallM.sealedQ (h:CallM P GT rd m' n f args' a m2 n2) (hlen:args.length=args'.length) (hv:VS GT ⟨rd,memL m,n⟩ (stL args m n) (stL args' m' n)):CallM P GT rd m n f args a m2 n2:=by
 refine ⟨fun base w G rargs hm ha=>?_,h.2⟩;obtain ⟨G2,h1,h2,h3⟩:=hv base w G w G rargs hm (Stp.refl hm) fun t v ht=>by
  rw [Q0l] at ht;obtain ⟨u,g1,g2⟩:=VRs.get ha ht;exact ⟨u,by rw [←Array.getElem?_toList];exact g1,g2⟩
 have ha':VRs w G2 args' rargs.toList:=VRs_of3 args' rargs.toList (by rw [←hlen];exact ha.len.symm) fun i b hb=>by
  obtain ⟨u,g1,g2⟩:=h3 i b (by rw [Q0l];exact hb);exact ⟨u,by rw [Array.getElem?_toList];exact g1,g2⟩
 refine (h.1 base w G2 rargs h2.mr ha').mono ?_;rintro e w' ⟨r,G',rfl,h4,h5⟩;exact ⟨r,G',rfl,Stp.trans h2 h4,h5⟩
theorem CallM.weakQ (h:CallM P GT rd m n f args' a m2 n2) (hw:wkL args' args):CallM P GT rd m n f args a m2 n2:=by
 have up:∀ {xs bs:List AV} {w:World} {G:Gh} {vs:List Value},wkL xs bs→VRs w G bs vs→VRs w G xs vs:=by
  intro xs
  induction xs with
  | nil=>intro bs w G vs h1 h2;obtain rfl:bs=[]:=h1;exact h2
  | cons x xs ih =>
    intro bs w G vs h1 h2;obtain ⟨y,ys,rfl,h3,h4⟩:=h1;obtain ⟨v,us,rfl,h5,h6⟩:=h2;exact ⟨v,us,rfl,h3 _ _ _ h5,ih h4 h6⟩
 exact ⟨fun base w G rargs hm ha=>h.1 base w G rargs hm (up hw ha),h.2⟩
end
def wldM (S:Saf) (p:List Nod) (PT:List Part):List AV:=[.sl S.cls.length 1 (S.cls.flatMap encN),.sl S.atts.length 1 (S.atts.flatMap encN),.sl p.length 5 (p.flatMap encNd),.sl PT.length 2 (PT.flatMap encP),.mp 0]
theorem Q2c {E:Beg} {K':K2} {m2:ML} {n2:Nat} {l l':List AV} (hE:E.nx≤1) (h0:getL m2 0=some (blkK K')) (hl:keepT 1 l' l):VS gt0 E (stL l m2 n2) (stL l' [(0,blkK K')] 1) :=
 VSkeep hE (fun p hp=>by rw [List.mem_singleton] at hp;subst hp;exact ⟨Nat.zero_lt_one,lt_encK 1 K' 0,h0⟩) hl
set_option maxRecDepth 100000 in
set_option maxHeartbeats 4000000 in
theorem wattrQ_m (S:Saf) (p:List Nod) (PT:List Part) (n:Int) (s:ByteArray) (l:List ByteArray) (hp:OkPg p) (hl:l.length≤1) (K:K2):CallM Tryz.prog gt0 [] [(0,blkK K)] 1 361 [.agg (wldM S p PT),.g (.int .i64 n),.g (.string s),.sl l.length 1 (l.flatMap encN)] (.g (.bool (attrB p n s l))) [(0,blkK K)] 1:=by
 refine Q0m (c:=_) Tryz.func361 rfl (by kernel_rfl) ?_;simp only [Tryz.f361,List.replicate,List.length_cons,List.length_nil,Nat.reduceAdd,Nat.reduceSub,List.cons_append,List.nil_append,wldM];have HA:=attr_p p n s hp.attrs;unfold attrB
 cases hv:atM p n s with
 | none =>
   rw [hv] at HA
   (repeat ((try with_reducible refine W.step (b:=false) ?_);simp (decide:=true) only [go_sem,↓reduceIte,Nat.reduceAdd,Nat.reduceSub]))
   refine AtCall.mk HA ?_
   (repeat ((try with_reducible refine W.step (b:=false) ?_);simp (decide:=true) only [go_sem,↓reduceIte,Nat.reduceAdd,Nat.reduceSub]))
   exact ⟨.inr rfl,[aN,aN,aN,aN,aN,aN,aN,aN,(.g (.bool false)),aN,aN,aN,aN,aN,aN,aN,aN,aN,aN,aN,aN,aN,aN,aN,aN,aN,aN,aN,aN,aN,aN,aN],Q2c (Nat.le_refl _) rfl (by simp [Q0e,Q0g,ltA]),rfl⟩
 | some v =>
   rw [hv] at HA
   match l,hl with
   | [],_ =>
     (repeat ((try with_reducible refine W.step (b:=false) ?_);simp (decide:=true) only [go_sem,↓reduceIte,Nat.reduceAdd,Nat.reduceSub]))
     refine AtCall.mk HA ?_
     (repeat ((try with_reducible refine W.step (b:=false) ?_);simp (decide:=true) only [go_sem,↓reduceIte,Nat.reduceAdd,Nat.reduceSub]))
     exact ⟨.inr rfl,[aN,aN,aN,aN,aN,aN,aN,aN,(.g (.bool true)),aN,aN,aN,aN,aN,aN,aN,aN,aN,aN,aN,aN,aN,aN,aN,aN,aN,aN,aN,aN,aN,aN,aN],Q2c (Nat.le_refl _) rfl (by simp [Q0e,Q0g,ltA]),rfl⟩
   | [x],_ =>
     have e:(decide ([x]=([]:List ByteArray))||[x].any fun y=>decide (y=v))=decide (x=v):=by simp
     simp only [e];have f3:[x].flatMap encN=[.g (.string x)]:=rfl;simp only [f3,List.length_cons,List.length_nil,Nat.zero_add]
     (repeat ((try with_reducible refine W.step (b:=false) ?_);simp (decide:=true) only [go_sem,↓reduceIte,Nat.reduceAdd,Nat.reduceSub]))
     refine AtCall.mk HA ?_
     (repeat ((try with_reducible refine W.step (b:=false) ?_);simp (decide:=true) only [go_sem,↓reduceIte,Nat.reduceAdd,Nat.reduceSub]))
     exact ⟨.inr rfl,[aN,aN,aN,aN,aN,aN,aN,aN,(.g (.bool (decide (x=v)))),aN,aN,aN,aN,aN,aN,aN,aN,aN,aN,aN,aN,aN,aN,aN,aN,aN,aN,aN,aN,aN,aN,aN],Q2c (Nat.le_refl _) rfl (by simp [Q0e,Q0g,ltA]),rfl⟩
def hldQ (p:List Nod) (n:Int) (x:Simp):Bool:=if x.kind=11 then false else holdsS p [] n x
set_option maxRecDepth 100000 in
set_option maxHeartbeats 4000000 in
theorem hldQ_m (S:Saf) (p:List Nod) (PT:List Part) (n:Int) (x:Simp) (hp:OkPg p) (he:elemB p n=true) (K:K2):CallM Tryz.prog gt0 [] [(0,blkK K)] 1 343 [.agg (wldM S p PT),.g (.int .i64 n),.agg (encS x)] (.g (.bool (hldQ p n x))) [(0,blkK K)] 1:=by
 obtain ⟨kind,name,value,a,b,l⟩:=x;refine Q0m (c:=_) Tryz.func343 rfl (by kernel_rfl) ?_;have HW0:=fun s=>wattrQ_m S p PT n s [] hp (by decide) K;have HW1:=fun s v=>wattrQ_m S p PT n s [v] hp (by simp) K;simp only [Tryz.f343,List.replicate,List.length_cons,List.length_nil,Nat.reduceAdd,Nat.reduceSub,List.cons_append,List.nil_append,wldM,encS_m] at HW0 HW1 ⊢;have hR0:hldQ p n (.mk kind name value a b l)=if kind=11 then false else holdsS p [] n (.mk kind name value a b l):=rfl
 rw [hR0,holdsS];obtain ⟨k,rfl,hk,hnd⟩:=at_nat he;have r:=rowNd hk;have hb:=idx_bound (fun j=>decide (j=(k:Int))) (kinM p k) (kin_len hp);have fw:IntKind.i64.wrap (1+idxL (fun j=>decide (j=(k:Int))) (kinM p k))=placeM p k:=IntWalk.i64_in _ (by omega)
 (repeat ((try with_reducible refine W.step (b:=false) ?_);simp (decide:=true) only [go_sem,↓reduceIte,Nat.reduceAdd,Nat.reduceSub];try with_reducible refine drawn hmix (by kernel_rfl) ?_))
 refine AtCall.mk (kin_p p k hp) ?_
 (repeat ((try with_reducible refine W.step (b:=false) ?_);simp (decide:=true) only [go_sem,↓reduceIte,Nat.reduceAdd,Nat.reduceSub];try with_reducible refine drawn hmix (by kernel_rfl) ?_))
 refine AtCall.mk (indexI_p (kinM p k) k (kin_len hp)) ?_
 by_cases h1:kind=1
 ·have f1:=eq_true h1
  rw [if_neg (by omega),if_pos h1]
  (repeat ((try with_reducible refine W.step (b:=false) ?_);simp (decide:=true) only [go_sem,↓reduceIte,Nat.reduceAdd,Nat.reduceSub,fw,f1];try with_reducible refine drawn hmix (by kernel_rfl) ?_))
  exact ⟨.inr rfl,_,Q2c (l':=[aN,aN,aN,aN,aN,aN,(.g (.bool (true))),aN,aN,aN,aN,aN,aN,aN,aN,aN,aN,aN,aN,aN,aN,aN,aN,aN,aN,aN,aN,aN,aN,aN,aN,aN,aN,aN,aN,aN,aN,aN,aN,aN,aN,aN,aN,aN,aN,aN,aN,aN,aN,aN,aN,aN,aN,aN,aN,aN,aN,aN,aN,aN,aN,aN,aN,aN,aN,aN,aN,aN,aN,aN,aN,aN,aN,aN,aN,aN,aN,aN,aN,aN,aN,aN,aN,aN,aN,aN,aN,aN,aN,aN,aN,aN,aN,aN,aN]) (Nat.le_refl _) rfl (by simp [Q0e,Q0g,ltA]),rfl⟩
 have f1:=eq_false h1;rw [if_neg h1]
 by_cases h2:kind=2
 ·have f2:=eq_true h2
  rw [if_neg (by omega),if_pos h2,hnd]
  (repeat ((try with_reducible refine W.step (b:=false) ?_);simp (decide:=true) only [go_sem,↓reduceIte,Nat.reduceAdd,Nat.reduceSub,fw,f1,f2,hk,r];try with_reducible refine drawn hmix (by kernel_rfl) ?_))
  generalize decide (p[k].name=name)=B0;exact ⟨.inr rfl,_,Q2c (l':=[aN,aN,aN,aN,aN,aN,(.g (.bool B0)),aN,aN,aN,aN,aN,aN,aN,aN,aN,aN,aN,aN,aN,aN,aN,aN,aN,aN,aN,aN,aN,aN,aN,aN,aN,aN,aN,aN,aN,aN,aN,aN,aN,aN,aN,aN,aN,aN,aN,aN,aN,aN,aN,aN,aN,aN,aN,aN,aN,aN,aN,aN,aN,aN,aN,aN,aN,aN,aN,aN,aN,aN,aN,aN,aN,aN,aN,aN,aN,aN,aN,aN,aN,aN,aN,aN,aN,aN,aN,aN,aN,aN,aN,aN,aN,aN,aN,aN]) (Nat.le_refl _) rfl (by simp [Q0e,Q0g,ltA]),rfl⟩
 have f2:=eq_false h2;rw [if_neg h2]
 by_cases h3:kind=3
 ·have f3:=eq_true h3
  rw [if_neg (by omega),if_pos h3]
  (repeat ((try with_reducible refine W.step (b:=false) ?_);simp (decide:=true) only [go_sem,↓reduceIte,Nat.reduceAdd,Nat.reduceSub,fw,f1,f2,f3];try with_reducible refine drawn hmix (by kernel_rfl) ?_))
  refine AtCall.mem (m':=[(0,blkK K),(2,.cells [.g (.int .i64 kind),.g (.string name),.g (.string value),.g (.int .i64 a),.g (.int .i64 b),.sl l.length 6 (l.flatMap encS)]),(1,.cells [.sl S.cls.length 1 (S.cls.flatMap encN),.sl S.atts.length 1 (S.atts.flatMap encN),.sl p.length 5 (p.flatMap encNd),.sl PT.length 2 (PT.flatMap encP),.mp 0])]) (CallM.sealedQ (m':=[(2,.cells [.g (.int .i64 kind),.g (.string name),.g (.string value),.g (.int .i64 a),.g (.int .i64 b),.sl l.length 6 (l.flatMap encS)]),(1,.cells [.sl S.cls.length 1 (S.cls.flatMap encN),.sl S.atts.length 1 (S.atts.flatMap encN),.sl p.length 5 (p.flatMap encNd),.sl PT.length 2 (PT.flatMap encP),.mp 0]),(0,blkK K)]) (CallM.sub (m0:=[(0,blkK K)]) (HW1 idB name) ⟨by decide,by simp [getL,Q0p,nmL,nmA,Q0z],by simp [nmL,nmA],by simp [Q0p,nmL,nmA,Q0z],by simp [nmA],by simp⟩) rfl (VS.sealT 3 [.g (.string name)] rfl (by simp [plainA]) (by simp only [Q4b,frL_nil,Q4c,true_and,and_true];exact ⟨.inr (.inl rfl),.inr (.inr ⟨0,_,1,_,rfl,rfl,by simp⟩)⟩) ⟨⟨by decide,.inl rfl⟩,⟨by decide,.inl rfl⟩,⟨by decide,.inl rfl⟩,trivial⟩)) ?_
  (repeat ((try with_reducible refine W.step (b:=false) ?_);simp (decide:=true) only [go_sem,↓reduceIte,Nat.reduceAdd,Nat.reduceSub];try with_reducible refine drawn hmix (by kernel_rfl) ?_))
  exact ⟨.inr rfl,_,Q2c (l':=[aN,aN,aN,aN,aN,aN,(.g (.bool (attrB p k idB [name]))),aN,aN,aN,aN,aN,aN,aN,aN,aN,aN,aN,aN,aN,aN,aN,aN,aN,aN,aN,aN,aN,aN,aN,aN,aN,aN,aN,aN,aN,aN,aN,aN,aN,aN,aN,aN,aN,aN,aN,aN,aN,aN,aN,aN,aN,aN,aN,aN,aN,aN,aN,aN,aN,aN,aN,aN,aN,aN,aN,aN,aN,aN,aN,aN,aN,aN,aN,aN,aN,aN,aN,aN,aN,aN,aN,aN,aN,aN,aN,aN,aN,aN,aN,aN,aN,aN,aN,aN]) (Nat.le_refl _) rfl (by simp [Q0e,Q0g,ltA]),rfl⟩
 have f3:=eq_false h3;rw [if_neg h3]
 by_cases h4:kind=4
 ·have f4:=eq_true h4
  rw [if_neg (by omega),if_pos h4]
  (repeat ((try with_reducible refine W.step (b:=false) ?_);simp (decide:=true) only [go_sem,↓reduceIte,Nat.reduceAdd,Nat.reduceSub,fw,f1,f2,f3,f4];try with_reducible refine drawn hmix (by kernel_rfl) ?_))
  refine AtCallQ.mk (classes_p p k hp) ?_
  (repeat ((try with_reducible refine W.step (b:=false) ?_);simp (decide:=true) only [go_sem,↓reduceIte,Nat.reduceAdd,Nat.reduceSub];try with_reducible refine drawn hmix (by kernel_rfl) ?_))
  refine AtCallQ.mk (containsN_p (classesM p k) name (classes_len hp)) ?_
  (repeat ((try with_reducible refine W.step (b:=false) ?_);simp (decide:=true) only [go_sem,↓reduceIte,Nat.reduceAdd,Nat.reduceSub];try with_reducible refine drawn hmix (by kernel_rfl) ?_))
  exact ⟨.inr rfl,_,Q2c (l':=[aN,aN,aN,aN,aN,aN,(.g (.bool ((classesM p k).any fun x=>decide (x=name)))),aN,aN,aN,aN,aN,aN,aN,aN,aN,aN,aN,aN,aN,aN,aN,aN,aN,aN,aN,aN,aN,aN,aN,aN,aN,aN,aN,aN,aN,aN,aN,aN,aN,aN,aN,aN,aN,aN,aN,aN,aN,aN,aN,aN,aN,aN,aN,aN,aN,aN,aN,aN,aN,aN,aN,aN,aN,aN,aN,aN,aN,aN,aN,aN,aN,aN,aN,aN,aN,aN,aN,aN,aN,aN,aN,aN,aN,aN,aN,aN,aN,aN,aN,aN,aN,aN,aN,aN]) (Nat.le_refl _) rfl (by simp [Q0e,Q0g,ltA]),rfl⟩
 have f4:=eq_false h4;rw [if_neg h4]
 by_cases h5:kind=5
 ·have f5:=eq_true h5
  rw [if_neg (by omega),if_pos h5]
  (repeat ((try with_reducible refine W.step (b:=false) ?_);simp (decide:=true) only [go_sem,↓reduceIte,Nat.reduceAdd,Nat.reduceSub,fw,f1,f2,f3,f4,f5];try with_reducible refine drawn hmix (by kernel_rfl) ?_))
  refine AtCall.mem (m':=[(0,blkK K),(2,.cells [.g (.int .i64 kind),.g (.string name),.g (.string value),.g (.int .i64 a),.g (.int .i64 b),.sl l.length 6 (l.flatMap encS)]),(1,.cells [.sl S.cls.length 1 (S.cls.flatMap encN),.sl S.atts.length 1 (S.atts.flatMap encN),.sl p.length 5 (p.flatMap encNd),.sl PT.length 2 (PT.flatMap encP),.mp 0])]) (CallM.weakQ (CallM.sub (m0:=[(0,blkK K)]) (HW0 name) ⟨by decide,by simp [getL,Q0p,nmL,nmA,Q0z],by simp [nmL,nmA],by simp [Q0p,nmL,nmA,Q0z],by simp [nmA],by simp⟩) ⟨_,_,rfl,wkA.refl _,_,_,rfl,wkA.refl _,_,_,rfl,wkA.refl _,_,_,rfl,wkA.nil 1,rfl⟩) ?_
  (repeat ((try with_reducible refine W.step (b:=false) ?_);simp (decide:=true) only [go_sem,↓reduceIte,Nat.reduceAdd,Nat.reduceSub];try with_reducible refine drawn hmix (by kernel_rfl) ?_))
  exact ⟨.inr rfl,_,Q2c (l':=[aN,aN,aN,aN,aN,aN,(.g (.bool (attrB p k name []))),aN,aN,aN,aN,aN,aN,aN,aN,aN,aN,aN,aN,aN,aN,aN,aN,aN,aN,aN,aN,aN,aN,aN,aN,aN,aN,aN,aN,aN,aN,aN,aN,aN,aN,aN,aN,aN,aN,aN,aN,aN,aN,aN,aN,aN,aN,aN,aN,aN,aN,aN,aN,aN,aN,aN,aN,aN,aN,aN,aN,aN,aN,aN,aN,aN,aN,aN,aN,aN,aN,aN,aN,aN,aN,aN,aN,aN,aN,aN,aN,aN,aN,aN,aN,aN,aN,aN,aN]) (Nat.le_refl _) rfl (by simp [Q0e,Q0g,ltA]),rfl⟩
 have f5:=eq_false h5;rw [if_neg h5]
 by_cases h6:kind=6
 ·have f6:=eq_true h6
  rw [if_neg (by omega),if_pos h6]
  (repeat ((try with_reducible refine W.step (b:=false) ?_);simp (decide:=true) only [go_sem,↓reduceIte,Nat.reduceAdd,Nat.reduceSub,fw,f1,f2,f3,f4,f5,f6];try with_reducible refine drawn hmix (by kernel_rfl) ?_))
  refine AtCall.mem (m':=[(0,blkK K),(2,.cells [.g (.int .i64 kind),.g (.string name),.g (.string value),.g (.int .i64 a),.g (.int .i64 b),.sl l.length 6 (l.flatMap encS)]),(1,.cells [.sl S.cls.length 1 (S.cls.flatMap encN),.sl S.atts.length 1 (S.atts.flatMap encN),.sl p.length 5 (p.flatMap encNd),.sl PT.length 2 (PT.flatMap encP),.mp 0])]) (CallM.sealedQ (m':=[(2,.cells [.g (.int .i64 kind),.g (.string name),.g (.string value),.g (.int .i64 a),.g (.int .i64 b),.sl l.length 6 (l.flatMap encS)]),(1,.cells [.sl S.cls.length 1 (S.cls.flatMap encN),.sl S.atts.length 1 (S.atts.flatMap encN),.sl p.length 5 (p.flatMap encNd),.sl PT.length 2 (PT.flatMap encP),.mp 0]),(0,blkK K)]) (CallM.sub (m0:=[(0,blkK K)]) (HW1 name value) ⟨by decide,by simp [getL,Q0p,nmL,nmA,Q0z],by simp [nmL,nmA],by simp [Q0p,nmL,nmA,Q0z],by simp [nmA],by simp⟩) rfl (VS.sealT 3 [.g (.string value)] rfl (by simp [plainA]) (by simp only [Q4b,frL_nil,Q4c,true_and,and_true];exact .inr (.inr ⟨0,_,1,_,rfl,rfl,by simp⟩)) ⟨⟨by decide,.inl rfl⟩,⟨by decide,.inl rfl⟩,⟨by decide,.inl rfl⟩,trivial⟩)) ?_
  (repeat ((try with_reducible refine W.step (b:=false) ?_);simp (decide:=true) only [go_sem,↓reduceIte,Nat.reduceAdd,Nat.reduceSub];try with_reducible refine drawn hmix (by kernel_rfl) ?_))
  exact ⟨.inr rfl,_,Q2c (l':=[aN,aN,aN,aN,aN,aN,(.g (.bool (attrB p k name [value]))),aN,aN,aN,aN,aN,aN,aN,aN,aN,aN,aN,aN,aN,aN,aN,aN,aN,aN,aN,aN,aN,aN,aN,aN,aN,aN,aN,aN,aN,aN,aN,aN,aN,aN,aN,aN,aN,aN,aN,aN,aN,aN,aN,aN,aN,aN,aN,aN,aN,aN,aN,aN,aN,aN,aN,aN,aN,aN,aN,aN,aN,aN,aN,aN,aN,aN,aN,aN,aN,aN,aN,aN,aN,aN,aN,aN,aN,aN,aN,aN,aN,aN,aN,aN,aN,aN,aN,aN]) (Nat.le_refl _) rfl (by simp [Q0e,Q0g,ltA]),rfl⟩
 have f6:=eq_false h6;rw [if_neg h6]
 by_cases h8:kind=8
 ·have f8:=eq_true h8
  rw [if_neg (by omega),if_neg (by omega),if_pos h8]
  (repeat ((try with_reducible refine W.step (b:=false) ?_);simp (decide:=true) only [go_sem,↓reduceIte,Nat.reduceAdd,Nat.reduceSub,fw,f1,f2,f3,f4,f5,f6,f8];try with_reducible refine drawn hmix (by kernel_rfl) ?_))
  refine AtCall.mk (nth_p a b (placeM p k)) ?_
  (repeat ((try with_reducible refine W.step (b:=false) ?_);simp (decide:=true) only [go_sem,↓reduceIte,Nat.reduceAdd,Nat.reduceSub];try with_reducible refine drawn hmix (by kernel_rfl) ?_))
  exact ⟨.inr rfl,_,Q2c (l':=[aN,aN,aN,aN,aN,aN,(.g (.bool (nthM a b (placeM p k)))),aN,aN,aN,aN,aN,aN,aN,aN,aN,aN,aN,aN,aN,aN,aN,aN,aN,aN,aN,aN,aN,aN,aN,aN,aN,aN,aN,aN,aN,aN,aN,aN,aN,aN,aN,aN,aN,aN,aN,aN,aN,aN,aN,aN,aN,aN,aN,aN,aN,aN,aN,aN,aN,aN,aN,aN,aN,aN,aN,aN,aN,aN,aN,aN,aN,aN,aN,aN,aN,aN,aN,aN,aN,aN,aN,aN,aN,aN,aN,aN,aN,aN,aN,aN,aN,aN,aN,aN]) (Nat.le_refl _) rfl (by simp [Q0e,Q0g,ltA]),rfl⟩
 have f8:=eq_false h8
 by_cases h9:kind=9
 ·have f9:=eq_true h9
  rw [if_neg (by omega),if_neg (by omega),if_neg h8,if_pos h9,hnd]
  by_cases hu:p[k].up=0
  ·have fu:=eq_true hu
   (repeat ((try with_reducible refine W.step (b:=false) ?_);simp (decide:=true) only [go_sem,↓reduceIte,Nat.reduceAdd,Nat.reduceSub,fw,f1,f2,f3,f4,f5,f6,f8,f9,fu,hk,r];try with_reducible refine drawn hmix (by kernel_rfl) ?_))
   exact ⟨.inr rfl,_,Q2c (l':=[aN,aN,aN,aN,aN,aN,(.g (.bool (decide (placeM p k=1)))),aN,aN,aN,aN,aN,aN,aN,aN,aN,aN,aN,aN,aN,aN,aN,aN,aN,aN,aN,aN,aN,aN,aN,aN,aN,aN,aN,aN,aN,aN,aN,aN,aN,aN,aN,aN,aN,aN,aN,aN,aN,aN,aN,aN,aN,aN,aN,aN,aN,aN,aN,aN,aN,aN,aN,aN,aN,aN,aN,aN,aN,aN,aN,aN,aN,aN,aN,aN,aN,aN,aN,aN,aN,aN,aN,aN,aN,aN,aN,aN,aN,aN,aN,aN,aN,aN,aN,aN]) (Nat.le_refl _) rfl (by simp [Q0e,Q0g,ltA]),rfl⟩
  ·have fu:=eq_false hu
   (repeat ((try with_reducible refine W.step (b:=false) ?_);simp (decide:=true) only [go_sem,↓reduceIte,Nat.reduceAdd,Nat.reduceSub,fw,f1,f2,f3,f4,f5,f6,f8,f9,fu,hk,r];try with_reducible refine drawn hmix (by kernel_rfl) ?_))
   exact ⟨.inr rfl,_,Q2c (l':=[aN,aN,aN,aN,aN,aN,(.g (.bool (false))),aN,aN,aN,aN,aN,aN,aN,aN,aN,aN,aN,aN,aN,aN,aN,aN,aN,aN,aN,aN,aN,aN,aN,aN,aN,aN,aN,aN,aN,aN,aN,aN,aN,aN,aN,aN,aN,aN,aN,aN,aN,aN,aN,aN,aN,aN,aN,aN,aN,aN,aN,aN,aN,aN,aN,aN,aN,aN,aN,aN,aN,aN,aN,aN,aN,aN,aN,aN,aN,aN,aN,aN,aN,aN,aN,aN,aN,aN,aN,aN,aN,aN,aN,aN,aN,aN,aN,aN]) (Nat.le_refl _) rfl (by simp [Q0e,Q0g,ltA]),rfl⟩
 have f9:=eq_false h9
 by_cases h10:kind=10
 ·have f10:=eq_true h10
  rw [if_neg (by omega),if_neg (by omega),if_neg h8,if_neg h9,if_pos h10,hnd];have fz2:decide ((p[k].kids.length:Int)=0)=decide (p[k].kids=[]):=by rw [Bool.eq_iff_iff];simp only [decide_eq_true_eq];rw [←List.length_eq_zero_iff];omega
  (repeat ((try with_reducible refine W.step (b:=false) ?_);simp (decide:=true) only [go_sem,↓reduceIte,Nat.reduceAdd,Nat.reduceSub,fw,f1,f2,f3,f4,f5,f6,f8,f9,f10,hk,r,fz2];try with_reducible refine drawn hmix (by kernel_rfl) ?_))
  generalize decide (p[k].kids=[])=B0;exact ⟨.inr rfl,_,Q2c (l':=[aN,aN,aN,aN,aN,aN,(.g (.bool B0)),aN,aN,aN,aN,aN,aN,aN,aN,aN,aN,aN,aN,aN,aN,aN,aN,aN,aN,aN,aN,aN,aN,aN,aN,aN,aN,aN,aN,aN,aN,aN,aN,aN,aN,aN,aN,aN,aN,aN,aN,aN,aN,aN,aN,aN,aN,aN,aN,aN,aN,aN,aN,aN,aN,aN,aN,aN,aN,aN,aN,aN,aN,aN,aN,aN,aN,aN,aN,aN,aN,aN,aN,aN,aN,aN,aN,aN,aN,aN,aN,aN,aN,aN,aN,aN,aN,aN,aN]) (Nat.le_refl _) rfl (by simp [Q0e,Q0g,ltA]),rfl⟩
 have f10:=eq_false h10;have hR:(if kind=11 then false else if kind=7 then ([]:List Stt).any (fun x=>decide (x.node=(k:Int))&&decide (x.name=name)) else if kind=8 then nthM a b (placeM p k) else if kind=9 then decide ((ndAt p k).up=0)&&decide (placeM p k=1) else if kind=10 then decide ((ndAt p k).kids=[]) else if kind=11 then !anyS p [] k l else false)=false:=by
  rw [if_neg h8,if_neg h9,if_neg h10]
  split
  ·rfl
  ·split
   ·rfl
   ·rfl
 rw [hR]
 (repeat ((try with_reducible refine W.step (b:=false) ?_);simp (decide:=true) only [go_sem,↓reduceIte,Nat.reduceAdd,Nat.reduceSub,fw,f1,f2,f3,f4,f5,f6,f8,f9,f10];try with_reducible refine drawn hmix (by kernel_rfl) ?_))
 exact ⟨.inr rfl,_,Q2c (l':=[aN,aN,aN,aN,aN,aN,(.g (.bool (false))),aN,aN,aN,aN,aN,aN,aN,aN,aN,aN,aN,aN,aN,aN,aN,aN,aN,aN,aN,aN,aN,aN,aN,aN,aN,aN,aN,aN,aN,aN,aN,aN,aN,aN,aN,aN,aN,aN,aN,aN,aN,aN,aN,aN,aN,aN,aN,aN,aN,aN,aN,aN,aN,aN,aN,aN,aN,aN,aN,aN,aN,aN,aN,aN,aN,aN,aN,aN,aN,aN,aN,aN,aN,aN,aN,aN,aN,aN,aN,aN,aN,aN,aN,aN,aN,aN,aN,aN]) (Nat.le_refl _) rfl (by simp [Q0e,Q0g,ltA]),rfl⟩
attribute [go_sem] appL newsA isSlice
def okN:Simp→Prop
 | .mk _ name _ _ _ l=>name.size≤1000000∧okNL l
where okNL:List Simp→Prop
 | []=>True
 | x::xs=>okN x∧okNL xs
theorem okNL_mem:∀ {l:List Simp},okN.okNL l→∀ y∈l,okN y
 | x::xs,h,y,hy=>by
   rcases List.mem_cons.1 hy with rfl | hy
   ·exact h.1
   ·exact okNL_mem h.2 y hy
def mv (b nb c:Nat):Nat:=if c=b then nb else c
theorem VSmove {GT:GTab} {E:Beg} {l l':List AV} {m m':ML} {n n':Nat} (b nb:Nat) (hE:E.nx≤b) (hb:b<n') (hnb:b≤nb)
 (hm:∀ p∈m',p.1≤b∧ltB n' p.2∧getL m (mv b nb p.1)=some (reFB (mv b nb) p.2)) (hl:reT (mv b nb) n' l' l):VS GT E (stL l m n) (stL l' m' n'):=by
 refine VS.renF (mv b nb) (fun c hc=>by unfold mv;rw [if_neg (by omega)]) (fun c hc=>by unfold mv;split <;> omega) (by omega) (fun c c' k k' h h' e=>?_) (fun c k h=>?_) hl
 ·have h1:=(hm _ (Q1a h)).1
  have h2:=(hm _ (Q1a h')).1;simp only at h1 h2;unfold mv at e
  split at e <;> split at e <;> omega
 ·have h1:=hm _ (Q1a h)
  exact ⟨Nat.lt_of_le_of_lt h1.1 hb,h1.2⟩
theorem reFL_Z (g:Nat→Nat) (l:List Int):reFL g (l.flatMap encZ)=l.flatMap encZ:=Q2r _ _ (ids_Z l)
theorem ltL_Z (n:Nat) (l:List Int):ltL n (l.flatMap encZ):=ltL_id _ _ (ids_Z l)
theorem ltB_K (n:Nat) (K:K2):ltB n (blkK K):=lt_encK n K 0
set_option maxRecDepth 100000 in
set_option maxHeartbeats 4000000 in
theorem simpsQ_m (S:Saf) (p:List Nod) (PT:List Part) (n:Int) (l:List Simp) (hl:l.length≤1000000) (K:K2)
 (hc:∀ x∈l,CallM Tryz.prog gt0 [] [(0,blkK K)] 1 310 [.agg (wldM S p PT),.g (.int .i64 n),.agg (encS x)] (.g (.int .i64 (simpQ S p n x))) [(0,blkK K)] 1) :
 CallM Tryz.prog gt0 [] [(0,blkK K)] 1 261 [.agg (wldM S p PT),.g (.int .i64 n),.sl l.length 6 (l.flatMap encS)] (.sl (l.map (simpQ S p n)).length 1 ((l.map (simpQ S p n)).flatMap encZ)) [(0,blkK K)] 1:=by
 refine Q0m (c:=_) Tryz.func261 rfl (by kernel_rfl) ?_;simp only [Tryz.f261,List.replicate,List.length_cons,List.length_nil,Nat.reduceAdd,Nat.reduceSub,List.cons_append,List.nil_append,wldM] at hc ⊢
 (repeat ((try with_reducible refine W.step (b:=false) ?_);simp (decide:=true) only [go_sem,↓reduceIte,Nat.reduceAdd,Nat.reduceSub]))
 refine W.loop (s1:=stL [aN,(.g (.int .i64 n)),aN,(.ptr 1 0),aN,aN,aN,(ownA 2 1 0 ((l.take 0).map (simpQ S p n))),aN,aN,(.sl l.length 6 (l.flatMap encS)),(.g (.int .i64 (l.length:Int))),(.g (.int .i64 ((0:Nat):Int))),aN,aN,aN,aN,aN,aN,aN,aN,aN,aN,aN,aN] ([(0,blkK K),(1,.cells [.sl S.cls.length 1 (S.cls.flatMap encN),.sl S.atts.length 1 (S.atts.flatMap encN),.sl p.length 5 (p.flatMap encNd),.sl PT.length 2 (PT.flatMap encP),.mp 0])]++rowsM encZ 2 (fun _=>(l.take 0).map (simpQ S p n)) 1) 3)
  (fun (k:Nat) t=>k≤l.length∧t=stL [aN,(.g (.int .i64 n)),aN,(.ptr 1 0),aN,aN,aN,(ownA 2 1 0 ((l.take k).map (simpQ S p n))),aN,aN,(.sl l.length 6 (l.flatMap encS)),(.g (.int .i64 (l.length:Int))),(.g (.int .i64 (k:Int))),aN,aN,aN,aN,aN,aN,aN,aN,aN,aN,aN,aN] ([(0,blkK K),(1,.cells [.sl S.cls.length 1 (S.cls.flatMap encN),.sl S.atts.length 1 (S.atts.flatMap encN),.sl p.length 5 (p.flatMap encNd),.sl PT.length 2 (PT.flatMap encP),.mp 0])]++rowsM encZ 2 (fun _=>(l.take k).map (simpQ S p n)) 1) 3) (fun k=>l.length - k) 0 ⟨Nat.zero_le _,rfl⟩ ?_ ?_
 ·refine VSkeep (show 1≤3 by decide) (fun q hq=>?_) (by simp [Q0e,Q0g,ltA,ownA])
  simp only [List.cons_append,List.nil_append,List.take_zero,List.map_nil,rows_nil,List.mem_cons,List.not_mem_nil,or_false] at hq;rcases hq with rfl | rfl
  ·exact ⟨(show 0<3 by decide),ltB_K _ _,rfl⟩
  ·exact ⟨(show 1<3 by decide),by simp [ltB,ltL,ltA],rfl⟩
 rintro k t ⟨hk,rfl⟩;have hsn:∀ h:k<l.length,(l.take (k+1)).map (simpQ S p n)=(l.take k).map (simpQ S p n)++[simpQ S p n l[k]]:=fun h=>by rw [List.take_succ_eq_append_getElem h,List.map_append];rfl
 have hacl:((l.take k).map (simpQ S p n)).length≤1000000:=by rw [List.length_map,List.length_take];omega
 by_cases hlt:k<l.length
 ·obtain ⟨r1,r2⟩:=rowS6 hlt
  have hs:=hsn hlt;have HC:=hc _ (List.getElem_mem hlt);generalize hv:simpQ S p n l[k]=v at hs HC;generalize (l.take k).map (simpQ S p n)=acc at hs hacl ⊢;have hne:acc++[v]≠[]:=by simp
  clear hv;generalize l[k]=x at r1 HC;obtain ⟨kind,name,value,a,b,sl⟩:=x;rw [encS_m] at r1 HC;have h2:=rows_one (enc:=encZ) (b0:=2) hne
  have hfin:∀ (m2:ML) (n2:Nat) (ll:List AV),getL m2 0=some (blkK K)→getL m2 1=some (.cells [.sl S.cls.length 1 (S.cls.flatMap encN),.sl S.atts.length 1 (S.atts.flatMap encN),.sl p.length 5 (p.flatMap encNd),.sl PT.length 2 (PT.flatMap encP),.mp 0])→getL m2 5=some (.cells ((acc++[v]).flatMap encZ))→reT (mv 2 5) 3 [aN,(.g (.int .i64 n)),aN,(.ptr 1 0),aN,aN,aN,(ownA 2 1 0 (acc++[v])),aN,aN,(.sl l.length 6 (l.flatMap encS)),(.g (.int .i64 (l.length:Int))),(.g (.int .i64 ((k+1:Nat):Int))),aN,aN,aN,aN,aN,aN,aN,aN,aN,aN,aN,aN] ll →
   VS gt0 ⟨[],memL [(0,blkK K)],1⟩ (stL ll m2 n2) (stL [aN,(.g (.int .i64 n)),aN,(.ptr 1 0),aN,aN,aN,(ownA 2 1 0 (acc++[v])),aN,aN,(.sl l.length 6 (l.flatMap encS)),(.g (.int .i64 (l.length:Int))),(.g (.int .i64 ((k+1:Nat):Int))),aN,aN,aN,aN,aN,aN,aN,aN,aN,aN,aN,aN] ([(0,blkK K),(1,.cells [.sl S.cls.length 1 (S.cls.flatMap encN),.sl S.atts.length 1 (S.atts.flatMap encN),.sl p.length 5 (p.flatMap encNd),.sl PT.length 2 (PT.flatMap encP),.mp 0])]++rowsM encZ 2 (fun _=>(acc++[v])) 1) 3):=fun m2 n2 ll g0 g1 g5 hl=>by
   refine VSmove 2 5 (show 1≤2 by decide) (by decide) (by decide) (fun q hq=>?_) hl;rw [h2] at hq;simp only [List.cons_append,List.nil_append,List.mem_cons,List.not_mem_nil,or_false] at hq;rcases hq with rfl | rfl | rfl
   ·exact ⟨(show 0≤2 by decide),ltB_K _ _,by rw [reB_K];exact g0⟩
   ·exact ⟨(show 1≤2 by decide),by simp [ltB,ltL,ltA],by simp only [reFB,reFL,reF];exact g1⟩
   ·exact ⟨(show 2≤2 by decide),ltL_Z _ _,by rw [reFB,reFL_Z];exact g5⟩
  by_cases hnil:acc=[]
  ·subst hnil
   (repeat ((try with_reducible refine W.step (b:=false) ?_);simp (decide:=true) only [go_sem,↓reduceIte,Nat.reduceAdd,Nat.reduceSub,own_nil,rows_nil,hlt,r1,r2]))
   refine AtCall.mem (m':=[(0,blkK K),(3,.cells [.g (.int .i64 kind),.g (.string name),.g (.string value),.g (.int .i64 a),.g (.int .i64 b),.sl sl.length 6 (sl.flatMap encS)]),(1,.cells [.sl S.cls.length 1 (S.cls.flatMap encN),.sl S.atts.length 1 (S.atts.flatMap encN),.sl p.length 5 (p.flatMap encNd),.sl PT.length 2 (PT.flatMap encP),.mp 0])]) (CallM.sub (m0:=[(0,blkK K)]) HC ⟨by decide,by simp [getL,Q0p,nmL,nmA,Q0z],by simp [nmL,nmA],by simp [Q0p,nmL,nmA,Q0z],by simp [nmA],by simp⟩) ?_
   (repeat ((try with_reducible refine W.step (b:=false) ?_);simp (decide:=true) only [go_sem,↓reduceIte,Nat.reduceAdd,Nat.reduceSub]))
   refine ⟨k+1,_,⟨by omega,rfl⟩,by show l.length - (k+1)<l.length - k;omega,?_⟩;rw [up1 (by omega),hs];refine hfin _ _ _ rfl rfl (by simp [getL,encZ]) ?_;simp [Q3d,reT_nil,reF,ltA,mv,ownA]
  ·have hacc:=rows_one (enc:=encZ) (b0:=2) hnil
   have ho:=Q3f (b0:=2) (sz:=1) (j:=0) hnil;have f1:(acc.length+1≤acc.length)=False:=eq_false (by omega);have hlz:=lenZ acc;have f2:(acc.length+1)*9≤17179869184:=by omega
   (repeat ((try with_reducible refine W.step (b:=false) ?_);simp (decide:=true) only [go_sem,↓reduceIte,Nat.reduceAdd,Nat.reduceSub,hacc,ho,hlt,r1,r2,f1,f2]))
   refine AtCall.mem (m':=[(0,blkK K),(3,.cells [.g (.int .i64 kind),.g (.string name),.g (.string value),.g (.int .i64 a),.g (.int .i64 b),.sl sl.length 6 (sl.flatMap encS)]),(1,.cells [.sl S.cls.length 1 (S.cls.flatMap encN),.sl S.atts.length 1 (S.atts.flatMap encN),.sl p.length 5 (p.flatMap encNd),.sl PT.length 2 (PT.flatMap encP),.mp 0]),(2,.cells (acc.flatMap encZ))]) (CallM.sub (m0:=[(0,blkK K)]) HC ⟨by decide,by simp [getL,Q0p,nmL,nmA,Q0z],by simp [nmL,nmA],by simp [Q0p,nmL,nmA,Q0z],by simp [nmA],by simp⟩) ?_
   (repeat ((try with_reducible refine W.step (b:=false) ?_);simp (decide:=true) only [go_sem,↓reduceIte,Nat.reduceAdd,Nat.reduceSub,f1,f2]))
   refine ⟨k+1,_,⟨by omega,rfl⟩,by show l.length - (k+1)<l.length - k;omega,?_⟩;rw [up1 (by omega),hs];refine hfin _ _ _ rfl rfl (by rw [List.flatMap_append];simp [getL,encZ]) ?_;rw [Q3f hne];simp [Q3d,reT_nil,reF,ltA,mv]
 ·obtain rfl:k=l.length:=by omega
  rw [List.take_length];generalize hac:l.map (simpQ S p n)=acc
  by_cases hnil:acc=[]
  ·subst hnil
   (repeat ((try with_reducible refine W.step (b:=false) ?_);simp (decide:=true) only [go_sem,↓reduceIte,Nat.reduceAdd,Nat.reduceSub,own_nil,rows_nil,hlt]))
   refine ⟨.inr rfl,[aN,aN,aN,aN,aN,aN,(.sl 0 1 []),aN,aN,aN,aN,aN,aN,aN,aN,aN,aN,aN,aN,aN,aN,aN,aN,aN,aN],VS.trans (VS.weak (l':=[aN,aN,aN,aN,aN,aN,(.sl 0 1 []),aN,aN,aN,aN,aN,aN,aN,aN,aN,aN,aN,aN,aN,aN,aN,aN,aN,aN]) (m':=[(0,blkK K),(1,.cells [.sl S.cls.length 1 (S.cls.flatMap encN),.sl S.atts.length 1 (S.atts.flatMap encN),.sl p.length 5 (p.flatMap encNd),.sl PT.length 2 (PT.flatMap encP),.mp 0])]) (by (repeat (first | refine ⟨_,_,rfl,wkA.any _,?_⟩ | refine ⟨_,_,rfl,wkA.nil 1,?_⟩));rfl) ⟨.inl rfl,.inl rfl,trivial⟩) (Q2c (Nat.le_refl _) rfl (by simp [Q0e,Q0g,ltA])),rfl⟩
  ·have hacc:=rows_one (enc:=encZ) (b0:=2) hnil
   have ho:=Q3f (b0:=2) (sz:=1) (j:=0) hnil
   (repeat ((try with_reducible refine W.step (b:=false) ?_);simp (decide:=true) only [go_sem,↓reduceIte,Nat.reduceAdd,Nat.reduceSub,hacc,ho,hlt]))
   refine ⟨.inr rfl,[aN,aN,aN,aN,aN,aN,(.sl acc.length 1 (acc.flatMap encZ)),aN,aN,aN,aN,aN,aN,aN,aN,aN,aN,aN,aN,aN,aN,aN,aN,aN,aN],VS.trans (VS.sealT (l':=[aN,aN,aN,aN,aN,aN,(.sl acc.length 1 (acc.flatMap encZ)),aN,aN,aN,aN,aN,aN,aN,aN,aN,aN,aN,aN,aN,aN,aN,aN,aN,aN]) (m':=[(0,blkK K),(1,.cells [.sl S.cls.length 1 (S.cls.flatMap encN),.sl S.atts.length 1 (S.atts.flatMap encN),.sl p.length 5 (p.flatMap encNd),.sl PT.length 2 (PT.flatMap encP),.mp 0])]) 2 _ rfl (plainZ acc) ?_ ⟨⟨by decide,.inl rfl⟩,⟨by decide,.inl rfl⟩,trivial⟩) (Q2c (Nat.le_refl _) rfl (by simp [Q0e,Q0g,ltA])),rfl⟩;simp only [Q4b,frL_nil,frA_any,Q4c,and_true,true_and];exact .inr (.inr ⟨0,_,1,_,rfl,by rw [List.drop_zero,Nat.mul_one,takeZ],by rw [lenZ];omega⟩)
set_option maxRecDepth 100000 in
set_option maxHeartbeats 4000000 in
theorem simpQ_m (S:Saf) (p:List Nod) (PT:List Part) (n:Int) (hp:OkPg p) (hS:OkSf S) (he:elemB p n=true) (K:K2) (N:Nat):∀ (x:Simp),SizeOf.sizeOf x≤N→okS x→okN x →
 CallM Tryz.prog gt0 [] [(0,blkK K)] 1 310 [.agg (wldM S p PT),.g (.int .i64 n),.agg (encS x)] (.g (.int .i64 (simpQ S p n x))) [(0,blkK K)] 1:=by
 induction N with
 | zero=>intro x hl;cases x;simp at hl
 | succ N ih =>
   rintro ⟨kind,name,value,a,b,l⟩ hsz hok hnm;have IH:=simpsQ_m S p PT n l hok.1 K fun y hy=>by
    have h1:=List.sizeOf_lt_of_mem hy;rw [Simp.mk.sizeOf_spec] at hsz;exact ih y (by omega) (okL_mem hok.2 y hy) (okNL_mem hnm.2 y hy)
   have HM:=maySafe_p S (.mk kind name value a b l) hS hnm.1;have HH:=hldQ_m S p PT n (.mk kind name value a b l) hp he K;have hml:(l.map (simpQ S p n)).length≤1000000:=by rw [List.length_map];exact hok.1
   refine Q0m (c:=_) Tryz.func310 rfl (by kernel_rfl) ?_;simp only [Tryz.f310,List.replicate,List.length_cons,List.length_nil,Nat.reduceAdd,Nat.reduceSub,List.cons_append,List.nil_append,wldM,safA,encS_m] at IH HM HH ⊢;rw [simpQ,simpsQ_eq]
   by_cases h11:kind=11
   ·have f11:=eq_true h11
    rw [if_pos h11]
    (repeat ((try with_reducible refine W.step (b:=false) ?_);simp (decide:=true) only [go_sem,↓reduceIte,Nat.reduceAdd,Nat.reduceSub,f11]))
    refine AtCall.mem (m':=[(0,blkK K),(2,.cells [.g (.int .i64 kind),.g (.string name),.g (.string value),.g (.int .i64 a),.g (.int .i64 b),.sl l.length 6 (l.flatMap encS)]),(1,.cells [.sl S.cls.length 1 (S.cls.flatMap encN),.sl S.atts.length 1 (S.atts.flatMap encN),.sl p.length 5 (p.flatMap encNd),.sl PT.length 2 (PT.flatMap encP),.mp 0])]) (CallM.sub (m0:=[(0,blkK K)]) IH ⟨by decide,by simp [getL,Q0p,nmL,nmA,Q0z],by simp [nmL,nmA],by simp [Q0p,nmL,nmA,Q0z],by simp [nmA],by simp⟩) ?_
    (repeat ((try with_reducible refine W.step (b:=false) ?_);simp (decide:=true) only [go_sem,↓reduceIte,Nat.reduceAdd,Nat.reduceSub]))
    refine AtCall.mk (orQ_p _ hml) ?_
    (repeat ((try with_reducible refine W.step (b:=false) ?_);simp (decide:=true) only [go_sem,↓reduceIte,Nat.reduceAdd,Nat.reduceSub]))
    refine AtCall.mk (notQ_p _) ?_
    (repeat ((try with_reducible refine W.step (b:=false) ?_);simp (decide:=true) only [go_sem,↓reduceIte,Nat.reduceAdd,Nat.reduceSub]))
    generalize 2 - wiQ (orQ (l.map (simpQ S p n)))=R;exact ⟨.inr rfl,[aN,aN,aN,aN,aN,aN,(.g (.int .i64 R)),aN,aN,aN,aN,aN,aN,aN,aN,aN,aN,aN,aN,aN,aN,aN,aN,aN,aN,aN,aN,aN],Q2c (Nat.le_refl _) rfl (by simp [Q0e,Q0g,ltA]),rfl⟩
   have f11:=eq_false h11;rw [if_neg h11]
   (repeat ((try with_reducible refine W.step (b:=false) ?_);simp (decide:=true) only [go_sem,↓reduceIte,Nat.reduceAdd,Nat.reduceSub,f11]))
   refine AtCall.mk HM ?_;have hme:maySafe S (Simp.mk kind name value a b l).kind (Simp.mk kind name value a b l).name=maySafe S kind name:=rfl;rw [hme]
   cases hm:maySafe S kind name with
   | true =>
     (repeat ((try with_reducible refine W.step (b:=false) ?_);simp (decide:=true) only [go_sem,↓reduceIte,Nat.reduceAdd,Nat.reduceSub]))
     exact ⟨.inr rfl,[aN,aN,aN,aN,aN,aN,(.g (.int .i64 1)),aN,aN,aN,aN,aN,aN,aN,aN,aN,aN,aN,aN,aN,aN,aN,aN,aN,aN,aN,aN,aN],Q2c (Nat.le_refl _) rfl (by simp [Q0e,Q0g,ltA]),rfl⟩
   | false =>
     have hh:hldQ p n (.mk kind name value a b l)=holdsS p [] n (.mk kind name value a b l):=if_neg h11;rw [hh] at HH;have ht:(if holdsS p [] n (.mk kind name value a b l)=true then (2:Int) else 0)=twoQ (holdsS p [] n (.mk kind name value a b l)):=rfl;rw [if_neg (by decide),ht];generalize holdsS p [] n (.mk kind name value a b l)=B0 at HH ⊢
     (repeat ((try with_reducible refine W.step (b:=false) ?_);simp (decide:=true) only [go_sem,↓reduceIte,Nat.reduceAdd,Nat.reduceSub]))
     refine AtCall.mem (m':=[(0,blkK K),(2,.cells [.g (.int .i64 kind),.g (.string name),.g (.string value),.g (.int .i64 a),.g (.int .i64 b),.sl l.length 6 (l.flatMap encS)]),(1,.cells [.sl S.cls.length 1 (S.cls.flatMap encN),.sl S.atts.length 1 (S.atts.flatMap encN),.sl p.length 5 (p.flatMap encNd),.sl PT.length 2 (PT.flatMap encP),.mp 0])]) (CallM.sub (m0:=[(0,blkK K)]) HH ⟨by decide,by simp [getL,Q0p,nmL,nmA,Q0z],by simp [nmL,nmA],by simp [Q0p,nmL,nmA,Q0z],by simp [nmA],by simp⟩) ?_
     (repeat ((try with_reducible refine W.step (b:=false) ?_);simp (decide:=true) only [go_sem,↓reduceIte,Nat.reduceAdd,Nat.reduceSub]))
     refine AtCall.mk (ofQ_p B0) ?_
     (repeat ((try with_reducible refine W.step (b:=false) ?_);simp (decide:=true) only [go_sem,↓reduceIte,Nat.reduceAdd,Nat.reduceSub]))
     exact ⟨.inr rfl,[aN,aN,aN,aN,aN,aN,(.g (.int .i64 (twoQ B0))),aN,aN,aN,aN,aN,aN,aN,aN,aN,aN,aN,aN,aN,aN,aN,aN,aN,aN,aN,aN,aN],Q2c (Nat.le_refl _) rfl (by simp [Q0e,Q0g,ltA]),rfl⟩
attribute [go_sem] appL newsA isSlice
set_option maxRecDepth 100000 in
set_option maxHeartbeats 4000000 in
theorem relatedQ_m (S:Saf) (p:List Nod) (PT:List Part) (n:Nat) (comb:Int) (hp:OkPg p) (hT:TreeP p) (hn:n<p.length) (hin:(n:Int)∈kinM p n) (K:K2) :
 CallM Tryz.prog gt0 [] [(0,blkK K)] 1 262 [.agg (wldM S p PT),.g (.int .i64 (n:Int)),.g (.int .i64 comb)] (.sl (relatedM p n comb).length 1 ((relatedM p n comb).flatMap encZ)) [(0,blkK K)] 1:=by
 refine Q0m (c:=_) Tryz.func262 rfl (by kernel_rfl) ?_;simp only [Tryz.f262,List.replicate,List.length_cons,List.length_nil,Nat.reduceAdd,Nat.reduceSub,List.cons_append,List.nil_append,wldM];have hlen:=hp.len;have r:=rowNd hn;have hu:=Q0o hn;obtain ⟨A,hA⟩:∃ A,A=(aboveM p n).map fun k:Nat=>(k:Int):=⟨_,rfl⟩;have hab:∀ k:Nat,aboveM p k=if 0<(ndAt p k).up∧(ndAt p k).up<k then (ndAt p k).up.toNat::aboveM p (ndAt p k).up.toNat else []:=Q1t
 have hup:∀ (k:Nat) (hk:k<p.length),0<k→0≤p[k].up∧p[k].up<k:=fun k hk h0=>by rw [←Q0o hk];exact hT.up k h0 hk
 (repeat ((try with_reducible refine W.step (b:=false) ?_);simp (decide:=true) only [go_sem,↓reduceIte,Nat.reduceAdd,Nat.reduceSub,hn,r]))
 refine W.loop (s1:=stL [aN,(.g (.int .i64 (n:Int))),(.g (.int .i64 comb)),(.ptr 1 0),aN,aN,aN,(ownA 2 1 0 ([]:List Int)),(.g (.int .i64 p[n].up)),aN,aN,aN,aN,aN,aN,aN,aN,aN,aN,aN,aN,aN,aN,aN,aN,aN,aN,aN,aN,aN,aN,aN,aN,aN,aN,aN,aN,aN,aN,aN,aN,aN,aN,aN,aN,aN,aN,aN,aN,aN,aN,aN,aN,aN,aN,aN,aN,aN,aN,aN] ([(0,blkK K),(1,.cells [.sl S.cls.length 1 (S.cls.flatMap encN),.sl S.atts.length 1 (S.atts.flatMap encN),.sl p.length 5 (p.flatMap encNd),.sl PT.length 2 (PT.flatMap encP),.mp 0])]++rowsM encZ 2 (fun _=>([]:List Int)) 1) 3)
  (fun (q:List Int×Int) t=>(q.2<p.length∧q.1.length≤n∧(0<q.2→q.2<n)∧A=q.1++(if 0<q.2 then q.2::((aboveM p q.2.toNat).map fun k:Nat=>(k:Int)) else [])∧q.1.length+q.2.toNat≤n)∧t=stL [aN,(.g (.int .i64 (n:Int))),(.g (.int .i64 comb)),(.ptr 1 0),aN,aN,aN,(ownA 2 1 0 q.1),(.g (.int .i64 q.2)),aN,aN,aN,aN,aN,aN,aN,aN,aN,aN,aN,aN,aN,aN,aN,aN,aN,aN,aN,aN,aN,aN,aN,aN,aN,aN,aN,aN,aN,aN,aN,aN,aN,aN,aN,aN,aN,aN,aN,aN,aN,aN,aN,aN,aN,aN,aN,aN,aN,aN,aN] ([(0,blkK K),(1,.cells [.sl S.cls.length 1 (S.cls.flatMap encN),.sl S.atts.length 1 (S.atts.flatMap encN),.sl p.length 5 (p.flatMap encNd),.sl PT.length 2 (PT.flatMap encP),.mp 0])]++rowsM encZ 2 (fun _=>q.1) 1) 3) (fun q=>q.2.toNat)
  ([],p[n].up) ⟨?_,rfl⟩ ?_ ?_
 ·have hb:0<p[n].up→p[n].up<n:=fun h=>by
   by_cases h0:n=0
   ·have:=hT.root0 (by omega)
    subst h0;rw [←hu];simp only [Int.natCast_zero];omega
   ·exact (hup n hn (by omega)).2
  simp only [List.length_nil,List.nil_append];refine ⟨by omega,by omega,hb,?_,by omega⟩;rw [hA,hab,hu]
  by_cases h0:0<p[n].up
  ·rw [if_pos ⟨h0,hb h0⟩,if_pos h0,List.map_cons]
   congr 1
   omega
  ·rw [if_neg (by omega),if_neg h0];rfl
 ·refine VSkeep (show 1≤3 by decide) (fun q hq=>?_) (by simp [Q0e,Q0g,ltA,ownA])
  simp only [List.cons_append,List.nil_append,rows_nil,List.mem_cons,List.not_mem_nil,or_false] at hq;rcases hq with rfl | rfl
  ·exact ⟨(show 0<3 by decide),ltB_K _ _,rfl⟩
  ·exact ⟨(show 1<3 by decide),by simp [ltB,ltL,ltA],rfl⟩
 rintro ⟨acc,u⟩ t ⟨⟨h1,h2,h4,h3,h5⟩,rfl⟩;simp only at h1 h2 h3 h4 h5
 by_cases h0:0<u
 ·have f0:=eq_true h0
  obtain ⟨k,rfl⟩:∃ k:Nat,u=k:=⟨u.toNat,by omega⟩;have hk:k<p.length:=by omega
  have rk:=rowNd hk;have huk:=hup k hk (by omega);have hnext:p[k].up<p.length∧(acc++[(k:Int)]).length≤n∧(0<p[k].up→p[k].up<n)∧A=(acc++[(k:Int)])++(if 0<p[k].up then p[k].up::((aboveM p p[k].up.toNat).map fun k:Nat=>(k:Int)) else [])∧(acc++[(k:Int)]).length+p[k].up.toNat≤n:=by
   rw [List.length_append,List.length_singleton];refine ⟨by omega,by omega,fun h=>by omega,?_,by omega⟩;rw [h3,if_pos h0,Int.toNat_natCast,hab,Q0o hk]
   by_cases hz:0<p[k].up
   ·rw [if_pos ⟨hz,huk.2⟩,if_pos hz,List.map_cons,show ((p[k].up.toNat:Nat):Int)=p[k].up by omega];simp
   ·rw [if_neg (by omega),if_neg hz];simp
  have hm:p[k].up.toNat<k:=by omega
  have hne:acc++[(k:Int)]≠[]:=by simp
  have g2:=rows_one (enc:=encZ) (b0:=2) hne
  have hfin:∀ (m2:ML) (n2:Nat) (ll:List AV),getL m2 0=some (blkK K)→getL m2 1=some (.cells [.sl S.cls.length 1 (S.cls.flatMap encN),.sl S.atts.length 1 (S.atts.flatMap encN),.sl p.length 5 (p.flatMap encNd),.sl PT.length 2 (PT.flatMap encP),.mp 0])→getL m2 4=some (.cells ((acc++[(k:Int)]).flatMap encZ))→reT (mv 2 4) 3 [aN,(.g (.int .i64 (n:Int))),(.g (.int .i64 comb)),(.ptr 1 0),aN,aN,aN,(ownA 2 1 0 (acc++[(k:Int)])),(.g (.int .i64 p[k].up)),aN,aN,aN,aN,aN,aN,aN,aN,aN,aN,aN,aN,aN,aN,aN,aN,aN,aN,aN,aN,aN,aN,aN,aN,aN,aN,aN,aN,aN,aN,aN,aN,aN,aN,aN,aN,aN,aN,aN,aN,aN,aN,aN,aN,aN,aN,aN,aN,aN,aN,aN] ll →
   VS gt0 ⟨[],memL [(0,blkK K)],1⟩ (stL ll m2 n2) (stL [aN,(.g (.int .i64 (n:Int))),(.g (.int .i64 comb)),(.ptr 1 0),aN,aN,aN,(ownA 2 1 0 (acc++[(k:Int)])),(.g (.int .i64 p[k].up)),aN,aN,aN,aN,aN,aN,aN,aN,aN,aN,aN,aN,aN,aN,aN,aN,aN,aN,aN,aN,aN,aN,aN,aN,aN,aN,aN,aN,aN,aN,aN,aN,aN,aN,aN,aN,aN,aN,aN,aN,aN,aN,aN,aN,aN,aN,aN,aN,aN,aN,aN] ([(0,blkK K),(1,.cells [.sl S.cls.length 1 (S.cls.flatMap encN),.sl S.atts.length 1 (S.atts.flatMap encN),.sl p.length 5 (p.flatMap encNd),.sl PT.length 2 (PT.flatMap encP),.mp 0])]++rowsM encZ 2 (fun _=>(acc++[(k:Int)])) 1) 3):=fun m2 n2 ll g0 g1 g5 hl=>by
   refine VSmove 2 4 (show 1≤2 by decide) (by decide) (by decide) (fun q hq=>?_) hl;rw [g2] at hq;simp only [List.cons_append,List.nil_append,List.mem_cons,List.not_mem_nil,or_false] at hq;rcases hq with rfl | rfl | rfl
   ·exact ⟨(show 0≤2 by decide),ltB_K _ _,by rw [reB_K];exact g0⟩
   ·exact ⟨(show 1≤2 by decide),by simp [ltB,ltL,ltA],by simp only [reFB,reFL,reF];exact g1⟩
   ·exact ⟨(show 2≤2 by decide),ltL_Z _ _,by rw [reFB,reFL_Z];exact g5⟩
  by_cases hnil:acc=[]
  ·subst hnil
   (repeat ((try with_reducible refine W.step (b:=false) ?_);simp (decide:=true) only [go_sem,↓reduceIte,Nat.reduceAdd,Nat.reduceSub,own_nil,rows_nil,f0,hk,rk]))
   refine ⟨([]++[(k:Int)],p[k].up),_,⟨hnext,rfl⟩,by show p[k].up.toNat<(k:Int).toNat;omega,?_⟩;refine hfin _ _ _ rfl rfl (by simp [getL,encZ]) ?_;simp [Q3d,reT_nil,reF,ltA,mv,ownA]
  ·have hacc:=rows_one (enc:=encZ) (b0:=2) hnil
   have ho:=Q3f (b0:=2) (sz:=1) (j:=0) hnil;have f1:(acc.length+1≤acc.length)=False:=eq_false (by omega);have hlz:=lenZ acc;have f2:(acc.length+1)*9≤17179869184:=by omega
   (repeat ((try with_reducible refine W.step (b:=false) ?_);simp (decide:=true) only [go_sem,↓reduceIte,Nat.reduceAdd,Nat.reduceSub,hacc,ho,f0,hk,rk,f1,f2]))
   refine ⟨(acc++[(k:Int)],p[k].up),_,⟨hnext,rfl⟩,by show p[k].up.toNat<(k:Int).toNat;omega,?_⟩;refine hfin _ _ _ rfl rfl (by rw [List.flatMap_append];simp [getL,encZ]) ?_;rw [Q3f hne];simp [Q3d,reT_nil,reF,ltA,mv]
 have f0:=eq_false h0;rw [if_neg h0,List.append_nil] at h3;subst h3;clear h1 h2 h4 h5;obtain ⟨k,hk,hix⟩:∃ k:Nat,k<(kinM p n).length∧idxL (fun k=>decide (k=(n:Int))) (kinM p n)=(k:Int):=by
  rcases find_idx (fun k=>decide (k=(n:Int))) (kinM p n) with ⟨-,h2⟩ | ⟨k,hk,h1,-⟩
  ·rw [List.find?_eq_none] at h2
   exact absurd (decide_eq_true rfl) (h2 n hin)
  ·exact ⟨k,hk,h1⟩
 have hc:aheadM p n=(kinM p n).take k:=ahead_cut hk hix;have hle:k≤(kinM p n).length:=by omega
 have hal:(aheadM p n).length=k:=by rw [hc,List.length_take];omega
 have hz:((kinM p n).flatMap encZ).take k=(aheadM p n).flatMap encZ:=by rw [hc,mapZ,mapZ,List.map_take]
 have hkl:=kin_len (n:=(n:Int)) hp;refine W.vs (s1:=stL [aN,(.g (.int .i64 (n:Int))),(.g (.int .i64 comb)),(.ptr 1 0),aN,aN,aN,(.sl A.length 1 (A.flatMap encZ)),(.g (.int .i64 u)),aN,aN,aN,aN,aN,aN,aN,aN,aN,aN,aN,aN,aN,aN,aN,aN,aN,aN,aN,aN,aN,aN,aN,aN,aN,aN,aN,aN,aN,aN,aN,aN,aN,aN,aN,aN,aN,aN,aN,aN,aN,aN,aN,aN,aN,aN,aN,aN,aN,aN,aN] [(0,blkK K),(1,.cells [.sl S.cls.length 1 (S.cls.flatMap encN),.sl S.atts.length 1 (S.atts.flatMap encN),.sl p.length 5 (p.flatMap encNd),.sl PT.length 2 (PT.flatMap encP),.mp 0])] 3) ?_ ?_
 ·by_cases hnil:A=[]
  ·rw [hnil]
   exact VS.weak (by (repeat (first | refine ⟨_,_,rfl,wkA.any _,?_⟩ | refine ⟨_,_,rfl,wkA.refl _,?_⟩ | refine ⟨_,_,rfl,wkA.nil 1,?_⟩));rfl) ⟨.inl rfl,.inl rfl,trivial⟩
  ·rw [rows_one (enc:=encZ) (b0:=2) hnil,Q3f (b0:=2) (sz:=1) (j:=0) hnil]
   refine VS.sealT 2 _ rfl (plainZ A) ?_ ⟨⟨by decide,.inl rfl⟩,⟨by decide,.inl rfl⟩,trivial⟩;simp only [Q4b,frL_nil,frA_any,Q4c,and_true,true_and];exact .inr (.inr ⟨0,_,1,_,rfl,by rw [List.drop_zero,Nat.mul_one,takeZ],by rw [lenZ];omega⟩)
 have hAl:A.length≤1000000:=by
  have:=related_len (comb:=1) hp hn;unfold relatedM at this;rw [if_pos rfl,←hA] at this;exact this
 (repeat ((try with_reducible refine W.step (b:=false) ?_);simp (decide:=true) only [go_sem,↓reduceIte,Nat.reduceAdd,Nat.reduceSub,f0]))
 refine AtCall.mk (kin_p p n hp) ?_
 (repeat ((try with_reducible refine W.step (b:=false) ?_);simp (decide:=true) only [go_sem,↓reduceIte,Nat.reduceAdd,Nat.reduceSub]))
 refine AtCall.mk (indexI_p (kinM p n) n hkl) ?_;rw [hix];unfold relatedM
 by_cases h1:comb=1
 ·have f1:=eq_true h1
  rw [if_pos h1,←hA]
  (repeat ((try with_reducible refine W.step (b:=false) ?_);simp (decide:=true) only [go_sem,↓reduceIte,Nat.reduceAdd,Nat.reduceSub,f1,hle,hz]))
  exact ⟨.inr rfl,[aN,aN,aN,aN,aN,aN,(.sl A.length 1 (A.flatMap encZ)),aN,aN,aN,aN,aN,aN,aN,aN,aN,aN,aN,aN,aN,aN,aN,aN,aN,aN,aN,aN,aN,aN,aN,aN,aN,aN,aN,aN,aN,aN,aN,aN,aN,aN,aN,aN,aN,aN,aN,aN,aN,aN,aN,aN,aN,aN,aN,aN,aN,aN,aN,aN,aN],Q2c (Nat.le_refl _) rfl (by simp [Q0e,Q0g,ltA]),rfl⟩
 have f1:=eq_false h1;rw [if_neg h1]
 by_cases h2:comb=2
 ·have f2:=eq_true h2
  rw [if_pos h2,List.map_take,←hA];obtain ⟨j,hj⟩:∃ j,j=min 1 A.length:=⟨_,rfl⟩;have fm:(if (A.length:Int)<1 then (A.length:Int) else 1)=(j:Int):=by rw [hj];split <;> omega
  have fk:j≤A.length:=by omega
  have hl2:(A.take 1).length=j:=by rw [List.length_take];omega
  have hz2:(A.flatMap encZ).take j=(A.take 1).flatMap encZ:=by
   rw [mapZ,mapZ,←List.map_take,hj]
   congr 1
   rw [List.take_eq_take_iff];omega
  rw [hl2]
  (repeat ((try with_reducible refine W.step (b:=false) ?_);simp (decide:=true) only [go_sem,↓reduceIte,Nat.reduceAdd,Nat.reduceSub,f1,f2,hle,hz,fm,fk,hz2]))
  exact ⟨.inr rfl,[aN,aN,aN,aN,aN,aN,(.sl j 1 ((A.take 1).flatMap encZ)),aN,aN,aN,aN,aN,aN,aN,aN,aN,aN,aN,aN,aN,aN,aN,aN,aN,aN,aN,aN,aN,aN,aN,aN,aN,aN,aN,aN,aN,aN,aN,aN,aN,aN,aN,aN,aN,aN,aN,aN,aN,aN,aN,aN,aN,aN,aN,aN,aN,aN,aN,aN,aN],Q2c (Nat.le_refl _) rfl (by simp [Q0e,Q0g,ltA]),rfl⟩
 have f2:=eq_false h2;rw [if_neg h2]
 by_cases h3:comb=3
 ·have f3:=eq_true h3
  rw [if_pos h3];have hl2:((aheadM p n).drop ((aheadM p n).length - 1)).length=k - (k - 1):=by rw [List.length_drop,hal]
  rw [hl2];have fw:IntKind.i64.wrap ((k:Int) - 1)=(k:Int) - 1:=IntWalk.i64_in _ (by omega);have fm:(if 0<(k:Int) - 1 then (k:Int) - 1 else 0)=((k - 1:Nat):Int):=by split <;> omega
  have fk:k - 1≤k:=by omega
  have hz2:(((aheadM p n).flatMap encZ).drop (k - 1)).take (k - (k - 1))=((aheadM p n).drop ((aheadM p n).length - 1)).flatMap encZ:=by
   rw [List.take_of_length_le (by rw [List.length_drop,lenZ,hal];exact Nat.le_refl _),mapZ,mapZ,List.map_drop,hal]
  (repeat ((try with_reducible refine W.step (b:=false) ?_);simp (decide:=true) only [go_sem,↓reduceIte,Nat.reduceAdd,Nat.reduceSub,f1,f2,f3,hle,hz,fw,fm,fk,hz2]))
  exact ⟨.inr rfl,[aN,aN,aN,aN,aN,aN,(.sl (k - (k - 1)) 1 (((aheadM p n).drop ((aheadM p n).length - 1)).flatMap encZ)),aN,aN,aN,aN,aN,aN,aN,aN,aN,aN,aN,aN,aN,aN,aN,aN,aN,aN,aN,aN,aN,aN,aN,aN,aN,aN,aN,aN,aN,aN,aN,aN,aN,aN,aN,aN,aN,aN,aN,aN,aN,aN,aN,aN,aN,aN,aN,aN,aN,aN,aN,aN,aN],Q2c (Nat.le_refl _) rfl (by simp [Q0e,Q0g,ltA]),rfl⟩
 have f3:=eq_false h3;rw [if_neg h3]
 by_cases h4:comb=4
 ·have f4:=eq_true h4
  rw [if_pos h4,hal]
  (repeat ((try with_reducible refine W.step (b:=false) ?_);simp (decide:=true) only [go_sem,↓reduceIte,Nat.reduceAdd,Nat.reduceSub,f1,f2,f3,f4,hle,hz]))
  exact ⟨.inr rfl,[aN,aN,aN,aN,aN,aN,(.sl k 1 ((aheadM p n).flatMap encZ)),aN,aN,aN,aN,aN,aN,aN,aN,aN,aN,aN,aN,aN,aN,aN,aN,aN,aN,aN,aN,aN,aN,aN,aN,aN,aN,aN,aN,aN,aN,aN,aN,aN,aN,aN,aN,aN,aN,aN,aN,aN,aN,aN,aN,aN,aN,aN,aN,aN,aN,aN,aN,aN],Q2c (Nat.le_refl _) rfl (by simp [Q0e,Q0g,ltA]),rfl⟩
 ·have f4:=eq_false h4
  rw [if_neg h4]
  (repeat ((try with_reducible refine W.step (b:=false) ?_);simp (decide:=true) only [go_sem,↓reduceIte,Nat.reduceAdd,Nat.reduceSub,f1,f2,f3,f4,hle,hz]))
  exact ⟨.inr rfl,[aN,aN,aN,aN,aN,aN,(.sl 0 1 []),aN,aN,aN,aN,aN,aN,aN,aN,aN,aN,aN,aN,aN,aN,aN,aN,aN,aN,aN,aN,aN,aN,aN,aN,aN,aN,aN,aN,aN,aN,aN,aN,aN,aN,aN,aN,aN,aN,aN,aN,aN,aN,aN,aN,aN,aN,aN,aN,aN,aN,aN,aN,aN],VS.trans (VS.weak (l':=[aN,aN,aN,aN,aN,aN,(.sl 0 1 []),aN,aN,aN,aN,aN,aN,aN,aN,aN,aN,aN,aN,aN,aN,aN,aN,aN,aN,aN,aN,aN,aN,aN,aN,aN,aN,aN,aN,aN,aN,aN,aN,aN,aN,aN,aN,aN,aN,aN,aN,aN,aN,aN,aN,aN,aN,aN,aN,aN,aN,aN,aN,aN]) (m':=[(0,blkK K),(1,.cells [.sl S.cls.length 1 (S.cls.flatMap encN),.sl S.atts.length 1 (S.atts.flatMap encN),.sl p.length 5 (p.flatMap encNd),.sl PT.length 2 (PT.flatMap encP),.mp 0])]) (by (repeat (first | refine ⟨_,_,rfl,wkA.any _,?_⟩ | refine ⟨_,_,rfl,wkA.nil 1,?_⟩));rfl) ⟨.inl rfl,.inl rfl,trivial⟩) (Q2c (Nat.le_refl _) rfl (by simp [Q0e,Q0g,ltA])),rfl⟩
attribute [go_sem] appL newsA isSlice
def FindQM (S:Saf) (p:List Nod) (PT:List Part) (q:Nat) (n:Int) (find:K2→Int×K2):Prop:=∀ K:K2,OkQ S p PT q K→CallM Tryz.prog gt0 [] [(0,blkK K)] 1 195 [.agg (wldM S p PT),.g (.int .i64 n),.g (.int .i64 (q:Int))] (.g (.int .i64 (find K).1)) [(0,blkK (find K).2)] 1
def FitsQM (S:Saf) (p:List Nod) (PT:List Part) (q:Nat):Prop:=∀ (K:K2) (n:Nat),n<p.length→OkQ S p PT (q+1) K→CallM Tryz.prog gt0 [] [(0,blkK K)] 1 118 [.agg (wldM S p PT),.g (.int .i64 (n:Int)),.g (.int .i64 (q:Int))] (.g (.int .i64 (rightQ S p PT q n))) [(0,blkK (fitsKQ S p PT q K n).2)] 1
set_option maxRecDepth 100000 in
set_option maxHeartbeats 4000000 in
theorem fitsQ_of (S:Saf) (p:List Nod) (PT:List Part) (q n:Nat) (find:K2→Int×K2) (HF:FindQM S p PT q n find) (HT:∀ K,OkQ S p PT q K→(find K).1=rightQ S p PT q n) (K:K2) (hK:OkQ S p PT (q+1) K) :
 CallM Tryz.prog gt0 [] [(0,blkK K)] 1 118 [.agg (wldM S p PT),.g (.int .i64 (n:Int)),.g (.int .i64 (q:Int))] (.g (.int .i64 (rightQ S p PT q n))) [(0,blkK (memoQ find ((n:Int),(q:Int)) K).2)] 1:=by
 have hl:=fun K=>look_K ((n:Int),(q:Int)) K;have hm:=fun K v=>mset_K ((n:Int),(q:Int)) K v;have hb:0≤rightQ S p PT q n∧rightQ S p PT q n≤2:=fitsQ_bd S p _ n;have hK0:OkQ S p PT q K:=fun n' q' hq=>hK n' q' (by omega);have H:=HF K hK0;have hT:=HT K hK0;have hK1:=hK n q (Nat.lt_succ_self _);simp only [keyA] at hl hm;refine Q0m (c:=_) Tryz.func118 rfl (by kernel_rfl) ?_;simp only [Tryz.f118,List.replicate,List.length_cons,List.length_nil,Nat.reduceAdd,Nat.reduceSub,List.cons_append,List.nil_append,wldM] at H ⊢;unfold memoQ;rw [hT] at H;generalize rightQ S p PT q n=r at *;have fw:IntKind.i64.wrap (1+r)=1+r:=IntWalk.i64_in _ (by omega);have fw2:IntKind.i64.wrap (1+r - 1)=r:=(IntWalk.i64_in _ (by omega)).trans (by omega)
 by_cases h0:getK K ((n:Int),(q:Int))=0
 ·have f0:=eq_true h0
  rw [if_pos h0];simp only [hT];generalize (find K).2=K2 at H ⊢;have hgs:=get_set ((n:Int),(q:Int)) (1+r) K2
  (repeat ((try with_reducible refine W.step (b:=true) ?_);simp (decide:=true) only [go_sem,↓reduceIte,Nat.reduceAdd,Nat.reduceSub,hl,hm,f0];(try with_reducible refine drawn hmix (by kernel_rfl) ?_);try with_reducible refine ⟨by kernel_rfl,?_⟩))
  refine AtCallD.mem (m':=[(0,blkK K2),(2,.cells [.g (.int .i64 (n:Int)),.g (.int .i64 (q:Int))]),(1,.cells [.sl S.cls.length 1 (S.cls.flatMap encN),.sl S.atts.length 1 (S.atts.flatMap encN),.sl p.length 5 (p.flatMap encNd),.sl PT.length 2 (PT.flatMap encP),.mp 0])]) (CallM.subD (m0:=[(0,blkK K)]) H ⟨by decide,by simp [getL,Q0p,nmL,nmA,Q0z],by simp [nmL,nmA],by simp [Q0p,nmL,nmA,Q0z],by simp [nmA],by simp⟩) ?_
  (repeat ((try with_reducible refine W.step (b:=true) ?_);simp (decide:=true) only [go_sem,↓reduceIte,Nat.reduceAdd,Nat.reduceSub,hl,hm,hgs,fw,fw2];(try with_reducible refine drawn hmix (by kernel_rfl) ?_);try with_reducible refine ⟨by kernel_rfl,?_⟩))
  exact ⟨.inr rfl,[aN,aN,aN,aN,aN,aN,(.g (.int .i64 r)),aN,aN,aN,aN,aN,aN,aN,aN,aN,aN,aN,aN,aN,aN,aN,aN,aN,aN,aN,aN,aN,aN],Q2c (Nat.le_refl _) rfl (by simp [Q0e,Q0g,ltA]),rfl⟩
 ·have f0:=eq_false h0
  have hv:=hK1.resolve_left h0;rw [if_neg h0];have f1:(1+r=0)=False:=eq_false (by omega)
  (repeat ((try with_reducible refine W.step (b:=true) ?_);simp (decide:=true) only [go_sem,↓reduceIte,Nat.reduceAdd,Nat.reduceSub,hl,hm,f0,hv,fw2,f1];(try with_reducible refine drawn hmix (by kernel_rfl) ?_);try with_reducible refine ⟨by kernel_rfl,?_⟩))
  exact ⟨.inr rfl,[aN,aN,aN,aN,aN,aN,(.g (.int .i64 r)),aN,aN,aN,aN,aN,aN,aN,aN,aN,aN,aN,aN,aN,aN,aN,aN,aN,aN,aN,aN,aN,aN],Q2c (Nat.le_refl _) rfl (by simp [Q0e,Q0g,ltA]),rfl⟩
set_option maxRecDepth 100000 in
set_option maxHeartbeats 4000000 in
theorem findQ_m (S:Saf) (p:List Nod) (PT:List Part) (q:Nat) (hp:OkPg p) (hT:TreeP p) (hS:OkSf S) (hPT:okPT PT) (hN:∀ pt∈PT,∀ x∈pt.l,okN x) (hq:q<PT.length) (n:Nat) (hn:n<p.length) (fits:K2→Int→Int×K2)
 (hF:∀ q',q=q'+1→FitsQM S p PT q'∧fits=fitsKQ S p PT q'):FindQM S p PT q n (fun K=>findQ S p PT fits q K n):=by
 intro K hK;have rp:=rowP hq;obtain ⟨hl1,hl2⟩:=hPT.2 _ (List.getElem_mem hq);have hN2:=hN _ (List.getElem_mem hq);have hlen:=hPT.1;have HE:=Q3s p n;have hfind:findQ S p PT fits q K n=if elemB p n=true then (if q=0∨partQ S p PT[q] n=0 then (partQ S p PT[q] n,K) else (andQ [partQ S p PT[q] n,(foldQ fits K 0 (relatedM p n PT[q].comb)).1],(foldQ fits K 0 (relatedM p n PT[q].comb)).2)) else (0,K):=by
  unfold findQ;rw [List.getElem?_eq_getElem hq];simp only [Int.toNat_natCast]
 refine Q0m (c:=_) Tryz.func195 rfl (by kernel_rfl) ?_;have HL:elemB p n=true→CallM Tryz.prog gt0 [] [(0,blkK K)] 1 261 [.agg (wldM S p PT),.g (.int .i64 (n:Int)),.sl PT[q].l.length 6 (PT[q].l.flatMap encS)] (.sl (PT[q].l.map (simpQ S p n)).length 1 ((PT[q].l.map (simpQ S p n)).flatMap encZ)) [(0,blkK K)] 1:=fun he=>simpsQ_m S p PT n PT[q].l hl1 K fun x hx=>simpQ_m S p PT n hp hS he K _ x (Nat.le_refl _) (hl2 x hx) (hN2 x hx);have HRel:elemB p n=true→∀ K',CallM Tryz.prog gt0 [] [(0,blkK K')] 1 262 [.agg (wldM S p PT),.g (.int .i64 (n:Int)),.g (.int .i64 PT[q].comb)] (.sl (relatedM p n PT[q].comb).length 1 ((relatedM p n PT[q].comb).flatMap encZ)) [(0,blkK K')] 1:=fun he K'=>relatedQ_m S p PT n PT[q].comb hp hT hn (kin_self hT he).1 K';have hml:(PT[q].l.map (simpQ S p n)).length≤1000000:=by rw [List.length_map];exact hl1
 have hrl:(relatedM p n PT[q].comb).length≤1000000:=related_len hp hn;have hrn:∀ x∈relatedM p n PT[q].comb,∃ k:Nat,x=(k:Int)∧k<p.length:=fun x hx=>Q3w hn hx;simp only [Tryz.f195,List.replicate,List.length_cons,List.length_nil,Nat.reduceAdd,Nat.reduceSub,List.cons_append,List.nil_append,wldM] at HL HRel ⊢;rw [hfind];have hX:partQ S p PT[q] n=andQ (PT[q].l.map (simpQ S p n)):=rfl;rw [hX];clear hX hfind hN2 hl2;generalize relatedM p n PT[q].comb=R at *;generalize hSL:PT[q].l.map (simpQ S p n)=SL at *;generalize PT[q].comb=comb at *;generalize PT[q].l=l at *;have HA:=andQ_p SL hml;generalize andQ SL=X at *
 (repeat ((try with_reducible refine W.step (b:=false) ?_);simp (decide:=true) only [go_sem,↓reduceIte,Nat.reduceAdd,Nat.reduceSub,hq,rp]))
 refine AtCall.mk HE ?_
 cases he:elemB p n with
 | false =>
   rw [if_neg (by decide)]
   (repeat ((try with_reducible refine W.step (b:=false) ?_);simp (decide:=true) only [go_sem,↓reduceIte,Nat.reduceAdd,Nat.reduceSub]))
   exact ⟨.inr rfl,[aN,aN,aN,aN,aN,aN,(.g (.int .i64 0)),aN,aN,aN,aN,aN,aN,aN,aN,aN,aN,aN,aN,aN,aN,aN,aN,aN,aN,aN,aN,aN,aN,aN,aN,aN,aN,aN,aN,aN,aN,aN,aN,aN,aN,aN,aN,aN,aN,aN,aN,aN,aN,aN,aN,aN,aN,aN,aN,aN,aN,aN],Q2c (Nat.le_refl _) rfl (by simp [Q0e,Q0g,ltA]),rfl⟩
 | true =>
   have HL':=HL he;have HR':=HRel he;rw [if_pos rfl]
   (repeat ((try with_reducible refine W.step (b:=false) ?_);simp (decide:=true) only [go_sem,↓reduceIte,Nat.reduceAdd,Nat.reduceSub,hq,rp]))
   refine AtCall.mem (m':=[(0,blkK K),(2,.cells [.g (.int .i64 comb),.sl l.length 6 (l.flatMap encS)]),(1,.cells [.sl S.cls.length 1 (S.cls.flatMap encN),.sl S.atts.length 1 (S.atts.flatMap encN),.sl p.length 5 (p.flatMap encNd),.sl PT.length 2 (PT.flatMap encP),.mp 0])]) (CallM.sub (m0:=[(0,blkK K)]) HL' ⟨by decide,by simp [getL,Q0p,nmL,nmA,Q0z],by simp [nmL,nmA],by simp [Q0p,nmL,nmA,Q0z],by simp [nmA],by simp⟩) ?_
   (repeat ((try with_reducible refine W.step (b:=false) ?_);simp (decide:=true) only [go_sem,↓reduceIte,Nat.reduceAdd,Nat.reduceSub]))
   refine AtCall.mk HA ?_
   cases q with
   | zero =>
     rw [if_pos (.inl rfl)]
     (repeat ((try with_reducible refine W.step (b:=false) ?_);simp (decide:=true) only [go_sem,↓reduceIte,Nat.reduceAdd,Nat.reduceSub]))
     exact ⟨.inr rfl,[aN,aN,aN,aN,aN,aN,(.g (.int .i64 X)),aN,aN,aN,aN,aN,aN,aN,aN,aN,aN,aN,aN,aN,aN,aN,aN,aN,aN,aN,aN,aN,aN,aN,aN,aN,aN,aN,aN,aN,aN,aN,aN,aN,aN,aN,aN,aN,aN,aN,aN,aN,aN,aN,aN,aN,aN,aN,aN,aN,aN,aN],Q2c (Nat.le_refl _) rfl (by simp [Q0e,Q0g,ltA]),rfl⟩
   | succ q =>
     have f0:(((q+1:Nat):Int)=0)=False:=eq_false (by omega)
     by_cases hX:X=0
     ·have fX:=eq_true hX
      rw [if_pos (.inr hX)]
      (repeat ((try with_reducible refine W.step (b:=false) ?_);simp (decide:=true) only [go_sem,↓reduceIte,Nat.reduceAdd,Nat.reduceSub,f0,fX]))
      exact ⟨.inr rfl,[aN,aN,aN,aN,aN,aN,(.g (.int .i64 X)),aN,aN,aN,aN,aN,aN,aN,aN,aN,aN,aN,aN,aN,aN,aN,aN,aN,aN,aN,aN,aN,aN,aN,aN,aN,aN,aN,aN,aN,aN,aN,aN,aN,aN,aN,aN,aN,aN,aN,aN,aN,aN,aN,aN,aN,aN,aN,aN,aN,aN,aN],Q2c (Nat.le_refl _) rfl (by simp [Q0e,Q0g,ltA]),rfl⟩
     ·rw [if_neg (fun h=>h.elim (by omega) hX)]
      obtain ⟨HQ,rfl⟩:=hF q rfl;have fw:IntKind.i64.wrap (((q+1:Nat):Int) - 1)=(q:Int):=by rw [IntWalk.i64_in _ (by omega)];omega
      (repeat ((try with_reducible refine W.step (b:=false) ?_);simp (decide:=true) only [go_sem,↓reduceIte,Nat.reduceAdd,Nat.reduceSub,f0,hX]))
      refine AtCall.mem (m':=[(0,blkK K),(2,.cells [.g (.int .i64 comb),.sl l.length 6 (l.flatMap encS)]),(1,.cells [.sl S.cls.length 1 (S.cls.flatMap encN),.sl S.atts.length 1 (S.atts.flatMap encN),.sl p.length 5 (p.flatMap encNd),.sl PT.length 2 (PT.flatMap encP),.mp 0])]) (CallM.sub (m0:=[(0,blkK K)]) (HR' K) ⟨by decide,by simp [getL,Q0p,nmL,nmA,Q0z],by simp [nmL,nmA],by simp [Q0p,nmL,nmA,Q0z],by simp [nmA],by simp⟩) ?_
      (repeat ((try with_reducible refine W.step (b:=false) ?_);simp (decide:=true) only [go_sem,↓reduceIte,Nat.reduceAdd,Nat.reduceSub]))
      refine W.loop (s1:=stL [aN,(.g (.int .i64 (n:Int))),(.g (.int .i64 ((q+1:Nat):Int))),(.ptr 1 0),aN,aN,aN,aN,(.g (.int .i64 X)),(.g (.int .i64 0)),aN,aN,aN,aN,aN,aN,aN,aN,aN,aN,aN,aN,aN,aN,aN,aN,aN,aN,aN,aN,aN,aN,aN,aN,aN,aN,aN,aN,aN,(.sl R.length 1 (R.flatMap encZ)),(.g (.int .i64 (R.length:Int))),(.g (.int .i64 ((0:Nat):Int))),aN,aN,aN,aN,aN,aN,aN,aN,aN,aN,aN,aN,aN,aN,aN,aN] [(0,blkK K),(1,.cells [.sl S.cls.length 1 (S.cls.flatMap encN),.sl S.atts.length 1 (S.atts.flatMap encN),.sl p.length 5 (p.flatMap encNd),.sl PT.length 2 (PT.flatMap encP),.mp 0])] 2)
       (fun (r:Nat×Int×K2) t=>r.1≤R.length∧OkQ S p PT (q+1) r.2.2∧foldQ (fitsKQ S p PT q) K 0 R=foldQ (fitsKQ S p PT q) r.2.2 r.2.1 (R.drop r.1)∧t=stL [aN,(.g (.int .i64 (n:Int))),(.g (.int .i64 ((q+1:Nat):Int))),(.ptr 1 0),aN,aN,aN,aN,(.g (.int .i64 X)),(.g (.int .i64 r.2.1)),aN,aN,aN,aN,aN,aN,aN,aN,aN,aN,aN,aN,aN,aN,aN,aN,aN,aN,aN,aN,aN,aN,aN,aN,aN,aN,aN,aN,aN,(.sl R.length 1 (R.flatMap encZ)),(.g (.int .i64 (R.length:Int))),(.g (.int .i64 (r.1:Int))),aN,aN,aN,aN,aN,aN,aN,aN,aN,aN,aN,aN,aN,aN,aN,aN] [(0,blkK r.2.2),(1,.cells [.sl S.cls.length 1 (S.cls.flatMap encN),.sl S.atts.length 1 (S.atts.flatMap encN),.sl p.length 5 (p.flatMap encNd),.sl PT.length 2 (PT.flatMap encP),.mp 0])] 2) (fun r=>R.length - r.1) (0,0,K) ⟨Nat.zero_le _,hK,rfl,rfl⟩ ?_ ?_
      ·refine VSkeep (show 1≤2 by decide) (fun r hr=>?_) (by simp [Q0e,Q0g,ltA])
       simp only [List.mem_cons,List.not_mem_nil,or_false] at hr;rcases hr with rfl | rfl
       ·exact ⟨(show 0<2 by decide),ltB_K _ _,rfl⟩
       ·exact ⟨(show 1<2 by decide),by simp [ltB,ltL,ltA],rfl⟩
      rintro ⟨i,a,K1⟩ t ⟨hi,hK1,hfo,rfl⟩;simp only at hi hK1 hfo
      by_cases hlt:i<R.length
      ·obtain ⟨k,hk,hkl⟩:=hrn _ (List.getElem_mem hlt)
       have r:=rowZ hlt;have HC:=HQ K1 k hkl hK1;obtain ⟨g1,g2,-⟩:=fits_turnQ (S:=S) (p:=p) (PT:=PT) q (by omega) k hkl K1 hK1;have hd:R.drop i=(k:Int)::R.drop (i+1):=by rw [List.drop_eq_getElem_cons hlt,hk]
       rw [hd,foldQ,g1] at hfo;rw [hk] at r;generalize (fitsKQ S p PT q K1 k).2=K2' at HC g2 hfo;generalize rightQ S p PT q k=v at HC hfo;simp only [wldM] at HC
       (repeat ((try with_reducible refine W.step (b:=false) ?_);simp (decide:=true) only [go_sem,↓reduceIte,Nat.reduceAdd,Nat.reduceSub,hlt,r,fw]))
       refine AtCall.mem (m':=[(0,blkK K2'),(1,.cells [.sl S.cls.length 1 (S.cls.flatMap encN),.sl S.atts.length 1 (S.atts.flatMap encN),.sl p.length 5 (p.flatMap encNd),.sl PT.length 2 (PT.flatMap encP),.mp 0])]) (CallM.sub (m0:=[(0,blkK K1)]) HC ⟨by decide,by simp [getL,Q0p,nmL,nmA,Q0z],by simp [nmL,nmA],by simp [Q0p,nmL,nmA,Q0z],by simp [nmA],by simp⟩) ?_
       (repeat ((try with_reducible refine W.step (b:=false) ?_);simp (decide:=true) only [go_sem,↓reduceIte,Nat.reduceAdd,Nat.reduceSub]))
       refine AtCall.mem (PureN.read (orQ_p [a,v] (by simp)) (CloseTo.gs (b:=2) (o:=0) (k:=2) (sz:=1) (cs:=[.g (.int .i64 a),.g (.int .i64 v)]) rfl (by simp) (by simp [plainC]) CloseTo.nil)) ?_
       (repeat ((try with_reducible refine W.step (b:=false) ?_);simp (decide:=true) only [go_sem,↓reduceIte,Nat.reduceAdd,Nat.reduceSub]))
       refine ⟨(i+1,orQ [a,v],K2'),_,⟨by omega,g2,hfo,rfl⟩,by show R.length - (i+1)<R.length - i;omega,?_⟩;rw [up1 (by omega)];refine VSkeep (show 1≤2 by decide) (fun r hr=>?_) (by simp [Q0e,Q0g,ltA]);simp only [List.mem_cons,List.not_mem_nil,or_false] at hr;rcases hr with rfl | rfl
       ·exact ⟨(show 0<2 by decide),ltB_K _ _,rfl⟩
       ·exact ⟨(show 1<2 by decide),by simp [ltB,ltL,ltA],rfl⟩
      ·rw [List.drop_of_length_le (by omega),foldQ] at hfo
       rw [hfo]
       (repeat ((try with_reducible refine W.step (b:=false) ?_);simp (decide:=true) only [go_sem,↓reduceIte,Nat.reduceAdd,Nat.reduceSub,hlt]))
       refine AtCall.mem (PureN.read (andQ_p [X,a] (by simp)) (CloseTo.gs (b:=2) (o:=0) (k:=2) (sz:=1) (cs:=[.g (.int .i64 X),.g (.int .i64 a)]) rfl (by simp) (by simp [plainC]) CloseTo.nil)) ?_
       (repeat ((try with_reducible refine W.step (b:=false) ?_);simp (decide:=true) only [go_sem,↓reduceIte,Nat.reduceAdd,Nat.reduceSub]))
       exact ⟨.inr rfl,[aN,aN,aN,aN,aN,aN,(.g (.int .i64 (andQ [X,a]))),aN,aN,aN,aN,aN,aN,aN,aN,aN,aN,aN,aN,aN,aN,aN,aN,aN,aN,aN,aN,aN,aN,aN,aN,aN,aN,aN,aN,aN,aN,aN,aN,aN,aN,aN,aN,aN,aN,aN,aN,aN,aN,aN,aN,aN,aN,aN,aN,aN,aN,aN],Q2c (Nat.le_refl _) rfl (by simp [Q0e,Q0g,ltA]),rfl⟩
attribute [go_sem] appL newsA isSlice
theorem find_turnQ {S:Saf} {p:List Nod} {PT:List Part}:∀ (q:Nat),q<PT.length→∀ (n:Nat),n<p.length→∀ (fits:K2→Int→Int×K2),(∀ q',q=q'+1→fits=fitsKQ S p PT q')→∀ K,OkQ S p PT q K→(findQ S p PT fits q K n).1=rightQ S p PT q n
 | 0,hq,n,hn,fits,_,K,hK=>by
   unfold findQ;rw [List.getElem?_eq_getElem hq,rightQ_zero hq];simp only [true_or,if_true]
   split <;> rfl
 | q + 1,hq,n,hn,fits,hf,K,hK=>by
   obtain rfl:=hf q rfl;unfold findQ;rw [List.getElem?_eq_getElem hq,rightQ_step hq];simp only
   split
   ·by_cases h:partQ S p PT[q+1] n=0
    ·rw [if_pos h,if_pos (Or.inr h:q+1=0∨_),h]
    ·rw [if_neg h,if_neg (fun h2:q+1=0∨_=>h2.elim (by omega) h),Int.toNat_natCast]
     obtain ⟨g1,-,-⟩:=fold_turnQ (f:=fitsKQ S p PT q) (r:=fun k=>rightQ S p PT q k.toNat) (relatedM p n PT[q+1].comb) K 0 (fun K x hx hK=>by
      obtain ⟨k,rfl,hk⟩:=Q3w hn hx
      exact fits_turnQ q (by omega) k hk K hK) hK
     rw [g1]
   ·rfl
theorem fitsQ_m (S:Saf) (p:List Nod) (PT:List Part) (hp:OkPg p) (hT:TreeP p) (hS:OkSf S) (hPT:okPT PT) (hN:∀ pt∈PT,∀ x∈pt.l,okN x):∀ q,q<PT.length→FitsQM S p PT q
 | 0,hq,K,n,hn,hK=>fitsQ_of S p PT 0 n _ (findQ_m S p PT 0 hp hT hS hPT hN hq n hn (fun K _=>(0,K)) (fun q' h=>by omega)) (find_turnQ 0 hq n hn _ (fun q' h=>by omega)) K hK
 | q + 1,hq,K,n,hn,hK=>fitsQ_of S p PT (q+1) n _ (findQ_m S p PT (q+1) hp hT hS hPT hN hq n hn (fitsKQ S p PT q) (fun q' h=>by
     obtain rfl:q=q':=by omega
     exact ⟨fitsQ_m S p PT hp hT hS hPT hN q (by omega),rfl⟩)) (find_turnQ (q+1) hq n hn _ (by intro q' h;obtain rfl:q=q':=(by omega);rfl)) K hK
theorem bl_msafe (parts:List (Nat×AV)):evBuild Tryz.prog 195 parts=aggM (fillL [(0,2)] [.g (.slice none 0 0),.g (.slice none 0 0)] parts):=Q1d (by kernel_rfl) parts
theorem bl_mworld (parts:List (Nat×AV)):evBuild Tryz.prog 198 parts=aggM (fillL [(0,2),(2,1),(3,1),(4,1)] [.g (.slice none 0 0),.g (.slice none 0 0),.g (.slice none 0 0),.g (.slice none 0 0),.g (.map none)] parts):=Q1d (by kernel_rfl) parts
theorem ze_mworld:zeroO Tryz.prog 198=some [.g (.slice none 0 0),.g (.slice none 0 0),.g (.slice none 0 0),.g (.slice none 0 0),.g (.map none)]:=by kernel_rfl
attribute [go_sem] bl_msafe bl_mworld ze_mworld
def swp (a b c:Nat):Nat:=if c=0 then a else if c=1 then b else c
set_option maxRecDepth 100000 in
set_option maxHeartbeats 4000000 in
theorem newWorld_m (S:Saf) (p:List Nod) (PT:List Part) (hp:OkPg p):CallM Tryz.prog gt0 [] [] 0 117 [.agg (safA S),.sl p.length 5 (p.flatMap encNd),.sl PT.length 2 (PT.flatMap encP)] (.agg [.sl S.cls.length 1 (S.cls.flatMap encN),.sl S.atts.length 1 (S.atts.flatMap encN),.sl (pageM p).length 5 ((pageM p).flatMap encNd),.sl PT.length 2 (PT.flatMap encP),.mp 1]) [(0,.cells [.sl S.cls.length 1 (S.cls.flatMap encN),.sl S.atts.length 1 (S.atts.flatMap encN),.sl (pageM p).length 5 ((pageM p).flatMap encNd),.sl PT.length 2 (PT.flatMap encP),.mp 1]),(1,blkK [])] 2:=by
 refine Q0m (c:=_) Tryz.func117 rfl (by kernel_rfl) ?_;simp only [Tryz.f117,List.replicate,List.length_cons,List.length_nil,Nat.reduceAdd,Nat.reduceSub,List.cons_append,List.nil_append,safA];have HRs:resV Tryz.prog [aN,aN,aN,aN,aN,aN,(.ptr 0 0),aN,aN,aN,aN,aN,aN,aN,aN,aN] [(0,.cells [.sl S.cls.length 1 (S.cls.flatMap encN),.sl S.atts.length 1 (S.atts.flatMap encN),.sl (pageM p).length 5 ((pageM p).flatMap encNd),.sl PT.length 2 (PT.flatMap encP),.mp 1]),(1,blkK [])] (.cell 6 198)=some (.agg [.sl S.cls.length 1 (S.cls.flatMap encN),.sl S.atts.length 1 (S.atts.flatMap encN),.sl (pageM p).length 5 ((pageM p).flatMap encNd),.sl PT.length 2 (PT.flatMap encP),.mp 1]):=by
  unfold resV;simp only [go_sem,↓reduceIte,Nat.reduceAdd,Nat.reduceSub,Nat.reduceMul,Nat.reduceEqDiff,Nat.reduceLeDiff,Nat.reduceLT,Int.reduceLE,Int.reduceLT,Int.reduceToNat,Int.reduceEq]
 have ren:∀ (m:ML) (k:Nat) (l:List AV) (nn:Nat),getL m 1=some (.cells [.sl S.cls.length 1 (S.cls.flatMap encN),.sl S.atts.length 1 (S.atts.flatMap encN),.sl (pageM p).length 5 ((pageM p).flatMap encNd),.sl PT.length 2 (PT.flatMap encP),.mp k])→getL m k=some (.map [] 0)→2≤k→reT (swp 1 k) 2 [aN,aN,aN,aN,aN,aN,(.ptr 0 0),aN,aN,aN,aN,aN,aN,aN,aN,aN] l →
  VS gt0 ⟨[],memL [],0⟩ (stL l m nn) (stL [aN,aN,aN,aN,aN,aN,(.ptr 0 0),aN,aN,aN,aN,aN,aN,aN,aN,aN] [(0,.cells [.sl S.cls.length 1 (S.cls.flatMap encN),.sl S.atts.length 1 (S.atts.flatMap encN),.sl (pageM p).length 5 ((pageM p).flatMap encNd),.sl PT.length 2 (PT.flatMap encP),.mp 1]),(1,blkK [])] 2):=fun m k l nn g1 gk hk hl=>by
  refine VS.renF (swp 1 k) (fun c hc=>absurd hc (Nat.not_lt_zero _)) (fun _ _=>Nat.zero_le _) (Nat.zero_le _) (fun c c' x x' h h' e=>?_) (fun c x h=>?_) hl
  ·have m1:=Q1a h
   have m2:=Q1a h';simp only [List.mem_cons,List.not_mem_nil,or_false,Prod.mk.injEq] at m1 m2;unfold swp at e;rcases m1 with ⟨rfl,-⟩ | ⟨rfl,-⟩ <;> rcases m2 with ⟨rfl,-⟩ | ⟨rfl,-⟩ <;> simp at e ⊢ <;> omega
  ·have m1:=Q1a h
   simp only [List.mem_cons,List.not_mem_nil,or_false,Prod.mk.injEq] at m1;rcases m1 with ⟨rfl,rfl⟩ | ⟨rfl,rfl⟩
   ·refine ⟨by decide,by simp [ltB,ltL,ltA],?_⟩
    simp only [swp,if_true,reFB,reFL,reF,if_neg (show ¬(1=0) by decide)];exact g1
   ·refine ⟨by decide,ltB_K _ _,?_⟩
    rw [reB_K];simp only [swp,if_true,if_neg (show ¬(1=0) by decide)];exact gk
 (repeat ((try with_reducible refine W.step (b:=false) ?_);simp (decide:=true) only [go_sem,↓reduceIte,Nat.reduceAdd,Nat.reduceSub]))
 refine AtCall.mk (tree_p p hp) ?_
 cases ht:treeB p with
 | true =>
   have hpg:pageM p=p:=if_pos ht;rw [hpg] at ren HRs ⊢
   (repeat ((try with_reducible refine W.step (b:=false) ?_);simp (decide:=true) only [go_sem,↓reduceIte,Nat.reduceAdd,Nat.reduceSub]))
   exact ⟨.inr rfl,_,ren _ 2 _ _ rfl rfl (by decide) (by simp [Q3d,reT_nil,reF,ltA,swp]),by simp only [resA,resL,resV_ok HRs]⟩
 | false =>
   have hpg:pageM p=[]:=if_neg (by rw [ht];decide);rw [hpg] at ren HRs ⊢;simp only [List.length_nil] at HRs
   (repeat ((try with_reducible refine W.step (b:=false) ?_);simp (decide:=true) only [go_sem,↓reduceIte,Nat.reduceAdd,Nat.reduceSub]))
   exact ⟨.inr rfl,_,VS.trans (VS.weak (l':=[aN,aN,aN,aN,aN,aN,(.ptr 1 0),aN,aN,aN,aN,aN,aN,aN,aN,aN]) (m':=[(2,.map [] 0),(1,.cells [.sl S.cls.length 1 (S.cls.flatMap encN),.sl S.atts.length 1 (S.atts.flatMap encN),.sl 0 5 [],.sl PT.length 2 (PT.flatMap encP),.mp 2])]) (by (repeat (first | refine ⟨_,_,rfl,wkA.any _,?_⟩ | refine ⟨_,_,rfl,wkA.refl _,?_⟩));rfl) ⟨.inl rfl,.inr ⟨_,_,rfl,rfl,by (repeat (first | refine ⟨_,_,rfl,wkA.refl _,?_⟩ | refine ⟨_,_,rfl,wkA.nil 5,?_⟩));rfl⟩,trivial⟩) (ren _ 2 _ _ rfl rfl (by decide) (by simp [Q3d,reT_nil,reF,ltA,swp])),by simp only [resA,resL,resV_ok HRs]⟩
section
variable {rd:List Mem}
theorem newWorld_at (S:Saf) (p:List Nod) (PT:List Part) (hp:OkPg p) (m:ML) (n:Nat):CallM Tryz.prog gt0 rd m n 117 [.agg (safA S),.sl p.length 5 (p.flatMap encNd),.sl PT.length 2 (PT.flatMap encP)] (.agg [.sl S.cls.length 1 (S.cls.flatMap encN),.sl S.atts.length 1 (S.atts.flatMap encN),.sl (pageM p).length 5 ((pageM p).flatMap encNd),.sl PT.length 2 (PT.flatMap encP),.mp (n+1)]) ((n,.cells [.sl S.cls.length 1 (S.cls.flatMap encN),.sl S.atts.length 1 (S.atts.flatMap encN),.sl (pageM p).length 5 ((pageM p).flatMap encNd),.sl PT.length 2 (PT.flatMap encP),.mp (n+1)])::(n+1,blkK [])::m) (n+2):=by
 have:=CallM.at (rd:=rd) (m:=m) (n:=n) (q:=[]) (newWorld_m S p PT hp) rfl (ltL_id 0 _ rfl) trivial trivial ⟨.inl (Nat.zero_le _),.inl (Nat.zero_le _),trivial⟩;have e0:fnm [] 0 n 0=n:=by simp [fnm]
 have e1:fnm [] 0 n 1=n+1:=by simp [fnm]
 simp only [safA,afterL,e0,e1,reFL,reF,reFB,reB_K,List.map_cons,List.map_nil,List.any_nil,Bool.not_false,List.cons_append,List.nil_append,Nat.sub_zero] at this;rw [List.filter_eq_self.2 (fun _ _=>rfl)] at this;exact this
end
attribute [go_sem] appL newsA isSlice
theorem el_pages:elemO Tryz.prog 51=some 1:=by kernel_rfl
theorem ag_pages:aggO Tryz.prog 51=some (false,1):=by kernel_rfl
attribute [go_sem] el_pages ag_pages
attribute [go_sem] appL newsA isSlice
theorem lenC (l:List Cx):(l.flatMap encC).length=l.length*2:=Q1n (sz:=2) (fun _=>rfl) l
theorem takeC (l:List Cx):(l.flatMap encC).take (l.length*2)=l.flatMap encC:=List.take_of_length_le (by rw [lenC];exact Nat.le_refl _)
theorem cellC (l:List Cx):(l.flatMap encC).all isCell=true:=by
 rw [List.all_eq_true];intro a ha;obtain ⟨x,-,hx⟩:=List.mem_flatMap.1 ha;simp [encC] at hx;rcases hx with rfl | rfl <;> rfl
attribute [go_sem] lenC takeC cellC
theorem ez_cxs:elemZ Tryz.prog 42=[.slice none 0 0,.string ⟨#[]⟩]:=by kernel_rfl
theorem ei_cxs2:elemI Tryz.prog 42=some (2,40,true):=by kernel_rfl
theorem un_cxs2:slOrStr (Tryz.prog.underlying 42)=true:=by kernel_rfl
attribute [go_sem] ez_cxs ei_cxs2 un_cxs2
attribute [go_sem] appL newsA isSlice
theorem ag_shk:aggO Tryz.prog 132=some (true,3):=by kernel_rfl
theorem sz_shk:szO Tryz.prog 132=some 3:=by kernel_rfl
theorem fl_shk0:fldO Tryz.prog 132 0=some (0,48):=by kernel_rfl
theorem fl_shk1:fldO Tryz.prog 132 1=some (2,51):=by kernel_rfl
theorem bl_shk (parts:List (Nat×AV)):evBuild Tryz.prog 132 parts=aggM (fillL [(0,2),(2,1)] [.g (.slice none 0 0),.g (.slice none 0 0),.g (.slice none 0 0)] parts):=Q1d (by kernel_rfl) parts
theorem bl_item (parts:List (Nat×AV)):evBuild Tryz.prog 65 parts=aggM (fillL [(0,1),(1,1),(2,1),(3,1),(4,1),(5,1),(6,1),(7,1)] [.g (.int .i64 0),.g (.slice none 0 0),.g (.slice none 0 0),.g (.slice none 0 0),.g (.int .i64 0),.g (.int .i64 0),.g (.slice none 0 0),.g (.slice none 0 0)] parts):=Q1d (by kernel_rfl) parts
theorem ei_items2:elemI Tryz.prog 54=some (8,144,true):=by kernel_rfl
theorem un_items2:slOrStr (Tryz.prog.underlying 54)=true:=by kernel_rfl
theorem sz_cxs:szO Tryz.prog 42=some 1:=by kernel_rfl
theorem sz_items:szO Tryz.prog 54=some 1:=by kernel_rfl
attribute [go_sem] sz_cxs sz_items ag_shk sz_shk fl_shk0 fl_shk1 bl_shk bl_item ei_items2 un_items2
structure OkC (c:Cx):Prop where
 parts:okPT c.parts
 names:∀ pt∈c.parts,∀ x∈pt.l,okN x
structure OkS (S:Saf) (PG:List (List Nod)):Prop where
 len:PG.length≤1000000
 pages:∀ p∈PG,OkPg p
 safe:OkSf S
def shI (lost:Cx→Bool):Itm→Itm×Bool
 | .mk k s d n mn mx v l=>if k=1 then (.mk k (s.filter fun c=>!lost c) d n mn mx v l,decide (s.filter (fun c=>!lost c)≠[])) else if k=2 then (.mk k s d n mn mx v (shL l),decide (shL l≠[])) else if k=3 then (if shL l=[] then .mk 4 [] [] n 0 0 [] [] else .mk k s d n mn mx v (shL l),true) else (.mk k s d n mn mx v l,true)
where shL:List Itm→List Itm
 | []=>[]
 | x::xs=>if (shI lost x).2=true then (shI lost x).1::shL xs else shL xs
attribute [go_sem] appL newsA isSlice
attribute [go_sem] appL newsA isSlice
def cntX (m:Nat):Simp→Nat→Nat
 | .mk _ nm v _ _ l,n=>if nm.size≤100∧v.size≤100 then cntL l (n+1) else m+1
where cntL:List Simp→Nat→Nat
 | [],n=>n
 | x::xs,n=>if n≤m then cntL xs (cntX m x n) else n
abbrev cntL (m:Nat):=cntX.cntL m
theorem cntL_nil (m n:Nat):cntL m [] n=n:=rfl
theorem cntL_cons (m n:Nat) (x:Simp) (xs:List Simp):cntL m (x::xs) n=if n≤m then cntL m xs (cntX m x n) else n:=rfl
theorem cntL_stop (m n:Nat) (l:List Simp) (h:¬n≤m):cntL m l n=n:=by
 cases l with
 | nil=>rfl
 | cons x xs=>rw [cntL_cons,if_neg h]
def smS:Simp→Prop
 | .mk _ nm _ _ _ l=>nm.size≤100∧l.length≤1000∧smL l
where smL:List Simp→Prop
 | []=>True
 | x::xs=>smS x∧smL xs
theorem cnt_spec (m:Nat) (hm:m≤1000) (N:Nat):∀ (l:List Simp),SizeOf.sizeOf l≤N→∀ n,n≤m+1→n≤cntL m l n∧cntL m l n≤m+1∧(cntL m l n≤m→n+l.length≤cntL m l n∧smS.smL l):=by
 induction N with
 | zero=>intro l hl;cases l <;> simp at hl
 | succ N ih =>
   intro l hl n hn
   cases l with
   | nil=>exact ⟨Nat.le_refl _,hn,fun _=>⟨Nat.le_refl _,trivial⟩⟩
   | cons x xs =>
     obtain ⟨kind,nm,v,a,b,ll⟩:=x;rw [List.cons.sizeOf_spec,Simp.mk.sizeOf_spec] at hl;rw [cntL_cons]
     by_cases h:n≤m
     ·rw [if_pos h]
      have hx:cntX m (.mk kind nm v a b ll) n=if nm.size≤100∧v.size≤100 then cntL m ll (n+1) else m+1:=by rw [cntX]
      rw [hx]
      by_cases hs:nm.size≤100∧v.size≤100
      ·rw [if_pos hs]
       obtain ⟨i1,i2,i3⟩:=ih ll (by omega) (n+1) (by omega);obtain ⟨j1,j2,j3⟩:=ih xs (by omega) (cntL m ll (n+1)) i2;refine ⟨by omega,j2,fun hc=>?_⟩;obtain ⟨k1,k2⟩:=j3 hc;obtain ⟨k3,k4⟩:=i3 (by omega);refine ⟨by rw [List.length_cons];omega,⟨⟨hs.1,by omega,k4⟩,k2⟩⟩
      ·rw [if_neg hs,cntL_stop m (m+1) xs (by omega)]
       exact ⟨by omega,Nat.le_refl _,fun h=>by omega⟩
     ·rw [if_neg h]
      exact ⟨Nat.le_refl _,hn,fun h2=>absurd h2 h⟩
theorem rowSv {l:List Simp} {k:Nat} (hk:k<l.length):(l.flatMap encS)[k*6+1]?=some (.g (.string l[k].name))∧(l.flatMap encS)[k*6+2]?=some (.g (.string l[k].value))∧(l.flatMap encS)[k*6+5]?=some (.sl l[k].l.length 6 (l[k].l.flatMap encS)):=by
 have h:=flat_get encS 6 lenSq l k hk;obtain ⟨a,b,e⟩:∃ a b,encS l[k]=[.g (.int .i64 l[k].kind),.g (.string l[k].name),.g (.string l[k].value),.g (.int .i64 a),.g (.int .i64 b),.sl l[k].l.length 6 (l[k].l.flatMap encS)]:=by
  cases hx:l[k];exact ⟨_,_,encS_m _ _ _ _ _ _⟩
 rw [e] at h;exact ⟨h 1 (by decide),h 2 (by decide),h 5 (by decide)⟩
theorem cntX_of {m n:Nat} (x:Simp):cntX m x n=if x.name.size≤100∧x.value.size≤100 then cntL m x.l (n+1) else m+1:=by
 cases x;rw [cntX];rfl
set_option maxRecDepth 100000 in
set_option maxHeartbeats 4000000 in
theorem count_p (m:Nat) (hm:m≤1000) (N:Nat):∀ (l:List Simp),SizeOf.sizeOf l≤N→∀ n,n≤m+1→PureN Tryz.prog gt0 49 [.sl l.length 6 (l.flatMap encS),.g (.int .i64 (n:Int)),.g (.int .i64 (m:Int))] (.g (.int .i64 (cntL m l n:Int))):=by
 induction N with
 | zero=>intro l hl;cases l <;> simp at hl
 | succ N ih =>
   intro l hl n hn;refine PureN.of_w (c:=_) Tryz.func49 rfl (by kernel_rfl) rfl ?_;simp only [Tryz.f49,List.replicate,List.length_cons,List.length_nil,Nat.reduceAdd,Nat.reduceSub,List.cons_append,List.nil_append]
   (repeat ((try with_reducible refine W.step (b:=false) ?_);simp (decide:=true) only [go_sem,↓reduceIte,Nat.reduceAdd,Nat.reduceSub]))
   refine W.loop (s1:=stL [(.sl l.length 6 (l.flatMap encS)),(.g (.int .i64 (n:Int))),(.g (.int .i64 (m:Int))),aN,aN,aN,(.g (.int .i64 0)),(.g (.int .i64 ((0:Nat):Int))),aN,aN,aN,aN,aN,aN,aN,aN,aN,aN,aN,aN,aN,aN,aN,aN,aN,aN,aN,aN,aN,aN,aN,aN,aN,aN,aN,aN,aN,aN,aN,aN,aN,aN,aN,aN,aN,aN,aN,aN] [] 0)
    (fun (z:Nat×Nat) t=>(z.1≤l.length∧z.1≤z.2∧z.2≤m+1∧cntL m l n=cntL m (l.drop z.1) z.2)∧t=stL [(.sl l.length 6 (l.flatMap encS)),(.g (.int .i64 (z.2:Int))),(.g (.int .i64 (m:Int))),aN,aN,aN,(.g (.int .i64 0)),(.g (.int .i64 (z.1:Int))),aN,aN,aN,aN,aN,aN,aN,aN,aN,aN,aN,aN,aN,aN,aN,aN,aN,aN,aN,aN,aN,aN,aN,aN,aN,aN,aN,aN,aN,aN,aN,aN,aN,aN,aN,aN,aN,aN,aN,aN] [] 0) (fun z=>l.length - z.1) (0,n) ⟨⟨Nat.zero_le _,Nat.zero_le _,hn,rfl⟩,rfl⟩ (VS.tm (by simp [leL])) ?_
   rintro ⟨k,c⟩ t ⟨⟨hk,hkc,hc,he⟩,rfl⟩;simp only at hk hkc hc he;rw [he]
   by_cases hlt:k<l.length
   ·rw [List.drop_eq_getElem_cons hlt,cntL_cons] at he ⊢
    by_cases hcm:c≤m
    ·have fc:((c:Int)≤(m:Int))=True:=eq_true (by omega)
     rw [if_pos hcm,cntX_of] at he ⊢;obtain ⟨r1,r2,r3⟩:=rowSv hlt
     by_cases h1:l[k].name.size≤100
     rotate_left
     ·have f1:((100:Int)<(l[k].name.size:Int))=True:=eq_true (by omega)
      rw [if_neg (fun h=>h1 h.1),cntL_stop m _ _ (by omega)]
      (repeat ((try with_reducible refine W.step (b:=false) ?_);simp (decide:=true) only [go_sem,↓reduceIte,Nat.reduceAdd,Nat.reduceSub,hlt,fc,r1,r2,r3,f1]))
      refine Q0a _ (.inr rfl) ?_ (.plain rfl);unfold resV;simp only [go_sem,↓reduceIte,Nat.reduceAdd,Nat.reduceSub,Nat.reduceMul,Nat.reduceEqDiff,Nat.reduceLeDiff,Nat.reduceLT,Int.reduceLE,Int.reduceLT,Int.reduceToNat,Int.reduceEq];rw [up1 (by omega)]
     have f1:((100:Int)<(l[k].name.size:Int))=False:=eq_false (by omega)
     by_cases h2:l[k].value.size≤100
     rotate_left
     ·have f2:((100:Int)<(l[k].value.size:Int))=True:=eq_true (by omega)
      rw [if_neg (fun h=>h2 h.2),cntL_stop m _ _ (by omega)]
      (repeat ((try with_reducible refine W.step (b:=false) ?_);simp (decide:=true) only [go_sem,↓reduceIte,Nat.reduceAdd,Nat.reduceSub,hlt,fc,r1,r2,r3,f1,f2]))
      refine Q0a _ (.inr rfl) ?_ (.plain rfl);unfold resV;simp only [go_sem,↓reduceIte,Nat.reduceAdd,Nat.reduceSub,Nat.reduceMul,Nat.reduceEqDiff,Nat.reduceLeDiff,Nat.reduceLT,Int.reduceLE,Int.reduceLT,Int.reduceToNat,Int.reduceEq];rw [up1 (by omega)]
     have f2:((100:Int)<(l[k].value.size:Int))=False:=eq_false (by omega);rw [if_pos ⟨h1,h2⟩] at he ⊢;have hsz:=List.sizeOf_lt_of_mem (List.getElem_mem hlt);have hsl:SizeOf.sizeOf l[k].l<SizeOf.sizeOf l[k]:=by
      cases hx:l[k];rw [Simp.mk.sizeOf_spec];show SizeOf.sizeOf (Simp.l _)<_;simp [Simp.l];omega
     have IH:=ih l[k].l (by omega) (c+1) (by omega);obtain ⟨s1,s2,-⟩:=cnt_spec m hm N l[k].l (by omega) (c+1) (by omega);have fc1:IntKind.i64.wrap ((c:Int)+1)=((c+1:Nat):Int):=up1 (by omega)
     (repeat ((try with_reducible refine W.step (b:=false) ?_);simp (decide:=true) only [go_sem,↓reduceIte,Nat.reduceAdd,Nat.reduceSub,hlt,fc,r1,r2,r3,f1,f2,fc1]))
     refine AtCall.mk IH ?_
     (repeat ((try with_reducible refine W.step (b:=false) ?_);simp (decide:=true) only [go_sem,↓reduceIte,Nat.reduceAdd,Nat.reduceSub]))
     refine ⟨(k+1,cntL m l[k].l (c+1)),_,⟨⟨hlt,by simp only;omega,s2,by rw [←he]⟩,rfl⟩,by show l.length - (k+1)<l.length - k;omega,?_⟩;rw [up1 (by omega)];exact VS.tm (by simp [leL])
    ·have fc:((c:Int)≤(m:Int))=False:=eq_false (by omega)
     rw [if_neg hcm]
     (repeat ((try with_reducible refine W.step (b:=false) ?_);simp (decide:=true) only [go_sem,↓reduceIte,Nat.reduceAdd,Nat.reduceSub,hlt,fc]))
     exact Q0a _ (.inr rfl) rfl (.plain rfl)
   ·rw [List.drop_of_length_le (by omega),cntL_nil]
    (repeat ((try with_reducible refine W.step (b:=false) ?_);simp (decide:=true) only [go_sem,↓reduceIte,Nat.reduceAdd,Nat.reduceSub,hlt]))
    exact Q0a _ (.inr rfl) rfl (.plain rfl)
end Go.Proofs.YtabliahkhafddaaGreat
end
