/- winnowinglaw19: stateful, small of a world of pages alone, fixed: by walks over shapes. -/
import Derived.Test.YtabliahkhafddaaGreatJd9
import Derived.Test.YtabliahkhafddaaGreatJd7
import Derived.Test.YtabliahkhafddaaGreatJd4
set_option linter.unusedSimpArgs false
noncomputable section
namespace Go.Proofs.YtabliahkhafddaaGreat
open Go.RowKit Go.Ev
open Go.Ev.AV renaming any→aN
attribute [local go_sem] eq_self false_and and_false Bool.false_eq_true List.set_cons_succ List.set_cons_zero List.getD_cons_succ List.getD_cons_zero List.getElem?_cons_succ List.getElem?_cons_zero true_and and_true and_self Bool.not_true Bool.not_false Nat.add_zero Nat.zero_add Nat.mul_one Int.toNat_natCast Int.natCast_nonneg Int.ofNat_lt Option.bind_some Option.map_some List.map_cons List.map_nil decide_true decide_false BEq.rfl Bool.and_self Bool.and_true Bool.and_false beq_self_eq_true List.cons_append List.nil_append List.take_zero List.take_succ_cons List.take_nil List.drop_succ_cons List.drop_zero List.drop_nil List.append_nil List.length_cons List.length_nil List.all_cons List.all_nil Nat.le_refl Int.le_refl Option.map_none List.replicate_zero List.replicate_succ Nat.zero_mul Nat.sub_zero Nat.zero_le Nat.le_zero_eq Q2m Option.some_or Option.none_or Option.or_none Option.isSome_some Option.isSome_none Option.getD_some Option.getD_none Int.toNat_zero Int.natCast_zero Int.natCast_one Int.cast_ofNat_Int List.toList_toArray
attribute [go_sem] appL newsA isSlice
theorem ag_shk:aggO Tryz.prog 132=some (true,3):=by kernel_rfl
theorem sz_shk:szO Tryz.prog 132=some 3:=by kernel_rfl
theorem fl_shk0:fldO Tryz.prog 132 0=some (0,48):=by kernel_rfl
theorem fl_shk1:fldO Tryz.prog 132 1=some (2,51):=by kernel_rfl
theorem bl_shk (parts:List (Nat×AV)):evBuild Tryz.prog 132 parts=aggM (fillL [(0,2),(2,1)] [.g (.slice none 0 0),.g (.slice none 0 0),.g (.slice none 0 0)] parts):=Q1u (by kernel_rfl) parts
theorem bl_item (parts:List (Nat×AV)):evBuild Tryz.prog 65 parts=aggM (fillL [(0,1),(1,1),(2,1),(3,1),(4,1),(5,1),(6,1),(7,1)] [.g (.int .i64 0),.g (.slice none 0 0),.g (.slice none 0 0),.g (.slice none 0 0),.g (.int .i64 0),.g (.int .i64 0),.g (.slice none 0 0),.g (.slice none 0 0)] parts):=Q1u (by kernel_rfl) parts
theorem ei_items2:elemI Tryz.prog 54=some (8,144,true):=by kernel_rfl
theorem un_items2:slOrStr (Tryz.prog.underlying 54)=true:=by kernel_rfl
theorem sz_cxs:szO Tryz.prog 42=some 1:=by kernel_rfl
theorem sz_items:szO Tryz.prog 54=some 1:=by kernel_rfl
attribute [go_sem] sz_cxs sz_items ag_shk sz_shk fl_shk0 fl_shk1 bl_shk bl_item ei_items2 un_items2
def shk (S:Saf) (PG:List (List Nod)):List AV:=[.sl S.cls.length 1 (S.cls.flatMap encN),.sl S.atts.length 1 (S.atts.flatMap encN),.sl PG.length 1 (PG.flatMap encPg)]
structure OkC (c:Cx):Prop where
 parts:okPT c.parts
 names:∀ pt∈c.parts,∀ x∈pt.l,okN x
structure OkS (S:Saf) (PG:List (List Nod)):Prop where
 len:PG.length≤1000000
 pages:∀ p∈PG,OkPg p
 safe:OkSf S
def lostB (S:Saf) (PG:List (List Nod)) (c:Cx):Bool:=decide (shakeQ S PG c=0)
set_option maxRecDepth 100000 in
set_option maxHeartbeats 4000000 in
theorem lost_p (S:Saf) (PG:List (List Nod)) (c:Cx) (h:OkS S PG) (hc:OkC c) :
 PureN Tryz.prog gt0 194 [.agg (shk S PG),.agg (encC c)] (.g (.bool (lostB S PG c))):=by
 have HC:=shakeAny_p S PG c h.len h.pages h.safe hc.parts hc.names;refine PureN.of_w (c:=_) Tryz.func194 rfl (by kernel_rfl) rfl ?_;simp only [Tryz.f194,List.replicate,List.length_cons,List.length_nil,Nat.reduceAdd,Nat.reduceSub,List.cons_append,List.nil_append,encC,safA,shk,lostB] at HC ⊢;generalize shakeQ S PG c=R at HC ⊢
 (repeat ((try with_reducible refine W.step (b:=false) ?_);simp (decide:=true) only [go_sem,↓reduceIte,Nat.reduceAdd,Nat.reduceSub]))
 refine AtCall.mk HC ?_
 (repeat ((try with_reducible refine W.step (b:=false) ?_);simp (decide:=true) only [go_sem,↓reduceIte,Nat.reduceAdd,Nat.reduceSub]))
 generalize decide (R=0)=B0;exact Q0a _ (.inr rfl) rfl (.plain rfl)
def shI (lost:Cx→Bool):Itm→Itm×Bool
 | .mk k s d n mn mx v l=>if k=1 then (.mk k (s.filter fun c=>!lost c) d n mn mx v l,decide (s.filter (fun c=>!lost c)≠[])) else if k=2 then (.mk k s d n mn mx v (shL l),decide (shL l≠[])) else if k=3 then (if shL l=[] then .mk 4 [] [] n 0 0 [] [] else .mk k s d n mn mx v (shL l),true) else (.mk k s d n mn mx v l,true)
where shL:List Itm→List Itm
 | []=>[]
 | x::xs=>if (shI lost x).2=true then (shI lost x).1::shL xs else shL xs
theorem nmC (T:Nat→Prop):∀ l:List Cx,nmL T (l.flatMap encC)
 | []=>trivial
 | _::l=>⟨trivial,trivial,nmC T l⟩
theorem nm_zC (T:Nat→Prop):∀ k,nmL T (zC k)
 | 0=>trivial
 | k+1=>⟨trivial,trivial,nm_zC T k⟩
theorem nmL_app {T:Nat→Prop}:∀ {a b:List AV},nmL T a→nmL T b→nmL T (a++b)
 | [],_,_,hb=>hb
 | _::_,_,ha,hb=>⟨ha.1,nmL_app ha.2 hb⟩
theorem delC_nm (T:Nat→Prop) (pr:Cx→Bool) (l:List Cx):nmL T (delC pr l):=nmL_app (nmC T _) (nm_zC T _)
theorem delC_plain (pr:Cx→Bool) (l:List Cx):∀ a∈delC pr l,plainA a=true:=fun a ha=>by
 rcases List.mem_append.1 ha with h | h
 ·obtain ⟨x,-,h⟩:=List.mem_flatMap.1 h
  simp [encC] at h;rcases h with rfl | rfl <;> rfl
 ·exact zC_plain _ a h
def ItemsP (S:Saf) (PG:List (List Nod)) (l:List Itm):Prop:=PureN Tryz.prog gt0 66 [.agg (shk S PG),.sl l.length 8 (encIs l)] (.sl (shI.shL (lostB S PG) l).length 8 (encIs (shI.shL (lostB S PG) l)))
set_option maxRecDepth 100000 in
set_option maxHeartbeats 4000000 in
theorem item_p (S:Saf) (PG:List (List Nod)) (h:OkS S PG) (k:Int) (s:List Cx) (d:List Dl) (nn:List ByteArray) (mn mx:Int) (v:List Vl) (l:List Itm) (hs:s.length≤1000000) (hc:k=1→∀ c∈s,OkC c) (HI:k≠1→ItemsP S PG l) :
 PureN Tryz.prog gt0 116 [.agg (shk S PG),.agg (encI (.mk k s d nn mn mx v l))] (.tup [.agg (encI (shI (lostB S PG) (.mk k s d nn mn mx v l)).1),.g (.bool (shI (lostB S PG) (.mk k s d nn mn mx v l)).2)]):=by
 refine PureN.of_w2 (c:=_) Tryz.func116 rfl (by kernel_rfl) rfl ?_;unfold ItemsP at HI
 by_cases h1:k=1
 ·subst h1
  have hL:∀ c∈s,PureN Tryz.prog gt0 194 [.agg (shk S PG),.agg (encC c)] (.g (.bool (lostB S PG c))):=fun c hcs=>lost_p S PG c h (hc rfl c hcs);clear HI hc;generalize lostB S PG=lost at hL ⊢;have e:shI lost (.mk 1 s d nn mn mx v l)=(.mk 1 (s.filter fun c=>!lost c) d nn mn mx v l,decide (s.filter (fun c=>!lost c)≠[])):=by rw [shI,if_pos rfl]
  rw [e];simp only [Tryz.f116,List.replicate,List.length_cons,List.length_nil,Nat.reduceAdd,Nat.reduceSub,List.cons_append,List.nil_append,encI,shk] at hL ⊢
  by_cases hnil:s=[]
  ·subst hnil
   (repeat ((try with_reducible refine W.step (b:=true) ?_);simp (decide:=true) only [go_sem,↓reduceIte,Nat.reduceAdd,Nat.reduceSub];(try with_reducible refine drawn hmix (by kernel_rfl) ?_);try with_reducible refine ⟨by kernel_rfl,?_⟩))
   refine AtCallD.mk cloneC_nil ?_
   (repeat ((try with_reducible refine W.step (b:=true) ?_);simp (decide:=true) only [go_sem,↓reduceIte,Nat.reduceAdd,Nat.reduceSub];(try with_reducible refine drawn hmix (by kernel_rfl) ?_);try with_reducible refine ⟨by kernel_rfl,?_⟩))
   refine AtCallD.mem (m':=[(2,.cells [.g (.int .i64 0),.g (.slice none 0 0),.g (.slice none 0 0),.g (.slice none 0 0),.g (.int .i64 0),.g (.int .i64 0),.g (.slice none 0 0),.g (.slice none 0 0)]),(1,.cells [.g (.int .i64 1),.sl ([]:List Cx).length 2 (([]:List Cx).flatMap encC),.sl d.length 3 (d.flatMap encD),.sl nn.length 1 (nn.flatMap encN),.g (.int .i64 mn),.g (.int .i64 mx),.sl v.length 5 (v.flatMap encV),.sl l.length 8 (encIs l)]),(0,.cells [.sl S.cls.length 1 (S.cls.flatMap encN),.sl S.atts.length 1 (S.atts.flatMap encN),.sl PG.length 1 (PG.flatMap encPg)])]) (CallM.subD (m0:=[]) (delFC_nil 194 _ [] 0) ⟨Nat.zero_le _,by simp [getL,nmB,nmL,nmA],by simp [nmL,nmA],by simp [nmB,nmL,nmA],by simp [nmA],by simp⟩) ?_
   (repeat ((try with_reducible refine W.step (b:=true) ?_);simp (decide:=true) only [go_sem,↓reduceIte,Nat.reduceAdd,Nat.reduceSub];(try with_reducible refine drawn hmix (by kernel_rfl) ?_);try with_reducible refine ⟨by kernel_rfl,?_⟩))
   exact postV.of (Q3a _ (.inr rfl) (by unfold resV;simp only [go_sem,↓reduceIte,Nat.reduceAdd,Nat.reduceSub,Nat.reduceMul,Nat.reduceEqDiff,Nat.reduceLeDiff,Nat.reduceLT,Int.reduceLE,Int.reduceLT,Int.reduceToNat,Int.reduceEq];rfl) rfl (.agg (by simp [plainA])) (.plain rfl))
  ·(repeat ((try with_reducible refine W.step (b:=true) ?_);simp (decide:=true) only [go_sem,↓reduceIte,Nat.reduceAdd,Nat.reduceSub];(try with_reducible refine drawn hmix (by kernel_rfl) ?_);try with_reducible refine ⟨by kernel_rfl,?_⟩))
   refine AtCallD.mem (CallD.new (cloneC_m s hs hnil) (by simp [noIdsL,noIds]) (Q0m (fun _=>rfl) _)) ?_
   (repeat ((try with_reducible refine W.step (b:=true) ?_);simp (decide:=true) only [go_sem,↓reduceIte,Nat.reduceAdd,Nat.reduceSub];(try with_reducible refine drawn hmix (by kernel_rfl) ?_);try with_reducible refine ⟨by kernel_rfl,?_⟩))
   refine AtCallD.mem (m':=[(3,.cells (delC lost s)),(2,.cells [.g (.int .i64 0),.g (.slice none 0 0),.g (.slice none 0 0),.g (.slice none 0 0),.g (.int .i64 0),.g (.int .i64 0),.g (.slice none 0 0),.g (.slice none 0 0)]),(1,.cells [.g (.int .i64 1),.sl s.length 2 (s.flatMap encC),.sl d.length 3 (d.flatMap encD),.sl nn.length 1 (nn.flatMap encN),.g (.int .i64 mn),.g (.int .i64 mx),.sl v.length 5 (v.flatMap encV),.sl l.length 8 (encIs l)]),(0,.cells [.sl S.cls.length 1 (S.cls.flatMap encN),.sl S.atts.length 1 (S.atts.flatMap encN),.sl PG.length 1 (PG.flatMap encPg)])]) (CallM.subD (m0:=[(3,.cells (s.flatMap encC))]) (delFC_m s hs lost 194 _ (by simp [ltA,ltL]) _ hL) ⟨by decide,by simp [getL,nmB,nmL,nmA,nmC],by simp [nmL,nmA],by simp [nmB,nmL,nmA,delC_nm],by simp [nmA],by simp⟩) ?_
   (repeat ((try with_reducible refine W.step (b:=true) ?_);simp (decide:=true) only [go_sem,↓reduceIte,Nat.reduceAdd,Nat.reduceSub];(try with_reducible refine drawn hmix (by kernel_rfl) ?_);try with_reducible refine ⟨by kernel_rfl,?_⟩))
   have hb:decide ((0:Int)<((s.filter fun x=>!lost x).length:Int))=decide (s.filter (fun c=>!lost c)≠[]):=by
    rw [Bool.eq_iff_iff];simp only [decide_eq_true_eq];rw [←List.length_pos_iff];omega
   rw [hb];generalize hk:(s.filter fun x=>!lost x)=s2;have htk:((delC lost s).drop 0).take (s2.length*2)=s2.flatMap encC:=by
    unfold delC;rw [hk,List.drop_zero,List.take_append_of_le_length (by rw [lenC];exact Nat.le_refl _),takeC]
   have hfit:0+s2.length*2≤(delC lost s).length:=by
    unfold delC;rw [hk,List.length_append,lenC];omega
   refine ⟨.inr rfl,_,VS.sealT (l':=[aN,aN,aN,aN,(.ptr 2 0),(.g (.bool (decide (s2≠[])))),aN,aN,aN,aN,aN,aN,aN,aN,aN,aN,aN,aN,aN,aN,aN,aN,aN,aN,aN,aN,aN,aN,aN,aN,aN,aN,aN,aN,aN,aN,aN,aN,aN,aN,aN,aN,aN,aN,aN,aN,aN,aN,aN]) (m':=[(2,.cells [.g (.int .i64 1),.sl s2.length 2 (s2.flatMap encC),.sl d.length 3 (d.flatMap encD),.sl nn.length 1 (nn.flatMap encN),.g (.int .i64 mn),.g (.int .i64 mx),.sl v.length 5 (v.flatMap encV),.sl l.length 8 (encIs l)])]) 3 (delC lost s) rfl (delC_plain lost s) (by simp only [Q1k,Q2o,frA_any,Q1l,and_true]) ⟨⟨by decide,.inr ⟨_,_,rfl,rfl,?_⟩⟩,trivial⟩,Q3a _ (.inr rfl) (by unfold resV;simp only [go_sem,↓reduceIte,Nat.reduceAdd,Nat.reduceSub,Nat.reduceMul,Nat.reduceEqDiff,Nat.reduceLeDiff,Nat.reduceLT,Int.reduceLE,Int.reduceLT,Int.reduceToNat,Int.reduceEq]) rfl (.agg (by simp [plainA])) (.plain rfl)⟩;simp only [Q1k,Q2o,Q1l,and_true,true_and];exact .inr (.inr ⟨0,_,2,_,rfl,by rw [htk],hfit⟩)
 have f1:=eq_false h1;have HL:=HI h1;clear HI hc
 by_cases h2:k=2
 ·subst h2
  have e:shI (lostB S PG) (.mk 2 s d nn mn mx v l)=(.mk 2 s d nn mn mx v (shI.shL (lostB S PG) l),decide (shI.shL (lostB S PG) l≠[])):=by rw [shI,if_neg h1,if_pos rfl]
  rw [e];generalize shI.shL (lostB S PG) l=l2 at HL ⊢;have hb:decide ((0:Int)<(l2.length:Int))=decide (l2≠[]):=by
   rw [Bool.eq_iff_iff];simp only [decide_eq_true_eq];rw [←List.length_pos_iff];omega
  simp only [Tryz.f116,List.replicate,List.length_cons,List.length_nil,Nat.reduceAdd,Nat.reduceSub,List.cons_append,List.nil_append,encI,shk] at HL ⊢
  (repeat ((try with_reducible refine W.step (b:=false) ?_);simp (decide:=true) only [go_sem,↓reduceIte,Nat.reduceAdd,Nat.reduceSub];try with_reducible refine drawn hmix (by kernel_rfl) ?_))
  refine AtCall.mk HL ?_
  (repeat ((try with_reducible refine W.step (b:=true) ?_);simp (decide:=true) only [go_sem,↓reduceIte,Nat.reduceAdd,Nat.reduceSub];(try with_reducible refine drawn hmix (by kernel_rfl) ?_);try with_reducible refine ⟨by kernel_rfl,?_⟩))
  rw [hb];generalize decide (l2≠[])=B0;exact postV.of (Q3a _ (.inr rfl) (by unfold resV;simp only [go_sem,↓reduceIte,Nat.reduceAdd,Nat.reduceSub,Nat.reduceMul,Nat.reduceEqDiff,Nat.reduceLeDiff,Nat.reduceLT,Int.reduceLE,Int.reduceLT,Int.reduceToNat,Int.reduceEq]) rfl (.agg (by simp [plainA])) (.plain rfl))
 have f2:=eq_false h2
 by_cases h3:k=3
 ·subst h3
  have e:shI (lostB S PG) (.mk 3 s d nn mn mx v l)=(if shI.shL (lostB S PG) l=[] then .mk 4 [] [] nn 0 0 [] [] else .mk 3 s d nn mn mx v (shI.shL (lostB S PG) l),true):=by rw [shI,if_neg h1,if_neg h2,if_pos rfl]
  rw [e];generalize shI.shL (lostB S PG) l=l2 at HL ⊢;simp only [Tryz.f116,List.replicate,List.length_cons,List.length_nil,Nat.reduceAdd,Nat.reduceSub,List.cons_append,List.nil_append,shk] at HL ⊢
  by_cases h0:l2=[]
  ·subst h0
   rw [if_pos rfl];simp only [encI] at HL ⊢
   (repeat ((try with_reducible refine W.step (b:=false) ?_);simp (decide:=true) only [go_sem,↓reduceIte,Nat.reduceAdd,Nat.reduceSub];try with_reducible refine drawn hmix (by kernel_rfl) ?_))
   refine AtCall.mk HL ?_
   (repeat ((try with_reducible refine W.step (b:=false) ?_);simp (decide:=true) only [go_sem,↓reduceIte,Nat.reduceAdd,Nat.reduceSub];try with_reducible refine drawn hmix (by kernel_rfl) ?_))
   refine ⟨.inr rfl,_,VS.weak (l':=[aN,aN,aN,aN,(.ptr 2 0),(.g (.bool true)),aN,aN,aN,aN,aN,aN,aN,aN,aN,aN,aN,aN,aN,aN,aN,aN,aN,aN,aN,aN,aN,aN,aN,aN,aN,aN,aN,aN,aN,aN,aN,aN,aN,aN,aN,aN,aN,aN,aN,aN,aN,aN,aN]) (m':=[(2,.cells [.g (.int .i64 4),.sl 0 2 [],.sl 0 3 [],.sl nn.length 1 (nn.flatMap encN),.g (.int .i64 0),.g (.int .i64 0),.sl 0 5 [],.sl 0 8 []])]) (by (repeat (first | refine ⟨_,_,rfl,wkA.any _,?_⟩ | refine ⟨_,_,rfl,wkA.refl _,?_⟩));rfl) ⟨.inr ⟨_,_,rfl,rfl,by (repeat (first | refine ⟨_,_,rfl,wkA.refl _,?_⟩ | refine ⟨_,_,rfl,wkA.nil _,?_⟩));rfl⟩,trivial⟩,Q3a _ (.inr rfl) (by unfold resV;simp only [go_sem,↓reduceIte,Nat.reduceAdd,Nat.reduceSub,Nat.reduceMul,Nat.reduceEqDiff,Nat.reduceLeDiff,Nat.reduceLT,Int.reduceLE,Int.reduceLT,Int.reduceToNat,Int.reduceEq];rfl) rfl (.agg (by simp [plainA,encIs])) (.plain rfl)⟩
  ·rw [if_neg h0]
   have f0:((l2.length:Int)=0)=False:=eq_false (by have:=List.length_pos_iff.2 h0;omega);simp only [encI] at HL ⊢
   (repeat ((try with_reducible refine W.step (b:=false) ?_);simp (decide:=true) only [go_sem,↓reduceIte,Nat.reduceAdd,Nat.reduceSub];try with_reducible refine drawn hmix (by kernel_rfl) ?_))
   refine AtCall.mk HL ?_
   (repeat ((try with_reducible refine W.step (b:=false) ?_);simp (decide:=true) only [go_sem,↓reduceIte,Nat.reduceAdd,Nat.reduceSub,f0];try with_reducible refine drawn hmix (by kernel_rfl) ?_))
   exact postV.of (Q3a _ (.inr rfl) (by unfold resV;simp only [go_sem,↓reduceIte,Nat.reduceAdd,Nat.reduceSub,Nat.reduceMul,Nat.reduceEqDiff,Nat.reduceLeDiff,Nat.reduceLT,Int.reduceLE,Int.reduceLT,Int.reduceToNat,Int.reduceEq]) rfl (.agg (by simp [plainA])) (.plain rfl))
 have f3:=eq_false h3;have e:shI (lostB S PG) (.mk k s d nn mn mx v l)=(.mk k s d nn mn mx v l,true):=by rw [shI,if_neg h1,if_neg h2,if_neg h3]
 rw [e];clear HL e;simp only [Tryz.f116,List.replicate,List.length_cons,List.length_nil,Nat.reduceAdd,Nat.reduceSub,List.cons_append,List.nil_append,encI,shk]
 (repeat ((try with_reducible refine W.step (b:=false) ?_);simp (decide:=true) only [go_sem,↓reduceIte,Nat.reduceAdd,Nat.reduceSub,f1,f2,f3];try with_reducible refine drawn hmix (by kernel_rfl) ?_))
 exact postV.of (Q3a _ (.inr rfl) (by unfold resV;simp only [go_sem,↓reduceIte,Nat.reduceAdd,Nat.reduceSub,Nat.reduceMul,Nat.reduceEqDiff,Nat.reduceLeDiff,Nat.reduceLT,Int.reduceLE,Int.reduceLT,Int.reduceToNat,Int.reduceEq]) rfl (.agg (by simp [plainA])) (.plain rfl))
attribute [go_sem] appL newsA isSlice
theorem encI_len8:∀ x:Itm,(encI x).length=8
 | .mk _ _ _ _ _ _ _ _=>by rw [encI];rfl
theorem lenI8 (l:List Itm):(l.flatMap encI).length=l.length*8:=Q1f (sz:=8) encI_len8 l
theorem rowI8 {l:List Itm} {k:Nat} (hk:k<l.length):((l.flatMap encI).drop (k*8)).take 8=encI l[k]∧k*8+8≤(l.flatMap encI).length:=by
 have h2:=Q2h encI 8 encI_len8 l k hk 0 8 (by decide);rw [Nat.add_zero,List.drop_zero,List.take_of_length_le (l:=encI l[k]) (by rw [encI_len8];decide)] at h2;exact ⟨h2,Q3u encI 8 encI_len8 l k hk (j:=0) (by decide)⟩
theorem noI:∀ x:Itm,noIdsL (encI x)=true
 | .mk _ _ _ _ _ _ _ _=>by rw [encI];rfl
theorem ltI (n:Nat) (l:List Itm):ltL n (l.flatMap encI):=Q3d _ _ (Q0m noI l)
theorem reI (g:Nat→Nat) (l:List Itm):reFL g (l.flatMap encI)=l.flatMap encI:=Q2v _ _ (Q0m noI l)
theorem plainI (l:List Itm):∀ a∈l.flatMap encI,plainA a=true:=fun a ha=>by
 obtain ⟨x,-,h⟩:=List.mem_flatMap.1 ha;obtain ⟨k,s,d,n,mn,mx,v,l⟩:=x;rw [encI] at h;simp only [List.mem_cons,List.not_mem_nil,or_false] at h;rcases h with rfl | rfl | rfl | rfl | rfl | rfl | rfl | rfl <;> rfl
theorem shL_snoc (lost:Cx→Bool):∀ (l:List Itm) (x:Itm),shI.shL lost (l++[x])=shI.shL lost l++if (shI lost x).2=true then [(shI lost x).1] else []
 | [],x=>by
   rw [List.nil_append,shI.shL,shI.shL]
   rfl
 | y::l,x=>by
   rw [List.cons_append,shI.shL,shI.shL,shL_snoc lost l x]
   split <;> rfl
theorem shL_len (lost:Cx→Bool):∀ l:List Itm,(shI.shL lost l).length≤l.length
 | []=>Nat.le_refl _
 | x::l=>by
   rw [shI.shL];have:=shL_len lost l
   split <;> simp only [List.length_cons] <;> omega
set_option maxRecDepth 100000 in
set_option maxHeartbeats 4000000 in
theorem items_of (S:Saf) (PG:List (List Nod)) (l:List Itm) (hl:l.length≤1000000)
 (HC:∀ x∈l,PureN Tryz.prog gt0 116 [.agg (shk S PG),.agg (encI x)] (.tup [.agg (encI (shI (lostB S PG) x).1),.g (.bool (shI (lostB S PG) x).2)])):ItemsP S PG l:=by
 unfold ItemsP;rw [Q4d,Q4d];generalize lostB S PG=lost at HC ⊢;refine PureN.of_w2 (c:=_) Tryz.func66 rfl (by kernel_rfl) rfl ?_;simp only [Tryz.f66,List.replicate,List.length_cons,List.length_nil,Nat.reduceAdd,Nat.reduceSub,List.cons_append,List.nil_append,shk] at HC ⊢
 (repeat ((try with_reducible refine W.step (b:=false) ?_);simp (decide:=true) only [go_sem,↓reduceIte,Nat.reduceAdd,Nat.reduceSub]))
 refine W.loop (s1:=stL [aN,(.sl l.length 8 (l.flatMap encI)),(.ptr 0 0),aN,aN,(ownA 1 8 0 (shI.shL lost (l.take 0))),aN,aN,aN,aN,(.sl l.length 8 (l.flatMap encI)),(.g (.int .i64 (l.length:Int))),(.g (.int .i64 (((0:Nat):Int):Int))),aN,aN,aN,aN,aN,aN,aN,aN,aN,aN,aN,aN,aN,aN,aN,aN] ([(0,.cells [.sl S.cls.length 1 (S.cls.flatMap encN),.sl S.atts.length 1 (S.atts.flatMap encN),.sl PG.length 1 (PG.flatMap encPg)])]++rowsM encI 1 (fun _=>(shI.shL lost (l.take 0))) 1) 2)
  (fun (k:Nat) t=>k≤l.length∧t=stL [aN,(.sl l.length 8 (l.flatMap encI)),(.ptr 0 0),aN,aN,(ownA 1 8 0 (shI.shL lost (l.take k))),aN,aN,aN,aN,(.sl l.length 8 (l.flatMap encI)),(.g (.int .i64 (l.length:Int))),(.g (.int .i64 (k:Int))),aN,aN,aN,aN,aN,aN,aN,aN,aN,aN,aN,aN,aN,aN,aN,aN] ([(0,.cells [.sl S.cls.length 1 (S.cls.flatMap encN),.sl S.atts.length 1 (S.atts.flatMap encN),.sl PG.length 1 (PG.flatMap encPg)])]++rowsM encI 1 (fun _=>(shI.shL lost (l.take k))) 1) 2) (fun k=>l.length - k) 0 ⟨Nat.zero_le _,rfl⟩ ?_ ?_
 ·refine VSkeep (Nat.zero_le _) (fun q hq=>?_) (by simp [Q0e,Q0f,ltA,ownA,shI.shL])
  simp only [List.cons_append,List.nil_append,List.take_zero,shI.shL,Q1z,List.mem_cons,List.not_mem_nil,or_false] at hq;rcases hq with rfl;exact ⟨(show 0<2 by decide),by simp [ltB,ltL,ltA],rfl⟩
 rintro k t ⟨hk,rfl⟩;have hacl:(shI.shL lost (l.take k)).length≤1000000:=Nat.le_trans (shL_len _ _) (by rw [List.length_take];omega)
 by_cases hlt:k<l.length
 ·obtain ⟨r1,r2⟩:=rowI8 hlt
  have hs:shI.shL lost (l.take (k+1))=shI.shL lost (l.take k)++if (shI lost l[k]).2=true then [(shI lost l[k]).1] else []:=by rw [List.take_succ_eq_append_getElem hlt,shL_snoc]
  have HA:=HC l[k] (List.getElem_mem hlt);generalize shI lost l[k]=y at hs HA;generalize shI.shL lost (l.take k)=acc at hs hacl ⊢;generalize l[k]=x at r1 HA;obtain ⟨k1,s1,d1,nn1,mn1,mx1,v1,l1⟩:=x;obtain ⟨⟨k2,s2,d2,nn2,mn2,mx2,v2,l2⟩,b⟩:=y;simp only [encI] at HA r1;simp only at hs
  have hfin:∀ (acc:List Itm) (m2:ML) (n2:Nat) (nb:Nat) (ll:List AV),acc≠[]→1≤nb→getL m2 0=some (.cells [.sl S.cls.length 1 (S.cls.flatMap encN),.sl S.atts.length 1 (S.atts.flatMap encN),.sl PG.length 1 (PG.flatMap encPg)])→getL m2 nb=some (.cells (acc.flatMap encI))→reT (mv 1 nb) 2 [aN,(.sl l.length 8 (l.flatMap encI)),(.ptr 0 0),aN,aN,(ownA 1 8 0 acc),aN,aN,aN,aN,(.sl l.length 8 (l.flatMap encI)),(.g (.int .i64 (l.length:Int))),(.g (.int .i64 (((k+1:Nat):Int):Int))),aN,aN,aN,aN,aN,aN,aN,aN,aN,aN,aN,aN,aN,aN,aN,aN] ll →
   VS gt0 .none (stL ll m2 n2) (stL [aN,(.sl l.length 8 (l.flatMap encI)),(.ptr 0 0),aN,aN,(ownA 1 8 0 acc),aN,aN,aN,aN,(.sl l.length 8 (l.flatMap encI)),(.g (.int .i64 (l.length:Int))),(.g (.int .i64 (((k+1:Nat):Int):Int))),aN,aN,aN,aN,aN,aN,aN,aN,aN,aN,aN,aN,aN,aN,aN,aN] ([(0,.cells [.sl S.cls.length 1 (S.cls.flatMap encN),.sl S.atts.length 1 (S.atts.flatMap encN),.sl PG.length 1 (PG.flatMap encPg)])]++rowsM encI 1 (fun _=>acc) 1) 2):=fun acc m2 n2 nb ll hne hnb g0 g5 hl=>by
   refine VSmove 1 nb (Nat.zero_le _) (by decide) hnb (fun q hq=>?_) hl;have h2:=Q1y (enc:=encI) (b0:=1) hne;rw [h2] at hq;have e0:mv 1 nb 0=0:=rfl;have e1:mv 1 nb 1=nb:=rfl;simp only [List.cons_append,List.nil_append,List.mem_cons,List.not_mem_nil,or_false] at hq;rcases hq with rfl | rfl
   ·exact ⟨(show 0≤1 by decide),by simp [ltB,ltL,ltA],by simp only [reFB,reFL,reF,e0];exact g0⟩
   ·exact ⟨(show 1≤1 by decide),ltI _ _,by rw [reFB,reI,e1];exact g5⟩
  by_cases hnil:acc=[]
  ·subst hnil
   (repeat ((try with_reducible refine W.step (b:=false) ?_);simp (decide:=true) only [go_sem,↓reduceIte,Nat.reduceAdd,Nat.reduceSub,own_nil,Q1z,hlt,r1,r2]))
   refine AtCall.mk HA ?_
   cases b with
   | true =>
     (repeat ((try with_reducible refine W.step (b:=false) ?_);simp (decide:=true) only [go_sem,↓reduceIte,Nat.reduceAdd,Nat.reduceSub]))
     refine ⟨k+1,_,⟨by omega,rfl⟩,by show l.length - (k+1)<l.length - k;omega,?_⟩;rw [up1 (by omega),hs,if_pos rfl];refine hfin _ _ _ 5 _ (by simp) (by decide) rfl (by simp [getL,encI]) ?_;simp [Q1i,Q2i,reF,ltA,mv,ownA]
   | false =>
     (repeat ((try with_reducible refine W.step (b:=false) ?_);simp (decide:=true) only [go_sem,↓reduceIte,Nat.reduceAdd,Nat.reduceSub]))
     refine ⟨k+1,_,⟨by omega,rfl⟩,by show l.length - (k+1)<l.length - k;omega,?_⟩;rw [up1 (by omega),hs,if_neg (by decide),List.append_nil,Q1z,own_nil];refine VSkeep (Nat.zero_le _) (fun q hq=>?_) (by simp [Q0e,Q0f,ltA]);simp only [List.append_nil,List.mem_cons,List.not_mem_nil,or_false] at hq;rcases hq with rfl;exact ⟨(show 0<2 by decide),by simp [ltB,ltL,ltA],rfl⟩
  ·have hacc:=Q1y (enc:=encI) (b0:=1) hnil
   have ho:=Q1e (b0:=1) (sz:=8) (j:=0) hnil;have f1:(acc.length+1≤acc.length)=False:=eq_false (by omega);have hlz:=lenI8 acc;have f2:(acc.length+1)*145≤17179869184:=by omega
   (repeat ((try with_reducible refine W.step (b:=false) ?_);simp (decide:=true) only [go_sem,↓reduceIte,Nat.reduceAdd,Nat.reduceSub,hacc,ho,hlt,r1,r2,f1,f2]))
   refine AtCall.mk HA ?_
   cases b with
   | true =>
     have htk:(acc.flatMap encI).take (acc.length*8)=acc.flatMap encI:=List.take_of_length_le (by omega)
     (repeat ((try with_reducible refine W.step (b:=false) ?_);simp (decide:=true) only [go_sem,↓reduceIte,Nat.reduceAdd,Nat.reduceSub,f1,f2,hlz,htk]))
     refine ⟨k+1,_,⟨by omega,rfl⟩,by show l.length - (k+1)<l.length - k;omega,?_⟩;rw [up1 (by omega),hs,if_pos rfl];refine hfin _ _ _ 5 _ (by simp) (by decide) rfl (by rw [List.flatMap_append];simp [getL,encI]) ?_;rw [Q1e (by simp)];simp [Q1i,Q2i,reF,ltA,mv]
   | false =>
     (repeat ((try with_reducible refine W.step (b:=false) ?_);simp (decide:=true) only [go_sem,↓reduceIte,Nat.reduceAdd,Nat.reduceSub]))
     refine ⟨k+1,_,⟨by omega,rfl⟩,by show l.length - (k+1)<l.length - k;omega,?_⟩;rw [up1 (by omega),hs,if_neg (by decide),List.append_nil];refine hfin _ _ _ 1 _ hnil (by decide) rfl rfl ?_;rw [Q1e hnil];simp [Q1i,Q2i,reF,ltA,mv]
 ·obtain rfl:k=l.length:=by omega
  rw [List.take_length] at hacl ⊢;generalize shI.shL lost l=acc at hacl ⊢
  by_cases hnil:acc=[]
  ·subst hnil
   (repeat ((try with_reducible refine W.step (b:=false) ?_);simp (decide:=true) only [go_sem,↓reduceIte,Nat.reduceAdd,Nat.reduceSub,own_nil,Q1z,hlt]))
   exact postV_nil 8 _ (.inr rfl) rfl
  ·have hacc:=Q1y (enc:=encI) (b0:=1) hnil
   have ho:=Q1e (b0:=1) (sz:=8) (j:=0) hnil;have hlz:=lenI8 acc
   (repeat ((try with_reducible refine W.step (b:=false) ?_);simp (decide:=true) only [go_sem,↓reduceIte,Nat.reduceAdd,Nat.reduceSub,hacc,ho,hlt]))
   refine postV.of (Q0a _ (.inr rfl) rfl ?_);have:=SealTo.gs (m:=[(0,.cells [.sl S.cls.length 1 (S.cls.flatMap encN),.sl S.atts.length 1 (S.atts.flatMap encN),.sl PG.length 1 (PG.flatMap encPg)]),(1,.cells (acc.flatMap encI))]) (b:=1) (o:=0) (k:=acc.length) (sz:=8) (c:=acc.length) (cs:=acc.flatMap encI) rfl (by omega) (fun a ha=>plainI acc a (List.mem_of_mem_drop (List.mem_of_mem_take ha)));rw [List.drop_zero,List.take_of_length_le (by omega)] at this;exact this
mutual
def OkT:Itm→Prop
 | .mk k s _ _ _ _ _ l=>s.length≤1000000∧(k=1→∀ c∈s,OkC c)∧l.length≤1000000∧OkTL l
def OkTL:List Itm→Prop
 | []=>True
 | x::xs=>OkT x∧OkTL xs
end
theorem OkTL_mem:∀ {l:List Itm},OkTL l→∀ x∈l,OkT x
 | y::ys,h,x,hx=>by
   rw [OkTL] at h;rcases List.mem_cons.1 hx with rfl | hx
   ·exact h.1
   ·exact OkTL_mem h.2 x hx
theorem item_all (S:Saf) (PG:List (List Nod)) (h:OkS S PG) (N:Nat):∀ x:Itm,SizeOf.sizeOf x≤N→OkT x →
 PureN Tryz.prog gt0 116 [.agg (shk S PG),.agg (encI x)] (.tup [.agg (encI (shI (lostB S PG) x).1),.g (.bool (shI (lostB S PG) x).2)]):=by
 induction N with
 | zero=>intro x hx;cases x;simp at hx
 | succ N ih =>
   rintro ⟨k,s,d,nn,mn,mx,v,l⟩ hsz ho;rw [OkT] at ho;rw [Itm.mk.sizeOf_spec] at hsz;exact item_p S PG h k s d nn mn mx v l ho.1 ho.2.1 fun _=>items_of S PG l ho.2.2.1 fun x hx=>ih x (by have:=List.sizeOf_lt_of_mem hx;omega) (OkTL_mem ho.2.2.2 x hx)
theorem items_p (S:Saf) (PG:List (List Nod)) (h:OkS S PG) (l:List Itm) (hl:l.length≤1000000) (ho:∀ x∈l,OkT x):ItemsP S PG l :=
 items_of S PG l hl fun x hx=>item_all S PG h _ x (Nat.le_refl _) (ho x hx)
set_option maxRecDepth 100000 in
set_option maxHeartbeats 4000000 in
theorem rules_p (S:Saf) (PG:List (List Nod)) (h:OkS S PG) (l:List Itm) (hl:l.length≤1000000) (ho:∀ x∈l,OkT x) :
 PureN Tryz.prog gt0 28 [.agg (safA S),.sl l.length 8 (l.flatMap encI),.sl PG.length 1 (PG.flatMap encPg)] (.sl (shI.shL (lostB S PG) l).length 8 ((shI.shL (lostB S PG) l).flatMap encI)):=by
 have HC:=items_p S PG h l hl ho;unfold ItemsP at HC;rw [Q4d,Q4d] at HC;generalize shI.shL (lostB S PG) l=l2 at HC ⊢;refine PureN.of_w (c:=_) Tryz.func28 rfl (by kernel_rfl) rfl ?_;simp only [Tryz.f28,List.replicate,List.length_cons,List.length_nil,Nat.reduceAdd,Nat.reduceSub,List.cons_append,List.nil_append,shk,safA] at HC ⊢
 (repeat ((try with_reducible refine W.step (b:=false) ?_);simp (decide:=true) only [go_sem,↓reduceIte,Nat.reduceAdd,Nat.reduceSub]))
 refine AtCall.mk HC ?_
 (repeat ((try with_reducible refine W.step (b:=false) ?_);simp (decide:=true) only [go_sem,↓reduceIte,Nat.reduceAdd,Nat.reduceSub]))
 exact Q0a _ (.inr rfl) rfl (.plain rfl)
attribute [go_sem] appL newsA isSlice
def cntX (m:Nat):Simp→Nat→Nat
 | .mk _ nm v _ _ l,n=>if nm.size≤100∧v.size≤100 then cntL l (n+1) else m+1
where cntL:List Simp→Nat→Nat
 | [],n=>n
 | x::xs,n=>if n≤m then cntL xs (cntX m x n) else n
abbrev cntL (m:Nat):=cntX.cntL m
theorem cntL_nil (m n:Nat):cntL m [] n=n:=rfl
theorem cntL_cons (m n:Nat) (x:Simp) (xs:List Simp):cntL m (x::xs) n=if n≤m then cntL m xs (cntX m x n) else n:=rfl
theorem cntL_stop (m n:Nat) (l:List Simp) (h:¬n≤m):cntL m l n=n:=by
 cases l with
 | nil=>rfl
 | cons x xs=>rw [cntL_cons,if_neg h]
def smS:Simp→Prop
 | .mk _ nm _ _ _ l=>nm.size≤100∧l.length≤1000∧smL l
where smL:List Simp→Prop
 | []=>True
 | x::xs=>smS x∧smL xs
theorem cnt_spec (m:Nat) (hm:m≤1000) (N:Nat):∀ (l:List Simp),SizeOf.sizeOf l≤N→∀ n,n≤m+1→n≤cntL m l n∧cntL m l n≤m+1∧(cntL m l n≤m→n+l.length≤cntL m l n∧smS.smL l):=by
 induction N with
 | zero=>intro l hl;cases l <;> simp at hl
 | succ N ih =>
   intro l hl n hn
   cases l with
   | nil=>exact ⟨Nat.le_refl _,hn,fun _=>⟨Nat.le_refl _,trivial⟩⟩
   | cons x xs =>
     obtain ⟨kind,nm,v,a,b,ll⟩:=x;rw [List.cons.sizeOf_spec,Simp.mk.sizeOf_spec] at hl;rw [cntL_cons]
     by_cases h:n≤m
     ·rw [if_pos h]
      have hx:cntX m (.mk kind nm v a b ll) n=if nm.size≤100∧v.size≤100 then cntL m ll (n+1) else m+1:=by rw [cntX]
      rw [hx]
      by_cases hs:nm.size≤100∧v.size≤100
      ·rw [if_pos hs]
       obtain ⟨i1,i2,i3⟩:=ih ll (by omega) (n+1) (by omega);obtain ⟨j1,j2,j3⟩:=ih xs (by omega) (cntL m ll (n+1)) i2;refine ⟨by omega,j2,fun hc=>?_⟩;obtain ⟨k1,k2⟩:=j3 hc;obtain ⟨k3,k4⟩:=i3 (by omega);refine ⟨by rw [List.length_cons];omega,⟨⟨hs.1,by omega,k4⟩,k2⟩⟩
      ·rw [if_neg hs,cntL_stop m (m+1) xs (by omega)]
       exact ⟨by omega,Nat.le_refl _,fun h=>by omega⟩
     ·rw [if_neg h]
      exact ⟨Nat.le_refl _,hn,fun h2=>absurd h2 h⟩
theorem rowSv {l:List Simp} {k:Nat} (hk:k<l.length):(l.flatMap encS)[k*6+1]?=some (.g (.string l[k].name))∧(l.flatMap encS)[k*6+2]?=some (.g (.string l[k].value))∧(l.flatMap encS)[k*6+5]?=some (.sl l[k].l.length 6 (l[k].l.flatMap encS)):=by
 have h:=flat_get encS 6 lenSq l k hk;obtain ⟨a,b,e⟩:∃ a b,encS l[k]=[.g (.int .i64 l[k].kind),.g (.string l[k].name),.g (.string l[k].value),.g (.int .i64 a),.g (.int .i64 b),.sl l[k].l.length 6 (l[k].l.flatMap encS)]:=by
  cases hx:l[k];exact ⟨_,_,encS_m _ _ _ _ _ _⟩
 rw [e] at h;exact ⟨h 1 (by decide),h 2 (by decide),h 5 (by decide)⟩
theorem cntX_of {m n:Nat} (x:Simp):cntX m x n=if x.name.size≤100∧x.value.size≤100 then cntL m x.l (n+1) else m+1:=by
 cases x;rw [cntX];rfl
set_option maxRecDepth 100000 in
set_option maxHeartbeats 4000000 in
theorem count_p (m:Nat) (hm:m≤1000) (N:Nat):∀ (l:List Simp),SizeOf.sizeOf l≤N→∀ n,n≤m+1→PureN Tryz.prog gt0 49 [.sl l.length 6 (l.flatMap encS),.g (.int .i64 (n:Int)),.g (.int .i64 (m:Int))] (.g (.int .i64 (cntL m l n:Int))):=by
 induction N with
 | zero=>intro l hl;cases l <;> simp at hl
 | succ N ih =>
   intro l hl n hn;refine PureN.of_w (c:=_) Tryz.func49 rfl (by kernel_rfl) rfl ?_;simp only [Tryz.f49,List.replicate,List.length_cons,List.length_nil,Nat.reduceAdd,Nat.reduceSub,List.cons_append,List.nil_append]
   (repeat ((try with_reducible refine W.step (b:=false) ?_);simp (decide:=true) only [go_sem,↓reduceIte,Nat.reduceAdd,Nat.reduceSub]))
   refine W.loop (s1:=stL [(.sl l.length 6 (l.flatMap encS)),(.g (.int .i64 (n:Int))),(.g (.int .i64 (m:Int))),aN,aN,aN,(.g (.int .i64 0)),(.g (.int .i64 ((0:Nat):Int))),aN,aN,aN,aN,aN,aN,aN,aN,aN,aN,aN,aN,aN,aN,aN,aN,aN,aN,aN,aN,aN,aN,aN,aN,aN,aN,aN,aN,aN,aN,aN,aN,aN,aN,aN,aN,aN,aN,aN,aN] [] 0)
    (fun (z:Nat×Nat) t=>(z.1≤l.length∧z.1≤z.2∧z.2≤m+1∧cntL m l n=cntL m (l.drop z.1) z.2)∧t=stL [(.sl l.length 6 (l.flatMap encS)),(.g (.int .i64 (z.2:Int))),(.g (.int .i64 (m:Int))),aN,aN,aN,(.g (.int .i64 0)),(.g (.int .i64 (z.1:Int))),aN,aN,aN,aN,aN,aN,aN,aN,aN,aN,aN,aN,aN,aN,aN,aN,aN,aN,aN,aN,aN,aN,aN,aN,aN,aN,aN,aN,aN,aN,aN,aN,aN,aN,aN,aN,aN,aN,aN,aN] [] 0) (fun z=>l.length - z.1) (0,n) ⟨⟨Nat.zero_le _,Nat.zero_le _,hn,rfl⟩,rfl⟩ (VS.tm (by simp [leL])) ?_
   rintro ⟨k,c⟩ t ⟨⟨hk,hkc,hc,he⟩,rfl⟩;simp only at hk hkc hc he;rw [he]
   by_cases hlt:k<l.length
   ·rw [List.drop_eq_getElem_cons hlt,cntL_cons] at he ⊢
    by_cases hcm:c≤m
    ·have fc:((c:Int)≤(m:Int))=True:=eq_true (by omega)
     rw [if_pos hcm,cntX_of] at he ⊢;obtain ⟨r1,r2,r3⟩:=rowSv hlt
     by_cases h1:l[k].name.size≤100
     rotate_left
     ·have f1:((100:Int)<(l[k].name.size:Int))=True:=eq_true (by omega)
      rw [if_neg (fun h=>h1 h.1),cntL_stop m _ _ (by omega)]
      (repeat ((try with_reducible refine W.step (b:=false) ?_);simp (decide:=true) only [go_sem,↓reduceIte,Nat.reduceAdd,Nat.reduceSub,hlt,fc,r1,r2,r3,f1]))
      refine Q0a _ (.inr rfl) ?_ (.plain rfl);unfold resV;simp only [go_sem,↓reduceIte,Nat.reduceAdd,Nat.reduceSub,Nat.reduceMul,Nat.reduceEqDiff,Nat.reduceLeDiff,Nat.reduceLT,Int.reduceLE,Int.reduceLT,Int.reduceToNat,Int.reduceEq];rw [up1 (by omega)]
     have f1:((100:Int)<(l[k].name.size:Int))=False:=eq_false (by omega)
     by_cases h2:l[k].value.size≤100
     rotate_left
     ·have f2:((100:Int)<(l[k].value.size:Int))=True:=eq_true (by omega)
      rw [if_neg (fun h=>h2 h.2),cntL_stop m _ _ (by omega)]
      (repeat ((try with_reducible refine W.step (b:=false) ?_);simp (decide:=true) only [go_sem,↓reduceIte,Nat.reduceAdd,Nat.reduceSub,hlt,fc,r1,r2,r3,f1,f2]))
      refine Q0a _ (.inr rfl) ?_ (.plain rfl);unfold resV;simp only [go_sem,↓reduceIte,Nat.reduceAdd,Nat.reduceSub,Nat.reduceMul,Nat.reduceEqDiff,Nat.reduceLeDiff,Nat.reduceLT,Int.reduceLE,Int.reduceLT,Int.reduceToNat,Int.reduceEq];rw [up1 (by omega)]
     have f2:((100:Int)<(l[k].value.size:Int))=False:=eq_false (by omega);rw [if_pos ⟨h1,h2⟩] at he ⊢;have hsz:=List.sizeOf_lt_of_mem (List.getElem_mem hlt);have hsl:SizeOf.sizeOf l[k].l<SizeOf.sizeOf l[k]:=by
      cases hx:l[k];rw [Simp.mk.sizeOf_spec];show SizeOf.sizeOf (Simp.l _)<_;simp [Simp.l];omega
     have IH:=ih l[k].l (by omega) (c+1) (by omega);obtain ⟨s1,s2,-⟩:=cnt_spec m hm N l[k].l (by omega) (c+1) (by omega);have fc1:IntKind.i64.wrap ((c:Int)+1)=((c+1:Nat):Int):=up1 (by omega)
     (repeat ((try with_reducible refine W.step (b:=false) ?_);simp (decide:=true) only [go_sem,↓reduceIte,Nat.reduceAdd,Nat.reduceSub,hlt,fc,r1,r2,r3,f1,f2,fc1]))
     refine AtCall.mk IH ?_
     (repeat ((try with_reducible refine W.step (b:=false) ?_);simp (decide:=true) only [go_sem,↓reduceIte,Nat.reduceAdd,Nat.reduceSub]))
     refine ⟨(k+1,cntL m l[k].l (c+1)),_,⟨⟨hlt,by simp only;omega,s2,by rw [←he]⟩,rfl⟩,by show l.length - (k+1)<l.length - k;omega,?_⟩;rw [up1 (by omega)];exact VS.tm (by simp [leL])
    ·have fc:((c:Int)≤(m:Int))=False:=eq_false (by omega)
     rw [if_neg hcm]
     (repeat ((try with_reducible refine W.step (b:=false) ?_);simp (decide:=true) only [go_sem,↓reduceIte,Nat.reduceAdd,Nat.reduceSub,hlt,fc]))
     exact Q0a _ (.inr rfl) rfl (.plain rfl)
   ·rw [List.drop_of_length_le (by omega),cntL_nil]
    (repeat ((try with_reducible refine W.step (b:=false) ?_);simp (decide:=true) only [go_sem,↓reduceIte,Nat.reduceAdd,Nat.reduceSub,hlt]))
    exact Q0a _ (.inr rfl) rfl (.plain rfl)
attribute [go_sem] appL newsA isSlice
def cntP (m:Nat):List Part→Nat→Nat
 | [],n=>n
 | x::xs,n=>if n≤m then cntP m xs (cntL m x.l n) else n
def smC (m:Nat):List Cx→Nat→Bool
 | [],n=>decide (n≤m)
 | c::cs,n=>if n≤m then (if c.pseudo.size≤100 then smC m cs (cntP m c.parts (n+c.parts.length)) else false) else false
theorem cntP_stop (m n:Nat) (l:List Part) (h:¬n≤m):cntP m l n=n:=by
 cases l with
 | nil=>rfl
 | cons x xs=>rw [cntP,if_neg h]
theorem cntP_spec {m:Nat} (hm:m≤1000):∀ (l:List Part) (n:Nat),n≤cntP m l n∧(cntP m l n≤m→n+simps l≤cntP m l n∧∀ x∈l,smS.smL x.l)
 | [],n=>⟨Nat.le_refl _,fun _=>⟨by simp [simps,cntP],fun x hx=>by simp at hx⟩⟩
 | x::xs,n=>by
   rw [cntP]
   by_cases h:n≤m
   ·rw [if_pos h]
    obtain ⟨i1,i2,i3⟩:=cnt_spec m hm _ x.l (Nat.le_refl _) n (by omega);obtain ⟨j1,j2⟩:=cntP_spec hm xs (cntL m x.l n);refine ⟨by omega,fun hc=>?_⟩;obtain ⟨k1,k2⟩:=j2 hc;obtain ⟨k3,k4⟩:=i3 (by omega);refine ⟨by simp only [simps,List.map_cons,List.sum_cons] at k1 ⊢;omega,fun y hy=>?_⟩;rcases List.mem_cons.1 hy with rfl | hy
    ·exact k4
    ·exact k2 y hy
   ·rw [if_neg h]
    exact ⟨Nat.le_refl _,fun h2=>absurd h2 h⟩
def smCx (m:Nat) (c:Cx):Prop:=c.parts.length+simps c.parts≤m∧c.pseudo.size≤100∧∀ x∈c.parts,smS.smL x.l
theorem smC_spec {m:Nat} (hm:m≤1000):∀ (l:List Cx) (n:Nat),smC m l n=true→n≤m∧∀ c∈l,smCx m c
 | [],n,h=>⟨of_decide_eq_true h,fun c hc=>by simp at hc⟩
 | c :: cs,n,h=>by
   rw [smC] at h
   by_cases hn:n≤m
   ·rw [if_pos hn] at h
    by_cases hp:c.pseudo.size≤100
    ·rw [if_pos hp] at h
     obtain ⟨h1,h2⟩:=smC_spec hm cs _ h;obtain ⟨j1,j2⟩:=cntP_spec hm c.parts (n+c.parts.length);obtain ⟨k1,k2⟩:=j2 h1;refine ⟨hn,fun y hy=>?_⟩;rcases List.mem_cons.1 hy with rfl | hy
     ·exact ⟨by omega,hp,k2⟩
     ·exact h2 y hy
    ·rw [if_neg hp] at h;cases h
   ·rw [if_neg hn] at h;cases h
theorem rowCs {l:List Cx} {k:Nat} (hk:k<l.length):(l.flatMap encC)[k*2]?=some (.sl l[k].parts.length 2 (l[k].parts.flatMap encP))∧(l.flatMap encC)[k*2+1]?=some (.g (.string l[k].pseudo)):=by
 have h:=flat_get encC 2 (fun _=>rfl) l k hk;exact ⟨h 0 (by decide),h 1 (by decide)⟩
set_option maxRecDepth 100000 in
set_option maxHeartbeats 4000000 in
theorem small4_p (l:List Cx) (m:Nat) (hm:m≤1000) (hg:∀ c∈l,c.parts.length≤140737488351232):PureN Tryz.prog gt0 19 [.sl l.length 2 (l.flatMap encC),.g (.int .i64 (m:Int))] (.g (.bool (smC m l l.length))):=by
 refine PureN.of_w (c:=_) Tryz.func19 rfl (by kernel_rfl) rfl ?_;simp only [Tryz.f19,List.replicate,List.length_cons,List.length_nil,Nat.reduceAdd,Nat.reduceSub,List.cons_append,List.nil_append];obtain ⟨R,hR⟩:∃ R,smC m l l.length=R:=⟨_,rfl⟩;rw [hR]
 (repeat ((try with_reducible refine W.step (b:=false) ?_);simp (decide:=true) only [go_sem,↓reduceIte,Nat.reduceAdd,Nat.reduceSub]))
 refine W.loop (s1:=stL [(.sl l.length 2 (l.flatMap encC)),(.g (.int .i64 (m:Int))),aN,aN,(.g (.bool false)),(.g (.int .i64 (l.length:Int))),(.g (.int .i64 ((0:Nat):Int))),aN,aN,aN,aN,aN,aN,aN,aN,aN,aN,aN,aN,aN,aN,aN,aN,aN,aN,aN,aN,aN,aN,aN,aN,aN,aN,aN,aN,aN,aN,aN,aN,aN,aN,aN,aN,aN,aN,aN,aN,aN,aN,aN,aN,aN,aN,aN,aN,aN,aN,aN,aN,aN,aN,aN,aN,aN,aN,aN] [] 0)
  (fun (z:Nat×Nat) t=>(z.1≤l.length∧l.length≤z.2∧R=smC m (l.drop z.1) z.2)∧t=stL [(.sl l.length 2 (l.flatMap encC)),(.g (.int .i64 (m:Int))),aN,aN,(.g (.bool false)),(.g (.int .i64 (z.2:Int))),(.g (.int .i64 (z.1:Int))),aN,aN,aN,aN,aN,aN,aN,aN,aN,aN,aN,aN,aN,aN,aN,aN,aN,aN,aN,aN,aN,aN,aN,aN,aN,aN,aN,aN,aN,aN,aN,aN,aN,aN,aN,aN,aN,aN,aN,aN,aN,aN,aN,aN,aN,aN,aN,aN,aN,aN,aN,aN,aN,aN,aN,aN,aN,aN,aN] [] 0) (fun z=>l.length - z.1) (0,l.length) ⟨⟨Nat.zero_le _,Nat.le_refl _,hR.symm⟩,rfl⟩ (VS.tm (by simp [leL])) ?_
 rintro ⟨i,n⟩ t ⟨⟨hi,hln,he⟩,rfl⟩;simp only at hi hln he
 by_cases hlt:i<l.length
 ·rw [List.drop_eq_getElem_cons hlt,smC] at he
  by_cases hnm:n≤m
  ·rw [if_pos hnm] at he
   have fn:((n:Int)≤(m:Int))=True:=eq_true (by omega);obtain ⟨r1,r2⟩:=rowCs hlt;have hgl:=hg _ (List.getElem_mem hlt);have fw:IntKind.i64.wrap ((n:Int)+(l[i].parts.length:Int))=((n+l[i].parts.length:Nat):Int):=by rw [IntWalk.i64_in _ (by omega)];omega
   (repeat ((try with_reducible refine W.step (b:=false) ?_);simp (decide:=true) only [go_sem,↓reduceIte,Nat.reduceAdd,Nat.reduceSub,hlt,fn,r1,fw]))
   refine W.loop (s1:=stL [(.sl l.length 2 (l.flatMap encC)),(.g (.int .i64 (m:Int))),aN,aN,(.g (.bool false)),(.g (.int .i64 ((n+l[i].parts.length:Nat):Int))),(.g (.int .i64 (i:Int))),(.g (.int .i64 ((0:Nat):Int))),aN,aN,aN,aN,aN,aN,aN,aN,aN,aN,aN,aN,aN,aN,aN,aN,aN,aN,aN,aN,aN,aN,aN,aN,aN,aN,aN,aN,aN,aN,aN,aN,aN,aN,aN,aN,aN,aN,aN,aN,aN,aN,aN,aN,aN,aN,aN,aN,aN,aN,aN,aN,aN,aN,aN,aN,aN,aN] [] 0)
    (fun (z:Nat×Nat) t=>(z.1≤l[i].parts.length∧l[i].parts.length≤z.2∧l.length≤z.2∧cntP m l[i].parts (n+l[i].parts.length)=cntP m (l[i].parts.drop z.1) z.2)∧t=stL [(.sl l.length 2 (l.flatMap encC)),(.g (.int .i64 (m:Int))),aN,aN,(.g (.bool false)),(.g (.int .i64 (z.2:Int))),(.g (.int .i64 (i:Int))),(.g (.int .i64 (z.1:Int))),aN,aN,aN,aN,aN,aN,aN,aN,aN,aN,aN,aN,aN,aN,aN,aN,aN,aN,aN,aN,aN,aN,aN,aN,aN,aN,aN,aN,aN,aN,aN,aN,aN,aN,aN,aN,aN,aN,aN,aN,aN,aN,aN,aN,aN,aN,aN,aN,aN,aN,aN,aN,aN,aN,aN,aN,aN,aN] [] 0) (fun z=>l[i].parts.length - z.1) (0,n+l[i].parts.length) ⟨⟨Nat.zero_le _,by simp only;omega,by simp only;omega,rfl⟩,rfl⟩ (VS.tm (by simp [leL])) ?_
   rintro ⟨k,c⟩ t ⟨⟨hk,hpc,hlc,hc⟩,rfl⟩;simp only at hk hpc hlc hc
   by_cases hlk:k<l[i].parts.length
   ·by_cases hcm:c≤m
    ·have fc:((c:Int)≤(m:Int))=True:=eq_true (by omega)
     rw [List.drop_eq_getElem_cons hlk,cntP,if_pos hcm] at hc;obtain ⟨-,q2⟩:=rowPq hlk;obtain ⟨s1,s2,-⟩:=cnt_spec m hm _ l[i].parts[k].l (Nat.le_refl _) c (by omega);have HC:=count_p m hm _ l[i].parts[k].l (Nat.le_refl _) c (by omega)
     (repeat ((try with_reducible refine W.step (b:=false) ?_);simp (decide:=true) only [go_sem,↓reduceIte,Nat.reduceAdd,Nat.reduceSub,hlt,r1,hlk,fc,q2]))
     refine AtCall.mk HC ?_
     (repeat ((try with_reducible refine W.step (b:=false) ?_);simp (decide:=true) only [go_sem,↓reduceIte,Nat.reduceAdd,Nat.reduceSub]))
     refine ⟨(k+1,cntL m l[i].parts[k].l c),_,⟨⟨hlk,by simp only;omega,by simp only;omega,hc⟩,rfl⟩,by show l[i].parts.length - (k+1)<l[i].parts.length - k;omega,?_⟩;rw [up1 (by omega)];exact VS.tm (by simp [leL])
    ·have fc:((c:Int)≤(m:Int))=False:=eq_false (by omega)
     rw [cntP_stop m c _ hcm] at hc;rw [hc] at he
     by_cases hps:l[i].pseudo.size≤100
     ·have fp:((100:Int)<(l[i].pseudo.size:Int))=False:=eq_false (by omega)
      rw [if_pos hps] at he
      (repeat ((try with_reducible refine W.step (b:=false) ?_);simp (decide:=true) only [go_sem,↓reduceIte,Nat.reduceAdd,Nat.reduceSub,hlt,r1,r2,hlk,fc,fp]))
      refine ⟨(i+1,c),_,⟨⟨hlt,hlc,he⟩,rfl⟩,by show l.length - (i+1)<l.length - i;omega,?_⟩;rw [up1 (by omega)];exact VS.tm (by simp [leL])
     ·have fp:((100:Int)<(l[i].pseudo.size:Int))=True:=eq_true (by omega)
      rw [if_neg hps] at he;rw [he]
      (repeat ((try with_reducible refine W.step (b:=false) ?_);simp (decide:=true) only [go_sem,↓reduceIte,Nat.reduceAdd,Nat.reduceSub,hlt,r1,r2,hlk,fc,fp]))
      exact Q0a _ (.inr rfl) rfl (.plain rfl)
   ·rw [List.drop_of_length_le (by omega),cntP] at hc
    rw [hc] at he
    by_cases hps:l[i].pseudo.size≤100
    ·have fp:((100:Int)<(l[i].pseudo.size:Int))=False:=eq_false (by omega)
     rw [if_pos hps] at he
     (repeat ((try with_reducible refine W.step (b:=false) ?_);simp (decide:=true) only [go_sem,↓reduceIte,Nat.reduceAdd,Nat.reduceSub,hlt,r1,r2,hlk,fp]))
     refine ⟨(i+1,c),_,⟨⟨hlt,hlc,he⟩,rfl⟩,by show l.length - (i+1)<l.length - i;omega,?_⟩;rw [up1 (by omega)];exact VS.tm (by simp [leL])
    ·have fp:((100:Int)<(l[i].pseudo.size:Int))=True:=eq_true (by omega)
     rw [if_neg hps] at he;rw [he]
     (repeat ((try with_reducible refine W.step (b:=false) ?_);simp (decide:=true) only [go_sem,↓reduceIte,Nat.reduceAdd,Nat.reduceSub,hlt,r1,r2,hlk,fp]))
     exact Q0a _ (.inr rfl) rfl (.plain rfl)
  ·rw [if_neg hnm] at he
   have fn:((n:Int)≤(m:Int))=False:=eq_false (by omega);rw [he]
   (repeat ((try with_reducible refine W.step (b:=false) ?_);simp (decide:=true) only [go_sem,↓reduceIte,Nat.reduceAdd,Nat.reduceSub,hlt,fn]))
   exact Q0a _ (.inr rfl) rfl (.plain rfl)
 ·rw [List.drop_of_length_le (by omega),smC] at he
  by_cases hnm:n≤m
  ·have fn:((n:Int)≤(m:Int))=True:=eq_true (by omega)
   rw [he,decide_eq_true hnm]
   (repeat ((try with_reducible refine W.step (b:=false) ?_);simp (decide:=true) only [go_sem,↓reduceIte,Nat.reduceAdd,Nat.reduceSub,hlt,fn]))
   exact Q0a _ (.inr rfl) rfl (.plain rfl)
  ·have fn:((n:Int)≤(m:Int))=False:=eq_false (by omega)
   rw [he,decide_eq_false hnm]
   (repeat ((try with_reducible refine W.step (b:=false) ?_);simp (decide:=true) only [go_sem,↓reduceIte,Nat.reduceAdd,Nat.reduceSub,hlt,fn]))
   exact Q0a _ (.inr rfl) rfl (.plain rfl)
attribute [go_sem] appL newsA isSlice
theorem fixed19_p:PureN Tryz.prog gt0 24 [] (.g (.bool true)):=by
 refine PureN.ofC rfl ⟨_,Tryz.func24,rfl,by kernel_rfl⟩ fun w rargs ha=>?_;have hr:rargs.toList=[]:=ha;have hra:rargs=#[]:=Array.toList_inj.1 hr;rw [hra];exact fixed19_any w
theorem smL_memA:∀ {l:List Simp},smS.smL l→∀ x∈l,smS x
 | x::xs,h,y,hy=>by
   rcases List.mem_cons.1 hy with rfl | hy
   ·exact h.1
   ·exact smL_memA h.2 y hy
theorem okNL_of:∀ {l:List Simp},(∀ x∈l,okN x)→okN.okNL l
 | [],_=>trivial
 | x::_,h=>⟨h x List.mem_cons_self,okNL_of fun y hy=>h y (List.mem_cons_of_mem _ hy)⟩
theorem okL_ofA:∀ {l:List Simp},(∀ x∈l,okS x)→okS.okL l
 | [],_=>trivial
 | x::_,h=>⟨h x List.mem_cons_self,okL_ofA fun y hy=>h y (List.mem_cons_of_mem _ hy)⟩
theorem smS_okA (N:Nat):∀ (x:Simp),SizeOf.sizeOf x≤N→smS x→okS x∧okN x:=by
 induction N with
 | zero=>intro x hl;cases x;simp at hl
 | succ N ih =>
   rintro ⟨kind,nm,v,a,b,l⟩ hl h;rw [Simp.mk.sizeOf_spec] at hl;obtain ⟨h1,h2,h3⟩:=h;exact ⟨⟨by omega,okL_ofA fun x hx=>(ih x (by have:=List.sizeOf_lt_of_mem hx;omega) (smL_memA h3 x hx)).1⟩,⟨by omega,okNL_of fun x hx=>(ih x (by have:=List.sizeOf_lt_of_mem hx;omega) (smL_memA h3 x hx)).2⟩⟩
theorem simps_memA {PT:List Part} {pt:Part} (h:pt∈PT):pt.l.length≤simps PT:=by
 unfold simps
 induction PT with
 | nil=>simp at h
 | cons x xs ih =>
   rw [List.map_cons,List.sum_cons];rcases List.mem_cons.1 h with rfl | h
   ·omega
   ·have:=ih h;omega
theorem smCx_okA {m:Nat} (hm:m≤1000) {c:Cx} (h:smCx m c):OkC c:=by
 obtain ⟨h1,-,h3⟩:=h;exact ⟨⟨by omega,fun pt hp=>⟨by have:=simps_memA hp;omega,fun x hx=>(smS_okA _ x (Nat.le_refl _) (smL_memA (h3 pt hp) x hx)).1⟩⟩,fun pt hp x hx=>(smS_okA _ x (Nat.le_refl _) (smL_memA (h3 pt hp) x hx)).2⟩
theorem pgSm_ok {m:Nat} (hm:m≤1000) {p:List Nod} (h:pgSm m p=true):OkPg p:=by
 unfold pgSm at h;obtain ⟨g1,g2⟩:=Bool.and_eq_true_iff.1 h;have g1:=of_decide_eq_true g1;have hnd:∀ x∈p,x.name.size≤100∧x.text.size≤300∧x.attrs.length≤20∧x.kids.length≤m∧∀ a∈x.attrs,a.value.size≤100:=by
  intro x hx;have:=List.all_eq_true.1 g2 x hx;unfold ndSm at this;simp only [Bool.and_eq_true,decide_eq_true_eq,List.all_eq_true] at this;exact ⟨this.1,this.2.1,this.2.2.1,this.2.2.2.1,fun a ha=>(this.2.2.2.2 a ha).2⟩
 exact ⟨by omega,fun x hx=>by have:=(hnd x hx).2.2.2.1;omega,fun x hx=>by have:=(hnd x hx).2.2.1;omega,fun x hx=>by have:=(hnd x hx).1;have:=(hnd x hx).2.1;omega,fun x hx a ha=>by have:=(hnd x hx).2.2.2.2 a ha;omega⟩
theorem rowSk {l:List Simp} {k:Nat} (hk:k<l.length):(l.flatMap encS)[k*6]?=some (.g (.int .i64 l[k].kind))∧(l.flatMap encS)[k*6+5]?=some (.sl l[k].l.length 6 (l[k].l.flatMap encS)):=by
 have h:=flat_get encS 6 encS_len l k hk 0 (by decide);rw [Nat.add_zero] at h;refine ⟨?_,(rowSv hk).2.2⟩;rw [h]
 cases l[k]
 rw [encS_m];rfl
theorem askS_k (x:Simp):askS x=(decide (x.kind=7)||askL x.l):=by cases x;rw [askS];rfl
set_option maxRecDepth 100000 in
set_option maxHeartbeats 4000000 in
theorem stateful_p (N:Nat):∀ (l:List Simp),SizeOf.sizeOf l≤N→l.length≤1000000→okS.okL l→PureN Tryz.prog gt0 35 [.sl l.length 6 (l.flatMap encS)] (.g (.bool (askL l))):=by
 induction N with
 | zero=>intro l hl;cases l <;> simp at hl
 | succ N ih =>
   intro l hsz hl ho;refine PureN.of_w (c:=_) Tryz.func35 rfl (by kernel_rfl) rfl ?_;simp only [Tryz.f35,List.replicate,List.length_cons,List.length_nil,Nat.reduceAdd,Nat.reduceSub,List.cons_append,List.nil_append];rw [askL_eq]
   (repeat ((try with_reducible refine W.step (b:=false) ?_);simp (decide:=true) only [go_sem,↓reduceIte,Nat.reduceAdd,Nat.reduceSub]))
   refine W.loop (s1:=stL [(.sl l.length 6 (l.flatMap encS)),aN,(.g (.bool false)),(.g (.int .i64 ((0:Nat):Int))),aN,aN,aN,aN,aN,aN,aN,aN,aN,aN,aN,aN,aN,aN,aN,aN,aN,aN,aN,aN] [] 0)
    (fun (i:Nat) t=>i≤l.length∧(∀ x∈l.take i,askS x=false)∧t=stL [(.sl l.length 6 (l.flatMap encS)),aN,(.g (.bool false)),(.g (.int .i64 (i:Int))),aN,aN,aN,aN,aN,aN,aN,aN,aN,aN,aN,aN,aN,aN,aN,aN,aN,aN,aN,aN] [] 0) (fun i=>l.length - i) 0 ⟨Nat.zero_le _,by simp,rfl⟩ (VS.tm (by simp [leL])) ?_
   rintro i t ⟨hi,hno,rfl⟩
   by_cases hlt:i<l.length
   ·obtain ⟨r1,r2⟩:=rowSk hlt
    have ha:askS l[i]=true→l.any askS=true:=fun h=>List.any_eq_true.2 ⟨l[i],List.getElem_mem hlt,h⟩;have hk:=askS_k l[i];have hmem:=List.getElem_mem hlt;have hok:=okL_mem ho _ hmem;have hsl:=List.sizeOf_lt_of_mem hmem
    by_cases hx:l[i].kind=7
    ·have fx:=eq_true hx
     rw [ha (by rw [hk,decide_eq_true hx];rfl)]
     (repeat ((try with_reducible refine W.step (b:=false) ?_);simp (decide:=true) only [go_sem,↓reduceIte,Nat.reduceAdd,Nat.reduceSub,hlt,r1,r2,fx]))
     exact Q0a _ (.inr rfl) rfl (.plain rfl)
    ·have fx:=eq_false hx
     rw [decide_eq_false hx,Bool.false_or] at hk;have hokl:l[i].l.length≤1000000∧okS.okL l[i].l:=by cases hq:l[i];rw [hq] at hok;exact hok
     have HI:=ih l[i].l (by
      have:SizeOf.sizeOf l[i].l<SizeOf.sizeOf l[i]:=by cases l[i];rw [Simp.mk.sizeOf_spec];simp only [Simp.l];omega
      omega) hokl.1 hokl.2
     (repeat ((try with_reducible refine W.step (b:=false) ?_);simp (decide:=true) only [go_sem,↓reduceIte,Nat.reduceAdd,Nat.reduceSub,hlt,r1,r2,fx]))
     refine AtCall.mk HI ?_
     cases hb:askL l[i].l with
     | true =>
       rw [ha (by rw [hk,hb])]
       (repeat ((try with_reducible refine W.step (b:=false) ?_);simp (decide:=true) only [go_sem,↓reduceIte,Nat.reduceAdd,Nat.reduceSub]))
       exact Q0a _ (.inr rfl) rfl (.plain rfl)
     | false =>
       (repeat ((try with_reducible refine W.step (b:=false) ?_);simp (decide:=true) only [go_sem,↓reduceIte,Nat.reduceAdd,Nat.reduceSub]))
       refine ⟨i+1,_,⟨by omega,Q1c (pr:=askS) hlt hno (by rw [hk,hb]),rfl⟩,by show l.length - (i+1)<l.length - i;omega,VS.tm ?_⟩;rw [up1 (by omega)];simp [leL]
   ·have ha:(l.any askS)=false:=List.any_eq_false.2 (fun x hx=>by rw [hno x (by rw [List.take_of_length_le (by omega)];exact hx)];decide)
    rw [ha]
    (repeat ((try with_reducible refine W.step (b:=false) ?_);simp (decide:=true) only [go_sem,↓reduceIte,Nat.reduceAdd,Nat.reduceSub,hlt]))
    exact Q0a _ (.inr rfl) rfl (.plain rfl)
set_option maxRecDepth 100000 in
set_option maxHeartbeats 4000000 in
theorem few11_none:PureN Tryz.prog gt0 38 [.agg [.g (.slice none 0 0),.g (.slice none 0 0)]] (.g (.bool true)):=by
 refine PureN.of_w (c:=_) Tryz.func38 rfl (by kernel_rfl) rfl ?_;simp only [Tryz.f38,List.replicate,List.length_cons,List.length_nil,Nat.reduceAdd,Nat.reduceSub,List.cons_append,List.nil_append]
 (repeat ((try with_reducible refine W.step (b:=true) ?_);simp (decide:=true) only [go_sem,↓reduceIte,Nat.reduceAdd,Nat.reduceSub];(try with_reducible refine drawn hmix (by kernel_rfl) ?_);try with_reducible refine ⟨by kernel_rfl,?_⟩))
 refine W.loop (s1:=stL [aN,aN,(.g (.bool false)),(.gs 1 0 0 1 0),(.g (.int .i64 0)),aN,aN,aN,aN,aN,aN,aN,aN,aN,aN,aN,aN,aN,aN,aN,aN,aN,aN,aN,aN,aN,aN,aN,aN,aN,aN,aN] [(1,.cells []),(0,.cells [.g (.slice none 0 0),.g (.slice none 0 0)])] 2) (fun (_:Unit) t=>t=stL [aN,aN,(.g (.bool false)),(.gs 1 0 0 1 0),(.g (.int .i64 0)),aN,aN,aN,aN,aN,aN,aN,aN,aN,aN,aN,aN,aN,aN,aN,aN,aN,aN,aN,aN,aN,aN,aN,aN,aN,aN,aN] [(1,.cells []),(0,.cells [.g (.slice none 0 0),.g (.slice none 0 0)])] 2) (fun _=>0) () rfl (VS.tm (by simp [leL])) ?_;rintro _ t rfl
 (repeat ((try with_reducible refine W.step (b:=false) ?_);simp (decide:=true) only [go_sem,↓reduceIte,Nat.reduceAdd,Nat.reduceSub];try with_reducible refine drawn hmix (by kernel_rfl) ?_))
 exact Q0a _ (.inr rfl) rfl (.plain rfl)
theorem ag_w19:aggO Tryz.prog 53=some (true,5):=by kernel_rfl
theorem sz_w19:szO Tryz.prog 53=some 5:=by kernel_rfl
theorem fl_w190:fldO Tryz.prog 53 0=some (0,48):=by kernel_rfl
theorem fl_w191:fldO Tryz.prog 53 1=some (2,49):=by kernel_rfl
theorem fl_w192:fldO Tryz.prog 53 2=some (3,50):=by kernel_rfl
theorem fl_w193:fldO Tryz.prog 53 3=some (4,51):=by kernel_rfl
theorem bl_w19 (parts:List (Nat×AV)):evBuild Tryz.prog 53 parts=aggM (fillL [(0,2),(2,1),(3,1),(4,1)] [.g (.slice none 0 0),.g (.slice none 0 0),.g (.slice none 0 0),.g (.slice none 0 0),.g (.slice none 0 0)] parts):=Q1u (by kernel_rfl) parts
theorem ze_w19:zeroO Tryz.prog 53=some [.g (.slice none 0 0),.g (.slice none 0 0),.g (.slice none 0 0),.g (.slice none 0 0),.g (.slice none 0 0)]:=by kernel_rfl
theorem ag_sheets2:aggO Tryz.prog 49=some (false,1):=by kernel_rfl
theorem ag_turns2:aggO Tryz.prog 50=some (false,1):=by kernel_rfl
theorem el_sheets2:elemO Tryz.prog 49=some 1:=by kernel_rfl
theorem el_turns2:elemO Tryz.prog 50=some 1:=by kernel_rfl
attribute [go_sem] el_sheets2 el_turns2 ag_w19 sz_w19 fl_w190 fl_w191 fl_w192 fl_w193 bl_w19 ze_w19 ag_sheets2 ag_turns2
def smPg (PG:List (List Nod)):Bool:=decide (PG.length≤3)&&PG.all (pgSm 25)
set_option maxRecDepth 100000 in
set_option maxHeartbeats 4000000 in
theorem small19_none (PG:List (List Nod)):PureN Tryz.prog gt0 22 [.agg [.g (.slice none 0 0),.g (.slice none 0 0),.g (.slice none 0 0),.g (.slice none 0 0),.sl PG.length 1 (PG.flatMap encPg)]] (.g (.bool (smPg PG))):=by
 refine PureN.of_w (c:=_) Tryz.func22 rfl (by kernel_rfl) rfl ?_;simp only [Tryz.f22,List.replicate,List.length_cons,List.length_nil,Nat.reduceAdd,Nat.reduceSub,List.cons_append,List.nil_append]
 (repeat ((try with_reducible refine W.step (b:=false) ?_);simp (decide:=true) only [go_sem,↓reduceIte,Nat.reduceAdd,Nat.reduceSub]))
 refine W.loop (s1:=stL [aN,(.ptr 0 0),(.g (.bool false)),(.g (.int .i64 0)),aN,aN,aN,aN,aN,aN,aN,aN,aN,aN,aN,aN,aN,aN,aN,aN,aN,aN,aN,aN,aN,aN,aN,aN,aN,aN,aN,aN,aN,aN,aN,aN,aN,aN,aN,aN,aN,aN,aN,aN,aN,aN,aN,aN,aN,aN,aN,aN,aN,aN,aN,aN,aN,aN,aN,aN,aN,aN,aN,aN,aN,aN,aN,aN,aN,aN,aN,aN,aN,aN,aN,aN,aN,aN,aN,aN,aN,aN,aN,aN,aN,aN,aN] [(0,.cells [.g (.slice none 0 0),.g (.slice none 0 0),.g (.slice none 0 0),.g (.slice none 0 0),.sl PG.length 1 (PG.flatMap encPg)])] 1) (fun (_:Unit) t=>t=stL [aN,(.ptr 0 0),(.g (.bool false)),(.g (.int .i64 0)),aN,aN,aN,aN,aN,aN,aN,aN,aN,aN,aN,aN,aN,aN,aN,aN,aN,aN,aN,aN,aN,aN,aN,aN,aN,aN,aN,aN,aN,aN,aN,aN,aN,aN,aN,aN,aN,aN,aN,aN,aN,aN,aN,aN,aN,aN,aN,aN,aN,aN,aN,aN,aN,aN,aN,aN,aN,aN,aN,aN,aN,aN,aN,aN,aN,aN,aN,aN,aN,aN,aN,aN,aN,aN,aN,aN,aN,aN,aN,aN,aN,aN,aN] [(0,.cells [.g (.slice none 0 0),.g (.slice none 0 0),.g (.slice none 0 0),.g (.slice none 0 0),.sl PG.length 1 (PG.flatMap encPg)])] 1) (fun _=>0) () rfl (VS.tm (by simp [leL])) ?_;rintro _ t rfl
 (repeat ((try with_reducible refine W.step (b:=false) ?_);simp (decide:=true) only [go_sem,↓reduceIte,Nat.reduceAdd,Nat.reduceSub]))
 by_cases h3:PG.length≤3
 ·refine W.loop (s1:=stL [aN,(.ptr 0 0),(.g (.bool false)),aN,(.g (.int .i64 ((0:Nat):Int))),aN,aN,aN,aN,aN,aN,aN,aN,aN,aN,aN,aN,aN,aN,aN,aN,aN,aN,aN,aN,aN,aN,aN,aN,aN,aN,aN,aN,aN,aN,aN,aN,aN,aN,aN,aN,aN,aN,aN,aN,aN,aN,aN,aN,aN,aN,aN,aN,aN,aN,aN,aN,aN,aN,aN,aN,aN,aN,aN,aN,aN,aN,aN,aN,aN,aN,aN,aN,aN,aN,aN,aN,aN,aN,aN,aN,aN,aN,aN,aN,aN,aN] [(0,.cells [.g (.slice none 0 0),.g (.slice none 0 0),.g (.slice none 0 0),.g (.slice none 0 0),.sl PG.length 1 (PG.flatMap encPg)])] 1) (fun (k:Nat) t=>k≤PG.length∧(PG.take k).all (pgSm 25)=true∧t=stL [aN,(.ptr 0 0),(.g (.bool false)),aN,(.g (.int .i64 (k:Int))),aN,aN,aN,aN,aN,aN,aN,aN,aN,aN,aN,aN,aN,aN,aN,aN,aN,aN,aN,aN,aN,aN,aN,aN,aN,aN,aN,aN,aN,aN,aN,aN,aN,aN,aN,aN,aN,aN,aN,aN,aN,aN,aN,aN,aN,aN,aN,aN,aN,aN,aN,aN,aN,aN,aN,aN,aN,aN,aN,aN,aN,aN,aN,aN,aN,aN,aN,aN,aN,aN,aN,aN,aN,aN,aN,aN,aN,aN,aN,aN,aN,aN] [(0,.cells [.g (.slice none 0 0),.g (.slice none 0 0),.g (.slice none 0 0),.g (.slice none 0 0),.sl PG.length 1 (PG.flatMap encPg)])] 1) (fun k=>PG.length - k) 0 ⟨Nat.zero_le _,rfl,rfl⟩ (VS.tm (by simp [leL])) ?_
  rintro k t ⟨hk,ha,rfl⟩;have g3:((PG.length:Int)≤3)=True:=eq_true (by omega)
  by_cases hlt:k<PG.length
  ·have r:=rowPg hlt
   have HC:=small10_p PG[k] 25 (by decide)
   cases hp:pgSm 25 PG[k] with
   | true =>
     rw [hp] at HC
     (repeat ((try with_reducible refine W.step (b:=false) ?_);simp (decide:=true) only [go_sem,↓reduceIte,Nat.reduceAdd,Nat.reduceSub,hlt,g3,r]))
     refine AtCall.mk HC ?_
     (repeat ((try with_reducible refine W.step (b:=false) ?_);simp (decide:=true) only [go_sem,↓reduceIte,Nat.reduceAdd,Nat.reduceSub]))
     refine ⟨k+1,_,⟨by omega,by rw [List.take_succ_eq_append_getElem hlt,List.all_append,ha,List.all_cons,hp];rfl,rfl⟩,by show PG.length - (k+1)<PG.length - k;omega,VS.tm ?_⟩;rw [up1 (by omega)];simp [leL]
   | false =>
     rw [hp] at HC;have hf:smPg PG=false:=by
      unfold smPg;rw [List.all_eq_false.2 ⟨PG[k],List.getElem_mem hlt,by rw [hp];decide⟩,Bool.and_false]
     rw [hf]
     (repeat ((try with_reducible refine W.step (b:=false) ?_);simp (decide:=true) only [go_sem,↓reduceIte,Nat.reduceAdd,Nat.reduceSub,hlt,g3,r]))
     refine AtCall.mk HC ?_
     (repeat ((try with_reducible refine W.step (b:=false) ?_);simp (decide:=true) only [go_sem,↓reduceIte,Nat.reduceAdd,Nat.reduceSub]))
     exact Q0a _ (.inr rfl) rfl (.plain rfl)
  ·obtain rfl:k=PG.length:=by omega
   rw [List.take_length] at ha;have hf:smPg PG=true:=by unfold smPg;rw [ha,decide_eq_true h3];rfl
   rw [hf]
   (repeat ((try with_reducible refine W.step (b:=false) ?_);simp (decide:=true) only [go_sem,↓reduceIte,Nat.reduceAdd,Nat.reduceSub,hlt]))
   refine W.loop (s1:=stL [aN,(.ptr 0 0),(.g (.bool false)),aN,aN,(.g (.int .i64 0)),aN,aN,aN,aN,aN,aN,aN,aN,aN,aN,aN,aN,aN,aN,aN,aN,aN,aN,aN,aN,aN,aN,aN,aN,aN,aN,aN,aN,aN,aN,aN,aN,aN,aN,aN,aN,aN,aN,aN,aN,aN,aN,aN,aN,aN,aN,aN,aN,aN,aN,aN,aN,aN,aN,aN,aN,aN,aN,aN,aN,aN,aN,aN,aN,aN,aN,aN,aN,aN,aN,aN,aN,aN,aN,aN,aN,aN,aN,aN,aN,aN] [(0,.cells [.g (.slice none 0 0),.g (.slice none 0 0),.g (.slice none 0 0),.g (.slice none 0 0),.sl PG.length 1 (PG.flatMap encPg)])] 1) (fun (_:Unit) t=>t=stL [aN,(.ptr 0 0),(.g (.bool false)),aN,aN,(.g (.int .i64 0)),aN,aN,aN,aN,aN,aN,aN,aN,aN,aN,aN,aN,aN,aN,aN,aN,aN,aN,aN,aN,aN,aN,aN,aN,aN,aN,aN,aN,aN,aN,aN,aN,aN,aN,aN,aN,aN,aN,aN,aN,aN,aN,aN,aN,aN,aN,aN,aN,aN,aN,aN,aN,aN,aN,aN,aN,aN,aN,aN,aN,aN,aN,aN,aN,aN,aN,aN,aN,aN,aN,aN,aN,aN,aN,aN,aN,aN,aN,aN,aN,aN] [(0,.cells [.g (.slice none 0 0),.g (.slice none 0 0),.g (.slice none 0 0),.g (.slice none 0 0),.sl PG.length 1 (PG.flatMap encPg)])] 1) (fun _=>0) () rfl (VS.tm (by simp [leL])) ?_;rintro _ t rfl
   (repeat ((try with_reducible refine W.step (b:=false) ?_);simp (decide:=true) only [go_sem,↓reduceIte,Nat.reduceAdd,Nat.reduceSub,g3]))
   refine AtCall.mk few11_none ?_
   (repeat ((try with_reducible refine W.step (b:=false) ?_);simp (decide:=true) only [go_sem,↓reduceIte,Nat.reduceAdd,Nat.reduceSub]))
   exact Q0a _ (.inr rfl) rfl (.plain rfl)
 ·have g3:((PG.length:Int)≤3)=False:=eq_false (by omega)
  have g0:((0:Int)<(PG.length:Int))=True:=eq_true (by omega);have g0':(0<PG.length)=True:=eq_true (by omega);have hf:smPg PG=false:=by unfold smPg;rw [decide_eq_false h3];rfl
  rw [hf];refine W.loop (s1:=stL [aN,(.ptr 0 0),(.g (.bool false)),aN,(.g (.int .i64 ((0:Nat):Int))),aN,aN,aN,aN,aN,aN,aN,aN,aN,aN,aN,aN,aN,aN,aN,aN,aN,aN,aN,aN,aN,aN,aN,aN,aN,aN,aN,aN,aN,aN,aN,aN,aN,aN,aN,aN,aN,aN,aN,aN,aN,aN,aN,aN,aN,aN,aN,aN,aN,aN,aN,aN,aN,aN,aN,aN,aN,aN,aN,aN,aN,aN,aN,aN,aN,aN,aN,aN,aN,aN,aN,aN,aN,aN,aN,aN,aN,aN,aN,aN,aN,aN] [(0,.cells [.g (.slice none 0 0),.g (.slice none 0 0),.g (.slice none 0 0),.g (.slice none 0 0),.sl PG.length 1 (PG.flatMap encPg)])] 1) (fun (_:Unit) t=>t=stL [aN,(.ptr 0 0),(.g (.bool false)),aN,(.g (.int .i64 ((0:Nat):Int))),aN,aN,aN,aN,aN,aN,aN,aN,aN,aN,aN,aN,aN,aN,aN,aN,aN,aN,aN,aN,aN,aN,aN,aN,aN,aN,aN,aN,aN,aN,aN,aN,aN,aN,aN,aN,aN,aN,aN,aN,aN,aN,aN,aN,aN,aN,aN,aN,aN,aN,aN,aN,aN,aN,aN,aN,aN,aN,aN,aN,aN,aN,aN,aN,aN,aN,aN,aN,aN,aN,aN,aN,aN,aN,aN,aN,aN,aN,aN,aN,aN,aN] [(0,.cells [.g (.slice none 0 0),.g (.slice none 0 0),.g (.slice none 0 0),.g (.slice none 0 0),.sl PG.length 1 (PG.flatMap encPg)])] 1) (fun _=>0) () rfl (VS.tm (by simp [leL])) ?_;rintro _ t rfl
  (repeat ((try with_reducible refine W.step (b:=false) ?_);simp (decide:=true) only [go_sem,↓reduceIte,Nat.reduceAdd,Nat.reduceSub,g3,g0,g0']))
  refine W.loop (s1:=stL [aN,(.ptr 0 0),(.g (.bool false)),aN,aN,(.g (.int .i64 0)),aN,aN,aN,aN,aN,aN,aN,aN,aN,aN,aN,aN,aN,aN,aN,aN,aN,aN,aN,aN,aN,aN,aN,aN,aN,aN,aN,aN,aN,aN,aN,aN,aN,aN,aN,aN,aN,aN,aN,aN,aN,aN,aN,aN,aN,aN,aN,aN,aN,aN,aN,aN,aN,aN,aN,aN,aN,aN,aN,aN,aN,aN,aN,aN,aN,aN,aN,aN,aN,aN,aN,aN,aN,aN,aN,aN,aN,aN,aN,aN,aN] [(0,.cells [.g (.slice none 0 0),.g (.slice none 0 0),.g (.slice none 0 0),.g (.slice none 0 0),.sl PG.length 1 (PG.flatMap encPg)])] 1) (fun (_:Unit) t=>t=stL [aN,(.ptr 0 0),(.g (.bool false)),aN,aN,(.g (.int .i64 0)),aN,aN,aN,aN,aN,aN,aN,aN,aN,aN,aN,aN,aN,aN,aN,aN,aN,aN,aN,aN,aN,aN,aN,aN,aN,aN,aN,aN,aN,aN,aN,aN,aN,aN,aN,aN,aN,aN,aN,aN,aN,aN,aN,aN,aN,aN,aN,aN,aN,aN,aN,aN,aN,aN,aN,aN,aN,aN,aN,aN,aN,aN,aN,aN,aN,aN,aN,aN,aN,aN,aN,aN,aN,aN,aN,aN,aN,aN,aN,aN,aN] [(0,.cells [.g (.slice none 0 0),.g (.slice none 0 0),.g (.slice none 0 0),.g (.slice none 0 0),.sl PG.length 1 (PG.flatMap encPg)])] 1) (fun _=>0) () rfl (VS.tm (by simp [leL])) ?_;rintro _ t rfl
  (repeat ((try with_reducible refine W.step (b:=false) ?_);simp (decide:=true) only [go_sem,↓reduceIte,Nat.reduceAdd,Nat.reduceSub,g3]))
  exact Q0a _ (.inr rfl) rfl (.plain rfl)
end Go.Proofs.YtabliahkhafddaaGreat
end
