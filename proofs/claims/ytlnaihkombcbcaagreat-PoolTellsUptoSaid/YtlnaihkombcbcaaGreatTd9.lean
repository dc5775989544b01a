/- one, Drop of law 18's reference, by walks over shapes. -/
import Derived.Test.YtlnaihkombcbcaaGreatTd8
import Derived.Test.YtlnaihkombcbcaaGreatTd1
import Derived.Test.YtlnaihkombcbcaaGreatTd7
import Derived.Test.YtlnaihkombcbcaaGreatTc7
set_option linter.unusedSimpArgs false
noncomputable section
namespace Go.Proofs.YtlnaihkombcbcaaGreat
open Go.RowKit Go.Ev
attribute [local go_sem] eq_self false_and and_false Bool.false_eq_true List.set_cons_succ List.set_cons_zero List.getD_cons_succ List.getD_cons_zero List.getElem?_cons_succ List.getElem?_cons_zero true_and and_true and_self Bool.not_true Bool.not_false Nat.add_zero Nat.zero_add Nat.mul_one Int.toNat_natCast Int.natCast_nonneg Int.ofNat_lt Option.bind_some Option.map_some List.map_cons List.map_nil decide_true decide_false BEq.rfl Bool.and_self Bool.and_true Bool.and_false beq_self_eq_true List.cons_append List.nil_append List.take_zero List.take_succ_cons List.take_nil List.drop_succ_cons List.drop_zero List.drop_nil List.append_nil List.length_cons List.length_nil List.all_cons List.all_nil Nat.le_refl Option.map_none List.replicate_zero List.replicate_succ Nat.zero_mul Nat.sub_zero Nat.zero_le Nat.le_zero_eq getR_nil Int.toNat_zero Int.natCast_zero Int.natCast_one Int.cast_ofNat_Int List.toList_toArray
theorem ag_ref:aggO Tryz.prog 192=some (true,4):=by kernel_rfl
theorem sz_ref:szO Tryz.prog 192=some 4:=by kernel_rfl
theorem ze_ref:zeroO Tryz.prog 192=some [.g (.string ⟨#[]⟩),.g (.slice none 0 0),.g (.bool false),.g (.bool false)]:=by kernel_rfl
theorem fl_ref0:fldO Tryz.prog 192 0=some (0,9):=by kernel_rfl
theorem fl_ref1:fldO Tryz.prog 192 1=some (1,27):=by kernel_rfl
theorem fl_ref2:fldO Tryz.prog 192 2=some (2,4):=by kernel_rfl
theorem fl_ref3:fldO Tryz.prog 192 3=some (3,4):=by kernel_rfl
theorem bl_ref (parts:List (Nat×AV)):evBuild Tryz.prog 192 parts=aggM (fillL [(0,1),(1,1),(2,1),(3,1)] [.g (.string ⟨#[]⟩),.g (.slice none 0 0),.g (.bool false),.g (.bool false)] parts):=evBuild_eq (by kernel_rfl) parts
theorem s1_bool:szO Tryz.prog 4=some 1:=by kernel_rfl
theorem s1_vals:szO Tryz.prog 27=some 1:=by kernel_rfl
theorem s1_strs:szO Tryz.prog 25=some 1:=by kernel_rfl
theorem s1_items:szO Tryz.prog 46=some 1:=by kernel_rfl
theorem s1_decls:szO Tryz.prog 51=some 1:=by kernel_rfl
attribute [go_sem] s1_bool s1_vals s1_strs s1_items s1_decls ag_ref sz_ref ze_ref fl_ref0 fl_ref1 fl_ref2 fl_ref3 bl_ref
def fbA (f:Rf):AV:=if f.falls=true then .sl f.fb.length 5 (f.fb.flatMap encV) else .g (.slice none 0 0)
def encR (f:Rf):List AV:=[.g (.string f.name),fbA f,.g (.bool f.falls),.g (.bool f.is)]
def noR:Rf:=⟨⟨#[]⟩,[],false,false⟩
def restR (name:ByteArray):List Vl→Rf
 | []=>⟨name,[],false,true⟩
 | z::q=>if commaB z=true then ⟨name,trimM q,true,true⟩ else noR
def headR:List Vl→Rf
 | []=>noR
 | y::r=>if y.kind=1∧y.tk=1∧customB y.text=true then restR y.text (trimM r) else noR
def refR (l:List Vl):Rf:=headR (trimM l)
theorem headR_cons (y:Vl) (r:List Vl):headR (y::r)=if y.kind=1∧y.tk=1∧customB y.text=true then restR y.text (trimM r) else noR:=rfl
theorem headM_cons (y:Vl) (r:List Vl):headM (y::r)=if y.kind=1∧y.tk=1∧customB y.text=true then restM y.text (trimM r) else ⟨ByteArray.empty,[],false,false⟩:=rfl
theorem restR_cons (n:ByteArray) (z:Vl) (q:List Vl):restR n (z::q)=if commaB z=true then ⟨n,trimM q,true,true⟩ else noR:=rfl
theorem refR_read (l:List Vl):(refR l).is=(readM l).is∧((readM l).is=true→(refR l).name=(readM l).name):=by
 unfold refR readM
 cases trimM l with
 | nil=>exact ⟨rfl,fun h=>by cases h⟩
 | cons y r =>
   rw [headR_cons,headM_cons]
   by_cases h:y.kind=1∧y.tk=1∧customB y.text=true
   ·rw [if_pos h,if_pos h]
    cases trimM r with
    | nil=>exact ⟨rfl,fun _=>rfl⟩
    | cons z q =>
      rw [restR_cons];rw [show restM y.text (z::q)=⟨y.text,trimM q,commaB z,commaB z⟩ from rfl]
      cases commaB z
      ·exact ⟨rfl,fun h=>by cases h⟩
      ·exact ⟨rfl,fun _=>rfl⟩
   ·rw [if_neg h,if_neg h];exact ⟨rfl,fun h=>by cases h⟩
theorem commaB_eq (z:Vl):decide (z.kind=1∧z.tk=7∧z.text=⟨#[44]⟩∧z.n=0)=commaB z:=by
 unfold commaB;have:(z.text.toList==[44])=decide (z.text=⟨#[44]⟩):=by
  rw [←ba_eq,ByteArray.toList_eq (⟨#[44]⟩:ByteArray)]
 rw [this,Bool.eq_iff_iff];simp [and_assoc]
set_option maxRecDepth 100000 in
set_option maxHeartbeats 4000000 in
theorem ref16_p (x:Vl) (hl:x.l.length≤1000):PureN Tryz.prog gt0 121 [.agg (encV x)] (.agg (encR (refR x.l))):=by
 rw [encV_eq];have hT:=trimM_len x.l;have HT:=trim3_p x.l hl;unfold refR;generalize trimM x.l=T at *;refine PureN.of_w (c:=_) Tryz.func121 rfl (by kernel_rfl) rfl ?_;simp only [Tryz.f121,List.replicate,List.length_cons,List.length_nil,Nat.reduceAdd,Nat.reduceSub,List.cons_append,List.nil_append]
 (repeat ((first | with_reducible refine W.step (b:=false) ?_ | skip);simp only [go_sem,↓reduceIte,Nat.reduceAdd,Nat.reduceSub,Nat.reduceMul,Nat.reduceEqDiff,Nat.reduceLeDiff,Nat.reduceLT,Int.reduceLE,Int.reduceLT,Int.reduceToNat,Int.reduceEq];try with_reducible refine drawn hmix (by kernel_rfl) ?_))
 refine AtCall.mk HT ?_;simp only [go_sem,↓reduceIte,Nat.reduceAdd,Nat.reduceSub,Nat.reduceMul,Nat.reduceEqDiff,Nat.reduceLeDiff,Nat.reduceLT,Int.reduceLE,Int.reduceLT,Int.reduceToNat,Int.reduceEq];clear HT;have HN:∀ {l:List AV} {m:ML} {n:Nat},loadL Tryz.prog m 192 (l.getD 2 .any)=some (.agg (encR noR))→postP Tryz.prog [.cell 2 192] (.agg (encR noR)) .ret (stL l m n):=fun h=>postP_one _ (.inr rfl) h (SealTo.agg (by simp [encR,noR,fbA,plainA]))
 cases T with
 | nil =>
   (repeat ((first | with_reducible refine W.step (b:=false) ?_ | skip);simp only [go_sem,↓reduceIte,Nat.reduceAdd,Nat.reduceSub,Nat.reduceMul,Nat.reduceEqDiff,Nat.reduceLeDiff,Nat.reduceLT,Int.reduceLE,Int.reduceLT,Int.reduceToNat,Int.reduceEq];try with_reducible refine drawn hmix (by kernel_rfl) ?_))
   refine HN ?_;simp only [go_sem,↓reduceIte,Nat.reduceAdd,Nat.reduceSub,Nat.reduceMul,Nat.reduceEqDiff,Nat.reduceLeDiff,Nat.reduceLT,Int.reduceLE,Int.reduceLT,Int.reduceToNat,Int.reduceEq]
   rfl
 | cons y r =>
   have hrow:(y::r).flatMap encV=.g (.int .i64 y.kind)::.g (.int .i64 y.tk)::.g (.string y.text)::.g (.int .i64 y.n)::.sl y.l.length 5 (y.l.flatMap encV)::r.flatMap encV:=by rw [List.flatMap_cons,encV_eq];rfl
   have h0:¬(((r.length+1:Nat):Int)=0):=by omega
   have h1:(0:Int)<((r.length+1:Nat):Int):=by omega
   have h2:(1:Int)≤((r.length+1:Nat):Int):=by omega
   have hra:=row_all encV 5 encV_len r;rw [headR_cons]
   by_cases hk:y.kind=1
   ·have f1:=eq_true hk
    by_cases ht:y.tk=1
    ·have f2:=eq_true ht
     (repeat ((first | with_reducible refine W.step (b:=false) ?_ | skip);simp only [go_sem,↓reduceIte,Nat.reduceAdd,Nat.reduceSub,Nat.reduceMul,Nat.reduceEqDiff,Nat.reduceLeDiff,Nat.reduceLT,Int.reduceLE,Int.reduceLT,Int.reduceToNat,Int.reduceEq,hrow,h0,h1,h2,f1,f2];try with_reducible refine drawn hmix (by kernel_rfl) ?_))
     refine AtCall.mk (custom7_p y.text) ?_;simp only [go_sem,↓reduceIte,Nat.reduceAdd,Nat.reduceSub,Nat.reduceMul,Nat.reduceEqDiff,Nat.reduceLeDiff,Nat.reduceLT,Int.reduceLE,Int.reduceLT,Int.reduceToNat,Int.reduceEq];obtain ⟨cb,hc⟩:∃ cb,customB y.text=cb:=⟨_,rfl⟩;rw [hc]
     cases cb
     ·rw [if_neg (by decide)]
      (repeat ((first | with_reducible refine W.step (b:=false) ?_ | skip);simp only [go_sem,↓reduceIte,Nat.reduceAdd,Nat.reduceSub,Nat.reduceMul,Nat.reduceEqDiff,Nat.reduceLeDiff,Nat.reduceLT,Int.reduceLE,Int.reduceLT,Int.reduceToNat,Int.reduceEq];try with_reducible refine drawn hmix (by kernel_rfl) ?_))
      refine HN ?_;simp only [go_sem,↓reduceIte,Nat.reduceAdd,Nat.reduceSub,Nat.reduceMul,Nat.reduceEqDiff,Nat.reduceLeDiff,Nat.reduceLT,Int.reduceLE,Int.reduceLT,Int.reduceToNat,Int.reduceEq]
      rfl
     ·rw [if_pos rfl]
      (repeat ((first | with_reducible refine W.step (b:=false) ?_ | skip);simp only [go_sem,↓reduceIte,Nat.reduceAdd,Nat.reduceSub,Nat.reduceMul,Nat.reduceEqDiff,Nat.reduceLeDiff,Nat.reduceLT,Int.reduceLE,Int.reduceLT,Int.reduceToNat,Int.reduceEq,hrow,h0,h1,h2,Nat.add_sub_cancel,hra];try with_reducible refine drawn hmix (by kernel_rfl) ?_))
      refine AtCall.mk (trim3_p r (by simp only [List.length_cons] at hT;omega)) ?_;simp only [go_sem,↓reduceIte,Nat.reduceAdd,Nat.reduceSub,Nat.reduceMul,Nat.reduceEqDiff,Nat.reduceLeDiff,Nat.reduceLT,Int.reduceLE,Int.reduceLT,Int.reduceToNat,Int.reduceEq];have hR:=trimM_len r;generalize trimM r=R at *
      cases R with
      | nil =>
        (repeat ((first | with_reducible refine W.step (b:=false) ?_ | skip);simp only [go_sem,↓reduceIte,Nat.reduceAdd,Nat.reduceSub,Nat.reduceMul,Nat.reduceEqDiff,Nat.reduceLeDiff,Nat.reduceLT,Int.reduceLE,Int.reduceLT,Int.reduceToNat,Int.reduceEq,bl_ref];try with_reducible refine drawn hmix (by kernel_rfl) ?_))
        refine postP_one _ (.inr rfl) ?_ (SealTo.agg (cs:=encR (restR y.text [])) (by simp [encR,restR,fbA,plainA]));simp only [resV,go_sem,↓reduceIte,Nat.reduceAdd,Nat.reduceSub,Nat.reduceMul,Nat.reduceEqDiff,Nat.reduceLeDiff,Nat.reduceLT,Int.reduceLE,Int.reduceLT,Int.reduceToNat,Int.reduceEq]
        rfl
      | cons z q =>
        have hro2:(z::q).flatMap encV=.g (.int .i64 z.kind)::.g (.int .i64 z.tk)::.g (.string z.text)::.g (.int .i64 z.n)::.sl z.l.length 5 (z.l.flatMap encV)::q.flatMap encV:=by rw [List.flatMap_cons,encV_eq];rfl
        have g0:¬(((q.length+1:Nat):Int)=0):=by omega
        have g1:(0:Int)<((q.length+1:Nat):Int):=by omega
        have g2:(1:Int)≤((q.length+1:Nat):Int):=by omega
        have hqa:=row_all encV 5 encV_len q;have HS:=sign3_p z;rw [commaB_eq,encV_eq] at HS;rw [restR_cons]
        (repeat ((first | with_reducible refine W.step (b:=false) ?_ | skip);simp only [go_sem,↓reduceIte,Nat.reduceAdd,Nat.reduceSub,Nat.reduceMul,Nat.reduceEqDiff,Nat.reduceLeDiff,Nat.reduceLT,Int.reduceLE,Int.reduceLT,Int.reduceToNat,Int.reduceEq,hro2,g0,g1,g2,bl_ref];try with_reducible refine drawn hmix (by kernel_rfl) ?_))
        refine AtCall.mk HS ?_;simp only [go_sem,↓reduceIte,Nat.reduceAdd,Nat.reduceSub,Nat.reduceMul,Nat.reduceEqDiff,Nat.reduceLeDiff,Nat.reduceLT,Int.reduceLE,Int.reduceLT,Int.reduceToNat,Int.reduceEq]
        cases commaB z
        ·rw [if_neg (by decide)]
         (repeat ((first | with_reducible refine W.step (b:=false) ?_ | skip);simp only [go_sem,↓reduceIte,Nat.reduceAdd,Nat.reduceSub,Nat.reduceMul,Nat.reduceEqDiff,Nat.reduceLeDiff,Nat.reduceLT,Int.reduceLE,Int.reduceLT,Int.reduceToNat,Int.reduceEq,bl_ref];try with_reducible refine drawn hmix (by kernel_rfl) ?_))
         refine HN ?_;simp only [go_sem,↓reduceIte,Nat.reduceAdd,Nat.reduceSub,Nat.reduceMul,Nat.reduceEqDiff,Nat.reduceLeDiff,Nat.reduceLT,Int.reduceLE,Int.reduceLT,Int.reduceToNat,Int.reduceEq]
         rfl
        ·rw [if_pos rfl]
         (repeat ((first | with_reducible refine W.step (b:=false) ?_ | skip);simp only [go_sem,↓reduceIte,Nat.reduceAdd,Nat.reduceSub,Nat.reduceMul,Nat.reduceEqDiff,Nat.reduceLeDiff,Nat.reduceLT,Int.reduceLE,Int.reduceLT,Int.reduceToNat,Int.reduceEq,hro2,g0,g1,g2,Nat.add_sub_cancel,hqa,bl_ref];try with_reducible refine drawn hmix (by kernel_rfl) ?_))
         refine AtCall.mk (trim3_p q (by simp only [List.length_cons] at hT hR;omega)) ?_
         (repeat ((first | with_reducible refine W.step (b:=false) ?_ | skip);simp only [go_sem,↓reduceIte,Nat.reduceAdd,Nat.reduceSub,Nat.reduceMul,Nat.reduceEqDiff,Nat.reduceLeDiff,Nat.reduceLT,Int.reduceLE,Int.reduceLT,Int.reduceToNat,Int.reduceEq];try with_reducible refine drawn hmix (by kernel_rfl) ?_))
         refine postP_one _ (.inr rfl) ?_ (SealTo.agg (cs:=encR ⟨y.text,trimM q,true,true⟩) (by simp [encR,fbA,plainA]));simp only [resV,go_sem,↓reduceIte,Nat.reduceAdd,Nat.reduceSub,Nat.reduceMul,Nat.reduceEqDiff,Nat.reduceLeDiff,Nat.reduceLT,Int.reduceLE,Int.reduceLT,Int.reduceToNat,Int.reduceEq]
         rfl
    ·rw [if_neg fun h=>ht h.2.1]
     (repeat ((first | with_reducible refine W.step (b:=false) ?_ | skip);simp only [go_sem,↓reduceIte,Nat.reduceAdd,Nat.reduceSub,Nat.reduceMul,Nat.reduceEqDiff,Nat.reduceLeDiff,Nat.reduceLT,Int.reduceLE,Int.reduceLT,Int.reduceToNat,Int.reduceEq,hrow,h0,h1,h2,f1,ht];try with_reducible refine drawn hmix (by kernel_rfl) ?_))
     refine HN ?_;simp only [go_sem,↓reduceIte,Nat.reduceAdd,Nat.reduceSub,Nat.reduceMul,Nat.reduceEqDiff,Nat.reduceLeDiff,Nat.reduceLT,Int.reduceLE,Int.reduceLT,Int.reduceToNat,Int.reduceEq]
     rfl
   ·rw [if_neg fun h=>hk h.1]
    (repeat ((first | with_reducible refine W.step (b:=false) ?_ | skip);simp only [go_sem,↓reduceIte,Nat.reduceAdd,Nat.reduceSub,Nat.reduceMul,Nat.reduceEqDiff,Nat.reduceLeDiff,Nat.reduceLT,Int.reduceLE,Int.reduceLT,Int.reduceToNat,Int.reduceEq,hrow,h0,h1,h2,hk];try with_reducible refine drawn hmix (by kernel_rfl) ?_))
    refine HN ?_;simp only [go_sem,↓reduceIte,Nat.reduceAdd,Nat.reduceSub,Nat.reduceMul,Nat.reduceEqDiff,Nat.reduceLeDiff,Nat.reduceLT,Int.reduceLE,Int.reduceLT,Int.reduceToNat,Int.reduceEq]
    rfl
end Go.Proofs.YtlnaihkombcbcaaGreat
namespace Go.Proofs.YtlnaihkombcbcaaGreat
open Go.RowKit Go.Sort Go.Ev
theorem ltB_iff {a b:ByteArray}:ltB a b=true↔sOf a<sOf b:=by
 unfold ltB sOf;rw [Proofs.bytesLess_eq,ByteArray.toList_eq,ByteArray.toList_eq,decide_eq_true_iff]
theorem sOf_inj {a b:ByteArray} (h:sOf a=sOf b):a=b:=congrArg bs h
theorem mem_sOf {l:List ByteArray} {x:ByteArray}:sOf x∈l.map sOf↔x∈l:=by
 constructor
 ·intro h
  obtain ⟨y,hy,e⟩:=List.mem_map.1 h;exact sOf_inj e▸hy
 ·exact fun h=>List.mem_map_of_mem h
theorem stP_low (s:ByteArray):∀ (a o:List ByteArray),(∀ y∈a,¬sOf s<sOf y)→a.foldl (stP s) (o,false)=(o++a,false)
 | [],o,_=>by rw [List.foldl_nil,List.append_nil]
 | x::a,o,h=>by
   have hx:ltB s x=false:=by rw [←Bool.not_eq_true,ltB_iff];exact h x List.mem_cons_self
   have e:stP s (o,false) x=(o++[x],false):=by unfold stP;rw [if_neg (by simp [hx])]
   rw [List.foldl_cons,e,stP_low s a _ fun y hy=>h y (List.mem_cons_of_mem _ hy),List.append_assoc]
   rfl
theorem stP_done (s:ByteArray):∀ (b o:List ByteArray),b.foldl (stP s) (o,true)=(o++b,true)
 | [],o=>by rw [List.foldl_nil,List.append_nil]
 | x::b,o=>by
   have e:stP s (o,true) x=(o++[x],true):=by unfold stP;rw [if_neg (by simp)]
   rw [List.foldl_cons,e,stP_done s b,List.append_assoc]
   rfl
theorem split_B (s:ByteArray):∀ {l:List ByteArray},risesB (l.map sOf)→s∉l→∃ a b,l=a++b∧(∀ y∈a,sOf y<sOf s)∧∀ y∈b,sOf s<sOf y
 | [],_,_=>⟨[],[],rfl,by simp,by simp⟩
 | y :: r,h,hn=>by
   rw [List.map_cons] at h;obtain ⟨h1,h2⟩:=List.pairwise_cons.1 h
   by_cases hy:sOf y<sOf s
   ·obtain ⟨a,b,rfl,ha,hb⟩:=split_B s h2 fun e=>hn (List.mem_cons_of_mem _ e)
    exact ⟨y::a,b,rfl,fun z hz=>by
     rcases List.mem_cons.1 hz with rfl | hz
     ·exact hy
     ·exact ha z hz,hb⟩
   ·have hlt:sOf s<sOf y:=str_lt (List.not_lt.1 hy) fun e=>hn (by rw [sOf_inj e];exact List.mem_cons_self)
    refine ⟨[],y::r,rfl,by simp,fun z hz=>?_⟩;rcases List.mem_cons.1 hz with rfl | hz
    ·exact hlt
    ·exact List.lt_trans hlt (h1 _ (List.mem_map_of_mem hz))
theorem putB_split {s:ByteArray} {a b:List ByteArray} (hn:s∉a++b) (ha:∀ y∈a,sOf y<sOf s) (hb:∀ y∈b,sOf s<sOf y):putB (a++b) s=a++s::b:=by
 have hin:inA (a++b) s=false:=by rw [←Bool.not_eq_true,inA_iff];exact hn
 have e1:=stP_low s a [] fun y hy h=>List.lt_irrefl _ (List.lt_trans h (ha y hy));rw [List.nil_append] at e1;unfold putB;rw [hin,if_neg (by decide),List.foldl_append,e1]
 cases b with
 | nil=>simp
 | cons z b =>
   have e2:stP s (a,false) z=(a++[s,z],true):=by unfold stP;rw [if_pos (by simp [ltB_iff.2 (hb z List.mem_cons_self)])]
   rw [List.foldl_cons,e2,stP_done,if_pos rfl,List.append_assoc]
   rfl
theorem putB_law {l:List ByteArray} (s:ByteArray) (h:risesB (l.map sOf)):risesB ((putB l s).map sOf)∧∀ y,y∈putB l s↔y=s∨y∈l:=by
 by_cases hm:s∈l
 ·have e:putB l s=l:=by unfold putB;rw [if_pos (inA_iff.2 hm)]
  rw [e];exact ⟨h,fun y=>⟨.inr,fun h=>h.elim (fun e=>e▸hm) id⟩⟩
 ·obtain ⟨a,b,rfl,ha,hb⟩:=split_B s h hm
  rw [putB_split hm ha hb];refine ⟨?_,fun y=>?_⟩
  ·rw [List.map_append] at h
   obtain ⟨h1,h2,h3⟩:=List.pairwise_append.1 h;rw [List.map_append,List.map_cons];refine List.pairwise_append.2 ⟨h1,List.pairwise_cons.2 ⟨fun z hz=>?_,h2⟩,fun y hy z hz=>?_⟩
   ·obtain ⟨z',hz',rfl⟩:=List.mem_map.1 hz
    exact hb z' hz'
   ·rcases List.mem_cons.1 hz with rfl | hz
    ·obtain ⟨y',hy',rfl⟩:=List.mem_map.1 hy
     exact ha y' hy'
    ·exact h3 y hy z hz
  ·simp only [List.mem_append,List.mem_cons]
   constructor
   ·rintro (h | h | h)
    ·exact .inr (.inl h)
    ·exact .inl h
    ·exact .inr (.inr h)
   ·rintro (h | h | h)
    ·exact .inr (.inl h)
    ·exact .inl h
    ·exact .inr (.inr h)
theorem putB_M {l:List ByteArray} (s:ByteArray) (h:risesB (l.map sOf)):(putB l s).map sOf=putM (l.map sOf) (sOf s):=by
 obtain ⟨h1,h2⟩:=putB_law s h;obtain ⟨-,h3,h4⟩:=put_rises (sOf s) h;refine rises_unique h1 h4 fun x=>?_;rw [h3,List.mem_map]
 constructor
 ·rintro ⟨y,hy,rfl⟩
  rcases (h2 y).1 hy with rfl | hy
  ·exact .inl rfl
  ·exact .inr (List.mem_map_of_mem hy)
 ·rintro (rfl | hx)
  ·exact ⟨s,(h2 s).2 (.inl rfl),rfl⟩
  ·obtain ⟨y,hy,rfl⟩:=List.mem_map.1 hx
   exact ⟨y,(h2 y).2 (.inr hy),rfl⟩
theorem putsB_M:∀ (more l:List ByteArray),risesB (l.map sOf)→(putsB l more).map sOf=addM (l.map sOf) (more.map sOf)
 | [],_,_=>rfl
 | x::more,l,h=>by
   have:=putsB_M more (putB l x) (putB_law x h).1;rw [putB_M x h] at this;exact this
theorem putsB_rises (more:List ByteArray) {l:List ByteArray} (h:risesB (l.map sOf)):risesB ((putsB l more).map sOf):=by
 rw [putsB_M more l h];exact (add_rises _ h).1
theorem addM_app (ss xs ys:List Str):addM (addM ss xs) ys=addM ss (xs++ys):=by rw [addM,addM,addM,List.foldl_append]
theorem rises_nilS:risesB ([]:List Str):=List.Pairwise.nil
theorem names_M (κ:Int) (l:List Vl):(putsB [] (txVs κ l)).map sOf=ofM κ l:=by
 rw [show (putsB [] (txVs κ l)).map sOf=addM [] ((txVs κ l).map sOf) from putsB_M _ [] rises_nilS];refine rises_unique (add_rises _ rises_nilS).1 (ofM_rises κ l) fun x=>?_;rw [(add_rises _ rises_nilS).2,mem_ofM];simp
theorem names_B (κ:Int) (l:List Vl):putsB [] (txVs κ l)=(ofM κ l).map bs:=by
 rw [←names_M,List.map_map]
 conv=>lhs;rw [←List.map_id (putsB [] (txVs κ l))]
 rfl
structure B3 where
 c:List ByteArray
 f:List ByteArray
 g:List ByteArray
def B3.s (p:B3):S3:=⟨p.c.map sOf,p.f.map sOf,p.g.map sOf⟩
def rf16 (l:List Vl):List ByteArray:=dd (rfVs l)
def valsB (p:B3) (l:List Vl) (fr fa:Bool):B3:=⟨putsB p.c (rf16 l),if fr=true then putsB p.f (putsB [] (txVs 1 l)) else p.f,if fa=true then putsB (putsB p.g (putsB [] (txVs 1 l))) (putsB [] (txVs 6 l)) else p.g⟩
def risesP (p:B3):Prop:=risesB (p.c.map sOf)∧risesB (p.f.map sOf)∧risesB (p.g.map sOf)
theorem valsB_rises {p:B3} (h:risesP p) (l:List Vl) (fr fa:Bool):risesP (valsB p l fr fa):=by
 obtain ⟨h1,h2,h3⟩:=h;refine ⟨putsB_rises _ h1,?_,?_⟩
 ·show risesB (List.map sOf (if fr=true then _ else _))
  split
  ·exact putsB_rises _ h2
  ·exact h2
 ·show risesB (List.map sOf (if fa=true then _ else _))
  split
  ·exact putsB_rises _ (putsB_rises _ h3)
  ·exact h3
theorem valsB_M {p:B3} (h:risesP p) (l:List Vl) (fr fa:Bool):(valsB p l fr fa).s=⟨addM p.s.c (rfN l),if fr=true then addM p.s.f (ofM 1 l) else p.s.f,if fa=true then addM p.s.g (vN l) else p.s.g⟩:=by
 obtain ⟨h1,h2,h3⟩:=h;have e1:(putsB p.c (rf16 l)).map sOf=addM (p.c.map sOf) (rfN l):=putsB_M _ _ h1;have e2:(putsB p.f (putsB [] (txVs 1 l))).map sOf=addM (p.f.map sOf) (ofM 1 l):=by rw [putsB_M _ _ h2,names_M]
 have e3:(putsB (putsB p.g (putsB [] (txVs 1 l))) (putsB [] (txVs 6 l))).map sOf=addM (p.g.map sOf) (vN l):=by
  rw [putsB_M _ _ (putsB_rises _ h3),putsB_M _ _ h3,names_M,names_M,addM_app];rfl
 unfold B3.s valsB;dsimp only;rw [e1]
 cases fr <;> cases fa <;> simp only [if_true,Bool.false_eq_true,if_false,e2,e3]
def declB (p:B3) (d:Dl):B3:=if customB d.name=true∧inA p.c d.name=false then p else valsB p d.l (frB d.name) (faB d.name)
theorem in_has {c:List ByteArray} (h:risesB (c.map sOf)) (x:ByteArray):inA c x=hasM (c.map sOf) (sOf x):=by
 rw [Bool.eq_iff_iff,inA_iff,has_rises _ h,mem_sOf]
theorem declB_M {p:B3} (h:risesP p) (d:Dl):risesP (declB p d)∧(declB p d).s=declM p.s d.name d.l:=by
 unfold declB declM;have e:hasM p.s.c (sOf d.name)=inA p.c d.name:=(in_has h.1 _).symm;rw [e]
 by_cases hc:customB d.name=true∧inA p.c d.name=false
 ·rw [if_pos hc,if_pos hc];exact ⟨h,rfl⟩
 ·rw [if_neg hc,if_neg hc];exact ⟨valsB_rises h _ _ _,valsB_M h _ _ _⟩
def framesB (p:B3) (l:List Vl):List ByteArray→B3
 | [n]=>if inA p.f n=true then valsB p l false true else p
 | _=>p
def itemB (p:B3) (x:Itm):B3:=if x.kind=1 then x.decls.foldl declB p else if x.kind=5 then framesB p x.vals x.names else p
theorem declsB_M:∀ (ds:List Dl) {p:B3},risesP p→risesP (ds.foldl declB p)∧(ds.foldl declB p).s=(ds.map fun d=>ruD d.name d.l).foldl stepR p.s
 | [],_,h=>⟨h,rfl⟩
 | d::ds,p,h=>by
   obtain ⟨h1,h2⟩:=declB_M h d;obtain ⟨h3,h4⟩:=declsB_M ds h1;refine ⟨h3,?_⟩;rw [List.foldl_cons,h4,List.map_cons,List.foldl_cons,h2,declM_step]
theorem itemB_M {p:B3} (h:risesP p) (x:Itm):risesP (itemB p x)∧(itemB p x).s=itemM p.s x:=by
 unfold itemB itemM ruI
 by_cases h1:x.kind=1
 ·rw [if_pos h1,if_pos h1];exact declsB_M _ h
 ·rw [if_neg h1,if_neg h1]
  by_cases h5:x.kind=5
  ·rw [if_pos h5,if_pos h5]
   generalize x.names=ns
   match ns with
   | []=>exact ⟨h,rfl⟩
   | _::_::_=>exact ⟨h,rfl⟩
   | [n] =>
     have e:gdB p.s (ruF n x.vals)=inA p.f n:=(in_has h.2.1 _).symm;show risesP (if inA p.f n=true then _ else _)∧(if inA p.f n=true then _ else _:B3).s=stepR p.s (ruF n x.vals);unfold stepR;rw [e]
     by_cases hi:inA p.f n=true
     ·rw [if_pos hi,if_pos hi]
      refine ⟨valsB_rises h _ _ _,?_⟩;rw [valsB_M h]
      rfl
     ·rw [if_neg hi,if_neg hi];exact ⟨h,rfl⟩
  ·rw [if_neg h5,if_neg h5];exact ⟨h,rfl⟩
def passB (p:B3) (l:List Itm):B3:=l.foldl itemB p
theorem passB_M:∀ (l:List Itm) {p:B3},risesP p→risesP (passB p l)∧(passB p l).s=(l.flatMap ruI).foldl stepR p.s
 | [],_,h=>⟨h,rfl⟩
 | x::l,p,h=>by
   obtain ⟨h1,h2⟩:=itemB_M h x;obtain ⟨h3,h4⟩:=passB_M l h1;refine ⟨h3,?_⟩;show (passB (itemB p x) l).s=_;rw [h4,h2,List.flatMap_cons,List.foldl_append]
   rfl
def szB (p:B3) (N:Nat):Prop:=p.c.length≤N∧p.f.length≤N∧p.g.length≤N
theorem rf16_le (l:List Vl):(rf16 l).length≤cntVs l:=Nat.le_trans (dd_len _) (rfVs_cnt l)
theorem nm_le (κ:Int) (l:List Vl):(putsB [] (txVs κ l)).length≤cntVs l:=Nat.le_trans (putsB_le _ _) (by have:=txVs_ct κ l;simpa using this)
theorem valsB_sz {p:B3} {N:Nat} (h:szB p N) (l:List Vl) (fr fa:Bool):szB (valsB p l fr fa) (N+2*cntVs l):=by
 obtain ⟨h1,h2,h3⟩:=h;have a:=rf16_le l;have b:=nm_le 1 l;have c:=nm_le 6 l;refine ⟨?_,?_,?_⟩
 ·have:=putsB_le (rf16 l) p.c
  show (putsB p.c (rf16 l)).length≤_;omega
 ·show (if fr=true then _ else _:List ByteArray).length≤_
  split
  ·have:=putsB_le (putsB [] (txVs 1 l)) p.f
   omega
  ·omega
 ·show (if fa=true then _ else _:List ByteArray).length≤_
  split
  ·have:=putsB_le (putsB [] (txVs 1 l)) p.g
   have:=putsB_le (putsB [] (txVs 6 l)) (putsB p.g (putsB [] (txVs 1 l)));omega
  ·omega
theorem szB.mono {p:B3} {N M:Nat} (h:szB p N) (hm:N≤M):szB p M:=⟨Nat.le_trans h.1 hm,Nat.le_trans h.2.1 hm,Nat.le_trans h.2.2 hm⟩
theorem declB_sz {p:B3} {N:Nat} (h:szB p N) {d:Dl} (hd:okD d):szB (declB p d) (N+80):=by
 unfold declB;have:=hd.1
 split
 ·exact h.mono (by omega)
 ·exact (valsB_sz h _ _ _).mono (by omega)
theorem declsB_sz:∀ (ds:List Dl) {p:B3} {N:Nat},szB p N→(∀ d∈ds,okD d)→szB (ds.foldl declB p) (N+80*ds.length)
 | [],_,_,h,_=>h
 | d::ds,p,N,h,hd=>by
   have:=declsB_sz ds (declB_sz h (hd d List.mem_cons_self)) fun x hx=>hd x (List.mem_cons_of_mem _ hx);rw [List.foldl_cons,List.length_cons];exact this.mono (by omega)
theorem itemB_sz {p:B3} {N:Nat} (h:szB p N) {x:Itm} (hx:okX x):szB (itemB p x) (N+1600):=by
 obtain ⟨⟨h1,h2⟩,-,h3,-⟩:=hx;unfold itemB
 split
 ·exact (declsB_sz _ h h2).mono (by omega)
 ·split
  ·unfold framesB
   split
   ·split
    ·exact (valsB_sz h _ _ _).mono (by omega)
    ·exact h.mono (by omega)
   ·exact h.mono (by omega)
  ·exact h.mono (by omega)
theorem passB_sz:∀ (l:List Itm) {p:B3} {N:Nat},szB p N→(∀ x∈l,okX x)→szB (passB p l) (N+1600*l.length)
 | [],_,_,h,_=>h
 | x::l,p,N,h,hx=>by
   have:=passB_sz l (itemB_sz h (hx x List.mem_cons_self)) fun y hy=>hx y (List.mem_cons_of_mem _ hy);show szB (passB (itemB p x) l) _;rw [List.length_cons];exact this.mono (by omega)
theorem s_inj {p q:B3} (h:p.s=q.s):p=q:=by
 have key:∀ {a b:List ByteArray},a.map sOf=b.map sOf→a=b:=by
  intro a b h;have:=congrArg (List.map bs) h;rw [List.map_map,List.map_map] at this;have e:bs∘sOf=id:=rfl
  rwa [e,List.map_id,List.map_id] at this
 obtain ⟨a,b,c⟩:=p;obtain ⟨x,y,z⟩:=q
 injection h with h1 h2 h3
 rw [show a=x from key h1,show b=y from key h2,show c=z from key h3]
structure OfB (L:List (List Itm)) (p:B3):Prop where
 r:risesP p
 u:InU (rulesOf L.flatten) p.s
theorem OfB.nil (L:List (List Itm)):OfB L ⟨[],[],[]⟩:=⟨⟨rises_nilS,rises_nilS,rises_nilS⟩,inU_nil _⟩
theorem pass_B {L:List (List Itm)} {p:B3} (h:risesP p):(passB p (flatIs L.flatten)).s=passM p.s L.flatten:=by
 rw [(passB_M _ h).2,pass_rules];rfl
theorem OfB.next {L:List (List Itm)} {p:B3} (h:OfB L p):OfB L (passB p (flatIs L.flatten)):=by
 refine ⟨(passB_M _ h.r).1,?_⟩;rw [pass_B h.r];exact pass_in h.u
theorem OfB.fin {L:List (List Itm)} {p:B3} (h:OfB L p) (he:passB p (flatIs L.flatten)=p):FinU (rulesOf L.flatten) p.s:=by
 refine pass_fin h.u ?_;rw [←pass_B h.r,he]
theorem OfB.sz {L:List (List Itm)} {p:B3} (h:OfB L p) (hL:∀ l∈L,okSh l) (h4:L.length≤4):szB p 240000:=by
 have h0:=small_len hL h4 h.u 0;have h1:=small_len hL h4 h.u 1;have h2:=small_len hL h4 h.u 2;have e0:(p.s.at 0).length=p.c.length:=List.length_map ..;have e1:(p.s.at 1).length=p.f.length:=List.length_map ..;have e2:(p.s.at 2).length=p.g.length:=List.length_map ..;exact ⟨by omega,by omega,by omega⟩
def totB (p:B3):Nat:=p.c.length+p.f.length+p.g.length
theorem OfB.less {L:List (List Itm)} {p:B3} (h:OfB L p) (hL:∀ l∈L,okSh l) (h4:L.length≤4) (hne:passB p (flatIs L.flatten)≠p) :
 720000 - totB (passB p (flatIs L.flatten))<720000 - totB p:=by
 have hz:=h.next.sz hL h4;have hu:=up_pass p.s L.flatten;rw [←pass_B h.r] at hu;have l0:p.c.length≤(passB p (flatIs L.flatten)).c.length:=by have:=hu.1 0;simpa [S3.at,B3.s] using this
 have l1:p.f.length≤(passB p (flatIs L.flatten)).f.length:=by have:=hu.1 1;simpa [S3.at,B3.s] using this
 have l2:p.g.length≤(passB p (flatIs L.flatten)).g.length:=by have:=hu.1 2;simpa [S3.at,B3.s] using this
 have hlt:totB p<totB (passB p (flatIs L.flatten)):=by
  refine Decidable.byContradiction fun hn=>hne (s_inj (hu.2 fun i=>?_));unfold totB at hn
  match i with
  | 0=>show (List.map sOf _).length≤(List.map sOf _).length;rw [List.length_map,List.length_map];omega
  | 1=>show (List.map sOf _).length≤(List.map sOf _).length;rw [List.length_map,List.length_map];omega
  | _+2=>show (List.map sOf _).length≤(List.map sOf _).length;rw [List.length_map,List.length_map];omega
 obtain ⟨z1,z2,z3⟩:=hz;unfold totB at hlt ⊢;omega
def itB (F:List Itm):Nat→B3
 | 0=>⟨[],[],[]⟩
 | n+1=>passB (itB F n) F
theorem itB_of (L:List (List Itm)):∀ n,OfB L (itB (flatIs L.flatten) n)
 | 0=>OfB.nil L
 | n+1=>(itB_of L n).next
theorem least {P:Nat→Prop}:∀ n,P n→∃ m,P m∧∀ k,k<m→¬P k:=by
 intro n
 induction n using Nat.strongRecOn with
 | ind n ih =>
   intro hn
   by_cases h:∃ k,k<n∧P k
   ·obtain ⟨k,h1,h2⟩:=h
    exact ih k h1 h2
   ·exact ⟨n,hn,fun k hk hp=>h ⟨k,hk,hp⟩⟩
theorem itB_end {L:List (List Itm)} (hL:∀ l∈L,okSh l) (h4:L.length≤4):∃ m,itB (flatIs L.flatten) (m+1)=itB (flatIs L.flatten) m∧∀ k,k<m→itB (flatIs L.flatten) (k+1)≠itB (flatIs L.flatten) k:=by
 have ex:∃ n,itB (flatIs L.flatten) (n+1)=itB (flatIs L.flatten) n:=by
  refine Classical.byContradiction fun hn=>?_;have hne:∀ n,itB (flatIs L.flatten) (n+1)≠itB (flatIs L.flatten) n:=fun n h=>hn ⟨n,h⟩;have key:∀ n,720000 - totB (itB (flatIs L.flatten) n)+n≤720000:=by
   intro n
   induction n with
   | zero=>omega
   | succ n ih =>
     have:=(itB_of L n).less hL h4 (hne n);show 720000 - totB (passB (itB (flatIs L.flatten) n) (flatIs L.flatten))+(n+1)≤720000;omega
  have:=key 720001;omega
 obtain ⟨n,hn⟩:=ex;exact least n hn
end Go.Proofs.YtlnaihkombcbcaaGreat
namespace Go.Proofs.YtlnaihkombcbcaaGreat
open Go.RowKit Go.Ev
attribute [local go_sem] eq_self false_and and_false Bool.false_eq_true List.set_cons_succ List.set_cons_zero List.getD_cons_succ List.getD_cons_zero List.getElem?_cons_succ List.getElem?_cons_zero true_and and_true and_self Bool.not_true Bool.not_false Nat.add_zero Nat.zero_add Nat.mul_one Int.toNat_natCast Int.natCast_nonneg Int.ofNat_lt Option.bind_some Option.map_some List.map_cons List.map_nil decide_true decide_false BEq.rfl Bool.and_self Bool.and_true Bool.and_false beq_self_eq_true List.cons_append List.nil_append List.take_zero List.take_succ_cons List.take_nil List.drop_succ_cons List.drop_zero List.drop_nil List.append_nil List.length_cons List.length_nil List.all_cons List.all_nil Nat.le_refl Option.map_none List.replicate_zero List.replicate_succ Nat.zero_mul Nat.sub_zero Nat.zero_le Nat.le_zero_eq getR_nil Int.toNat_zero Int.natCast_zero Int.natCast_one Int.cast_ofNat_Int List.toList_toArray
def ddL (a:List ByteArray) (x:ByteArray):List ByteArray:=if inA a x=true then a else a++[x]
theorem ddL_eq (a:List ByteArray) (x:ByteArray):ddL a x=ddS a x:=by
 have:inA a x=Lib.containsS a x:=by rw [Bool.eq_iff_iff,inA_iff,Lib.containsS_iff]
 unfold ddL ddS;rw [this]
def ddsL (a l:List ByteArray):List ByteArray:=l.foldl ddL a
theorem ddsL_app (a x y:List ByteArray):ddsL a (x++y)=ddsL (ddsL a x) y:=List.foldl_append
theorem ddsL_nil (l:List ByteArray):ddsL [] l=dd l:=by
 have:∀ (l a:List ByteArray),l.foldl ddL a=l.foldl ddS a:=by
  intro l
  induction l with
  | nil=>intro a;rfl
  | cons x l ih=>intro a;rw [List.foldl_cons,List.foldl_cons,ddL_eq,ih]
 exact this l []
theorem ddsL_le:∀ (l a:List ByteArray),(ddsL a l).length≤a.length+l.length
 | [],a=>Nat.le_refl _
 | x::l,a=>by
   have h1:(ddL a x).length≤a.length+1:=by unfold ddL;split <;> simp
   have h2:=ddsL_le l (ddL a x);show (ddsL (ddL a x) l).length≤_;rw [List.length_cons];omega
theorem encR_eq (f:Rf):encR f=[.g (.string f.name),fbA f,.g (.bool f.falls),.g (.bool f.is)]:=Eq.trans rfl rfl
theorem fbA_cell (f:Rf):isCell (fbA f)=true:=by unfold fbA;split <;> rfl
theorem ownR_eq (x:Vl):ownR x.kind x.text x.l=if isVarK x.kind x.text=true∧(refR x.l).is=true then [(refR x.l).name] else []:=by
 obtain ⟨h1,h2⟩:=refR_read x.l;unfold ownR
 by_cases h:isVarK x.kind x.text=true∧(readM x.l).is=true
 ·rw [if_pos h,if_pos ⟨h.1,h1.trans h.2⟩,h2 h.2]
 ·rw [if_neg h,if_neg (fun k=>h ⟨k.1,h1.symm.trans k.2⟩)]
theorem rowV5 {l:List Vl} {k:Nat} (hk:k<l.length):((l.flatMap encV).drop (k*5)).take 5=encV l[k]∧k*5+5≤(l.flatMap encV).length:=by
 have rp:=row_part encV 5 encV_len l k hk 0 5 (by decide);rw [Nat.add_zero,List.drop_zero,List.take_of_length_le (l:=encV l[k]) (by rw [encV_len];decide)] at rp;exact ⟨rp,row_fit encV 5 encV_len l k hk (j:=0) (c:=5) (by decide)⟩
theorem in_fn:∃ fn,Tryz.prog.funcs[22]?=some fn∧(fn.name == "runtime.NumGoroutine")=false∧fn.body.isNone=false:=⟨_,Tryz.func22,by kernel_rfl,rfl⟩
theorem in11_c {rd:List Mem} {m:ML} {n b:Nat} {o:List ByteArray} (x:ByteArray) (hb:getL m b=some (.cells (o.flatMap encN))) (hl:o.length≤1000000) :
 CallM Tryz.prog gt0 rd m n 22 [.gs b 0 o.length 1 o.length,.g (.string x)] (.g (.bool (inA o x))) m n:=by
 refine Pure.read (in11_p o x hl).pure in_fn ?_
 have h:=CloseTo.gs (rd:=rd) (m:=m) (b:=b) (o:=0) (k:=o.length) (sz:=1) (c:=o.length) hb (by rw [row_len encN 1 (fun _=>rfl)];omega) (fun a ha=>by
  obtain ⟨y,-,hy⟩:=List.mem_flatMap.1 (List.mem_of_mem_take ha);obtain rfl:=List.mem_singleton.1 hy
  rfl) (CloseTo.plain (a:=.g (.string x)) rfl CloseTo.nil)
 rwa [List.drop_zero,row_all encN 1 (fun _=>rfl)] at h
set_option maxRecDepth 100000 in
set_option maxHeartbeats 8000000 in
theorem refs16_o (N:Nat):∀ (l:List Vl),SizeOf.sizeOf l≤N→cntVs l≤1000→okVs l=true→∀ (o:List ByteArray),o.length+cntVs l≤900000→OwnN Tryz.prog gt0 61 [.gs 0 0 o.length 1 o.length,.sl l.length 5 (l.flatMap encV)] (o.flatMap encN) (ddsL o (rfVs l)).length 1 ((ddsL o (rfVs l)).flatMap encN):=by
 induction N with
 | zero=>intro l hl;cases l <;> simp at hl <;> omega
 | succ N ih =>
   intro l hl hcn hok o ho;have hlen:l.length≤1000:=Nat.le_trans (cntVs_len l) hcn;have HB:∀ k,k<l.length→cntVs (l.take k)+1+cntVs ((l[k]?.map (·.l)).getD [])≤cntVs l:=fun k hk=>by
    have h:=cntVs_snoc hk;have h2:=cntVs_append (l.take (k+1)) (l.drop (k+1));rw [List.take_append_drop] at h2;rw [List.getElem?_eq_getElem hk];simp only [Option.map_some,Option.getD_some];omega
   have IH:=fun k (hk:k<l.length)=>ih l[k].l (by have:=vl_lt (List.getElem_mem hk);omega) (by have:=cntVs_at hk;omega) (okVs_at hok _ (List.getElem_mem hk)).2;have HO:∀ k,k≤l.length→(ddsL o (rfVs (l.take k))).length≤o.length+cntVs (l.take k):=fun k hk=>Nat.le_trans (ddsL_le _ _) (by have:=rfVs_cnt (l.take k);omega);have HT:=fun k (hk:k<l.length)=>(okVs_at hok _ (List.getElem_mem hk)).1;clear ih hl;refine callN_of_w (c:=_) Tryz.func61 rfl (by kernel_rfl) ?_;simp only [Tryz.f61,List.replicate,List.length_cons,List.length_nil,Nat.reduceAdd,Nat.reduceSub,List.cons_append,List.nil_append]
   (repeat ((first | with_reducible refine W.step (b:=false) ?_ | skip);simp only [go_sem,↓reduceIte,Nat.reduceAdd,Nat.reduceSub,Nat.reduceMul,Nat.reduceEqDiff,Nat.reduceLeDiff,Nat.reduceLT,Int.reduceLE,Int.reduceLT,Int.reduceToNat,Int.reduceEq];try with_reducible refine drawn hmix (by kernel_rfl) ?_))
   refine W.loop (s1:=stL [(.gs 0 0 o.length 1 o.length),(.sl l.length 5 (l.flatMap encV)),.any,.any,.any,(.g (.int .i64 ((0:Nat):Int))),.any,.any,.any,.any,.any,.any,.any,.any,.any,.any,.any,.any,.any,.any,.any,.any,.any,.any,.any,.any,.any,.any,.any,.any,.any,.any,.any,.any,.any,.any,.any,.any,.any,.any,.any,.any,.any,.any,.any,.any,.any,.any,.any,.any] [(0,.cells (o.flatMap encN))] 1)
    (fun (k:Nat) t=>k≤l.length∧∃ b,(b=0∨b=1)∧t=stL [(.gs b 0 (ddsL o (rfVs (l.take k))).length 1 (ddsL o (rfVs (l.take k))).length),(.sl l.length 5 (l.flatMap encV)),.any,.any,.any,(.g (.int .i64 (k:Int))),.any,.any,.any,.any,.any,.any,.any,.any,.any,.any,.any,.any,.any,.any,.any,.any,.any,.any,.any,.any,.any,.any,.any,.any,.any,.any,.any,.any,.any,.any,.any,.any,.any,.any,.any,.any,.any,.any,.any,.any,.any,.any,.any,.any] [(b,.cells ((ddsL o (rfVs (l.take k))).flatMap encN))] (b+1)) (fun k=>l.length - k) 0 ⟨Nat.zero_le _,0,.inl rfl,by simp [rfVs,ddsL]⟩ (VS.tm (by simp [leL])) ?_
   rintro k t ⟨hk,b,hb,rfl⟩
   by_cases hlt:k<l.length
   ·obtain ⟨rp,rl⟩:=rowV5 hlt
    have r4:=(rowV hlt).2.2.2.2.1;have hsn:=rfVs_snoc hlt;rw [rfV_eq,ownR_eq] at hsn;have hb1:=HB k hlt;rw [List.getElem?_eq_getElem hlt] at hb1;simp only [Option.map_some,Option.getD_some] at hb1;have ho':=HO k hk;have IHk:=IH k hlt;have hts:=HT k hlt;have hll:=cntVs_len l[k].l;have hfin:IntKind.i64.wrap ((k:Int)+1)=((k+1:Nat):Int):=up1 (by omega);have hres:ddsL o (rfVs (l.take (k+1)))=ddsL (ddsL (ddsL o (rfVs (l.take k))) (if isVarK l[k].kind l[k].text=true∧(refR l[k].l).is=true then [(refR l[k].l).name] else [])) (if 2≤l[k].kind∧l[k].kind≤5 then rfVs l[k].l else []):=by
     rw [hsn,ddsL_app,ddsL_app]
    clear IH HO HB HT hsn;generalize ddsL o (rfVs (l.take k))=oo at *;refine W.mid (ι:=Unit) (fun _=>True) (fun _=>stL [(.gs b 0 oo.length 1 oo.length),(.sl l.length 5 (l.flatMap encV)),.any,.any,.any,(.g (.int .i64 (k:Int))),.any,.any,.any,.any,.any,.any,.any,.any,.any,.any,.any,.any,.any,.any,.any,.any,.any,.any,.any,.any,.any,.any,.any,.any,.any,.any,.any,.any,.any,.any,.any,.any,.any,.any,.any,.any,.any,.any,.any,.any,.any,.any,.any,.any] [(b,.cells (oo.flatMap encN))] (b+1)) ?_ ?_
    ·(repeat ((first | with_reducible refine W.step (b:=false) ?_ | skip);simp only [go_sem,↓reduceIte,Nat.reduceAdd,Nat.reduceSub,Nat.reduceMul,Nat.reduceEqDiff,Nat.reduceLeDiff,Nat.reduceLT,Int.reduceLE,Int.reduceLT,Int.reduceToNat,Int.reduceEq,hlt];try with_reducible refine drawn hmix (by kernel_rfl) ?_))
     exact ⟨(),VS.tm (by simp only [go_sem,↓reduceIte,Nat.reduceAdd,Nat.reduceSub,Nat.reduceMul,Nat.reduceEqDiff,Nat.reduceLeDiff,Nat.reduceLT,Int.reduceLE,Int.reduceLT,Int.reduceToNat,Int.reduceEq,or_true,true_or])⟩
    rintro - -;refine W.seq (W.block ?_);obtain ⟨o1,hw1⟩:∃ o1,ddsL oo (if isVarK l[k].kind l[k].text=true∧(refR l[k].l).is=true then [(refR l[k].l).name] else [])=o1:=⟨_,rfl⟩;have hol1:o1.length≤oo.length+1:=by
     rw [←hw1];refine Nat.le_trans (ddsL_le _ _) ?_
     split <;> simp
    rw [hw1] at hres;have E1:(oo.flatMap encN).length=oo.length:=by rw [row_len encN 1 (fun _=>rfl)];omega
    have E2:¬(oo.length+1≤oo.length):=by omega
    have E3:(oo.length+1)*17≤17179869184:=by omega
    refine W.mid (ι:=Nat) (fun b=>b=0∨b=1) (fun b=>stL [(.gs b 0 o1.length 1 o1.length),(.sl l.length 5 (l.flatMap encV)),.any,.any,.any,(.g (.int .i64 (k:Int))),.any,.any,.any,.any,.any,.any,.any,.any,.any,.any,.any,.any,.any,.any,.any,.any,.any,.any,.any,.any,.any,.any,.any,.any,.any,.any,.any,.any,.any,.any,.any,.any,.any,.any,.any,.any,.any,.any,.any,.any,.any,.any,.any,.any] [(b,.cells (o1.flatMap encN))] (b+1)) ?_ ?_
    ·rcases hb with rfl | rfl
     all_goals
      (repeat ((first | with_reducible refine W.step (b:=false) ?_ | skip);simp only [go_sem,↓reduceIte,Nat.reduceAdd,Nat.reduceSub,Nat.reduceMul,Nat.reduceEqDiff,Nat.reduceLeDiff,Nat.reduceLT,Int.reduceLE,Int.reduceLT,Int.reduceToNat,Int.reduceEq,hlt,rp,rl];try with_reducible refine drawn hmix (by kernel_rfl) ?_))
      refine AtCall.mk (isVar16_p l[k] hts) ?_;simp only [go_sem,↓reduceIte,Nat.reduceAdd,Nat.reduceSub,Nat.reduceMul,Nat.reduceEqDiff,Nat.reduceLeDiff,Nat.reduceLT,Int.reduceLE,Int.reduceLT,Int.reduceToNat,Int.reduceEq];obtain ⟨iv,hiv⟩:∃ iv,isVarK l[k].kind l[k].text=iv:=⟨_,rfl⟩;rw [hiv] at hw1 ⊢
      cases iv
      ·obtain rfl:oo=o1:=by rw [if_neg (fun h=>by cases h.1)] at hw1;exact hw1
       (repeat ((first | with_reducible refine W.step (b:=false) ?_ | skip);simp only [go_sem,↓reduceIte,Nat.reduceAdd,Nat.reduceSub,Nat.reduceMul,Nat.reduceEqDiff,Nat.reduceLeDiff,Nat.reduceLT,Int.reduceLE,Int.reduceLT,Int.reduceToNat,Int.reduceEq];try with_reducible refine drawn hmix (by kernel_rfl) ?_))
       first
        | exact ⟨0,.inl rfl,VS.tm (by simp [leL])⟩
        | exact ⟨1,.inr rfl,VS.tm (by simp [leL])⟩
      ·(repeat ((first | with_reducible refine W.step (b:=false) ?_ | skip);simp only [go_sem,↓reduceIte,Nat.reduceAdd,Nat.reduceSub,Nat.reduceMul,Nat.reduceEqDiff,Nat.reduceLeDiff,Nat.reduceLT,Int.reduceLE,Int.reduceLT,Int.reduceToNat,Int.reduceEq,hlt,rp,rl];try with_reducible refine drawn hmix (by kernel_rfl) ?_))
       refine AtCall.mk (ref16_p l[k] (by omega)) ?_;simp only [go_sem,↓reduceIte,Nat.reduceAdd,Nat.reduceSub,Nat.reduceMul,Nat.reduceEqDiff,Nat.reduceLeDiff,Nat.reduceLT,Int.reduceLE,Int.reduceLT,Int.reduceToNat,Int.reduceEq,encR_eq,fbA_cell];generalize refR l[k].l=f at *;obtain ⟨nm,fb,fl,is⟩:=f;generalize fbA ⟨nm,fb,fl,is⟩=FB at *;simp only at hw1 ⊢
       cases is
       ·obtain rfl:oo=o1:=by rw [if_neg (fun h=>by cases h.2)] at hw1;exact hw1
        (repeat ((first | with_reducible refine W.step (b:=false) ?_ | skip);simp only [go_sem,↓reduceIte,Nat.reduceAdd,Nat.reduceSub,Nat.reduceMul,Nat.reduceEqDiff,Nat.reduceLeDiff,Nat.reduceLT,Int.reduceLE,Int.reduceLT,Int.reduceToNat,Int.reduceEq];try with_reducible refine drawn hmix (by kernel_rfl) ?_))
        first
         | exact ⟨0,.inl rfl,VS.ren [] (by simp) (by simp) (Nat.le_refl _) (by simp only [go_sem,↓reduceIte,Nat.reduceAdd,Nat.reduceSub,Nat.reduceMul,Nat.reduceEqDiff,Nat.reduceLeDiff,Nat.reduceLT,Int.reduceLE,Int.reduceLT,Int.reduceToNat,Int.reduceEq,lkE,lk]) (reM_one rfl rfl (noIds_N _))⟩
         | exact ⟨1,.inr rfl,VS.ren [(1,1)] (by simp) (by simp) (by show 1≤2;decide) (by simp only [go_sem,↓reduceIte,Nat.reduceAdd,Nat.reduceSub,Nat.reduceMul,Nat.reduceEqDiff,Nat.reduceLeDiff,Nat.reduceLT,Int.reduceLE,Int.reduceLT,Int.reduceToNat,Int.reduceEq,lkE,lk]) (reM_one rfl rfl (noIds_N _))⟩
       ·rw [if_pos (by simp)] at hw1
        (repeat ((first | with_reducible refine W.step (b:=false) ?_ | skip);simp only [go_sem,↓reduceIte,Nat.reduceAdd,Nat.reduceSub,Nat.reduceMul,Nat.reduceEqDiff,Nat.reduceLeDiff,Nat.reduceLT,Int.reduceLE,Int.reduceLT,Int.reduceToNat,Int.reduceEq];try with_reducible refine drawn hmix (by kernel_rfl) ?_))
        refine AtCall.mem (in11_c nm rfl (by omega)) ?_;simp only [go_sem,↓reduceIte,Nat.reduceAdd,Nat.reduceSub,Nat.reduceMul,Nat.reduceEqDiff,Nat.reduceLeDiff,Nat.reduceLT,Int.reduceLE,Int.reduceLT,Int.reduceToNat,Int.reduceEq];have hw2:ddL oo nm=o1:=hw1;unfold ddL at hw2
        cases hin:inA oo nm
        ·rw [hin,if_neg (by decide)] at hw2
         subst hw2
         (repeat ((first | with_reducible refine W.step (b:=false) ?_ | skip);simp only [go_sem,↓reduceIte,Nat.reduceAdd,Nat.reduceSub,Nat.reduceMul,Nat.reduceEqDiff,Nat.reduceLeDiff,Nat.reduceLT,Int.reduceLE,Int.reduceLT,Int.reduceToNat,Int.reduceEq,E1,E2,E3];try with_reducible refine drawn hmix (by kernel_rfl) ?_))
         first
          | exact ⟨1,.inr rfl,VS.ren [(1,3)] (by simp) (by simp) (by show 1≤2;decide) (by simp only [go_sem,↓reduceIte,Nat.reduceAdd,Nat.reduceSub,Nat.reduceMul,Nat.reduceEqDiff,Nat.reduceLeDiff,Nat.reduceLT,Int.reduceLE,Int.reduceLT,Int.reduceToNat,Int.reduceEq,lkE,lk,List.length_append]) (reM_one rfl (by rw [List.flatMap_append];rfl) (noIds_N _))⟩
          | exact ⟨1,.inr rfl,VS.ren [(1,4)] (by simp) (by simp) (by show 1≤2;decide) (by simp only [go_sem,↓reduceIte,Nat.reduceAdd,Nat.reduceSub,Nat.reduceMul,Nat.reduceEqDiff,Nat.reduceLeDiff,Nat.reduceLT,Int.reduceLE,Int.reduceLT,Int.reduceToNat,Int.reduceEq,lkE,lk,List.length_append]) (reM_one rfl (by rw [List.flatMap_append];rfl) (noIds_N _))⟩
        ·rw [hin,if_pos rfl] at hw2
         subst hw2
         (repeat ((first | with_reducible refine W.step (b:=false) ?_ | skip);simp only [go_sem,↓reduceIte,Nat.reduceAdd,Nat.reduceSub,Nat.reduceMul,Nat.reduceEqDiff,Nat.reduceLeDiff,Nat.reduceLT,Int.reduceLE,Int.reduceLT,Int.reduceToNat,Int.reduceEq];try with_reducible refine drawn hmix (by kernel_rfl) ?_))
         first
          | exact ⟨0,.inl rfl,VS.ren [] (by simp) (by simp) (Nat.le_refl _) (by simp only [go_sem,↓reduceIte,Nat.reduceAdd,Nat.reduceSub,Nat.reduceMul,Nat.reduceEqDiff,Nat.reduceLeDiff,Nat.reduceLT,Int.reduceLE,Int.reduceLT,Int.reduceToNat,Int.reduceEq,lkE,lk]) (reM_one rfl rfl (noIds_N _))⟩
          | exact ⟨1,.inr rfl,VS.ren [(1,1)] (by simp) (by simp) (by show 1≤2;decide) (by simp only [go_sem,↓reduceIte,Nat.reduceAdd,Nat.reduceSub,Nat.reduceMul,Nat.reduceEqDiff,Nat.reduceLeDiff,Nat.reduceLT,Int.reduceLE,Int.reduceLT,Int.reduceToNat,Int.reduceEq,lkE,lk]) (reM_one rfl rfl (noIds_N _))⟩
    ·clear hb E1 E2 E3
     rintro b hb;rcases hb with rfl | rfl
     all_goals
      (repeat ((first | with_reducible refine W.step (b:=false) ?_ | skip);simp only [go_sem,↓reduceIte,Nat.reduceAdd,Nat.reduceSub,Nat.reduceMul,Nat.reduceEqDiff,Nat.reduceLeDiff,Nat.reduceLT,Int.reduceLE,Int.reduceLT,Int.reduceToNat,Int.reduceEq,hlt,rp,rl];try with_reducible refine drawn hmix (by kernel_rfl) ?_))
      refine AtCall.mk (block16_p l[k]) ?_;obtain ⟨bk,hbk⟩:∃ bk,decide (2≤l[k].kind∧l[k].kind≤5)=bk:=⟨_,rfl⟩;rw [hbk];simp only [go_sem,↓reduceIte,Nat.reduceAdd,Nat.reduceSub,Nat.reduceMul,Nat.reduceEqDiff,Nat.reduceLeDiff,Nat.reduceLT,Int.reduceLE,Int.reduceLT,Int.reduceToNat,Int.reduceEq]
      cases bk
      ·rw [if_neg (of_decide_eq_false hbk)] at hres
       have hres':ddsL o (rfVs (l.take (k+1)))=o1:=hres
       (repeat ((first | with_reducible refine W.step (b:=false) ?_ | skip);simp only [go_sem,↓reduceIte,Nat.reduceAdd,Nat.reduceSub,Nat.reduceMul,Nat.reduceEqDiff,Nat.reduceLeDiff,Nat.reduceLT,Int.reduceLE,Int.reduceLT,Int.reduceToNat,Int.reduceEq];try with_reducible refine drawn hmix (by kernel_rfl) ?_))
       first
        | (refine ⟨k+1,_,⟨by omega,0,.inl rfl,rfl⟩,by show l.length - (k+1)<l.length - k;omega,?_⟩
           rw [hfin,hres']
           exact VS.tm (by simp only [go_sem,↓reduceIte,Nat.reduceAdd,Nat.reduceSub,Nat.reduceMul,Nat.reduceEqDiff,Nat.reduceLeDiff,Nat.reduceLT,Int.reduceLE,Int.reduceLT,Int.reduceToNat,Int.reduceEq,or_true,true_or]))
        | (refine ⟨k+1,_,⟨by omega,1,.inr rfl,rfl⟩,by show l.length - (k+1)<l.length - k;omega,?_⟩
           rw [hfin,hres']
           exact VS.tm (by simp only [go_sem,↓reduceIte,Nat.reduceAdd,Nat.reduceSub,Nat.reduceMul,Nat.reduceEqDiff,Nat.reduceLeDiff,Nat.reduceLT,Int.reduceLE,Int.reduceLT,Int.reduceToNat,Int.reduceEq,or_true,true_or]))
      ·rw [if_pos (of_decide_eq_true hbk)] at hres
       (repeat ((first | with_reducible refine W.step (b:=false) ?_ | skip);simp only [go_sem,↓reduceIte,Nat.reduceAdd,Nat.reduceSub,Nat.reduceMul,Nat.reduceEqDiff,Nat.reduceLeDiff,Nat.reduceLT,Int.reduceLE,Int.reduceLT,Int.reduceToNat,Int.reduceEq,hlt,r4];try with_reducible refine drawn hmix (by kernel_rfl) ?_))
       first
        | refine AtCall.mem ((IHk o1 (by omega)).callM (b:=0) rfl (noIds_N _) (noIds_N _) ?_) ?_
        | refine AtCall.mem ((IHk o1 (by omega)).callM (b:=1) rfl (noIds_N _) (noIds_N _) ?_) ?_
       ·simp only [go_sem,↓reduceIte,Nat.reduceAdd,Nat.reduceSub,Nat.reduceMul,Nat.reduceEqDiff,Nat.reduceLeDiff,Nat.reduceLT,Int.reduceLE,Int.reduceLT,Int.reduceToNat,Int.reduceEq,lkE,lk]
       (repeat ((first | with_reducible refine W.step (b:=false) ?_ | skip);simp only [go_sem,↓reduceIte,Nat.reduceAdd,Nat.reduceSub,Nat.reduceMul,Nat.reduceEqDiff,Nat.reduceLeDiff,Nat.reduceLT,Int.reduceLE,Int.reduceLT,Int.reduceToNat,Int.reduceEq];try with_reducible refine drawn hmix (by kernel_rfl) ?_))
       refine ⟨k+1,_,⟨by omega,1,.inr rfl,rfl⟩,by show l.length - (k+1)<l.length - k;omega,?_⟩;rw [hfin,hres]
       first
        | exact VS.ren [(1,1)] (by simp) (by simp) (by show 1≤2;decide) (by simp only [go_sem,↓reduceIte,Nat.reduceAdd,Nat.reduceSub,Nat.reduceMul,Nat.reduceEqDiff,Nat.reduceLeDiff,Nat.reduceLT,Int.reduceLE,Int.reduceLT,Int.reduceToNat,Int.reduceEq,lkE,lk]) (reM_one rfl rfl (noIds_N _))
        | exact VS.ren [(1,2)] (by simp) (by simp) (by show 1≤2;decide) (by simp only [go_sem,↓reduceIte,Nat.reduceAdd,Nat.reduceSub,Nat.reduceMul,Nat.reduceEqDiff,Nat.reduceLeDiff,Nat.reduceLT,Int.reduceLE,Int.reduceLT,Int.reduceToNat,Int.reduceEq,lkE,lk]) (reM_one rfl rfl (noIds_N _))
   ·obtain rfl:k=l.length:=by omega
    rw [List.take_length];rcases hb with rfl | rfl
    ·(repeat ((first | with_reducible refine W.step (b:=false) ?_ | skip);simp only [go_sem,↓reduceIte,Nat.reduceAdd,Nat.reduceSub,Nat.reduceMul,Nat.reduceEqDiff,Nat.reduceLeDiff,Nat.reduceLT,Int.reduceLE,Int.reduceLT,Int.reduceToNat,Int.reduceEq,hlt];try with_reducible refine drawn hmix (by kernel_rfl) ?_))
     exact postN_one _ (.inr rfl) rfl ⟨0,by decide,rfl,rfl⟩
    ·(repeat ((first | with_reducible refine W.step (b:=false) ?_ | skip);simp only [go_sem,↓reduceIte,Nat.reduceAdd,Nat.reduceSub,Nat.reduceMul,Nat.reduceEqDiff,Nat.reduceLeDiff,Nat.reduceLT,Int.reduceLE,Int.reduceLT,Int.reduceToNat,Int.reduceEq,hlt];try with_reducible refine drawn hmix (by kernel_rfl) ?_))
     exact postN_one _ (.inr rfl) rfl ⟨1,by decide,rfl,rfl⟩
theorem ag_pool:aggO Tryz.prog 41=some (true,3):=by kernel_rfl
theorem fl_pool0:fldO Tryz.prog 41 0=some (0,25):=by kernel_rfl
theorem fl_pool1:fldO Tryz.prog 41 1=some (1,25):=by kernel_rfl
theorem fl_pool2:fldO Tryz.prog 41 2=some (2,25):=by kernel_rfl
theorem un_str:Tryz.prog.underlying 9=some .string:=by kernel_rfl
attribute [go_sem] ag_pool fl_pool0 fl_pool1 fl_pool2 un_str
set_option maxRecDepth 100000 in
set_option maxHeartbeats 4000000 in
theorem fam18_p (k mn mx:Int) (n1 s1 n3 s3 n6 s6 n7 s7:Nat) (c1 c3 c6 c7:List AV) (ds:List Dl) (hlen:ds.length≤1000) (hcn:∀ d∈ds,d.l.length≤1000):PureN Tryz.prog gt0 31 [.agg [.g (.int .i64 k),.sl n1 s1 c1,.sl ds.length 3 (ds.flatMap encD),.sl n3 s3 c3,.g (.int .i64 mn),.g (.int .i64 mx),.sl n6 s6 c6,.sl n7 s7 c7]]
 (.tup [.g (.string (famM k ds).1),.g (.bool (famM k ds).2)]):=by
 refine PureN.of_w (c:=_) Tryz.func31 rfl (by kernel_rfl) rfl ?_;simp only [Tryz.f31,List.replicate,List.length_cons,List.length_nil,Nat.reduceAdd,Nat.reduceSub,List.cons_append,List.nil_append];unfold famM
 by_cases hk:k=6
 ·rw [if_pos hk]
  (repeat ((first | with_reducible refine W.step (b:=false) ?_ | skip);simp only [go_sem,↓reduceIte,Nat.reduceAdd,Nat.reduceSub,Nat.reduceMul,Nat.reduceEqDiff,Nat.reduceLeDiff,Nat.reduceLT,Int.reduceLE,Int.reduceLT,Int.reduceToNat,Int.reduceEq,hk];try with_reducible refine drawn hmix (by kernel_rfl) ?_))
  refine AtCall.mk (fam15_p 6 mn mx n1 s1 n3 s3 n6 s6 n7 s7 c1 c3 c6 c7 ds hlen hcn) ?_
  (repeat ((first | with_reducible refine W.step (b:=false) ?_ | skip);simp only [go_sem,↓reduceIte,Nat.reduceAdd,Nat.reduceSub,Nat.reduceMul,Nat.reduceEqDiff,Nat.reduceLeDiff,Nat.reduceLT,Int.reduceLE,Int.reduceLT,Int.reduceToNat,Int.reduceEq];try with_reducible refine drawn hmix (by kernel_rfl) ?_))
  ((with_reducible refine postP_pl2 _ (.inr rfl) ?_ ?_ ?_ ?_) <;> rfl)
 ·rw [if_neg hk]
  (repeat ((first | with_reducible refine W.step (b:=false) ?_ | skip);simp only [go_sem,↓reduceIte,Nat.reduceAdd,Nat.reduceSub,Nat.reduceMul,Nat.reduceEqDiff,Nat.reduceLeDiff,Nat.reduceLT,Int.reduceLE,Int.reduceLT,Int.reduceToNat,Int.reduceEq,hk];try with_reducible refine drawn hmix (by kernel_rfl) ?_))
  ((with_reducible refine postP_pl2 _ (.inr rfl) ?_ ?_ ?_ ?_) <;> rfl)
abbrev stA (c:List Str):AV:=.sl (c.map bs).length 1 ((c.map bs).flatMap encN)
theorem inA_str (c:List Str) (x:ByteArray):inA (c.map bs) x=c.contains (sOf x):=by
 rw [Bool.eq_iff_iff,inA_iff,List.contains_iff_mem];have hb:∀ s:Str,bs s=x↔s=sOf x:=fun s=>by
  constructor
  ·rintro rfl
   rw [←bs_toList s,ByteArray.toList_eq];rfl
  ·rintro rfl;rfl
 constructor
 ·intro h
  obtain ⟨s,hs,he⟩:=List.mem_map.1 h;rw [←(hb s).1 he];exact hs
 ·intro h
  exact List.mem_map.2 ⟨_,h,(hb _).2 rfl⟩
set_option maxRecDepth 100000 in
set_option maxHeartbeats 4000000 in
theorem refs16_p (l:List Vl) (hcn:cntVs l≤1000) (hok:okVs l=true):PureN Tryz.prog gt0 16 [.sl l.length 5 (l.flatMap encV)] (.sl (rf16 l).length 1 ((rf16 l).flatMap encN)):=by
 refine PureN.of_w (c:=_) Tryz.func16 rfl (by kernel_rfl) rfl ?_;simp only [Tryz.f16,List.replicate,List.length_cons,List.length_nil,Nat.reduceAdd,Nat.reduceSub,List.cons_append,List.nil_append];have H:=refs16_o _ l (Nat.le_refl _) hcn hok [] (by simp;omega);rw [ddsL_nil] at H
 (repeat ((first | with_reducible refine W.step (b:=false) ?_ | skip);simp only [go_sem,↓reduceIte,Nat.reduceAdd,Nat.reduceSub,Nat.reduceMul,Nat.reduceEqDiff,Nat.reduceLeDiff,Nat.reduceLT,Int.reduceLE,Int.reduceLT,Int.reduceToNat,Int.reduceEq];try with_reducible refine drawn hmix (by kernel_rfl) ?_))
 refine AtCall.mem (H.callM (b:=0) rfl rfl (noIds_N _) ?_) ?_
 ·simp only [go_sem,↓reduceIte,Nat.reduceAdd,Nat.reduceSub,Nat.reduceMul,Nat.reduceEqDiff,Nat.reduceLeDiff,Nat.reduceLT,Int.reduceLE,Int.reduceLT,Int.reduceToNat,Int.reduceEq]
 ·(repeat ((first | with_reducible refine W.step (b:=false) ?_ | skip);simp only [go_sem,↓reduceIte,Nat.reduceAdd,Nat.reduceSub,Nat.reduceMul,Nat.reduceEqDiff,Nat.reduceLeDiff,Nat.reduceLT,Int.reduceLE,Int.reduceLT,Int.reduceToNat,Int.reduceEq];try with_reducible refine drawn hmix (by kernel_rfl) ?_))
  exact postP_one _ (.inr rfl) rfl (seal_N rfl rfl)
theorem bl_pool (parts:List (Nat×AV)):evBuild Tryz.prog 41 parts=aggM (fillL [(0,1),(1,1),(2,1)] [.g (.slice none 0 0),.g (.slice none 0 0),.g (.slice none 0 0)] parts):=evBuild_eq (by kernel_rfl) parts
theorem sz_pool:szO Tryz.prog 41=some 3:=by kernel_rfl
theorem ze_pool:zeroO Tryz.prog 41=some [.g (.slice none 0 0),.g (.slice none 0 0),.g (.slice none 0 0)]:=by kernel_rfl
attribute [go_sem] bl_pool sz_pool ze_pool
def encB (p:B3):List AV:=[.sl p.c.length 1 (p.c.flatMap encN),.sl p.f.length 1 (p.f.flatMap encN),.sl p.g.length 1 (p.g.flatMap encN)]
theorem encB_eq (p:B3):encB p=[.sl p.c.length 1 (p.c.flatMap encN),.sl p.f.length 1 (p.f.flatMap encN),.sl p.g.length 1 (p.g.flatMap encN)]:=Eq.trans rfl rfl
theorem puts18_q (l more:List ByteArray) (h:l.length+more.length≤1000000):PureN Tryz.prog gt0 213 [.sl l.length 1 (l.flatMap encN),.sl more.length 1 (more.flatMap encN)] (.sl (putsB l more).length 1 ((putsB l more).flatMap encN)) :=
 puts18_p l more (fun k hk=>Nat.le_trans (putsB_le _ _) (by rw [List.length_take];omega)) (by omega)
set_option maxRecDepth 100000 in
set_option maxHeartbeats 4000000 in
theorem vals18_p (p:B3) (l:List Vl) (fr fa:Bool) (hp:szB p 900000) (hcn:cntVs l≤1000) (hok:okVs l=true) :
 PureN Tryz.prog gt0 151 [.agg (encB p),.sl l.length 5 (l.flatMap encV),.g (.bool fr),.g (.bool fa)] (.agg (encB (valsB p l fr fa))):=by
 obtain ⟨h1,h2,h3⟩:=hp;have a1:=rf16_le l;have a2:=nm_le 1 l;have a3:=nm_le 6 l;have a4:=putsB_le (putsB [] (txVs 1 l)) p.g;have R:=refs16_p l hcn hok;have I:=idents18_p l hcn;have S:=strings18_p l hcn;have P1:=puts18_q p.c (rf16 l) (by omega);have P2:=puts18_q p.f (putsB [] (txVs 1 l)) (by omega);have P3:=puts18_q p.g (putsB [] (txVs 1 l)) (by omega);have P4:=puts18_q (putsB p.g (putsB [] (txVs 1 l))) (putsB [] (txVs 6 l)) (by omega);unfold encB valsB;generalize putsB (putsB p.g (putsB [] (txVs 1 l))) (putsB [] (txVs 6 l))=Z4 at *;generalize putsB p.g (putsB [] (txVs 1 l))=Z3 at *;generalize putsB p.f (putsB [] (txVs 1 l))=Z2 at *;generalize putsB p.c (rf16 l)=Z1 at *;generalize putsB [] (txVs 1 l)=X1 at *;generalize putsB [] (txVs 6 l)=X6 at *;generalize rf16 l=X0 at *;clear a1 a2 a3 a4 h1 h2 h3 hcn hok;refine PureN.of_w (c:=_) Tryz.func151 rfl (by kernel_rfl) rfl ?_;simp only [Tryz.f151,List.replicate,List.length_cons,List.length_nil,Nat.reduceAdd,Nat.reduceSub,List.cons_append,List.nil_append]
 (repeat ((first | with_reducible refine W.step (b:=true) ?_ | skip);simp only [go_sem,↓reduceIte,Nat.reduceAdd,Nat.reduceSub,Nat.reduceMul,Nat.reduceEqDiff,Nat.reduceLeDiff,Nat.reduceLT,Int.reduceLE,Int.reduceLT,Int.reduceToNat,Int.reduceEq];(try with_reducible refine drawn hmix (by kernel_rfl) ?_);try with_reducible refine ⟨by kernel_rfl,?_⟩))
 refine AtCallD.mk R ?_;simp only [go_sem,↓reduceIte,Nat.reduceAdd,Nat.reduceSub,Nat.reduceMul,Nat.reduceEqDiff,Nat.reduceLeDiff,Nat.reduceLT,Int.reduceLE,Int.reduceLT,Int.reduceToNat,Int.reduceEq];refine AtCallD.mk P1 ?_;simp only [go_sem,↓reduceIte,Nat.reduceAdd,Nat.reduceSub,Nat.reduceMul,Nat.reduceEqDiff,Nat.reduceLeDiff,Nat.reduceLT,Int.reduceLE,Int.reduceLT,Int.reduceToNat,Int.reduceEq];refine ⟨by kernel_rfl,?_⟩
 cases fr
 ·rw [if_neg (by decide)]
  (repeat ((first | with_reducible refine W.step (b:=true) ?_ | skip);simp only [go_sem,↓reduceIte,Nat.reduceAdd,Nat.reduceSub,Nat.reduceMul,Nat.reduceEqDiff,Nat.reduceLeDiff,Nat.reduceLT,Int.reduceLE,Int.reduceLT,Int.reduceToNat,Int.reduceEq];(try with_reducible refine drawn hmix (by kernel_rfl) ?_);try with_reducible refine ⟨by kernel_rfl,?_⟩))
  cases fa
  ·rw [if_neg (by decide)]
   (repeat ((first | with_reducible refine W.step (b:=true) ?_ | skip);simp only [go_sem,↓reduceIte,Nat.reduceAdd,Nat.reduceSub,Nat.reduceMul,Nat.reduceEqDiff,Nat.reduceLeDiff,Nat.reduceLT,Int.reduceLE,Int.reduceLT,Int.reduceToNat,Int.reduceEq];(try with_reducible refine drawn hmix (by kernel_rfl) ?_);try with_reducible refine ⟨by kernel_rfl,?_⟩))
   refine postP_one _ (.inr rfl) ?_ (.agg ?_)
   ·simp only [resV,go_sem,↓reduceIte,Nat.reduceAdd,Nat.reduceSub,Nat.reduceMul,Nat.reduceEqDiff,Nat.reduceLeDiff,Nat.reduceLT,Int.reduceLE,Int.reduceLT,Int.reduceToNat,Int.reduceEq]
   ·simp [plainA]
  ·rw [if_pos rfl]
   (repeat ((first | with_reducible refine W.step (b:=true) ?_ | skip);simp only [go_sem,↓reduceIte,Nat.reduceAdd,Nat.reduceSub,Nat.reduceMul,Nat.reduceEqDiff,Nat.reduceLeDiff,Nat.reduceLT,Int.reduceLE,Int.reduceLT,Int.reduceToNat,Int.reduceEq];(try with_reducible refine drawn hmix (by kernel_rfl) ?_);try with_reducible refine ⟨by kernel_rfl,?_⟩))
   refine AtCallD.mk I ?_;simp only [go_sem,↓reduceIte,Nat.reduceAdd,Nat.reduceSub,Nat.reduceMul,Nat.reduceEqDiff,Nat.reduceLeDiff,Nat.reduceLT,Int.reduceLE,Int.reduceLT,Int.reduceToNat,Int.reduceEq];refine AtCallD.mk P3 ?_;simp only [go_sem,↓reduceIte,Nat.reduceAdd,Nat.reduceSub,Nat.reduceMul,Nat.reduceEqDiff,Nat.reduceLeDiff,Nat.reduceLT,Int.reduceLE,Int.reduceLT,Int.reduceToNat,Int.reduceEq];refine AtCallD.mk S ?_;simp only [go_sem,↓reduceIte,Nat.reduceAdd,Nat.reduceSub,Nat.reduceMul,Nat.reduceEqDiff,Nat.reduceLeDiff,Nat.reduceLT,Int.reduceLE,Int.reduceLT,Int.reduceToNat,Int.reduceEq];refine AtCallD.mk P4 ?_;simp only [go_sem,↓reduceIte,Nat.reduceAdd,Nat.reduceSub,Nat.reduceMul,Nat.reduceEqDiff,Nat.reduceLeDiff,Nat.reduceLT,Int.reduceLE,Int.reduceLT,Int.reduceToNat,Int.reduceEq];refine ⟨by kernel_rfl,?_⟩
   (repeat ((first | with_reducible refine W.step (b:=true) ?_ | skip);simp only [go_sem,↓reduceIte,Nat.reduceAdd,Nat.reduceSub,Nat.reduceMul,Nat.reduceEqDiff,Nat.reduceLeDiff,Nat.reduceLT,Int.reduceLE,Int.reduceLT,Int.reduceToNat,Int.reduceEq];(try with_reducible refine drawn hmix (by kernel_rfl) ?_);try with_reducible refine ⟨by kernel_rfl,?_⟩))
   refine postP_one _ (.inr rfl) ?_ (.agg ?_)
   ·simp only [resV,go_sem,↓reduceIte,Nat.reduceAdd,Nat.reduceSub,Nat.reduceMul,Nat.reduceEqDiff,Nat.reduceLeDiff,Nat.reduceLT,Int.reduceLE,Int.reduceLT,Int.reduceToNat,Int.reduceEq]
   ·simp [plainA]
 ·rw [if_pos rfl]
  (repeat ((first | with_reducible refine W.step (b:=true) ?_ | skip);simp only [go_sem,↓reduceIte,Nat.reduceAdd,Nat.reduceSub,Nat.reduceMul,Nat.reduceEqDiff,Nat.reduceLeDiff,Nat.reduceLT,Int.reduceLE,Int.reduceLT,Int.reduceToNat,Int.reduceEq];(try with_reducible refine drawn hmix (by kernel_rfl) ?_);try with_reducible refine ⟨by kernel_rfl,?_⟩))
  refine AtCallD.mk I ?_;simp only [go_sem,↓reduceIte,Nat.reduceAdd,Nat.reduceSub,Nat.reduceMul,Nat.reduceEqDiff,Nat.reduceLeDiff,Nat.reduceLT,Int.reduceLE,Int.reduceLT,Int.reduceToNat,Int.reduceEq];refine AtCallD.mk P2 ?_;simp only [go_sem,↓reduceIte,Nat.reduceAdd,Nat.reduceSub,Nat.reduceMul,Nat.reduceEqDiff,Nat.reduceLeDiff,Nat.reduceLT,Int.reduceLE,Int.reduceLT,Int.reduceToNat,Int.reduceEq];refine ⟨by kernel_rfl,?_⟩
  (repeat ((first | with_reducible refine W.step (b:=true) ?_ | skip);simp only [go_sem,↓reduceIte,Nat.reduceAdd,Nat.reduceSub,Nat.reduceMul,Nat.reduceEqDiff,Nat.reduceLeDiff,Nat.reduceLT,Int.reduceLE,Int.reduceLT,Int.reduceToNat,Int.reduceEq];(try with_reducible refine drawn hmix (by kernel_rfl) ?_);try with_reducible refine ⟨by kernel_rfl,?_⟩))
  cases fa
  ·rw [if_neg (by decide)]
   (repeat ((first | with_reducible refine W.step (b:=true) ?_ | skip);simp only [go_sem,↓reduceIte,Nat.reduceAdd,Nat.reduceSub,Nat.reduceMul,Nat.reduceEqDiff,Nat.reduceLeDiff,Nat.reduceLT,Int.reduceLE,Int.reduceLT,Int.reduceToNat,Int.reduceEq];(try with_reducible refine drawn hmix (by kernel_rfl) ?_);try with_reducible refine ⟨by kernel_rfl,?_⟩))
   refine postP_one _ (.inr rfl) ?_ (.agg ?_)
   ·simp only [resV,go_sem,↓reduceIte,Nat.reduceAdd,Nat.reduceSub,Nat.reduceMul,Nat.reduceEqDiff,Nat.reduceLeDiff,Nat.reduceLT,Int.reduceLE,Int.reduceLT,Int.reduceToNat,Int.reduceEq]
   ·simp [plainA]
  ·rw [if_pos rfl]
   (repeat ((first | with_reducible refine W.step (b:=true) ?_ | skip);simp only [go_sem,↓reduceIte,Nat.reduceAdd,Nat.reduceSub,Nat.reduceMul,Nat.reduceEqDiff,Nat.reduceLeDiff,Nat.reduceLT,Int.reduceLE,Int.reduceLT,Int.reduceToNat,Int.reduceEq];(try with_reducible refine drawn hmix (by kernel_rfl) ?_);try with_reducible refine ⟨by kernel_rfl,?_⟩))
   refine AtCallD.mk I ?_;simp only [go_sem,↓reduceIte,Nat.reduceAdd,Nat.reduceSub,Nat.reduceMul,Nat.reduceEqDiff,Nat.reduceLeDiff,Nat.reduceLT,Int.reduceLE,Int.reduceLT,Int.reduceToNat,Int.reduceEq];refine AtCallD.mk P3 ?_;simp only [go_sem,↓reduceIte,Nat.reduceAdd,Nat.reduceSub,Nat.reduceMul,Nat.reduceEqDiff,Nat.reduceLeDiff,Nat.reduceLT,Int.reduceLE,Int.reduceLT,Int.reduceToNat,Int.reduceEq];refine AtCallD.mk S ?_;simp only [go_sem,↓reduceIte,Nat.reduceAdd,Nat.reduceSub,Nat.reduceMul,Nat.reduceEqDiff,Nat.reduceLeDiff,Nat.reduceLT,Int.reduceLE,Int.reduceLT,Int.reduceToNat,Int.reduceEq];refine AtCallD.mk P4 ?_;simp only [go_sem,↓reduceIte,Nat.reduceAdd,Nat.reduceSub,Nat.reduceMul,Nat.reduceEqDiff,Nat.reduceLeDiff,Nat.reduceLT,Int.reduceLE,Int.reduceLT,Int.reduceToNat,Int.reduceEq];refine ⟨by kernel_rfl,?_⟩
   (repeat ((first | with_reducible refine W.step (b:=true) ?_ | skip);simp only [go_sem,↓reduceIte,Nat.reduceAdd,Nat.reduceSub,Nat.reduceMul,Nat.reduceEqDiff,Nat.reduceLeDiff,Nat.reduceLT,Int.reduceLE,Int.reduceLT,Int.reduceToNat,Int.reduceEq];(try with_reducible refine drawn hmix (by kernel_rfl) ?_);try with_reducible refine ⟨by kernel_rfl,?_⟩))
   refine postP_one _ (.inr rfl) ?_ (.agg ?_)
   ·simp only [resV,go_sem,↓reduceIte,Nat.reduceAdd,Nat.reduceSub,Nat.reduceMul,Nat.reduceEqDiff,Nat.reduceLeDiff,Nat.reduceLT,Int.reduceLE,Int.reduceLT,Int.reduceToNat,Int.reduceEq]
   ·simp [plainA]
set_option maxRecDepth 100000 in
set_option maxHeartbeats 4000000 in
theorem texts10_p (a b:List ByteArray) (ha:a.length≤1000000):PureN Tryz.prog gt0 35 [.sl a.length 1 (a.flatMap encN),.sl b.length 1 (b.flatMap encN)] (.g (.bool (decide (a=b)))):=by
 refine PureN.of_w (c:=_) Tryz.func35 rfl (by kernel_rfl) rfl ?_;simp only [Tryz.f35,List.replicate,List.length_cons,List.length_nil,Nat.reduceAdd,Nat.reduceSub,List.cons_append,List.nil_append]
 by_cases hl:a.length=b.length
 ·have f:((a.length:Int)=(b.length:Int))=True:=eq_true (by omega)
  (repeat ((first | with_reducible refine W.step (b:=false) ?_ | skip);simp only [go_sem,↓reduceIte,Nat.reduceAdd,Nat.reduceSub,Nat.reduceMul,Nat.reduceEqDiff,Nat.reduceLeDiff,Nat.reduceLT,Int.reduceLE,Int.reduceLT,Int.reduceToNat,Int.reduceEq,f];try with_reducible refine drawn hmix (by kernel_rfl) ?_))
  refine W.loop (s1:=stL [(.sl a.length 1 (a.flatMap encN)),(.sl b.length 1 (b.flatMap encN)),.any,.any,(.g (.bool false)),(.g (.int .i64 ((0:Nat):Int))),.any,.any,.any,.any,.any,.any,.any,.any,.any,.any,.any,.any,.any,.any,.any,.any,.any,.any,.any,.any] [] 0)
   (fun (k:Nat) s=>k≤a.length∧a.take k=b.take k∧s=stL [(.sl a.length 1 (a.flatMap encN)),(.sl b.length 1 (b.flatMap encN)),.any,.any,(.g (.bool false)),(.g (.int .i64 (k:Int))),.any,.any,.any,.any,.any,.any,.any,.any,.any,.any,.any,.any,.any,.any,.any,.any,.any,.any,.any,.any] [] 0) (fun k=>a.length - k) 0 ⟨Nat.zero_le _,rfl,rfl⟩ (VS.tm (by simp [leL])) ?_
  rintro k t ⟨hk,he,rfl⟩
  by_cases hlt:k<a.length
  ·have hltb:k<b.length:=by omega
   have r0:=rowN hlt;have r1:=rowN hltb
   by_cases hx:a[k]=b[k]
   ·have fx:=eq_true hx
    (repeat ((first | with_reducible refine W.step (b:=false) ?_ | skip);simp only [go_sem,↓reduceIte,Nat.reduceAdd,Nat.reduceSub,Nat.reduceMul,Nat.reduceEqDiff,Nat.reduceLeDiff,Nat.reduceLT,Int.reduceLE,Int.reduceLT,Int.reduceToNat,Int.reduceEq,hlt,hltb,r0,r1,fx];try with_reducible refine drawn hmix (by kernel_rfl) ?_))
    refine ⟨k+1,_,⟨by omega,by rw [List.take_succ_eq_append_getElem hlt,List.take_succ_eq_append_getElem hltb,he,hx],rfl⟩,by show a.length - (k+1)<a.length - k;omega,VS.tm ?_⟩;rw [up1 (by omega)];simp [leL]
   ·(repeat ((first | with_reducible refine W.step (b:=false) ?_ | skip);simp only [go_sem,↓reduceIte,Nat.reduceAdd,Nat.reduceSub,Nat.reduceMul,Nat.reduceEqDiff,Nat.reduceLeDiff,Nat.reduceLT,Int.reduceLE,Int.reduceLT,Int.reduceToNat,Int.reduceEq,hlt,hltb,r0,r1,hx];try with_reducible refine drawn hmix (by kernel_rfl) ?_))
    have e:decide (a=b)=false:=decide_eq_false fun h=>hx (by subst h;rfl);rw [e];exact postP_one _ (.inr rfl) rfl (.plain rfl)
  ·(repeat ((first | with_reducible refine W.step (b:=false) ?_ | skip);simp only [go_sem,↓reduceIte,Nat.reduceAdd,Nat.reduceSub,Nat.reduceMul,Nat.reduceEqDiff,Nat.reduceLeDiff,Nat.reduceLT,Int.reduceLE,Int.reduceLT,Int.reduceToNat,Int.reduceEq,hlt];try with_reducible refine drawn hmix (by kernel_rfl) ?_))
   have e:decide (a=b)=true:=decide_eq_true (by
    obtain rfl:k=a.length:=by omega
    rw [List.take_length,hl,List.take_length] at he
    exact he)
   rw [e];exact postP_one _ (.inr rfl) rfl (.plain rfl)
 ·have f:((a.length:Int)=(b.length:Int))=False:=eq_false (by omega)
  (repeat ((first | with_reducible refine W.step (b:=false) ?_ | skip);simp only [go_sem,↓reduceIte,Nat.reduceAdd,Nat.reduceSub,Nat.reduceMul,Nat.reduceEqDiff,Nat.reduceLeDiff,Nat.reduceLT,Int.reduceLE,Int.reduceLT,Int.reduceToNat,Int.reduceEq,f];try with_reducible refine drawn hmix (by kernel_rfl) ?_))
  have e:decide (a=b)=false:=decide_eq_false fun h=>hl (by rw [h]);rw [e];exact postP_one _ (.inr rfl) rfl (.plain rfl)
def sameB (p q:B3):Bool:=decide (p.c=q.c)&&(decide (p.f=q.f)&&decide (p.g=q.g))
theorem sameB_iff (p q:B3):sameB p q=true↔p=q:=by
 obtain ⟨a,b,c⟩:=p;obtain ⟨x,y,z⟩:=q;unfold sameB;simp
set_option maxRecDepth 100000 in
set_option maxHeartbeats 4000000 in
theorem same18_p (p q:B3) (hp:szB p 1000000):PureN Tryz.prog gt0 90 [.agg (encB p),.agg (encB q)] (.g (.bool (sameB p q))):=by
 obtain ⟨h1,h2,h3⟩:=hp;have T1:=texts10_p p.c q.c h1;have T2:=texts10_p p.f q.f h2;have T3:=texts10_p p.g q.g h3;unfold sameB;unfold encB;clear h1 h2 h3;generalize decide (p.c=q.c)=b1 at *;generalize decide (p.f=q.f)=b2 at *;generalize decide (p.g=q.g)=b3 at *;refine PureN.of_w (c:=_) Tryz.func90 rfl (by kernel_rfl) rfl ?_;simp only [Tryz.f90,List.replicate,List.length_cons,List.length_nil,Nat.reduceAdd,Nat.reduceSub,List.cons_append,List.nil_append]
 (repeat ((first | with_reducible refine W.step (b:=false) ?_ | skip);simp only [go_sem,↓reduceIte,Nat.reduceAdd,Nat.reduceSub,Nat.reduceMul,Nat.reduceEqDiff,Nat.reduceLeDiff,Nat.reduceLT,Int.reduceLE,Int.reduceLT,Int.reduceToNat,Int.reduceEq];try with_reducible refine drawn hmix (by kernel_rfl) ?_))
 refine AtCall.mk T1 ?_;simp only [go_sem,↓reduceIte,Nat.reduceAdd,Nat.reduceSub,Nat.reduceMul,Nat.reduceEqDiff,Nat.reduceLeDiff,Nat.reduceLT,Int.reduceLE,Int.reduceLT,Int.reduceToNat,Int.reduceEq]
 cases b1
 ·(repeat ((first | with_reducible refine W.step (b:=false) ?_ | skip);simp only [go_sem,↓reduceIte,Nat.reduceAdd,Nat.reduceSub,Nat.reduceMul,Nat.reduceEqDiff,Nat.reduceLeDiff,Nat.reduceLT,Int.reduceLE,Int.reduceLT,Int.reduceToNat,Int.reduceEq];try with_reducible refine drawn hmix (by kernel_rfl) ?_))
  exact postP_one _ (.inr rfl) rfl (.plain rfl)
 ·(repeat ((first | with_reducible refine W.step (b:=false) ?_ | skip);simp only [go_sem,↓reduceIte,Nat.reduceAdd,Nat.reduceSub,Nat.reduceMul,Nat.reduceEqDiff,Nat.reduceLeDiff,Nat.reduceLT,Int.reduceLE,Int.reduceLT,Int.reduceToNat,Int.reduceEq];try with_reducible refine drawn hmix (by kernel_rfl) ?_))
  refine AtCall.mk T2 ?_;simp only [go_sem,↓reduceIte,Nat.reduceAdd,Nat.reduceSub,Nat.reduceMul,Nat.reduceEqDiff,Nat.reduceLeDiff,Nat.reduceLT,Int.reduceLE,Int.reduceLT,Int.reduceToNat,Int.reduceEq]
  cases b2
  ·(repeat ((first | with_reducible refine W.step (b:=false) ?_ | skip);simp only [go_sem,↓reduceIte,Nat.reduceAdd,Nat.reduceSub,Nat.reduceMul,Nat.reduceEqDiff,Nat.reduceLeDiff,Nat.reduceLT,Int.reduceLE,Int.reduceLT,Int.reduceToNat,Int.reduceEq];try with_reducible refine drawn hmix (by kernel_rfl) ?_))
   exact postP_one _ (.inr rfl) rfl (.plain rfl)
  ·(repeat ((first | with_reducible refine W.step (b:=false) ?_ | skip);simp only [go_sem,↓reduceIte,Nat.reduceAdd,Nat.reduceSub,Nat.reduceMul,Nat.reduceEqDiff,Nat.reduceLeDiff,Nat.reduceLT,Int.reduceLE,Int.reduceLT,Int.reduceToNat,Int.reduceEq];try with_reducible refine drawn hmix (by kernel_rfl) ?_))
   refine AtCall.mk T3 ?_
   (repeat ((first | with_reducible refine W.step (b:=false) ?_ | skip);simp only [go_sem,↓reduceIte,Nat.reduceAdd,Nat.reduceSub,Nat.reduceMul,Nat.reduceEqDiff,Nat.reduceLeDiff,Nat.reduceLT,Int.reduceLE,Int.reduceLT,Int.reduceToNat,Int.reduceEq];try with_reducible refine drawn hmix (by kernel_rfl) ?_))
   exact postP_one _ (.inr rfl) rfl (.plain rfl)
theorem ei_items:elemI Tryz.prog 46=some (8,144,true):=by kernel_rfl
theorem so_items:slOrStr (Tryz.prog.underlying 46)=true:=by kernel_rfl
attribute [go_sem] ei_items so_items
theorem encI_plain (x:Itm):∀ a∈encI x,plainA a=true:=by rw [encI_eq];simp [plainA]
theorem encI_cells (x:Itm):(encI x).all isCell=true:=by rw [encI_eq];rfl
theorem noIds_rows {α:Type} (enc:α→List AV) (h:∀ x,noIdsL (enc x)=true):∀ (l:List α),noIdsL (l.flatMap enc)=true
 | []=>by rw [List.flatMap_nil,noIdsL]
 | x::l=>by
   have app:∀ (a b:List AV),noIdsL a=true→noIdsL b=true→noIdsL (a++b)=true:=by
    intro a b ha hb
    induction a with
    | nil=>exact hb
    | cons c a ih =>
      simp only [noIdsL,Bool.and_eq_true] at ha;rw [List.cons_append,noIdsL,ha.1,ih ha.2];rfl
   rw [List.flatMap_cons];exact app _ _ (h x) (noIds_rows enc h l)
theorem encI_ids (x:Itm):noIdsL (encI x)=true:=by rw [encI_eq];rfl
theorem seal_I {b n:Nat} {l:List Itm} {m:ML} (hg:getL m b=some (.cells (l.flatMap encI))) (hn:n=l.length):SealTo m (.gs b 0 n 8 n) (.sl l.length 8 (l.flatMap encI)):=by
 subst hn;have h:=SealTo.gs (m:=m) (b:=b) (o:=0) (k:=l.length) (sz:=8) (c:=l.length) hg (by rw [row_len encI 8 encI_len];omega) (fun a ha=>row_plain encI encI_plain l a (List.mem_of_mem_take (by simpa using ha)))
 rwa [List.drop_zero,row_all encI 8 encI_len] at h
set_option maxRecDepth 100000 in
set_option maxHeartbeats 8000000 in
theorem all18_p (N:Nat):∀ (l:List Itm),SizeOf.sizeOf l≤N→okIs l→cntIs l≤1000→PureN Tryz.prog gt0 40 [.sl l.length 8 (l.flatMap encI)] (.sl (flatIs l).length 8 ((flatIs l).flatMap encI)):=by
 induction N with
 | zero=>intro l hl;cases l <;> simp at hl <;> omega
 | succ N ih =>
   intro l hl hok hcn;have hlen:=cntIs_len l;have hfl:=(flatIs_ok l hok).1;have IH:=fun k (hk:k<l.length)=>ih l[k].l (by have:=itm_lt (List.getElem_mem hk);omega) ((okI_eq _).1 (okIs_at hok _ (List.getElem_mem hk))).2.2.2.2;have HC:∀ k (hk:k<l.length),cntIs l[k].l≤1000:=fun k hk=>by
    have h1:=cntIs_snoc hk;have h2:=cntIs_append (l.take (k+1)) (l.drop (k+1));rw [List.take_append_drop] at h2;omega
   have HF:∀ k,(flatIs (l.take k)).length≤1000:=fun k=>by
    have h2:=flatIs_append (l.take k) (l.drop k);rw [List.take_append_drop] at h2;have:=congrArg List.length h2;rw [List.length_append] at this;omega
   clear ih hl;refine PureN.of_w (c:=_) Tryz.func40 rfl (by kernel_rfl) rfl ?_;simp only [Tryz.f40,List.replicate,List.length_cons,List.length_nil,Nat.reduceAdd,Nat.reduceSub,List.cons_append,List.nil_append]
   (repeat ((first | with_reducible refine W.step (b:=false) ?_ | skip);simp only [go_sem,↓reduceIte,Nat.reduceAdd,Nat.reduceSub,Nat.reduceMul,Nat.reduceEqDiff,Nat.reduceLeDiff,Nat.reduceLT,Int.reduceLE,Int.reduceLT,Int.reduceToNat,Int.reduceEq];try with_reducible refine drawn hmix (by kernel_rfl) ?_))
   refine W.loop (s1:=stL [(.sl l.length 8 (l.flatMap encI)),.any,.any,(.gs 0 0 0 8 0),(.g (.int .i64 ((0:Nat):Int))),.any,.any,.any,.any,.any,.any,.any,.any,.any,.any,.any,.any,.any,.any,.any,.any,.any,.any,.any,.any,.any,.any,.any,.any,.any,.any,.any,.any,.any,.any,.any,.any,.any,.any,.any,.any,.any] [(0,.cells [])] 1)
    (fun (k:Nat) t=>k≤l.length∧t=stL [(.sl l.length 8 (l.flatMap encI)),.any,.any,(.gs 0 0 (flatIs (l.take k)).length 8 (flatIs (l.take k)).length),(.g (.int .i64 (k:Int))),.any,.any,.any,.any,.any,.any,.any,.any,.any,.any,.any,.any,.any,.any,.any,.any,.any,.any,.any,.any,.any,.any,.any,.any,.any,.any,.any,.any,.any,.any,.any,.any,.any,.any,.any,.any,.any] [(0,.cells ((flatIs (l.take k)).flatMap encI))] 1) (fun k=>l.length - k) 0 ⟨Nat.zero_le _,by simp [flatIs]⟩ (VS.tm (by simp [leL])) ?_
   rintro k t ⟨hk,rfl⟩
   by_cases hlt:k<l.length
   ·obtain ⟨r0,r1⟩:=rowI hlt
    have r2:=flat_get encI 8 encI_len l k hlt;have r3:=r2 0 (by decide);have r4:=r2 7 (by decide);rw [encI_eq] at r0;rw [encI_eq] at r3 r4;simp only [List.getElem?_cons_zero,List.getElem?_cons_succ,Nat.add_zero] at r3 r4;have hsn:=flatIs_snoc hlt;rw [flatI_eq] at hsn;have hf1:=HF k;have hf2:=HF (k+1);have AK:=IH k hlt (HC k hlt);generalize flatIs (l.take k)=o at *;generalize flatIs l[k].l=y at *;have E1:(o.flatMap encI).length=o.length*8:=row_len encI 8 encI_len o;have E2:¬(o.length+1≤o.length):=by omega
    have E3:(o.length+1)*145≤17179869184:=by omega
    have hfin:IntKind.i64.wrap ((k:Int)+1)=((k+1:Nat):Int):=up1 (by omega)
    by_cases hk:l[k].kind=2∨l[k].kind=3
    ·rw [if_pos hk] at hsn
     have hyl:o.length+(y.length+1)≤1000:=by
      have:=congrArg List.length hsn;rw [List.length_append,List.length_cons] at this;omega
     have hx:(o++l[k]::y).flatMap encI=o.flatMap encI++[.g (.int .i64 l[k].kind),.sl l[k].sels.length 2 (l[k].sels.flatMap encC),.sl l[k].decls.length 3 (l[k].decls.flatMap encD),.sl l[k].names.length 1 (l[k].names.flatMap encN),.g (.int .i64 l[k].mn),.g (.int .i64 l[k].mx),.sl l[k].vals.length 5 (l[k].vals.flatMap encV),.sl l[k].l.length 8 (l[k].l.flatMap encI)]++y.flatMap encI:=by
      rw [List.flatMap_append,List.flatMap_cons,encI_eq l[k],List.append_assoc]
     have F1:=row_all encI 8 encI_len y;have F2:y.length*8≤(y.flatMap encI).length:=by rw [row_len encI 8 encI_len];exact Nat.le_refl _
     have F3:=row_cells encI encI_cells y;have E4:(o.flatMap encI++([.g (.int .i64 l[k].kind),.sl l[k].sels.length 2 (l[k].sels.flatMap encC),.sl l[k].decls.length 3 (l[k].decls.flatMap encD),.sl l[k].names.length 1 (l[k].names.flatMap encN),.g (.int .i64 l[k].mn),.g (.int .i64 l[k].mx),.sl l[k].vals.length 5 (l[k].vals.flatMap encV),.sl l[k].l.length 8 (l[k].l.flatMap encI)]:List AV)).length=(o.length+1)*8:=by rw [List.length_append,E1];simp only [List.length_cons,List.length_nil];omega
     have E6:(o.length+1+y.length)*145≤17179869184:=by omega
     have hol:o.length+1+y.length=(o++l[k]::y).length:=by rw [List.length_append,List.length_cons];omega
     obtain ⟨b2,e2⟩:∃ b,decide (l[k].kind=2)=b:=⟨_,rfl⟩;have e3:b2=false→decide (l[k].kind=3)=true:=fun h=>decide_eq_true (hk.resolve_left (of_decide_eq_false (e2.trans h)))
     cases b2
     ·have e3':=e3 rfl
      (repeat ((first | with_reducible refine W.step (b:=false) ?_ | skip);simp only [go_sem,↓reduceIte,Nat.reduceAdd,Nat.reduceSub,Nat.reduceMul,Nat.reduceEqDiff,Nat.reduceLeDiff,Nat.reduceLT,Int.reduceLE,Int.reduceLT,Int.reduceToNat,Int.reduceEq,hlt,r0,r1,r3,r4,e2,e3',E1,E2,E3];try with_reducible refine drawn hmix (by kernel_rfl) ?_))
      refine AtCall.mk AK ?_
      by_cases hy0:y.length=0
      ·obtain rfl:y=[]:=List.eq_nil_of_length_eq_zero hy0
       (repeat ((first | with_reducible refine W.step (b:=false) ?_ | skip);simp only [go_sem,↓reduceIte,Nat.reduceAdd,Nat.reduceSub,Nat.reduceMul,Nat.reduceEqDiff,Nat.reduceLeDiff,Nat.reduceLT,Int.reduceLE,Int.reduceLT,Int.reduceToNat,Int.reduceEq];try with_reducible refine drawn hmix (by kernel_rfl) ?_))
       refine ⟨k+1,_,⟨by omega,rfl⟩,by show l.length - (k+1)<l.length - k;omega,?_⟩;rw [hfin,hsn,←hol];exact VS.ren [(0,2)] (by simp) (by simp) (by simp) (by simp only [go_sem,↓reduceIte,Nat.reduceAdd,Nat.reduceSub,Nat.reduceMul,Nat.reduceEqDiff,Nat.reduceLeDiff,Nat.reduceLT,Int.reduceLE,Int.reduceLT,Int.reduceToNat,Int.reduceEq]) (reM_one rfl (by rw [hx,List.flatMap_nil,List.append_nil];rfl) (noIds_rows encI encI_ids _))
      ·have E5:¬(o.length+1+y.length≤o.length+1):=by omega
       (repeat ((first | with_reducible refine W.step (b:=false) ?_ | skip);simp only [go_sem,↓reduceIte,Nat.reduceAdd,Nat.reduceSub,Nat.reduceMul,Nat.reduceEqDiff,Nat.reduceLeDiff,Nat.reduceLT,Int.reduceLE,Int.reduceLT,Int.reduceToNat,Int.reduceEq,F1,F2,F3,hy0,E4,E5,E6];try with_reducible refine drawn hmix (by kernel_rfl) ?_))
       refine ⟨k+1,_,⟨by omega,rfl⟩,by show l.length - (k+1)<l.length - k;omega,?_⟩;rw [hfin,hsn,←hol];exact VS.ren [(0,3)] (by simp) (by simp) (by simp) (by simp only [go_sem,↓reduceIte,Nat.reduceAdd,Nat.reduceSub,Nat.reduceMul,Nat.reduceEqDiff,Nat.reduceLeDiff,Nat.reduceLT,Int.reduceLE,Int.reduceLT,Int.reduceToNat,Int.reduceEq]) (reM_one rfl (by rw [hx];rfl) (noIds_rows encI encI_ids _))
     ·(repeat ((first | with_reducible refine W.step (b:=false) ?_ | skip);simp only [go_sem,↓reduceIte,Nat.reduceAdd,Nat.reduceSub,Nat.reduceMul,Nat.reduceEqDiff,Nat.reduceLeDiff,Nat.reduceLT,Int.reduceLE,Int.reduceLT,Int.reduceToNat,Int.reduceEq,hlt,r0,r1,r3,r4,e2,E1,E2,E3];try with_reducible refine drawn hmix (by kernel_rfl) ?_))
      refine AtCall.mk AK ?_
      by_cases hy0:y.length=0
      ·obtain rfl:y=[]:=List.eq_nil_of_length_eq_zero hy0
       (repeat ((first | with_reducible refine W.step (b:=false) ?_ | skip);simp only [go_sem,↓reduceIte,Nat.reduceAdd,Nat.reduceSub,Nat.reduceMul,Nat.reduceEqDiff,Nat.reduceLeDiff,Nat.reduceLT,Int.reduceLE,Int.reduceLT,Int.reduceToNat,Int.reduceEq];try with_reducible refine drawn hmix (by kernel_rfl) ?_))
       refine ⟨k+1,_,⟨by omega,rfl⟩,by show l.length - (k+1)<l.length - k;omega,?_⟩;rw [hfin,hsn,←hol];exact VS.ren [(0,2)] (by simp) (by simp) (by simp) (by simp only [go_sem,↓reduceIte,Nat.reduceAdd,Nat.reduceSub,Nat.reduceMul,Nat.reduceEqDiff,Nat.reduceLeDiff,Nat.reduceLT,Int.reduceLE,Int.reduceLT,Int.reduceToNat,Int.reduceEq]) (reM_one rfl (by rw [hx,List.flatMap_nil,List.append_nil];rfl) (noIds_rows encI encI_ids _))
      ·have E5:¬(o.length+1+y.length≤o.length+1):=by omega
       (repeat ((first | with_reducible refine W.step (b:=false) ?_ | skip);simp only [go_sem,↓reduceIte,Nat.reduceAdd,Nat.reduceSub,Nat.reduceMul,Nat.reduceEqDiff,Nat.reduceLeDiff,Nat.reduceLT,Int.reduceLE,Int.reduceLT,Int.reduceToNat,Int.reduceEq,F1,F2,F3,hy0,E4,E5,E6];try with_reducible refine drawn hmix (by kernel_rfl) ?_))
       refine ⟨k+1,_,⟨by omega,rfl⟩,by show l.length - (k+1)<l.length - k;omega,?_⟩;rw [hfin,hsn,←hol];exact VS.ren [(0,3)] (by simp) (by simp) (by simp) (by simp only [go_sem,↓reduceIte,Nat.reduceAdd,Nat.reduceSub,Nat.reduceMul,Nat.reduceEqDiff,Nat.reduceLeDiff,Nat.reduceLT,Int.reduceLE,Int.reduceLT,Int.reduceToNat,Int.reduceEq]) (reM_one rfl (by rw [hx];rfl) (noIds_rows encI encI_ids _))
    ·rw [if_neg hk] at hsn
     have g2:(l[k].kind=2)=False:=eq_false fun h=>hk (.inl h);have g3:(l[k].kind=3)=False:=eq_false fun h=>hk (.inr h);have hx:(o++[l[k]]).flatMap encI=o.flatMap encI++[.g (.int .i64 l[k].kind),.sl l[k].sels.length 2 (l[k].sels.flatMap encC),.sl l[k].decls.length 3 (l[k].decls.flatMap encD),.sl l[k].names.length 1 (l[k].names.flatMap encN),.g (.int .i64 l[k].mn),.g (.int .i64 l[k].mx),.sl l[k].vals.length 5 (l[k].vals.flatMap encV),.sl l[k].l.length 8 (l[k].l.flatMap encI)]:=by
      rw [List.flatMap_append,List.flatMap_cons,encI_eq l[k],List.flatMap_nil,List.append_nil]
     (repeat ((first | with_reducible refine W.step (b:=false) ?_ | skip);simp only [go_sem,↓reduceIte,Nat.reduceAdd,Nat.reduceSub,Nat.reduceMul,Nat.reduceEqDiff,Nat.reduceLeDiff,Nat.reduceLT,Int.reduceLE,Int.reduceLT,Int.reduceToNat,Int.reduceEq,hlt,r0,r1,r3,r4,g2,g3,E1,E2,E3];try with_reducible refine drawn hmix (by kernel_rfl) ?_))
     refine ⟨k+1,_,⟨by omega,rfl⟩,by show l.length - (k+1)<l.length - k;omega,?_⟩;rw [hfin,hsn];exact VS.ren [(0,2)] (by simp) (by simp) (by simp) (by simp only [go_sem,↓reduceIte,Nat.reduceAdd,Nat.reduceSub,Nat.reduceMul,Nat.reduceEqDiff,Nat.reduceLeDiff,Nat.reduceLT,Int.reduceLE,Int.reduceLT,Int.reduceToNat,Int.reduceEq,List.length_append]) (reM_one rfl (by rw [hx];rfl) (noIds_rows encI encI_ids _))
   ·obtain rfl:k=l.length:=by omega
    (repeat ((first | with_reducible refine W.step (b:=false) ?_ | skip);simp only [go_sem,↓reduceIte,Nat.reduceAdd,Nat.reduceSub,Nat.reduceMul,Nat.reduceEqDiff,Nat.reduceLeDiff,Nat.reduceLT,Int.reduceLE,Int.reduceLT,Int.reduceToNat,Int.reduceEq,hlt];try with_reducible refine drawn hmix (by kernel_rfl) ?_))
    rw [List.take_length];exact postP_one _ (.inr rfl) rfl (seal_I rfl rfl)
end Go.Proofs.YtlnaihkombcbcaaGreat
namespace Go.Proofs.YtlnaihkombcbcaaGreat
open Go.RowKit Go.Ev Go.Sort
attribute [local go_sem] eq_self false_and and_false Bool.false_eq_true List.set_cons_succ List.set_cons_zero List.getD_cons_succ List.getD_cons_zero List.getElem?_cons_succ List.getElem?_cons_zero true_and and_true and_self Bool.not_true Bool.not_false Nat.add_zero Nat.zero_add Nat.mul_one Int.toNat_natCast Int.natCast_nonneg Int.ofNat_lt Option.bind_some Option.map_some List.map_cons List.map_nil decide_true decide_false BEq.rfl Bool.and_self Bool.and_true Bool.and_false beq_self_eq_true List.cons_append List.nil_append List.take_zero List.take_succ_cons List.take_nil List.drop_succ_cons List.drop_zero List.drop_nil List.append_nil List.length_cons List.length_nil List.all_cons List.all_nil Nat.le_refl Option.map_none List.replicate_zero List.replicate_succ Nat.zero_mul Nat.sub_zero Nat.zero_le Nat.le_zero_eq getR_nil Int.toNat_zero Int.natCast_zero Int.natCast_one Int.cast_ofNat_Int List.toList_toArray
def zeroI:Itm:=.mk 0 [] [] [] 0 0 [] []
def oneI (p:S3) (x:Itm):Itm:=(keepI p x).getD zeroI
theorem keep_kind {p:S3} {x y:Itm} (h:keepI p x=some y):y.kind=0↔x.kind=0:=by
 cases kp_of h with
 | same=>exact Iff.rfl
 | rule=>exact Iff.rfl
 | block=>exact Iff.rfl
 | layer h3=>exact ⟨fun e=>absurd (show (4:Int)=0 from e) (by omega),fun e=>by omega⟩
theorem keep_none {p:S3} {x:Itm} (h:keepI p x=none):x.kind≠0:=by
 intro e;rw [keepI_eq,if_neg (by omega),if_neg (by omega),if_neg (by omega),if_neg (by omega),if_neg (by omega)] at h
 cases h
theorem one_kept (p:S3) (x:Itm):((oneI p x).kind≠0∨x.kind=0)↔(keepI p x).isSome=true:=by
 unfold oneI
 cases h:keepI p x with
 | none=>exact ⟨fun e=>(e.elim (fun e=>(e rfl).elim) fun e=>(keep_none h e).elim),fun e=>by cases e⟩
 | some y =>
   refine ⟨fun _=>rfl,fun _=>?_⟩
   by_cases e:x.kind=0
   ·exact .inr e
   ·exact .inl fun e2=>e ((keep_kind h).1 e2)
theorem rowD3' {l:List Dl} {k:Nat} (hk:k<l.length):((l.flatMap encD).drop (k*3)).take 3=[.g (.string l[k].name),.sl l[k].l.length 5 (l[k].l.flatMap encV),.g (.bool l[k].imp)]∧k*3+3≤(l.flatMap encD).length:=by
 have rp:=row_part encD 3 encD_len l k hk 0 3 (by decide);rw [Nat.add_zero,List.drop_zero,List.take_of_length_le (l:=encD l[k]) (by rw [encD_len];decide)] at rp;exact ⟨rp,row_fit encD 3 encD_len l k hk (j:=0) (c:=3) (by decide)⟩
abbrev poolA (p:S3):AV:=.agg [stA p.c,stA p.f,stA p.g]
theorem wk_zero:wkL (encI zeroI) [.g (.int .i64 0),.g (.slice none 0 0),.g (.slice none 0 0),.g (.slice none 0 0),.g (.int .i64 0),.g (.int .i64 0),.g (.slice none 0 0),.g (.slice none 0 0)]:=by
 rw [encI_eq];exact wkL.cons (wkA.refl _) (wkL.cons (wkA.nil 2) (wkL.cons (wkA.nil 3) (wkL.cons (wkA.nil 1) (wkL.cons (wkA.refl _) (wkL.cons (wkA.refl _) (wkL.cons (wkA.nil 5) (wkL.cons (wkA.nil 8) (wkL.refl []))))))))
theorem wk_four (ns:List ByteArray):wkL (encI (.mk 4 [] [] ns 0 0 [] [])) [.g (.int .i64 4),.g (.slice none 0 0),.g (.slice none 0 0),.sl ns.length 1 (ns.flatMap encN),.g (.int .i64 0),.g (.int .i64 0),.g (.slice none 0 0),.g (.slice none 0 0)]:=by
 rw [encI_eq];exact wkL.cons (wkA.refl _) (wkL.cons (wkA.nil 2) (wkL.cons (wkA.nil 3) (wkL.cons (wkA.refl _) (wkL.cons (wkA.refl _) (wkL.cons (wkA.refl _) (wkL.cons (wkA.nil 5) (wkL.cons (wkA.nil 8) (wkL.refl []))))))))
theorem bl_item (parts:List (Nat×AV)):evBuild Tryz.prog 53 parts=aggM (fillL [(0,1),(1,1),(2,1),(3,1),(4,1),(5,1),(6,1),(7,1)] [.g (.int .i64 0),.g (.slice none 0 0),.g (.slice none 0 0),.g (.slice none 0 0),.g (.int .i64 0),.g (.int .i64 0),.g (.slice none 0 0),.g (.slice none 0 0)] parts):=evBuild_eq (by kernel_rfl) parts
attribute [go_sem] bl_item
theorem encD_plain (x:Dl):∀ a∈encD x,plainA a=true:=by cases x;simp [encD,plainA]
theorem encD_ids (x:Dl):noIdsL (encD x)=true:=by cases x;rfl
theorem ei_decls:elemI Tryz.prog 51=some (3,48,true):=by kernel_rfl
theorem so_decls:slOrStr (Tryz.prog.underlying 51)=true:=by kernel_rfl
attribute [go_sem] ei_decls so_decls
set_option maxRecDepth 100000 in
set_option maxHeartbeats 8000000 in
theorem one18_p (p:S3) (hp:smallP p) (x:Itm) (hx:okX x)
 (HD:PureN Tryz.prog gt0 29 [poolA p,.sl x.l.length 8 (x.l.flatMap encI)] (.sl (dropIs p x.l).length 8 ((dropIs p x.l).flatMap encI))) :
 PureN Tryz.prog gt0 81 [poolA p,.agg (encI x)] (.agg (encI (oneI p x))):=by
 obtain ⟨hp1,hp2,hp3⟩:=hp;have i1:=in11_p (p.c.map bs);have i2:=in11_p (p.f.map bs);have i3:=in11_p (p.g.map bs);have l1:(p.c.map bs).length≤1000000:=by rw [List.length_map];exact hp1
 have l2:(p.f.map bs).length≤1000000:=by rw [List.length_map];exact hp2
 have l3:(p.g.map bs).length≤1000000:=by rw [List.length_map];exact hp3
 have IC:=fun x=>i1 x l1;have IF:=fun x=>i2 x l2;have IG:=fun x=>i3 x l3;simp only [inA_str] at IC IF IG;clear i1 i2 i3 l1 l2 l3;obtain ⟨⟨d1,d2⟩,-,-,-⟩:=hx;have dl:∀ d∈x.decls,d.l.length≤1000:=fun d hd=>by have:=(d2 d hd).1;have:=cntVs_len d.l;omega
 have hK:=keepI_eq p x;rw [encI_eq x];unfold poolA stA at *;unfold oneI;refine PureN.of_w2 (c:=_) Tryz.func81 rfl (by kernel_rfl) rfl ?_;simp only [Tryz.f81,List.replicate,List.length_cons,List.length_nil,Nat.reduceAdd,Nat.reduceSub,List.cons_append,List.nil_append];generalize (p.c.map bs).flatMap encN=PC at *;generalize (p.f.map bs).flatMap encN=PF at *;generalize (p.g.map bs).flatMap encN=PG at *;generalize (p.c.map bs).length=NC at *;generalize (p.f.map bs).length=NF at *;generalize (p.g.map bs).length=NG at *;have ZE:∀ {l:List AV} {m:ML} {n:Nat},l.getD 4 .any=.ptr 2 0→getL m 2=some (.cells [.g (.int .i64 0),.g (.slice none 0 0),.g (.slice none 0 0),.g (.slice none 0 0),.g (.int .i64 0),.g (.int .i64 0),.g (.slice none 0 0),.g (.slice none 0 0)])→postV Tryz.prog gt0 [.cell 4 53] (.agg (encI zeroI)) .ret (stL l m n):=fun {l m n} hl hm=>by
  refine ⟨.inr rfl,stL l [(2,.cells (encI zeroI))] n,VS.weak (wkL.refl _) ⟨.inr ⟨_,_,rfl,hm,wk_zero⟩,trivial⟩,postP_one _ (.inr rfl) ?_ (SealTo.agg (encI_plain _))⟩;simp only [resV,hl,go_sem,↓reduceIte,Nat.reduceAdd,Nat.reduceSub,Nat.reduceMul,Nat.reduceEqDiff,Nat.reduceLeDiff,Nat.reduceLT,Int.reduceLE,Int.reduceLT,Int.reduceToNat,Int.reduceEq,encI_eq]
 have SE:∀ {l:List AV} {m:ML} {n:Nat} {y:Itm},l.getD 4 .any=.ptr 2 0→getL m 2=some (.cells (encI y))→postV Tryz.prog gt0 [.cell 4 53] (.agg (encI y)) .ret (stL l m n):=fun {l m n y} hl hm=>by
  refine postV.of (postP_one _ (.inr rfl) ?_ (SealTo.agg (encI_plain _)));simp only [resV,hl,hm,go_sem,↓reduceIte,Nat.reduceAdd,Nat.reduceSub,Nat.reduceMul,Nat.reduceEqDiff,Nat.reduceLeDiff,Nat.reduceLT,Int.reduceLE,Int.reduceLT,Int.reduceToNat,Int.reduceEq,encI_eq]
 by_cases h1:x.kind=1
 ·have f1:=eq_true h1
  rw [if_pos h1] at hK
  (repeat ((first | with_reducible refine W.step (b:=false) ?_ | skip);simp only [go_sem,↓reduceIte,Nat.reduceAdd,Nat.reduceSub,Nat.reduceMul,Nat.reduceEqDiff,Nat.reduceLeDiff,Nat.reduceLT,Int.reduceLE,Int.reduceLT,Int.reduceToNat,Int.reduceEq,f1];try with_reducible refine drawn hmix (by kernel_rfl) ?_))
  refine W.after 1 (fun _:Unit=>True) (fun _=>stL [.any,.any,(.ptr 0 0),(.ptr 1 0),(.ptr 2 0),(.ptr 3 0),(.sl (x.decls.filter (kpD p.c)).length 3 ((x.decls.filter (kpD p.c)).flatMap encD)),.any,.any,.any,.any,.any,.any,.any,.any,.any,.any,.any,.any,.any,.any,.any,.any,.any,.any,.any,.any,.any,.any,.any,.any,.any,.any,.any,.any,.any,.any,.any,.any,.any,.any,.any,.any,.any,.any,.any,.any,.any,.any,.any,.any,.any,.any,.any,.any,.any,.any,.any,.any,.any,.any,.any,.any,.any,.any,.any,.any,.any,.any,.any,.any,.any,.any,.any,.any,.any,.any,.any,.any,.any,.any,.any,.any,.any,.any,.any,.any,.any,.any,.any,.any,.any,.any,.any,.any,.any,.any,.any,.any,.any,.any,.any,.any,.any,.any,.any,.any,.any,.any,.any,.any,.any,.any,.any,.any,.any,.any] [(3,.cells [.g (.int .i64 0),.g (.slice none 0 0),.g (.slice none 0 0),.g (.slice none 0 0),.g (.int .i64 0),.g (.int .i64 0),.g (.slice none 0 0),.g (.slice none 0 0)]),(2,.cells [.g (.int .i64 0),.g (.slice none 0 0),.g (.slice none 0 0),.g (.slice none 0 0),.g (.int .i64 0),.g (.int .i64 0),.g (.slice none 0 0),.g (.slice none 0 0)]),(1,.cells [.g (.int .i64 x.kind),.sl x.sels.length 2 (x.sels.flatMap encC),.sl x.decls.length 3 (x.decls.flatMap encD),.sl x.names.length 1 (x.names.flatMap encN),.g (.int .i64 x.mn),.g (.int .i64 x.mx),.sl x.vals.length 5 (x.vals.flatMap encV),.sl x.l.length 8 (x.l.flatMap encI)]),(0,.cells [.sl NC 1 PC,.sl NF 1 PF,.sl NG 1 PG])] 5) ?_ ?_
  ·refine W.loop (s1:=stL [.any,.any,(.ptr 0 0),(.ptr 1 0),(.ptr 2 0),(.ptr 3 0),(.gs 4 0 0 3 0),(.g (.int .i64 ((0:Nat):Int))),.any,.any,.any,.any,.any,.any,.any,.any,.any,.any,.any,.any,.any,.any,.any,.any,.any,.any,.any,.any,.any,.any,.any,.any,.any,.any,.any,.any,.any,.any,.any,.any,.any,.any,.any,.any,.any,.any,.any,.any,.any,.any,.any,.any,.any,.any,.any,.any,.any,.any,.any,.any,.any,.any,.any,.any,.any,.any,.any,.any,.any,.any,.any,.any,.any,.any,.any,.any,.any,.any,.any,.any,.any,.any,.any,.any,.any,.any,.any,.any,.any,.any,.any,.any,.any,.any,.any,.any,.any,.any,.any,.any,.any,.any,.any,.any,.any,.any,.any,.any,.any,.any,.any,.any,.any,.any,.any,.any,.any] [(4,.cells []),(3,.cells [.g (.int .i64 0),.g (.slice none 0 0),.g (.slice none 0 0),.g (.slice none 0 0),.g (.int .i64 0),.g (.int .i64 0),.g (.slice none 0 0),.g (.slice none 0 0)]),(2,.cells [.g (.int .i64 0),.g (.slice none 0 0),.g (.slice none 0 0),.g (.slice none 0 0),.g (.int .i64 0),.g (.int .i64 0),.g (.slice none 0 0),.g (.slice none 0 0)]),(1,.cells [.g (.int .i64 x.kind),.sl x.sels.length 2 (x.sels.flatMap encC),.sl x.decls.length 3 (x.decls.flatMap encD),.sl x.names.length 1 (x.names.flatMap encN),.g (.int .i64 x.mn),.g (.int .i64 x.mx),.sl x.vals.length 5 (x.vals.flatMap encV),.sl x.l.length 8 (x.l.flatMap encI)]),(0,.cells [.sl NC 1 PC,.sl NF 1 PF,.sl NG 1 PG])] 5)
    (fun (k:Nat) t=>k≤x.decls.length∧t=stL [.any,.any,(.ptr 0 0),(.ptr 1 0),(.ptr 2 0),(.ptr 3 0),(.gs 4 0 ((x.decls.take k).filter (kpD p.c)).length 3 ((x.decls.take k).filter (kpD p.c)).length),(.g (.int .i64 (k:Int))),.any,.any,.any,.any,.any,.any,.any,.any,.any,.any,.any,.any,.any,.any,.any,.any,.any,.any,.any,.any,.any,.any,.any,.any,.any,.any,.any,.any,.any,.any,.any,.any,.any,.any,.any,.any,.any,.any,.any,.any,.any,.any,.any,.any,.any,.any,.any,.any,.any,.any,.any,.any,.any,.any,.any,.any,.any,.any,.any,.any,.any,.any,.any,.any,.any,.any,.any,.any,.any,.any,.any,.any,.any,.any,.any,.any,.any,.any,.any,.any,.any,.any,.any,.any,.any,.any,.any,.any,.any,.any,.any,.any,.any,.any,.any,.any,.any,.any,.any,.any,.any,.any,.any,.any,.any,.any,.any,.any,.any] [(4,.cells (((x.decls.take k).filter (kpD p.c)).flatMap encD)),(3,.cells [.g (.int .i64 0),.g (.slice none 0 0),.g (.slice none 0 0),.g (.slice none 0 0),.g (.int .i64 0),.g (.int .i64 0),.g (.slice none 0 0),.g (.slice none 0 0)]),(2,.cells [.g (.int .i64 0),.g (.slice none 0 0),.g (.slice none 0 0),.g (.slice none 0 0),.g (.int .i64 0),.g (.int .i64 0),.g (.slice none 0 0),.g (.slice none 0 0)]),(1,.cells [.g (.int .i64 x.kind),.sl x.sels.length 2 (x.sels.flatMap encC),.sl x.decls.length 3 (x.decls.flatMap encD),.sl x.names.length 1 (x.names.flatMap encN),.g (.int .i64 x.mn),.g (.int .i64 x.mx),.sl x.vals.length 5 (x.vals.flatMap encV),.sl x.l.length 8 (x.l.flatMap encI)]),(0,.cells [.sl NC 1 PC,.sl NF 1 PF,.sl NG 1 PG])] 5) (fun k=>x.decls.length - k) 0 ⟨Nat.zero_le _,rfl⟩ (VS.tm (by simp [leL])) ?_
   rintro k t ⟨hk,rfl⟩
   by_cases hlt:k<x.decls.length
   ·obtain ⟨q0,q1⟩:=rowD3' hlt
    obtain ⟨r0,r1,r2⟩:=rowD hlt;have hfl:(x.decls.take (k+1)).filter (kpD p.c)=(x.decls.take k).filter (kpD p.c)++if kpD p.c x.decls[k]=true then [x.decls[k]] else []:=by
     rw [List.take_succ_eq_append_getElem hlt,List.filter_append]
     congr 1
     by_cases hd:kpD p.c x.decls[k]=true
     ·rw [if_pos hd,List.filter_cons_of_pos hd];rfl
     ·rw [if_neg hd,List.filter_cons_of_neg hd];rfl
    have hol:((x.decls.take k).filter (kpD p.c)).length≤20:=Nat.le_trans (List.length_filter_le _ _) (by rw [List.length_take];omega);have hkp:kpD p.c x.decls[k]=!(customB x.decls[k].name&&!p.c.contains (sOf x.decls[k].name)):=rfl;have hfin:IntKind.i64.wrap ((k:Int)+1)=((k+1:Nat):Int):=up1 (by omega);generalize (x.decls.take k).filter (kpD p.c)=o at *;have E1:(o.flatMap encD).length=o.length*3:=row_len encD 3 encD_len o;have E2:¬(o.length+1≤o.length):=by omega
    have E3:(o.length+1)*49≤17179869184:=by omega
    (repeat ((first | with_reducible refine W.step (b:=false) ?_ | skip);simp only [go_sem,↓reduceIte,Nat.reduceAdd,Nat.reduceSub,Nat.reduceMul,Nat.reduceEqDiff,Nat.reduceLeDiff,Nat.reduceLT,Int.reduceLE,Int.reduceLT,Int.reduceToNat,Int.reduceEq,hlt,r0];try with_reducible refine drawn hmix (by kernel_rfl) ?_))
    refine AtCallQ.mk (custom7_p x.decls[k].name) ?_;obtain ⟨cb,hc⟩:∃ cb,customB x.decls[k].name=cb:=⟨_,rfl⟩;rw [hc] at hkp ⊢
    cases cb
    ·have hkt:kpD p.c x.decls[k]=true:=by rw [hkp];rfl
     rw [if_pos hkt] at hfl
     (repeat ((first | with_reducible refine W.step (b:=false) ?_ | skip);simp only [go_sem,↓reduceIte,Nat.reduceAdd,Nat.reduceSub,Nat.reduceMul,Nat.reduceEqDiff,Nat.reduceLeDiff,Nat.reduceLT,Int.reduceLE,Int.reduceLT,Int.reduceToNat,Int.reduceEq,hlt,q0,q1,E1,E2,E3];try with_reducible refine drawn hmix (by kernel_rfl) ?_))
     refine ⟨k+1,_,⟨by omega,rfl⟩,by show x.decls.length - (k+1)<x.decls.length - k;omega,?_⟩;rw [hfin,hfl];exact VS.ren [(0,0),(1,1),(2,2),(3,3),(4,6)] (by simp) (by simp) (by simp) (by simp only [go_sem,↓reduceIte,Nat.reduceAdd,Nat.reduceSub,Nat.reduceMul,Nat.reduceEqDiff,Nat.reduceLeDiff,Nat.reduceLT,Int.reduceLE,Int.reduceLT,Int.reduceToNat,Int.reduceEq,List.length_append]) ⟨⟨6,_,rfl,by rw [List.flatMap_append];rfl,_,rfl,.inl ⟨rfl,noIds_rows encD encD_ids _⟩⟩,⟨3,_,rfl,rfl,_,rfl,.inl ⟨rfl,rfl⟩⟩,⟨2,_,rfl,rfl,_,rfl,.inl ⟨rfl,rfl⟩⟩,⟨1,_,rfl,rfl,_,rfl,.inl ⟨rfl,rfl⟩⟩,⟨0,_,rfl,rfl,_,rfl,.inl ⟨rfl,rfl⟩⟩,trivial⟩
    ·simp only [go_sem,↓reduceIte,Nat.reduceAdd,Nat.reduceSub,Nat.reduceMul,Nat.reduceEqDiff,Nat.reduceLeDiff,Nat.reduceLT,Int.reduceLE,Int.reduceLT,Int.reduceToNat,Int.reduceEq,hlt,r0]
     refine AtCallQ.mk (IC x.decls[k].name) ?_;obtain ⟨ib,hi⟩:∃ ib,p.c.contains (sOf x.decls[k].name)=ib:=⟨_,rfl⟩;rw [hi] at hkp ⊢
     cases ib
     ·have hkt:¬kpD p.c x.decls[k]=true:=by rw [hkp];decide
      rw [if_neg hkt,List.append_nil] at hfl
      (repeat ((first | with_reducible refine W.step (b:=false) ?_ | skip);simp only [go_sem,↓reduceIte,Nat.reduceAdd,Nat.reduceSub,Nat.reduceMul,Nat.reduceEqDiff,Nat.reduceLeDiff,Nat.reduceLT,Int.reduceLE,Int.reduceLT,Int.reduceToNat,Int.reduceEq];try with_reducible refine drawn hmix (by kernel_rfl) ?_))
      refine ⟨k+1,_,⟨by omega,rfl⟩,by show x.decls.length - (k+1)<x.decls.length - k;omega,?_⟩;rw [hfin,hfl];exact VS.tm (by simp only [go_sem,↓reduceIte,Nat.reduceAdd,Nat.reduceSub,Nat.reduceMul,Nat.reduceEqDiff,Nat.reduceLeDiff,Nat.reduceLT,Int.reduceLE,Int.reduceLT,Int.reduceToNat,Int.reduceEq,or_true,true_or])
     ·have hkt:kpD p.c x.decls[k]=true:=by rw [hkp];rfl
      rw [if_pos hkt] at hfl
      (repeat ((first | with_reducible refine W.step (b:=false) ?_ | skip);simp only [go_sem,↓reduceIte,Nat.reduceAdd,Nat.reduceSub,Nat.reduceMul,Nat.reduceEqDiff,Nat.reduceLeDiff,Nat.reduceLT,Int.reduceLE,Int.reduceLT,Int.reduceToNat,Int.reduceEq,hlt,q0,q1,E1,E2,E3];try with_reducible refine drawn hmix (by kernel_rfl) ?_))
      refine ⟨k+1,_,⟨by omega,rfl⟩,by show x.decls.length - (k+1)<x.decls.length - k;omega,?_⟩;rw [hfin,hfl];exact VS.ren [(0,0),(1,1),(2,2),(3,3),(4,6)] (by simp) (by simp) (by simp) (by simp only [go_sem,↓reduceIte,Nat.reduceAdd,Nat.reduceSub,Nat.reduceMul,Nat.reduceEqDiff,Nat.reduceLeDiff,Nat.reduceLT,Int.reduceLE,Int.reduceLT,Int.reduceToNat,Int.reduceEq,List.length_append]) ⟨⟨6,_,rfl,by rw [List.flatMap_append];rfl,_,rfl,.inl ⟨rfl,noIds_rows encD encD_ids _⟩⟩,⟨3,_,rfl,rfl,_,rfl,.inl ⟨rfl,rfl⟩⟩,⟨2,_,rfl,rfl,_,rfl,.inl ⟨rfl,rfl⟩⟩,⟨1,_,rfl,rfl,_,rfl,.inl ⟨rfl,rfl⟩⟩,⟨0,_,rfl,rfl,_,rfl,.inl ⟨rfl,rfl⟩⟩,trivial⟩
   ·obtain rfl:k=x.decls.length:=by omega
    rw [List.take_length]
    (repeat ((first | with_reducible refine W.step (b:=false) ?_ | skip);simp only [go_sem,↓reduceIte,Nat.reduceAdd,Nat.reduceSub,Nat.reduceMul,Nat.reduceEqDiff,Nat.reduceLeDiff,Nat.reduceLT,Int.reduceLE,Int.reduceLT,Int.reduceToNat,Int.reduceEq,hlt];try with_reducible refine drawn hmix (by kernel_rfl) ?_))
    refine ⟨rfl,(),trivial,VS.sealT 4 _ rfl (row_plain encD encD_plain _) ?_ ⟨⟨by decide,.inl rfl⟩,⟨by decide,.inl rfl⟩,⟨by decide,.inl rfl⟩,⟨by decide,.inl rfl⟩,trivial⟩⟩;simp only [frL_cons,frL_nil,frA_any,frA_self,and_true,true_and];exact .inr (.inr ⟨0,_,3,_,rfl,by rw [List.drop_zero,row_all encD 3 encD_len],by rw [row_len encD 3 encD_len];omega⟩)
  ·rintro ⟨⟩ s - hv
   simp only [go_sem,↓reduceIte,Nat.reduceAdd,Nat.reduceSub,Nat.reduceMul,Nat.reduceEqDiff,Nat.reduceLeDiff,Nat.reduceLT,Int.reduceLE,Int.reduceLT,Int.reduceToNat,Int.reduceEq];refine W.vs hv ?_;clear hv
   by_cases hz:(x.decls.filter (kpD p.c)).length=0
   ·rw [if_pos hz] at hK
    rw [hK];have fz:(((x.decls.filter (kpD p.c)).length:Int)=0)=True:=eq_true (by omega)
    (repeat ((first | with_reducible refine W.step (b:=false) ?_ | skip);simp only [go_sem,↓reduceIte,Nat.reduceAdd,Nat.reduceSub,Nat.reduceMul,Nat.reduceEqDiff,Nat.reduceLeDiff,Nat.reduceLT,Int.reduceLE,Int.reduceLT,Int.reduceToNat,Int.reduceEq,fz];try with_reducible refine drawn hmix (by kernel_rfl) ?_))
    exact ZE rfl rfl
   ·rw [if_neg hz] at hK
    rw [hK];have fz:(((x.decls.filter (kpD p.c)).length:Int)=0)=False:=eq_false (by omega)
    (repeat ((first | with_reducible refine W.step (b:=false) ?_ | skip);simp only [go_sem,↓reduceIte,Nat.reduceAdd,Nat.reduceSub,Nat.reduceMul,Nat.reduceEqDiff,Nat.reduceLeDiff,Nat.reduceLT,Int.reduceLE,Int.reduceLT,Int.reduceToNat,Int.reduceEq,fz];try with_reducible refine drawn hmix (by kernel_rfl) ?_))
    exact SE rfl (by rw [encI_eq];rfl)
 ·rw [if_neg h1] at hK
  by_cases h2:x.kind=2
  ·have f2:=eq_true h2
   rw [if_pos h2] at hK
   (repeat ((first | with_reducible refine W.step (b:=false) ?_ | skip);simp only [go_sem,↓reduceIte,Nat.reduceAdd,Nat.reduceSub,Nat.reduceMul,Nat.reduceEqDiff,Nat.reduceLeDiff,Nat.reduceLT,Int.reduceLE,Int.reduceLT,Int.reduceToNat,Int.reduceEq,h1,f2];try with_reducible refine drawn hmix (by kernel_rfl) ?_))
   refine AtCall.mk HD ?_
   by_cases hz:(dropIs p x.l).length=0
   ·rw [if_pos hz] at hK
    rw [hK];have fz:(((dropIs p x.l).length:Int)=0)=True:=eq_true (by omega)
    (repeat ((first | with_reducible refine W.step (b:=false) ?_ | skip);simp only [go_sem,↓reduceIte,Nat.reduceAdd,Nat.reduceSub,Nat.reduceMul,Nat.reduceEqDiff,Nat.reduceLeDiff,Nat.reduceLT,Int.reduceLE,Int.reduceLT,Int.reduceToNat,Int.reduceEq,fz];try with_reducible refine drawn hmix (by kernel_rfl) ?_))
    exact ZE rfl rfl
   ·rw [if_neg hz] at hK
    rw [hK];have fz:(((dropIs p x.l).length:Int)=0)=False:=eq_false (by omega)
    (repeat ((first | with_reducible refine W.step (b:=false) ?_ | skip);simp only [go_sem,↓reduceIte,Nat.reduceAdd,Nat.reduceSub,Nat.reduceMul,Nat.reduceEqDiff,Nat.reduceLeDiff,Nat.reduceLT,Int.reduceLE,Int.reduceLT,Int.reduceToNat,Int.reduceEq,fz];try with_reducible refine drawn hmix (by kernel_rfl) ?_))
    exact SE rfl (by rw [encI_eq];rfl)
  ·rw [if_neg h2] at hK
   by_cases h3:x.kind=3
   ·have f3:=eq_true h3
    rw [if_pos h3] at hK
    (repeat ((first | with_reducible refine W.step (b:=false) ?_ | skip);simp only [go_sem,↓reduceIte,Nat.reduceAdd,Nat.reduceSub,Nat.reduceMul,Nat.reduceEqDiff,Nat.reduceLeDiff,Nat.reduceLT,Int.reduceLE,Int.reduceLT,Int.reduceToNat,Int.reduceEq,h1,h2,f3];try with_reducible refine drawn hmix (by kernel_rfl) ?_))
    refine AtCall.mk HD ?_
    by_cases hz:(dropIs p x.l).length=0
    ·rw [if_pos hz] at hK
     rw [hK];have fz:(((dropIs p x.l).length:Int)=0)=True:=eq_true (by omega)
     (repeat ((first | with_reducible refine W.step (b:=false) ?_ | skip);simp only [go_sem,↓reduceIte,Nat.reduceAdd,Nat.reduceSub,Nat.reduceMul,Nat.reduceEqDiff,Nat.reduceLeDiff,Nat.reduceLT,Int.reduceLE,Int.reduceLT,Int.reduceToNat,Int.reduceEq,fz];try with_reducible refine drawn hmix (by kernel_rfl) ?_))
     refine ⟨.inr rfl,stL _ [(2,.cells (encI (.mk 4 [] [] x.names 0 0 [] [])))] _,VS.weak (wkL.refl _) ⟨.inr ⟨_,_,rfl,rfl,wk_four _⟩,trivial⟩,postP_one _ (.inr rfl) ?_ (SealTo.agg (encI_plain _))⟩;simp only [resV,go_sem,↓reduceIte,Nat.reduceAdd,Nat.reduceSub,Nat.reduceMul,Nat.reduceEqDiff,Nat.reduceLeDiff,Nat.reduceLT,Int.reduceLE,Int.reduceLT,Int.reduceToNat,Int.reduceEq,encI_eq]
     rfl
    ·rw [if_neg hz] at hK
     rw [hK];have fz:(((dropIs p x.l).length:Int)=0)=False:=eq_false (by omega)
     (repeat ((first | with_reducible refine W.step (b:=false) ?_ | skip);simp only [go_sem,↓reduceIte,Nat.reduceAdd,Nat.reduceSub,Nat.reduceMul,Nat.reduceEqDiff,Nat.reduceLeDiff,Nat.reduceLT,Int.reduceLE,Int.reduceLT,Int.reduceToNat,Int.reduceEq,fz];try with_reducible refine drawn hmix (by kernel_rfl) ?_))
     exact SE rfl (by rw [encI_eq];rfl)
   ·rw [if_neg h3] at hK
    by_cases h5:x.kind=5
    ·have f5:=eq_true h5
     rw [if_pos h5] at hK;obtain ⟨ns,hns⟩:∃ ns,x.names=ns:=⟨_,rfl⟩;rw [hns] at hK ⊢
     match ns with
     | [] =>
       rw [if_pos (show kpF p.f []=true from rfl)] at hK;rw [hK,Option.getD_some]
       (repeat ((first | with_reducible refine W.step (b:=false) ?_ | skip);simp only [go_sem,↓reduceIte,Nat.reduceAdd,Nat.reduceSub,Nat.reduceMul,Nat.reduceEqDiff,Nat.reduceLeDiff,Nat.reduceLT,Int.reduceLE,Int.reduceLT,Int.reduceToNat,Int.reduceEq,h1,h2,h3,f5];try with_reducible refine drawn hmix (by kernel_rfl) ?_))
       exact SE rfl (by rw [encI_eq,hns];rfl)
     | n::m::r =>
       rw [if_pos (show kpF p.f (n::m::r)=true from rfl)] at hK;rw [hK,Option.getD_some];have g1:(((r.length+1+1:Nat):Int)=1)=False:=eq_false (by omega)
       (repeat ((first | with_reducible refine W.step (b:=false) ?_ | skip);simp only [go_sem,↓reduceIte,Nat.reduceAdd,Nat.reduceSub,Nat.reduceMul,Nat.reduceEqDiff,Nat.reduceLeDiff,Nat.reduceLT,Int.reduceLE,Int.reduceLT,Int.reduceToNat,Int.reduceEq,h1,h2,h3,f5,g1];try with_reducible refine drawn hmix (by kernel_rfl) ?_))
       exact SE rfl (by rw [encI_eq,hns];rfl)
     | [n] =>
       have g0:[n].flatMap encN=[.g (.string n)]:=Eq.trans rfl rfl
       (repeat ((first | with_reducible refine W.step (b:=false) ?_ | skip);simp only [go_sem,↓reduceIte,Nat.reduceAdd,Nat.reduceSub,Nat.reduceMul,Nat.reduceEqDiff,Nat.reduceLeDiff,Nat.reduceLT,Int.reduceLE,Int.reduceLT,Int.reduceToNat,Int.reduceEq,h1,h2,h3,f5,g0];try with_reducible refine drawn hmix (by kernel_rfl) ?_))
       refine AtCallQ.mk (IF n) ?_;obtain ⟨ib,hi⟩:∃ ib,p.f.contains (sOf n)=ib:=⟨_,rfl⟩;have hkf:kpF p.f [n]=ib:=hi;rw [hi];rw [hkf] at hK
       cases ib
       ·rw [if_neg (by decide)] at hK
        rw [hK,Option.getD_none]
        (repeat ((first | with_reducible refine W.step (b:=false) ?_ | skip);simp only [go_sem,↓reduceIte,Nat.reduceAdd,Nat.reduceSub,Nat.reduceMul,Nat.reduceEqDiff,Nat.reduceLeDiff,Nat.reduceLT,Int.reduceLE,Int.reduceLT,Int.reduceToNat,Int.reduceEq];try with_reducible refine drawn hmix (by kernel_rfl) ?_))
        exact ZE rfl rfl
       ·rw [if_pos rfl] at hK
        rw [hK,Option.getD_some]
        (repeat ((first | with_reducible refine W.step (b:=false) ?_ | skip);simp only [go_sem,↓reduceIte,Nat.reduceAdd,Nat.reduceSub,Nat.reduceMul,Nat.reduceEqDiff,Nat.reduceLeDiff,Nat.reduceLT,Int.reduceLE,Int.reduceLT,Int.reduceToNat,Int.reduceEq];try with_reducible refine drawn hmix (by kernel_rfl) ?_))
        exact SE rfl (by rw [encI_eq,hns];rfl)
    ·rw [if_neg h5] at hK
     by_cases h6:x.kind=6
     ·have f6:=eq_true h6
      rw [if_pos h6] at hK
      (repeat ((first | with_reducible refine W.step (b:=false) ?_ | skip);simp only [go_sem,↓reduceIte,Nat.reduceAdd,Nat.reduceSub,Nat.reduceMul,Nat.reduceEqDiff,Nat.reduceLeDiff,Nat.reduceLT,Int.reduceLE,Int.reduceLT,Int.reduceToNat,Int.reduceEq,h1,h2,h3,h5,f6];try with_reducible refine drawn hmix (by kernel_rfl) ?_))
      refine AtCall.mk (fam18_p x.kind x.mn x.mx _ _ _ _ _ _ _ _ _ _ _ _ x.decls (by omega) dl) ?_;have hkg:kpG p.g x.kind x.decls=((famM x.kind x.decls).2&&p.g.contains (sOf (famM x.kind x.decls).1)):=rfl;obtain ⟨⟨s,is⟩,hs⟩:∃ q,famM x.kind x.decls=q:=⟨_,rfl⟩;rw [hs] at hkg ⊢
      cases is
      ·have hkg':kpG p.g x.kind x.decls=false:=by rw [hkg];rfl
       rw [hkg',if_neg (by decide)] at hK;rw [hK,Option.getD_none]
       (repeat ((first | with_reducible refine W.step (b:=false) ?_ | skip);simp only [go_sem,↓reduceIte,Nat.reduceAdd,Nat.reduceSub,Nat.reduceMul,Nat.reduceEqDiff,Nat.reduceLeDiff,Nat.reduceLT,Int.reduceLE,Int.reduceLT,Int.reduceToNat,Int.reduceEq];try with_reducible refine drawn hmix (by kernel_rfl) ?_))
       exact ZE rfl rfl
      ·(repeat ((first | with_reducible refine W.step (b:=false) ?_ | skip);simp only [go_sem,↓reduceIte,Nat.reduceAdd,Nat.reduceSub,Nat.reduceMul,Nat.reduceEqDiff,Nat.reduceLeDiff,Nat.reduceLT,Int.reduceLE,Int.reduceLT,Int.reduceToNat,Int.reduceEq];try with_reducible refine drawn hmix (by kernel_rfl) ?_))
       refine AtCall.mk (IG s) ?_;obtain ⟨ib,hi⟩:∃ ib,p.g.contains (sOf s)=ib:=⟨_,rfl⟩;have hkg':kpG p.g x.kind x.decls=ib:=by rw [hkg];exact hi
       rw [hi];rw [hkg'] at hK
       cases ib
       ·rw [if_neg (by decide)] at hK
        rw [hK,Option.getD_none]
        (repeat ((first | with_reducible refine W.step (b:=false) ?_ | skip);simp only [go_sem,↓reduceIte,Nat.reduceAdd,Nat.reduceSub,Nat.reduceMul,Nat.reduceEqDiff,Nat.reduceLeDiff,Nat.reduceLT,Int.reduceLE,Int.reduceLT,Int.reduceToNat,Int.reduceEq];try with_reducible refine drawn hmix (by kernel_rfl) ?_))
        exact ZE rfl rfl
       ·rw [if_pos rfl] at hK
        rw [hK,Option.getD_some]
        (repeat ((first | with_reducible refine W.step (b:=false) ?_ | skip);simp only [go_sem,↓reduceIte,Nat.reduceAdd,Nat.reduceSub,Nat.reduceMul,Nat.reduceEqDiff,Nat.reduceLeDiff,Nat.reduceLT,Int.reduceLE,Int.reduceLT,Int.reduceToNat,Int.reduceEq];try with_reducible refine drawn hmix (by kernel_rfl) ?_))
        exact SE rfl (by rw [encI_eq];rfl)
     ·rw [if_neg h6] at hK
      rw [hK]
      (repeat ((first | with_reducible refine W.step (b:=false) ?_ | skip);simp only [go_sem,↓reduceIte,Nat.reduceAdd,Nat.reduceSub,Nat.reduceMul,Nat.reduceEqDiff,Nat.reduceLeDiff,Nat.reduceLT,Int.reduceLE,Int.reduceLT,Int.reduceToNat,Int.reduceEq,h1,h2,h3,h5,h6];try with_reducible refine drawn hmix (by kernel_rfl) ?_))
      exact SE rfl (by rw [encI_eq];rfl)
set_option maxRecDepth 100000 in
set_option maxHeartbeats 8000000 in
theorem drop18_p (p:S3) (hp:smallP p) (N:Nat):∀ (l:List Itm),SizeOf.sizeOf l≤N→okIs l→cntIs l≤1000→PureN Tryz.prog gt0 29 [poolA p,.sl l.length 8 (l.flatMap encI)] (.sl (dropIs p l).length 8 ((dropIs p l).flatMap encI)):=by
 induction N with
 | zero=>intro l hl;cases l <;> simp at hl <;> omega
 | succ N ih =>
   intro l hl hok hcn;have hlen:=cntIs_len l
   have ONE:=fun k (hk:k<l.length)=>one18_p p hp l[k] (by obtain ⟨g1,g2,g3,g4,-⟩:=(okI_eq _).1 (okIs_at hok _ (List.getElem_mem hk));exact ⟨g1,g2,g3,g4⟩) (ih l[k].l (by have:=itm_lt (List.getElem_mem hk);omega) ((okI_eq _).1 (okIs_at hok _ (List.getElem_mem hk))).2.2.2.2 (by
    have h1:=cntIs_snoc hk;have h2:=cntIs_append (l.take (k+1)) (l.drop (k+1));rw [List.take_append_drop] at h2
    omega))
   clear ih hl;refine PureN.of_w (c:=_) Tryz.func29 rfl (by kernel_rfl) rfl ?_;simp only [Tryz.f29,List.replicate,List.length_cons,List.length_nil,Nat.reduceAdd,Nat.reduceSub,List.cons_append,List.nil_append]
   (repeat ((first | with_reducible refine W.step (b:=true) ?_ | skip);simp only [go_sem,↓reduceIte,Nat.reduceAdd,Nat.reduceSub,Nat.reduceMul,Nat.reduceEqDiff,Nat.reduceLeDiff,Nat.reduceLT,Int.reduceLE,Int.reduceLT,Int.reduceToNat,Int.reduceEq];(try with_reducible refine drawn hmix (by kernel_rfl) ?_);try with_reducible refine ⟨by kernel_rfl,?_⟩))
   refine W.loop (s1:=stL [.any,(.sl l.length 8 (l.flatMap encI)),(.ptr 0 0),.any,.any,(.gs 1 0 0 8 0),(.g (.int .i64 ((0:Nat):Int))),.any,.any,.any,.any,.any,.any,.any,.any,.any,.any,.any,.any,.any,.any,.any,.any,.any,.any,.any,.any,.any,.any,.any,.any,.any,.any,.any,.any,.any,.any] [(1,.cells []),(0,.cells [stA p.c,stA p.f,stA p.g])] 2)
    (fun (k:Nat) t=>k≤l.length∧t=stL [.any,(.sl l.length 8 (l.flatMap encI)),(.ptr 0 0),.any,.any,(.gs 1 0 (dropIs p (l.take k)).length 8 (dropIs p (l.take k)).length),(.g (.int .i64 (k:Int))),.any,.any,.any,.any,.any,.any,.any,.any,.any,.any,.any,.any,.any,.any,.any,.any,.any,.any,.any,.any,.any,.any,.any,.any,.any,.any,.any,.any,.any,.any] [(1,.cells ((dropIs p (l.take k)).flatMap encI)),(0,.cells [stA p.c,stA p.f,stA p.g])] 2) (fun k=>l.length - k) 0 ⟨Nat.zero_le _,by simp [dropIs_nil]⟩ (VS.tm (by simp [leL])) ?_
   rintro k t ⟨hk,rfl⟩
   by_cases hlt:k<l.length
   ·obtain ⟨r0,r1⟩:=rowI hlt
    have r3:=flat_get encI 8 encI_len l k hlt 0 (by decide);rw [encI_eq] at r3;simp only [List.getElem?_cons_zero,Nat.add_zero] at r3;have hsn:=dropIs_snoc (p:=p) hlt;have hol:(dropIs p (l.take k)).length≤1000:=Nat.le_trans (dropIs_len _ _) (by rw [List.length_take];omega);have hfin:IntKind.i64.wrap ((k:Int)+1)=((k+1:Nat):Int):=up1 (by omega);have OK:=one_kept p l[k];have OK2:=ONE k hlt;generalize dropIs p (l.take k)=o at *;have E1:(o.flatMap encI).length=o.length*8:=row_len encI 8 encI_len o;have E2:¬(o.length+1≤o.length):=by omega
    have E3:(o.length+1)*145≤17179869184:=by omega
    (repeat ((first | with_reducible refine W.step (b:=true) ?_ | skip);simp only [go_sem,↓reduceIte,Nat.reduceAdd,Nat.reduceSub,Nat.reduceMul,Nat.reduceEqDiff,Nat.reduceLeDiff,Nat.reduceLT,Int.reduceLE,Int.reduceLT,Int.reduceToNat,Int.reduceEq,hlt,r0,r1];(try with_reducible refine drawn hmix (by kernel_rfl) ?_);try with_reducible refine ⟨by kernel_rfl,?_⟩))
    refine AtCallD.mk OK2 ?_;unfold oneI at OK OK2 ⊢
    cases hki:keepI p l[k] with
    | none =>
      rw [hki] at hsn;have k0:(l[k].kind=0)=False:=eq_false (keep_none hki);rw [Option.getD_none,encI_eq zeroI];simp only [go_sem,↓reduceIte,Nat.reduceAdd,Nat.reduceSub,Nat.reduceMul,Nat.reduceEqDiff,Nat.reduceLeDiff,Nat.reduceLT,Int.reduceLE,Int.reduceLT,Int.reduceToNat,Int.reduceEq];refine ⟨by kernel_rfl,?_⟩;have kz:(zeroI.kind=0)=True:=eq_true rfl;have hsn':dropIs p (l.take (k+1))=o:=by rw [hsn];exact List.append_nil o
      (repeat ((first | with_reducible refine W.step (b:=true) ?_ | skip);simp only [go_sem,↓reduceIte,Nat.reduceAdd,Nat.reduceSub,Nat.reduceMul,Nat.reduceEqDiff,Nat.reduceLeDiff,Nat.reduceLT,Int.reduceLE,Int.reduceLT,Int.reduceToNat,Int.reduceEq,hlt,r3,kz,k0];(try with_reducible refine drawn hmix (by kernel_rfl) ?_);try with_reducible refine ⟨by kernel_rfl,?_⟩))
      refine ⟨k+1,_,⟨by omega,rfl⟩,by show l.length - (k+1)<l.length - k;omega,?_⟩;rw [hfin,hsn'];exact VS.ren [(0,0),(1,1)] (by simp) (by simp) (by simp) (by simp only [go_sem,↓reduceIte,Nat.reduceAdd,Nat.reduceSub,Nat.reduceMul,Nat.reduceEqDiff,Nat.reduceLeDiff,Nat.reduceLT,Int.reduceLE,Int.reduceLT,Int.reduceToNat,Int.reduceEq]) ⟨⟨1,_,rfl,rfl,_,rfl,.inl ⟨rfl,noIds_rows encI encI_ids _⟩⟩,⟨0,_,rfl,rfl,_,rfl,.inl ⟨rfl,rfl⟩⟩,trivial⟩
    | some y =>
      rw [hki] at hsn;rw [Option.getD_some,encI_eq y];simp only [go_sem,↓reduceIte,Nat.reduceAdd,Nat.reduceSub,Nat.reduceMul,Nat.reduceEqDiff,Nat.reduceLeDiff,Nat.reduceLT,Int.reduceLE,Int.reduceLT,Int.reduceToNat,Int.reduceEq];refine ⟨by kernel_rfl,?_⟩;have hsn':dropIs p (l.take (k+1))=o++[y]:=hsn;have hx:(o++[y]).flatMap encI=o.flatMap encI++[.g (.int .i64 y.kind),.sl y.sels.length 2 (y.sels.flatMap encC),.sl y.decls.length 3 (y.decls.flatMap encD),.sl y.names.length 1 (y.names.flatMap encN),.g (.int .i64 y.mn),.g (.int .i64 y.mx),.sl y.vals.length 5 (y.vals.flatMap encV),.sl y.l.length 8 (y.l.flatMap encI)]:=by
       rw [List.flatMap_append,List.flatMap_cons,encI_eq y,List.flatMap_nil,List.append_nil]
      by_cases hy:y.kind=0
      ·have g0:=eq_true hy
       have g1:(l[k].kind=0)=True:=eq_true ((keep_kind hki).1 hy)
       (repeat ((first | with_reducible refine W.step (b:=true) ?_ | skip);simp only [go_sem,↓reduceIte,Nat.reduceAdd,Nat.reduceSub,Nat.reduceMul,Nat.reduceEqDiff,Nat.reduceLeDiff,Nat.reduceLT,Int.reduceLE,Int.reduceLT,Int.reduceToNat,Int.reduceEq,hlt,r3,g0,g1,E1,E2,E3];(try with_reducible refine drawn hmix (by kernel_rfl) ?_);try with_reducible refine ⟨by kernel_rfl,?_⟩))
       refine ⟨k+1,_,⟨by omega,rfl⟩,by show l.length - (k+1)<l.length - k;omega,?_⟩;rw [hfin,hsn'];exact VS.ren [(0,0),(1,4)] (by simp) (by simp) (by simp) (by simp only [go_sem,↓reduceIte,Nat.reduceAdd,Nat.reduceSub,Nat.reduceMul,Nat.reduceEqDiff,Nat.reduceLeDiff,Nat.reduceLT,Int.reduceLE,Int.reduceLT,Int.reduceToNat,Int.reduceEq,List.length_append]) ⟨⟨4,_,rfl,by rw [hx];rfl,_,rfl,.inl ⟨rfl,noIds_rows encI encI_ids _⟩⟩,⟨0,_,rfl,rfl,_,rfl,.inl ⟨rfl,rfl⟩⟩,trivial⟩
      ·(repeat ((first | with_reducible refine W.step (b:=true) ?_ | skip);simp only [go_sem,↓reduceIte,Nat.reduceAdd,Nat.reduceSub,Nat.reduceMul,Nat.reduceEqDiff,Nat.reduceLeDiff,Nat.reduceLT,Int.reduceLE,Int.reduceLT,Int.reduceToNat,Int.reduceEq,hlt,r3,hy,E1,E2,E3];(try with_reducible refine drawn hmix (by kernel_rfl) ?_);try with_reducible refine ⟨by kernel_rfl,?_⟩))
       refine ⟨k+1,_,⟨by omega,rfl⟩,by show l.length - (k+1)<l.length - k;omega,?_⟩;rw [hfin,hsn'];exact VS.ren [(0,0),(1,4)] (by simp) (by simp) (by simp) (by simp only [go_sem,↓reduceIte,Nat.reduceAdd,Nat.reduceSub,Nat.reduceMul,Nat.reduceEqDiff,Nat.reduceLeDiff,Nat.reduceLT,Int.reduceLE,Int.reduceLT,Int.reduceToNat,Int.reduceEq,List.length_append]) ⟨⟨4,_,rfl,by rw [hx];rfl,_,rfl,.inl ⟨rfl,noIds_rows encI encI_ids _⟩⟩,⟨0,_,rfl,rfl,_,rfl,.inl ⟨rfl,rfl⟩⟩,trivial⟩
   ·obtain rfl:k=l.length:=by omega
    rw [List.take_length]
    (repeat ((first | with_reducible refine W.step (b:=true) ?_ | skip);simp only [go_sem,↓reduceIte,Nat.reduceAdd,Nat.reduceSub,Nat.reduceMul,Nat.reduceEqDiff,Nat.reduceLeDiff,Nat.reduceLT,Int.reduceLE,Int.reduceLT,Int.reduceToNat,Int.reduceEq,hlt];(try with_reducible refine drawn hmix (by kernel_rfl) ?_);try with_reducible refine ⟨by kernel_rfl,?_⟩))
    exact postP_one _ (.inr rfl) rfl (seal_I rfl rfl)
end Go.Proofs.YtlnaihkombcbcaaGreat
end
