/- The law PoolTells is true of every input of bulk at most 1048576: the second form's statement. -/
import Derived.Test.YtlnaihkombcbcaaGreatTd9
import Derived.Test.YtlnaihkombcbcaaGreatTd5
import Derived.Test.YtlnaihkombcbcaaGreatTd8
import Derived.Test.YtlnaihkombcbcaaGreatTd7
import Derived.ProofKit
import Derived.Test.YtlnaihkombcbcaaGreatTd4
import Derived.Test.YtlnaihkombcbcaaGreatTe0
import Derived.WalkKit
import Derived.OpenShut
import Derived.SizedLaws
import Derived.WideKeyArgs
import Derived.Deep.CondSized
import Derived.Deep.Strs
import Derived.SliceStrings
import Derived.ChangeSame
set_option linter.unusedSimpArgs false
noncomputable section
namespace Go.Proofs.YtlnaihkombcbcaaGreat
open Go.RowKit Go.Ev
attribute [local go_sem] eq_self false_and and_false Bool.false_eq_true List.set_cons_succ List.set_cons_zero List.getD_cons_succ List.getD_cons_zero List.getElem?_cons_succ List.getElem?_cons_zero true_and and_true and_self Bool.not_true Bool.not_false Nat.add_zero Nat.zero_add Nat.mul_one Int.toNat_natCast Int.natCast_nonneg Int.ofNat_lt Option.bind_some Option.map_some List.map_cons List.map_nil decide_true decide_false BEq.rfl Bool.and_self Bool.and_true Bool.and_false beq_self_eq_true List.cons_append List.nil_append List.take_zero List.take_succ_cons List.take_nil List.drop_succ_cons List.drop_zero List.drop_nil List.append_nil List.length_cons List.length_nil List.all_cons List.all_nil Nat.le_refl Option.map_none List.replicate_zero List.replicate_succ Nat.zero_mul Nat.sub_zero Nat.zero_le Nat.le_zero_eq getR_nil Int.toNat_zero Int.natCast_zero Int.natCast_one Int.cast_ofNat_Int List.toList_toArray
theorem sz_decl:szO Tryz.prog 134=some 3:=by kernel_rfl
theorem ze_decl:zeroO Tryz.prog 134=some [.g (.string ⟨#[]⟩),.g (.slice none 0 0),.g (.bool false)]:=by kernel_rfl
attribute [go_sem] sz_decl ze_decl
theorem rowD3 {l:List Dl} {k:Nat} (hk:k<l.length):((l.flatMap encD).drop (k*3)).take 3=[.g (.string l[k].name),.sl l[k].l.length 5 (l[k].l.flatMap encV),.g (.bool l[k].imp)]∧k*3+3≤(l.flatMap encD).length:=by
 have rp:=row_part encD 3 encD_len l k hk 0 3 (by decide);rw [Nat.add_zero,List.drop_zero,List.take_of_length_le (l:=encD l[k]) (by rw [encD_len];decide)] at rp;exact ⟨rp,row_fit encD 3 encD_len l k hk (j:=0) (c:=3) (by decide)⟩
theorem an_iff {s:ByteArray}:decide (s=⟨#[97,110,105,109,97,116,105,111,110,45,110,97,109,101]⟩)=anB s:=by
 rw [←ba_eq];unfold anB;rw [ByteArray.toList_eq (⟨#[97,110,105,109,97,116,105,111,110,45,110,97,109,101]⟩:ByteArray)]
theorem am_iff {s:ByteArray}:decide (s=⟨#[97,110,105,109,97,116,105,111,110]⟩)=amB s:=by
 rw [←ba_eq];unfold amB;rw [ByteArray.toList_eq (⟨#[97,110,105,109,97,116,105,111,110]⟩:ByteArray)]
theorem fo_iff {s:ByteArray}:decide (s=⟨#[102,111,110,116]⟩)=foB s:=by
 rw [←ba_eq];unfold foB;rw [ByteArray.toList_eq (⟨#[102,111,110,116]⟩:ByteArray)]
set_option maxRecDepth 100000 in
set_option maxHeartbeats 4000000 in
theorem item18_p (p:B3) (x:Itm) (hp:szB p 800000) (hx:okX x):PureN Tryz.prog gt0 89 [.agg (encB p),.agg (encI x)] (.agg (encB (itemB p x))):=by
 obtain ⟨⟨d1,d2⟩,-,v1,v2⟩:=hx;have HQ:∀ k,szB ((x.decls.take k).foldl declB p) 900000:=fun k=>(declsB_sz _ hp fun d hd=>d2 d (List.mem_of_mem_take hd)).mono (by rw [List.length_take];omega);have DS:∀ k (hk:k<x.decls.length),(x.decls.take (k+1)).foldl declB p=declB ((x.decls.take k).foldl declB p) x.decls[k]:=fun k hk=>by rw [List.take_succ_eq_append_getElem hk,List.foldl_append];rfl
 rw [encI_eq];refine PureN.of_w (c:=_) Tryz.func89 rfl (by kernel_rfl) rfl ?_;simp only [Tryz.f89,List.replicate,List.length_cons,List.length_nil,Nat.reduceAdd,Nat.reduceSub,List.cons_append,List.nil_append]
 (repeat ((first | with_reducible refine W.step (b:=false) ?_ | skip);simp only [go_sem,↓reduceIte,Nat.reduceAdd,Nat.reduceSub,Nat.reduceMul,Nat.reduceEqDiff,Nat.reduceLeDiff,Nat.reduceLT,Int.reduceLE,Int.reduceLT,Int.reduceToNat,Int.reduceEq,encB_eq];try with_reducible refine drawn hmix (by kernel_rfl) ?_))
 by_cases h1:x.kind=1
 ·have e0:itemB p x=x.decls.foldl declB p:=by unfold itemB;rw [if_pos h1]
  rw [e0];have f1:=eq_true h1;have f5:(1:Int)≠5:=by decide
  refine W.after 0 (fun _:Unit=>True) (fun _=>stL [.any,.any,(.ptr 0 0),(.ptr 1 0),(.ptr 2 0),.any,.any,.any,.any,.any,.any,.any,.any,.any,.any,.any,.any,.any,.any,.any,.any,.any,.any,.any,.any,.any,.any,.any,.any,.any,.any,.any,.any,.any,.any,.any,.any,.any,.any,.any,.any,.any,.any,.any,.any,.any,.any,.any,.any,.any,.any,.any,.any,.any,.any,.any,.any,.any,.any,.any,.any,.any,.any,.any,.any,.any,.any,.any,.any,.any,.any,.any,.any,.any,.any,.any,.any,.any,.any,.any,.any,.any,.any,.any,.any,.any] [(2,.cells [.g (.slice none 0 0),.g (.slice none 0 0),.g (.slice none 0 0)]),(1,.cells [.g (.int .i64 x.kind),.sl x.sels.length 2 (x.sels.flatMap encC),.sl x.decls.length 3 (x.decls.flatMap encD),.sl x.names.length 1 (x.names.flatMap encN),.g (.int .i64 x.mn),.g (.int .i64 x.mx),.sl x.vals.length 5 (x.vals.flatMap encV),.sl x.l.length 8 (x.l.flatMap encI)]),(0,.cells (encB (x.decls.foldl declB p)))] 3) ?_ ?_
  ·refine W.loop (s1:=stL [.any,.any,(.ptr 0 0),(.ptr 1 0),(.ptr 2 0),(.g (.int .i64 ((0:Nat):Int))),.any,.any,.any,.any,.any,.any,.any,.any,.any,.any,.any,.any,.any,.any,.any,.any,.any,.any,.any,.any,.any,.any,.any,.any,.any,.any,.any,.any,.any,.any,.any,.any,.any,.any,.any,.any,.any,.any,.any,.any,.any,.any,.any,.any,.any,.any,.any,.any,.any,.any,.any,.any,.any,.any,.any,.any,.any,.any,.any,.any,.any,.any,.any,.any,.any,.any,.any,.any,.any,.any,.any,.any,.any,.any,.any,.any,.any,.any,.any,.any] [(2,.cells [.g (.slice none 0 0),.g (.slice none 0 0),.g (.slice none 0 0)]),(1,.cells [.g (.int .i64 x.kind),.sl x.sels.length 2 (x.sels.flatMap encC),.sl x.decls.length 3 (x.decls.flatMap encD),.sl x.names.length 1 (x.names.flatMap encN),.g (.int .i64 x.mn),.g (.int .i64 x.mx),.sl x.vals.length 5 (x.vals.flatMap encV),.sl x.l.length 8 (x.l.flatMap encI)]),(0,.cells (encB p))] 3)
    (fun (k:Nat) t=>k≤x.decls.length∧t=stL [.any,.any,(.ptr 0 0),(.ptr 1 0),(.ptr 2 0),(.g (.int .i64 (k:Int))),.any,.any,.any,.any,.any,.any,.any,.any,.any,.any,.any,.any,.any,.any,.any,.any,.any,.any,.any,.any,.any,.any,.any,.any,.any,.any,.any,.any,.any,.any,.any,.any,.any,.any,.any,.any,.any,.any,.any,.any,.any,.any,.any,.any,.any,.any,.any,.any,.any,.any,.any,.any,.any,.any,.any,.any,.any,.any,.any,.any,.any,.any,.any,.any,.any,.any,.any,.any,.any,.any,.any,.any,.any,.any,.any,.any,.any,.any,.any,.any] [(2,.cells [.g (.slice none 0 0),.g (.slice none 0 0),.g (.slice none 0 0)]),(1,.cells [.g (.int .i64 x.kind),.sl x.sels.length 2 (x.sels.flatMap encC),.sl x.decls.length 3 (x.decls.flatMap encD),.sl x.names.length 1 (x.names.flatMap encN),.g (.int .i64 x.mn),.g (.int .i64 x.mx),.sl x.vals.length 5 (x.vals.flatMap encV),.sl x.l.length 8 (x.l.flatMap encI)]),(0,.cells (encB ((x.decls.take k).foldl declB p)))] 3) (fun k=>x.decls.length - k) 0 ⟨Nat.zero_le _,rfl⟩ (VS.tm (by simp [leL,encB])) ?_
   rintro k t ⟨hk,rfl⟩
   by_cases hlt:k<x.decls.length
   ·obtain ⟨r0,r1⟩:=rowD3 hlt
    obtain ⟨g1,g2,g3⟩:=d2 _ (List.getElem_mem hlt);have hq:=HQ k;have hds:=DS k hlt;have hfin:IntKind.i64.wrap ((k:Int)+1)=((k+1:Nat):Int):=up1 (by omega);generalize (x.decls.take k).foldl declB p=q at *;have V:=fun fr fa=>vals18_p q x.decls[k].l fr fa hq (by omega) g2;have In:=in11_p q.c x.decls[k].name (Nat.le_trans hq.1 (by decide));have hdd:declB q x.decls[k]=if customB x.decls[k].name=true∧inA q.c x.decls[k].name=false then q else valsB q x.decls[k].l (frB x.decls[k].name) (faB x.decls[k].name):=rfl
    rw [←hds] at hdd;clear hds
    (repeat ((first | with_reducible refine W.step (b:=false) ?_ | skip);simp only [go_sem,↓reduceIte,Nat.reduceAdd,Nat.reduceSub,Nat.reduceMul,Nat.reduceEqDiff,Nat.reduceLeDiff,Nat.reduceLT,Int.reduceLE,Int.reduceLT,Int.reduceToNat,Int.reduceEq,hlt,r0,r1,f1,encB_eq];try with_reducible refine drawn hmix (by kernel_rfl) ?_))
    refine AtCall.mk (custom7_p x.decls[k].name) ?_;have hfr:frB x.decls[k].name=(customB x.decls[k].name||decide (x.decls[k].name=⟨#[97,110,105,109,97,116,105,111,110,45,110,97,109,101]⟩)||decide (x.decls[k].name=⟨#[97,110,105,109,97,116,105,111,110]⟩)):=by rw [an_iff,am_iff];rfl
    have hfa:faB x.decls[k].name=(customB x.decls[k].name||decide (x.decls[k].name=⟨#[102,111,110,116,45,102,97,109,105,108,121]⟩)||decide (x.decls[k].name=⟨#[102,111,110,116]⟩)):=by rw [ff_iff,fo_iff];rfl
    generalize x.decls[k].name=nm at *;obtain ⟨cb,hc⟩:∃ cb,customB nm=cb:=⟨_,rfl⟩;rw [hc] at hfr hfa hdd ⊢
    cases cb
    ·rw [if_neg (fun h=>by cases h.1)] at hdd
     obtain ⟨b1,e1⟩:∃ b,decide (nm=⟨#[97,110,105,109,97,116,105,111,110,45,110,97,109,101]⟩)=b:=⟨_,rfl⟩;obtain ⟨b2,e2⟩:∃ b,decide (nm=⟨#[97,110,105,109,97,116,105,111,110]⟩)=b:=⟨_,rfl⟩;obtain ⟨b3,e3⟩:∃ b,decide (nm=⟨#[102,111,110,116,45,102,97,109,105,108,121]⟩)=b:=⟨_,rfl⟩;obtain ⟨b4,e4⟩:∃ b,decide (nm=⟨#[102,111,110,116]⟩)=b:=⟨_,rfl⟩;rw [e1,e2] at hfr;rw [e3,e4] at hfa;rw [hfr,hfa] at hdd
     cases b1 <;> cases b2 <;> cases b3 <;> cases b4
     all_goals
      (repeat ((first | with_reducible refine W.step (b:=false) ?_ | skip);simp only [go_sem,↓reduceIte,Nat.reduceAdd,Nat.reduceSub,Nat.reduceMul,Nat.reduceEqDiff,Nat.reduceLeDiff,Nat.reduceLT,Int.reduceLE,Int.reduceLT,Int.reduceToNat,Int.reduceEq,encB_eq,e1,e2,e3,e4];try with_reducible refine drawn hmix (by kernel_rfl) ?_))
      refine AtCall.mk (V _ _) ?_
      (repeat ((first | with_reducible refine W.step (b:=false) ?_ | skip);simp only [go_sem,↓reduceIte,Nat.reduceAdd,Nat.reduceSub,Nat.reduceMul,Nat.reduceEqDiff,Nat.reduceLeDiff,Nat.reduceLT,Int.reduceLE,Int.reduceLT,Int.reduceToNat,Int.reduceEq,encB_eq];try with_reducible refine drawn hmix (by kernel_rfl) ?_))
      refine ⟨k+1,_,⟨by omega,rfl⟩,by show x.decls.length - (k+1)<x.decls.length - k;omega,?_⟩;rw [hfin,hdd];exact VS.ren [(0,0),(1,1),(2,2)] (by simp) (by simp) (by simp) (by simp only [go_sem,↓reduceIte,Nat.reduceAdd,Nat.reduceSub,Nat.reduceMul,Nat.reduceEqDiff,Nat.reduceLeDiff,Nat.reduceLT,Int.reduceLE,Int.reduceLT,Int.reduceToNat,Int.reduceEq]) ⟨⟨2,_,rfl,rfl,_,rfl,.inl ⟨rfl,rfl⟩⟩,⟨1,_,rfl,rfl,_,rfl,.inl ⟨rfl,rfl⟩⟩,⟨0,_,rfl,rfl,_,rfl,.inl ⟨rfl,rfl⟩⟩,trivial⟩
    ·have hfr':frB nm=true:=by rw [hfr];simp
     have hfa':faB nm=true:=by rw [hfa];simp
     rw [hfr',hfa'] at hdd
     (repeat ((first | with_reducible refine W.step (b:=false) ?_ | skip);simp only [go_sem,↓reduceIte,Nat.reduceAdd,Nat.reduceSub,Nat.reduceMul,Nat.reduceEqDiff,Nat.reduceLeDiff,Nat.reduceLT,Int.reduceLE,Int.reduceLT,Int.reduceToNat,Int.reduceEq,encB_eq];try with_reducible refine drawn hmix (by kernel_rfl) ?_))
     refine AtCall.mk In ?_;obtain ⟨ib,hi⟩:∃ ib,inA q.c nm=ib:=⟨_,rfl⟩;rw [hi] at hdd ⊢;simp only [go_sem,↓reduceIte,Nat.reduceAdd,Nat.reduceSub,Nat.reduceMul,Nat.reduceEqDiff,Nat.reduceLeDiff,Nat.reduceLT,Int.reduceLE,Int.reduceLT,Int.reduceToNat,Int.reduceEq]
     cases ib
     ·rw [if_pos ⟨rfl,rfl⟩] at hdd
      (repeat ((first | with_reducible refine W.step (b:=false) ?_ | skip);simp only [go_sem,↓reduceIte,Nat.reduceAdd,Nat.reduceSub,Nat.reduceMul,Nat.reduceEqDiff,Nat.reduceLeDiff,Nat.reduceLT,Int.reduceLE,Int.reduceLT,Int.reduceToNat,Int.reduceEq,encB_eq];try with_reducible refine drawn hmix (by kernel_rfl) ?_))
      refine ⟨k+1,_,⟨by omega,rfl⟩,by show x.decls.length - (k+1)<x.decls.length - k;omega,?_⟩;rw [hfin,hdd];exact VS.ren [(0,0),(1,1),(2,2)] (by simp) (by simp) (by simp) (by simp only [go_sem,↓reduceIte,Nat.reduceAdd,Nat.reduceSub,Nat.reduceMul,Nat.reduceEqDiff,Nat.reduceLeDiff,Nat.reduceLT,Int.reduceLE,Int.reduceLT,Int.reduceToNat,Int.reduceEq]) ⟨⟨2,_,rfl,rfl,_,rfl,.inl ⟨rfl,rfl⟩⟩,⟨1,_,rfl,rfl,_,rfl,.inl ⟨rfl,rfl⟩⟩,⟨0,_,rfl,rfl,_,rfl,.inl ⟨rfl,rfl⟩⟩,trivial⟩
     ·rw [if_neg (fun h=>by cases h.2)] at hdd
      (repeat ((first | with_reducible refine W.step (b:=false) ?_ | skip);simp only [go_sem,↓reduceIte,Nat.reduceAdd,Nat.reduceSub,Nat.reduceMul,Nat.reduceEqDiff,Nat.reduceLeDiff,Nat.reduceLT,Int.reduceLE,Int.reduceLT,Int.reduceToNat,Int.reduceEq,encB_eq];try with_reducible refine drawn hmix (by kernel_rfl) ?_))
      refine AtCall.mk (V _ _) ?_
      (repeat ((first | with_reducible refine W.step (b:=false) ?_ | skip);simp only [go_sem,↓reduceIte,Nat.reduceAdd,Nat.reduceSub,Nat.reduceMul,Nat.reduceEqDiff,Nat.reduceLeDiff,Nat.reduceLT,Int.reduceLE,Int.reduceLT,Int.reduceToNat,Int.reduceEq,encB_eq];try with_reducible refine drawn hmix (by kernel_rfl) ?_))
      refine ⟨k+1,_,⟨by omega,rfl⟩,by show x.decls.length - (k+1)<x.decls.length - k;omega,?_⟩;rw [hfin,hdd];exact VS.ren [(0,0),(1,1),(2,2)] (by simp) (by simp) (by simp) (by simp only [go_sem,↓reduceIte,Nat.reduceAdd,Nat.reduceSub,Nat.reduceMul,Nat.reduceEqDiff,Nat.reduceLeDiff,Nat.reduceLT,Int.reduceLE,Int.reduceLT,Int.reduceToNat,Int.reduceEq]) ⟨⟨2,_,rfl,rfl,_,rfl,.inl ⟨rfl,rfl⟩⟩,⟨1,_,rfl,rfl,_,rfl,.inl ⟨rfl,rfl⟩⟩,⟨0,_,rfl,rfl,_,rfl,.inl ⟨rfl,rfl⟩⟩,trivial⟩
   ·obtain rfl:k=x.decls.length:=by omega
    rw [List.take_length]
    (repeat ((first | with_reducible refine W.step (b:=false) ?_ | skip);simp only [go_sem,↓reduceIte,Nat.reduceAdd,Nat.reduceSub,Nat.reduceMul,Nat.reduceEqDiff,Nat.reduceLeDiff,Nat.reduceLT,Int.reduceLE,Int.reduceLT,Int.reduceToNat,Int.reduceEq,hlt,f1,encB_eq];try with_reducible refine drawn hmix (by kernel_rfl) ?_))
    exact ⟨rfl,(),trivial,VS.tm (by simp only [go_sem,↓reduceIte,Nat.reduceAdd,Nat.reduceSub,Nat.reduceMul,Nat.reduceEqDiff,Nat.reduceLeDiff,Nat.reduceLT,Int.reduceLE,Int.reduceLT,Int.reduceToNat,Int.reduceEq,or_true,true_or])⟩
  ·rintro ⟨⟩ s - hv
   simp only [go_sem,↓reduceIte,Nat.reduceAdd,Nat.reduceSub,Nat.reduceMul,Nat.reduceEqDiff,Nat.reduceLeDiff,Nat.reduceLT,Int.reduceLE,Int.reduceLT,Int.reduceToNat,Int.reduceEq];refine W.vs hv ?_;clear hv;have f15:(x.kind=5)=False:=eq_false (by omega)
   (repeat ((first | with_reducible refine W.step (b:=false) ?_ | skip);simp only [go_sem,↓reduceIte,Nat.reduceAdd,Nat.reduceSub,Nat.reduceMul,Nat.reduceEqDiff,Nat.reduceLeDiff,Nat.reduceLT,Int.reduceLE,Int.reduceLT,Int.reduceToNat,Int.reduceEq,f15,encB_eq];try with_reducible refine drawn hmix (by kernel_rfl) ?_))
   refine postP_one _ (.inr rfl) ?_ (.agg ?_)
   ·simp only [resV,go_sem,↓reduceIte,Nat.reduceAdd,Nat.reduceSub,Nat.reduceMul,Nat.reduceEqDiff,Nat.reduceLeDiff,Nat.reduceLT,Int.reduceLE,Int.reduceLT,Int.reduceToNat,Int.reduceEq,encB_eq]
   ·simp [plainA]
 ·have e0:itemB p x=if x.kind=5 then framesB p x.vals x.names else p:=by unfold itemB;rw [if_neg h1]
  rw [e0];refine W.after 0 (fun _:Unit=>True) (fun _=>stL [.any,.any,(.ptr 0 0),(.ptr 1 0),(.ptr 2 0),.any,.any,.any,.any,.any,.any,.any,.any,.any,.any,.any,.any,.any,.any,.any,.any,.any,.any,.any,.any,.any,.any,.any,.any,.any,.any,.any,.any,.any,.any,.any,.any,.any,.any,.any,.any,.any,.any,.any,.any,.any,.any,.any,.any,.any,.any,.any,.any,.any,.any,.any,.any,.any,.any,.any,.any,.any,.any,.any,.any,.any,.any,.any,.any,.any,.any,.any,.any,.any,.any,.any,.any,.any,.any,.any,.any,.any,.any,.any,.any,.any] [(2,.cells [.g (.slice none 0 0),.g (.slice none 0 0),.g (.slice none 0 0)]),(1,.cells [.g (.int .i64 x.kind),.sl x.sels.length 2 (x.sels.flatMap encC),.sl x.decls.length 3 (x.decls.flatMap encD),.sl x.names.length 1 (x.names.flatMap encN),.g (.int .i64 x.mn),.g (.int .i64 x.mx),.sl x.vals.length 5 (x.vals.flatMap encV),.sl x.l.length 8 (x.l.flatMap encI)]),(0,.cells (encB p))] 3) ?_ ?_
  ·refine W.loop (s1:=stL [.any,.any,(.ptr 0 0),(.ptr 1 0),(.ptr 2 0),(.g (.int .i64 ((0:Nat):Int))),.any,.any,.any,.any,.any,.any,.any,.any,.any,.any,.any,.any,.any,.any,.any,.any,.any,.any,.any,.any,.any,.any,.any,.any,.any,.any,.any,.any,.any,.any,.any,.any,.any,.any,.any,.any,.any,.any,.any,.any,.any,.any,.any,.any,.any,.any,.any,.any,.any,.any,.any,.any,.any,.any,.any,.any,.any,.any,.any,.any,.any,.any,.any,.any,.any,.any,.any,.any,.any,.any,.any,.any,.any,.any,.any,.any,.any,.any,.any,.any] [(2,.cells [.g (.slice none 0 0),.g (.slice none 0 0),.g (.slice none 0 0)]),(1,.cells [.g (.int .i64 x.kind),.sl x.sels.length 2 (x.sels.flatMap encC),.sl x.decls.length 3 (x.decls.flatMap encD),.sl x.names.length 1 (x.names.flatMap encN),.g (.int .i64 x.mn),.g (.int .i64 x.mx),.sl x.vals.length 5 (x.vals.flatMap encV),.sl x.l.length 8 (x.l.flatMap encI)]),(0,.cells (encB p))] 3)
    (fun (k:Nat) t=>t=stL [.any,.any,(.ptr 0 0),(.ptr 1 0),(.ptr 2 0),(.g (.int .i64 ((0:Nat):Int))),.any,.any,.any,.any,.any,.any,.any,.any,.any,.any,.any,.any,.any,.any,.any,.any,.any,.any,.any,.any,.any,.any,.any,.any,.any,.any,.any,.any,.any,.any,.any,.any,.any,.any,.any,.any,.any,.any,.any,.any,.any,.any,.any,.any,.any,.any,.any,.any,.any,.any,.any,.any,.any,.any,.any,.any,.any,.any,.any,.any,.any,.any,.any,.any,.any,.any,.any,.any,.any,.any,.any,.any,.any,.any,.any,.any,.any,.any,.any,.any] [(2,.cells [.g (.slice none 0 0),.g (.slice none 0 0),.g (.slice none 0 0)]),(1,.cells [.g (.int .i64 x.kind),.sl x.sels.length 2 (x.sels.flatMap encC),.sl x.decls.length 3 (x.decls.flatMap encD),.sl x.names.length 1 (x.names.flatMap encN),.g (.int .i64 x.mn),.g (.int .i64 x.mx),.sl x.vals.length 5 (x.vals.flatMap encV),.sl x.l.length 8 (x.l.flatMap encI)]),(0,.cells (encB p))] 3) (fun k=>k) 0 rfl (VS.tm (by simp [leL])) ?_
   rintro k t rfl
   by_cases hlt:(0:Int)<(x.decls.length:Int)
   ·(repeat ((first | with_reducible refine W.step (b:=false) ?_ | skip);simp only [go_sem,↓reduceIte,Nat.reduceAdd,Nat.reduceSub,Nat.reduceMul,Nat.reduceEqDiff,Nat.reduceLeDiff,Nat.reduceLT,Int.reduceLE,Int.reduceLT,Int.reduceToNat,Int.reduceEq,hlt,h1,encB_eq];try with_reducible refine drawn hmix (by kernel_rfl) ?_))
    exact ⟨rfl,(),trivial,VS.tm (by simp only [go_sem,↓reduceIte,Nat.reduceAdd,Nat.reduceSub,Nat.reduceMul,Nat.reduceEqDiff,Nat.reduceLeDiff,Nat.reduceLT,Int.reduceLE,Int.reduceLT,Int.reduceToNat,Int.reduceEq,or_true,true_or])⟩
   ·(repeat ((first | with_reducible refine W.step (b:=false) ?_ | skip);simp only [go_sem,↓reduceIte,Nat.reduceAdd,Nat.reduceSub,Nat.reduceMul,Nat.reduceEqDiff,Nat.reduceLeDiff,Nat.reduceLT,Int.reduceLE,Int.reduceLT,Int.reduceToNat,Int.reduceEq,hlt,h1,encB_eq];try with_reducible refine drawn hmix (by kernel_rfl) ?_))
    exact ⟨rfl,(),trivial,VS.tm (by simp only [go_sem,↓reduceIte,Nat.reduceAdd,Nat.reduceSub,Nat.reduceMul,Nat.reduceEqDiff,Nat.reduceLeDiff,Nat.reduceLT,Int.reduceLE,Int.reduceLT,Int.reduceToNat,Int.reduceEq,or_true,true_or])⟩
  ·rintro ⟨⟩ s - hv
   simp only [go_sem,↓reduceIte,Nat.reduceAdd,Nat.reduceSub,Nat.reduceMul,Nat.reduceEqDiff,Nat.reduceLeDiff,Nat.reduceLT,Int.reduceLE,Int.reduceLT,Int.reduceToNat,Int.reduceEq];refine W.vs hv ?_;clear hv
   by_cases h5:x.kind=5
   ·rw [if_pos h5]
    have f5:=eq_true h5;have V:=vals18_p p x.vals false true (hp.mono (by decide)) (by omega) v2;have IN:=fun n=>in11_p p.f n (Nat.le_trans hp.2.1 (by decide));generalize x.names=ns at *
    match ns with
    | [] =>
      (repeat ((first | with_reducible refine W.step (b:=false) ?_ | skip);simp only [go_sem,↓reduceIte,Nat.reduceAdd,Nat.reduceSub,Nat.reduceMul,Nat.reduceEqDiff,Nat.reduceLeDiff,Nat.reduceLT,Int.reduceLE,Int.reduceLT,Int.reduceToNat,Int.reduceEq,f5,encB_eq];try with_reducible refine drawn hmix (by kernel_rfl) ?_))
      refine postP_one _ (.inr rfl) ?_ (.agg ?_)
      ·simp only [resV,go_sem,↓reduceIte,Nat.reduceAdd,Nat.reduceSub,Nat.reduceMul,Nat.reduceEqDiff,Nat.reduceLeDiff,Nat.reduceLT,Int.reduceLE,Int.reduceLT,Int.reduceToNat,Int.reduceEq,encB_eq,framesB]
      ·simp [plainA]
    | n::m::r =>
      have g1:(((r.length+1+1:Nat):Int)=1)=False:=eq_false (by omega)
      (repeat ((first | with_reducible refine W.step (b:=false) ?_ | skip);simp only [go_sem,↓reduceIte,Nat.reduceAdd,Nat.reduceSub,Nat.reduceMul,Nat.reduceEqDiff,Nat.reduceLeDiff,Nat.reduceLT,Int.reduceLE,Int.reduceLT,Int.reduceToNat,Int.reduceEq,f5,g1,encB_eq];try with_reducible refine drawn hmix (by kernel_rfl) ?_))
      refine postP_one _ (.inr rfl) ?_ (.agg ?_)
      ·simp only [resV,go_sem,↓reduceIte,Nat.reduceAdd,Nat.reduceSub,Nat.reduceMul,Nat.reduceEqDiff,Nat.reduceLeDiff,Nat.reduceLT,Int.reduceLE,Int.reduceLT,Int.reduceToNat,Int.reduceEq,encB_eq,framesB]
      ·simp [plainA]
    | [n] =>
      have g0:[n].flatMap encN=[.g (.string n)]:=Eq.trans rfl rfl;have hfb:framesB p x.vals [n]=if inA p.f n=true then valsB p x.vals false true else p:=rfl
      rw [hfb]
      (repeat ((first | with_reducible refine W.step (b:=false) ?_ | skip);simp only [go_sem,↓reduceIte,Nat.reduceAdd,Nat.reduceSub,Nat.reduceMul,Nat.reduceEqDiff,Nat.reduceLeDiff,Nat.reduceLT,Int.reduceLE,Int.reduceLT,Int.reduceToNat,Int.reduceEq,f5,g0,encB_eq];try with_reducible refine drawn hmix (by kernel_rfl) ?_))
      refine AtCallQ.mk (IN n) ?_;obtain ⟨ib,hi⟩:∃ ib,inA p.f n=ib:=⟨_,rfl⟩;rw [hi];simp only [go_sem,↓reduceIte,Nat.reduceAdd,Nat.reduceSub,Nat.reduceMul,Nat.reduceEqDiff,Nat.reduceLeDiff,Nat.reduceLT,Int.reduceLE,Int.reduceLT,Int.reduceToNat,Int.reduceEq]
      cases ib
      ·rw [if_neg (by decide)]
       (repeat ((first | with_reducible refine W.step (b:=false) ?_ | skip);simp only [go_sem,↓reduceIte,Nat.reduceAdd,Nat.reduceSub,Nat.reduceMul,Nat.reduceEqDiff,Nat.reduceLeDiff,Nat.reduceLT,Int.reduceLE,Int.reduceLT,Int.reduceToNat,Int.reduceEq,encB_eq];try with_reducible refine drawn hmix (by kernel_rfl) ?_))
       refine postP_one _ (.inr rfl) ?_ (.agg ?_)
       ·simp only [resV,go_sem,↓reduceIte,Nat.reduceAdd,Nat.reduceSub,Nat.reduceMul,Nat.reduceEqDiff,Nat.reduceLeDiff,Nat.reduceLT,Int.reduceLE,Int.reduceLT,Int.reduceToNat,Int.reduceEq,encB_eq]
       ·simp [plainA]
      ·rw [if_pos rfl]
       (repeat ((first | with_reducible refine W.step (b:=false) ?_ | skip);simp only [go_sem,↓reduceIte,Nat.reduceAdd,Nat.reduceSub,Nat.reduceMul,Nat.reduceEqDiff,Nat.reduceLeDiff,Nat.reduceLT,Int.reduceLE,Int.reduceLT,Int.reduceToNat,Int.reduceEq,encB_eq];try with_reducible refine drawn hmix (by kernel_rfl) ?_))
       refine AtCall.mk V ?_
       (repeat ((first | with_reducible refine W.step (b:=false) ?_ | skip);simp only [go_sem,↓reduceIte,Nat.reduceAdd,Nat.reduceSub,Nat.reduceMul,Nat.reduceEqDiff,Nat.reduceLeDiff,Nat.reduceLT,Int.reduceLE,Int.reduceLT,Int.reduceToNat,Int.reduceEq,encB_eq];try with_reducible refine drawn hmix (by kernel_rfl) ?_))
       refine postP_one _ (.inr rfl) ?_ (.agg ?_)
       ·simp only [resV,go_sem,↓reduceIte,Nat.reduceAdd,Nat.reduceSub,Nat.reduceMul,Nat.reduceEqDiff,Nat.reduceLeDiff,Nat.reduceLT,Int.reduceLE,Int.reduceLT,Int.reduceToNat,Int.reduceEq,encB_eq]
       ·simp [plainA]
   ·rw [if_neg h5]
    (repeat ((first | with_reducible refine W.step (b:=false) ?_ | skip);simp only [go_sem,↓reduceIte,Nat.reduceAdd,Nat.reduceSub,Nat.reduceMul,Nat.reduceEqDiff,Nat.reduceLeDiff,Nat.reduceLT,Int.reduceLE,Int.reduceLT,Int.reduceToNat,Int.reduceEq,h5,encB_eq];try with_reducible refine drawn hmix (by kernel_rfl) ?_))
    refine postP_one _ (.inr rfl) ?_ (.agg ?_)
    ·simp only [resV,go_sem,↓reduceIte,Nat.reduceAdd,Nat.reduceSub,Nat.reduceMul,Nat.reduceEqDiff,Nat.reduceLeDiff,Nat.reduceLT,Int.reduceLE,Int.reduceLT,Int.reduceToNat,Int.reduceEq,encB_eq]
    ·simp [plainA]
theorem el_sheets:elemO Tryz.prog 39=some 1:=by kernel_rfl
attribute [go_sem] el_sheets
theorem rowSh {L:List (List Itm)} {k:Nat} (hk:k<L.length):(L.flatMap encSh)[k]?=some (.sl L[k].length 8 (L[k].flatMap encI)):=by
 have:=flat_get encSh 1 (fun _=>rfl) L k hk 0 (by decide)
 rwa [Nat.mul_one,Nat.add_zero] at this
theorem flatIs_flat {L:List (List Itm)} {k:Nat} (hk:k<L.length):flatIs (L.take (k+1)).flatten=flatIs (L.take k).flatten++flatIs L[k]:=by
 rw [List.take_succ_eq_append_getElem hk,List.flatten_append,flatIs_append]
 congr 1
 rw [List.flatten_cons,List.flatten_nil,List.append_nil]
set_option maxRecDepth 100000 in
set_option maxHeartbeats 8000000 in
theorem of18_p (L:List (List Itm)) (hL:∀ l∈L,okSh l) (h4:L.length≤4) (m:Nat) (hm:itB (flatIs L.flatten) (m+1)=itB (flatIs L.flatten) m) (hmin:∀ k,k<m→itB (flatIs L.flatten) (k+1)≠itB (flatIs L.flatten) k) :
 PureN Tryz.prog gt0 34 [.sl L.length 1 (L.flatMap encSh)] (.agg (encB (itB (flatIs L.flatten) m))):=by
 obtain ⟨hF1,hF2⟩:=okIs_flatten L hL;obtain ⟨hF3,hF4⟩:=flatIs_ok _ hF1;have hFn:(flatIs L.flatten).length≤60:=by omega
 have hO:∀ k,k≤L.length→(flatIs (L.take k).flatten).length≤60:=fun k hk=>by
  have e:L.flatten=(L.take k).flatten++(L.drop k).flatten:=by rw [←List.flatten_append,List.take_append_drop]
  have h2:=flatIs_append (L.take k).flatten (L.drop k).flatten;rw [←e] at h2;have:=congrArg List.length h2;rw [List.length_append] at this;omega
 have SZ:∀ k,szB (itB (flatIs L.flatten) k) 240000:=fun k=>(itB_of L k).sz hL h4;have LF:=fun k (hk:k<L.length)=>flatIs_flat hk;have AL:=fun k (hk:k<L.length)=>all18_p _ L[k] (Nat.le_refl _) (hL _ (List.getElem_mem hk)).2 (Nat.le_trans (hL _ (List.getElem_mem hk)).1 (by decide));clear hF1 hF2 hF3;refine PureN.of_w (c:=_) Tryz.func34 rfl (by kernel_rfl) rfl ?_;simp only [Tryz.f34,List.replicate,List.length_cons,List.length_nil,Nat.reduceAdd,Nat.reduceSub,List.cons_append,List.nil_append]
 (repeat ((first | with_reducible refine W.step (b:=true) ?_ | skip);simp only [go_sem,↓reduceIte,Nat.reduceAdd,Nat.reduceSub,Nat.reduceMul,Nat.reduceEqDiff,Nat.reduceLeDiff,Nat.reduceLT,Int.reduceLE,Int.reduceLT,Int.reduceToNat,Int.reduceEq];(try with_reducible refine drawn hmix (by kernel_rfl) ?_);try with_reducible refine ⟨by kernel_rfl,?_⟩))
 refine W.after 0 (fun _:Unit=>True) (fun _=>stL [(.sl L.length 1 (L.flatMap encSh)),.any,(.ptr 0 0),(.sl (flatIs L.flatten).length 8 ((flatIs L.flatten).flatMap encI)),.any,.any,.any,.any,.any,.any,.any,.any,.any,.any,.any,.any,.any,.any,.any,.any,.any,.any,.any,.any,.any,.any,.any,.any,.any,.any,.any,.any,.any,.any,.any,.any,.any,.any,.any,.any,.any] [(0,.cells [.g (.slice none 0 0),.g (.slice none 0 0),.g (.slice none 0 0)])] 2) ?_ ?_
 ·refine W.loop (s1:=stL [(.sl L.length 1 (L.flatMap encSh)),.any,(.ptr 0 0),(.gs 1 0 0 8 0),(.g (.int .i64 ((0:Nat):Int))),.any,.any,.any,.any,.any,.any,.any,.any,.any,.any,.any,.any,.any,.any,.any,.any,.any,.any,.any,.any,.any,.any,.any,.any,.any,.any,.any,.any,.any,.any,.any,.any,.any,.any,.any,.any] [(1,.cells []),(0,.cells [.g (.slice none 0 0),.g (.slice none 0 0),.g (.slice none 0 0)])] 2)
   (fun (k:Nat) t=>k≤L.length∧t=stL [(.sl L.length 1 (L.flatMap encSh)),.any,(.ptr 0 0),(.gs 1 0 (flatIs (L.take k).flatten).length 8 (flatIs (L.take k).flatten).length),(.g (.int .i64 (k:Int))),.any,.any,.any,.any,.any,.any,.any,.any,.any,.any,.any,.any,.any,.any,.any,.any,.any,.any,.any,.any,.any,.any,.any,.any,.any,.any,.any,.any,.any,.any,.any,.any,.any,.any,.any,.any] [(1,.cells ((flatIs (L.take k).flatten).flatMap encI)),(0,.cells [.g (.slice none 0 0),.g (.slice none 0 0),.g (.slice none 0 0)])] 2) (fun k=>L.length - k) 0 ⟨Nat.zero_le _,by simp [flatIs]⟩ (VS.tm (by simp [leL])) ?_
  rintro k t ⟨hk,rfl⟩
  by_cases hlt:k<L.length
  ·have r0:=rowSh hlt
   have hsn:=LF k hlt;have hol:=hO k hk;have hol2:=hO (k+1) hlt;have AK:=AL k hlt;have hsn':=hsn;generalize flatIs (L.take k).flatten=o at *;generalize flatIs L[k]=y at *
   (repeat ((first | with_reducible refine W.step (b:=true) ?_ | skip);simp only [go_sem,↓reduceIte,Nat.reduceAdd,Nat.reduceSub,Nat.reduceMul,Nat.reduceEqDiff,Nat.reduceLeDiff,Nat.reduceLT,Int.reduceLE,Int.reduceLT,Int.reduceToNat,Int.reduceEq,hlt,r0];(try with_reducible refine drawn hmix (by kernel_rfl) ?_);try with_reducible refine ⟨by kernel_rfl,?_⟩))
   refine AtCall.mk AK ?_;have hfin:IntKind.i64.wrap ((k:Int)+1)=((k+1:Nat):Int):=up1 (by omega);have E1:(o.flatMap encI).length=o.length*8:=row_len encI 8 encI_len o;have F1:=row_all encI 8 encI_len y;have F2:y.length*8≤(y.flatMap encI).length:=by rw [row_len encI 8 encI_len];exact Nat.le_refl _
   have F3:=row_cells encI encI_cells y;have hyl:o.length+y.length≤60:=by rw [hsn,List.length_append] at hol2;exact hol2
   by_cases hy0:y.length=0
   ·obtain rfl:y=[]:=List.eq_nil_of_length_eq_zero hy0
    rw [List.append_nil] at hsn'
    (repeat ((first | with_reducible refine W.step (b:=true) ?_ | skip);simp only [go_sem,↓reduceIte,Nat.reduceAdd,Nat.reduceSub,Nat.reduceMul,Nat.reduceEqDiff,Nat.reduceLeDiff,Nat.reduceLT,Int.reduceLE,Int.reduceLT,Int.reduceToNat,Int.reduceEq];(try with_reducible refine drawn hmix (by kernel_rfl) ?_);try with_reducible refine ⟨by kernel_rfl,?_⟩))
    refine ⟨k+1,_,⟨by omega,rfl⟩,by show L.length - (k+1)<L.length - k;omega,?_⟩;rw [hfin,hsn'];exact VS.tm (by simp only [go_sem,↓reduceIte,Nat.reduceAdd,Nat.reduceSub,Nat.reduceMul,Nat.reduceEqDiff,Nat.reduceLeDiff,Nat.reduceLT,Int.reduceLE,Int.reduceLT,Int.reduceToNat,Int.reduceEq,or_true,true_or])
   ·have E5:¬(o.length+y.length≤o.length):=by omega
    have E6:(o.length+y.length)*145≤17179869184:=by omega
    (repeat ((first | with_reducible refine W.step (b:=true) ?_ | skip);simp only [go_sem,↓reduceIte,Nat.reduceAdd,Nat.reduceSub,Nat.reduceMul,Nat.reduceEqDiff,Nat.reduceLeDiff,Nat.reduceLT,Int.reduceLE,Int.reduceLT,Int.reduceToNat,Int.reduceEq,F1,F2,F3,hy0,E1,E5,E6];(try with_reducible refine drawn hmix (by kernel_rfl) ?_);try with_reducible refine ⟨by kernel_rfl,?_⟩))
    refine ⟨k+1,_,⟨by omega,rfl⟩,by show L.length - (k+1)<L.length - k;omega,?_⟩;rw [hfin,hsn'];exact VS.ren [(0,0),(1,2)] (by simp) (by simp) (by simp) (by simp only [go_sem,↓reduceIte,Nat.reduceAdd,Nat.reduceSub,Nat.reduceMul,Nat.reduceEqDiff,Nat.reduceLeDiff,Nat.reduceLT,Int.reduceLE,Int.reduceLT,Int.reduceToNat,Int.reduceEq,List.length_append]) ⟨⟨2,_,rfl,by rw [List.flatMap_append];rfl,_,rfl,.inl ⟨rfl,noIds_rows encI encI_ids _⟩⟩,⟨0,_,rfl,rfl,_,rfl,.inl ⟨rfl,rfl⟩⟩,trivial⟩
  ·obtain rfl:k=L.length:=by omega
   rw [List.take_length]
   (repeat ((first | with_reducible refine W.step (b:=true) ?_ | skip);simp only [go_sem,↓reduceIte,Nat.reduceAdd,Nat.reduceSub,Nat.reduceMul,Nat.reduceEqDiff,Nat.reduceLeDiff,Nat.reduceLT,Int.reduceLE,Int.reduceLT,Int.reduceToNat,Int.reduceEq,hlt];(try with_reducible refine drawn hmix (by kernel_rfl) ?_);try with_reducible refine ⟨by kernel_rfl,?_⟩))
   refine ⟨rfl,(),trivial,VS.sealT 1 _ rfl (row_plain encI encI_plain _) ?_ ⟨⟨by decide,.inl rfl⟩,trivial⟩⟩;simp only [frL_cons,frL_nil,frA_any,frA_self,and_true,true_and];exact .inr (.inr ⟨0,_,8,_,rfl,by rw [List.drop_zero,row_all encI 8 encI_len],by rw [row_len encI 8 encI_len];omega⟩)
 ·rintro ⟨⟩ s - hv
  simp only [go_sem,↓reduceIte,Nat.reduceAdd,Nat.reduceSub,Nat.reduceMul,Nat.reduceEqDiff,Nat.reduceLeDiff,Nat.reduceLT,Int.reduceLE,Int.reduceLT,Int.reduceToNat,Int.reduceEq];refine W.vs hv ?_;clear hv LF AL hO;have PS:∀ k,passB (itB (flatIs L.flatten) k) (flatIs L.flatten)=itB (flatIs L.flatten) (k+1):=fun _=>rfl;have IT:=fun (q:B3) (h:szB q 800000) (j:Nat) (hj:j<(flatIs L.flatten).length)=>item18_p q (flatIs L.flatten)[j] h (hF4 _ (List.getElem_mem hj));have PK:∀ (q:B3) (j:Nat) (hj:j<(flatIs L.flatten).length),passB q ((flatIs L.flatten).take (j+1))=itemB (passB q ((flatIs L.flatten).take j)) (flatIs L.flatten)[j]:=fun q j hj=>by rw [List.take_succ_eq_append_getElem hj,passB,List.foldl_append];rfl
  have PZ:∀ (k j:Nat),szB (passB (itB (flatIs L.flatten) k) ((flatIs L.flatten).take j)) 800000:=fun k j=>(passB_sz _ (SZ k) fun x hx=>hF4 x (List.mem_of_mem_take hx)).mono (by rw [List.length_take];omega);clear hF4;generalize (flatIs L.flatten)=F at *
  (repeat ((first | with_reducible refine W.step (b:=true) ?_ | skip);simp only [go_sem,↓reduceIte,Nat.reduceAdd,Nat.reduceSub,Nat.reduceMul,Nat.reduceEqDiff,Nat.reduceLeDiff,Nat.reduceLT,Int.reduceLE,Int.reduceLT,Int.reduceToNat,Int.reduceEq];(try with_reducible refine drawn hmix (by kernel_rfl) ?_);try with_reducible refine ⟨by kernel_rfl,?_⟩))
  refine W.loop (s1:=stL [.any,.any,(.ptr 0 0),(.sl F.length 8 (F.flatMap encI)),.any,(.ptr 1 0),.any,.any,.any,.any,.any,.any,.any,.any,.any,.any,.any,.any,.any,.any,.any,.any,.any,.any,.any,.any,.any,.any,.any,.any,.any,.any,.any,.any,.any,.any,.any,.any,.any,.any,.any] [(1,.cells (encB (itB F 0))),(0,.cells [.g (.slice none 0 0),.g (.slice none 0 0),.g (.slice none 0 0)])] 2)
   (fun (k:Nat) t=>k≤m∧t=stL [.any,.any,(.ptr 0 0),(.sl F.length 8 (F.flatMap encI)),.any,(.ptr 1 0),.any,.any,.any,.any,.any,.any,.any,.any,.any,.any,.any,.any,.any,.any,.any,.any,.any,.any,.any,.any,.any,.any,.any,.any,.any,.any,.any,.any,.any,.any,.any,.any,.any,.any,.any] [(1,.cells (encB (itB F k))),(0,.cells [.g (.slice none 0 0),.g (.slice none 0 0),.g (.slice none 0 0)])] 2) (fun k=>m - k) 0 ⟨Nat.zero_le _,rfl⟩ ?_ ?_
  ·refine VS.trans (VS.ren [(0,0),(1,2)] (l':=[.any,.any,(.ptr 0 0),(.sl F.length 8 (F.flatMap encI)),.any,(.ptr 1 0),.any,.any,.any,.any,.any,.any,.any,.any,.any,.any,.any,.any,.any,.any,.any,.any,.any,.any,.any,.any,.any,.any,.any,.any,.any,.any,.any,.any,.any,.any,.any,.any,.any,.any,.any]) (m':=[(1,.cells [.g (.slice none 0 0),.g (.slice none 0 0),.g (.slice none 0 0)]),(0,.cells [.g (.slice none 0 0),.g (.slice none 0 0),.g (.slice none 0 0)])]) (n':=2) (by simp) (by simp) (by simp) (by simp only [go_sem,↓reduceIte,Nat.reduceAdd,Nat.reduceSub,Nat.reduceMul,Nat.reduceEqDiff,Nat.reduceLeDiff,Nat.reduceLT,Int.reduceLE,Int.reduceLT,Int.reduceToNat,Int.reduceEq]) ⟨⟨2,_,rfl,rfl,_,rfl,.inl ⟨rfl,rfl⟩⟩,⟨0,_,rfl,rfl,_,rfl,.inl ⟨rfl,rfl⟩⟩,trivial⟩) ?_
   exact VS.weak (wkL.refl _) ⟨.inr ⟨_,_,rfl,rfl,wkL.cons (wkA.nil 1) (wkL.cons (wkA.nil 1) (wkL.cons (wkA.nil 1) (wkL.refl [])))⟩,.inl rfl,trivial⟩
  rintro k t ⟨hk,rfl⟩;have PSk:=PS k;have PZk:=PZ k;have PKk:=PK (itB F k);have hmk:itB F (k+1)=itB F k→¬k<m:=fun h hlt=>hmin k hlt h;have hmk2:itB F (k+1)≠itB F k→k<m:=fun h=>by
   rcases Nat.lt_or_ge k m with h2 | h2
   ·exact h2
   ·obtain rfl:k=m:=by omega
    exact (h hm).elim
  have SSk:=same18_p (itB F k) (itB F (k+1)) ((SZ k).mono (by decide));refine W.block ?_;generalize hq:itB F k=q at *
  (repeat ((first | with_reducible refine W.step (b:=true) ?_ | skip);simp only [go_sem,↓reduceIte,Nat.reduceAdd,Nat.reduceSub,Nat.reduceMul,Nat.reduceEqDiff,Nat.reduceLeDiff,Nat.reduceLT,Int.reduceLE,Int.reduceLT,Int.reduceToNat,Int.reduceEq,encB_eq];(try with_reducible refine drawn hmix (by kernel_rfl) ?_);try with_reducible refine ⟨by kernel_rfl,?_⟩))
  refine W.after 4 (fun _:Unit=>True) (fun _=>stL [.any,.any,(.ptr 0 0),(.sl F.length 8 (F.flatMap encI)),.any,(.ptr 1 0),(.ptr 2 0),.any,.any,.any,.any,.any,.any,.any,.any,.any,.any,.any,.any,.any,.any,.any,.any,.any,.any,.any,.any,.any,.any,.any,.any,.any,.any,.any,.any,.any,.any,.any,.any,.any,.any] [(2,.cells (encB (itB F (k+1)))),(1,.cells (encB q)),(0,.cells [.g (.slice none 0 0),.g (.slice none 0 0),.g (.slice none 0 0)])] 3) ?_ ?_
  ·refine W.loop (s1:=stL [.any,.any,(.ptr 0 0),(.sl F.length 8 (F.flatMap encI)),.any,(.ptr 1 0),(.ptr 2 0),(.g (.int .i64 ((0:Nat):Int))),.any,.any,.any,.any,.any,.any,.any,.any,.any,.any,.any,.any,.any,.any,.any,.any,.any,.any,.any,.any,.any,.any,.any,.any,.any,.any,.any,.any,.any,.any,.any,.any,.any] [(2,.cells (encB q)),(1,.cells (encB q)),(0,.cells [.g (.slice none 0 0),.g (.slice none 0 0),.g (.slice none 0 0)])] 3)
    (fun (j:Nat) t=>j≤F.length∧t=stL [.any,.any,(.ptr 0 0),(.sl F.length 8 (F.flatMap encI)),.any,(.ptr 1 0),(.ptr 2 0),(.g (.int .i64 (j:Int))),.any,.any,.any,.any,.any,.any,.any,.any,.any,.any,.any,.any,.any,.any,.any,.any,.any,.any,.any,.any,.any,.any,.any,.any,.any,.any,.any,.any,.any,.any,.any,.any,.any] [(2,.cells (encB (passB q (F.take j)))),(1,.cells (encB q)),(0,.cells [.g (.slice none 0 0),.g (.slice none 0 0),.g (.slice none 0 0)])] 3) (fun j=>F.length - j) 0 ⟨Nat.zero_le _,rfl⟩ (VS.tm (by simp [leL])) ?_
   rintro j t ⟨hj,rfl⟩
   by_cases hlt:j<F.length
   ·obtain ⟨r0,r1⟩:=rowI hlt
    have PKj:=PKk j hlt;have ITj:=IT _ (PZk j) j hlt;have hfin:IntKind.i64.wrap ((j:Int)+1)=((j+1:Nat):Int):=up1 (by omega);generalize passB q (F.take j)=qj at *
    (repeat ((first | with_reducible refine W.step (b:=true) ?_ | skip);simp only [go_sem,↓reduceIte,Nat.reduceAdd,Nat.reduceSub,Nat.reduceMul,Nat.reduceEqDiff,Nat.reduceLeDiff,Nat.reduceLT,Int.reduceLE,Int.reduceLT,Int.reduceToNat,Int.reduceEq,hlt,r0,r1,encB_eq];(try with_reducible refine drawn hmix (by kernel_rfl) ?_);try with_reducible refine ⟨by kernel_rfl,?_⟩))
    refine AtCallD.mk ITj ?_;rw [←PKj];simp only [go_sem,↓reduceIte,Nat.reduceAdd,Nat.reduceSub,Nat.reduceMul,Nat.reduceEqDiff,Nat.reduceLeDiff,Nat.reduceLT,Int.reduceLE,Int.reduceLT,Int.reduceToNat,Int.reduceEq,encB_eq];refine ⟨by kernel_rfl,?_⟩
    (repeat ((first | with_reducible refine W.step (b:=true) ?_ | skip);simp only [go_sem,↓reduceIte,Nat.reduceAdd,Nat.reduceSub,Nat.reduceMul,Nat.reduceEqDiff,Nat.reduceLeDiff,Nat.reduceLT,Int.reduceLE,Int.reduceLT,Int.reduceToNat,Int.reduceEq];(try with_reducible refine drawn hmix (by kernel_rfl) ?_);try with_reducible refine ⟨by kernel_rfl,?_⟩))
    refine ⟨j+1,_,⟨by omega,rfl⟩,by show F.length - (j+1)<F.length - j;omega,?_⟩;rw [hfin];exact VS.tm (by simp only [go_sem,↓reduceIte,Nat.reduceAdd,Nat.reduceSub,Nat.reduceMul,Nat.reduceEqDiff,Nat.reduceLeDiff,Nat.reduceLT,Int.reduceLE,Int.reduceLT,Int.reduceToNat,Int.reduceEq,or_true,true_or])
   ·obtain rfl:j=F.length:=by omega
    rw [List.take_length,PSk]
    (repeat ((first | with_reducible refine W.step (b:=true) ?_ | skip);simp only [go_sem,↓reduceIte,Nat.reduceAdd,Nat.reduceSub,Nat.reduceMul,Nat.reduceEqDiff,Nat.reduceLeDiff,Nat.reduceLT,Int.reduceLE,Int.reduceLT,Int.reduceToNat,Int.reduceEq,hlt];(try with_reducible refine drawn hmix (by kernel_rfl) ?_);try with_reducible refine ⟨by kernel_rfl,?_⟩))
    exact ⟨rfl,(),trivial,VS.tm (by simp only [go_sem,↓reduceIte,Nat.reduceAdd,Nat.reduceSub,Nat.reduceMul,Nat.reduceEqDiff,Nat.reduceLeDiff,Nat.reduceLT,Int.reduceLE,Int.reduceLT,Int.reduceToNat,Int.reduceEq,or_true,true_or])⟩
  ·rintro ⟨⟩ s - hv
   simp only [go_sem,↓reduceIte,Nat.reduceAdd,Nat.reduceSub,Nat.reduceMul,Nat.reduceEqDiff,Nat.reduceLeDiff,Nat.reduceLT,Int.reduceLE,Int.reduceLT,Int.reduceToNat,Int.reduceEq];refine W.vs hv ?_;clear hv
   (repeat ((first | with_reducible refine W.step (b:=true) ?_ | skip);simp only [go_sem,↓reduceIte,Nat.reduceAdd,Nat.reduceSub,Nat.reduceMul,Nat.reduceEqDiff,Nat.reduceLeDiff,Nat.reduceLT,Int.reduceLE,Int.reduceLT,Int.reduceToNat,Int.reduceEq,encB_eq];(try with_reducible refine drawn hmix (by kernel_rfl) ?_);try with_reducible refine ⟨by kernel_rfl,?_⟩))
   refine AtCall.mk SSk ?_;obtain ⟨sb,hs⟩:∃ sb,sameB q (itB F (k+1))=sb:=⟨_,rfl⟩;rw [hs];simp only [go_sem,↓reduceIte,Nat.reduceAdd,Nat.reduceSub,Nat.reduceMul,Nat.reduceEqDiff,Nat.reduceLeDiff,Nat.reduceLT,Int.reduceLE,Int.reduceLT,Int.reduceToNat,Int.reduceEq]
   cases sb
   ·have hlt:k<m:=hmk2 fun h=>by rw [(sameB_iff _ _).2 h.symm] at hs;cases hs
    (repeat ((first | with_reducible refine W.step (b:=true) ?_ | skip);simp only [go_sem,↓reduceIte,Nat.reduceAdd,Nat.reduceSub,Nat.reduceMul,Nat.reduceEqDiff,Nat.reduceLeDiff,Nat.reduceLT,Int.reduceLE,Int.reduceLT,Int.reduceToNat,Int.reduceEq,encB_eq];(try with_reducible refine drawn hmix (by kernel_rfl) ?_);try with_reducible refine ⟨by kernel_rfl,?_⟩))
    refine ⟨k+1,_,⟨by omega,rfl⟩,by show m - (k+1)<m - k;omega,?_⟩;exact VS.ren [(0,0),(1,1)] (by simp) (by simp) (by simp) (by simp only [go_sem,↓reduceIte,Nat.reduceAdd,Nat.reduceSub,Nat.reduceMul,Nat.reduceEqDiff,Nat.reduceLeDiff,Nat.reduceLT,Int.reduceLE,Int.reduceLT,Int.reduceToNat,Int.reduceEq]) ⟨⟨1,_,rfl,rfl,_,rfl,.inl ⟨rfl,rfl⟩⟩,⟨0,_,rfl,rfl,_,rfl,.inl ⟨rfl,rfl⟩⟩,trivial⟩
   ·have hkm:k=m:=by
     have:=hmk ((sameB_iff _ _).1 hs).symm;omega
    rw [←hkm,hq]
    (repeat ((first | with_reducible refine W.step (b:=true) ?_ | skip);simp only [go_sem,↓reduceIte,Nat.reduceAdd,Nat.reduceSub,Nat.reduceMul,Nat.reduceEqDiff,Nat.reduceLeDiff,Nat.reduceLT,Int.reduceLE,Int.reduceLT,Int.reduceToNat,Int.reduceEq,encB_eq];(try with_reducible refine drawn hmix (by kernel_rfl) ?_);try with_reducible refine ⟨by kernel_rfl,?_⟩))
    refine postP_one _ (.inr rfl) ?_ (.agg ?_)
    ·simp only [resV,go_sem,↓reduceIte,Nat.reduceAdd,Nat.reduceSub,Nat.reduceMul,Nat.reduceEqDiff,Nat.reduceLeDiff,Nat.reduceLT,Int.reduceLE,Int.reduceLT,Int.reduceToNat,Int.reduceEq,encB_eq]
    ·simp [plainA]
end Go.Proofs.YtlnaihkombcbcaaGreat
namespace Go.Proofs.YtlnaihkombcbcaaGreat
open Go.ChangeShapes Go.WideShapes Go.RowKit Go.Ev
theorem b_simp:Tryz.prog.bytesOf 239=80:=by kernel_rfl
theorem b_cx:Tryz.prog.bytesOf 90=40:=by kernel_rfl
mutual
def wsI:Itm→Prop
 | .mk _ s _ _ _ _ _ l=>s.length≤140737488351232∧(∀ c∈s,wdC c)∧wsIs l
def wsIs:List Itm→Prop
 | []=>True
 | x::xs=>wsI x∧wsIs xs
end
theorem wsI_eq (x:Itm):wsI x↔x.sels.length≤140737488351232∧(∀ c∈x.sels,wdC c)∧wsIs x.l:=by cases x;rw [wsI];rfl
theorem wsIs_all:∀ {l:List Itm},(∀ x∈l,wsI x)→wsIs l
 | [],_=>by rw [wsIs];trivial
 | x::l,h=>by rw [wsIs];exact ⟨h x List.mem_cons_self,wsIs_all fun y hy=>h y (List.mem_cons_of_mem _ hy)⟩
theorem ws_len {n b:Nat} (h:n*(b+1)≤reachBytes):n≤140737488351232 :=
 Nat.le_trans (Nat.le_trans (Nat.le_mul_of_pos_right _ (Nat.succ_pos b)) h) (by decide)
theorem wdSs_all:∀ {l:List Simp},(∀ x∈l,wdS x=true)→wdSs l=true
 | [],_=>by rw [wdSs]
 | x::l,h=>by rw [wdSs,h x List.mem_cons_self,wdSs_all fun y hy=>h y (List.mem_cons_of_mem _ hy)];rfl
theorem wdS_mk {k:Int} {n v:ByteArray} {a b:Int} {l:List Simp} (hb:l.length*80≤reachBytes) (hg:∀ x∈l,wdS x=true):wdS (.mk k n v a b l)=true:=by
 rw [wdS,wdSs_all hg,Bool.and_true];exact decide_eq_true (ws_len hb)
def wdP (p:Part):Prop:=p.l.length≤140737488351232∧wdSs p.l=true
theorem wdP_mk {k:Int} {l:List Simp} (hb:l.length*80≤reachBytes) (hg:∀ x∈l,wdS x=true):wdP ⟨k,l⟩:=⟨ws_len hb,wdSs_all hg⟩
theorem wdC_mk {s:ByteArray} {l:List Part} (hb:l.length*32≤reachBytes) (hg:∀ x∈l,wdP x):wdC ⟨l,s⟩:=⟨ws_len hb,hg⟩
section
variable {H:Type} {enc:TypeId×Value→H} {W:World} {sp:Nat→Bool} {held:Bool}
set_option maxRecDepth 100000 in
theorem openw_simp:∀ (fuel:Nat) (cs:List Value) (x:DataW H×List MemPlace),DataW.trod enc Tryz.prog W 0 sp held fuel 239 cs=some x→Fits Tryz.prog 239 x.1→∃ a:Simp,Ats W (encS a) cs∧wdS a=true:=by
 intro fuel
 induction fuel using Nat.strongRecOn with
 | ind fuel ih =>
   intro cs x h hfit;obtain ⟨hl,n,rfl,hf⟩:=field_of Tryz.underlying239 h;rw [c_simp] at hl;obtain ⟨c0,c1,c2,c3,c4,c5,rfl⟩:∃ c0 c1 c2 c3 c4 c5,cs=[c0,c1,c2,c3,c4,c5]:=by
    match cs,hl with
    | [a,b,c,d,e,f],_=>exact ⟨a,b,c,d,e,f,rfl⟩
   obtain ⟨y0,h0,f0⟩:∃ y,DataW.trod enc Tryz.prog W 0 sp held n 3 ((List.drop 0 [c0,c1,c2,c3,c4,c5]).take (Tryz.prog.cellsOf 3))=some y∧(Fits Tryz.prog 239 x.1→Fits Tryz.prog 3 y.1):=hf 0 _ rfl;obtain ⟨y1,h1,f1⟩:∃ y,DataW.trod enc Tryz.prog W 0 sp held n 9 ((List.drop 1 [c0,c1,c2,c3,c4,c5]).take (Tryz.prog.cellsOf 9))=some y∧(Fits Tryz.prog 239 x.1→Fits Tryz.prog 9 y.1):=hf 1 _ rfl;obtain ⟨y2,h2,f2⟩:∃ y,DataW.trod enc Tryz.prog W 0 sp held n 9 ((List.drop 2 [c0,c1,c2,c3,c4,c5]).take (Tryz.prog.cellsOf 9))=some y∧(Fits Tryz.prog 239 x.1→Fits Tryz.prog 9 y.1):=hf 2 _ rfl;obtain ⟨y3,h3,f3⟩:∃ y,DataW.trod enc Tryz.prog W 0 sp held n 3 ((List.drop 3 [c0,c1,c2,c3,c4,c5]).take (Tryz.prog.cellsOf 3))=some y∧(Fits Tryz.prog 239 x.1→Fits Tryz.prog 3 y.1):=hf 3 _ rfl;obtain ⟨y4,h4,f4⟩:∃ y,DataW.trod enc Tryz.prog W 0 sp held n 3 ((List.drop 4 [c0,c1,c2,c3,c4,c5]).take (Tryz.prog.cellsOf 3))=some y∧(Fits Tryz.prog 239 x.1→Fits Tryz.prog 3 y.1):=hf 4 _ rfl;obtain ⟨y5,h5,f5⟩:∃ y,DataW.trod enc Tryz.prog W 0 sp held n 178 ((List.drop 5 [c0,c1,c2,c3,c4,c5]).take (Tryz.prog.cellsOf 178))=some y∧(Fits Tryz.prog 239 x.1→Fits Tryz.prog 178 y.1):=hf 5 _ rfl;simp only [c_int,c_str,c_simps,List.drop,List.take] at h0 h1 h2 h3 h4 h5;obtain ⟨k,e0,-⟩:=DataW.trod_int Tryz.underlying3 h0;obtain ⟨nm,e1,-⟩:=DataW.trod_string Tryz.underlying9 h1;obtain ⟨vl,e2,-⟩:=DataW.trod_string Tryz.underlying9 h2;obtain ⟨a,e3,-⟩:=DataW.trod_int Tryz.underlying3 h3;obtain ⟨b,e4,-⟩:=DataW.trod_int Tryz.underlying3 h4;obtain ⟨l,v,e5,hv,hg,hb⟩:=open_sl (fun a:Simp=>wdS a=true) encS 6 encS_len (by decide) Tryz.underlying178 c_simp (fun m hm=>ih m (by omega)) h5 (f5 hfit);simp only [List.cons.injEq,and_true] at e0 e1 e2 e3 e4 e5;subst e0 e1 e2 e3 e4 e5;rw [b_simp] at hb;refine ⟨.mk k nm vl a b l,?_,wdS_mk hb hg⟩;rw [encS,encSs_flat];exact VRs.cons_mk rfl (VRs.cons_mk rfl (VRs.cons_mk rfl (VRs.cons_mk rfl (VRs.cons_mk rfl (VRs.cons_mk hv (by rw [VRs]))))))
set_option maxRecDepth 100000 in
theorem openw_part (fuel:Nat) (cs:List Value) (x:DataW H×List MemPlace) (h:DataW.trod enc Tryz.prog W 0 sp held fuel 180 cs=some x) (hfit:Fits Tryz.prog 180 x.1):∃ a:Part,Ats W (encP a) cs∧wdP a:=by
 obtain ⟨hl,n,rfl,hf⟩:=field_of Tryz.underlying180 h;rw [c_part] at hl;obtain ⟨c0,c1,rfl⟩:∃ c0 c1,cs=[c0,c1]:=by
  match cs,hl with
  | [a,b],_=>exact ⟨a,b,rfl⟩
 obtain ⟨y0,h0,f0⟩:∃ y,DataW.trod enc Tryz.prog W 0 sp held n 3 ((List.drop 0 [c0,c1]).take (Tryz.prog.cellsOf 3))=some y∧(Fits Tryz.prog 180 x.1→Fits Tryz.prog 3 y.1):=hf 0 _ rfl;obtain ⟨y1,h1,f1⟩:∃ y,DataW.trod enc Tryz.prog W 0 sp held n 178 ((List.drop 1 [c0,c1]).take (Tryz.prog.cellsOf 178))=some y∧(Fits Tryz.prog 180 x.1→Fits Tryz.prog 178 y.1):=hf 1 _ rfl;simp only [c_int,c_simps,List.drop,List.take] at h0 h1;obtain ⟨k,e0,-⟩:=DataW.trod_int Tryz.underlying3 h0;obtain ⟨l,v,e1,hv,hg,hb⟩:=open_sl (fun a:Simp=>wdS a=true) encS 6 encS_len (by decide) Tryz.underlying178 c_simp (fun m _=>openw_simp m) h1 (f1 hfit);simp only [List.cons.injEq,and_true] at e0 e1;subst e0 e1;rw [b_simp] at hb;exact ⟨⟨k,l⟩,VRs.cons_mk rfl (VRs.cons_mk hv (by rw [VRs])),wdP_mk hb hg⟩
set_option maxRecDepth 100000 in
theorem openw_cx (fuel:Nat) (cs:List Value) (x:DataW H×List MemPlace) (h:DataW.trod enc Tryz.prog W 0 sp held fuel 90 cs=some x) (hfit:Fits Tryz.prog 90 x.1):∃ a:Cx,Ats W (encC a) cs∧wdC a:=by
 obtain ⟨hl,n,rfl,hf⟩:=field_of Tryz.underlying90 h;rw [c_cx] at hl;obtain ⟨c0,c1,rfl⟩:∃ c0 c1,cs=[c0,c1]:=by
  match cs,hl with
  | [a,b],_=>exact ⟨a,b,rfl⟩
 obtain ⟨y0,h0,f0⟩:∃ y,DataW.trod enc Tryz.prog W 0 sp held n 88 ((List.drop 0 [c0,c1]).take (Tryz.prog.cellsOf 88))=some y∧(Fits Tryz.prog 90 x.1→Fits Tryz.prog 88 y.1):=hf 0 _ rfl;obtain ⟨y1,h1,f1⟩:∃ y,DataW.trod enc Tryz.prog W 0 sp held n 9 ((List.drop 1 [c0,c1]).take (Tryz.prog.cellsOf 9))=some y∧(Fits Tryz.prog 90 x.1→Fits Tryz.prog 9 y.1):=hf 1 _ rfl;simp only [c_str,c_parts,List.drop,List.take] at h0 h1;obtain ⟨l,v,e0,hv,hg,hb⟩:=open_sl (fun a:Part=>wdP a) encP 2 (fun _=>rfl) (by decide) Tryz.underlying88 c_part (fun m _=>openw_part m) h0 (f0 hfit);obtain ⟨s,e1,-⟩:=DataW.trod_string Tryz.underlying9 h1;simp only [List.cons.injEq,and_true] at e0 e1;subst e0 e1;rw [b_part] at hb;exact ⟨⟨l,s⟩,VRs.cons_mk hv (VRs.cons_mk rfl (by rw [VRs])),wdC_mk hb hg⟩
set_option maxRecDepth 100000 in
theorem openw_item:∀ (fuel:Nat) (cs:List Value) (x:DataW H×List MemPlace),DataW.trod enc Tryz.prog W 0 sp held fuel 53 cs=some x→Fits Tryz.prog 53 x.1→∃ a:Itm,Ats W (encI a) cs∧gsI a=true∧wsI a:=by
 intro fuel
 induction fuel using Nat.strongRecOn with
 | ind fuel ih =>
   intro cs x h hfit;obtain ⟨hl,n,rfl,hf⟩:=field_of Tryz.underlying53 h;rw [c_item] at hl;obtain ⟨c0,c1,c2,c3,c4,c5,c6,c7,rfl⟩:∃ c0 c1 c2 c3 c4 c5 c6 c7,cs=[c0,c1,c2,c3,c4,c5,c6,c7]:=by
    match cs,hl with
    | [a,b,c,d,e,f,g,i],_=>exact ⟨a,b,c,d,e,f,g,i,rfl⟩
   obtain ⟨y0,h0,f0⟩:∃ y,DataW.trod enc Tryz.prog W 0 sp held n 3 ((List.drop 0 [c0,c1,c2,c3,c4,c5,c6,c7]).take (Tryz.prog.cellsOf 3))=some y∧(Fits Tryz.prog 53 x.1→Fits Tryz.prog 3 y.1):=hf 0 _ rfl;obtain ⟨y1,h1,f1⟩:∃ y,DataW.trod enc Tryz.prog W 0 sp held n 50 ((List.drop 1 [c0,c1,c2,c3,c4,c5,c6,c7]).take (Tryz.prog.cellsOf 50))=some y∧(Fits Tryz.prog 53 x.1→Fits Tryz.prog 50 y.1):=hf 1 _ rfl;obtain ⟨y2,h2,f2⟩:∃ y,DataW.trod enc Tryz.prog W 0 sp held n 51 ((List.drop 2 [c0,c1,c2,c3,c4,c5,c6,c7]).take (Tryz.prog.cellsOf 51))=some y∧(Fits Tryz.prog 53 x.1→Fits Tryz.prog 51 y.1):=hf 2 _ rfl;obtain ⟨y3,h3,f3⟩:∃ y,DataW.trod enc Tryz.prog W 0 sp held n 25 ((List.drop 3 [c0,c1,c2,c3,c4,c5,c6,c7]).take (Tryz.prog.cellsOf 25))=some y∧(Fits Tryz.prog 53 x.1→Fits Tryz.prog 25 y.1):=hf 3 _ rfl;obtain ⟨y4,h4,f4⟩:∃ y,DataW.trod enc Tryz.prog W 0 sp held n 3 ((List.drop 4 [c0,c1,c2,c3,c4,c5,c6,c7]).take (Tryz.prog.cellsOf 3))=some y∧(Fits Tryz.prog 53 x.1→Fits Tryz.prog 3 y.1):=hf 4 _ rfl;obtain ⟨y5,h5,f5⟩:∃ y,DataW.trod enc Tryz.prog W 0 sp held n 3 ((List.drop 5 [c0,c1,c2,c3,c4,c5,c6,c7]).take (Tryz.prog.cellsOf 3))=some y∧(Fits Tryz.prog 53 x.1→Fits Tryz.prog 3 y.1):=hf 5 _ rfl;obtain ⟨y6,h6,f6⟩:∃ y,DataW.trod enc Tryz.prog W 0 sp held n 27 ((List.drop 6 [c0,c1,c2,c3,c4,c5,c6,c7]).take (Tryz.prog.cellsOf 27))=some y∧(Fits Tryz.prog 53 x.1→Fits Tryz.prog 27 y.1):=hf 6 _ rfl;obtain ⟨y7,h7,f7⟩:∃ y,DataW.trod enc Tryz.prog W 0 sp held n 46 ((List.drop 7 [c0,c1,c2,c3,c4,c5,c6,c7]).take (Tryz.prog.cellsOf 46))=some y∧(Fits Tryz.prog 53 x.1→Fits Tryz.prog 46 y.1):=hf 7 _ rfl;simp only [c_int,c_strs,c_cxs,c_decls,c_vals,c_items,List.drop,List.take] at h0 h1 h2 h3 h4 h5 h6 h7;obtain ⟨k,e0,-⟩:=DataW.trod_int Tryz.underlying3 h0;obtain ⟨l1,v1,e1,hv1,hg1,hb1⟩:=open_sl (fun c:Cx=>wdC c) encC 2 (fun _=>rfl) (by decide) Tryz.underlying50 c_cx (fun m _=>openw_cx m) h1 (f1 hfit);obtain ⟨l2,v2,e2,hv2,-,-⟩:=open_sl (fun _=>True) encD 3 encD_len (by decide) Tryz.underlying51 c_decl (fun m _=>open_decl m) h2 (f2 hfit);obtain ⟨l3,v3,e3,hv3,-,-⟩:=open_sl (fun _=>True) encN 1 (fun _=>rfl) (by decide) Tryz.underlying25 c_str (fun m _=>open_name m) h3 (f3 hfit);obtain ⟨mn,e4,-⟩:=DataW.trod_int Tryz.underlying3 h4;obtain ⟨mx,e5,-⟩:=DataW.trod_int Tryz.underlying3 h5;obtain ⟨l6,v6,e6,hv6,-,-⟩:=open_sl (fun _=>True) encV 5 encV_len (by decide) Tryz.underlying27 c_val (fun m _=>open_val m) h6 (f6 hfit);obtain ⟨l7,v7,e7,hv7,hg7,-⟩:=open_sl (fun x:Itm=>gsI x=true∧wsI x) encI 8 encI_len (by decide) Tryz.underlying46 c_item (fun m hm=>ih m (by omega)) h7 (f7 hfit);simp only [List.cons.injEq,and_true] at e0 e1 e2 e3 e4 e5 e6 e7;subst e0 e1 e2 e3 e4 e5 e6 e7;refine ⟨.mk k l1 l2 l3 mn mx l6 l7,?_,?_⟩
   rotate_left
   ·rw [b_cx] at hb1
    refine ⟨?_,?_⟩
    ·rw [gsI,gsIs_all (fun x hx=>(hg7 x hx).1),Bool.and_true,List.all_eq_true]
     exact fun c hc=>decide_eq_true (hg1 c hc).1
    ·rw [wsI]
     exact ⟨ws_len hb1,hg1,wsIs_all fun x hx=>(hg7 x hx).2⟩
   rw [encI,encIs_flat];exact VRs.cons_mk rfl (VRs.cons_mk hv1 (VRs.cons_mk hv2 (VRs.cons_mk hv3 (VRs.cons_mk rfl (VRs.cons_mk rfl (VRs.cons_mk hv6 (VRs.cons_mk hv7 (by rw [VRs]))))))))
set_option maxRecDepth 100000 in
theorem openw_sheet (fuel:Nat) (cs:List Value) (x:DataW H×List MemPlace) (h:DataW.trod enc Tryz.prog W 0 sp held fuel 46 cs=some x) (hfit:Fits Tryz.prog 46 x.1):∃ a:List Itm,Ats W (encSh a) cs∧gsIs a=true∧wsIs a:=by
 obtain ⟨l,v,e,hv,hg,-⟩:=open_sl (fun x:Itm=>gsI x=true∧wsI x) encI 8 encI_len (by decide) Tryz.underlying46 c_item (fun m _=>openw_item m) h hfit;subst e;exact ⟨l,VRs.cons_mk hv (by rw [VRs]),gsIs_all fun x hx=>(hg x hx).1,wsIs_all fun x hx=>(hg x hx).2⟩
set_option maxRecDepth 1000000 in
theorem openw_sheets {base:Nat} {v:Value} {d:DataW H} {ps:List MemPlace} (hval:Value.okWide Tryz.prog W .any base 39 v) (h:DataW.Trod enc Tryz.prog W 0 sp held 39 v d ps) (hfit:Fits Tryz.prog 39 d) :
 ∃ l:List (List Itm),At W (.sl l.length 1 (l.flatMap encSh)) v∧(∀ x∈l,gsIs x=true)∧∀ x∈l,wsIs x:=by
 obtain ⟨fuel,hv⟩:=h;obtain ⟨a,n,c,rfl⟩:=okWide_slice Tryz.underlying39 hval;obtain ⟨l,v,e,hl,hg,-⟩:=open_sl (fun x:List Itm=>gsIs x=true∧wsIs x) encSh 1 (fun _=>rfl) (by decide) Tryz.underlying39 c_items (fun m _=>openw_sheet m) hv hfit;simp only [Value.cells,List.cons.injEq,and_true] at e;subst e;exact ⟨l,hl,fun x hx=>(hg x hx).1,fun x hx=>(hg x hx).2⟩
end
theorem drop_ws (p:S3) (N:Nat):∀ (l:List Itm),SizeOf.sizeOf l≤N→wsIs l→wsIs (dropIs p l):=by
 induction N with
 | zero=>intro l hl;cases l <;> simp at hl <;> omega
 | succ N ihN =>
   intro l hl hok;have key:∀ (a:List Itm),(∀ x∈a,SizeOf.sizeOf x.l≤N)→wsIs a→wsIs (dropIs p a):=by
    intro a ha hoa
    induction a with
    | nil=>rw [dropIs_nil];exact hoa
    | cons y a ih =>
      rw [wsIs] at hoa;have h2:=ih (fun z hz=>ha z (List.mem_cons_of_mem _ hz)) hoa.2
      cases h:keepI p y with
      | none=>rw [dropIs_none h];exact h2
      | some y' =>
        have hk:=kp_of h;obtain ⟨g1,g2,g3⟩:=(wsI_eq y).1 hoa.1;have g4:=ihN _ (ha y List.mem_cons_self) g3;rw [dropIs_some h,wsIs];refine ⟨?_,h2⟩
        cases hk with
        | same=>exact hoa.1
        | rule h1 hne=>exact (wsI_eq _).2 ⟨g1,g2,g3⟩
        | block hk hne=>exact (wsI_eq _).2 ⟨g1,g2,g4⟩
        | layer hk he=>exact (wsI_eq _).2 ⟨by simp [Itm.sels],by simp [Itm.sels],trivial⟩
   exact key l (fun x hx=>by have:=itm_lt hx;omega) hok
theorem left_ws (p:S3) {l:List Itm} (h:wsIs l):wsIs (dropIs p l):=drop_ws p _ l (Nat.le_refl _) h
theorem wd_of (N:Nat):∀ (l:List Itm),SizeOf.sizeOf l≤N→okIs l→cntIs l≤1000→wsIs l→wdIs l:=by
 induction N with
 | zero=>intro l hl;cases l <;> simp at hl <;> omega
 | succ N ihN =>
   intro l hl h1 h2 h3;have key:∀ (a:List Itm),(∀ x∈a,SizeOf.sizeOf x.l≤N)→okIs a→cntIs a≤1000→wsIs a→wdIs a:=by
    intro a ha h1 h2 h3
    induction a with
    | nil=>rw [wdIs];trivial
    | cons y a ih =>
      rw [okIs] at h1;rw [wsIs] at h3;rw [cntIs,cntI_eq] at h2;obtain ⟨g1,g2,g3,g4,g5⟩:=(okI_eq y).1 h1.1;obtain ⟨f1,f2,f3⟩:=(wsI_eq y).1 h3.1;rw [wdIs];refine ⟨(wdI_eq y).2 ⟨⟨f1,f2⟩,⟨by have:=g1.1;omega,fun d hd=>by have:=(g1.2 d hd).1;omega⟩,by omega,by omega,by have:=cntIs_len y.l;omega,ihN _ (ha y List.mem_cons_self) g5 (by omega) f3⟩,ih (fun z hz=>ha z (List.mem_cons_of_mem _ hz)) h1.2 (by omega) h3.2⟩
   exact key l (fun x hx=>by have:=itm_lt hx;omega) h1 h2 h3
theorem wd_all {l:List Itm} (h1:okIs l) (h2:cntIs l≤1000) (h3:wsIs l):wdIs l:=wd_of _ l (Nat.le_refl _) h1 h2 h3
end Go.Proofs.YtlnaihkombcbcaaGreat
namespace Go.Proofs.YtlnaihkombcbcaaGreat
open Go.RowKit Go.Sort Go.Ev
theorem same8_at {l:List Itm} {v1 v2:Value} {w:World} (h1:okIs l) (h2:cntIs l≤1000) (h3:wsIs l) (ha:AtB w.heap.size w (.sl l.length 8 (l.flatMap encI)) v1) (hb:AtB w.heap.size w (.sl l.length 8 (l.flatMap encI)) v2) :
 Calls Tryz.prog 27 #[v1,v2] w fun e w'=>e=.returned (.bool true)∧Below w.heap.size w w':=by
 have hl:=cntIs_len l;refine ((same8_p _ l (Nat.le_refl _) (by omega) (wd_all h1 h2 h3)).pure.at w #[v1,v2] (fun _ _ h=>by cases h) (VRs.cons_mk ha (VRs.cons_mk hb (by rw [VRs])))).mono ?_;rintro e w' ⟨r,rfl,hr,hB⟩;obtain rfl:r=.bool true:=hr;exact ⟨rfl,hB⟩
theorem len_flatNm:∀ (l:List ByteArray),(l.flatMap encN).length=l.length
 | []=>rfl
 | x::l=>by rw [List.flatMap_cons,List.length_append,len_flatNm l,List.length_cons];show 1+_=_;omega
theorem sat_at {w:World} {v:Value} {c:List Str} (h:SAt w v c):At w (stA c) v:=by
 rcases h with ⟨h0,a,cp,rfl⟩ | ⟨b,off,cap,rfl,hc,hp,hg⟩
 ·show VR _ _ (.sl (c.map bs).length 1 ((c.map bs).flatMap encN)) _
  rw [h0];exact ⟨a,cp,rfl,Nat.zero_le _,.inl rfl⟩
 ·refine ⟨_,cap,rfl,hc,.inr ⟨b,off,rfl,RowR.mk (cell_lt (hg 0 hp)) fun i a hi=>?_⟩⟩
  have hlt:i<(c.map bs).length:=by have:=(List.getElem?_eq_some_iff.1 hi).1;rwa [len_flatNm] at this
  refine ⟨_,hg i hlt,?_⟩;have h2:=flat_get encN 1 (fun _=>rfl) (c.map bs) i hlt 0 (by decide);rw [Nat.mul_one,Nat.add_zero] at h2;rw [h2] at hi;obtain rfl:=Option.some.inj hi
  rfl
structure LfSt (z B:Nat) (o:Obj) (w:World) (l:List (List Itm)) (v:Value) (W:World):Prop where
 below:Below B w W
 box:W.heap[B]?=some o
 row:∃ news,W.ownsRow (B+1) 46 1 v l.length news∧VRs W ⟨fun _=>none,fun b=>(b<z∨B+1≤b)∧b<W.heap.size∧v.ownBlock≠some b⟩ (l.flatMap encSh) news
 size:B+1≤W.heap.size
section
variable {z B:Nat} {o:Obj} {w W W':World} {l:List (List Itm)} {v:Value}
end
theorem at_strs {w:World} {v:Value} {l:List ByteArray} (h:At w (.sl l.length 1 (l.flatMap encN)) v):StrsAt w v l:=by
 rcases slB_cells encN 1 (fun _=>rfl) (by decide) (At.toB h) with ⟨rfl,ad,cap,rfl⟩ | ⟨b,o,cap,rfl,hcap,hpos,hbz,hc⟩
 ·exact .inl ⟨rfl,_,_,rfl⟩
 ·refine .inr ⟨b,o,cap,rfl,hcap,hpos,fun j hj=>?_⟩
  obtain ⟨x,h1,h2⟩:=hc j hj 0 _ rfl;obtain rfl:x=_:=h2;rw [Nat.mul_one,Nat.add_zero] at h1;exact h1
theorem at_sat {w:World} {v:Value} {c:List Str} (h:At w (stA c) v):SAt w v c:=at_strs h
theorem bs_sOf (l:List ByteArray):(l.map sOf).map bs=l:=by
 rw [List.map_map]
 conv=>rhs;rw [←List.map_id l]
 rfl
theorem b3_at {w:World} {v:Value} {p:B3} (h:At w (.agg (encB p)) v):PlAt w v p.s:=by
 obtain ⟨rc,rfl,h⟩:=h;obtain ⟨va,r1,e1,h1,h⟩:=h;obtain ⟨vb,r2,rfl,h2,h⟩:=h;obtain ⟨vc,r3,rfl,h3,h⟩:=h;have h4:r3=[]:=h;subst h4;obtain rfl:rc=#[va,vb,vc]:=by cases rc;simp_all
 refine ⟨va,vb,vc,rfl,?_,?_,?_⟩
 ·show StrsAt w va ((p.c.map sOf).map bs)
  rw [bs_sOf];exact at_strs h1
 ·show StrsAt w vb ((p.f.map sOf).map bs)
  rw [bs_sOf];exact at_strs h2
 ·show StrsAt w vc ((p.g.map sOf).map bs)
  rw [bs_sOf];exact at_strs h3
theorem of18_at {L:List (List Itm)} {v:Value} {w:World} (hv:At w (.sl L.length 1 (L.flatMap encSh)) v) (hL:∀ l∈L,okSh l) (h4:L.length≤4) :
 Calls Tryz.prog 34 #[v] w fun e w'=>∃ pv s,e=.returned pv∧PlAt w' pv s∧FinU (rulesOf L.flatten) s∧Below w.heap.size w w':=by
 obtain ⟨m,hm,hmin⟩:=itB_end hL h4;refine ((of18_p L hL h4 m hm hmin).pure.at w #[v] (fun _ _ h=>by cases h) (VRs.cons_mk hv (by rw [VRs]))).mono ?_;rintro e w' ⟨r,rfl,hr,hB⟩;exact ⟨r,_,rfl,b3_at hr,(itB_of L m).fin hm,hB⟩
theorem drop18_at {s:S3} {l:List Itm} {pv v:Value} {w:World} (hs:smallP s) (hok:okIs l) (hcn:cntIs l≤1000) (hp:PlAt w pv s) (hv:At w (.sl l.length 8 (l.flatMap encI)) v) :
 Calls Tryz.prog 29 #[pv,v] w fun e w'=>∃ a c,e=.returned (.slice a (dropIs s l).length c)∧AtB w'.heap.size w' (.sl (dropIs s l).length 8 ((dropIs s l).flatMap encI)) (.slice a (dropIs s l).length c)∧Below w.heap.size w w':=by
 obtain ⟨va,vb,vc,rfl,p1,p2,p3⟩:=hp
 refine ((drop18_p s hs _ l (Nat.le_refl _) hok hcn).pure.at w #[.agg #[va,vb,vc],v] (fun _ _ h=>by cases h)
  (VRs.cons_mk ⟨_,rfl,VRs.cons_mk (sat_at p1) (VRs.cons_mk (sat_at p2) (VRs.cons_mk (sat_at p3) (by rw [VRs])))⟩ (VRs.cons_mk hv (by rw [VRs])))).mono ?_
 rintro e w' ⟨r,rfl,hr,hB⟩;have hr':=At.toB hr;obtain ⟨a,c,rfl,-⟩:=At.sl_form hr;exact ⟨a,c,rfl,hr',hB⟩
theorem names18_at {w:World} {κ:Int} {vs:List Vl} {r:Value} (h:At w (.sl (putsB [] (txVs κ vs)).length 1 ((putsB [] (txVs κ vs)).flatMap encN)) r):SAt w r (ofM κ vs):=by
 rw [names_B] at h;exact at_sat h
theorem idents18_at {vs:List Vl} {v:Value} {w:World} (hcn:cntVs vs≤1000) (hv:At w (.sl vs.length 5 (vs.flatMap encV)) v) :
 Calls Tryz.prog 37 #[v] w fun e w'=>∃ r,e=.returned r∧SAt w' r (ofM 1 vs)∧Below w.heap.size w w':=by
 refine ((idents18_p vs hcn).pure.at w #[v] (fun _ _ h=>by cases h) (VRs.cons_mk hv (by rw [VRs]))).mono ?_;rintro e w' ⟨r,rfl,hr,hB⟩;exact ⟨r,rfl,names18_at hr,hB⟩
theorem strings18_at {vs:List Vl} {v:Value} {w:World} (hcn:cntVs vs≤1000) (hv:At w (.sl vs.length 5 (vs.flatMap encV)) v) :
 Calls Tryz.prog 39 #[v] w fun e w'=>∃ r,e=.returned r∧SAt w' r (ofM 6 vs)∧Below w.heap.size w w':=by
 refine ((strings18_p vs hcn).pure.at w #[v] (fun _ _ h=>by cases h) (VRs.cons_mk hv (by rw [VRs]))).mono ?_;rintro e w' ⟨r,rfl,hr,hB⟩;exact ⟨r,rfl,names18_at hr,hB⟩
section
variable {x:Itm} {w:World} {z:Nat} {a1 a2 a3 a6 a7:Option Addr} {c1 c2 c3 c6 c7:Nat}
theorem fam18_at (hd:okDs x.decls) (hz:z≤w.heap.size) (hi:ItB z w x a1 c1 a2 c2 a3 c3 a6 c6 a7 c7) :
 Calls Tryz.prog 31 #[itV x.kind a1 x.sels.length c1 a2 x.decls.length c2 a3 x.names.length c3 x.mn x.mx a6 x.vals.length c6 a7 x.l.length c7] w fun e w'=>e=.returned (.tuple #[.string (famM x.kind x.decls).1,.bool (famM x.kind x.decls).2])∧Below w.heap.size w w':=by
 have hdl:∀ d∈x.decls,d.l.length≤1000:=fun d hd'=>by have:=(hd.2 d hd').1;have:=cntVs_len d.l;omega
 have hI:=VRs_keep (I:=(gZ z).I) (I':=fun b=>b<w.heap.size) (fun rb (hr:rb<z)=>Nat.lt_of_lt_of_le hr hz) (fun _ _=>rfl) _ (vrsB_item hi);rw [encI_eq] at hI;refine ((fam18_p x.kind x.mn x.mx _ _ _ _ _ _ _ _ _ _ _ _ x.decls (by have:=hd.1;omega) hdl).pure.at w #[itV x.kind a1 x.sels.length c1 a2 x.decls.length c2 a3 x.names.length c3 x.mn x.mx a6 x.vals.length c6 a7 x.l.length c7] (fun _ _ h=>by cases h) (VRs.cons_mk ⟨_,rfl,hI⟩ (by rw [VRs]))).mono ?_;rintro e w' ⟨r,rfl,hr,hB⟩;obtain ⟨rc,rfl,h⟩:=hr;obtain ⟨va,r1,e1,h1,h⟩:=h;obtain ⟨vb,r2,rfl,h2,h⟩:=h;have h4:r2=[]:=h;obtain rfl:va=_:=h1;obtain rfl:vb=_:=h2;subst h4;obtain rfl:rc=#[.string (famM x.kind x.decls).1,.bool (famM x.kind x.decls).2]:=by cases rc;simp_all
 exact ⟨rfl,hB⟩
theorem fam_at (hd:okDs x.decls) (hz:z≤w.heap.size) (hi:ItB z w x a1 c1 a2 c2 a3 c3 a6 c6 a7 c7) :
 Calls Tryz.prog 30 #[itV x.kind a1 x.sels.length c1 a2 x.decls.length c2 a3 x.names.length c3 x.mn x.mx a6 x.vals.length c6 a7 x.l.length c7] w fun e w'=>e=.returned (.tuple #[.string (famM x.kind x.decls).1,.bool (famM x.kind x.decls).2])∧Below w.heap.size w w':=by
 have hdl:∀ d∈x.decls,d.l.length≤1000000:=fun d hd'=>by have:=(hd.2 d hd').1;have:=cntVs_len d.l;omega
 exact (callsIn_wide (n:=7)).1 (family_in 7 (Nat.le_refl 7) x.kind x.mn x.mx a1 a3 a6 a7 a2 x.sels.length c1 x.names.length c3 x.vals.length c6 x.l.length c7 c2 x.decls w (hi.d.toAt hz) (by have:=hd.1;omega) hdl)
end
theorem smallP_of {s:S3} (h:smallB (s.c++s.f++s.g)=true):smallP s:=by
 have:=(smallB_iff _).1 h;have h1:=this.1;rw [List.length_append,List.length_append] at h1;exact ⟨by omega,by omega,by omega⟩
theorem box3_cells {w W:World} {va vb vc:Value} {t:TypeId} (h:Below (w.alloc (.cells #[va,vb,vc] t)).heap.size (w.alloc (.cells #[va,vb,vc] t)) W) :
 W.cell? ⟨w.heap.size,0,none⟩=some va∧W.cell? ⟨w.heap.size,1,none⟩=some vb∧W.cell? ⟨w.heap.size,2,none⟩=some vc:=by
 have hn:=(h.block w.heap.size (by simp)).trans (World.alloc_heap_new w (.cells #[va,vb,vc] t));exact ⟨by rw [Lib.cell_of_heap hn];rfl,by rw [Lib.cell_of_heap hn];rfl,by rw [Lib.cell_of_heap hn];rfl⟩
set_option maxRecDepth 100000 in
set_option maxHeartbeats 16000000 in
theorem poolTells_any (L:List (List Itm)) (v va vb vc lv:Value) (s:S3) (vs:List Vl) (w:World) (hv:At w (.sl L.length 1 (L.flatMap encSh)) v) (hg:∀ l∈L,gsIs l=true) (hw:∀ l∈L,wsIs l)
 (h1:SAt w va s.c) (h2:SAt w vb s.f) (h3:SAt w vc s.g) (f1:va=.slice none 0 0∨∃ a n c,va=.slice (some a) n c) (f2:vb=.slice none 0 0∨∃ a n c,vb=.slice (some a) n c) (f3:vc=.slice none 0 0∨∃ a n c,vc=.slice (some a) n c)
 (hl:s.c.length+s.f.length+s.g.length≤2000000) (hlv:At w (.sl vs.length 5 (vs.flatMap encV)) lv) :
 Calls Tryz.prog 5 #[v,.agg #[va,vb,vc],lv] w fun e w'=>e=.returned (.bool true)∧Below w.heap.size w w':=by
 have FX:=Lib.hid fixed18_any;have SA:=Lib.hid fun w' (h:Below w.heap.size w w')=>small18_any L v w' (hv.below h) hg;have FW:=Lib.hid fun w' (h:Below w.heap.size w w')=>few18_any va vb vc s.c s.f s.g w' (h1.below h) (h2.below h) (h3.below h) f1 f2 f3 hl;have S2:=Lib.hid fun w' (h:Below w.heap.size w w')=>small3_any vs lv 60 w' (hlv.below h) (by decide) (by decide);have HV:=Lib.hid hv;have HLV:=Lib.hid hlv;have HPV:=Lib.hid fun w' (h:Below w.heap.size w w')=>show PlAt w' (.agg #[va,vb,vc]) s from ⟨va,vb,vc,rfl,h1.below h,h2.below h,h3.below h⟩
 have HVB:=Lib.hid (slB_cells encSh 1 (fun _=>rfl) (by decide) (At.toB hv));have HWS:=Lib.hid hw;have hB0:=below_alloc w (.cells #[va,vb,vc] 41);have HB0:=Lib.hid hB0;obtain ⟨pa,ca,rfl,-⟩:=At.sl_form hv;obtain ⟨la,lc,rfl,-⟩:=At.sl_form hlv;obtain ⟨x11,x12,x13,rfl⟩:=h1.form;obtain ⟨x21,x22,x23,rfl⟩:=h2.form;obtain ⟨x31,x32,x33,rfl⟩:=h3.form;clear hv hg hw h1 h2 h3 f1 f2 f3 hlv hl hB0
 go_enter Tryz.func5,Tryz.ntmps5
 go_wp2_with fail
 have HBX:=Lib.hid fun (W:World) (h:Below (w.alloc (.cells #[.slice x11 x12 x13,.slice x21 x22 x23,.slice x31 x32 x33] 41)).heap.size (w.alloc (.cells #[.slice x11 x12 x13,.slice x21 x22 x23,.slice x31 x32 x33] 41)) W)=>box3_cells h;refine (SA.out _ HB0.out).mono ?_;rintro e w1 ⟨q1,rfl,hq1,hB1⟩;have HC1:=Lib.hid (bup HB0.out hB1);have HD1:=Lib.hid hB1
 cases q1
 ·go_wp2_with fail
  refine (FX.out _).mono ?_;rintro e w3 ⟨rfl,hB3⟩
  go_wp2
  go_ret
  exact ⟨rfl,bup HC1.out hB3⟩
 ·obtain ⟨hl4,hok⟩:L.length≤4∧∀ l∈L,okSh l:=hq1.out (by first | rfl | trivial)
  have HOK:=Lib.hid hok;obtain ⟨b0,b1,b2⟩:=HBX.out w1 hB1;clear hq1 SA hok hB1
  go_wp2_with fail
  refine (FW.out w1 HC1.out).mono ?_;rintro e w2 ⟨rfl,hB2⟩;have HC2:=Lib.hid (bup HC1.out hB2);have HD2:=Lib.hid (bup HD1.out hB2);clear b0 b1 b2 hB2 FW
  cases hsm:smallB (s.c++s.f++s.g)
  ·go_wp2_with fail
   refine (FX.out _).mono ?_;rintro e w3 ⟨rfl,hB3⟩
   go_wp2
   go_ret
   exact ⟨rfl,bup HC2.out hB3⟩
  ·have SM:=Lib.hid (smallP_of hsm)
   clear hsm
   go_wp2_with fail
   refine (S2.out w2 HC2.out).mono ?_;rintro e w3 ⟨q3,rfl,hq3,hB3⟩;have HC3:=Lib.hid (bup HC2.out hB3);have HD3:=Lib.hid (bup HD2.out hB3);clear S2 HC1 HD1 hB3
   cases q3
   ·go_wp2_with fail
    refine (FX.out _).mono ?_;rintro e w4 ⟨rfl,hB4⟩
    go_wp2
    go_ret
    exact ⟨rfl,bup HC3.out hB4⟩
   ·have HV60:=Lib.hid (hq3.out (by first | rfl | trivial))
    clear hq3
    go_wp2_with fail
    have HCE:=Lib.hid fun i (hi:i<L.length)=>show ∃ b o ad cp,pa=some ⟨b,o,none⟩∧b<w.heap.size∧w.cell? ⟨b,o+i,none⟩=some (.slice ad L[i].length cp)∧AtB w.heap.size w (.sl L[i].length 8 (L[i].flatMap encI)) (.slice ad L[i].length cp) from by
     rcases HVB.out with ⟨rfl,-⟩ | ⟨b,o,cap,e,-,-,hbz,hc⟩
     ·simp at hi
     ·cases e
      obtain ⟨x,e0,v0⟩:=hc i hi 0 _ rfl;have v0':=v0;obtain ⟨ad,cp,rfl,-⟩:=AtB.sl_form v0;simp only [Nat.add_zero,Nat.mul_one] at e0;exact ⟨b,o,ad,cp,rfl,hbz,e0,v0'⟩
    clear HVB
    go_loopw [7,8,9,10,11,12] (fun v7 _ _ _ _ _ wr=>∃ i:Nat,i≤L.length∧v7=.int .i64 i∧Hid (Below w3.heap.size w3 wr)) (fun i _ _ _ _ _ _=>L.length - (intOf i).toNat)
    case atStart=>exact ⟨0,Nat.zero_le _,rfl,Lib.hid (Below.refl _ _)⟩
    case round =>
     obtain ⟨i,hi',rfl,D⟩:=hrel;have hWw:=bup HC3.out D.out;have hWb:=bup HD3.out D.out
     by_cases hlt:i<L.length
     ·obtain ⟨b,o,ad,cp,rfl,hbz,e0,ha⟩:=HCE.out i hlt
      have e0':=(hWw.cell (p:=⟨b,o+i,none⟩) hbz).trans e0;obtain ⟨ok1,ok2⟩:=HOK.out L[i] (List.getElem_mem hlt);obtain ⟨k2,k1⟩:=left_ok s ok2;have hws:=left_ws s (HWS.out _ (List.getElem_mem hlt));have hlen:L[i].length≤15:=Nat.le_trans (cntIs_len L[i]) ok1;have HK2:=Lib.hid ok2;have HDR:=Lib.hid (drop_any s SM.out w.heap.size _ L[i] (Nat.le_refl _) ok2 (by omega) (.slice ad L[i].length cp) (.agg #[.slice x11 x12 x13,.slice x21 x22 x23,.slice x31 x32 x33]) wr.drew (ha.below (hWw.drew)) hWw.size (HPV.out _ hWw.drew));have HRD:=Lib.hid fun (W:World) (h:Below w.heap.size w W)=>drop18_at SM.out ok2 (by omega) (HPV.out W h) (AtB.toAt (AtB.below ha h) h.size);have HSM:=Lib.hid fun (v1 v2:Value) (W:World) (h1:AtB W.heap.size W (.sl (dropIs s L[i]).length 8 ((dropIs s L[i]).flatMap encI)) v1) (h2:AtB W.heap.size W (.sl (dropIs s L[i]).length 8 ((dropIs s L[i]).flatMap encI)) v2)=>same8_at k2 (by omega) hws h1 h2;have HAI:=Lib.hid ha;have HEI:=Lib.hid e0;have HS0:=Lib.hid fun (W:World) (h:Below wr.heap.size wr W)=>And.intro (HBX.out W (bup hWb h)) ((h.cell (p:=⟨b,o+i,none⟩) (show b<wr.heap.size from by have:=hWw.size;omega)).trans e0');obtain ⟨b0,b1,b2⟩:=HBX.out wr hWb;have HWw:=Lib.hid hWw;clear ha e0 ok1 ok2 k1 k2 hws hWb;generalize L[i]=li at *
      go_wp2_with fail
      have S0d:=HS0.out wr.drew (Below.refl _ _).drew
      go_region_held3 (fun w'=>(w'.cell? ⟨w.heap.size,0,none⟩=some (.slice x11 x12 x13)∧w'.cell? ⟨w.heap.size,1,none⟩=some (.slice x21 x22 x23)∧w'.cell? ⟨w.heap.size,2,none⟩=some (.slice x31 x32 x33))∧w'.cell? ⟨b,o+i,none⟩=some (.slice ad li.length cp))
       (first | exact S0d | exact S6 | exact S7 | exact S8)
       ((first
         | (go_at_call 28
            refine HDR.out.mono ?_;rintro e w6 ⟨a6,c6,rfl,hv6,hB6⟩;have hB6':Below wr.heap.size wr w6:=(Below.refl _ _).drew.trans hB6;have S6:=HS0.out w6 hB6';have HRD6:=HRD.out w6 (bup HWw.out hB6')
            have hat6:AtB w6.heap.size w6 (.sl (dropIs s li).length 8 ((dropIs s li).flatMap encI)) (.slice a6 (dropIs s li).length c6):=VR_keep (fun _ h=>h.2) (fun _ _=>rfl) _ hv6)
         | (go_at_call 29
            refine HRD6.mono ?_;rintro e w7 ⟨a7,c7,rfl,hv7,hB7⟩;have hB7':=bup hB6' hB7;have S7:=HS0.out w7 hB7'
            have HS8:=HSM.out _ _ w7 (AtB.toAt (AtB.below hat6 hB7) hB7.size) hv7)
         | (go_at_call 27
            refine HS8.mono ?_;rintro e w8 ⟨rfl,hB8⟩;have hB8':=bup hB7' hB8
            have S8:=HS0.out w8 hB8')))
      have HC8:=Lib.hid (bup HWw.out hB8');have HE8:=Lib.hid fun (W:World) (h:Below w8.heap.size w8 W)=>(HS0.out W (bup hB8' h)).2;have HD8:=Lib.hid (bup D.out hB8');clear S0d S6 S7 S8 HS0 HDR HRD HSM HRD6 HS8 hat6 hv6 hv7 hB6 hB7 hB8 hB6' hB7' hB8' b0 b1 b2 e0' hWw;have e8:=HE8.out w8 (Below.refl _ _)
      have HIT:=Lib.hid fun k (hk:k<li.length)=>show ∃ b2 o2,ad=some ⟨b2,o2,none⟩∧b2<w.heap.size∧∃ a1 c1 a2 c2 a3 c3 a6 c6 a7 c7,w.cell? ⟨b2,o2+k*8,none⟩=some (.int .i64 li[k].kind)∧w.cell? ⟨b2,o2+k*8+1,none⟩=some (.slice a1 li[k].sels.length c1)∧w.cell? ⟨b2,o2+k*8+2,none⟩=some (.slice a2 li[k].decls.length c2) ∧
       w.cell? ⟨b2,o2+k*8+3,none⟩=some (.slice a3 li[k].names.length c3)∧w.cell? ⟨b2,o2+k*8+4,none⟩=some (.int .i64 li[k].mn)∧w.cell? ⟨b2,o2+k*8+5,none⟩=some (.int .i64 li[k].mx)∧w.cell? ⟨b2,o2+k*8+6,none⟩=some (.slice a6 li[k].vals.length c6) ∧
       w.cell? ⟨b2,o2+k*8+7,none⟩=some (.slice a7 li[k].l.length c7)∧ItB w.heap.size w li[k] a1 c1 a2 c2 a3 c3 a6 c6 a7 c7 from by
       rcases slB_cells encI 8 encI_len (by decide) HAI.out with ⟨rfl,-⟩ | ⟨b2,o2,cap,e,-,-,hbz2,hc⟩
       ·simp at hk
       ·cases e
        obtain ⟨a1,c1,a2,c2,a3,c3,a6,c6,a7,c7,y0,y1,y2,y3,y4,y5,y6,y7,g1,g2,g3,g6,g7⟩:=itB_cells hc hk;exact ⟨b2,o2,rfl,hbz2,a1,c1,a2,c2,a3,c3,a6,c6,a7,c7,y0,y1,y2,y3,y4,y5,y6,y7,⟨g1,g2,g3,g6,g7⟩⟩
      clear HAI HEI
      go_wp2_with fail
      go_loopw [8,9,10,11,12] (fun v8 _ _ _ _ wx=>∃ k:Nat,k≤li.length∧v8=.int .i64 k∧Hid (Below w8.heap.size w8 wx)) (fun k _ _ _ _ _=>li.length - (intOf k).toNat)
      case atStart=>exact ⟨0,Nat.zero_le _,rfl,Lib.hid (Below.refl _ _)⟩
      case round =>
       clear e8;obtain ⟨k,hk,rfl,hX⟩:=hrel;have eX:=HE8.out _ hX.out;have hXw:=bup HC8.out hX.out
       by_cases hkl:k<li.length
       ·obtain ⟨b2,o2,rfl,hb2,a1,c1,a2,c2,a3,c3,a6,c6,a7,c7,y0,y1,y2,y3,y4,y5,y6,y7,hIt⟩:=HIT.out k hkl
        have hd:=((okI_eq _).1 (okIs_at HK2.out _ (List.getElem_mem hkl))).1;have FM:=Lib.hid (fam_at hd hXw.size (hIt.below hXw));have FR:=Lib.hid fun (W:World) (h:Below w.heap.size w W)=>fam18_at hd h.size (hIt.below h)
        have HYS:=Lib.hid fun (W:World) (h:Below w.heap.size w W)=>And.intro ((h.cell (p:=⟨b2,o2+k*8,none⟩) hb2).trans y0) (And.intro ((h.cell (p:=⟨b2,o2+k*8+1,none⟩) hb2).trans y1) (And.intro ((h.cell (p:=⟨b2,o2+k*8+2,none⟩) hb2).trans y2) (And.intro ((h.cell (p:=⟨b2,o2+k*8+3,none⟩) hb2).trans y3)
         (And.intro ((h.cell (p:=⟨b2,o2+k*8+4,none⟩) hb2).trans y4) (And.intro ((h.cell (p:=⟨b2,o2+k*8+5,none⟩) hb2).trans y5) (And.intro ((h.cell (p:=⟨b2,o2+k*8+6,none⟩) hb2).trans y6) ((h.cell (p:=⟨b2,o2+k*8+7,none⟩) hb2).trans y7)))))))
        obtain ⟨z0,z1,z2,z3,z4,z5,z6,z7⟩:=HYS.out _ hXw;have HXw:=Lib.hid hXw;clear y0 y1 y2 y3 y4 y5 y6 y7 hIt hd hXw;unfold itV at FM FR;generalize famM li[k].kind li[k].decls=fr at *;obtain ⟨fs,fb⟩:=fr;generalize li[k].kind=kd at *;generalize li[k].sels.length=m1 at *;generalize li[k].decls.length=m2 at *;generalize li[k].names.length=m3 at *;generalize li[k].mn=mn at *;generalize li[k].mx=mx at *;generalize li[k].vals.length=m6 at *;generalize li[k].l.length=m7 at *
        go_wp2_with fail
        refine FM.out.mono ?_;rintro e w9 ⟨rfl,hB9⟩;have eX9:=HE8.out _ (bup hX.out hB9);have HX9:=Lib.hid (bup hX.out hB9);have HXw9:=Lib.hid (bup HXw.out hB9);clear eX z0 z1 z2 z3 z4 z5 z6 z7 hB9 FM;obtain ⟨z0,z1,z2,z3,z4,z5,z6,z7⟩:=HYS.out _ HXw9.out
        go_wp2_with fail
        refine (FR.out w9 HXw9.out).mono ?_;rintro e w10 ⟨rfl,hB10⟩;have HX10:=Lib.hid (bup HX9.out hB10);clear eX9 z0 z1 z2 z3 z4 z5 z6 z7 hB10 FR
        go_wp2
        go_roundw
        case rel=>exact ⟨k+1,by omega,by go_num,HX10⟩
        case measure=>simp [intOf];omega
       ·obtain rfl:k=li.length:=by omega
        have HXX:=Lib.hid hX.out;clear hXw
        go_wp2
        go_roundw
        case rel=>exact ⟨i+1,by omega,by go_num,Lib.hid (bup HD8.out HXX.out)⟩
        case measure=>simp [intOf];omega
     ·obtain rfl:i=L.length:=by omega
      have OF:=Lib.hid fun (W:World) (h:Below w.heap.size w W)=>of18_any L _ W (HV.out.below h) HOK.out hl4;have OR:=Lib.hid fun (W:World) (h:Below w.heap.size w W)=>of18_at (HV.out.below h) HOK.out hl4;have hc60:cntVs vs≤60:=by have:=HV60.out.1;omega
      have IA:=Lib.hid fun (W:World) (h:Below w.heap.size w W)=>idents_any _ vs W (by omega) (HLV.out.below h);have IR:=Lib.hid fun (W:World) (h:Below w.heap.size w W)=>idents18_at (vs:=vs) (by omega) (HLV.out.below h);have TA:=Lib.hid fun (W:World) (h:Below w.heap.size w W)=>strings_any _ vs W (by omega) (HLV.out.below h);have TR:=Lib.hid fun (W:World) (h:Below w.heap.size w W)=>strings18_at (vs:=vs) (by omega) (HLV.out.below h);have hl1:=ofM_le 1 vs;have hl6:=ofM_le 6 vs;have HWw:=Lib.hid hWw;clear HCE HV HLV HPV HWS HBX hWw hWb HB0 HC2 HD2 HC3 HD3 D
      go_wp2_with fail
      refine (FX.out _).mono ?_;rintro e wA ⟨rfl,hBA⟩;have HA:=Lib.hid (bup HWw.out hBA);clear hBA HWw
      go_wp2_with fail
      refine (OF.out wA HA.out).mono ?_;rintro e wB ⟨pB,sB,rfl,hpB,hfB,hBB⟩;have HB:=Lib.hid (bup HA.out hBB);have HPB:=Lib.hid hpB;have HFB:=Lib.hid hfB;clear hBB hpB hfB HA OF
      go_wp2_with fail
      refine (OR.out wB HB.out).mono ?_;rintro e wC ⟨pC,sC,rfl,hpC,hfC,hBC⟩;obtain rfl:sB=sC:=fin_same HFB.out hfC fun _=>Iff.rfl;have HC:=Lib.hid (bup HB.out hBC);have HPS:=Lib.hid (psame_any (HPB.out.below hBC) hpC (fin_small HOK.out hl4 hfC));clear hBC hpC hfC HB OR HPB HFB
      go_wp2_with fail
      refine HPS.out.mono ?_;rintro e wD ⟨rfl,hBD⟩;have HD:=Lib.hid (bup HC.out hBD);clear hBD HC HPS
      go_wp2_with fail
      refine (IA.out wD HD.out).mono ?_;rintro e wE ⟨vE,rfl,hoE,hBE⟩;have HE:=Lib.hid (bup HD.out hBE);have HSE:=Lib.hid (sat_owns hoE);clear hBE hoE HD IA
      go_wp2_with fail
      refine (IR.out wE HE.out).mono ?_;rintro e wF ⟨vF,rfl,hsF,hBF⟩;have HF:=Lib.hid (bup HE.out hBF);have HTX:=Lib.hid (texts_any vE vF _ _ wF (HSE.out.below hBF) hsF (by omega) (by omega));rw [beq_self_eq_true] at HTX;clear hBF hsF HE HSE IR
      go_wp2_with fail
      refine HTX.out.mono ?_;rintro e wG ⟨rfl,hBG⟩;have HG:=Lib.hid (bup HF.out hBG);clear hBG HF HTX
      go_wp2_with fail
      refine (TA.out wG HG.out).mono ?_;rintro e wH ⟨vH,rfl,hoH,hBH⟩;have HH:=Lib.hid (bup HG.out hBH);have HSH:=Lib.hid (sat_owns hoH);clear hBH hoH HG TA
      go_wp2_with fail
      refine (TR.out wH HH.out).mono ?_;rintro e wI ⟨vI,rfl,hsI,hBI⟩;have HI:=Lib.hid (bup HH.out hBI);have HTY:=Lib.hid (texts_any vH vI _ _ wI (HSH.out.below hBI) hsI (by omega) (by omega));rw [beq_self_eq_true] at HTY;clear hBI hsI HH HSH TR
      go_wp2_with fail
      refine HTY.out.mono ?_;rintro e wJ ⟨rfl,hBJ⟩;have HJ:=Lib.hid (bup HI.out hBJ);clear hBJ HI HTY
      go_wp2
      go_ret
      exact ⟨rfl,HJ.out⟩
end Go.Proofs.YtlnaihkombcbcaaGreat
namespace Go.Proofs.YtlnaihkombcbcaaGreat
open Go.ChangeShapes Go.WideShapes Go.ChangeAt Go.RowKit Go.Ev
theorem own:ownKnob Tryz.prog.godebug=none:=by kernel_rfl
section
variable {H:Type} {enc:TypeId×Value→H} {P:Program}
theorem post_of_below {f:Func} {s:ChangeSpec} {apart fresh handsOn again:Bool} {W W':World} {args:Array Value} {v:Value} {ds gs:List (DataW H)} {before pa pv:List MemPlace}
 (hW:DataW.Whole enc P f.params.toList s.vars apart W args.toList ds gs before)
 (hres:∀ (b:Nat) (sp:Nat→Bool) (hd:Bool),DataW.TrodAll enc P W' b sp hd f.resultTypes.toList (v.resultList f.resultTypes.size) (s.fn H (ds++gs)).results [])
 (hargs:∀ sp:Nat→Bool,(∀ p∈before,sp p.block=true)→DataW.TrodAll enc P W' 0 sp true f.params.toList args.toList (s.fn H (ds++gs)).args pa)
 (hvars:∀ sp:Nat→Bool,(∀ p∈before,sp p.block=true)→DataW.TrodVars enc P W' sp s.vars (s.fn H (ds++gs)).vars pv)
 (hps:before=pa++pv) (hB:Below W.heap.size W W')
 (hok:∀ (j:Nat) (t:TypeId) (r:Value),f.resultTypes[j]?=some t→(v.resultList f.resultTypes.size)[j]?=some r→Value.okWide P W' .any 0 t r) :
 s.post enc P f apart fresh handsOn again W args v W':=by
 have hold:∀ p∈before,(fun b=>decide (b<W.heap.size)) p.block=true:=fun p hp=>by simpa using hW.lt p hp
 have hlt:=fun p hp=>hW.lt p hp;refine ⟨ds,gs,before,[],pa,pv,hW,hres _ _ _,hargs _ hold,hvars _ hold,World.keptBut_mono (fun p hp=>⟨hp,?_⟩) (hB.frame (·∈before)),fun _=>?_⟩
 ·rw [hps,List.mem_append] at hp
  exact Or.inr hp
 ·obtain ⟨_,_,_,_,_,hz,hn⟩:=hW
  refine ⟨hok,_,_,([]++pa)++pv,⟨[]++pa,pv,trodAll_append (hargs _ (fun _ _=>rfl)) (hres _ _ _),hvars _ (fun _ _=>rfl),rfl,?_,?_⟩,?_⟩
  ·intro b off hp
   have hp':MemPlace.cell b off∈before:=by rw [hps];simpa using hp
   rw [hB.frozen (hlt _ hp')];exact hz b off hp'
  ·intro ha
   have:=hn ha;rw [hps] at this;simpa using this
  ·intro p hp _
   rw [hps];simpa using hp
end
theorem readableSheets:Tryz.prog.readableRec 39=true:=by kernel_rfl
theorem inTableSheets:39<Tryz.prog.types.size:=of_decide_eq_true (by kernel_rfl)
theorem readableVals:Tryz.prog.readableRec 27=true:=by kernel_rfl
theorem inTableVals:27<Tryz.prog.types.size:=of_decide_eq_true (by kernel_rfl)
theorem readablePool:Tryz.prog.readableRec 41=true:=by kernel_rfl
theorem inTablePool:41<Tryz.prog.types.size:=of_decide_eq_true (by kernel_rfl)
theorem c_pool:Tryz.prog.cellsOf 41=3:=by kernel_rfl
theorem bulk_one {H:Type} (d:DataW H):1≤Rows.uptoBulk d:=by
 cases d with
 | lit l=>cases l <;> simp [Rows.uptoBulk]
 | nil=>simp [Rows.uptoBulk]
 | ptr d=>simp [Rows.uptoBulk]
 | slice elems spare=>simp [Rows.uptoBulk]
 | agg parts=>simp [Rows.uptoBulk]
 | iface t d=>simp [Rows.uptoBulk]
 | map entries=>simp [Rows.uptoBulk]
 | held h=>simp [Rows.uptoBulk]
theorem bulk_len {H:Type} (l:List (DataW H)):l.length≤Rows.uptoBulkAll l:=by
 induction l with
 | nil=>simp [Rows.uptoBulkAll]
 | cons x r ih=>have:=bulk_one x;simp only [Rows.uptoBulkAll,List.length_cons];omega
section
variable {H:Type} {enc:TypeId×Value→H} {W:World}
theorem open_sat {fuel:Nat} {cs:List Value} {x:DataW H×List MemPlace} (h:DataW.trod enc Tryz.prog W 0 (fun _=>true) true fuel 25 cs=some x) :
 ∃ v ss,cs=[v]∧SAt W v ss∧(v=.slice none 0 0∨∃ a n c,v=.slice (some a) n c)∧ss.length≤Rows.uptoBulk x.1:=by
 rcases open_strings Tryz.underlying25 Tryz.underlying9 c_str h with ⟨rfl,rfl⟩ | ⟨a,len,cap,ss,rfl,-,hl,-,hz,rfl,hcell,-⟩
 ·exact ⟨_,[],rfl,.inl ⟨rfl,_,_,rfl⟩,.inl rfl,by simp⟩
 ·have hz':ss.length=cap:=by simpa using hz
  have e:((ss.take len).map (fun s=>s.data.toList)).map bs=ss.take len:=by
   rw [List.map_map];exact List.map_id _
  refine ⟨_,(ss.take len).map (fun s=>s.data.toList),rfl,?_,.inr ⟨_,_,_,rfl⟩,?_⟩
  ·by_cases h0:len=0
   ·subst h0
    exact .inl ⟨by simp,_,_,rfl⟩
   ·have hsp:a=⟨a.block,a.off,none⟩:=by
     have:=hcell 0 (by omega);obtain ⟨b,o,sp⟩:=a
     cases sp with
     | none=>rfl
     | some _ =>
       exfalso;revert this;simp only [Addr.add,World.cell?]
       split <;> simp
    refine .inr ⟨a.block,a.off,cap,?_,?_,?_,?_⟩
    ·rw [←hsp];simp;omega
    ·simp;omega
    ·simp;omega
    ·intro j hj
     simp at hj;have:=hcell j (by omega);rw [hsp] at this;simp only [e];rw [show (⟨a.block,a.off+j,none⟩:Addr)=(⟨a.block,a.off,none⟩:Addr).add j from by simp [Addr.add],this]
     congr 2
     rw [List.getD_eq_getElem?_getD,List.getElem_take,List.getElem?_eq_getElem (by omega)]
     rfl
  ·have h1:=bulk_len (strs (ss.take len):List (DataW H))
   simp only [Rows.uptoBulk,strs,List.length_map] at h1 ⊢;omega
set_option maxRecDepth 1000000 in
theorem open_pool {base:Nat} {v:Value} {d:DataW H} {ps:List MemPlace} (hval:Value.okWide Tryz.prog W .any base 41 v) (h:DataW.Trod enc Tryz.prog W 0 (fun _=>true) true 41 v d ps) :
 ∃ va vb vc,∃ s:S3,v=.agg #[va,vb,vc]∧SAt W va s.c∧SAt W vb s.f∧SAt W vc s.g∧(va=.slice none 0 0∨∃ a n c,va=.slice (some a) n c)∧(vb=.slice none 0 0∨∃ a n c,vb=.slice (some a) n c)∧(vc=.slice none 0 0∨∃ a n c,vc=.slice (some a) n c) ∧
   s.c.length+s.f.length+s.g.length≤Rows.uptoBulk d:=by
 obtain ⟨cs,rfl,hsz⟩:=okWide_struct Tryz.underlying41 hval;obtain ⟨fuel,hv⟩:=h;obtain ⟨y0,y1,y2,n,hx,hl,u0,u1,u2⟩:=Deep.trod_struct3 Tryz.underlying41 hv;rw [c_pool] at hl hsz;obtain ⟨c0,c1,c2,rfl⟩:∃ c0 c1 c2,cs=#[c0,c1,c2]:=by
  match cs,hsz with
  | ⟨[a,b,c]⟩,_=>exact ⟨a,b,c,rfl⟩
 simp only [Value.cells,c_strs,List.drop,List.take] at u0 u1 u2;obtain ⟨a0,s0,e0,hs0,hn0,hb0⟩:=open_sat u0;obtain ⟨a1,s1,e1,hs1,hn1,hb1⟩:=open_sat u1;obtain ⟨a2,s2,e2,hs2,hn2,hb2⟩:=open_sat u2;simp only [List.cons.injEq,and_true] at e0 e1 e2;subst e0 e1 e2;refine ⟨_,_,_,⟨s0,s1,s2⟩,rfl,hs0,hs1,hs2,hn0,hn1,hn2,?_⟩;rw [(Prod.mk.inj hx).1];simp only [Rows.uptoBulk,Rows.uptoBulkAll];omega
end
namespace poolTells
set_option maxRecDepth 1000000 in
theorem contract (H:Type) (enc:TypeId×Value→H) (W:World) (base:Nat) (args:Array Value) (ds gs:List (DataW H)) (before:List MemPlace)
 (hval:∀ (j:Nat) t v,Tryz.f5.params[j]?=some t→args[j]?=some v→Value.okWide Tryz.prog W .any base t v)
 (hW:DataW.Whole enc Tryz.prog Tryz.f5.params.toList Rows.poolTellsSpec.vars false W args.toList ds gs before) (hk:Rows.uptoSmall H (ds++gs)=true)
 (hw:(DataW.weightsEach Tryz.prog (Tryz.f5.params.toList++Rows.poolTellsSpec.plain.varTypes Tryz.prog) (ds++gs)).all (·≤reachBytes)=true) :
 Calls Tryz.prog 5 args W fun e W'=>∃ v,e=.returned v∧Rows.poolTellsSpec.post enc Tryz.prog Tryz.f5 false true false false W args v W':=by
 have hW':=hW;obtain ⟨p,q,hA0,hV,rfl,hfz,hnd⟩:=hW;have hA:DataW.TrodAll enc Tryz.prog W 0 (fun _=>true) true Tryz.f5.params.toList args.toList ds p:=hA0;rw [show Tryz.f5.params=#[39,41,27] by kernel_rfl] at hA hval hw;obtain ⟨v0,vs0,d0,ds0,p0,q0,hargs,rfl,rfl,h0,r0⟩:=trodAll_cons hA;obtain ⟨v1,vs1,d1,ds1,p1,q1,rfl,rfl,rfl,h1,r1⟩:=trodAll_cons r0;obtain ⟨v2,vs2,d2,ds2,p2,q2,rfl,rfl,rfl,h2,r2⟩:=trodAll_cons r1;obtain ⟨rfl,rfl,rfl⟩:=trodAll_nil r2;obtain rfl:args=#[v0,v1,v2]:=by cases args;simp_all
 obtain ⟨rfl,rfl⟩:=trodVars_none hV;have hw':=List.all_eq_true.1 hw;have fit0:Fits Tryz.prog 39 d0:=fun x hx=>by
  simpa using hw' x (mem_weightsEach (i:=0) rfl rfl x hx)
 have fit2:Fits Tryz.prog 27 d2:=fun x hx=>by
  simpa using hw' x (mem_weightsEach (i:=2) rfl rfl x hx)
 obtain ⟨a,ha,ga,gw⟩:=openw_sheets (hval 0 39 v0 (by simp) (by simp)) h0 fit0;have h1k:=h1;obtain ⟨va,vb,vc,s,rfl,s1,s2,s3,f1,f2,f3,hb⟩:=open_pool (hval 1 41 v1 (by simp) (by simp)) h1;obtain ⟨l,hl⟩:=open_vals (hval 2 27 v2 (by simp) (by simp)) h2 fit2;have hbulk:s.c.length+s.f.length+s.g.length≤2000000:=by
  have h9:=of_decide_eq_true hk;simp only [List.append_nil,Rows.uptoBulkAll] at h9;omega
 clear hA0;have hlt0:∀ x∈p0,x.block<W.heap.size:=fun x hx=>by simpa using hW'.lt x (by simp [hx])
 have hlt1:∀ x∈p1,x.block<W.heap.size:=fun x hx=>by simpa using hW'.lt x (by simp [hx])
 have hlt2:∀ x∈p2,x.block<W.heap.size:=fun x hx=>by simpa using hW'.lt x (by simp [hx])
 refine (poolTells_any a v0 va vb vc v2 s l W ha ga gw s1 s2 s3 f1 f2 f3 hbulk hl).mono fun e W' ⟨he,hB⟩=>?_;subst he
 exact ⟨_,rfl,post_of_below (pa:=p0++(p1++(p2++[]))) (pv:=[]) hW' (fun _ _ _=>trodAll_cons_mk (shut_bool Tryz.underlying4 _) trodAll_mk0)
  (fun sp hsp=>trodAll_cons_mk (WideElems.Trod_stays p_laid readableSheets inTableSheets h0 (fun x hx=>hB.same (hlt0 x hx)) (fun x hx=>hsp x (by simp [hx])))
    (trodAll_cons_mk (WideElems.Trod_stays p_laid readablePool inTablePool h1k (fun x hx=>hB.same (hlt1 x hx)) (fun x hx=>hsp x (by simp [hx])))
      (trodAll_cons_mk (WideElems.Trod_stays p_laid readableVals inTableVals h2 (fun x hx=>hB.same (hlt2 x hx)) (fun x hx=>hsp x (by simp [hx]))) trodAll_mk0)))
  (fun _ _=>rfl) rfl hB (ok_one (by kernel_rfl) rfl (okWide_bool_mk Tryz.underlying4 _))⟩
set_option maxRecDepth 100000 in
theorem lifted (os:Os) (started:os.Started) (H:Type) (enc:TypeId×Value→H) (F:Stop.Interp) :
 ReturnsInHanded {} Tryz.checked os 5 .any ((Rows.OpenSpec.upto Rows.poolTellsSpec).pre6 enc Tryz.prog Tryz.f5 Rows.poolTellsUptoRow.domain false) (((Rows.OpenSpec.upto Rows.poolTellsSpec).at F).post enc Tryz.prog Tryz.f5 false true false false):=by
 refine returnsInHanded_of_cond_sized (C:=Tryz.checked) (s:=Rows.OpenSpec.upto Rows.poolTellsSpec) (k:=Rows.uptoSmall) rfl own started (by kernel_rfl) Tryz.func5
  (OpenSpec.witness (enc:=enc) (C:=Tryz.checked) (s:=Rows.OpenSpec.upto Rows.poolTellsSpec) (k:=Rows.uptoSmall) rfl false ⟨#[],#[.slice none 0 0,.agg #[.slice none 0 0,.slice none 0 0,.slice none 0 0],.slice none 0 0],[]⟩ 8 (by kernel_rfl) (by kernel_rfl) (by kernel_rfl)
    (x:=([.nil,.agg [.nil,.nil,.nil],.nil],[],[])) (by kernel_rfl) rfl (by kernel_rfl)) ?_
 intro W base args ds gs before hval hW _ hk hw _;exact contract H enc W base args ds gs before hval hW hk hw
theorem said:Rows.PoolTellsUptoSaid :=
 OpenClaim.holds_of_cond 5 Tryz.f5 rfl rfl rfl rfl rfl rfl rfl ⟨rfl,rfl,rfl,rfl,rfl⟩ rfl rfl rfl rfl rfl row_named Tryz.func5 closed
  (of_decide_eq_true (by kernel_rfl)) row_wrapper
  (fun os started H enc _ F=>lifted os started H enc F)
end poolTells
end Go.Proofs.YtlnaihkombcbcaaGreat
end
