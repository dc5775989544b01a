/- isVar of law 16's reference, by a walk over shapes. -/
import Derived.Test.YtlnaihkombcbcaaGreatTc6
import Derived.Test.YtlnaihkombcbcaaGreatTd5
import Derived.IntWalk
import Derived.Test.YtlnaihkombcbcaaGreatTd7
import Derived.Test.YtlnaihkombcbcaaGreatTc8
import Derived.Test.YtlnaihkombcbcaaGreatTd0
import Derived.Test.YtlnaihkombcbcaaGreatTc9
import Derived.Laws.IdiomStrings
import Derived.Lib.SliceRun
set_option linter.unusedSimpArgs false
noncomputable section
namespace Go.Proofs.YtlnaihkombcbcaaGreat
open Go.RowKit Go.Ev
abbrev gt0:GTab:=fun _=>none
theorem hmix:Tryz.prog.follows .mixedOrders=true:=by kernel_rfl
theorem ag_int:aggO Tryz.prog 3=some (false,1):=by kernel_rfl
theorem ag_bool:aggO Tryz.prog 4=some (false,1):=by kernel_rfl
theorem ag_str:aggO Tryz.prog 9=some (false,1):=by kernel_rfl
theorem ag_strs:aggO Tryz.prog 25=some (false,1):=by kernel_rfl
theorem ag_vals:aggO Tryz.prog 27=some (false,1):=by kernel_rfl
theorem ag_items:aggO Tryz.prog 46=some (false,1):=by kernel_rfl
theorem ag_cxs:aggO Tryz.prog 50=some (false,1):=by kernel_rfl
theorem ag_decls:aggO Tryz.prog 51=some (false,1):=by kernel_rfl
theorem ag_parts:aggO Tryz.prog 88=some (false,1):=by kernel_rfl
theorem ag_simps:aggO Tryz.prog 178=some (false,1):=by kernel_rfl
theorem ag_item:aggO Tryz.prog 53=some (true,8):=by kernel_rfl
theorem ag_tok:aggO Tryz.prog 65=some (true,3):=by kernel_rfl
theorem ag_val:aggO Tryz.prog 67=some (true,5):=by kernel_rfl
theorem ag_cx:aggO Tryz.prog 90=some (true,2):=by kernel_rfl
theorem ag_decl:aggO Tryz.prog 134=some (true,3):=by kernel_rfl
theorem ag_part:aggO Tryz.prog 180=some (true,2):=by kernel_rfl
theorem ag_simp:aggO Tryz.prog 239=some (true,6):=by kernel_rfl
theorem el_strs:elemO Tryz.prog 25=some 1:=by kernel_rfl
theorem el_vals:elemO Tryz.prog 27=some 5:=by kernel_rfl
theorem el_items:elemO Tryz.prog 46=some 8:=by kernel_rfl
theorem el_cxs:elemO Tryz.prog 50=some 2:=by kernel_rfl
theorem el_decls:elemO Tryz.prog 51=some 3:=by kernel_rfl
theorem el_parts:elemO Tryz.prog 88=some 2:=by kernel_rfl
theorem el_simps:elemO Tryz.prog 178=some 6:=by kernel_rfl
theorem fl_val0:fldO Tryz.prog 67 0=some (0,3):=by kernel_rfl
theorem fl_val1:fldO Tryz.prog 67 1=some (1,65):=by kernel_rfl
theorem fl_val2:fldO Tryz.prog 67 2=some (4,27):=by kernel_rfl
theorem fl_tok0:fldO Tryz.prog 65 0=some (0,3):=by kernel_rfl
theorem fl_tok1:fldO Tryz.prog 65 1=some (1,9):=by kernel_rfl
theorem fl_tok2:fldO Tryz.prog 65 2=some (2,3):=by kernel_rfl
theorem fl_decl0:fldO Tryz.prog 134 0=some (0,9):=by kernel_rfl
theorem fl_decl1:fldO Tryz.prog 134 1=some (1,27):=by kernel_rfl
theorem fl_decl2:fldO Tryz.prog 134 2=some (2,4):=by kernel_rfl
theorem fl_item0:fldO Tryz.prog 53 0=some (0,3):=by kernel_rfl
theorem fl_item1:fldO Tryz.prog 53 1=some (1,50):=by kernel_rfl
theorem fl_item2:fldO Tryz.prog 53 2=some (2,51):=by kernel_rfl
theorem fl_item3:fldO Tryz.prog 53 3=some (3,25):=by kernel_rfl
theorem fl_item4:fldO Tryz.prog 53 4=some (4,3):=by kernel_rfl
theorem fl_item5:fldO Tryz.prog 53 5=some (5,3):=by kernel_rfl
theorem fl_item6:fldO Tryz.prog 53 6=some (6,27):=by kernel_rfl
theorem fl_item7:fldO Tryz.prog 53 7=some (7,46):=by kernel_rfl
theorem fl_cx0:fldO Tryz.prog 90 0=some (0,88):=by kernel_rfl
theorem fl_cx1:fldO Tryz.prog 90 1=some (1,9):=by kernel_rfl
theorem fl_part0:fldO Tryz.prog 180 0=some (0,3):=by kernel_rfl
theorem fl_part1:fldO Tryz.prog 180 1=some (1,178):=by kernel_rfl
theorem fl_simp0:fldO Tryz.prog 239 0=some (0,3):=by kernel_rfl
theorem fl_simp1:fldO Tryz.prog 239 1=some (1,9):=by kernel_rfl
theorem fl_simp2:fldO Tryz.prog 239 2=some (2,9):=by kernel_rfl
theorem fl_simp3:fldO Tryz.prog 239 3=some (3,3):=by kernel_rfl
theorem fl_simp4:fldO Tryz.prog 239 4=some (4,3):=by kernel_rfl
theorem fl_simp5:fldO Tryz.prog 239 5=some (5,178):=by kernel_rfl
theorem sz_item:szO Tryz.prog 53=some 8:=by kernel_rfl
theorem sz_part:szO Tryz.prog 180=some 2:=by kernel_rfl
theorem ze_item:zeroO Tryz.prog 53=some [.g (.int .i64 0),.g (.slice none 0 0),.g (.slice none 0 0),.g (.slice none 0 0),.g (.int .i64 0),.g (.int .i64 0),.g (.slice none 0 0),.g (.slice none 0 0)]:=by kernel_rfl
theorem ze_part:zeroO Tryz.prog 180=some [.g (.int .i64 0),.g (.slice none 0 0)]:=by kernel_rfl
theorem un_bool:Tryz.prog.underlying 4=some .bool:=by kernel_rfl
theorem eqg_tok:Tryz.prog.eqGuardType Tryz.prog.depth 65=false:=by kernel_rfl
attribute [go_sem] ag_int ag_bool ag_str ag_strs ag_vals ag_items ag_cxs ag_decls ag_parts ag_simps ag_item ag_tok ag_val ag_cx ag_decl ag_part ag_simp el_strs el_vals el_items el_cxs el_decls el_parts el_simps
 fl_val0 fl_val1 fl_val2 fl_tok0 fl_tok1 fl_tok2 fl_decl0 fl_decl1 fl_decl2 fl_item0 fl_item1 fl_item2 fl_item3 fl_item4 fl_item5 fl_item6 fl_item7 fl_cx0 fl_cx1 fl_part0 fl_part1 fl_simp0 fl_simp1 fl_simp2 fl_simp3 fl_simp4 fl_simp5
 sz_item sz_part ze_item ze_part un_bool eqg_tok
theorem up1 {k:Nat} (h:k<1000000000000000000):IntKind.i64.wrap ((k:Int)+1)=((k+1:Nat):Int):=by rw [IntWalk.i64_in _ (by omega)];push_cast;rfl
section
variable {α:Type}
theorem row_part (enc:α→List AV) (sz:Nat) (hsz:∀ x,(enc x).length=sz):∀ (l:List α) (k:Nat) (hk:k<l.length) (j c:Nat),j+c≤sz→((l.flatMap enc).drop (k*sz+j)).take c=((enc l[k]).drop j).take c
 | x::l,0,_,j,c,h=>by
   rw [List.flatMap_cons,Nat.zero_mul,Nat.zero_add,List.drop_append,List.take_append];have h1:c - (List.drop j (enc x)).length=0:=by rw [List.length_drop,hsz];omega
   rw [h1,List.take_zero,List.append_nil];rfl
 | x::l,k+1,hk,j,c,h=>by
   rw [List.flatMap_cons,List.drop_append,List.drop_of_length_le (by rw [hsz,Nat.succ_mul];omega),List.nil_append,hsz,show (k+1)*sz+j - sz=k*sz+j by rw [Nat.succ_mul];omega];exact row_part enc sz hsz l k (by simpa using hk) j c h
theorem row_len (enc:α→List AV) (sz:Nat) (hsz:∀ x,(enc x).length=sz):∀ (l:List α),(l.flatMap enc).length=l.length*sz
 | []=>by simp
 | x::l=>by rw [List.flatMap_cons,List.length_append,hsz,row_len enc sz hsz l,List.length_cons,Nat.succ_mul,Nat.add_comm]
theorem row_fit (enc:α→List AV) (sz:Nat) (hsz:∀ x,(enc x).length=sz) (l:List α) (k:Nat) (hk:k<l.length) {j c:Nat} (h:j+c≤sz):k*sz+j+c≤(l.flatMap enc).length:=by
 rw [row_len enc sz hsz];have:(k+1)*sz≤l.length*sz:=Nat.mul_le_mul_right sz hk;rw [Nat.succ_mul] at this;omega
end
theorem encV_eq (x:Vl):encV x=[.g (.int .i64 x.kind),.g (.int .i64 x.tk),.g (.string x.text),.g (.int .i64 x.n),.sl x.l.length 5 (x.l.flatMap encV)]:=by cases x;rw [encV,encVs_flat];rfl
theorem encS_eq (x:Simp):∃ a b,encS x=[.g (.int .i64 x.kind),.g (.string x.name),.g (.string x.value),.g (.int .i64 a),.g (.int .i64 b),.sl x.l.length 6 (x.l.flatMap encS)]:=by
 obtain ⟨k,n,v,a,b,l⟩:=x;exact ⟨a,b,by rw [encS,encSs_flat];rfl⟩
theorem encI_eq (x:Itm):encI x=[.g (.int .i64 x.kind),.sl x.sels.length 2 (x.sels.flatMap encC),.sl x.decls.length 3 (x.decls.flatMap encD),.sl x.names.length 1 (x.names.flatMap encN),.g (.int .i64 x.mn),.g (.int .i64 x.mx),.sl x.vals.length 5 (x.vals.flatMap encV),.sl x.l.length 8 (x.l.flatMap encI)]:=by
 cases x;rw [encI,encIs_flat];rfl
theorem rowN {l:List ByteArray} {k:Nat} (hk:k<l.length):(l.flatMap encN)[k]?=some (.g (.string l[k])):=by
 have:=flat_get encN 1 (fun _=>rfl) l k hk 0 (by decide)
 rwa [Nat.mul_one,Nat.add_zero] at this
theorem rowV {l:List Vl} {k:Nat} (hk:k<l.length):(l.flatMap encV)[k*5]?=some (.g (.int .i64 l[k].kind))∧(l.flatMap encV)[k*5+1]?=some (.g (.int .i64 l[k].tk))∧(l.flatMap encV)[k*5+1+1]?=some (.g (.string l[k].text)) ∧
 (l.flatMap encV)[k*5+1+2]?=some (.g (.int .i64 l[k].n))∧(l.flatMap encV)[k*5+4]?=some (.sl l[k].l.length 5 (l[k].l.flatMap encV)) ∧
 ((l.flatMap encV).drop (k*5+1)).take 3=[.g (.int .i64 l[k].tk),.g (.string l[k].text),.g (.int .i64 l[k].n)]∧k*5+1+3≤(l.flatMap encV).length:=by
 have h:=flat_get encV 5 encV_len l k hk;have h2:=row_part encV 5 encV_len l k hk 1 3 (by decide);rw [encV_eq] at h h2;exact ⟨h 0 (by decide),h 1 (by decide),h 2 (by decide),h 3 (by decide),h 4 (by decide),h2,row_fit encV 5 encV_len l k hk (by decide)⟩
theorem rowD {l:List Dl} {k:Nat} (hk:k<l.length):(l.flatMap encD)[k*3]?=some (.g (.string l[k].name))∧(l.flatMap encD)[k*3+1]?=some (.sl l[k].l.length 5 (l[k].l.flatMap encV))∧(l.flatMap encD)[k*3+2]?=some (.g (.bool l[k].imp)):=by
 have h:=flat_get encD 3 encD_len l k hk;exact ⟨h 0 (by decide),h 1 (by decide),h 2 (by decide)⟩
theorem rowC {l:List Cx} {k:Nat} (hk:k<l.length):(l.flatMap encC)[k*2]?=some (.sl l[k].parts.length 2 (l[k].parts.flatMap encP))∧(l.flatMap encC)[k*2+1]?=some (.g (.string l[k].pseudo)):=by
 have h:=flat_get encC 2 (fun _=>rfl) l k hk;exact ⟨h 0 (by decide),h 1 (by decide)⟩
theorem rowP {l:List Part} {k:Nat} (hk:k<l.length):((l.flatMap encP).drop (k*2)).take 2=[.g (.int .i64 l[k].comb),.sl l[k].l.length 6 (l[k].l.flatMap encS)]∧k*2+2≤(l.flatMap encP).length:=by
 have h2:=row_part encP 2 (fun _=>rfl) l k hk 0 2 (by decide);exact ⟨h2,row_fit encP 2 (fun _=>rfl) l k hk (j:=0) (by decide)⟩
theorem rowI {l:List Itm} {k:Nat} (hk:k<l.length):((l.flatMap encI).drop (k*8)).take 8=encI l[k]∧k*8+8≤(l.flatMap encI).length:=by
 have h2:=row_part encI 8 encI_len l k hk 0 8 (by decide);rw [Nat.add_zero,List.drop_zero,List.take_of_length_le (l:=encI l[k]) (by rw [encI_len];decide)] at h2;exact ⟨h2,row_fit encI 8 encI_len l k hk (j:=0) (by decide)⟩
theorem tok_neq9 (k1 n1 k2 n2:Int) (s1 s2:ByteArray):pv Tryz.prog (binOp .neq 65 (.agg #[.int .i64 k1,.string s1,.int .i64 n1]) (.agg #[.int .i64 k2,.string s2,.int .i64 n2]))=some (.bool (!(decide (k1=k2)&&(decide (s1=s2)&&(decide (n1=n2)&&true))))) :=
 pv_neq_agg Tryz.underlying65 (by kernel_rfl) (by simp [eqFs,Tryz.underlying3,Tryz.underlying9])
end Go.Proofs.YtlnaihkombcbcaaGreat
namespace Go.Proofs.YtlnaihkombcbcaaGreat
open Go.RowKit Go.Ev
attribute [local go_sem] eq_self false_and and_false Bool.false_eq_true List.set_cons_succ List.set_cons_zero List.getD_cons_succ List.getD_cons_zero List.getElem?_cons_succ List.getElem?_cons_zero true_and and_true and_self Bool.not_true Bool.not_false Nat.add_zero Nat.zero_add Nat.mul_one Int.toNat_natCast Int.natCast_nonneg Int.ofNat_lt Option.bind_some Option.map_some List.map_cons List.map_nil decide_true decide_false BEq.rfl Bool.and_self Bool.and_true Bool.and_false beq_self_eq_true List.cons_append List.nil_append List.take_zero List.take_succ_cons List.take_nil List.drop_succ_cons List.drop_zero List.drop_nil List.append_nil List.length_cons List.length_nil List.all_cons List.all_nil Nat.le_refl Option.map_none List.replicate_zero List.replicate_succ Nat.zero_mul Nat.sub_zero Nat.zero_le Nat.le_zero_eq getR_nil Int.toNat_zero Int.natCast_zero Int.natCast_one Int.cast_ofNat_Int List.toList_toArray
set_option maxRecDepth 100000 in
set_option maxHeartbeats 4000000 in
theorem same2_p (N:Nat):∀ (l:List Vl),SizeOf.sizeOf l≤N→cntVs l≤1000→PureN Tryz.prog gt0 19 [.sl l.length 5 (l.flatMap encV),.sl l.length 5 (l.flatMap encV)] (.g (.bool true)):=by
 induction N with
 | zero=>intro l hl;cases l <;> simp at hl <;> omega
 | succ N ih =>
   intro l hl hcn;have hlen:l.length≤1000:=Nat.le_trans (cntVs_len l) hcn;have IH:=fun k (hk:k<l.length)=>ih l[k].l (by have:=vl_lt (List.getElem_mem hk);omega) (by have:=cntVs_at hk;omega);clear ih hl hcn;refine PureN.of_w (c:=_) Tryz.func19 rfl (by kernel_rfl) rfl ?_;simp only [Tryz.f19,List.replicate,List.length_cons,List.length_nil,Nat.reduceAdd,Nat.reduceSub,List.cons_append,List.nil_append]
   (repeat ((first | with_reducible refine W.step (b:=false) ?_ | skip);simp only [go_sem,↓reduceIte,Nat.reduceAdd,Nat.reduceSub,Nat.reduceMul,Nat.reduceEqDiff,Nat.reduceLeDiff];try with_reducible refine drawn hmix (by kernel_rfl) ?_))
   refine W.loop (s1:=stL [(.sl l.length 5 (l.flatMap encV)),(.sl l.length 5 (l.flatMap encV)),.any,.any,(.g (.bool false)),(.g (.int .i64 ((0:Nat):Int))),.any,.any,.any,.any,.any,.any,.any,.any,.any,.any,.any,.any,.any,.any,.any,.any,.any,.any,.any,.any,.any,.any,.any,.any,.any,.any,.any,.any,.any,.any,.any,.any,.any,.any,.any,.any,.any,.any,.any,.any,.any,.any,.any,.any,.any,.any,.any,.any,.any] [] 0)
    (fun (k:Nat) s=>k≤l.length∧s=stL [(.sl l.length 5 (l.flatMap encV)),(.sl l.length 5 (l.flatMap encV)),.any,.any,(.g (.bool false)),(.g (.int .i64 (k:Int))),.any,.any,.any,.any,.any,.any,.any,.any,.any,.any,.any,.any,.any,.any,.any,.any,.any,.any,.any,.any,.any,.any,.any,.any,.any,.any,.any,.any,.any,.any,.any,.any,.any,.any,.any,.any,.any,.any,.any,.any,.any,.any,.any,.any,.any,.any,.any,.any,.any] [] 0) (fun k=>l.length - k) 0 ⟨Nat.zero_le _,rfl⟩ (VS.tm (by simp [leL])) ?_
   rintro k t ⟨hk,rfl⟩
   by_cases hlt:k<l.length
   ·obtain ⟨r0,r1,r2,r3,r4,r5,r6⟩:=rowV hlt
    (repeat ((first | with_reducible refine W.step (b:=false) ?_ | skip);simp only [go_sem,↓reduceIte,Nat.reduceAdd,Nat.reduceSub,Nat.reduceMul,Nat.reduceEqDiff,Nat.reduceLeDiff,hlt,r0,r4,r5,r6,toGs,toG,tok_neq9];try with_reducible refine drawn hmix (by kernel_rfl) ?_))
    refine AtCallQ.mk (IH k hlt) ?_
    (repeat ((first | with_reducible refine W.step (b:=false) ?_ | skip);simp only [go_sem,↓reduceIte,Nat.reduceAdd,Nat.reduceSub,Nat.reduceMul,Nat.reduceEqDiff,Nat.reduceLeDiff];try with_reducible refine drawn hmix (by kernel_rfl) ?_))
    refine ⟨k+1,_,⟨by omega,rfl⟩,by show l.length - (k+1)<l.length - k;omega,VS.tm ?_⟩;rw [up1 (by omega)];simp [leL]
   ·(repeat ((first | with_reducible refine W.step (b:=false) ?_ | skip);simp only [go_sem,↓reduceIte,Nat.reduceAdd,Nat.reduceSub,Nat.reduceMul,Nat.reduceEqDiff,Nat.reduceLeDiff,hlt];try with_reducible refine drawn hmix (by kernel_rfl) ?_))
    exact postP_one _ (.inr rfl) rfl (.plain rfl)
theorem ag_bare:aggO Tryz.prog 293=some (true,5):=by kernel_rfl
theorem sz_bare:szO Tryz.prog 293=some 5:=by kernel_rfl
theorem ze_bare:zeroO Tryz.prog 293=some [.g (.int .i64 0),.g (.string ⟨#[]⟩),.g (.string ⟨#[]⟩),.g (.int .i64 0),.g (.int .i64 0)]:=by kernel_rfl
theorem bl_bare (parts:List (Nat×AV)):evBuild Tryz.prog 293 parts=aggM (fillL [(0,1),(1,1),(2,1),(3,1),(4,1)] [.g (.int .i64 0),.g (.string ⟨#[]⟩),.g (.string ⟨#[]⟩),.g (.int .i64 0),.g (.int .i64 0)] parts):=evBuild_eq (by kernel_rfl) parts
theorem eqg_bare:Tryz.prog.eqGuardType Tryz.prog.depth 293=false:=by kernel_rfl
theorem bare_neq (k1 k2 a1 a2 b1 b2:Int) (n1 n2 v1 v2:ByteArray):pv Tryz.prog (binOp .neq 293 (.agg #[.int .i64 k1,.string n1,.string v1,.int .i64 a1,.int .i64 b1]) (.agg #[.int .i64 k2,.string n2,.string v2,.int .i64 a2,.int .i64 b2])) =
 some (.bool (!(decide (k1=k2)&&(decide (n1=n2)&&(decide (v1=v2)&&(decide (a1=a2)&&(decide (b1=b2)&&true))))))) :=
 pv_neq_agg Tryz.underlying293 (by kernel_rfl) (by simp [eqFs,Tryz.underlying3,Tryz.underlying9])
attribute [go_sem] ag_bare sz_bare ze_bare eqg_bare
set_option maxRecDepth 100000 in
set_option maxHeartbeats 4000000 in
theorem plain4_p (k a b:Int) (n v:ByteArray) (n5 s5:Nat) (cs5:List AV):PureN Tryz.prog gt0 207 [.agg [.g (.int .i64 k),.g (.string n),.g (.string v),.g (.int .i64 a),.g (.int .i64 b),.sl n5 s5 cs5]] (.agg [.g (.int .i64 k),.g (.string n),.g (.string v),.g (.int .i64 a),.g (.int .i64 b)]):=by
 refine PureN.of_w (c:=_) Tryz.func207 rfl (by kernel_rfl) rfl ?_;simp only [Tryz.f207,List.replicate,List.length_cons,List.length_nil,Nat.reduceAdd,Nat.reduceSub,List.cons_append,List.nil_append]
 (repeat ((first | with_reducible refine W.step (b:=false) ?_ | skip);simp only [go_sem,↓reduceIte,Nat.reduceAdd,Nat.reduceSub,Nat.reduceMul,Nat.reduceEqDiff,Nat.reduceLeDiff,bl_bare];try with_reducible refine drawn hmix (by kernel_rfl) ?_))
 refine postP_one _ (.inr rfl) ?_ (.agg ?_)
 ·simp only [resV,go_sem,↓reduceIte,Nat.reduceAdd,Nat.reduceSub,Nat.reduceMul,Nat.reduceEqDiff,Nat.reduceLeDiff]
 ·simp [plainA]
set_option maxRecDepth 100000 in
set_option maxHeartbeats 4000000 in
theorem same7_p (l:List Dl) (hlen:l.length≤1000) (hcn:∀ d∈l,cntVs d.l≤1000):PureN Tryz.prog gt0 79 [.sl l.length 3 (l.flatMap encD),.sl l.length 3 (l.flatMap encD)] (.g (.bool true)):=by
 refine PureN.of_w (c:=_) Tryz.func79 rfl (by kernel_rfl) rfl ?_;simp only [Tryz.f79,List.replicate,List.length_cons,List.length_nil,Nat.reduceAdd,Nat.reduceSub,List.cons_append,List.nil_append]
 (repeat ((first | with_reducible refine W.step (b:=false) ?_ | skip);simp only [go_sem,↓reduceIte,Nat.reduceAdd,Nat.reduceSub,Nat.reduceMul,Nat.reduceEqDiff,Nat.reduceLeDiff];try with_reducible refine drawn hmix (by kernel_rfl) ?_))
 refine W.loop (s1:=stL [(.sl l.length 3 (l.flatMap encD)),(.sl l.length 3 (l.flatMap encD)),.any,.any,(.g (.bool false)),(.g (.int .i64 ((0:Nat):Int))),.any,.any,.any,.any,.any,.any,.any,.any,.any,.any,.any,.any,.any,.any,.any,.any,.any,.any,.any,.any,.any,.any,.any,.any,.any,.any,.any,.any,.any,.any,.any,.any,.any,.any,.any,.any,.any,.any,.any,.any,.any,.any,.any,.any,.any,.any,.any,.any,.any] [] 0)
  (fun (k:Nat) s=>k≤l.length∧s=stL [(.sl l.length 3 (l.flatMap encD)),(.sl l.length 3 (l.flatMap encD)),.any,.any,(.g (.bool false)),(.g (.int .i64 (k:Int))),.any,.any,.any,.any,.any,.any,.any,.any,.any,.any,.any,.any,.any,.any,.any,.any,.any,.any,.any,.any,.any,.any,.any,.any,.any,.any,.any,.any,.any,.any,.any,.any,.any,.any,.any,.any,.any,.any,.any,.any,.any,.any,.any,.any,.any,.any,.any,.any,.any] [] 0) (fun k=>l.length - k) 0 ⟨Nat.zero_le _,rfl⟩ (VS.tm (by simp [leL])) ?_
 rintro k t ⟨hk,rfl⟩
 by_cases hlt:k<l.length
 ·obtain ⟨r0,r1,r2⟩:=rowD hlt
  (repeat ((first | with_reducible refine W.step (b:=false) ?_ | skip);simp only [go_sem,↓reduceIte,Nat.reduceAdd,Nat.reduceSub,Nat.reduceMul,Nat.reduceEqDiff,Nat.reduceLeDiff,hlt,r0,r1,r2];try with_reducible refine drawn hmix (by kernel_rfl) ?_))
  refine AtCallQ.mk (same2_p _ l[k].l (Nat.le_refl _) (hcn _ (List.getElem_mem hlt))) ?_
  (repeat ((first | with_reducible refine W.step (b:=false) ?_ | skip);simp only [go_sem,↓reduceIte,Nat.reduceAdd,Nat.reduceSub,Nat.reduceMul,Nat.reduceEqDiff,Nat.reduceLeDiff];try with_reducible refine drawn hmix (by kernel_rfl) ?_))
  refine ⟨k+1,_,⟨by omega,rfl⟩,by show l.length - (k+1)<l.length - k;omega,VS.tm ?_⟩;rw [up1 (by omega)];simp [leL]
 ·(repeat ((first | with_reducible refine W.step (b:=false) ?_ | skip);simp only [go_sem,↓reduceIte,Nat.reduceAdd,Nat.reduceSub,Nat.reduceMul,Nat.reduceEqDiff,Nat.reduceLeDiff,hlt];try with_reducible refine drawn hmix (by kernel_rfl) ?_))
  exact postP_one _ (.inr rfl) rfl (.plain rfl)
mutual
def wdS:Simp→Bool
 | .mk _ _ _ _ _ l=>decide (l.length≤140737488351232)&&wdSs l
def wdSs:List Simp→Bool
 | []=>true
 | x::xs=>wdS x&&wdSs xs
end
theorem wdSs_at:∀ {l:List Simp},wdSs l=true→∀ x∈l,x.l.length≤140737488351232∧wdSs x.l=true
 | [],_,x,hx=>by simp at hx
 | y::l,h,x,hx=>by
   rw [wdSs,Bool.and_eq_true] at h;rcases List.mem_cons.1 hx with rfl | hx
   ·cases x
    rw [wdS,Bool.and_eq_true] at h;exact ⟨of_decide_eq_true h.1.1,h.1.2⟩
   ·exact wdSs_at h.2 x hx
theorem rowS {l:List Simp} {k:Nat} (hk:k<l.length):∃ a b,((l.flatMap encS).drop (k*6)).take 6=[.g (.int .i64 l[k].kind),.g (.string l[k].name),.g (.string l[k].value),.g (.int .i64 a),.g (.int .i64 b),.sl l[k].l.length 6 (l[k].l.flatMap encS)]∧k*6+6≤(l.flatMap encS).length ∧
 (l.flatMap encS)[k*6+5]?=some (.sl l[k].l.length 6 (l[k].l.flatMap encS))∧(l.flatMap encS)[k*6]?=some (.g (.int .i64 l[k].kind))∧(l.flatMap encS)[k*6+1]?=some (.g (.string l[k].name))∧(l.flatMap encS)[k*6+2]?=some (.g (.string l[k].value)) ∧
 (l.flatMap encS)[k*6+3]?=some (.g (.int .i64 a))∧(l.flatMap encS)[k*6+4]?=some (.g (.int .i64 b)):=by
 have h:=flat_get encS 6 encS_len l k hk;have h2:=row_part encS 6 encS_len l k hk 0 6 (by decide);obtain ⟨a,b,e⟩:=encS_eq l[k];rw [e] at h h2;exact ⟨a,b,h2,row_fit encS 6 encS_len l k hk (j:=0) (by decide),h 5 (by decide),h 0 (by decide),h 1 (by decide),h 2 (by decide),h 3 (by decide),h 4 (by decide)⟩
set_option maxRecDepth 100000 in
set_option maxHeartbeats 4000000 in
theorem simples_p (N:Nat):∀ (l:List Simp),SizeOf.sizeOf l≤N→l.length≤140737488351232→wdSs l=true→PureN Tryz.prog gt0 139 [.sl l.length 6 (l.flatMap encS),.sl l.length 6 (l.flatMap encS)] (.g (.bool true)):=by
 induction N with
 | zero=>intro l hl;cases l <;> simp at hl <;> omega
 | succ N ih =>
   intro l hl hlen hw;have IH:=fun k (hk:k<l.length)=>ih l[k].l (by have:=simp_lt (List.getElem_mem hk);omega) (wdSs_at hw _ (List.getElem_mem hk)).1 (wdSs_at hw _ (List.getElem_mem hk)).2;clear ih hl hw;refine PureN.of_w (c:=_) Tryz.func139 rfl (by kernel_rfl) rfl ?_;simp only [Tryz.f139,List.replicate,List.length_cons,List.length_nil,Nat.reduceAdd,Nat.reduceSub,List.cons_append,List.nil_append]
   (repeat ((first | with_reducible refine W.step (b:=false) ?_ | skip);simp only [go_sem,↓reduceIte,Nat.reduceAdd,Nat.reduceSub,Nat.reduceMul,Nat.reduceEqDiff,Nat.reduceLeDiff];try with_reducible refine drawn hmix (by kernel_rfl) ?_))
   refine W.loop (s1:=stL [(.sl l.length 6 (l.flatMap encS)),(.sl l.length 6 (l.flatMap encS)),.any,.any,(.g (.bool false)),(.g (.int .i64 ((0:Nat):Int))),.any,.any,.any,.any,.any,.any,.any,.any,.any,.any,.any,.any,.any,.any,.any,.any,.any,.any,.any,.any,.any,.any,.any,.any,.any,.any,.any,.any,.any,.any,.any,.any,.any,.any,.any,.any] [] 0)
    (fun (k:Nat) s=>k≤l.length∧s=stL [(.sl l.length 6 (l.flatMap encS)),(.sl l.length 6 (l.flatMap encS)),.any,.any,(.g (.bool false)),(.g (.int .i64 (k:Int))),.any,.any,.any,.any,.any,.any,.any,.any,.any,.any,.any,.any,.any,.any,.any,.any,.any,.any,.any,.any,.any,.any,.any,.any,.any,.any,.any,.any,.any,.any,.any,.any,.any,.any,.any,.any] [] 0) (fun k=>l.length - k) 0 ⟨Nat.zero_le _,rfl⟩ (VS.tm (by simp [leL])) ?_
   rintro k t ⟨hk,rfl⟩
   by_cases hlt:k<l.length
   ·obtain ⟨a,b,r6,r7,r5,-⟩:=rowS hlt
    (repeat ((first | with_reducible refine W.step (b:=false) ?_ | skip);simp only [go_sem,↓reduceIte,Nat.reduceAdd,Nat.reduceSub,Nat.reduceMul,Nat.reduceEqDiff,Nat.reduceLeDiff,hlt,r5,r6,r7];try with_reducible refine drawn hmix (by kernel_rfl) ?_))
    refine AtCallQ.mk (plain4_p _ a b _ _ _ _ _) ?_;simp only [go_sem,↓reduceIte,Nat.reduceAdd,Nat.reduceSub,Nat.reduceMul,Nat.reduceEqDiff,Nat.reduceLeDiff,hlt,r5,r6,r7];refine AtCallQ.mk (plain4_p _ a b _ _ _ _ _) ?_;simp only [go_sem,↓reduceIte,Nat.reduceAdd,Nat.reduceSub,Nat.reduceMul,Nat.reduceEqDiff,Nat.reduceLeDiff,hlt,r5,r6,r7,bare_neq];refine AtCallQ.mk (IH k hlt) ?_
    (repeat ((first | with_reducible refine W.step (b:=false) ?_ | skip);simp only [go_sem,↓reduceIte,Nat.reduceAdd,Nat.reduceSub,Nat.reduceMul,Nat.reduceEqDiff,Nat.reduceLeDiff];try with_reducible refine drawn hmix (by kernel_rfl) ?_))
    refine ⟨k+1,_,⟨by omega,rfl⟩,by show l.length - (k+1)<l.length - k;omega,VS.tm ?_⟩;rw [up1 (by omega)];simp [leL]
   ·(repeat ((first | with_reducible refine W.step (b:=false) ?_ | skip);simp only [go_sem,↓reduceIte,Nat.reduceAdd,Nat.reduceSub,Nat.reduceMul,Nat.reduceEqDiff,Nat.reduceLeDiff,hlt];try with_reducible refine drawn hmix (by kernel_rfl) ?_))
    exact postP_one _ (.inr rfl) rfl (.plain rfl)
def wdC (c:Cx):Prop:=c.parts.length≤140737488351232∧∀ p∈c.parts,p.l.length≤140737488351232∧wdSs p.l=true
set_option maxRecDepth 100000 in
set_option maxHeartbeats 4000000 in
theorem same4_p (l:List Cx) (hlen:l.length≤140737488351232) (hw:∀ c∈l,wdC c):PureN Tryz.prog gt0 78 [.sl l.length 2 (l.flatMap encC),.sl l.length 2 (l.flatMap encC)] (.g (.bool true)):=by
 refine PureN.of_w (c:=_) Tryz.func78 rfl (by kernel_rfl) rfl ?_;simp only [Tryz.f78,List.replicate,List.length_cons,List.length_nil,Nat.reduceAdd,Nat.reduceSub,List.cons_append,List.nil_append]
 (repeat ((first | with_reducible refine W.step (b:=false) ?_ | skip);simp only [go_sem,↓reduceIte,Nat.reduceAdd,Nat.reduceSub,Nat.reduceMul,Nat.reduceEqDiff,Nat.reduceLeDiff];try with_reducible refine drawn hmix (by kernel_rfl) ?_))
 refine W.loop (s1:=stL [(.sl l.length 2 (l.flatMap encC)),(.sl l.length 2 (l.flatMap encC)),.any,.any,(.g (.bool false)),(.g (.int .i64 ((0:Nat):Int))),.any,.any,.any,.any,.any,.any,.any,.any,.any,.any,.any,.any,.any,.any,.any,.any,.any,.any,.any,.any,.any,.any,.any,.any,.any,.any,.any,.any,.any,.any,.any,.any,.any,.any,.any,.any,.any,.any,.any,.any,.any,.any,.any,.any,.any,.any,.any,.any,.any,.any,.any,.any,.any,.any,.any,.any,.any,.any,.any,.any,.any,.any,.any,.any,.any,.any,.any,.any,.any,.any,.any,.any,.any,.any,.any,.any,.any,.any,.any] [] 0)
  (fun (k:Nat) s=>k≤l.length∧s=stL [(.sl l.length 2 (l.flatMap encC)),(.sl l.length 2 (l.flatMap encC)),.any,.any,(.g (.bool false)),(.g (.int .i64 (k:Int))),.any,.any,.any,.any,.any,.any,.any,.any,.any,.any,.any,.any,.any,.any,.any,.any,.any,.any,.any,.any,.any,.any,.any,.any,.any,.any,.any,.any,.any,.any,.any,.any,.any,.any,.any,.any,.any,.any,.any,.any,.any,.any,.any,.any,.any,.any,.any,.any,.any,.any,.any,.any,.any,.any,.any,.any,.any,.any,.any,.any,.any,.any,.any,.any,.any,.any,.any,.any,.any,.any,.any,.any,.any,.any,.any,.any,.any,.any,.any] [] 0) (fun k=>l.length - k) 0 ⟨Nat.zero_le _,rfl⟩ (VS.tm (by simp [leL])) ?_
 rintro k t ⟨hk,rfl⟩
 by_cases hlt:k<l.length
 ·obtain ⟨r0,r1⟩:=rowC hlt
  obtain ⟨hw1,hw2⟩:=hw _ (List.getElem_mem hlt)
  (repeat ((first | with_reducible refine W.step (b:=false) ?_ | skip);simp only [go_sem,↓reduceIte,Nat.reduceAdd,Nat.reduceSub,Nat.reduceMul,Nat.reduceEqDiff,Nat.reduceLeDiff,hlt,r0,r1];try with_reducible refine drawn hmix (by kernel_rfl) ?_))
  refine W.loop (s1:=stL [(.sl l.length 2 (l.flatMap encC)),(.sl l.length 2 (l.flatMap encC)),.any,.any,(.g (.bool false)),(.g (.int .i64 (k:Int))),(.g (.int .i64 ((0:Nat):Int))),.any,.any,.any,.any,.any,.any,.any,.any,.any,.any,.any,.any,.any,.any,.any,.any,.any,.any,.any,.any,.any,.any,.any,.any,.any,.any,.any,.any,.any,.any,.any,.any,.any,.any,.any,.any,.any,.any,.any,.any,.any,.any,.any,.any,.any,.any,.any,.any,.any,.any,.any,.any,.any,.any,.any,.any,.any,.any,.any,.any,.any,.any,.any,.any,.any,.any,.any,.any,.any,.any,.any,.any,.any,.any,.any,.any,.any,.any] [] 0)
   (fun (i:Nat) s=>i≤l[k].parts.length∧s=stL [(.sl l.length 2 (l.flatMap encC)),(.sl l.length 2 (l.flatMap encC)),.any,.any,(.g (.bool false)),(.g (.int .i64 (k:Int))),(.g (.int .i64 (i:Int))),.any,.any,.any,.any,.any,.any,.any,.any,.any,.any,.any,.any,.any,.any,.any,.any,.any,.any,.any,.any,.any,.any,.any,.any,.any,.any,.any,.any,.any,.any,.any,.any,.any,.any,.any,.any,.any,.any,.any,.any,.any,.any,.any,.any,.any,.any,.any,.any,.any,.any,.any,.any,.any,.any,.any,.any,.any,.any,.any,.any,.any,.any,.any,.any,.any,.any,.any,.any,.any,.any,.any,.any,.any,.any,.any,.any,.any,.any] [] 0) (fun i=>l[k].parts.length - i) 0 ⟨Nat.zero_le _,rfl⟩ (VS.tm (by simp [leL])) ?_
  rintro i t ⟨hi,rfl⟩
  by_cases hli:i<l[k].parts.length
  ·obtain ⟨s0,s1⟩:=rowP hli
   obtain ⟨hw3,hw4⟩:=hw2 _ (List.getElem_mem hli)
   (repeat ((first | with_reducible refine W.step (b:=true) ?_ | skip);simp only [go_sem,↓reduceIte,Nat.reduceAdd,Nat.reduceSub,Nat.reduceMul,Nat.reduceEqDiff,Nat.reduceLeDiff,hlt,hli,r0,r1,s0,s1];(try with_reducible refine drawn hmix (by kernel_rfl) ?_);try with_reducible refine ⟨by kernel_rfl,?_⟩))
   refine AtCall.mk (simples_p _ l[k].parts[i].l (Nat.le_refl _) hw3 hw4) ?_
   (repeat ((first | with_reducible refine W.step (b:=true) ?_ | skip);simp only [go_sem,↓reduceIte,Nat.reduceAdd,Nat.reduceSub,Nat.reduceMul,Nat.reduceEqDiff,Nat.reduceLeDiff];(try with_reducible refine drawn hmix (by kernel_rfl) ?_);try with_reducible refine ⟨by kernel_rfl,?_⟩))
   refine ⟨i+1,_,⟨by omega,rfl⟩,by show l[k].parts.length - (i+1)<l[k].parts.length - i;omega,VS.ren [] (by simp) (by simp) (Nat.le_refl _) ?_ trivial⟩;rw [up1 (by omega)];simp only [go_sem,↓reduceIte,Nat.reduceAdd,Nat.reduceSub,Nat.reduceMul,Nat.reduceEqDiff,Nat.reduceLeDiff]
  ·(repeat ((first | with_reducible refine W.step (b:=false) ?_ | skip);simp only [go_sem,↓reduceIte,Nat.reduceAdd,Nat.reduceSub,Nat.reduceMul,Nat.reduceEqDiff,Nat.reduceLeDiff,hlt,hli,r0,r1];try with_reducible refine drawn hmix (by kernel_rfl) ?_))
   refine ⟨k+1,_,⟨by omega,rfl⟩,by show l.length - (k+1)<l.length - k;omega,VS.tm ?_⟩;rw [up1 (by omega)];simp [leL]
 ·(repeat ((first | with_reducible refine W.step (b:=false) ?_ | skip);simp only [go_sem,↓reduceIte,Nat.reduceAdd,Nat.reduceSub,Nat.reduceMul,Nat.reduceEqDiff,Nat.reduceLeDiff,hlt];try with_reducible refine drawn hmix (by kernel_rfl) ?_))
  exact postP_one _ (.inr rfl) rfl (.plain rfl)
set_option maxRecDepth 100000 in
set_option maxHeartbeats 4000000 in
theorem texts8_p (l:List ByteArray) (hlen:l.length≤1000000):PureN Tryz.prog gt0 77 [.sl l.length 1 (l.flatMap encN),.sl l.length 1 (l.flatMap encN)] (.g (.bool true)):=by
 refine PureN.of_w (c:=_) Tryz.func77 rfl (by kernel_rfl) rfl ?_;simp only [Tryz.f77,List.replicate,List.length_cons,List.length_nil,Nat.reduceAdd,Nat.reduceSub,List.cons_append,List.nil_append]
 (repeat ((first | with_reducible refine W.step (b:=false) ?_ | skip);simp only [go_sem,↓reduceIte,Nat.reduceAdd,Nat.reduceSub,Nat.reduceMul,Nat.reduceEqDiff,Nat.reduceLeDiff];try with_reducible refine drawn hmix (by kernel_rfl) ?_))
 refine W.loop (s1:=stL [(.sl l.length 1 (l.flatMap encN)),(.sl l.length 1 (l.flatMap encN)),.any,.any,(.g (.bool false)),(.g (.int .i64 ((0:Nat):Int))),.any,.any,.any,.any,.any,.any,.any,.any,.any,.any,.any,.any,.any,.any,.any,.any,.any,.any,.any,.any] [] 0)
  (fun (k:Nat) s=>k≤l.length∧s=stL [(.sl l.length 1 (l.flatMap encN)),(.sl l.length 1 (l.flatMap encN)),.any,.any,(.g (.bool false)),(.g (.int .i64 (k:Int))),.any,.any,.any,.any,.any,.any,.any,.any,.any,.any,.any,.any,.any,.any,.any,.any,.any,.any,.any,.any] [] 0) (fun k=>l.length - k) 0 ⟨Nat.zero_le _,rfl⟩ (VS.tm (by simp [leL])) ?_
 rintro k t ⟨hk,rfl⟩
 by_cases hlt:k<l.length
 ·have r0:=rowN hlt
  (repeat ((first | with_reducible refine W.step (b:=false) ?_ | skip);simp only [go_sem,↓reduceIte,Nat.reduceAdd,Nat.reduceSub,Nat.reduceMul,Nat.reduceEqDiff,Nat.reduceLeDiff,hlt,r0];try with_reducible refine drawn hmix (by kernel_rfl) ?_))
  refine ⟨k+1,_,⟨by omega,rfl⟩,by show l.length - (k+1)<l.length - k;omega,VS.tm ?_⟩;rw [up1 (by omega)];simp [leL]
 ·(repeat ((first | with_reducible refine W.step (b:=false) ?_ | skip);simp only [go_sem,↓reduceIte,Nat.reduceAdd,Nat.reduceSub,Nat.reduceMul,Nat.reduceEqDiff,Nat.reduceLeDiff,hlt];try with_reducible refine drawn hmix (by kernel_rfl) ?_))
  exact postP_one _ (.inr rfl) rfl (.plain rfl)
mutual
def wdI:Itm→Prop
 | .mk _ s d n _ _ v l=>(s.length≤140737488351232∧∀ c∈s,wdC c)∧(d.length≤1000∧∀ x∈d,cntVs x.l≤1000)∧n.length≤1000000∧cntVs v≤1000∧l.length≤1000000∧wdIs l
def wdIs:List Itm→Prop
 | []=>True
 | x::xs=>wdI x∧wdIs xs
end
theorem wdI_eq (x:Itm):wdI x↔(x.sels.length≤140737488351232∧∀ c∈x.sels,wdC c)∧(x.decls.length≤1000∧∀ y∈x.decls,cntVs y.l≤1000)∧x.names.length≤1000000∧cntVs x.vals≤1000∧x.l.length≤1000000∧wdIs x.l:=by cases x;rw [wdI];rfl
theorem wdIs_at:∀ {l:List Itm},wdIs l→∀ x∈l,wdI x
 | [],_,x,hx=>by simp at hx
 | y::l,h,x,hx=>by
   rw [wdIs] at h;rcases List.mem_cons.1 hx with rfl | hx
   ·exact h.1
   ·exact wdIs_at h.2 x hx
set_option maxRecDepth 100000 in
set_option maxHeartbeats 4000000 in
theorem same8_p (N:Nat):∀ (l:List Itm),SizeOf.sizeOf l≤N→l.length≤1000000→wdIs l→PureN Tryz.prog gt0 27 [.sl l.length 8 (l.flatMap encI),.sl l.length 8 (l.flatMap encI)] (.g (.bool true)):=by
 induction N with
 | zero=>intro l hl;cases l <;> simp at hl <;> omega
 | succ N ih =>
   intro l hl hlen hw;have IH:=fun k (hk:k<l.length) (h1:l[k].l.length≤1000000) (h2:wdIs l[k].l)=>ih l[k].l (by have:=itm_lt (List.getElem_mem hk);omega) h1 h2;clear ih hl;refine PureN.of_w (c:=_) Tryz.func27 rfl (by kernel_rfl) rfl ?_;simp only [Tryz.f27,List.replicate,List.length_cons,List.length_nil,Nat.reduceAdd,Nat.reduceSub,List.cons_append,List.nil_append]
   (repeat ((first | with_reducible refine W.step (b:=false) ?_ | skip);simp only [go_sem,↓reduceIte,Nat.reduceAdd,Nat.reduceSub,Nat.reduceMul,Nat.reduceEqDiff,Nat.reduceLeDiff];try with_reducible refine drawn hmix (by kernel_rfl) ?_))
   refine W.loop (s1:=stL [(.sl l.length 8 (l.flatMap encI)),(.sl l.length 8 (l.flatMap encI)),.any,.any,(.g (.bool false)),(.g (.int .i64 ((0:Nat):Int))),.any,.any,.any,.any,.any,.any,.any,.any,.any,.any,.any,.any,.any,.any,.any,.any,.any,.any,.any,.any,.any,.any,.any,.any,.any,.any,.any,.any,.any,.any,.any,.any,.any,.any,.any,.any,.any,.any,.any,.any,.any,.any,.any,.any,.any,.any,.any,.any,.any,.any,.any,.any,.any,.any,.any,.any,.any,.any,.any,.any,.any,.any,.any,.any,.any,.any,.any,.any,.any,.any,.any,.any,.any,.any,.any,.any,.any,.any] [] 0)
    (fun (k:Nat) s=>k≤l.length∧s=stL [(.sl l.length 8 (l.flatMap encI)),(.sl l.length 8 (l.flatMap encI)),.any,.any,(.g (.bool false)),(.g (.int .i64 (k:Int))),.any,.any,.any,.any,.any,.any,.any,.any,.any,.any,.any,.any,.any,.any,.any,.any,.any,.any,.any,.any,.any,.any,.any,.any,.any,.any,.any,.any,.any,.any,.any,.any,.any,.any,.any,.any,.any,.any,.any,.any,.any,.any,.any,.any,.any,.any,.any,.any,.any,.any,.any,.any,.any,.any,.any,.any,.any,.any,.any,.any,.any,.any,.any,.any,.any,.any,.any,.any,.any,.any,.any,.any,.any,.any,.any,.any,.any,.any] [] 0) (fun k=>l.length - k) 0 ⟨Nat.zero_le _,rfl⟩ (VS.tm (by simp [leL])) ?_
   rintro k t ⟨hk,rfl⟩
   by_cases hlt:k<l.length
   ·obtain ⟨r0,r1⟩:=rowI hlt
    rw [encI_eq] at r0;obtain ⟨⟨a1,a2⟩,⟨b1,b2⟩,c1,d1,e1,e2⟩:=(wdI_eq _).1 (wdIs_at hw _ (List.getElem_mem hlt));have IHk:=IH k hlt e1 e2
    (repeat ((first | with_reducible refine W.step (b:=true) ?_ | skip);simp only [go_sem,↓reduceIte,Nat.reduceAdd,Nat.reduceSub,Nat.reduceMul,Nat.reduceEqDiff,Nat.reduceLeDiff,hlt,r0,r1];(try with_reducible refine drawn hmix (by kernel_rfl) ?_);try with_reducible refine ⟨by kernel_rfl,?_⟩))
    refine AtCall.mk (texts8_p _ c1) ?_;simp only [go_sem,↓reduceIte,Nat.reduceAdd,Nat.reduceSub,Nat.reduceMul,Nat.reduceEqDiff,Nat.reduceLeDiff];refine AtCall.mk (same4_p _ a1 a2) ?_
    (repeat ((first | with_reducible refine W.step (b:=true) ?_ | skip);simp only [go_sem,↓reduceIte,Nat.reduceAdd,Nat.reduceSub,Nat.reduceMul,Nat.reduceEqDiff,Nat.reduceLeDiff];(try with_reducible refine drawn hmix (by kernel_rfl) ?_);try with_reducible refine ⟨by kernel_rfl,?_⟩))
    refine AtCall.mk (same7_p _ b1 b2) ?_;simp only [go_sem,↓reduceIte,Nat.reduceAdd,Nat.reduceSub,Nat.reduceMul,Nat.reduceEqDiff,Nat.reduceLeDiff];refine AtCall.mk (same2_p _ _ (Nat.le_refl _) d1) ?_;simp only [go_sem,↓reduceIte,Nat.reduceAdd,Nat.reduceSub,Nat.reduceMul,Nat.reduceEqDiff,Nat.reduceLeDiff];refine AtCall.mk IHk ?_
    (repeat ((first | with_reducible refine W.step (b:=true) ?_ | skip);simp only [go_sem,↓reduceIte,Nat.reduceAdd,Nat.reduceSub,Nat.reduceMul,Nat.reduceEqDiff,Nat.reduceLeDiff];(try with_reducible refine drawn hmix (by kernel_rfl) ?_);try with_reducible refine ⟨by kernel_rfl,?_⟩))
    refine ⟨k+1,_,⟨by omega,rfl⟩,by show l.length - (k+1)<l.length - k;omega,VS.ren [] (by simp) (by simp) (Nat.le_refl _) ?_ trivial⟩;rw [up1 (by omega)];simp only [go_sem,↓reduceIte,Nat.reduceAdd,Nat.reduceSub,Nat.reduceMul,Nat.reduceEqDiff,Nat.reduceLeDiff]
   ·(repeat ((first | with_reducible refine W.step (b:=false) ?_ | skip);simp only [go_sem,↓reduceIte,Nat.reduceAdd,Nat.reduceSub,Nat.reduceMul,Nat.reduceEqDiff,Nat.reduceLeDiff,hlt];try with_reducible refine drawn hmix (by kernel_rfl) ?_))
    exact postP_one _ (.inr rfl) rfl (.plain rfl)
attribute [go_sem] appL newsA isSlice
theorem ei_vals:elemI Tryz.prog 27=some (5,64,true):=by kernel_rfl
theorem ss_vals:slOrStr (Tryz.prog.underlying 27)=true:=by kernel_rfl
theorem sz_val:szO Tryz.prog 67=some 5:=by kernel_rfl
attribute [go_sem] ei_vals ss_vals sz_val
def inA (l:List ByteArray) (x:ByteArray):Bool:=l.any fun y=>decide (y=x)
theorem inA_iff {l:List ByteArray} {x:ByteArray}:inA l x=true↔x∈l:=by
 unfold inA;rw [List.any_eq_true];exact ⟨fun ⟨y,h1,h2⟩=>of_decide_eq_true h2▸h1,fun h=>⟨x,h,decide_eq_true rfl⟩⟩
set_option maxRecDepth 100000 in
set_option maxHeartbeats 4000000 in
theorem in11_p (l:List ByteArray) (x:ByteArray) (hlen:l.length≤1000000):PureN Tryz.prog gt0 22 [.sl l.length 1 (l.flatMap encN),.g (.string x)] (.g (.bool (inA l x))):=by
 refine PureN.of_w (c:=_) Tryz.func22 rfl (by kernel_rfl) rfl ?_;simp only [Tryz.f22,List.replicate,List.length_cons,List.length_nil,Nat.reduceAdd,Nat.reduceSub,List.cons_append,List.nil_append]
 (repeat ((first | with_reducible refine W.step (b:=false) ?_ | skip);simp only [go_sem,↓reduceIte,Nat.reduceAdd,Nat.reduceSub,Nat.reduceMul,Nat.reduceEqDiff,Nat.reduceLeDiff,Nat.reduceLT,Int.reduceLE,Int.reduceLT,Int.reduceToNat,Int.reduceEq];try with_reducible refine drawn hmix (by kernel_rfl) ?_))
 refine W.loop (s1:=stL [(.sl l.length 1 (l.flatMap encN)),(.g (.string x)),.any,.any,(.g (.bool false)),(.g (.int .i64 ((0:Nat):Int))),.any,.any,.any,.any,.any,.any,.any,.any,.any,.any,.any,.any] [] 0)
  (fun (k:Nat) s=>k≤l.length∧x∉l.take k∧s=stL [(.sl l.length 1 (l.flatMap encN)),(.g (.string x)),.any,.any,(.g (.bool false)),(.g (.int .i64 (k:Int))),.any,.any,.any,.any,.any,.any,.any,.any,.any,.any,.any,.any] [] 0) (fun k=>l.length - k) 0 ⟨Nat.zero_le _,by simp,rfl⟩ (VS.tm (by simp [leL])) ?_
 rintro k t ⟨hk,hnx,rfl⟩
 by_cases hlt:k<l.length
 ·have r0:=rowN hlt
  (repeat ((first | with_reducible refine W.step (b:=false) ?_ | skip);simp only [go_sem,↓reduceIte,Nat.reduceAdd,Nat.reduceSub,Nat.reduceMul,Nat.reduceEqDiff,Nat.reduceLeDiff,Nat.reduceLT,Int.reduceLE,Int.reduceLT,Int.reduceToNat,Int.reduceEq,hlt,r0];try with_reducible refine drawn hmix (by kernel_rfl) ?_))
  refine condK_split (fun h=>?_) (fun h=>?_)
  ·have hm:x∈l:=by
    have e:l[k]=x:=of_decide_eq_true h;rw [←e];exact List.getElem_mem hlt
   rw [inA_iff.2 hm]
   (repeat ((first | with_reducible refine W.step (b:=false) ?_ | skip);simp only [go_sem,↓reduceIte,Nat.reduceAdd,Nat.reduceSub,Nat.reduceMul,Nat.reduceEqDiff,Nat.reduceLeDiff,Nat.reduceLT,Int.reduceLE,Int.reduceLT,Int.reduceToNat,Int.reduceEq];try with_reducible refine drawn hmix (by kernel_rfl) ?_))
   exact postP_one _ (.inr rfl) rfl (.plain rfl)
  ·have hne:l[k]≠x:=of_decide_eq_false h
   (repeat ((first | with_reducible refine W.step (b:=false) ?_ | skip);simp only [go_sem,↓reduceIte,Nat.reduceAdd,Nat.reduceSub,Nat.reduceMul,Nat.reduceEqDiff,Nat.reduceLeDiff,Nat.reduceLT,Int.reduceLE,Int.reduceLT,Int.reduceToNat,Int.reduceEq];try with_reducible refine drawn hmix (by kernel_rfl) ?_))
   refine ⟨k+1,_,⟨by omega,?_,rfl⟩,by show l.length - (k+1)<l.length - k;omega,VS.tm ?_⟩
   ·rw [List.take_succ_eq_append_getElem hlt,List.mem_append,not_or]
    exact ⟨hnx,fun h=>hne (List.mem_singleton.1 h).symm⟩
   ·rw [up1 (by omega)]
    simp only [go_sem,↓reduceIte,Nat.reduceAdd,Nat.reduceSub,Nat.reduceMul,Nat.reduceEqDiff,Nat.reduceLeDiff,Nat.reduceLT,Int.reduceLE,Int.reduceLT,Int.reduceToNat,Int.reduceEq,or_true,true_or]
 ·(repeat ((first | with_reducible refine W.step (b:=false) ?_ | skip);simp only [go_sem,↓reduceIte,Nat.reduceAdd,Nat.reduceSub,Nat.reduceMul,Nat.reduceEqDiff,Nat.reduceLeDiff,Nat.reduceLT,Int.reduceLE,Int.reduceLT,Int.reduceToNat,Int.reduceEq,hlt];try with_reducible refine drawn hmix (by kernel_rfl) ?_))
  have hm:¬x∈l:=by
   obtain rfl:k=l.length:=by omega
   rwa [List.take_length] at hnx
  rw [show inA l x=false from by rw [←Bool.not_eq_true,inA_iff];exact hm];exact postP_one _ (.inr rfl) rfl (.plain rfl)
set_option maxRecDepth 100000 in
set_option maxHeartbeats 4000000 in
theorem blank3_p (x:Vl):PureN Tryz.prog gt0 128 [.agg [.g (.int .i64 x.kind),.g (.int .i64 x.tk),.g (.string x.text),.g (.int .i64 x.n),.sl x.l.length 5 (x.l.flatMap encV)]] (.g (.bool (blankB x))):=by
 refine PureN.of_w (c:=_) Tryz.func128 rfl (by kernel_rfl) rfl ?_;simp only [Tryz.f128,List.replicate,List.length_cons,List.length_nil,Nat.reduceAdd,Nat.reduceSub,List.cons_append,List.nil_append]
 by_cases hk:x.kind=1
 ·(repeat ((first | with_reducible refine W.step (b:=false) ?_ | skip);simp only [go_sem,↓reduceIte,Nat.reduceAdd,Nat.reduceSub,Nat.reduceMul,Nat.reduceEqDiff,Nat.reduceLeDiff,Nat.reduceLT,Int.reduceLE,Int.reduceLT,Int.reduceToNat,Int.reduceEq,hk];try with_reducible refine drawn hmix (by kernel_rfl) ?_))
  have e:blankB x=decide (x.tk=8):=by unfold blankB;rw [hk];exact (Bool.true_and _).trans (int_beq _ _)
  rw [e];exact postP_one _ (.inr rfl) rfl (.plain rfl)
 ·(repeat ((first | with_reducible refine W.step (b:=false) ?_ | skip);simp only [go_sem,↓reduceIte,Nat.reduceAdd,Nat.reduceSub,Nat.reduceMul,Nat.reduceEqDiff,Nat.reduceLeDiff,Nat.reduceLT,Int.reduceLE,Int.reduceLT,Int.reduceToNat,Int.reduceEq,hk];try with_reducible refine drawn hmix (by kernel_rfl) ?_))
  have e:blankB x=false:=by unfold blankB;rw [Bool.and_eq_false_iff];exact .inl (by simpa using hk)
  rw [e];exact postP_one _ (.inr rfl) rfl (.plain rfl)
theorem row_cut {α:Type} (enc:α→List AV) (sz:Nat) (hsz:∀ x,(enc x).length=sz):∀ (l:List α) (k c:Nat),((l.flatMap enc).drop (k*sz)).take (c*sz)=((l.drop k).take c).flatMap enc
 | l,0,c=>by
   rw [Nat.zero_mul,List.drop_zero,List.drop_zero]
   induction c generalizing l with
   | zero=>simp
   | succ c ih =>
     cases l with
     | nil=>simp
     | cons x l =>
       rw [List.flatMap_cons,List.take_succ_cons,List.flatMap_cons,List.take_append,List.take_of_length_le (by rw [hsz,Nat.succ_mul];omega),hsz,show (c+1)*sz - sz=c*sz by rw [Nat.succ_mul];omega,ih]
 | [],k+1,c=>by simp
 | x::l,k+1,c=>by
   rw [List.flatMap_cons,List.drop_append,List.drop_of_length_le (by rw [hsz,Nat.succ_mul];omega),List.nil_append,hsz,show (k+1)*sz - sz=k*sz by rw [Nat.succ_mul];omega,List.drop_succ_cons];exact row_cut enc sz hsz l k c
theorem row_all {α:Type} (enc:α→List AV) (sz:Nat) (hsz:∀ x,(enc x).length=sz) (l:List α):(l.flatMap enc).take (l.length*sz)=l.flatMap enc:=by
 rw [List.take_of_length_le (by rw [row_len enc sz hsz];exact Nat.le_refl _)]
theorem row_cells {α:Type} (enc:α→List AV) (h:∀ x,(enc x).all isCell=true) (l:List α):(l.flatMap enc).all isCell=true:=by
 rw [List.all_eq_true];intro a ha;obtain ⟨x,hx,hax⟩:=List.mem_flatMap.1 ha;exact List.all_eq_true.1 (h x) a hax
theorem row_plain {α:Type} (enc:α→List AV) (h:∀ x,∀ a∈enc x,plainA a=true) (l:List α):∀ a∈l.flatMap enc,plainA a=true:=by
 intro a ha;obtain ⟨x,hx,hax⟩:=List.mem_flatMap.1 ha;exact h x a hax
theorem encV_cells (x:Vl):(encV x).all isCell=true:=by rw [encV_eq];rfl
theorem encV_plain (x:Vl):∀ a∈encV x,plainA a=true:=by rw [encV_eq];simp [plainA]
theorem dropWhile_of {α:Type} (p:α→Bool):∀ (l:List α) (k:Nat),k≤l.length→(∀ x∈l.take k,p x=true)→(∀ h:k<l.length,p l[k]=false)→l.dropWhile p=l.drop k
 | l,0,_,_,h=>by
   cases l with
   | nil=>rfl
   | cons x l=>rw [List.dropWhile_cons_of_neg (by have:=h (by simp);simpa using this)];rfl
 | [],k+1,hk,_,_=>by simp at hk
 | x::l,k+1,hk,h1,h2=>by
   rw [List.dropWhile_cons_of_pos (h1 x (by simp)),List.drop_succ_cons];exact dropWhile_of p l k (by simpa using hk) (fun y hy=>h1 y (by rw [List.take_succ_cons];exact List.mem_cons_of_mem _ hy)) (fun h=>h2 (by simpa using h))
theorem trim_at {l:List Vl} {k j:Nat} (hkj:k≤j) (hj:j≤l.length) (h1:∀ x∈l.take k,blankB x=true) (h2:∀ h:k<l.length,k<j→blankB l[k]=false) (h3:∀ x∈l.drop j,blankB x=true) (h4:∀ h:j - 1<l.length,k<j→blankB l[j - 1]=false) :
 trimM l=(l.drop k).take (j - k):=by
 unfold trimM
 by_cases he:k=j
 ·subst he
  have hall:∀ x∈l,blankB x=true:=fun x hx=>by
   rw [←List.take_append_drop k l] at hx;rcases List.mem_append.1 hx with h | h
   ·exact h1 x h
   ·exact h3 x h
  have:l.dropWhile blankB=[]:=by
   have:=dropWhile_of blankB l l.length (Nat.le_refl _) (fun x hx=>hall x (by rwa [List.take_length] at hx)) (fun h=>absurd h (Nat.lt_irrefl _));rw [this,List.drop_length]
  rw [this];simp
 ·rw [dropWhile_of blankB l k (by omega) h1 (fun h=>h2 h (by omega))]
  have hl:(l.drop k).length=l.length - k:=List.length_drop;have e:(l.drop k).reverse.dropWhile blankB=(l.drop k).reverse.drop (l.length - j):=by
   refine dropWhile_of blankB _ _ (by simp;omega) (fun x hx=>?_) (fun h=>?_)
   ·rw [List.take_reverse] at hx
    have hx':=List.mem_reverse.1 hx;rw [List.drop_drop,hl] at hx';refine h3 x ?_
    rwa [show k+(l.length - k - (l.length - j))=j by omega] at hx'
   ·rw [List.getElem_reverse,List.getElem_drop]
    have:=h4 (by omega) (by omega);have e9:k+((l.drop k).length - 1 - (l.length - j))=j - 1:=by omega
    simp only [e9];exact this
  rw [e,List.drop_reverse,List.reverse_reverse,hl,show l.length - k - (l.length - j)=j - k by omega]
set_option maxRecDepth 100000 in
set_option maxHeartbeats 4000000 in
theorem trim3_p (l:List Vl) (hlen:l.length≤1000):PureN Tryz.prog gt0 67 [.sl l.length 5 (l.flatMap encV)] (.sl (trimM l).length 5 ((trimM l).flatMap encV)):=by
 refine PureN.of_w (c:=_) Tryz.func67 rfl (by kernel_rfl) rfl ?_;simp only [Tryz.f67,List.replicate,List.length_cons,List.length_nil,Nat.reduceAdd,Nat.reduceSub,List.cons_append,List.nil_append]
 (repeat ((first | with_reducible refine W.step (b:=false) ?_ | skip);simp only [go_sem,↓reduceIte,Nat.reduceAdd,Nat.reduceSub,Nat.reduceMul,Nat.reduceEqDiff,Nat.reduceLeDiff,Nat.reduceLT,Int.reduceLE,Int.reduceLT,Int.reduceToNat,Int.reduceEq];try with_reducible refine drawn hmix (by kernel_rfl) ?_))
 have RP:∀ k (hk:k<l.length),((l.flatMap encV).drop (k*5)).take 5=[.g (.int .i64 l[k].kind),.g (.int .i64 l[k].tk),.g (.string l[k].text),.g (.int .i64 l[k].n),.sl l[k].l.length 5 (l[k].l.flatMap encV)]∧k*5+5≤(l.flatMap encV).length:=by
  intro k hlt;have rp:=row_part encV 5 encV_len l k hlt 0 5 (by decide);rw [Nat.add_zero,List.drop_zero,List.take_of_length_le (l:=encV l[k]) (by rw [encV_len];decide),encV_eq] at rp;exact ⟨rp,row_fit encV 5 encV_len l k hlt (j:=0) (c:=5) (by decide)⟩
 refine W.after 0 (fun k:Nat=>k≤l.length∧(∀ x∈l.take k,blankB x=true)∧∀ h:k<l.length,blankB l[k]=false) (fun k=>stL [(.sl l.length 5 (l.flatMap encV)),.any,.any,(.g (.int .i64 (k:Int))),(.g (.int .i64 (l.length:Int))),.any,.any,.any,.any,.any,.any,.any,.any,.any,.any,.any,.any,.any,.any,.any,.any,.any,.any,.any,.any,.any,.any,.any,.any,.any,.any,.any,.any,.any,.any,.any,.any,.any] [] 0) ?_ ?_
 ·refine W.loop (s1:=stL [(.sl l.length 5 (l.flatMap encV)),.any,.any,(.g (.int .i64 ((0:Nat):Int))),(.g (.int .i64 (l.length:Int))),.any,.any,.any,.any,.any,.any,.any,.any,.any,.any,.any,.any,.any,.any,.any,.any,.any,.any,.any,.any,.any,.any,.any,.any,.any,.any,.any,.any,.any,.any,.any,.any,.any] [] 0)
   (fun (k:Nat) s=>k≤l.length∧(∀ x∈l.take k,blankB x=true)∧s=stL [(.sl l.length 5 (l.flatMap encV)),.any,.any,(.g (.int .i64 (k:Int))),(.g (.int .i64 (l.length:Int))),.any,.any,.any,.any,.any,.any,.any,.any,.any,.any,.any,.any,.any,.any,.any,.any,.any,.any,.any,.any,.any,.any,.any,.any,.any,.any,.any,.any,.any,.any,.any,.any,.any] [] 0) (fun k=>l.length - k) 0 ⟨Nat.zero_le _,by simp,rfl⟩ (VS.tm (by simp [leL])) ?_
  rintro k t ⟨hk,hbl,rfl⟩
  by_cases hlt:k<l.length
  ·obtain ⟨rp,rl⟩:=RP k hlt
   (repeat ((first | with_reducible refine W.step (b:=false) ?_ | skip);simp only [go_sem,↓reduceIte,Nat.reduceAdd,Nat.reduceSub,Nat.reduceMul,Nat.reduceEqDiff,Nat.reduceLeDiff,Nat.reduceLT,Int.reduceLE,Int.reduceLT,Int.reduceToNat,Int.reduceEq,hlt,rp,rl];try with_reducible refine drawn hmix (by kernel_rfl) ?_))
   refine AtCall.mk (blank3_p l[k]) ?_;simp only [go_sem,↓reduceIte,Nat.reduceAdd,Nat.reduceSub,Nat.reduceMul,Nat.reduceEqDiff,Nat.reduceLeDiff,Nat.reduceLT,Int.reduceLE,Int.reduceLT,Int.reduceToNat,Int.reduceEq]
   cases hb:blankB l[k]
   ·(repeat ((first | with_reducible refine W.step (b:=false) ?_ | skip);simp only [go_sem,↓reduceIte,Nat.reduceAdd,Nat.reduceSub,Nat.reduceMul,Nat.reduceEqDiff,Nat.reduceLeDiff,Nat.reduceLT,Int.reduceLE,Int.reduceLT,Int.reduceToNat,Int.reduceEq];try with_reducible refine drawn hmix (by kernel_rfl) ?_))
    exact ⟨rfl,k,⟨hk,hbl,fun _=>hb⟩,VS.tm (by simp only [go_sem,↓reduceIte,Nat.reduceAdd,Nat.reduceSub,Nat.reduceMul,Nat.reduceEqDiff,Nat.reduceLeDiff,Nat.reduceLT,Int.reduceLE,Int.reduceLT,Int.reduceToNat,Int.reduceEq,or_true,true_or])⟩
   ·(repeat ((first | with_reducible refine W.step (b:=false) ?_ | skip);simp only [go_sem,↓reduceIte,Nat.reduceAdd,Nat.reduceSub,Nat.reduceMul,Nat.reduceEqDiff,Nat.reduceLeDiff,Nat.reduceLT,Int.reduceLE,Int.reduceLT,Int.reduceToNat,Int.reduceEq];try with_reducible refine drawn hmix (by kernel_rfl) ?_))
    refine ⟨k+1,_,⟨by omega,fun x hx=>?_,rfl⟩,by show l.length - (k+1)<l.length - k;omega,VS.tm ?_⟩
    ·rw [List.take_succ_eq_append_getElem hlt,List.mem_append,List.mem_singleton] at hx
     rcases hx with hx | rfl
     ·exact hbl x hx
     ·exact hb
    ·rw [up1 (by omega)]
     simp only [go_sem,↓reduceIte,Nat.reduceAdd,Nat.reduceSub,Nat.reduceMul,Nat.reduceEqDiff,Nat.reduceLeDiff,Nat.reduceLT,Int.reduceLE,Int.reduceLT,Int.reduceToNat,Int.reduceEq,or_true,true_or]
  ·(repeat ((first | with_reducible refine W.step (b:=false) ?_ | skip);simp only [go_sem,↓reduceIte,Nat.reduceAdd,Nat.reduceSub,Nat.reduceMul,Nat.reduceEqDiff,Nat.reduceLeDiff,Nat.reduceLT,Int.reduceLE,Int.reduceLT,Int.reduceToNat,Int.reduceEq,hlt];try with_reducible refine drawn hmix (by kernel_rfl) ?_))
   exact ⟨rfl,k,⟨hk,hbl,fun h=>absurd h hlt⟩,VS.tm (by simp only [go_sem,↓reduceIte,Nat.reduceAdd,Nat.reduceSub,Nat.reduceMul,Nat.reduceEqDiff,Nat.reduceLeDiff,Nat.reduceLT,Int.reduceLE,Int.reduceLT,Int.reduceToNat,Int.reduceEq,or_true,true_or])⟩
 ·rintro k s ⟨hk,hbl,hnb⟩ hv
  simp only [go_sem,↓reduceIte,Nat.reduceAdd,Nat.reduceSub,Nat.reduceMul,Nat.reduceEqDiff,Nat.reduceLeDiff,Nat.reduceLT,Int.reduceLE,Int.reduceLT,Int.reduceToNat,Int.reduceEq];refine W.vs hv ?_;clear hv
  (repeat ((first | with_reducible refine W.step (b:=false) ?_ | skip);simp only [go_sem,↓reduceIte,Nat.reduceAdd,Nat.reduceSub,Nat.reduceMul,Nat.reduceEqDiff,Nat.reduceLeDiff,Nat.reduceLT,Int.reduceLE,Int.reduceLT,Int.reduceToNat,Int.reduceEq];try with_reducible refine drawn hmix (by kernel_rfl) ?_))
  refine W.after 2 (fun j:Nat=>k≤j∧j≤l.length∧(∀ x∈l.drop j,blankB x=true)∧∀ h:j - 1<l.length,k<j→blankB l[j - 1]=false) (fun j=>stL [(.sl l.length 5 (l.flatMap encV)),.any,.any,(.g (.int .i64 (k:Int))),(.g (.int .i64 (j:Int))),.any,.any,.any,.any,.any,.any,.any,.any,.any,.any,.any,.any,.any,.any,.any,.any,.any,.any,.any,.any,.any,.any,.any,.any,.any,.any,.any,.any,.any,.any,.any,.any,.any] [] 0) ?_ ?_
  ·refine W.loop (s1:=stL [(.sl l.length 5 (l.flatMap encV)),.any,.any,(.g (.int .i64 (k:Int))),(.g (.int .i64 (l.length:Int))),.any,.any,.any,.any,.any,.any,.any,.any,.any,.any,.any,.any,.any,.any,.any,.any,.any,.any,.any,.any,.any,.any,.any,.any,.any,.any,.any,.any,.any,.any,.any,.any,.any] [] 0)
    (fun (j:Nat) s=>k≤j∧j≤l.length∧(∀ x∈l.drop j,blankB x=true)∧s=stL [(.sl l.length 5 (l.flatMap encV)),.any,.any,(.g (.int .i64 (k:Int))),(.g (.int .i64 (j:Int))),.any,.any,.any,.any,.any,.any,.any,.any,.any,.any,.any,.any,.any,.any,.any,.any,.any,.any,.any,.any,.any,.any,.any,.any,.any,.any,.any,.any,.any,.any,.any,.any,.any] [] 0) (fun j=>j) l.length ⟨hk,Nat.le_refl _,by simp,rfl⟩ (VS.tm (by simp only [go_sem,↓reduceIte,Nat.reduceAdd,Nat.reduceSub,Nat.reduceMul,Nat.reduceEqDiff,Nat.reduceLeDiff,Nat.reduceLT,Int.reduceLE,Int.reduceLT,Int.reduceToNat,Int.reduceEq,or_true,true_or])) ?_
   rintro j t ⟨hkj,hj,hbl2,rfl⟩
   by_cases hlt:k<j
   ·have hj1:j - 1<l.length:=by omega
    obtain ⟨rp,rl⟩:=RP (j - 1) hj1;have e1:IntKind.i64.wrap ((j:Int) - 1)=((j - 1:Nat):Int):=by rw [IntWalk.i64_in _ (by omega)];omega
    (repeat ((first | with_reducible refine W.step (b:=false) ?_ | skip);simp only [go_sem,↓reduceIte,Nat.reduceAdd,Nat.reduceSub,Nat.reduceMul,Nat.reduceEqDiff,Nat.reduceLeDiff,Nat.reduceLT,Int.reduceLE,Int.reduceLT,Int.reduceToNat,Int.reduceEq,hlt,rp,rl,e1,hj1];try with_reducible refine drawn hmix (by kernel_rfl) ?_))
    refine AtCall.mk (blank3_p l[j - 1]) ?_;simp only [go_sem,↓reduceIte,Nat.reduceAdd,Nat.reduceSub,Nat.reduceMul,Nat.reduceEqDiff,Nat.reduceLeDiff,Nat.reduceLT,Int.reduceLE,Int.reduceLT,Int.reduceToNat,Int.reduceEq]
    cases hb:blankB l[j - 1]
    ·(repeat ((first | with_reducible refine W.step (b:=false) ?_ | skip);simp only [go_sem,↓reduceIte,Nat.reduceAdd,Nat.reduceSub,Nat.reduceMul,Nat.reduceEqDiff,Nat.reduceLeDiff,Nat.reduceLT,Int.reduceLE,Int.reduceLT,Int.reduceToNat,Int.reduceEq];try with_reducible refine drawn hmix (by kernel_rfl) ?_))
     exact ⟨rfl,j,⟨hkj,hj,hbl2,fun _ _=>hb⟩,VS.tm (by simp only [go_sem,↓reduceIte,Nat.reduceAdd,Nat.reduceSub,Nat.reduceMul,Nat.reduceEqDiff,Nat.reduceLeDiff,Nat.reduceLT,Int.reduceLE,Int.reduceLT,Int.reduceToNat,Int.reduceEq,or_true,true_or])⟩
    ·(repeat ((first | with_reducible refine W.step (b:=false) ?_ | skip);simp only [go_sem,↓reduceIte,Nat.reduceAdd,Nat.reduceSub,Nat.reduceMul,Nat.reduceEqDiff,Nat.reduceLeDiff,Nat.reduceLT,Int.reduceLE,Int.reduceLT,Int.reduceToNat,Int.reduceEq,e1];try with_reducible refine drawn hmix (by kernel_rfl) ?_))
     refine ⟨j - 1,_,⟨by omega,by omega,fun x hx=>?_,rfl⟩,by show j - 1<j;omega,VS.tm ?_⟩
     ·rw [List.drop_eq_getElem_cons hj1,show j - 1+1=j by omega] at hx
      rcases List.mem_cons.1 hx with rfl | hx
      ·exact hb
      ·exact hbl2 x hx
     ·simp only [go_sem,↓reduceIte,Nat.reduceAdd,Nat.reduceSub,Nat.reduceMul,Nat.reduceEqDiff,Nat.reduceLeDiff,Nat.reduceLT,Int.reduceLE,Int.reduceLT,Int.reduceToNat,Int.reduceEq,or_true,true_or]
   ·(repeat ((first | with_reducible refine W.step (b:=false) ?_ | skip);simp only [go_sem,↓reduceIte,Nat.reduceAdd,Nat.reduceSub,Nat.reduceMul,Nat.reduceEqDiff,Nat.reduceLeDiff,Nat.reduceLT,Int.reduceLE,Int.reduceLT,Int.reduceToNat,Int.reduceEq,hlt];try with_reducible refine drawn hmix (by kernel_rfl) ?_))
    exact ⟨rfl,j,⟨hkj,hj,hbl2,fun _ h=>absurd h hlt⟩,VS.tm (by simp only [go_sem,↓reduceIte,Nat.reduceAdd,Nat.reduceSub,Nat.reduceMul,Nat.reduceEqDiff,Nat.reduceLeDiff,Nat.reduceLT,Int.reduceLE,Int.reduceLT,Int.reduceToNat,Int.reduceEq,or_true,true_or])⟩
  ·rintro j s ⟨hkj,hj,hbl2,hnb2⟩ hv
   have HT:=trim_at hkj hj hbl (fun h _=>hnb h) hbl2 hnb2;simp only [go_sem,↓reduceIte,Nat.reduceAdd,Nat.reduceSub,Nat.reduceMul,Nat.reduceEqDiff,Nat.reduceLeDiff,Nat.reduceLT,Int.reduceLE,Int.reduceLT,Int.reduceToNat,Int.reduceEq];refine W.vs hv ?_;clear hv;have hT:((l.drop k).take (j - k)).length=j - k:=by rw [List.length_take,List.length_drop];omega
   have e1:((l.flatMap encV).drop (k*5)).take ((j - k)*5)=(trimM l).flatMap encV:=by rw [row_cut encV 5 encV_len,HT]
   have hT2:(trimM l).length=j - k:=by rw [HT];exact hT
   have e2:((trimM l).flatMap encV).take ((j - k)*5)=(trimM l).flatMap encV:=by rw [←hT2];exact row_all encV 5 encV_len _
   have e3:(j - k)*5≤((trimM l).flatMap encV).length:=by rw [row_len encV 5 encV_len,hT2];exact Nat.le_refl _
   have e4:=row_cells encV encV_cells (trimM l);have e5:=row_plain encV encV_plain (trimM l);have e6:(j - k)*(64+1)≤17179869184:=by omega
   by_cases hz:j - k=0
   ·(repeat ((first | with_reducible refine W.step (b:=false) ?_ | skip);simp only [go_sem,↓reduceIte,Nat.reduceAdd,Nat.reduceSub,Nat.reduceMul,Nat.reduceEqDiff,Nat.reduceLeDiff,Nat.reduceLT,Int.reduceLE,Int.reduceLT,Int.reduceToNat,Int.reduceEq,e1,e2,e3,hkj,hj,hz];try with_reducible refine drawn hmix (by kernel_rfl) ?_))
    have:trimM l=[]:=List.eq_nil_of_length_eq_zero (by rw [hT2];exact hz);rw [this];exact postP_one _ (.inr rfl) rfl (SealTo.gs (b:=0) (o:=0) (k:=0) (sz:=5) (c:=0) (cs:=[]) rfl (by simp) (by simp))
   ·(repeat ((first | with_reducible refine W.step (b:=false) ?_ | skip);simp only [go_sem,↓reduceIte,Nat.reduceAdd,Nat.reduceSub,Nat.reduceMul,Nat.reduceEqDiff,Nat.reduceLeDiff,Nat.reduceLT,Int.reduceLE,Int.reduceLT,Int.reduceToNat,Int.reduceEq,e1,e2,e3,e4,e6,hkj,hj,hz];try with_reducible refine drawn hmix (by kernel_rfl) ?_))
    have hS:=SealTo.gs (m:=[(1,.cells ((trimM l).flatMap encV))]) (b:=1) (o:=0) (k:=j - k) (sz:=5) (c:=j - k) (cs:=(trimM l).flatMap encV) rfl (by rw [Nat.zero_add];exact e3) (by rw [List.drop_zero,e2];exact e5);rw [List.drop_zero,e2] at hS;rw [hT2];exact postP_one _ (.inr rfl) rfl hS
theorem ff_iff {s:ByteArray}:decide (s=⟨#[102,111,110,116,45,102,97,109,105,108,121]⟩)=ffB s:=by
 rw [←ba_eq];unfold ffB;rw [ByteArray.toList_eq (⟨#[102,111,110,116,45,102,97,109,105,108,121]⟩:ByteArray)]
set_option maxRecDepth 100000 in
set_option maxHeartbeats 400000 in
theorem fam15_p (k mn mx:Int) (n1 s1 n3 s3 n6 s6 n7 s7:Nat) (c1 c3 c6 c7:List AV) (ds:List Dl) (hlen:ds.length≤1000) (hcn:∀ d∈ds,d.l.length≤1000):PureN Tryz.prog gt0 83 [.agg [.g (.int .i64 k),.sl n1 s1 c1,.sl ds.length 3 (ds.flatMap encD),.sl n3 s3 c3,.g (.int .i64 mn),.g (.int .i64 mx),.sl n6 s6 c6,.sl n7 s7 c7]]
 (.tup [.g (.string (famR ds.reverse).1),.g (.bool (famR ds.reverse).2)]):=by
 refine PureN.of_w (c:=_) Tryz.func83 rfl (by kernel_rfl) rfl ?_;simp only [Tryz.f83,List.replicate,List.length_cons,List.length_nil,Nat.reduceAdd,Nat.reduceSub,List.cons_append,List.nil_append];have e0:IntKind.i64.wrap ((ds.length:Int) - 1)=(ds.length:Int) - 1:=IntWalk.i64_in _ (by omega)
 (repeat ((first | with_reducible refine W.step (b:=false) ?_ | skip);simp only [go_sem,↓reduceIte,Nat.reduceAdd,Nat.reduceSub,Nat.reduceMul,Nat.reduceEqDiff,Nat.reduceLeDiff,Nat.reduceLT,Int.reduceLE,Int.reduceLT,Int.reduceToNat,Int.reduceEq,e0];try with_reducible refine drawn hmix (by kernel_rfl) ?_))
 refine W.loop (s1:=stL [.any,(.ptr 0 0),(.g (.string ⟨#[]⟩)),(.g (.bool false)),(.g (.int .i64 ((ds.length:Int) - 1))),.any,.any,.any,.any,.any,.any,.any,.any,.any,.any,.any,.any,.any,.any,.any,.any,.any,.any,.any,.any,.any,.any,.any,.any,.any,.any,.any,.any,.any,.any,.any,.any,.any,.any,.any,.any,.any,.any,.any,.any,.any,.any,.any,.any,.any,.any,.any,.any,.any,.any,.any,.any,.any,.any] [(0,.cells [.g (.int .i64 k),.sl n1 s1 c1,.sl ds.length 3 (ds.flatMap encD),.sl n3 s3 c3,.g (.int .i64 mn),.g (.int .i64 mx),.sl n6 s6 c6,.sl n7 s7 c7])] 1)
  (fun (j:Nat) s=>j≤ds.length∧famR ds.reverse=famR (ds.take j).reverse∧s=stL [.any,(.ptr 0 0),(.g (.string ⟨#[]⟩)),(.g (.bool false)),(.g (.int .i64 ((j:Int) - 1))),.any,.any,.any,.any,.any,.any,.any,.any,.any,.any,.any,.any,.any,.any,.any,.any,.any,.any,.any,.any,.any,.any,.any,.any,.any,.any,.any,.any,.any,.any,.any,.any,.any,.any,.any,.any,.any,.any,.any,.any,.any,.any,.any,.any,.any,.any,.any,.any,.any,.any,.any,.any,.any,.any] [(0,.cells [.g (.int .i64 k),.sl n1 s1 c1,.sl ds.length 3 (ds.flatMap encD),.sl n3 s3 c3,.g (.int .i64 mn),.g (.int .i64 mx),.sl n6 s6 c6,.sl n7 s7 c7])] 1) (fun j=>j) ds.length ⟨Nat.le_refl _,by rw [List.take_length],rfl⟩ (VS.tm (by simp only [go_sem,↓reduceIte,Nat.reduceAdd,Nat.reduceSub,Nat.reduceMul,Nat.reduceEqDiff,Nat.reduceLeDiff,Nat.reduceLT,Int.reduceLE,Int.reduceLT,Int.reduceToNat,Int.reduceEq,or_true,true_or])) ?_
 rintro j t ⟨hj,hf,rfl⟩
 by_cases hpos:0<j
 ·obtain ⟨i,rfl⟩:∃ i,j=i+1:=⟨j - 1,by omega⟩
  have hlt:i<ds.length:=by omega
  have ei:((i+1:Nat):Int) - 1=(i:Int):=by omega
  have e1:IntKind.i64.wrap ((i:Int) - 1)=(i:Int) - 1:=IntWalk.i64_in _ (by omega);obtain ⟨r0,r1,r2⟩:=rowD hlt;have hfi:famR (ds.take (i+1)).reverse=if ffB ds[i].name=true then pickM (trimM ds[i].l) else famR (ds.take i).reverse:=by
   rw [List.take_succ_eq_append_getElem hlt,List.reverse_append];rfl
  rw [hfi] at hf
  by_cases hn:ds[i].name=⟨#[102,111,110,116,45,102,97,109,105,108,121]⟩
  ·have hff:ffB ds[i].name=true:=by rw [←ff_iff];exact decide_eq_true hn
   rw [if_pos hff] at hf;rw [hf]
   (repeat ((first | with_reducible refine W.step (b:=false) ?_ | skip);simp only [go_sem,↓reduceIte,Nat.reduceAdd,Nat.reduceSub,Nat.reduceMul,Nat.reduceEqDiff,Nat.reduceLeDiff,Nat.reduceLT,Int.reduceLE,Int.reduceLT,Int.reduceToNat,Int.reduceEq,ei,hlt,r0,r1,hn];try with_reducible refine drawn hmix (by kernel_rfl) ?_))
   refine AtCall.mk (trim3_p ds[i].l (hcn _ (List.getElem_mem hlt))) ?_;simp only [go_sem,↓reduceIte,Nat.reduceAdd,Nat.reduceSub,Nat.reduceMul,Nat.reduceEqDiff,Nat.reduceLeDiff,Nat.reduceLT,Int.reduceLE,Int.reduceLT,Int.reduceToNat,Int.reduceEq];generalize trimM ds[i].l=T
   by_cases hl:T.length=1
   ·obtain ⟨y,rfl⟩:=List.length_eq_one_iff.1 hl
    have hrow:[y].flatMap encV=[.g (.int .i64 y.kind),.g (.int .i64 y.tk),.g (.string y.text),.g (.int .i64 y.n),.sl y.l.length 5 (y.l.flatMap encV)]:=by rw [List.flatMap_cons,List.flatMap_nil,List.append_nil,encV_eq]
    have h1:(([y]:List Vl).length:Int)=1:=rfl
    by_cases hk:y.kind=1
    ·by_cases h11:y.tk=1
     ·have hp:pickM [y]=(y.text,true):=by simp [pickM,hk,h11]
      rw [hp]
      (repeat ((first | with_reducible refine W.step (b:=false) ?_ | skip);simp only [go_sem,↓reduceIte,Nat.reduceAdd,Nat.reduceSub,Nat.reduceMul,Nat.reduceEqDiff,Nat.reduceLeDiff,Nat.reduceLT,Int.reduceLE,Int.reduceLT,Int.reduceToNat,Int.reduceEq,hrow,h1,hk,h11];try with_reducible refine drawn hmix (by kernel_rfl) ?_))
      ((with_reducible refine postP_pl2 _ (.inr rfl) ?_ ?_ ?_ ?_) <;> rfl)
     ·by_cases h6:y.tk=6
      ·have hp:pickM [y]=(y.text,true):=by simp [pickM,hk,h6]
       rw [hp]
       (repeat ((first | with_reducible refine W.step (b:=false) ?_ | skip);simp only [go_sem,↓reduceIte,Nat.reduceAdd,Nat.reduceSub,Nat.reduceMul,Nat.reduceEqDiff,Nat.reduceLeDiff,Nat.reduceLT,Int.reduceLE,Int.reduceLT,Int.reduceToNat,Int.reduceEq,hrow,h1,hk,h11,h6];try with_reducible refine drawn hmix (by kernel_rfl) ?_))
       ((with_reducible refine postP_pl2 _ (.inr rfl) ?_ ?_ ?_ ?_) <;> rfl)
      ·have hp:pickM [y]=(⟨#[]⟩,false):=by simp [pickM,h11,h6]
       rw [hp]
       (repeat ((first | with_reducible refine W.step (b:=false) ?_ | skip);simp only [go_sem,↓reduceIte,Nat.reduceAdd,Nat.reduceSub,Nat.reduceMul,Nat.reduceEqDiff,Nat.reduceLeDiff,Nat.reduceLT,Int.reduceLE,Int.reduceLT,Int.reduceToNat,Int.reduceEq,hrow,h1,hk,h11,h6];try with_reducible refine drawn hmix (by kernel_rfl) ?_))
       ((with_reducible refine postP_pl2 _ (.inr rfl) ?_ ?_ ?_ ?_) <;> rfl)
    ·have hp:pickM [y]=(⟨#[]⟩,false):=by simp [pickM,hk]
     rw [hp]
     (repeat ((first | with_reducible refine W.step (b:=false) ?_ | skip);simp only [go_sem,↓reduceIte,Nat.reduceAdd,Nat.reduceSub,Nat.reduceMul,Nat.reduceEqDiff,Nat.reduceLeDiff,Nat.reduceLT,Int.reduceLE,Int.reduceLT,Int.reduceToNat,Int.reduceEq,hrow,h1,hk];try with_reducible refine drawn hmix (by kernel_rfl) ?_))
     ((with_reducible refine postP_pl2 _ (.inr rfl) ?_ ?_ ?_ ?_) <;> rfl)
   ·have hp:pickM T=(⟨#[]⟩,false):=by
     cases T with
     | nil=>rfl
     | cons a T =>
       cases T with
       | nil=>exact absurd rfl hl
       | cons b T=>rfl
    have hl':¬(T.length:Int)=1:=by omega
    rw [hp]
    (repeat ((first | with_reducible refine W.step (b:=false) ?_ | skip);simp only [go_sem,↓reduceIte,Nat.reduceAdd,Nat.reduceSub,Nat.reduceMul,Nat.reduceEqDiff,Nat.reduceLeDiff,Nat.reduceLT,Int.reduceLE,Int.reduceLT,Int.reduceToNat,Int.reduceEq,hl'];try with_reducible refine drawn hmix (by kernel_rfl) ?_))
    ((with_reducible refine postP_pl2 _ (.inr rfl) ?_ ?_ ?_ ?_) <;> rfl)
  ·have hff:¬ffB ds[i].name=true:=by rw [←ff_iff];exact fun h=>hn (of_decide_eq_true h)
   rw [if_neg hff] at hf
   (repeat ((first | with_reducible refine W.step (b:=false) ?_ | skip);simp only [go_sem,↓reduceIte,Nat.reduceAdd,Nat.reduceSub,Nat.reduceMul,Nat.reduceEqDiff,Nat.reduceLeDiff,Nat.reduceLT,Int.reduceLE,Int.reduceLT,Int.reduceToNat,Int.reduceEq,ei,hlt,r0,r1,hn,e1];try with_reducible refine drawn hmix (by kernel_rfl) ?_))
   exact ⟨i,_,⟨by omega,hf,rfl⟩,Nat.lt_succ_self i,VS.tm (by simp only [go_sem,↓reduceIte,Nat.reduceAdd,Nat.reduceSub,Nat.reduceMul,Nat.reduceEqDiff,Nat.reduceLeDiff,Nat.reduceLT,Int.reduceLE,Int.reduceLT,Int.reduceToNat,Int.reduceEq,or_true,true_or])⟩
 ·obtain rfl:j=0:=by omega
  have hneg:¬(0:Int)≤((0:Nat):Int) - 1:=by omega
  have hf0:famR ds.reverse=(⟨#[]⟩,false):=hf;rw [hf0];clear hf hf0;have e9:(0:Int) - 1=-1:=rfl;have e8:¬(0:Int)≤-1:=by omega
  (repeat ((first | with_reducible refine W.step (b:=false) ?_ | skip);simp only [go_sem,↓reduceIte,Nat.reduceAdd,Nat.reduceSub,Nat.reduceMul,Nat.reduceEqDiff,Nat.reduceLeDiff,Nat.reduceLT,Int.reduceLE,Int.reduceLT,Int.reduceToNat,Int.reduceEq,hneg,e9,e8];try with_reducible refine drawn hmix (by kernel_rfl) ?_))
  ((with_reducible refine postP_pl2 _ (.inr rfl) ?_ ?_ ?_ ?_) <;> rfl)
theorem ei_strs:elemI Tryz.prog 25=some (1,16,true):=by kernel_rfl
theorem so_strs:slOrStr (Tryz.prog.underlying 25)=true:=by kernel_rfl
theorem fillA_nil (p:Nat→Option (Nat×Nat)) (c:List AV):fillA p c []=some c:=Eq.trans rfl rfl
theorem fillA_cons (p:Nat→Option (Nat×Nat)) (c:List AV) (i:Nat) (v:AV) (r:List (Nat×AV)):fillA p c ((i,v)::r)=(match p i,cellsA v with
 | some (off,size),some pc=>if pc.length=size∧off+pc.length≤c.length then fillA p (putA c off pc) r else none
 | _,_=>none):=Eq.trans rfl rfl
theorem getR_memL (m:ML) (b:Nat):getR [memL m] b=getL m b:=by rw [getR_cons,memL_get];cases getL m b <;> rfl
attribute [go_sem] ei_strs so_strs fillA_nil fillA_cons getR_memL
def ltB (a b:ByteArray):Bool:=Op.bytesLess a.toList b.toList
def stP (s:ByteArray) (a:List ByteArray×Bool) (x:ByteArray):List ByteArray×Bool:=if (!a.2&&ltB s x)=true then (a.1++[s,x],true) else (a.1++[x],a.2)
def putB (l:List ByteArray) (s:ByteArray):List ByteArray:=if inA l s=true then l else
 if (l.foldl (stP s) ([],false)).2=true then (l.foldl (stP s) ([],false)).1 else (l.foldl (stP s) ([],false)).1++[s]
theorem stP_len (s:ByteArray) (a:List ByteArray×Bool) (x:ByteArray):(stP s a x).1.length≤a.1.length+2:=by
 unfold stP
 split <;> simp
theorem stP_all (s:ByteArray):∀ (l:List ByteArray) (a:List ByteArray×Bool),(l.foldl (stP s) a).1.length≤a.1.length+2*l.length
 | [],a=>by simp
 | x::l,a=>by
   have h1:=stP_len s a x;have h2:=stP_all s l (stP s a x);simp only [List.foldl_cons,List.length_cons] at *;omega
theorem reM_one {n1:Nat} {q:Ren} {m:ML} {c b:Nat} {cs:List AV} (h1:lkE n1 q c=some b) (h2:getL m b=some (.cells cs)) (h3:noIdsL cs=true):reM n1 q m [(c,.cells cs)] :=
 ⟨⟨b,.cells cs,h1,h2,cs,rfl,.inl ⟨rfl,h3⟩⟩,trivial⟩
theorem noIds_N:∀ (l:List ByteArray),noIdsL (l.flatMap encN)=true
 | []=>by rw [List.flatMap_nil,noIdsL]
 | x::l=>by
   have:=noIds_N l;rw [List.flatMap_cons,encN,List.cons_append,List.nil_append,noIdsL,this];rfl
theorem encN_plain (x:ByteArray):∀ a∈encN x,plainA a=true:=by simp [encN,plainA]
theorem seal_N {b n:Nat} {l:List ByteArray} {m:ML} (hg:getL m b=some (.cells (l.flatMap encN))) (hn:n=l.length):SealTo m (.gs b 0 n 1 n) (.sl l.length 1 (l.flatMap encN)):=by
 subst hn;have h:=SealTo.gs (m:=m) (b:=b) (o:=0) (k:=l.length) (sz:=1) (c:=l.length) hg (by rw [row_len encN 1 (fun _=>rfl)];omega) (fun a ha=>row_plain encN encN_plain l a (List.mem_of_mem_take (by simpa using ha)))
 rwa [List.drop_zero,row_all encN 1 (fun _=>rfl)] at h
set_option maxRecDepth 100000 in
set_option maxHeartbeats 4000000 in
theorem put18_p (l:List ByteArray) (s:ByteArray) (hlen:l.length≤1000000):PureN Tryz.prog gt0 156 [.sl l.length 1 (l.flatMap encN),.g (.string s)] (.sl (putB l s).length 1 ((putB l s).flatMap encN)):=by
 refine PureN.of_w (c:=_) Tryz.func156 rfl (by kernel_rfl) rfl ?_;simp only [Tryz.f156,List.replicate,List.length_cons,List.length_nil,Nat.reduceAdd,Nat.reduceSub,List.cons_append,List.nil_append]
 (repeat ((first | with_reducible refine W.step (b:=false) ?_ | skip);simp only [go_sem,↓reduceIte,Nat.reduceAdd,Nat.reduceSub,Nat.reduceMul,Nat.reduceEqDiff,Nat.reduceLeDiff,Nat.reduceLT,Int.reduceLE,Int.reduceLT,Int.reduceToNat,Int.reduceEq];try with_reducible refine drawn hmix (by kernel_rfl) ?_))
 refine W.loop (s1:=stL [(.sl l.length 1 (l.flatMap encN)),(.g (.string s)),.any,.any,.any,(.gs 0 0 0 1 0),(.g (.bool false)),(.g (.int .i64 ((0:Nat):Int))),.any,.any,.any,.any,.any,.any,.any,.any,.any,.any,.any,.any,.any,.any,.any,.any,.any,.any,.any,.any,.any,.any,.any,.any,.any,.any,.any,.any,.any,.any,.any,.any,.any,.any,.any,.any,.any,.any,.any,.any,.any,.any] [(0,.cells [])] 1)
  (fun (k:Nat) t=>∃ (o:List ByteArray) (d:Bool),k≤l.length∧(∀ x∈l.take k,x≠s)∧(l.take k).foldl (stP s) ([],false)=(o,d)∧t=stL [(.sl l.length 1 (l.flatMap encN)),(.g (.string s)),.any,.any,.any,(.gs 0 0 o.length 1 o.length),(.g (.bool d)),(.g (.int .i64 (k:Int))),.any,.any,.any,.any,.any,.any,.any,.any,.any,.any,.any,.any,.any,.any,.any,.any,.any,.any,.any,.any,.any,.any,.any,.any,.any,.any,.any,.any,.any,.any,.any,.any,.any,.any,.any,.any,.any,.any,.any,.any,.any,.any] [(0,.cells (o.flatMap encN))] 1) (fun k=>l.length - k) 0 ⟨[],false,Nat.zero_le _,by simp,rfl,rfl⟩ (VS.tm (by simp [leL])) ?_
 rintro k t ⟨o,d,hk,hne,hfo,rfl⟩;have hol:o.length≤2*k:=by
  have:=stP_all s (l.take k) ([],false);rw [hfo,List.length_take] at this;simp at this;omega
 have E1:(o.flatMap encN).length=o.length:=by rw [row_len encN 1 (fun _=>rfl)];omega
 have E2:¬(o.length+1≤o.length):=by omega
 have E3:(o.length+1)*17≤17179869184:=by omega
 have E4:∀ x,(o.flatMap encN++[AV.g (.string x)]).length=o.length+1:=fun x=>by rw [List.length_append,E1];rfl
 have E5:(o.length+1+1)*17≤17179869184:=by omega
 have E6:∀ x,o.flatMap encN++[AV.g (.string x)]=(o++[x]).flatMap encN:=fun x=>by rw [List.flatMap_append];rfl
 by_cases hlt:k<l.length
 ·have r0:=rowN hlt
  have hne':l[k]≠s→∀ x∈l.take (k+1),x≠s:=fun he x hx=>by
   rw [List.take_succ_eq_append_getElem hlt,List.mem_append,List.mem_singleton] at hx;rcases hx with hx | rfl
   ·exact hne x hx
   ·exact he
  have hfo':(l.take (k+1)).foldl (stP s) ([],false)=stP s (o,d) l[k]:=by rw [List.take_succ_eq_append_getElem hlt,List.foldl_append,hfo];rfl
  by_cases he:l[k]=s
  ·(repeat ((first | with_reducible refine W.step (b:=false) ?_ | skip);simp only [go_sem,↓reduceIte,Nat.reduceAdd,Nat.reduceSub,Nat.reduceMul,Nat.reduceEqDiff,Nat.reduceLeDiff,Nat.reduceLT,Int.reduceLE,Int.reduceLT,Int.reduceToNat,Int.reduceEq,hlt,r0,he];try with_reducible refine drawn hmix (by kernel_rfl) ?_))
   have e:putB l s=l:=by
    unfold putB;rw [if_pos (inA_iff.2 (he▸List.getElem_mem hlt))]
   rw [e];exact postP_one _ (.inr rfl) rfl (.plain rfl)
  ·cases d
   ·cases hs:Op.bytesLess s.toList l[k].toList
    ·(repeat ((first | with_reducible refine W.step (b:=false) ?_ | skip);simp only [go_sem,↓reduceIte,Nat.reduceAdd,Nat.reduceSub,Nat.reduceMul,Nat.reduceEqDiff,Nat.reduceLeDiff,Nat.reduceLT,Int.reduceLE,Int.reduceLT,Int.reduceToNat,Int.reduceEq,hlt,r0,he,hs,E1,E2,E3];try with_reducible refine drawn hmix (by kernel_rfl) ?_))
     refine ⟨k+1,_,⟨o++[l[k]],false,by omega,hne' he,?_,rfl⟩,by show l.length - (k+1)<l.length - k;omega,VS.ren [(0,2)] (by simp) (by simp) (by simp) ?_ ?_⟩
     ·rw [hfo',stP,if_neg (by simp [ltB,hs])]
     ·rw [up1 (by omega)]
      simp only [go_sem,↓reduceIte,Nat.reduceAdd,Nat.reduceSub,Nat.reduceMul,Nat.reduceEqDiff,Nat.reduceLeDiff,Nat.reduceLT,Int.reduceLE,Int.reduceLT,Int.reduceToNat,Int.reduceEq,List.length_append]
     ·exact reM_one rfl (by rw [←E6];rfl) (noIds_N _)
    ·(repeat ((first | with_reducible refine W.step (b:=false) ?_ | skip);simp only [go_sem,↓reduceIte,Nat.reduceAdd,Nat.reduceSub,Nat.reduceMul,Nat.reduceEqDiff,Nat.reduceLeDiff,Nat.reduceLT,Int.reduceLE,Int.reduceLT,Int.reduceToNat,Int.reduceEq,hlt,r0,he,hs,E1,E2,E3,E4,E5];try with_reducible refine drawn hmix (by kernel_rfl) ?_))
     refine ⟨k+1,_,⟨o++[s,l[k]],true,by omega,hne' he,?_,rfl⟩,by show l.length - (k+1)<l.length - k;omega,VS.ren [(0,4)] (by simp) (by simp) (by simp) ?_ ?_⟩
     ·rw [hfo',stP,if_pos (by simp [ltB,hs])]
     ·rw [up1 (by omega)]
      simp only [go_sem,↓reduceIte,Nat.reduceAdd,Nat.reduceSub,Nat.reduceMul,Nat.reduceEqDiff,Nat.reduceLeDiff,Nat.reduceLT,Int.reduceLE,Int.reduceLT,Int.reduceToNat,Int.reduceEq,List.length_append]
     ·exact reM_one rfl (by rw [show o++[s,l[k]]=o++[s]++[l[k]] by simp,List.flatMap_append,←E6];rfl) (noIds_N _)
   ·(repeat ((first | with_reducible refine W.step (b:=false) ?_ | skip);simp only [go_sem,↓reduceIte,Nat.reduceAdd,Nat.reduceSub,Nat.reduceMul,Nat.reduceEqDiff,Nat.reduceLeDiff,Nat.reduceLT,Int.reduceLE,Int.reduceLT,Int.reduceToNat,Int.reduceEq,hlt,r0,he,E1,E2,E3];try with_reducible refine drawn hmix (by kernel_rfl) ?_))
    refine ⟨k+1,_,⟨o++[l[k]],true,by omega,hne' he,?_,rfl⟩,by show l.length - (k+1)<l.length - k;omega,VS.ren [(0,2)] (by simp) (by simp) (by simp) ?_ ?_⟩
    ·rw [hfo',stP,if_neg (by simp)]
    ·rw [up1 (by omega)]
     simp only [go_sem,↓reduceIte,Nat.reduceAdd,Nat.reduceSub,Nat.reduceMul,Nat.reduceEqDiff,Nat.reduceLeDiff,Nat.reduceLT,Int.reduceLE,Int.reduceLT,Int.reduceToNat,Int.reduceEq,List.length_append]
    ·exact reM_one rfl (by rw [←E6];rfl) (noIds_N _)
 ·obtain rfl:k=l.length:=by omega
  rw [List.take_length] at hfo hne;have hin:inA l s=false:=by
   rw [Bool.eq_false_iff];exact fun h=>hne s (inA_iff.1 h) rfl
  have e:putB l s=if d=true then o else o++[s]:=by
   unfold putB;rw [hfo,if_neg (by rw [hin];decide)]
  rw [e]
  cases d
  ·(repeat ((first | with_reducible refine W.step (b:=false) ?_ | skip);simp only [go_sem,↓reduceIte,Nat.reduceAdd,Nat.reduceSub,Nat.reduceMul,Nat.reduceEqDiff,Nat.reduceLeDiff,Nat.reduceLT,Int.reduceLE,Int.reduceLT,Int.reduceToNat,Int.reduceEq,hlt,E1,E2,E3];try with_reducible refine drawn hmix (by kernel_rfl) ?_))
   exact postP_one _ (.inr rfl) rfl (seal_N (by rw [←E6];rfl) (by rw [List.length_append];rfl))
  ·(repeat ((first | with_reducible refine W.step (b:=false) ?_ | skip);simp only [go_sem,↓reduceIte,Nat.reduceAdd,Nat.reduceSub,Nat.reduceMul,Nat.reduceEqDiff,Nat.reduceLeDiff,Nat.reduceLT,Int.reduceLE,Int.reduceLT,Int.reduceToNat,Int.reduceEq,hlt];try with_reducible refine drawn hmix (by kernel_rfl) ?_))
   exact postP_one _ (.inr rfl) rfl (seal_N rfl rfl)
def putsB (l more:List ByteArray):List ByteArray:=more.foldl putB l
set_option maxRecDepth 100000 in
set_option maxHeartbeats 4000000 in
theorem puts18_p (l more:List ByteArray) (hlen:∀ k,k≤more.length→(putsB l (more.take k)).length≤1000000) (hm:more.length≤1000000):PureN Tryz.prog gt0 213 [.sl l.length 1 (l.flatMap encN),.sl more.length 1 (more.flatMap encN)] (.sl (putsB l more).length 1 ((putsB l more).flatMap encN)):=by
 refine PureN.of_w (c:=_) Tryz.func213 rfl (by kernel_rfl) rfl ?_;simp only [Tryz.f213,List.replicate,List.length_cons,List.length_nil,Nat.reduceAdd,Nat.reduceSub,List.cons_append,List.nil_append]
 (repeat ((first | with_reducible refine W.step (b:=false) ?_ | skip);simp only [go_sem,↓reduceIte,Nat.reduceAdd,Nat.reduceSub,Nat.reduceMul,Nat.reduceEqDiff,Nat.reduceLeDiff,Nat.reduceLT,Int.reduceLE,Int.reduceLT,Int.reduceToNat,Int.reduceEq];try with_reducible refine drawn hmix (by kernel_rfl) ?_))
 refine W.loop (s1:=stL [(.sl l.length 1 (l.flatMap encN)),(.sl more.length 1 (more.flatMap encN)),.any,.any,.any,(.g (.int .i64 ((0:Nat):Int))),.any,.any,.any,.any,.any,.any,.any,.any,.any,.any,.any,.any,.any] [] 0)
  (fun (k:Nat) t=>k≤more.length∧t=stL [(.sl (putsB l (more.take k)).length 1 ((putsB l (more.take k)).flatMap encN)),(.sl more.length 1 (more.flatMap encN)),.any,.any,.any,(.g (.int .i64 (k:Int))),.any,.any,.any,.any,.any,.any,.any,.any,.any,.any,.any,.any,.any] [] 0) (fun k=>more.length - k) 0 ⟨Nat.zero_le _,rfl⟩ (VS.tm (by simp [leL])) ?_
 rintro k t ⟨hk,rfl⟩
 by_cases hlt:k<more.length
 ·have r0:=rowN hlt
  (repeat ((first | with_reducible refine W.step (b:=false) ?_ | skip);simp only [go_sem,↓reduceIte,Nat.reduceAdd,Nat.reduceSub,Nat.reduceMul,Nat.reduceEqDiff,Nat.reduceLeDiff,Nat.reduceLT,Int.reduceLE,Int.reduceLT,Int.reduceToNat,Int.reduceEq,hlt,r0];try with_reducible refine drawn hmix (by kernel_rfl) ?_))
  refine AtCall.mk (put18_p (putsB l (more.take k)) more[k] (hlen k hk)) ?_
  (repeat ((first | with_reducible refine W.step (b:=false) ?_ | skip);simp only [go_sem,↓reduceIte,Nat.reduceAdd,Nat.reduceSub,Nat.reduceMul,Nat.reduceEqDiff,Nat.reduceLeDiff,Nat.reduceLT,Int.reduceLE,Int.reduceLT,Int.reduceToNat,Int.reduceEq];try with_reducible refine drawn hmix (by kernel_rfl) ?_))
  have e:putsB l (more.take (k+1))=putB (putsB l (more.take k)) more[k]:=by rw [putsB,List.take_succ_eq_append_getElem hlt,List.foldl_append];rfl
  refine ⟨k+1,_,⟨by omega,rfl⟩,by show more.length - (k+1)<more.length - k;omega,VS.tm ?_⟩;rw [up1 (by omega),e];simp [leL]
 ·obtain rfl:k=more.length:=by omega
  (repeat ((first | with_reducible refine W.step (b:=false) ?_ | skip);simp only [go_sem,↓reduceIte,Nat.reduceAdd,Nat.reduceSub,Nat.reduceMul,Nat.reduceEqDiff,Nat.reduceLeDiff,Nat.reduceLT,Int.reduceLE,Int.reduceLT,Int.reduceToNat,Int.reduceEq,hlt];try with_reducible refine drawn hmix (by kernel_rfl) ?_))
  rw [List.take_length];exact postP_one _ (.inr rfl) rfl (.plain rfl)
theorem VRs_of {w:World} {G:Gh}:∀ (xs:List AV) (l:List Value),l.length=xs.length→(∀ (i:Nat) (a:AV),xs[i]?=some a→∃ v,l[i]?=some v∧VR w G a v)→VRs w G xs l
 | [],l,h,_=>by rw [VRs];exact List.eq_nil_of_length_eq_zero h
 | a::xs,[],h,_=>by simp at h
 | a::xs,v::l,h,hx=>by
   obtain ⟨u,h1,h2⟩:=hx 0 a rfl
   cases h1
   exact VRs.cons_mk h2 (VRs_of xs l (by simpa using h) fun i b hb=>hx (i+1) b hb)
theorem PureN.sealed {P:Program} {GT:GTab} {f:FuncId} {args args':List AV} {a:AV} {rd:List Mem} {m m':ML} {n:Nat} (h:PureN P GT f args' a) (hlen:args.length=args'.length)
 (hv:VS GT ⟨rd,memL m,n⟩ (stL args m n) (stL args' m' n)):CallM P GT rd m n f args a m' n:=by
 refine ⟨fun base w G rargs hm ha=>?_,h.fn⟩;obtain ⟨G2,h1,h2,h3⟩:=hv base w G w G rargs hm (Stp.refl hm) fun t v ht=>by
  rw [tmL_get] at ht;obtain ⟨u,g1,g2⟩:=VRs.get ha ht;exact ⟨u,by rw [←Array.getElem?_toList];exact g1,g2⟩
 have ha':VRs w G2 args' rargs.toList:=VRs_of args' rargs.toList (by rw [←hlen];exact ha.len) fun i b hb=>by
  obtain ⟨u,g1,g2⟩:=h3 i b (by rw [tmL_get];exact hb);exact ⟨u,by rw [Array.getElem?_toList];exact g1,g2⟩
 refine (h.callM.1 base w G2 rargs h2.mr ha').mono ?_;rintro e w' ⟨r,G',rfl,h4,h5⟩;exact ⟨r,G',rfl,Stp.trans h2 h4,h5⟩
theorem stP_one (s:ByteArray):∀ (l:List ByteArray) (a:List ByteArray×Bool),(l.foldl (stP s) a).1.length+(if (l.foldl (stP s) a).2=true then 0 else 1)≤a.1.length+l.length+(if a.2=true then 0 else 1)
 | [],a=>by rw [List.foldl_nil,List.length_nil,Nat.add_zero];exact Nat.le_refl _
 | x :: l,a=>by
   have h2:=stP_one s l (stP s a x);have h1:(stP s a x).1.length+(if (stP s a x).2=true then 0 else 1)≤a.1.length+1+(if a.2=true then 0 else 1):=by
    unfold stP
    split
    ·rename_i h
     have:a.2=false:=by cases h9:a.2 <;> simp [h9] at h ⊢
     simp [this]
    ·simp only [List.length_append,List.length_cons,List.length_nil];omega
   rw [List.foldl_cons,List.length_cons];omega
theorem putB_le (l:List ByteArray) (s:ByteArray):(putB l s).length≤l.length+1:=by
 unfold putB
 split
 ·omega
 ·have:=stP_one s l ([],false)
  split
  ·rename_i h;simp [h] at this;omega
  ·rename_i h;rw [List.length_append];simp [h] at this ⊢;omega
theorem putsB_le:∀ (more l:List ByteArray),(putsB l more).length≤l.length+more.length
 | [],l=>Nat.le_refl _
 | x::more,l=>by
   have h1:=putB_le l x;have h2:=putsB_le more (putB l x);show (putsB (putB l x) more).length≤_;simp only [List.length_cons];omega
theorem putsB_app (l a b:List ByteArray):putsB l (a++b)=putsB (putsB l a) b:=List.foldl_append
mutual
theorem txV_ct (κ:Int):∀ x:Vl,(txV κ x).length≤cntV x
 | .mk k t s n l=>by
   rw [txV,cntV,List.length_append];have:=txVs_ct κ l
   split <;> split <;> simp <;> omega
theorem txVs_ct (κ:Int):∀ l:List Vl,(txVs κ l).length≤cntVs l
 | []=>by rw [txVs];exact Nat.zero_le _
 | x::l=>by
   rw [txVs,cntVs,List.length_append];have:=txV_ct κ x;have:=txVs_ct κ l;omega
end
set_option maxRecDepth 100000 in
set_option maxHeartbeats 4000000 in
theorem texts18_p (κ:Int) (N:Nat):∀ (l:List Vl),SizeOf.sizeOf l≤N→cntVs l≤1000→∀ (o:List ByteArray),o.length+cntVs l≤900000→PureN Tryz.prog gt0 92 [.sl o.length 1 (o.flatMap encN),.sl l.length 5 (l.flatMap encV),.g (.int .i64 κ)]
 (.sl (putsB o (txVs κ l)).length 1 ((putsB o (txVs κ l)).flatMap encN)):=by
 induction N with
 | zero=>intro l hl;cases l <;> simp at hl <;> omega
 | succ N ih =>
   intro l hl hcn o ho;have hlen:l.length≤1000:=Nat.le_trans (cntVs_len l) hcn;have HB:∀ k,k<l.length→cntVs (l.take k)+1+cntVs ((l[k]?.map (·.l)).getD [])≤cntVs l:=fun k hk=>by
    have h:=cntVs_snoc hk;have h2:=cntVs_append (l.take (k+1)) (l.drop (k+1));rw [List.take_append_drop] at h2;rw [List.getElem?_eq_getElem hk];simp only [Option.map_some,Option.getD_some];omega
   have IH:=fun k (hk:k<l.length)=>ih l[k].l (by have:=vl_lt (List.getElem_mem hk);omega) (by have:=cntVs_at hk;omega);have HO:∀ k,k≤l.length→(putsB o (txVs κ (l.take k))).length≤o.length+cntVs (l.take k):=fun k hk=>Nat.le_trans (putsB_le _ _) (by have:=txVs_ct κ (l.take k);omega);clear ih hl;refine PureN.of_w (c:=_) Tryz.func92 rfl (by kernel_rfl) rfl ?_;simp only [Tryz.f92,List.replicate,List.length_cons,List.length_nil,Nat.reduceAdd,Nat.reduceSub,List.cons_append,List.nil_append]
   (repeat ((first | with_reducible refine W.step (b:=false) ?_ | skip);simp only [go_sem,↓reduceIte,Nat.reduceAdd,Nat.reduceSub,Nat.reduceMul,Nat.reduceEqDiff,Nat.reduceLeDiff,Nat.reduceLT,Int.reduceLE,Int.reduceLT,Int.reduceToNat,Int.reduceEq];try with_reducible refine drawn hmix (by kernel_rfl) ?_))
   refine W.loop (s1:=stL [(.sl o.length 1 (o.flatMap encN)),(.sl l.length 5 (l.flatMap encV)),(.g (.int .i64 κ)),.any,.any,.any,.any,(.g (.int .i64 ((0:Nat):Int))),.any,.any,.any,.any,.any,.any,.any,.any,.any,.any,.any,.any,.any,.any,.any,.any,.any,.any,.any,.any,.any,.any,.any,.any,.any,.any,.any,.any,.any,.any,.any,.any,.any,.any,.any,.any,.any,.any,.any,.any,.any,.any,.any,.any,.any,.any,.any,.any,.any,.any,.any,.any,.any] [] 0)
    (fun (k:Nat) t=>k≤l.length∧t=stL [(.sl (putsB o (txVs κ (l.take k))).length 1 ((putsB o (txVs κ (l.take k))).flatMap encN)),(.sl l.length 5 (l.flatMap encV)),(.g (.int .i64 κ)),.any,.any,.any,.any,(.g (.int .i64 (k:Int))),.any,.any,.any,.any,.any,.any,.any,.any,.any,.any,.any,.any,.any,.any,.any,.any,.any,.any,.any,.any,.any,.any,.any,.any,.any,.any,.any,.any,.any,.any,.any,.any,.any,.any,.any,.any,.any,.any,.any,.any,.any,.any,.any,.any,.any,.any,.any,.any,.any,.any,.any,.any,.any] [] 0) (fun k=>l.length - k) 0 ⟨Nat.zero_le _,by simp [txVs,putsB]⟩ (VS.tm (by simp [leL])) ?_
   rintro k t ⟨hk,rfl⟩
   by_cases hlt:k<l.length
   ·obtain ⟨r0,r1,r2,r3,r4,r5,r6⟩:=rowV hlt
    have hsn:=txVs_snoc κ hlt;rw [txV_eq] at hsn;have hb:=HB k hlt;rw [List.getElem?_eq_getElem hlt] at hb;simp only [Option.map_some,Option.getD_some] at hb;have ho':=HO k hk;have IHk:=IH k hlt;have hfin:IntKind.i64.wrap ((k:Int)+1)=((k+1:Nat):Int):=up1 (by omega)
    by_cases hk1:l[k].kind=1
    ·have f1:=eq_true hk1
     have f2:¬(2≤l[k].kind):=by omega
     by_cases ht:l[k].tk=κ
     ·have f3:=eq_true ht
      have e:putsB o (txVs κ (l.take (k+1)))=putB (putsB o (txVs κ (l.take k))) l[k].text:=by
       rw [hsn,if_pos ⟨hk1,ht⟩,if_neg (by omega),List.append_nil,putsB_app];rfl
      (repeat ((first | with_reducible refine W.step (b:=false) ?_ | skip);simp only [go_sem,↓reduceIte,Nat.reduceAdd,Nat.reduceSub,Nat.reduceMul,Nat.reduceEqDiff,Nat.reduceLeDiff,Nat.reduceLT,Int.reduceLE,Int.reduceLT,Int.reduceToNat,Int.reduceEq,hlt,r0,r1,r2,r4,f1,f2,f3];try with_reducible refine drawn hmix (by kernel_rfl) ?_))
      refine AtCall.mk (put18_p _ l[k].text (by omega)) ?_
      (repeat ((first | with_reducible refine W.step (b:=false) ?_ | skip);simp only [go_sem,↓reduceIte,Nat.reduceAdd,Nat.reduceSub,Nat.reduceMul,Nat.reduceEqDiff,Nat.reduceLeDiff,Nat.reduceLT,Int.reduceLE,Int.reduceLT,Int.reduceToNat,Int.reduceEq,hlt,r0,f2];try with_reducible refine drawn hmix (by kernel_rfl) ?_))
      refine ⟨k+1,_,⟨by omega,rfl⟩,by show l.length - (k+1)<l.length - k;omega,VS.tm ?_⟩;rw [hfin,e];simp [leL]
     ·have e:putsB o (txVs κ (l.take (k+1)))=putsB o (txVs κ (l.take k)):=by
       rw [hsn,if_neg (fun h=>ht h.2),if_neg (by omega),List.append_nil,List.append_nil]
      (repeat ((first | with_reducible refine W.step (b:=false) ?_ | skip);simp only [go_sem,↓reduceIte,Nat.reduceAdd,Nat.reduceSub,Nat.reduceMul,Nat.reduceEqDiff,Nat.reduceLeDiff,Nat.reduceLT,Int.reduceLE,Int.reduceLT,Int.reduceToNat,Int.reduceEq,hlt,r0,r1,r2,r4,f1,f2,ht];try with_reducible refine drawn hmix (by kernel_rfl) ?_))
      refine ⟨k+1,_,⟨by omega,rfl⟩,by show l.length - (k+1)<l.length - k;omega,VS.tm ?_⟩;rw [hfin,e];simp [leL]
    ·by_cases h2:2≤l[k].kind
     ·by_cases h5:l[k].kind≤5
      ·have e:putsB o (txVs κ (l.take (k+1)))=putsB (putsB o (txVs κ (l.take k))) (txVs κ l[k].l):=by
        rw [hsn,if_neg (fun h=>hk1 h.1),if_pos ⟨h2,h5⟩,List.nil_append,putsB_app]
       (repeat ((first | with_reducible refine W.step (b:=false) ?_ | skip);simp only [go_sem,↓reduceIte,Nat.reduceAdd,Nat.reduceSub,Nat.reduceMul,Nat.reduceEqDiff,Nat.reduceLeDiff,Nat.reduceLT,Int.reduceLE,Int.reduceLT,Int.reduceToNat,Int.reduceEq,hlt,r0,r1,r2,r4,hk1,h2,h5];try with_reducible refine drawn hmix (by kernel_rfl) ?_))
       refine AtCall.mk (IHk (putsB o (txVs κ (l.take k))) (by omega)) ?_
       (repeat ((first | with_reducible refine W.step (b:=false) ?_ | skip);simp only [go_sem,↓reduceIte,Nat.reduceAdd,Nat.reduceSub,Nat.reduceMul,Nat.reduceEqDiff,Nat.reduceLeDiff,Nat.reduceLT,Int.reduceLE,Int.reduceLT,Int.reduceToNat,Int.reduceEq];try with_reducible refine drawn hmix (by kernel_rfl) ?_))
       refine ⟨k+1,_,⟨by omega,rfl⟩,by show l.length - (k+1)<l.length - k;omega,VS.tm ?_⟩;rw [hfin,e];simp [leL]
      ·have e:putsB o (txVs κ (l.take (k+1)))=putsB o (txVs κ (l.take k)):=by
        rw [hsn,if_neg (fun h=>hk1 h.1),if_neg (fun h=>h5 h.2),List.append_nil,List.append_nil]
       (repeat ((first | with_reducible refine W.step (b:=false) ?_ | skip);simp only [go_sem,↓reduceIte,Nat.reduceAdd,Nat.reduceSub,Nat.reduceMul,Nat.reduceEqDiff,Nat.reduceLeDiff,Nat.reduceLT,Int.reduceLE,Int.reduceLT,Int.reduceToNat,Int.reduceEq,hlt,r0,r1,r2,r4,hk1,h2,h5];try with_reducible refine drawn hmix (by kernel_rfl) ?_))
       refine ⟨k+1,_,⟨by omega,rfl⟩,by show l.length - (k+1)<l.length - k;omega,VS.tm ?_⟩;rw [hfin,e];simp [leL]
     ·have e:putsB o (txVs κ (l.take (k+1)))=putsB o (txVs κ (l.take k)):=by
       rw [hsn,if_neg (fun h=>hk1 h.1),if_neg (fun h=>h2 h.1),List.append_nil,List.append_nil]
      (repeat ((first | with_reducible refine W.step (b:=false) ?_ | skip);simp only [go_sem,↓reduceIte,Nat.reduceAdd,Nat.reduceSub,Nat.reduceMul,Nat.reduceEqDiff,Nat.reduceLeDiff,Nat.reduceLT,Int.reduceLE,Int.reduceLT,Int.reduceToNat,Int.reduceEq,hlt,r0,r1,r2,r4,hk1,h2];try with_reducible refine drawn hmix (by kernel_rfl) ?_))
      refine ⟨k+1,_,⟨by omega,rfl⟩,by show l.length - (k+1)<l.length - k;omega,VS.tm ?_⟩;rw [hfin,e];simp [leL]
   ·obtain rfl:k=l.length:=by omega
    (repeat ((first | with_reducible refine W.step (b:=false) ?_ | skip);simp only [go_sem,↓reduceIte,Nat.reduceAdd,Nat.reduceSub,Nat.reduceMul,Nat.reduceEqDiff,Nat.reduceLeDiff,Nat.reduceLT,Int.reduceLE,Int.reduceLT,Int.reduceToNat,Int.reduceEq,hlt];try with_reducible refine drawn hmix (by kernel_rfl) ?_))
    rw [List.take_length];exact postP_one _ (.inr rfl) rfl (.plain rfl)
set_option maxRecDepth 100000 in
set_option maxHeartbeats 4000000 in
theorem idents18_p (l:List Vl) (hcn:cntVs l≤1000):PureN Tryz.prog gt0 37 [.sl l.length 5 (l.flatMap encV)] (.sl (putsB [] (txVs 1 l)).length 1 ((putsB [] (txVs 1 l)).flatMap encN)):=by
 refine PureN.of_w (c:=_) Tryz.func37 rfl (by kernel_rfl) rfl ?_;simp only [Tryz.f37,List.replicate,List.length_cons,List.length_nil,Nat.reduceAdd,Nat.reduceSub,List.cons_append,List.nil_append]
 (repeat ((first | with_reducible refine W.step (b:=false) ?_ | skip);simp only [go_sem,↓reduceIte,Nat.reduceAdd,Nat.reduceSub,Nat.reduceMul,Nat.reduceEqDiff,Nat.reduceLeDiff,Nat.reduceLT,Int.reduceLE,Int.reduceLT,Int.reduceToNat,Int.reduceEq];try with_reducible refine drawn hmix (by kernel_rfl) ?_))
 refine AtCall.mem (PureN.sealed (m':=[]) (texts18_p 1 _ l (Nat.le_refl _) hcn [] (by simp;omega)) rfl (VS.sealT 0 [] rfl (by simp) ?_ trivial)) ?_
 ·exact ⟨_,_,rfl,.inr (.inr ⟨0,0,1,0,rfl,rfl,Nat.le_refl _⟩),_,_,rfl,.inr (.inl rfl),_,_,rfl,.inr (.inl rfl),rfl⟩
 ·(repeat ((first | with_reducible refine W.step (b:=false) ?_ | skip);simp only [go_sem,↓reduceIte,Nat.reduceAdd,Nat.reduceSub,Nat.reduceMul,Nat.reduceEqDiff,Nat.reduceLeDiff,Nat.reduceLT,Int.reduceLE,Int.reduceLT,Int.reduceToNat,Int.reduceEq];try with_reducible refine drawn hmix (by kernel_rfl) ?_))
  exact postP_one _ (.inr rfl) rfl (.plain rfl)
set_option maxRecDepth 100000 in
set_option maxHeartbeats 4000000 in
theorem strings18_p (l:List Vl) (hcn:cntVs l≤1000):PureN Tryz.prog gt0 39 [.sl l.length 5 (l.flatMap encV)] (.sl (putsB [] (txVs 6 l)).length 1 ((putsB [] (txVs 6 l)).flatMap encN)):=by
 refine PureN.of_w (c:=_) Tryz.func39 rfl (by kernel_rfl) rfl ?_;simp only [Tryz.f39,List.replicate,List.length_cons,List.length_nil,Nat.reduceAdd,Nat.reduceSub,List.cons_append,List.nil_append]
 (repeat ((first | with_reducible refine W.step (b:=false) ?_ | skip);simp only [go_sem,↓reduceIte,Nat.reduceAdd,Nat.reduceSub,Nat.reduceMul,Nat.reduceEqDiff,Nat.reduceLeDiff,Nat.reduceLT,Int.reduceLE,Int.reduceLT,Int.reduceToNat,Int.reduceEq];try with_reducible refine drawn hmix (by kernel_rfl) ?_))
 refine AtCall.mem (PureN.sealed (m':=[]) (texts18_p 6 _ l (Nat.le_refl _) hcn [] (by simp;omega)) rfl (VS.sealT 0 [] rfl (by simp) ?_ trivial)) ?_
 ·exact ⟨_,_,rfl,.inr (.inr ⟨0,0,1,0,rfl,rfl,Nat.le_refl _⟩),_,_,rfl,.inr (.inl rfl),_,_,rfl,.inr (.inl rfl),rfl⟩
 ·(repeat ((first | with_reducible refine W.step (b:=false) ?_ | skip);simp only [go_sem,↓reduceIte,Nat.reduceAdd,Nat.reduceSub,Nat.reduceMul,Nat.reduceEqDiff,Nat.reduceLeDiff,Nat.reduceLT,Int.reduceLE,Int.reduceLT,Int.reduceToNat,Int.reduceEq];try with_reducible refine drawn hmix (by kernel_rfl) ?_))
  exact postP_one _ (.inr rfl) rfl (.plain rfl)
set_option maxRecDepth 100000 in
set_option maxHeartbeats 4000000 in
theorem block16_p (x:Vl):PureN Tryz.prog gt0 122 [.agg (encV x)] (.g (.bool (decide (2≤x.kind∧x.kind≤5)))):=by
 rw [encV_eq];refine PureN.of_w (c:=_) Tryz.func122 rfl (by kernel_rfl) rfl ?_;simp only [Tryz.f122,List.replicate,List.length_cons,List.length_nil,Nat.reduceAdd,Nat.reduceSub,List.cons_append,List.nil_append]
 by_cases h2:2≤x.kind
 ·by_cases h5:x.kind≤5
  ·(repeat ((first | with_reducible refine W.step (b:=false) ?_ | skip);simp only [go_sem,↓reduceIte,Nat.reduceAdd,Nat.reduceSub,Nat.reduceMul,Nat.reduceEqDiff,Nat.reduceLeDiff,Nat.reduceLT,Int.reduceLE,Int.reduceLT,Int.reduceToNat,Int.reduceEq,h2,h5];try with_reducible refine drawn hmix (by kernel_rfl) ?_))
   exact postP_one _ (.inr rfl) rfl (.plain rfl)
  ·(repeat ((first | with_reducible refine W.step (b:=false) ?_ | skip);simp only [go_sem,↓reduceIte,Nat.reduceAdd,Nat.reduceSub,Nat.reduceMul,Nat.reduceEqDiff,Nat.reduceLeDiff,Nat.reduceLT,Int.reduceLE,Int.reduceLT,Int.reduceToNat,Int.reduceEq,h2,h5];try with_reducible refine drawn hmix (by kernel_rfl) ?_))
   exact postP_one _ (.inr rfl) rfl (.plain rfl)
 ·(repeat ((first | with_reducible refine W.step (b:=false) ?_ | skip);simp only [go_sem,↓reduceIte,Nat.reduceAdd,Nat.reduceSub,Nat.reduceMul,Nat.reduceEqDiff,Nat.reduceLeDiff,Nat.reduceLT,Int.reduceLE,Int.reduceLT,Int.reduceToNat,Int.reduceEq,h2];try with_reducible refine drawn hmix (by kernel_rfl) ?_))
  exact postP_one _ (.inr rfl) rfl (.plain rfl)
set_option maxRecDepth 100000 in
set_option maxHeartbeats 4000000 in
theorem sign3_p (x:Vl):PureN Tryz.prog gt0 187 [.agg (encV x),.g (.string ⟨#[44]⟩)] (.g (.bool (decide (x.kind=1∧x.tk=7∧x.text=⟨#[44]⟩∧x.n=0)))):=by
 rw [encV_eq];refine PureN.of_w (c:=_) Tryz.func187 rfl (by kernel_rfl) rfl ?_;simp only [Tryz.f187,List.replicate,List.length_cons,List.length_nil,Nat.reduceAdd,Nat.reduceSub,List.cons_append,List.nil_append]
 by_cases h1:x.kind=1
 ·have f1:=eq_true h1
  by_cases h2:x.tk=7
  ·have f2:=eq_true h2
   by_cases h3:x.text=⟨#[44]⟩
   ·have f3:=eq_true h3
    by_cases h4:x.n=0
    ·have f4:=eq_true h4
     (repeat ((first | with_reducible refine W.step (b:=false) ?_ | skip);simp only [go_sem,↓reduceIte,Nat.reduceAdd,Nat.reduceSub,Nat.reduceMul,Nat.reduceEqDiff,Nat.reduceLeDiff,Nat.reduceLT,Int.reduceLE,Int.reduceLT,Int.reduceToNat,Int.reduceEq,f1,f2,f3,f4];try with_reducible refine drawn hmix (by kernel_rfl) ?_))
     exact postP_one _ (.inr rfl) rfl (.plain rfl)
    ·(repeat ((first | with_reducible refine W.step (b:=false) ?_ | skip);simp only [go_sem,↓reduceIte,Nat.reduceAdd,Nat.reduceSub,Nat.reduceMul,Nat.reduceEqDiff,Nat.reduceLeDiff,Nat.reduceLT,Int.reduceLE,Int.reduceLT,Int.reduceToNat,Int.reduceEq,f1,f2,f3,h4];try with_reducible refine drawn hmix (by kernel_rfl) ?_))
     exact postP_one _ (.inr rfl) rfl (.plain rfl)
   ·(repeat ((first | with_reducible refine W.step (b:=false) ?_ | skip);simp only [go_sem,↓reduceIte,Nat.reduceAdd,Nat.reduceSub,Nat.reduceMul,Nat.reduceEqDiff,Nat.reduceLeDiff,Nat.reduceLT,Int.reduceLE,Int.reduceLT,Int.reduceToNat,Int.reduceEq,f1,f2,h3];try with_reducible refine drawn hmix (by kernel_rfl) ?_))
    exact postP_one _ (.inr rfl) rfl (.plain rfl)
  ·(repeat ((first | with_reducible refine W.step (b:=false) ?_ | skip);simp only [go_sem,↓reduceIte,Nat.reduceAdd,Nat.reduceSub,Nat.reduceMul,Nat.reduceEqDiff,Nat.reduceLeDiff,Nat.reduceLT,Int.reduceLE,Int.reduceLT,Int.reduceToNat,Int.reduceEq,f1,h2];try with_reducible refine drawn hmix (by kernel_rfl) ?_))
   exact postP_one _ (.inr rfl) rfl (.plain rfl)
 ·(repeat ((first | with_reducible refine W.step (b:=false) ?_ | skip);simp only [go_sem,↓reduceIte,Nat.reduceAdd,Nat.reduceSub,Nat.reduceMul,Nat.reduceEqDiff,Nat.reduceLeDiff,Nat.reduceLT,Int.reduceLE,Int.reduceLT,Int.reduceToNat,Int.reduceEq,h1];try with_reducible refine drawn hmix (by kernel_rfl) ?_))
  exact postP_one _ (.inr rfl) rfl (.plain rfl)
theorem un_strD:Tryz.prog.underlying 9=some .string:=by kernel_rfl
attribute [go_sem] un_strD
theorem customB_eq (s:ByteArray):customB s=(decide (2≤s.size)&&(decide (((s.data.toList.getD 0 0).toNat:Int)=45)&&decide (((s.data.toList.getD 1 0).toNat:Int)=45))):=by
 have hx:(s.extract 0 2).toList=s.data.toList.take 2:=by
  rw [ByteArray.toList_eq];simp [ByteArray.data_extract]
 have key:∀ l:List UInt8,2≤l.length→(l.take 2==[45,45])=(decide (((l.getD 0 0).toNat:Int)=45)&&decide (((l.getD 1 0).toNat:Int)=45)):=by
  intro l hl
  match l,hl with
  | a::b::l,_ =>
    have hb:∀ c:UInt8,(((c.toNat:Int)=45))↔c=45:=fun c=>by
     constructor
     ·intro h;exact UInt8.toNat_inj.1 (by simpa using (by omega:c.toNat=45))
     ·rintro rfl;rfl
    rw [Bool.eq_iff_iff];simp [hb]
 unfold customB;rw [hx]
 by_cases h2:2≤s.size
 ·rw [key _ (by simpa using h2)]
 ·simp [h2]
set_option maxRecDepth 100000 in
set_option maxHeartbeats 4000000 in
theorem custom7_p (s:ByteArray):PureN Tryz.prog gt0 144 [.g (.string s)] (.g (.bool (customB s))):=by
 refine PureN.of_w (c:=_) Tryz.func144 rfl (by kernel_rfl) rfl ?_;rw [customB_eq];simp only [Tryz.f144,List.replicate,List.length_cons,List.length_nil,Nat.reduceAdd,Nat.reduceSub,List.cons_append,List.nil_append]
 by_cases h2:2≤s.size
 ·have i0:(0:Int)<(s.size:Int):=by omega
  have i1:(1:Int)<(s.size:Int):=by omega
  have f2:(2:Int)≤(s.size:Int):=by omega
  by_cases h0:((s.data.toList.getD 0 0).toNat:Int)=45
  ·have f0:=eq_true h0
   (repeat ((first | with_reducible refine W.step (b:=false) ?_ | skip);simp only [go_sem,↓reduceIte,Nat.reduceAdd,Nat.reduceSub,Nat.reduceMul,Nat.reduceEqDiff,Nat.reduceLeDiff,Nat.reduceLT,Int.reduceLE,Int.reduceLT,Int.reduceToNat,Int.reduceEq,h2,f2,f0,i0,i1];try with_reducible refine drawn hmix (by kernel_rfl) ?_))
   exact postP_one _ (.inr rfl) rfl (.plain rfl)
  ·(repeat ((first | with_reducible refine W.step (b:=false) ?_ | skip);simp only [go_sem,↓reduceIte,Nat.reduceAdd,Nat.reduceSub,Nat.reduceMul,Nat.reduceEqDiff,Nat.reduceLeDiff,Nat.reduceLT,Int.reduceLE,Int.reduceLT,Int.reduceToNat,Int.reduceEq,h2,f2,h0,i0,i1];try with_reducible refine drawn hmix (by kernel_rfl) ?_))
   exact postP_one _ (.inr rfl) rfl (.plain rfl)
 ·have f2:¬((2:Int)≤(s.size:Int)):=by omega
  (repeat ((first | with_reducible refine W.step (b:=false) ?_ | skip);simp only [go_sem,↓reduceIte,Nat.reduceAdd,Nat.reduceSub,Nat.reduceMul,Nat.reduceEqDiff,Nat.reduceLeDiff,Nat.reduceLT,Int.reduceLE,Int.reduceLT,Int.reduceToNat,Int.reduceEq,h2,f2];try with_reducible refine drawn hmix (by kernel_rfl) ?_))
  exact postP_one _ (.inr rfl) rfl (.plain rfl)
end Go.Proofs.YtlnaihkombcbcaaGreat
namespace Go.Proofs.YtlnaihkombcbcaaGreat
open Go.RowKit Go.Ev
theorem PureN.of_calls {P:Program} {GT:GTab} {f:FuncId} {args:List AV} {v:Value} (hid:noIdsL args=true) (hfn:∃ fn,P.funcs[f]?=some fn∧(fn.name == "runtime.NumGoroutine")=false∧fn.body.isNone=false)
 (h:∀ (w:World) (rargs:Array Value),Ats w args rargs.toList→Calls P f rargs w fun e w'=>e=.returned v∧Below w.heap.size w w'):PureN P GT f args (.g v):=by
 refine ⟨fun w I rargs hI _ ha=>?_,hid,hfn⟩;have ha':Ats w args rargs.toList:=VRs_keep (I:=I) (I':=fun b=>b<w.heap.size) (fun rb hr=>hI rb hr) (fun _ _=>rfl) _ ha;refine (h w rargs ha').mono ?_;rintro e w' ⟨rfl,hB⟩;exact ⟨I,⟨fun _ h=>h,fun _ h=>.inl h,fun rb h=>Nat.lt_of_lt_of_le (hI rb h) hB.size,hB.os,hB.tape,hB.output,hB.size,hB.block⟩,v,rfl,rfl⟩
set_option maxRecDepth 100000 in
set_option maxHeartbeats 2000000 in
theorem low4_any (s:ByteArray) (w:World) (hs:s.size≤1000000) :
 Calls Tryz.prog 68 #[.string s] w fun e w'=>e=.returned (.string (bs (lowS (sOf s))))∧Below w.heap.size w w':=by
 have hconv:=run_bytes_of_string (P:=Tryz.prog) w 9 198 5 s Tryz.underlying9 Tryz.underlying198 Tryz.underlying5;generalize grownCap w s.size 0 5=cap at hconv;have hl:(sOf s).length=s.size:=ba_len s;have hh:∀ X:Obj,(w.drew.alloc X).heap[w.heap.size]?=some X:=fun X=>World.alloc_heap_new w.drew X;have hcell:∀ j (hj:j<(sOf s).length),(w.drew.alloc (.cells (bytesRow s cap) 5 ((bytesRow s cap).size,(bytesRow s cap).size+1))).cell? ⟨w.heap.size,j,none⟩=some (.int .u8 ((sOf s)[j].toNat:Int)):=fun j hj=>by
  rw [Lib.cell_of_heap (hh _)];rw [bytesRow_at s cap j (by have:s.data.size=s.size:=rfl;omega)]
  rfl
 have hfr:∀ j (hj:j<(sOf s).length),(w.drew.alloc (.cells (bytesRow s cap) 5 ((bytesRow s cap).size,(bytesRow s cap).size+1))).frozen? ⟨w.heap.size,j,none⟩=false:=fun j hj=>by
  have h9:=hcell j hj;rw [Lib.cell_of_heap (hh _)] at h9;have h8:=(Array.getElem?_eq_some_iff.1 h9).1;simp only [World.frozen?,hh];simp;omega
 have hB0:Below w.heap.size w (w.drew.alloc (.cells (bytesRow s cap) 5 ((bytesRow s cap).size,(bytesRow s cap).size+1))):=((Below.refl _ w).drew).alloc (Nat.le_refl _) _;have hback:=fun (W:World) (l:Str) (hc:∀ j (hj:j<l.length),W.cell? ⟨w.heap.size,j,none⟩=some (.int .u8 (l[j].toNat:Int)))=>run_convert_bytes_back (P:=Tryz.prog) W 198 9 5 ⟨w.heap.size,0,none⟩ cap l Tryz.underlying198 Tryz.underlying5 Tryz.underlying9 (fun j hj=>by rw [Addr.add_lit,Nat.zero_add];exact hc j hj);have HC:=Lib.hid hcell;have HF:=Lib.hid hfr;have HB:=Lib.hid hB0;have HK:=Lib.hid hback;clear hcell hfr hB0 hback hh;generalize bytesRow s cap=C at *;generalize hsl:sOf s=l at *;clear hsl;have hback2:∀ (W:World),(∀ j (hj:j<l.length),W.cell? ⟨w.heap.size,j,none⟩=some (.int .u8 ((lowC l[j]).toNat:Int)))→(convert 198 9 (.slice (some ⟨w.heap.size,0,none⟩) s.size cap)).run Tryz.prog W=.ok (.string (bs (lowS l))) W:=fun W hc=>by
  have h9:=HK.out W (lowS l) (fun j hj=>by
   have hj2:j<l.length:=by simpa [lowS] using hj
   rw [hc j hj2]
   simp [lowS])
  have h8:(lowS l).length=s.size:=by rw [lowS,List.length_map,hl]
  rw [h8] at h9;exact h9
 have HK2:=Lib.hid hback2;clear HK hback2
 go_enter Tryz.func68,Tryz.ntmps68
 go_wp2
 go_loopw [4] (fun i wr=>∃ k:Nat,k≤s.size∧i=.int .i64 k∧Hid (∀ j (hj:j<l.length),wr.cell? ⟨w.heap.size,j,none⟩=some (.int .u8 ((if j<k then lowC l[j] else l[j]).toNat:Int)))∧Hid (∀ j,j<l.length→wr.frozen? ⟨w.heap.size,j,none⟩=false)∧Below w.heap.size w wr) (fun i _=>s.size - (intOf i).toNat)
 case atStart=>exact ⟨0,Nat.zero_le _,rfl,Lib.hid fun j hj=>by rw [if_neg (Nat.not_lt_zero j)];exact HC.out j hj,HF,HB.out⟩
 case round =>
  obtain ⟨k,hk,rfl,hcs,hfs,hBr⟩:=hrel
  by_cases hlt:k<s.size
  ·have hkl:k<l.length:=by omega
   have c0:=hcs.out k hkl;have f0:=hfs.out k hkl;rw [if_neg (Nat.lt_irrefl k)] at c0
   have hstep:∀ (wr':World) (v:Value),(∀ j,j<l.length→wr'.cell? ⟨w.heap.size,j,none⟩=if j=k then some v else wr.cell? ⟨w.heap.size,j,none⟩)→v=.int .u8 ((lowC l[k]).toNat:Int) →
    ∀ j (hj:j<l.length),wr'.cell? ⟨w.heap.size,j,none⟩=some (.int .u8 ((if j<k+1 then lowC l[j] else l[j]).toNat:Int)):=fun wr' v hw hv j hj=>by
    rw [hw j hj]
    by_cases hjk:j=k
    ·subst hjk;rw [if_pos rfl,if_pos (Nat.lt_succ_self _),hv]
    ·rw [if_neg hjk,hcs.out j hj]
     by_cases hj2:j<k
     ·rw [if_pos hj2,if_pos (by omega)]
     ·rw [if_neg hj2,if_neg (by omega)]
   have HST:=Lib.hid hstep;have hset:=fun (v:Value) (j:Nat)=>cell_set_at (w:=wr) (b:=w.heap.size) (k:=k) j v (by rw [c0];rfl);have HSET:=Lib.hid hset;clear hstep hset
   by_cases hbig:65≤l[k].toNat∧l[k].toNat≤90
   ·obtain ⟨hb1,hb2⟩:=hbig
    have hlow:=lowC_big hb1 hb2;generalize hc:l[k].toNat=c at *
    go_wp2
    go_roundw
    case rel =>
     refine ⟨k+1,by omega,by go_num,Lib.hid (HST.out _ _ (fun j _=>HSET.out _ j) ?_),Lib.hid fun j hj=>(frozen_set _ _ _ _ _).trans (hfs.out j hj),hBr.setCell (Nat.le_refl _) _⟩;rw [hlow]
    case measure=>simp [intOf];omega
   ·have hlow:=lowC_not hbig
    have hnx:=HST.out wr (.int .u8 (l[k].toNat:Int)) (fun j hj=>by
     by_cases hjk:j=k
     ·subst hjk;rw [if_pos rfl,c0]
     ·rw [if_neg hjk]) (by rw [hlow])
    have HNX:=Lib.hid hnx;clear hnx hlow HSET HST;generalize hc:l[k].toNat=c at *
    by_cases hb1:65≤c
    ·have hb2:¬c≤90:=fun h=>hbig ⟨hb1,h⟩
     go_wp2
     go_roundw
     case rel=>exact ⟨k+1,by omega,by go_num,HNX,hfs,hBr⟩
     case measure=>simp [intOf];omega
    ·go_wp2
     go_roundw
     case rel=>exact ⟨k+1,by omega,by go_num,HNX,hfs,hBr⟩
     case measure=>simp [intOf];omega
  ·obtain rfl:k=s.size:=by omega
   have hb9:=HK2.out wr (fun j hj=>by have:=hcs.out j hj;rw [if_pos (by omega)] at this;exact this)
   go_wp2
   go_ret
   exact ⟨rfl,hBr⟩
end Go.Proofs.YtlnaihkombcbcaaGreat
namespace Go.Proofs.YtlnaihkombcbcaaGreat
open Go.RowKit Go.Ev Go.Sort
theorem low4_p (s:ByteArray) (hs:s.size≤1000000):PureN Tryz.prog gt0 68 [.g (.string s)] (.g (.string (bs (lowS (sOf s))))) :=
 PureN.of_calls rfl ⟨_,Tryz.func68,by kernel_rfl,rfl⟩ fun w rargs ha=>by
  obtain ⟨v,vs,e,h1,h2⟩:=ha;obtain rfl:v=.string s:=h1;rw [VRs] at h2;subst h2;obtain rfl:rargs=#[.string s]:=by cases rargs;simp_all
  exact low4_any s w hs
end Go.Proofs.YtlnaihkombcbcaaGreat
namespace Go.Proofs.YtlnaihkombcbcaaGreat
open Go.RowKit Go.Ev
attribute [local go_sem] eq_self false_and and_false Bool.false_eq_true List.set_cons_succ List.set_cons_zero List.getD_cons_succ List.getD_cons_zero List.getElem?_cons_succ List.getElem?_cons_zero true_and and_true and_self Bool.not_true Bool.not_false Nat.add_zero Nat.zero_add Nat.mul_one Int.toNat_natCast Int.natCast_nonneg Int.ofNat_lt Option.bind_some Option.map_some List.map_cons List.map_nil decide_true decide_false BEq.rfl Bool.and_self Bool.and_true Bool.and_false beq_self_eq_true List.cons_append List.nil_append List.take_zero List.take_succ_cons List.take_nil List.drop_succ_cons List.drop_zero List.drop_nil List.append_nil List.length_cons List.length_nil List.all_cons List.all_nil Nat.le_refl Option.map_none List.replicate_zero List.replicate_succ Nat.zero_mul Nat.sub_zero Nat.zero_le Nat.le_zero_eq getR_nil Int.toNat_zero Int.natCast_zero Int.natCast_one Int.cast_ofNat_Int List.toList_toArray
set_option maxRecDepth 100000 in
set_option maxHeartbeats 4000000 in
theorem isVar16_p (x:Vl) (hs:x.text.size≤1000000):PureN Tryz.prog gt0 120 [.agg (encV x)] (.g (.bool (isVarK x.kind x.text))):=by
 rw [encV_eq];refine PureN.of_w (c:=_) Tryz.func120 rfl (by kernel_rfl) rfl ?_;simp only [Tryz.f120,List.replicate,List.length_cons,List.length_nil,Nat.reduceAdd,Nat.reduceSub,List.cons_append,List.nil_append];have L:=low4_p x.text hs
 by_cases h5:x.kind=5
 ·have f5:=eq_true h5
  have e:isVarK x.kind x.text=decide (bs (lowS (sOf x.text))=⟨#[118,97,114]⟩):=by
   unfold isVarK
   have hb:bs (lowS (sOf x.text))=⟨#[118,97,114]⟩↔lowS (sOf x.text)=[118,97,114]:=⟨fun h=>by
    have h9:=congrArg (fun b:ByteArray=>b.data.toList) h
    simpa [bs] using h9,fun h=>by rw [h];rfl⟩
   rw [h5,Bool.eq_iff_iff,decide_eq_true_iff,hb];simp
  (repeat ((first | with_reducible refine W.step (b:=false) ?_ | skip);simp only [go_sem,↓reduceIte,Nat.reduceAdd,Nat.reduceSub,Nat.reduceMul,Nat.reduceEqDiff,Nat.reduceLeDiff,Nat.reduceLT,Int.reduceLE,Int.reduceLT,Int.reduceToNat,Int.reduceEq,f5];try with_reducible refine drawn hmix (by kernel_rfl) ?_))
  refine AtCall.mk L ?_;simp only [go_sem,↓reduceIte,Nat.reduceAdd,Nat.reduceSub,Nat.reduceMul,Nat.reduceEqDiff,Nat.reduceLeDiff,Nat.reduceLT,Int.reduceLE,Int.reduceLT,Int.reduceToNat,Int.reduceEq,f5];rw [e]
  (repeat ((first | with_reducible refine W.step (b:=false) ?_ | skip);simp only [go_sem,↓reduceIte,Nat.reduceAdd,Nat.reduceSub,Nat.reduceMul,Nat.reduceEqDiff,Nat.reduceLeDiff,Nat.reduceLT,Int.reduceLE,Int.reduceLT,Int.reduceToNat,Int.reduceEq];try with_reducible refine drawn hmix (by kernel_rfl) ?_))
  exact postP_one _ (.inr rfl) rfl (.plain rfl)
 ·have e:isVarK x.kind x.text=false:=by unfold isVarK;rw [Bool.and_eq_false_iff];exact .inl (beq_eq_false_iff_ne.2 h5)
  rw [e]
  (repeat ((first | with_reducible refine W.step (b:=false) ?_ | skip);simp only [go_sem,↓reduceIte,Nat.reduceAdd,Nat.reduceSub,Nat.reduceMul,Nat.reduceEqDiff,Nat.reduceLeDiff,Nat.reduceLT,Int.reduceLE,Int.reduceLT,Int.reduceToNat,Int.reduceEq,h5];try with_reducible refine drawn hmix (by kernel_rfl) ?_))
  exact postP_one _ (.inr rfl) rfl (.plain rfl)
end Go.Proofs.YtlnaihkombcbcaaGreat
end
