/- Index.All: by walks over shapes. -/
import Derived.Test.YtlnaihkombcbcaaGreatBd2
set_option linter.unusedSimpArgs false
noncomputable section
namespace Go.Proofs.YtlnaihkombcbcaaGreat
open Go.RowKit Go.Ev
attribute [local go_sem] eq_self false_and and_false Bool.false_eq_true List.set_cons_succ List.set_cons_zero List.getD_cons_succ List.getD_cons_zero List.getElem?_cons_succ List.getElem?_cons_zero true_and and_true and_self Bool.not_true Bool.not_false Nat.add_zero Nat.zero_add Nat.mul_one Int.toNat_natCast Int.natCast_nonneg Int.ofNat_lt Option.bind_some Option.map_some List.map_cons List.map_nil decide_true decide_false BEq.rfl Bool.and_self Bool.and_true Bool.and_false beq_self_eq_true List.cons_append List.nil_append List.take_zero List.take_succ_cons List.take_nil List.drop_succ_cons List.drop_zero List.drop_nil List.append_nil List.length_cons List.length_nil List.all_cons List.all_nil Nat.le_refl Int.le_refl Option.map_none List.replicate_zero List.replicate_succ Nat.zero_mul Nat.sub_zero Nat.zero_le Nat.le_zero_eq getR_nil Option.some_or Option.none_or Option.or_none Option.isSome_some Option.isSome_none Option.getD_some Option.getD_none Int.toNat_zero Int.natCast_zero Int.natCast_one Int.cast_ofNat_Int List.toList_toArray
attribute [go_sem] appL newsA isSlice
theorem ze_bloom:zeroO Tryz.prog 155=some [.g (.int .u64 0),.g (.int .u64 0),.g (.int .u64 0),.g (.int .u64 0)]:=by kernel_rfl
theorem VS_cells {GT:GTab} {E:Beg} {l l' cs cs':List AV} {r:ML} {n:Nat} (hm:cs=cs') (hl:leL l l'):VS GT E (stL l ((0,.cells cs)::r) n) (stL l' ((0,.cells cs')::r) n):=by
 subst hm;exact VS.tm hl
theorem bitB_nat (h:Int):∃ i:Nat,i<256∧bitB h=(i:Int):=bitA_nat (h.fdiv (2 ^ min 8 32))
theorem addAt_len (b:List Int) (i:Nat):(addAt b i).length=b.length:=by unfold addAt;rw [List.length_set]
theorem addW_len (b:List Int) (s:ByteArray):(addW b s).length=b.length:=by unfold addW;rw [addAt_len,addAt_len]
theorem fold_len (x:List ByteArray):∀ (b:List Int),(x.foldl addW b).length=b.length:=by
 induction x with
 | nil=>intro b;rfl
 | cons y x ih=>intro b;rw [List.foldl_cons,ih,addW_len]
theorem put_encU (b:List Int) (k:Nat) (v:Int) (hk:k<b.length):(b.map encU).take k++.g (.int .u64 v)::(b.map encU).drop (k+1)=(b.set k v).map encU:=by
 rw [put_set (by rw [List.length_map];exact hk),List.map_set];rfl
theorem get_encU (b:List Int) (k:Nat) (hk:k<b.length):(b.map encU)[k]?=some (.g (.int .u64 (b.getD k 0))):=by
 rw [List.getElem?_map,List.getElem?_eq_getElem hk,List.getD_eq_getElem?_getD,List.getElem?_eq_getElem hk];rfl
set_option maxRecDepth 100000 in
set_option maxHeartbeats 4000000 in
theorem add_m (l:List ByteArray) (hl:l.length≤1000000) (hs:∀ x∈l,x.size≤1000000) (b:List Int) (hb:b.length=4) :
 CallM Tryz.prog gt0 [] [(0,.cells (b.map encU)),(1,.cells (l.flatMap encN))] 2 97 [.ptr 0 0,.gs 1 0 l.length 1 l.length] (.tup []) [(0,.cells ((l.foldl addW b).map encU)),(1,.cells (l.flatMap encN))] 2:=by
 refine callM_of_w (c:=_) Tryz.func97 rfl (by kernel_rfl) ?_;simp only [Tryz.f97,List.replicate,List.length_cons,List.length_nil,Nat.reduceAdd,Nat.reduceSub,List.cons_append,List.nil_append]
 (repeat ((first | with_reducible refine W.step (b:=false) ?_ | skip);simp only [go_sem,↓reduceIte,Nat.reduceAdd,Nat.reduceSub,Nat.reduceMul,Nat.reduceEqDiff,Nat.reduceLeDiff,Nat.reduceLT,Int.reduceLE,Int.reduceLT,Int.reduceToNat,Int.reduceEq];try with_reducible refine drawn hmix (by kernel_rfl) ?_))
 refine W.loop (s1:=stL [(.ptr 0 0),.any,.any,.any,.any,.any,.any,.any,(.gs 1 0 l.length 1 l.length),(.g (.int .i64 (l.length:Int))),(.g (.int .i64 ((0:Nat):Int))),.any,.any,.any,.any,.any,.any,.any,.any,.any,.any,.any,.any,.any,.any,.any,.any,.any,.any,.any,.any,.any,.any] [(0,.cells (((l.take 0).foldl addW b).map encU)),(1,.cells (l.flatMap encN))] 2)
  (fun (k:Nat) t=>k≤l.length∧t=stL [(.ptr 0 0),.any,.any,.any,.any,.any,.any,.any,(.gs 1 0 l.length 1 l.length),(.g (.int .i64 (l.length:Int))),(.g (.int .i64 (k:Int))),.any,.any,.any,.any,.any,.any,.any,.any,.any,.any,.any,.any,.any,.any,.any,.any,.any,.any,.any,.any,.any,.any] [(0,.cells (((l.take k).foldl addW b).map encU)),(1,.cells (l.flatMap encN))] 2) (fun k=>l.length - k) 0 ⟨Nat.zero_le _,rfl⟩ (VS.tm (by simp [leL])) ?_
 rintro k t ⟨hk,rfl⟩
 by_cases hlt:k<l.length
 ·have r:=rowN hlt
  have HB:=bits_p l[k] (hs _ (List.getElem_mem hlt));have hfold:(l.take (k+1)).foldl addW b=addW ((l.take k).foldl addW b) l[k]:=by rw [List.take_succ_eq_append_getElem hlt,List.foldl_append];rfl
  have hlen:=(fold_len (l.take k) b).trans hb;obtain ⟨i1,hi1,e1⟩:=bitA_nat (hashL l[k].data.toList);obtain ⟨i2,hi2,e2⟩:=bitB_nat (hashL l[k].data.toList);have hadd:addW ((l.take k).foldl addW b) l[k]=addAt (addAt ((l.take k).foldl addW b) i1) i2:=by unfold addW;rw [e1,e2,Int.toNat_natCast,Int.toNat_natCast]
  rw [e1,e2] at HB;rw [hadd] at hfold;generalize (l.take k).foldl addW b=c at *
  (repeat ((first | with_reducible refine W.step (b:=false) ?_ | skip);simp only [go_sem,↓reduceIte,Nat.reduceAdd,Nat.reduceSub,Nat.reduceMul,Nat.reduceEqDiff,Nat.reduceLeDiff,Nat.reduceLT,Int.reduceLE,Int.reduceLT,Int.reduceToNat,Int.reduceEq,hlt,r];try with_reducible refine drawn hmix (by kernel_rfl) ?_))
  refine AtCall.mk HB ?_
  (repeat ((first | with_reducible refine W.step (b:=false) ?_ | skip);simp only [go_sem,↓reduceIte,Nat.reduceAdd,Nat.reduceSub,Nat.reduceMul,Nat.reduceEqDiff,Nat.reduceLeDiff,Nat.reduceLT,Int.reduceLE,Int.reduceLT,Int.reduceToNat,Int.reduceEq];try with_reducible refine drawn hmix (by kernel_rfl) ?_))
  refine W.loop (s1:=stL [(.ptr 0 0),.any,.any,.any,.any,.any,.any,.any,(.gs 1 0 l.length 1 l.length),(.g (.int .i64 (l.length:Int))),(.g (.int .i64 (k:Int))),.any,.any,.any,.any,(.agg [.g (.int .u64 (i1:Int)),.g (.int .u64 (i2:Int))]),(.g (.int .i64 ((0:Nat):Int))),.any,.any,.any,.any,.any,.any,.any,.any,.any,.any,.any,.any,.any,.any,.any,.any] [(0,.cells ((c).map encU)),(1,.cells (l.flatMap encN))] 2)
   (fun (z:Nat×List Int) t=>((z.1=0∧z.2=c)∨(z.1=1∧z.2=addAt c i1)∨(z.1=2∧z.2=addAt (addAt c i1) i2))∧t=stL [(.ptr 0 0),.any,.any,.any,.any,.any,.any,.any,(.gs 1 0 l.length 1 l.length),(.g (.int .i64 (l.length:Int))),(.g (.int .i64 (k:Int))),.any,.any,.any,.any,(.agg [.g (.int .u64 (i1:Int)),.g (.int .u64 (i2:Int))]),(.g (.int .i64 (z.1:Int))),.any,.any,.any,.any,.any,.any,.any,.any,.any,.any,.any,.any,.any,.any,.any,.any] [(0,.cells ((z.2).map encU)),(1,.cells (l.flatMap encN))] 2) (fun z=>2 - z.1) (0,c) ⟨.inl ⟨rfl,rfl⟩,rfl⟩ (VS.tm (by simp [leL])) ?_
  rintro ⟨j,d⟩ t ⟨hjd,rfl⟩;simp only at hjd;rcases hjd with ⟨rfl,hd⟩ | ⟨rfl,hd⟩ | ⟨rfl,hd⟩
  ·simp only [Int.natCast_zero]
   have d4:d.length=4:=by rw [hd];exact hlen
   have q1:=quo64 i1 hi1;have r1:=rem64 i1;have k1:i1 / 64<4:=by omega
   have m1:(((i1 / 64:Nat):Int)<4)=True:=eq_true (by omega);have n1:(((i1 % 64:Nat):Int)<0)=False:=eq_false (by omega);have g1:=get_encU d (i1 / 64) (by omega);have p1:=put_encU d (i1 / 64) (orU (d.getD (i1 / 64) 0) (i1 % 64)) (by omega);have z1:i1 / 64+1≤(d.map encU).length:=by rw [List.length_map];omega
   unfold orU at p1
   (repeat ((first | with_reducible refine W.step (b:=true) ?_ | skip);simp only [go_sem,↓reduceIte,Nat.reduceAdd,Nat.reduceSub,Nat.reduceMul,Nat.reduceEqDiff,Nat.reduceLeDiff,Nat.reduceLT,Int.reduceLE,Int.reduceLT,Int.reduceToNat,Int.reduceEq,q1,r1,m1,n1,g1,z1,p1];(try with_reducible refine drawn hmix (by kernel_rfl) ?_);try with_reducible refine ⟨by kernel_rfl,?_⟩))
   refine ⟨(1,addAt d i1),_,⟨.inr (.inl ⟨rfl,by rw [hd]⟩),rfl⟩,by show 2 - 1<2 - 0;decide,?_⟩;refine VS_cells p1 ?_;simp [leL]
   rfl
  ·simp only [Int.natCast_one]
   have d4:d.length=4:=by rw [hd];rw [addAt_len];exact hlen
   have q1:=quo64 i2 hi2;have r1:=rem64 i2;have k1:i2 / 64<4:=by omega
   have m1:(((i2 / 64:Nat):Int)<4)=True:=eq_true (by omega);have n1:(((i2 % 64:Nat):Int)<0)=False:=eq_false (by omega);have g1:=get_encU d (i2 / 64) (by omega);have p1:=put_encU d (i2 / 64) (orU (d.getD (i2 / 64) 0) (i2 % 64)) (by omega);have z1:i2 / 64+1≤(d.map encU).length:=by rw [List.length_map];omega
   unfold orU at p1
   (repeat ((first | with_reducible refine W.step (b:=true) ?_ | skip);simp only [go_sem,↓reduceIte,Nat.reduceAdd,Nat.reduceSub,Nat.reduceMul,Nat.reduceEqDiff,Nat.reduceLeDiff,Nat.reduceLT,Int.reduceLE,Int.reduceLT,Int.reduceToNat,Int.reduceEq,q1,r1,m1,n1,g1,z1,p1];(try with_reducible refine drawn hmix (by kernel_rfl) ?_);try with_reducible refine ⟨by kernel_rfl,?_⟩))
   refine ⟨(2,addAt d i2),_,⟨.inr (.inr ⟨rfl,by rw [hd]⟩),rfl⟩,by show 2 - 2<2 - 1;decide,?_⟩;refine VS_cells p1 ?_;simp [leL]
   rfl
  ·subst hd
   (repeat ((first | with_reducible refine W.step (b:=false) ?_ | skip);simp only [go_sem,↓reduceIte,Nat.reduceAdd,Nat.reduceSub,Nat.reduceMul,Nat.reduceEqDiff,Nat.reduceLeDiff,Nat.reduceLT,Int.reduceLE,Int.reduceLT,Int.reduceToNat,Int.reduceEq];try with_reducible refine drawn hmix (by kernel_rfl) ?_))
   refine ⟨k+1,_,⟨hlt,rfl⟩,by show l.length - (k+1)<l.length - k;omega,?_⟩;rw [up1 (by omega),hfold];exact VS.tm (by simp [leL])
 ·(repeat ((first | with_reducible refine W.step (b:=false) ?_ | skip);simp only [go_sem,↓reduceIte,Nat.reduceAdd,Nat.reduceSub,Nat.reduceMul,Nat.reduceEqDiff,Nat.reduceLeDiff,Nat.reduceLT,Int.reduceLE,Int.reduceLT,Int.reduceToNat,Int.reduceEq,hlt];try with_reducible refine drawn hmix (by kernel_rfl) ?_))
  obtain rfl:k=l.length:=by omega
  rw [List.take_length];refine ⟨.inl rfl,[.any,.any,.any,.any,.any,.any,.any,.any,.any,.any,.any,.any,.any,.any,.any,.any,.any,.any,.any,.any,.any,.any,.any,.any,.any,.any,.any,.any,.any,.any,.any,.any,.any],VS.tm (by simp [leL]),rfl⟩
attribute [go_sem] appL newsA isSlice
theorem fl_key0:fldO Tryz.prog 162 0=some (0,3):=by kernel_rfl
theorem fl_key1:fldO Tryz.prog 162 1=some (1,9):=by kernel_rfl
theorem sz_bloom:szO Tryz.prog 155=some 4:=by kernel_rfl
attribute [go_sem] ze_bloom fl_key0 fl_key1 sz_bloom
def TinyPg (p:List Nod):Prop:=∀ x∈p,x.name.size≤999999∧∀ a∈x.attrs,a.value.size≤999999
theorem wordsL_in:∀ (l cur:List UInt8),∀ x∈wordsL cur l,x.length≤cur.length+l.length
 | [],cur,x,hx=>by
   rw [wordsL] at hx
   split at hx
   ·simp at hx
   ·simp at hx;subst hx;simp
 | c :: l,cur,x,hx=>by
   rw [wordsL] at hx
   split at hx
   ·split at hx
    ·have:=wordsL_in l [] x hx;simp only [List.length_nil,List.length_cons] at this ⊢;omega
    ·rcases List.mem_cons.1 hx with rfl | hx
     ·omega
     ·have:=wordsL_in l [] x hx;simp only [List.length_nil,List.length_cons] at this ⊢;omega
   ·have:=wordsL_in l (cur++[c]) x hx;simp only [List.length_append,List.length_nil,List.length_cons] at this ⊢;omega
theorem at_tiny {p:List Nod} (ht:TinyPg p) (n:Int) (s:ByteArray):∀ v,atM p n s=some v→v.size≤999999:=by
 intro v hv;unfold atM at hv
 split at hv
 ·rename_i he
  obtain ⟨k,rfl,hk,hnd⟩:=at_nat he;rw [hnd] at hv;obtain ⟨a,ha,rfl⟩:=Option.map_eq_some_iff.1 hv;exact (ht _ (List.getElem_mem hk)).2 a (List.mem_of_find?_eq_some ha)
 ·cases hv
theorem keys_tiny {p:List Nod} (ht:TinyPg p) {n:Nat} (hn:n<p.length):∀ k∈keysM p n,k.2.size≤999999:=by
 intro k hk;unfold keysM at hk;rcases List.mem_append.1 hk with hk | hk
 ·rw [ndAt_nat hn] at hk
  rcases List.mem_cons.1 hk with rfl | hk
  ·exact Nat.zero_le _
  ·rw [List.mem_singleton] at hk;subst hk
   exact (ht _ (List.getElem_mem hn)).1
 ·rcases List.mem_append.1 hk with hk | hk
  ·split at hk
   ·rename_i v hv
    rw [List.mem_singleton] at hk;subst hk;exact at_tiny ht _ _ v hv
   ·simp at hk
  ·obtain ⟨c,hc,rfl⟩:=List.mem_map.1 hk
   have hc:=mem_setM.1 hc;unfold classesM wordsB at hc;obtain ⟨x,hx,rfl⟩:=List.mem_map.1 hc;have h1:=wordsL_in _ _ x hx;have h2:((atM p n clsB).getD ⟨#[]⟩).size≤999999:=by
    cases h:atM p n clsB with
    | none=>exact Nat.zero_le _
    | some v=>exact at_tiny ht _ _ v h
   show x.toArray.size≤999999;rw [List.size_toArray];rw [Array.length_toList] at h1;exact Nat.le_trans h1 (by rw [List.length_nil,Nat.zero_add];exact h2)
theorem word_size (k:Int) (s:ByteArray):(wordM k s).size≤s.size+1:=by
 unfold wordM
 split
 ·rw [ByteArray.size_append];show 1+s.size≤_;omega
 ·split
  ·rw [ByteArray.size_append];show 1+s.size≤_;omega
  ·split
   ·rw [ByteArray.size_append];show 1+s.size≤_;omega
   ·exact Nat.zero_le _
theorem above_up {p:List Nod} (hT:TreeP p) {n:Nat} (hn:n<p.length):aboveM p n=if 0<(ndAt p n).up then (ndAt p n).up.toNat::aboveM p (ndAt p n).up.toNat else []:=by
 rw [above_step];refine ifc ⟨fun h=>h.1,fun h=>⟨h,?_⟩⟩;rcases Nat.eq_zero_or_pos n with rfl | h0
 ·have h0:=hT.root0 hn
  have h1:0<(ndAt p 0).up:=h;omega
 ·exact (hT.up n h0 hn).2
theorem rowKy {l:List (Int×ByteArray)} {k:Nat} (hk:k<l.length):((l.flatMap encKy).drop (k*2)).take 2=[.g (.int .i64 l[k].1),.g (.string l[k].2)]∧k*2+2≤(l.flatMap encKy).length :=
 ⟨row_part encKy 2 (fun _=>rfl) l k hk 0 2 (by decide),row_fit encKy 2 (fun _=>rfl) l k hk (j:=0) (by decide)⟩
theorem wordsK_step {l:List (Int×ByteArray)} {j:Nat} (h:j<l.length) (b:List Int):(wordsK (l.take (j+1))).foldl addW b=if l[j].1=0 then (wordsK (l.take j)).foldl addW b else addW ((wordsK (l.take j)).foldl addW b) (wordM l[j].1 l[j].2):=by
 unfold wordsK;rw [List.take_succ_eq_append_getElem h,List.filter_append,List.map_append,List.foldl_append]
 by_cases h0:l[j].1=0
 ·rw [if_pos h0,List.filter_cons,decide_eq_true h0];rfl
 ·rw [if_neg h0,List.filter_cons,decide_eq_false h0];rfl
theorem ltL_U (n:Nat) (b:List Int):ltL n (b.map encU)=True:=eq_true (ltL_id n _ (noIdsL_map (fun _=>rfl) b))
theorem reFL_U (g:Nat→Nat) (b:List Int):reFL g (b.map encU)=b.map encU:=reFL_id g _ (noIdsL_map (fun _=>rfl) b)
set_option maxRecDepth 100000 in
set_option maxHeartbeats 4000000 in
theorem filter_p (p:List Nod) (n:Nat) (hp:OkPg p) (ht:TinyPg p) (hT:TreeP p) (hn:n<p.length):PureN Tryz.prog gt0 105 [.sl p.length 5 (p.flatMap encNd),.g (.int .i64 (n:Int))] (.agg ((filterM p n).map encU)):=by
 have hlen:=hp.len;obtain ⟨-,-,-,r,-⟩:=rowNd hn;have hu:=ndAt_nat hn;have hup:∀ k:Nat,k<p.length→(ndAt p k).up<p.length∧(0<(ndAt p k).up→(ndAt p k).up<k):=by
  intro k hk;rcases Nat.eq_zero_or_pos k with rfl | h0
  ·have:=hT.root0 hk
   exact ⟨by show (ndAt p 0).up<_;omega,fun h=>by have h:0<(ndAt p 0).up:=h;omega⟩
  ·have:=(hT.up k h0 hk).2
   exact ⟨by omega,fun _=>this⟩
 refine PureN.of_w (c:=_) Tryz.func105 rfl (by kernel_rfl) rfl ?_;simp only [Tryz.f105,List.replicate,List.length_cons,List.length_nil,Nat.reduceAdd,Nat.reduceSub,List.cons_append,List.nil_append]
 (repeat ((first | with_reducible refine W.step (b:=false) ?_ | skip);simp only [go_sem,↓reduceIte,Nat.reduceAdd,Nat.reduceSub,Nat.reduceMul,Nat.reduceEqDiff,Nat.reduceLeDiff,Nat.reduceLT,Int.reduceLE,Int.reduceLT,Int.reduceToNat,Int.reduceEq,hn,r];try with_reducible refine drawn hmix (by kernel_rfl) ?_))
 have hab:=above_up hT hn;have h1:=hup n hn;rw [hu] at hab h1;have hF:filterM p n=((if 0<p[n].up then p[n].up.toNat::aboveM p p[n].up.toNat else []).flatMap fun k:Nat=>wordsK (keysM p (k:Int))).foldl addW [0,0,0,0]:=by unfold filterM;rw [hab]
 generalize filterM p n=F at *
 refine W.loop (s1:=stL [(.sl p.length 5 (p.flatMap encNd)),(.g (.int .i64 p[n].up)),.any,.any,(.ptr 0 0),(.ptr 1 0),.any,.any,.any,.any,.any,.any,.any,.any,.any,.any,.any,.any,.any,.any,.any,.any,.any,.any,.any,.any,.any,.any,.any,.any,.any,.any,.any,.any,.any,.any,.any,.any,.any,.any] [(0,.cells [.g (.int .u64 0),.g (.int .u64 0),.g (.int .u64 0),.g (.int .u64 0)]),(1,.cells (([0,0,0,0]).map encU))] 2)
  (fun (z:List Int×Int) t=>(z.2<p.length∧z.1.length=4∧F=((if 0<z.2 then z.2.toNat::aboveM p z.2.toNat else []).flatMap fun k:Nat=>wordsK (keysM p (k:Int))).foldl addW z.1)∧t=stL [(.sl p.length 5 (p.flatMap encNd)),(.g (.int .i64 z.2)),.any,.any,(.ptr 0 0),(.ptr 1 0),.any,.any,.any,.any,.any,.any,.any,.any,.any,.any,.any,.any,.any,.any,.any,.any,.any,.any,.any,.any,.any,.any,.any,.any,.any,.any,.any,.any,.any,.any,.any,.any,.any,.any] [(0,.cells [.g (.int .u64 0),.g (.int .u64 0),.g (.int .u64 0),.g (.int .u64 0)]),(1,.cells ((z.1).map encU))] 2) (fun z=>z.2.toNat) ([0,0,0,0],p[n].up) ⟨⟨h1.1,rfl,hF⟩,rfl⟩ (VS.tm (by simp [leL])) ?_
 rintro ⟨b,u⟩ t ⟨⟨hul,hb,hF⟩,rfl⟩;simp only at hul hb hF
 by_cases h0:0<u
 ·have f0:=eq_true h0
  obtain ⟨k,rfl⟩:∃ k:Nat,u=k:=⟨u.toNat,by omega⟩;have hk:k<p.length:=by omega
  obtain ⟨-,-,-,rk,-⟩:=rowNd hk;have huk:=hup k hk;have hak:=above_up hT hk;rw [ndAt_nat hk] at huk hak;rw [if_pos h0,Int.toNat_natCast,List.flatMap_cons,List.foldl_append,hak] at hF;have HK:=keys_p p k hp hk;have hkt:=keys_tiny ht hk
  (repeat ((first | with_reducible refine W.step (b:=false) ?_ | skip);simp only [go_sem,↓reduceIte,Nat.reduceAdd,Nat.reduceSub,Nat.reduceMul,Nat.reduceEqDiff,Nat.reduceLeDiff,Nat.reduceLT,Int.reduceLE,Int.reduceLT,Int.reduceToNat,Int.reduceEq,f0];try with_reducible refine drawn hmix (by kernel_rfl) ?_))
  refine AtCall.mk HK ?_;have hkl:(keysM p k).length≤1000010:=by
   unfold keysM;have h1:=classes_len (n:=(k:Int)) hp;have h2:(setM (classesM p k)).length≤(classesM p k).length:=by
    unfold setM;have:=Lib.compact_length_le (sortM ((classesM p k).map sOf));rw [sortM_len,List.length_map] at this;rw [List.length_map];exact this
   simp only [List.length_append,List.length_cons,List.length_nil,List.length_map]
   split <;> simp only [List.length_cons,List.length_nil] <;> omega
  generalize keysM p k=KS at *
  (repeat ((first | with_reducible refine W.step (b:=false) ?_ | skip);simp only [go_sem,↓reduceIte,Nat.reduceAdd,Nat.reduceSub,Nat.reduceMul,Nat.reduceEqDiff,Nat.reduceLeDiff,Nat.reduceLT,Int.reduceLE,Int.reduceLT,Int.reduceToNat,Int.reduceEq];try with_reducible refine drawn hmix (by kernel_rfl) ?_))
  refine W.loop (s1:=stL [(.sl p.length 5 (p.flatMap encNd)),(.g (.int .i64 (k:Int))),.any,.any,(.ptr 0 0),(.ptr 1 0),.any,.any,.any,.any,.any,.any,.any,.any,.any,.any,.any,.any,.any,.any,.any,.any,(.sl KS.length 2 (KS.flatMap encKy)),(.g (.int .i64 (KS.length:Int))),(.g (.int .i64 ((0:Nat):Int))),.any,.any,.any,.any,.any,.any,.any,.any,.any,.any,.any,.any,.any,.any,.any] [(0,.cells [.g (.int .u64 0),.g (.int .u64 0),.g (.int .u64 0),.g (.int .u64 0)]),(1,.cells ((b).map encU))] 2)
   (fun (j:Nat) t=>j≤KS.length∧t=stL [(.sl p.length 5 (p.flatMap encNd)),(.g (.int .i64 (k:Int))),.any,.any,(.ptr 0 0),(.ptr 1 0),.any,.any,.any,.any,.any,.any,.any,.any,.any,.any,.any,.any,.any,.any,.any,.any,(.sl KS.length 2 (KS.flatMap encKy)),(.g (.int .i64 (KS.length:Int))),(.g (.int .i64 (j:Int))),.any,.any,.any,.any,.any,.any,.any,.any,.any,.any,.any,.any,.any,.any,.any] [(0,.cells [.g (.int .u64 0),.g (.int .u64 0),.g (.int .u64 0),.g (.int .u64 0)]),(1,.cells (((wordsK (KS.take j)).foldl addW b).map encU))] 2) (fun j=>KS.length - j) 0 ⟨Nat.zero_le _,rfl⟩ (VS.tm (by simp [leL])) ?_
  rintro j t ⟨hj,rfl⟩;have hbl:((wordsK (KS.take j)).foldl addW b).length=4:=by rw [fold_len];exact hb
  by_cases hlt:j<KS.length
  ·obtain ⟨s1,s2⟩:=rowKy hlt
   have hst:=wordsK_step hlt b;have htn:=hkt _ (List.getElem_mem hlt);generalize (wordsK (KS.take j)).foldl addW b=c at *
   by_cases hz:KS[j].1=0
   ·rw [if_pos hz] at hst
    have z0:=eq_true hz
    (repeat ((first | with_reducible refine W.step (b:=false) ?_ | skip);simp only [go_sem,↓reduceIte,Nat.reduceAdd,Nat.reduceSub,Nat.reduceMul,Nat.reduceEqDiff,Nat.reduceLeDiff,Nat.reduceLT,Int.reduceLE,Int.reduceLT,Int.reduceToNat,Int.reduceEq,hlt,s1,s2,z0];try with_reducible refine drawn hmix (by kernel_rfl) ?_))
    refine ⟨j+1,_,⟨hlt,rfl⟩,by show KS.length - (j+1)<KS.length - j;omega,?_⟩;rw [up1 (by omega),hst];exact VSdrop (by simp [ltB,ltL,ltA,getL,ltL_U]) (by simp [keepT_cons,keepT_nil,ltA,ltL])
   ·rw [if_neg hz] at hst
    have z0:=eq_false hz;have hw:=word_size KS[j].1 KS[j].2;have HA:=add_m [wordM KS[j].1 KS[j].2] (by simp) (by simp;omega) c hbl;have HA':=CallM.at (rd:=[]) (m:=[(3,.cells [.g (.string (wordM KS[j].1 KS[j].2))]),(2,.cells [.g (.int .i64 KS[j].1),.g (.string KS[j].2)]),(0,.cells [.g (.int .u64 0),.g (.int .u64 0),.g (.int .u64 0),.g (.int .u64 0)]),(1,.cells (c.map encU))]) (n:=4) (q:=[(0,1),(1,3)]) HA rfl (by simp [ltL,ltA]) (by simp [inM,fnm,lk,ltB,ltL_U,getL,reFB,reFL_U,encN,ltL,ltA,reFL,reF]) (by simp [injM,fnm,lk];rfl) (by simp [subM]);simp only [afterL,fnm,lk,reFL,reF,reFB,reFL_U,encN,List.flatMap_cons,List.flatMap_nil,List.map_cons,List.map_nil,List.foldl_cons,List.foldl_nil] at HA'
    (repeat ((first | with_reducible refine W.step (b:=false) ?_ | skip);simp only [go_sem,↓reduceIte,Nat.reduceAdd,Nat.reduceSub,Nat.reduceMul,Nat.reduceEqDiff,Nat.reduceLeDiff,Nat.reduceLT,Int.reduceLE,Int.reduceLT,Int.reduceToNat,Int.reduceEq,hlt,s1,s2,z0];try with_reducible refine drawn hmix (by kernel_rfl) ?_))
    refine AtCall.mk (word_p KS[j].1 KS[j].2 (by omega)) ?_
    (repeat ((first | with_reducible refine W.step (b:=false) ?_ | skip);simp only [go_sem,↓reduceIte,Nat.reduceAdd,Nat.reduceSub,Nat.reduceMul,Nat.reduceEqDiff,Nat.reduceLeDiff,Nat.reduceLT,Int.reduceLE,Int.reduceLT,Int.reduceToNat,Int.reduceEq];try with_reducible refine drawn hmix (by kernel_rfl) ?_))
    refine AtCall.mem (m':=[(1,.cells ((addW c (wordM KS[j].1 KS[j].2)).map encU)),(3,.cells [.g (.string (wordM KS[j].1 KS[j].2))]),(2,.cells [.g (.int .i64 KS[j].1),.g (.string KS[j].2)]),(0,.cells [.g (.int .u64 0),.g (.int .u64 0),.g (.int .u64 0),.g (.int .u64 0)])]) HA' ?_
    (repeat ((first | with_reducible refine W.step (b:=false) ?_ | skip);simp only [go_sem,↓reduceIte,Nat.reduceAdd,Nat.reduceSub,Nat.reduceMul,Nat.reduceEqDiff,Nat.reduceLeDiff,Nat.reduceLT,Int.reduceLE,Int.reduceLT,Int.reduceToNat,Int.reduceEq];try with_reducible refine drawn hmix (by kernel_rfl) ?_))
    refine ⟨j+1,_,⟨hlt,rfl⟩,by show KS.length - (j+1)<KS.length - j;omega,?_⟩;rw [up1 (by omega),hst];exact VSdrop (by simp [ltB,ltL,ltA,getL,ltL_U]) (by simp [keepT_cons,keepT_nil,ltA,ltL])
  ·(repeat ((first | with_reducible refine W.step (b:=false) ?_ | skip);simp only [go_sem,↓reduceIte,Nat.reduceAdd,Nat.reduceSub,Nat.reduceMul,Nat.reduceEqDiff,Nat.reduceLeDiff,Nat.reduceLT,Int.reduceLE,Int.reduceLT,Int.reduceToNat,Int.reduceEq,hlt,rk,hk];try with_reducible refine drawn hmix (by kernel_rfl) ?_))
   have hje:j=KS.length:=by omega
   rw [hje,List.take_length];refine ⟨((wordsK KS).foldl addW b,p[k].up),_,⟨⟨huk.1,by rw [fold_len];exact hb,hF⟩,rfl⟩,by show p[k].up.toNat<(k:Int).toNat;omega,VS.tm (by simp [leL])⟩
 ·have f0:=eq_false h0
  rw [if_neg h0] at hF;have x4:(b.map encU).length=4:=by rw [List.length_map];exact hb
  have tk:(b.map encU).take 4=b.map encU:=List.take_of_length_le (by omega);have ce:(b.map encU).all isCell=true:=by rw [List.all_map];exact List.all_eq_true.2 fun _ _=>rfl
  (repeat ((first | with_reducible refine W.step (b:=false) ?_ | skip);simp only [go_sem,↓reduceIte,Nat.reduceAdd,Nat.reduceSub,Nat.reduceMul,Nat.reduceEqDiff,Nat.reduceLeDiff,Nat.reduceLT,Int.reduceLE,Int.reduceLT,Int.reduceToNat,Int.reduceEq,f0,x4,tk,ce];try with_reducible refine drawn hmix (by kernel_rfl) ?_))
  have hbF:F=b:=hF;rw [hbF];exact postP_one _ (.inr rfl) (by unfold resV;simp only [go_sem,↓reduceIte,Nat.reduceAdd,Nat.reduceSub,Nat.reduceMul,Nat.reduceEqDiff,Nat.reduceLeDiff,Nat.reduceLT,Int.reduceLE,Int.reduceLT,Int.reduceToNat,Int.reduceEq,x4,tk]) (SealTo.agg (fun a ha=>by obtain ⟨x,-,rfl⟩:=List.mem_map.1 ha;rfl))
attribute [go_sem] appL newsA isSlice
abbrev Ky:=Int×ByteArray
abbrev En:=Cx×Nat
abbrev Gr:=List (Ky×List En)
def encEn (e:En):List AV:=[.sl e.1.parts.length 2 (e.1.parts.flatMap encP),.g (.string e.1.pseudo),.g (.int .i64 (e.2:Int)),.sl (wordsC e.1).length 1 ((wordsC e.1).flatMap encN)]
def keyAg (k:Ky):AV:=.agg [.g (.int .i64 k.1),.g (.string k.2)]
def encG (val:Nat→List En→AV):Nat→Gr→List (Nat×AV×AV)
 | _,[]=>[]
 | o,e::G=>(o,keyAg e.1,val o e.2)::encG val (o+1) G
def idxG (G:Gr) (k:Ky):Option Nat:=G.findIdx? fun e=>decide (e.1=k)
theorem encG_get (val:Nat→List En→AV):∀ (G:Gr) (o i:Nat),(encG val o G)[i]?=(G[i]?).map fun e=>(o+i,keyAg e.1,val (o+i) e.2)
 | [],_,_=>by simp [encG]
 | e::G,o,0=>by simp [encG]
 | e::G,o,i+1=>by
   rw [encG,List.getElem?_cons_succ,List.getElem?_cons_succ,encG_get val G (o+1) i,show o+1+i=o+(i+1) by omega]
theorem encG_len (val:Nat→List En→AV):∀ (G:Gr) (o:Nat),(encG val o G).length=G.length
 | [],_=>rfl
 | e::G,o=>by rw [encG,List.length_cons,encG_len val G,List.length_cons]
theorem key_eq9 (k k':Ky):pv Tryz.prog (Op.equal 162 (.agg #[.int .i64 k.1,.string k.2]) (.agg #[.int .i64 k'.1,.string k'.2]))=some (decide (k.1=k'.1)&&(decide (k.2=k'.2)&&true)) :=
 (pv_equalIn_struct 9999 _ _ Tryz.underlying162 (by kernel_rfl)).trans (pv_eqFields (d:=9998) (by simp [eqFs,Tryz.underlying3,Tryz.underlying9]))
theorem chk_key (e:Bool) (a:Int) (b:ByteArray):(pv Tryz.prog (Instr.checkKey e 10000 162 (.agg #[.int .i64 a,.string b]))).isSome=true:=by kernel_rfl
theorem ba_refl (s:ByteArray):(s==s)=true:=by
 show (s.data==s.data)=true;simp
theorem find_G (val:Nat→List En→AV) (k:Ky):∀ (G:Gr) (o i:Nat),findS Tryz.prog 162 (.agg #[.int .i64 k.1,.string k.2]) (encG val o G) i=some ((idxG G k).map fun j=>(i+j,val (o+j) (G.getD j ((0,⟨#[]⟩),[])).2))
 | [],_,_=>rfl
 | e :: G,o,i=>by
   have ih:=find_G val k G (o+1) (i+1);have ht:toG (keyAg e.1)=some (.agg #[.int .i64 e.1.1,.string e.1.2]):=rfl;rw [encG,findS,ht];simp only;rw [key_eq9];unfold idxG at ih ⊢;rw [List.findIdx?_cons]
   by_cases h:e.1=k
   ·have h1:(decide (k.1=e.1.1)&&(decide (k.2=e.1.2)&&true))=true:=by rw [←h];simp
    have h2:Instr.sameBits 10000 (.agg #[.int .i64 e.1.1,.string e.1.2]) (.agg #[.int .i64 k.1,.string k.2])=true:=by rw [h];simp [Instr.sameBits];exact ba_refl _
    rw [h1];simp only [h2,decide_eq_true h,if_true,Option.map_some]
    rfl
   ·have h1:(decide (k.1=e.1.1)&&(decide (k.2=e.1.2)&&true))=false:=by
     rw [←Bool.not_eq_true,Bool.and_eq_true,Bool.and_eq_true,decide_eq_true_eq,decide_eq_true_eq];rintro ⟨g1,g2,-⟩;exact h (Prod.ext g1.symm g2.symm)
    rw [h1];simp only [ih,decide_eq_false h,Bool.false_eq_true,if_false,Option.map_map]
    congr 2
    funext j
    simp only [Function.comp,List.getD_cons_succ];rw [show i+1+j=i+(j+1) by omega,show o+1+j=o+(j+1) by omega]
theorem keyFind_G (val:Nat→List En→AV) (k:Ky) (G:Gr):keyFind Tryz.prog 162 (keyAg k) (encG val 0 G)=some ((idxG G k).map fun j=>(j,val j (G.getD j ((0,⟨#[]⟩),[])).2)):=by
 have h1:isKeyT (Tryz.prog.underlying 162) (keyAg k)=false:=by rw [Tryz.underlying162];rfl
 have h2:toG (keyAg k)=some (.agg #[.int .i64 k.1,.string k.2]):=rfl;have h3:wideKey (Tryz.prog.underlying 162)=true:=by rw [Tryz.underlying162];rfl
 unfold keyFind;rw [h1,h2,h3];simp only;obtain ⟨x,hx⟩:=Option.isSome_iff_exists.1 (chk_key false k.1 k.2);obtain ⟨y,hy⟩:=Option.isSome_iff_exists.1 (chk_key true k.1 k.2);rw [hx,hy];simp only;rw [find_G];simp
theorem un_kmap:Tryz.prog.underlying 158=some (.map 162 164):=by kernel_rfl
theorem ze_ents:(Tryz.prog.info? 164).bind (·.zero)=some (.slice none 0 0):=by kernel_rfl
def getG (G:Gr) (k:Ky):List En:=match idxG G k with
 | some j=>(G.getD j ((0,⟨#[]⟩),[])).2
 | none=>[]
def sealV4 (_:Nat) (es:List En):AV:=.sl es.length 4 (es.flatMap encEn)
theorem look_G (k:Ky) (G:Gr) (clk:Nat):lookB Tryz.prog 158 (keyAg k) false (some (.map (encG sealV4 0 G) clk))=some (match idxG G k with | some _=>.sl (getG G k).length 4 ((getG G k).flatMap encEn) | none=>.g (.slice none 0 0)):=by
 unfold lookB;simp only [un_kmap,keyFind_G,ze_ents];unfold getG
 cases idxG G k with
 | none=>rfl
 | some j=>rfl
theorem ment_some {val:Nat→List En→AV} {k:Ky} {G:Gr} {clk j:Nat} (h:idxG G k=some j):mentB Tryz.prog 158 (keyAg k) (some (.map (encG val 0 G) clk))=some (.tup [val j (getG G k),.g (.int .i64 (j:Int))],.map (encG val 0 G) clk):=by
 have hj:=List.findIdx?_eq_some_iff_getElem.1 h;obtain ⟨hl,hk,-⟩:=hj;have hk:=of_decide_eq_true hk;have hg:(encG val 0 G)[j]?=some (j,keyAg k,val j (getG G k)):=by
  rw [encG_get,List.getElem?_eq_getElem hl];simp only [Option.map_some,Nat.zero_add,hk];unfold getG;rw [h];simp [List.getD_eq_getElem?_getD,List.getElem?_eq_getElem hl]
 unfold mentB;simp only [un_kmap,keyFind_G,h,Option.map_some,hg];have hv:val j (G.getD j ((0,⟨#[]⟩),[])).2=val j (getG G k):=by unfold getG;rw [h]
 have hm:(encG val 0 G).modify j (fun e=>(e.1,keyAg k,e.2.2))=encG val 0 G:=by
  apply List.ext_getElem?;intro i;rw [List.getElem?_modify]
  by_cases hi:j=i
  ·subst hi
   rw [hg];simp
  ·simp [hi]
 rw [hv,hm]
theorem ment_none {val:Nat→List En→AV} {k:Ky} {G:Gr} {clk:Nat} (h:idxG G k=none):mentB Tryz.prog 158 (keyAg k) (some (.map (encG val 0 G) clk))=some (.tup [.g (.slice none 0 0),.g (.int .i64 (clk:Int))],.map (encG val 0 G++[(clk,keyAg k,.g (.slice none 0 0))]) (clk+1)):=by
 unfold mentB;simp only [un_kmap,keyFind_G,h,Option.map_none,ze_ents]
 rfl
attribute [go_sem] appL newsA isSlice
def Rg (G:Gr) (i:Nat):List En:=(G.getD i ((0,⟨#[]⟩),[])).2
def openG (G:Gr) (k:Ky):Gr:=match idxG G k with
 | some _=>G
 | none=>G++[(k,[])]
def posG (G:Gr) (k:Ky):Nat:=match idxG G k with
 | some j=>j
 | none=>G.length
def insG (G:Gr) (k:Ky) (e:En):Gr:=(openG G k).modify (posG G k) fun x=>(x.1,x.2++[e])
theorem pos_lt (G:Gr) (k:Ky):posG G k<(openG G k).length:=by
 unfold posG openG
 cases h:idxG G k with
 | none=>simp
 | some j =>
   obtain ⟨hl,-⟩:=List.findIdx?_eq_some_iff_getElem.1 h;exact hl
theorem Rg_open (G:Gr) (k:Ky):Rg (openG G k)=Rg G:=by
 unfold openG
 cases h:idxG G k with
 | some j=>rfl
 | none =>
   funext i
   unfold Rg;simp only;rw [List.getD_eq_getElem?_getD,List.getD_eq_getElem?_getD];rcases Nat.lt_trichotomy i G.length with h1 | rfl | h1
   ·rw [List.getElem?_append_left h1]
   ·rw [List.getElem?_append_right (Nat.le_refl _),Nat.sub_self,List.getElem?_eq_none (Nat.le_refl _)];rfl
   ·rw [List.getElem?_eq_none (by simp;omega),List.getElem?_eq_none (by omega)]
theorem getG_pos (G:Gr) (k:Ky):getG G k=Rg G (posG G k):=by
 unfold getG posG Rg
 cases idxG G k with
 | some j=>rfl
 | none=>simp only;rw [List.getD_eq_getElem?_getD,List.getElem?_eq_none (Nat.le_refl _)];rfl
theorem open_le (G:Gr) (k:Ky):G.length≤(openG G k).length∧(openG G k).length≤G.length+1:=by
 unfold openG
 cases idxG G k with
 | some j=>exact ⟨Nat.le_refl _,Nat.le_succ _⟩
 | none=>simp
theorem ins_len (G:Gr) (k:Ky) (e:En):(insG G k e).length=(openG G k).length:=by unfold insG;rw [List.length_modify]
theorem Rg_lt {G:Gr} {i:Nat} (h:Rg G i≠[]):i<G.length:=by
 rcases Nat.lt_or_ge i G.length with h1 | h1
 ·exact h1
 ·exact absurd (by unfold Rg;rw [List.getD_eq_getElem?_getD,List.getElem?_eq_none h1];rfl) h
theorem Rg_ins (G:Gr) (k:Ky) (e:En) (i:Nat):Rg (insG G k e) i=if i=posG G k then Rg G i++[e] else Rg G i:=by
 have h1:=pos_lt G k;rw [←Rg_open G k];unfold insG Rg;rw [List.getD_eq_getElem?_getD,List.getD_eq_getElem?_getD,List.getElem?_modify]
 by_cases hi:posG G k=i
 ·subst hi
  rw [if_pos rfl,List.getElem?_eq_getElem h1];simp
 ·rw [if_neg (fun e=>hi e.symm)]
  simp [hi]
theorem ment_own (G:Gr) (k:Ky):mentB Tryz.prog 158 (keyAg k) (some (.map (encG (ownA 2 4) 0 G) G.length))=some (.tup [ownA 2 4 (posG G k) (getG G k),.g (.int .i64 (posG G k:Int))],.map (encG (ownA 2 4) 0 (openG G k)) (openG G k).length):=by
 cases h:idxG G k with
 | some j =>
   rw [ment_some h];unfold posG openG;rw [h]
 | none =>
   rw [ment_none h];unfold posG openG getG;rw [h];simp only [List.length_append,List.length_singleton];have:encG (ownA 2 4) 0 (G++[(k,[])])=encG (ownA 2 4) 0 G++[(G.length,keyAg k,.g (.slice none 0 0))]:=by
    apply List.ext_getElem?;intro i;rw [encG_get];rcases Nat.lt_trichotomy i G.length with h1 | rfl | h1
    ·rw [List.getElem?_append_left h1,List.getElem?_append_left (by rw [encG_len];exact h1),encG_get]
    ·rw [List.getElem?_append_right (Nat.le_refl _),List.getElem?_append_right (by rw [encG_len];exact Nat.le_refl _),encG_len,Nat.sub_self,Nat.zero_add];rfl
    ·rw [List.getElem?_eq_none (by simp;omega),List.getElem?_eq_none (by simp [encG_len];omega)];rfl
   rw [this]
   rfl
theorem est_G {val:Nat→List En→AV} {G:Gr} {clk j:Nat} {x:AV} (hj:j<G.length):estB (.g (.int .i64 (j:Int))) x (some (.map (encG val 0 G) clk))=some (.map ((encG val 0 G).modify j fun e=>(e.1,e.2.1,x)) clk):=by
 have hf:(encG val 0 G).findIdx? (fun e=>(e.1:Int)==(j:Int))=some j:=by
  rw [List.findIdx?_eq_some_iff_getElem];have get:∀ i (hi:i<(encG val 0 G).length),((encG val 0 G)[i]).1=i:=by
   intro i hi;have h1:=encG_get val G 0 i;rw [List.getElem?_eq_getElem hi,List.getElem?_eq_getElem (by rw [encG_len] at hi;exact hi)] at h1;have:=Option.some.inj h1;rw [this];simp
  refine ⟨by rw [encG_len];exact hj,by rw [get];simp,fun i hi=>?_⟩;rw [get];simp;omega
 unfold estB;simp only [hf]
def putV (val:Nat→List En→AV) (j:Nat) (x:AV) (i:Nat) (es:List En):AV:=if i=j then x else val i es
theorem encG_modify (val:Nat→List En→AV) (x:AV) (G:Gr) (j:Nat) (f:List En→List En):(encG val 0 G).modify j (fun e=>(e.1,e.2.1,x))=encG (putV val j x) 0 (G.modify j fun e=>(e.1,f e.2)):=by
 apply List.ext_getElem?;intro i;rw [List.getElem?_modify,encG_get,encG_get,List.getElem?_modify]
 by_cases h:j=i
 ·subst h
  cases G[j]? with
  | none=>simp
  | some e=>simp [putV]
 ·cases G[i]? with
  | none=>simp [h]
  | some e=>simp [h,putV,show ¬i=j from fun e=>h e.symm]
theorem reFE_own {j nn N:Nat}:∀ (G:Gr) (o:Nat),(∀ i,i<G.length→o+i=j→(Rg G i).length=N∧Rg G i≠[])→reFE (ownH 2 j nn) (encG (ownA 2 4) o G)=encG (putV (ownA 2 4) j (.gs nn 0 N 4 N)) o G
 | [],_,_=>rfl
 | e::G,o,h=>by
   have h0:=h 0 (by simp);have hr:Rg (e::G) 0=e.2:=rfl;rw [hr] at h0;rw [encG,reFE,reFE_own G (o+1) (fun i hi he=>h (i+1) (by simp;exact hi) (by omega)),encG];have hk:reF (ownH 2 j nn) (keyAg e.1)=keyAg e.1:=reF_id _ _ rfl;simp only;rw [hk]
   by_cases ho:o=j
   ·obtain ⟨h1,h2⟩:=h0 (by omega)
    rw [ho,reF_own_at h2,h1];unfold putV;rw [if_pos rfl]
   ·rw [reF_own ho]
    unfold putV;rw [if_neg ho]
theorem ag_ent:aggO Tryz.prog 167=some (true,4):=by kernel_rfl
theorem ag_ents:aggO Tryz.prog 164=some (false,1):=by kernel_rfl
theorem ag_kmap:aggO Tryz.prog 158=some (false,1):=by kernel_rfl
theorem ag_idx:aggO Tryz.prog 160=some (true,1):=by kernel_rfl
theorem ag_idxp:aggO Tryz.prog 74=some (false,1):=by kernel_rfl
theorem el_ents:elemO Tryz.prog 164=some 4:=by kernel_rfl
theorem ei_ents:elemI Tryz.prog 164=some (4,72,true):=by kernel_rfl
theorem un_ents:slOrStr (Tryz.prog.underlying 164)=true:=by kernel_rfl
theorem sz_cx:szO Tryz.prog 90=some 2:=by kernel_rfl
theorem ze_cx:zeroO Tryz.prog 90=some [.g (.slice none 0 0),.g (.string ⟨#[]⟩)]:=by kernel_rfl
theorem fl_idx0:fldO Tryz.prog 160 0=some (0,158):=by kernel_rfl
theorem bl_idx (parts:List (Nat×AV)):evBuild Tryz.prog 160 parts=aggM (fillL [(0,1)] [.g (.map none)] parts):=evBuild_eq (by kernel_rfl) parts
theorem bl_ent (parts:List (Nat×AV)):evBuild Tryz.prog 167 parts=aggM (fillL [(0,2),(2,1),(3,1)] [.g (.slice none 0 0),.g (.string ⟨#[]⟩),.g (.int .i64 0),.g (.slice none 0 0)] parts):=evBuild_eq (by kernel_rfl) parts
attribute [go_sem] ag_ent ag_ents ag_kmap ag_idx ag_idxp el_ents ei_ents un_ents sz_cx ze_cx fl_idx0 bl_idx bl_ent
def allG (l:List Cx):Gr:=l.zipIdx.foldl (fun G e=>insG G (keyM e.1) e) []
theorem allG_step {l:List Cx} {k:Nat} (h:k<l.length):allG (l.take (k+1))=insG (allG (l.take k)) (keyM l[k]) (l[k],k):=by
 unfold allG;rw [List.take_succ_eq_append_getElem h,List.zipIdx_append,List.foldl_append];simp [List.length_take,Nat.min_eq_left (Nat.le_of_lt h)]
theorem foldG_len (i:Nat):∀ (l:List En) (G:Gr),(l.foldl (fun G e=>insG G (keyM e.1) e) G).length≤G.length+l.length∧(Rg (l.foldl (fun G e=>insG G (keyM e.1) e) G) i).length≤(Rg G i).length+l.length
 | [],G=>⟨Nat.le_refl _,Nat.le_refl _⟩
 | e::l,G=>by
   obtain ⟨h1,h2⟩:=foldG_len i l (insG G (keyM e.1) e);rw [ins_len] at h1;rw [Rg_ins] at h2;have h3:=open_le G (keyM e.1);rw [List.foldl_cons,List.length_cons];refine ⟨by omega,Nat.le_trans h2 ?_⟩
   split
   ·rw [List.length_append,List.length_singleton];omega
   ·omega
theorem allG_len {l:List Cx} (i:Nat):(allG l).length≤l.length∧(Rg (allG l) i).length≤l.length:=by
 obtain ⟨h1,h2⟩:=foldG_len i l.zipIdx [];rw [List.length_zipIdx] at h1 h2;exact ⟨Nat.le_trans h1 (by simp),Nat.le_trans h2 (by show 0+l.length≤_;omega)⟩
def okCx (c:Cx):Prop:=okPT c.parts∧simps c.parts≤1000000∧∀ pt∈c.parts,∀ x∈pt.l,x.name.size≤1000000
theorem noIds_En (e:En):noIdsL (encEn e)=true:=rfl
theorem ltE_own:∀ (G:Gr) (o N:Nat),o+G.length≤N→ltE (2+N) (encG (ownA 2 4) o G)
 | [],_,_,_=>trivial
 | e::G,o,N,h=>by
   rw [List.length_cons] at h;exact ⟨⟨ltA_id _ _ rfl,ltA_own (by omega)⟩,ltE_own G (o+1) N (by omega)⟩
theorem own_G {GT:GTab} {G G':Gr} {j nn n:Nat} {m:ML} {l l':List AV} (hj:j<G'.length) (hnn:2+G'.length≤nn) (hR:∀ i,i≠j→Rg G' i=Rg G i) (hne:Rg G' j≠[])
 (h0:getL m 0=some (.map (encG (putV (ownA 2 4) j (.gs nn 0 (Rg G' j).length 4 (Rg G' j).length)) 0 G') G'.length)) (h1:getL m 1=some (.cells [.mp 0])) (hn:getL m nn=some (.cells ((Rg G' j).flatMap encEn)))
 (h2:∀ i,i≠j→Rg G i≠[]→getL m (2+i)=some (.cells ((Rg G i).flatMap encEn))) (hT:reT (ownH 2 j nn) (2+G'.length) l' l) :
 VS GT .none (stL l m n) (stL l' ((0,.map (encG (ownA 2 4) 0 G') G'.length)::(1,.cells [.mp 0])::rowsM encEn 2 (Rg G') G'.length) (2+G'.length)):=by
 refine VS.own (F:=[(0,.map (encG (ownA 2 4) 0 G') G'.length),(1,.cells [.mp 0])]) (R:=Rg G) hj hnn (fun i _ hi=>hR i hi) noIds_En (fun c k hc=>?_) hn (fun i _ hij hr=>h2 i hij hr) hT;rw [getL] at hc
 split at hc
 ·rename_i h;subst h;cases hc
  refine ⟨by decide,ltE_own G' 0 _ (by omega),?_⟩;rw [h0,reFB,reFE_own G' 0 (N:=(Rg G' j).length) (fun i _ he=>by rw [Nat.zero_add] at he;subst he;exact ⟨rfl,hne⟩)]
 ·rw [getL] at hc
  split at hc
  ·rename_i h;subst h;cases hc
   have h9:ownH 2 j nn 0=0:=ownH_low (by decide);refine ⟨by decide,by simp [ltB,ltL,ltA];omega,?_⟩;rw [h1];simp [reFB,reFL,reF,h9]
  ·cases hc
theorem seal_ents {N:Nat} {R:Nat→List En}:∀ (G:Gr) (o:Nat),(∀ i,i<G.length→R (o+i)=Rg G i∧o+i<N∧Rg G i≠[])→frEF (rowsS encEn 2 R N) (encG sealV4 o G) (encG (ownA 2 4) o G)
 | [],_,_=>rfl
 | e::G,o,h=>by
   obtain ⟨h1,h2,h3⟩:=h 0 (by simp);have hr:Rg (e::G) 0=e.2:=rfl;rw [hr,Nat.add_zero] at h1;rw [hr] at h3
   refine ⟨_,_,rfl,⟨rfl,by rw [frAF_self];trivial,?_⟩,seal_ents G (o+1) fun i hi=>by
    have:=h (i+1) (by simp;exact hi);rw [show o+(i+1)=o+1+i by omega] at this
    exact this⟩
   have:=frAF_own (enc:=encEn) (b0:=2) (sz:=4) (R:=R) (fun _=>rfl) h2;rw [Nat.add_zero,h1] at this;have hs:sealV4 o e.2=sealA encEn 4 e.2:=by
    cases he:e.2 with
    | nil=>exact absurd he h3
    | cons x r=>rfl
   simp only;rw [hs];exact this
theorem seal_G {GT:GTab} {E:Beg} {G:Gr} {n:Nat} {l l':List AV} (hne:∀ i,i<G.length→Rg G i≠[]) (hl:frLF (rowsS encEn 2 (Rg G) G.length) l' l) :
 VS GT E (stL l ((0,.map (encG (ownA 2 4) 0 G) G.length)::(1,.cells [.mp 0])::rowsM encEn 2 (Rg G) G.length) n) (stL l' [(0,.map (encG sealV4 0 G) G.length),(1,.cells [.mp 0])] n):=by
 refine VS.rows (F:=[(0,.map (encG (ownA 2 4) 0 G) G.length),(1,.cells [.mp 0])]) (fun x a ha=>?_) (fun c hc=>by rw [getL,if_neg (by omega),getL,if_neg (by omega)];rfl) hl fun c k hc=>?_
 ·simp only [encEn,List.mem_cons,List.not_mem_nil,or_false] at ha
  rcases ha with rfl | rfl | rfl | rfl <;> rfl
 ·rw [getL] at hc
  split at hc
  ·rename_i h;subst h;cases hc
   refine ⟨by decide,.inr ⟨_,by rw [getL,if_pos rfl],_,rfl,seal_ents G 0 fun i hi=>⟨by rw [Nat.zero_add],by omega,hne i hi⟩⟩⟩
  ·rw [getL] at hc
   split at hc
   ·rename_i h;subst h;cases hc
    exact ⟨by decide,.inl (by simp [getL])⟩
   ·cases hc
theorem ltE_seal (n:Nat):∀ (G:Gr) (o:Nat),ltE n (encG sealV4 o G)=True
 | [],_=>rfl
 | e::G,o=>by
   rw [encG];show ((ltA n (keyAg e.1)∧ltA n (sealV4 o e.2))∧ltE n (encG sealV4 (o+1) G))=True;rw [ltE_seal n G,eq_true (ltA_id n (keyAg e.1) rfl),eq_true (ltA_id n (sealV4 o e.2) rfl)];simp
theorem ins_ne {G:Gr} {k:Ky} {e:En} (h:∀ i,i<G.length→Rg G i≠[]):∀ i,i<(insG G k e).length→Rg (insG G k e) i≠[]:=by
 intro i hi;rw [ins_len] at hi;rw [Rg_ins]
 split
 ·simp
 ·rename_i hne
  refine h i ?_;unfold openG at hi;unfold posG at hne
  cases hx:idxG G k with
  | some j=>rw [hx] at hi;exact hi
  | none =>
    rw [hx] at hi hne;simp only [List.length_append,List.length_singleton] at hi hne;omega
theorem foldG_ne:∀ (l:List En) (G:Gr),(∀ i,i<G.length→Rg G i≠[])→∀ i,i<(l.foldl (fun G e=>insG G (keyM e.1) e) G).length→Rg (l.foldl (fun G e=>insG G (keyM e.1) e) G) i≠[]
 | [],_,h=>h
 | _::l,_,h=>foldG_ne l _ (ins_ne h)
theorem allG_ne (l:List Cx):∀ i,i<(allG l).length→Rg (allG l) i≠[]:=foldG_ne _ [] (fun i hi=>by simp at hi)
set_option maxRecDepth 100000 in
set_option maxHeartbeats 4000000 in
theorem new_m (l:List Cx) (hl:l.length≤1000000) (hc:∀ c∈l,okCx c):CallM Tryz.prog gt0 [] [] 0 46 [.sl l.length 2 (l.flatMap encC)] (.ptr 1 0) [(0,.map (encG sealV4 0 (allG l)) (allG l).length),(1,.cells [.mp 0])] 2:=by
 refine callM_of_w (c:=_) Tryz.func46 rfl (by kernel_rfl) ?_;simp only [Tryz.f46,List.replicate,List.length_cons,List.length_nil,Nat.reduceAdd,Nat.reduceSub,List.cons_append,List.nil_append]
 (repeat ((first | with_reducible refine W.step (b:=false) ?_ | skip);simp only [go_sem,↓reduceIte,Nat.reduceAdd,Nat.reduceSub,Nat.reduceMul,Nat.reduceEqDiff,Nat.reduceLeDiff,Nat.reduceLT,Int.reduceLE,Int.reduceLT,Int.reduceToNat,Int.reduceEq];try with_reducible refine drawn hmix (by kernel_rfl) ?_))
 refine W.loop (s1:=stL [.any,.any,(.g (.pointer none)),(.ptr 1 0),.any,.any,.any,.any,.any,.any,(.sl l.length 2 (l.flatMap encC)),(.g (.int .i64 (l.length:Int))),(.g (.int .i64 ((0:Nat):Int))),.any,.any,.any,.any,.any,.any,.any,.any,.any,.any,.any,.any,.any,.any,.any,.any,.any,.any,.any,.any,.any,.any,.any] ((0,.map (encG (ownA 2 4) 0 (allG (l.take 0))) (allG (l.take 0)).length)::(1,.cells [.mp 0])::rowsM encEn 2 (Rg (allG (l.take 0))) (allG (l.take 0)).length) (2+(allG (l.take 0)).length))
  (fun (k:Nat) t=>k≤l.length∧t=stL [.any,.any,(.g (.pointer none)),(.ptr 1 0),.any,.any,.any,.any,.any,.any,(.sl l.length 2 (l.flatMap encC)),(.g (.int .i64 (l.length:Int))),(.g (.int .i64 (k:Int))),.any,.any,.any,.any,.any,.any,.any,.any,.any,.any,.any,.any,.any,.any,.any,.any,.any,.any,.any,.any,.any,.any,.any] ((0,.map (encG (ownA 2 4) 0 (allG (l.take k))) (allG (l.take k)).length)::(1,.cells [.mp 0])::rowsM encEn 2 (Rg (allG (l.take k))) (allG (l.take k)).length) (2+(allG (l.take k)).length)) (fun k=>l.length - k) 0 ⟨Nat.zero_le _,rfl⟩ ?_ ?_
 ·exact VSdrop (by simp [allG,encG,ltB,ltE,ltL,ltA,getL,rowsM]) (by simp [keepT_cons,keepT_nil,ltA,allG])
 rintro k t ⟨hk,rfl⟩
 by_cases hlt:k<l.length
 ·obtain ⟨hc1,hc2,hc3⟩:=hc _ (List.getElem_mem hlt)
  have HK:=keyOf_p l[k] hc1;have HW:=words_p l[k] hc1 hc2 hc3;have hstep:=allG_step hlt;have hgl:=allG_len (l:=l.take k);rw [List.length_take,Nat.min_eq_left hk] at hgl;have r1:=row_part encC 2 (fun _=>rfl) l k hlt 0 2 (by decide);have r2:=row_fit encC 2 (fun _=>rfl) l k hlt (j:=0) (c:=2) (by decide);rw [Nat.add_zero,List.drop_zero,List.take_of_length_le (l:=encC l[k]) (Nat.le_refl 2)] at r1;rw [Nat.add_zero] at r2;have hen:encC l[k]=[.sl l[k].parts.length 2 (l[k].parts.flatMap encP),.g (.string l[k].pseudo)]:=rfl;rw [hen] at r1 HK HW;have hment:=ment_own (allG (l.take k)) (keyM l[k]);simp only [keyAg] at hment;generalize hG:allG (l.take k)=G at *;obtain ⟨n0,hn0⟩:∃ n0,n0=2+G.length:=⟨_,rfl⟩;rw [←hn0];have hpos:=pos_lt G (keyM l[k]);have hopen:=open_le G (keyM l[k]);have hest:∀ x,estB (.g (.int .i64 (posG G (keyM l[k]):Int))) x (some (.map (encG (ownA 2 4) 0 (openG G (keyM l[k]))) (openG G (keyM l[k])).length))=some (.map (encG (putV (ownA 2 4) (posG G (keyM l[k])) x) 0 (insG G (keyM l[k]) (l[k],k))) (insG G (keyM l[k]) (l[k],k)).length):=by
   intro x;rw [est_G hpos,encG_modify (f:=fun x=>x++[(l[k],k)]),ins_len];rfl
  have hRi:=Rg_ins G (keyM l[k]) (l[k],k);have hil:=ins_len G (keyM l[k]) (l[k],k);have hRo:=Rg_open G (keyM l[k]);generalize hI:insG G (keyM l[k]) (l[k],k)=G' at *;generalize hj:posG G (keyM l[k])=j at *;generalize hGo:openG G (keyM l[k])=Go at *;generalize hK:keyM l[k]=K at *;obtain ⟨K1,K2⟩:=K;simp only at hment HK;have e1:(n0=0)=False:=eq_false (by omega);have e2:(n0+1=0)=False:=eq_false (by omega);have e3:(n0+1+1=0)=False:=eq_false (by omega);have e4:(n0=1)=False:=eq_false (by omega);have e5:(n0+1=1)=False:=eq_false (by omega);have e6:(n0+1+1=1)=False:=eq_false (by omega);have e7:(n0+1=n0)=False:=eq_false (by omega);have e8:(n0+1+1=n0)=False:=eq_false (by omega);have e9:(n0+1+1=n0+1)=False:=eq_false (by omega)
  (repeat ((first | with_reducible refine W.step (b:=false) ?_ | skip);simp only [go_sem,↓reduceIte,Nat.reduceAdd,Nat.reduceSub,Nat.reduceMul,Nat.reduceEqDiff,Nat.reduceLeDiff,Nat.reduceLT,Int.reduceLE,Int.reduceLT,Int.reduceToNat,Int.reduceEq,hlt,r1,r2,e1,e2,e3,e4,e5,e6];try with_reducible refine drawn hmix (by kernel_rfl) ?_))
  refine AtCall.mk HK ?_
  by_cases hnil:getG G (K1,K2)=[]
  ·rw [hnil,ownA] at hment
   (repeat ((first | with_reducible refine W.step (b:=true) ?_ | skip);simp only [go_sem,↓reduceIte,Nat.reduceAdd,Nat.reduceSub,Nat.reduceMul,Nat.reduceEqDiff,Nat.reduceLeDiff,Nat.reduceLT,Int.reduceLE,Int.reduceLT,Int.reduceToNat,Int.reduceEq,e1,e2,e3,e4,e5,e6,e7,e8,e9];(try with_reducible refine drawn hmix (by kernel_rfl) ?_)))
   refine AtCallD.mk HW ?_
   (repeat ((first | with_reducible refine W.step (b:=true) ?_ | skip);simp only [go_sem,↓reduceIte,Nat.reduceAdd,Nat.reduceSub,Nat.reduceMul,Nat.reduceEqDiff,Nat.reduceLeDiff,Nat.reduceLT,Int.reduceLE,Int.reduceLT,Int.reduceToNat,Int.reduceEq,e1,e2,e3,e4,e5,e6,e7,e8,e9,hment,hest];(try with_reducible refine drawn hmix (by kernel_rfl) ?_)))
   (refine ⟨?_,?_⟩;focus (simp only [okD_nil,okD_end,okD_quiet,lowD_nil,Bool.true_and,Bool.and_true,Bool.and_self];repeat' (first | with_reducible exact okD_end | (with_reducible refine lowD_eq ?_;(simp <;> omega);done) | with_reducible refine andB ?_ ?_ | with_reducible refine okD_quiet.trans ?_ | (with_reducible refine (okD_free ?_).trans ?_;(constructor <;> simp <;> omega)) | (with_reducible refine (okD_bef ?_).trans ?_;decide +kernel))))
   (repeat ((first | with_reducible refine W.step (b:=false) ?_ | skip);simp only [go_sem,↓reduceIte,Nat.reduceAdd,Nat.reduceSub,Nat.reduceMul,Nat.reduceEqDiff,Nat.reduceLeDiff,Nat.reduceLT,Int.reduceLE,Int.reduceLT,Int.reduceToNat,Int.reduceEq];try with_reducible refine drawn hmix (by kernel_rfl) ?_))
   have hj1:Rg G' j=[(l[k],k)]:=by
    rw [hRi,if_pos rfl,←hj,←getG_pos,hnil];rfl
   refine ⟨k+1,_,⟨hlt,rfl⟩,by show l.length - (k+1)<l.length - k;omega,?_⟩;rw [up1 (by omega),hstep];subst hn0;refine own_G (G:=G) (j:=j) (nn:=2+G.length+1+1+1) (by rw [hil];exact hpos) (by rw [hil];omega) (fun i hi=>by rw [hRi,if_neg hi]) (by rw [hj1];simp) ?_ ?_ ?_ (fun i _ hr=>?_) ?_
   ·simp [getL,hj1]
   ·simp [getL];omega
   ·simp [getL,hj1,encEn]
   ·have h9:=rowsM_at (enc:=encEn) (b0:=2) (Rg_lt hr) hr
    have h8:=Rg_lt hr;rw [getL,if_neg (by omega),getL,if_neg (by omega),getL,if_neg (by omega),getL,if_neg (by omega),getL,if_neg (by omega),getL,if_neg (by omega)];exact h9
   ·simp [reT_cons,reT_nil,reF,reFL,ltA,ltL,ownH];omega
  ·obtain ⟨b,hb⟩:∃ b,b=2+j:=⟨_,rfl⟩
   rw [ownA_pos hnil,←hb] at hment;have hgp:=getG_pos G (K1,K2);rw [hj] at hgp;have hget:getL (rowsM encEn 2 (Rg G) G.length) b=some (.cells ((getG G (K1,K2)).flatMap encEn)):=by
    rw [hgp] at hnil ⊢;rw [hb];exact rowsM_at (Rg_lt hnil) hnil
   have hjl:j<G.length:=Rg_lt (by rw [←hgp];exact hnil);have hgl2:=(hgl j).2;rw [←hgp] at hgl2;have b1:(n0=b)=False:=eq_false (by omega);have b2:(n0+1=b)=False:=eq_false (by omega);have b3:(n0+1+1=b)=False:=eq_false (by omega);have b4:(0=b)=False:=eq_false (by omega);have b5:(1=b)=False:=eq_false (by omega);have b6:(b=n0+1+1)=False:=eq_false (by omega);have hfl:((getG G (K1,K2)).flatMap encEn).length=(getG G (K1,K2)).length*4:=flatMap_len (sz:=4) (fun _=>rfl) _;generalize getG G (K1,K2)=es at *;have x1:(es.length+1≤es.length)=False:=eq_false (by omega);have x2:(es.length+1)*73≤17179869184:=by omega
   (repeat ((first | with_reducible refine W.step (b:=true) ?_ | skip);simp only [go_sem,↓reduceIte,Nat.reduceAdd,Nat.reduceSub,Nat.reduceMul,Nat.reduceEqDiff,Nat.reduceLeDiff,Nat.reduceLT,Int.reduceLE,Int.reduceLT,Int.reduceToNat,Int.reduceEq,e1,e2,e3,e4,e5,e6,e7,e8,e9];(try with_reducible refine drawn hmix (by kernel_rfl) ?_)))
   refine AtCallD.mk HW ?_
   (repeat ((first | with_reducible refine W.step (b:=true) ?_ | skip);simp only [go_sem,↓reduceIte,Nat.reduceAdd,Nat.reduceSub,Nat.reduceMul,Nat.reduceEqDiff,Nat.reduceLeDiff,Nat.reduceLT,Int.reduceLE,Int.reduceLT,Int.reduceToNat,Int.reduceEq,e1,e2,e3,e4,e5,e6,e7,e8,e9,hment,hest,b1,b2,b3,b4,b5,b6,hfl,x1,x2,hget];(try with_reducible refine drawn hmix (by kernel_rfl) ?_)))
   (refine ⟨?_,?_⟩;focus (simp only [okD_nil,okD_end,okD_quiet,lowD_nil,Bool.true_and,Bool.and_true,Bool.and_self];repeat' (first | with_reducible exact okD_end | (with_reducible refine lowD_eq ?_;(simp <;> omega);done) | with_reducible refine andB ?_ ?_ | with_reducible refine okD_quiet.trans ?_ | (with_reducible refine (okD_free ?_).trans ?_;(constructor <;> simp <;> omega)) | (with_reducible refine (okD_bef ?_).trans ?_;decide +kernel))))
   (repeat ((first | with_reducible refine W.step (b:=false) ?_ | skip);simp only [go_sem,↓reduceIte,Nat.reduceAdd,Nat.reduceSub,Nat.reduceMul,Nat.reduceEqDiff,Nat.reduceLeDiff,Nat.reduceLT,Int.reduceLE,Int.reduceLT,Int.reduceToNat,Int.reduceEq];try with_reducible refine drawn hmix (by kernel_rfl) ?_))
   have hj1:Rg G' j=es++[(l[k],k)]:=by rw [hRi,if_pos rfl,←hgp]
   refine ⟨k+1,_,⟨hlt,rfl⟩,by show l.length - (k+1)<l.length - k;omega,?_⟩;rw [up1 (by omega),hstep];subst hn0 hb;refine own_G (G:=G) (j:=j) (nn:=2+G.length+1+1+1) (by rw [hil];exact hpos) (by rw [hil];omega) (fun i hi=>by rw [hRi,if_neg hi]) (by rw [hj1];simp) ?_ ?_ ?_ (fun i hij hr=>?_) ?_
   ·simp [getL,hj1]
   ·simp [getL];omega
   ·simp [getL,hj1,encEn]
   ·have h9:=rowsM_at (enc:=encEn) (b0:=2) (Rg_lt hr) hr
    have h8:=Rg_lt hr;rw [getL,if_neg (by omega),getL,if_neg (by omega),getL,if_neg (by omega),getL,if_neg (by omega),getL,if_neg (by omega),getL,if_neg (by omega),getL_del,if_neg (by omega)];exact h9
   ·simp [reT_cons,reT_nil,reF,reFL,ltA,ltL,ownH];omega
 ·(repeat ((first | with_reducible refine W.step (b:=false) ?_ | skip);simp only [go_sem,↓reduceIte,Nat.reduceAdd,Nat.reduceSub,Nat.reduceMul,Nat.reduceEqDiff,Nat.reduceLeDiff,Nat.reduceLT,Int.reduceLE,Int.reduceLT,Int.reduceToNat,Int.reduceEq,hlt];try with_reducible refine drawn hmix (by kernel_rfl) ?_))
  obtain rfl:k=l.length:=by omega
  rw [List.take_length];exact ⟨.inr rfl,[.any,.any,(.ptr 1 0),.any,.any,.any,.any,.any,.any,.any,.any,.any,.any,.any,.any,.any,.any,.any,.any,.any,.any,.any,.any,.any,.any,.any,.any,.any,.any,.any,.any,.any,.any,.any,.any,.any],VS.trans (seal_G (l':=[.any,.any,(.ptr 1 0),.any,.any,.any,.any,.any,.any,.any,.any,.any,.any,.any,.any,.any,.any,.any,.any,.any,.any,.any,.any,.any,.any,.any,.any,.any,.any,.any,.any,.any,.any,.any,.any,.any]) (allG_ne l) (by simp [frLF_cons,frLF_nil,frAF_any,frAF_self])) (VSdrop (by simp [ltB,ltL,ltA,getL,ltE_seal]) (by simp [keepT_cons,keepT_nil,ltA])),rfl⟩
attribute [go_sem] appL newsA isSlice
theorem getG_ins (G:Gr) (k:Ky) (e:En) (k':Ky):getG (insG G k e) k'=if k'=k then getG G k'++[e] else getG G k':=by
 have getR:∀ (x:Ky×List En) (G:Gr) (k:Ky),getG (x::G) k=if x.1=k then x.2 else getG G k:=by
  intro x G k;unfold getG idxG;rw [List.findIdx?_cons]
  by_cases h:x.1=k
  ·rw [if_pos h,decide_eq_true h];rfl
  ·rw [if_neg h,decide_eq_false h]
   cases G.findIdx? fun e=>decide (e.1=k) <;> rfl
 have insR:∀ (x:Ky×List En) (G:Gr),insG (x::G) k e=if x.1=k then (x.1,x.2++[e])::G else x::insG G k e:=by
  intro x G;unfold insG openG posG idxG;rw [List.findIdx?_cons]
  by_cases h:x.1=k
  ·rw [if_pos h,decide_eq_true h];rfl
  ·rw [if_neg h,decide_eq_false h]
   cases G.findIdx? fun e=>decide (e.1=k) <;> rfl
 induction G with
 | nil =>
   have h1:insG [] k e=[(k,[e])]:=rfl;have h2:getG [] k'=[]:=rfl;rw [h1,getR,h2]
   by_cases h:k'=k
   ·rw [if_pos h,if_pos h.symm];rfl
   ·rw [if_neg h,if_neg (fun e=>h e.symm)]
 | cons x G ih =>
   rw [insR,getR]
   by_cases h:x.1=k
   ·rw [if_pos h,getR]
    simp only
    by_cases h2:k'=k
    ·rw [if_pos h2,if_pos (h.trans h2.symm),if_pos (h.trans h2.symm)]
    ·rw [if_neg h2]
     have:¬x.1=k':=fun e=>h2 (e.symm.trans h);rw [if_neg this,if_neg this]
   ·rw [if_neg h,getR,ih]
    by_cases h3:x.1=k'
    ·have:¬k'=k:=fun e=>h (h3.trans e)
     rw [if_pos h3,if_neg this,if_pos h3]
    ·rw [if_neg h3,if_neg h3]
theorem getG_all (l:List Cx) (k:Ky):getG (allG l) k=l.zipIdx.filter fun e=>decide (keyM e.1=k):=by
 have:∀ (es:List En) (G:Gr),getG (es.foldl (fun G e=>insG G (keyM e.1) e) G) k=getG G k++es.filter fun e=>decide (keyM e.1=k):=by
  intro es
  induction es with
  | nil=>intro G;simp
  | cons e es ih =>
    intro G;rw [List.foldl_cons,ih,getG_ins,List.filter_cons]
    by_cases h:k=keyM e.1
    ·rw [if_pos h,decide_eq_true h.symm,if_pos rfl,List.append_assoc];rfl
    ·rw [if_neg h,decide_eq_false (fun e=>h e.symm)];simp
 have:=this l.zipIdx [];rw [show getG [] k=[] from rfl,List.nil_append] at this;exact this
abbrev memIx (G:Gr):ML:=[(0,.map (encG sealV4 0 G) G.length),(1,.cells [.mp 0])]
def memQ (G:Gr) (b:List Int) (acc:List Int):ML:=(0,.map (encG sealV4 0 G) G.length)::(1,.cells [.mp 0])::(2,.cells (b.map encU))::rowsM encZ 3 (fun _=>acc) 1
theorem reFE_seal (g:Nat→Nat):∀ (G:Gr) (o:Nat),reFE g (encG sealV4 o G)=encG sealV4 o G
 | [],_=>rfl
 | e::G,o=>by
   rw [encG,reFE,reFE_seal g G];rw [reF_id g (keyAg e.1) rfl,reF_id g (sealV4 o e.2) rfl]
theorem get3 {G:Gr} {b:List Int} {acc:List Int} {c:Nat} {k:Blk} (h:getL (memQ G b acc) c=some k):(c=0∧k=.map (encG sealV4 0 G) G.length)∨(c=1∧k=.cells [.mp 0])∨(c=2∧k=.cells (b.map encU))∨(c=3∧acc≠[]∧k=.cells (acc.flatMap encZ)):=by
 unfold memQ at h;rw [getL] at h
 split at h
 ·rename_i e;cases h;exact .inl ⟨e.symm,rfl⟩
 ·rw [getL] at h
  split at h
  ·rename_i e;cases h;exact .inr (.inl ⟨e.symm,rfl⟩)
  ·rw [getL] at h
   split at h
   ·rename_i e;cases h;exact .inr (.inr (.inl ⟨e.symm,rfl⟩))
   ·rw [rowsM_get] at h
    split at h
    ·rename_i e;cases h;exact .inr (.inr (.inr ⟨by omega,e.2.2,rfl⟩))
    ·cases h
theorem dropQ {GT:GTab} {G:Gr} {b acc:List Int} {l l':List AV} {m:ML} {n:Nat} (h0:getL m 0=some (.map (encG sealV4 0 G) G.length)) (h1:getL m 1=some (.cells [.mp 0])) (h2:getL m 2=some (.cells (b.map encU))) (h3:acc≠[]→getL m 3=some (.cells (acc.flatMap encZ))) (hl:keepT 4 l' l) :
 VS GT ⟨[],memL (memIx G),2⟩ (stL l m n) (stL l' (memQ G b acc) 4):=by
 refine VS.renF (fun c=>c) (fun _ _=>rfl) (fun _ h=>h) (by show 2≤4;decide) (fun _ _ _ _ _ _ h=>h) (fun c k hc=>?_) (keepT_re hl);rw [reFB_same];rcases get3 hc with ⟨rfl,rfl⟩ | ⟨rfl,rfl⟩ | ⟨rfl,rfl⟩ | ⟨rfl,hne,rfl⟩
 ·exact ⟨by decide,by rw [ltB,ltE_seal];trivial,h0⟩
 ·exact ⟨by decide,by simp [ltB,ltL,ltA],h1⟩
 ·exact ⟨by decide,by rw [ltB,ltL_U];trivial,h2⟩
 ·exact ⟨by decide,ltL_id _ _ (noIdsL_flat (fun _=>rfl) _),h3 hne⟩
theorem growQ {GT:GTab} {G:Gr} {b acc:List Int} {l l':List AV} {m:ML} {n nn:Nat} (hnn:4≤nn) (h0:getL m 0=some (.map (encG sealV4 0 G) G.length)) (h1:getL m 1=some (.cells [.mp 0])) (h2:getL m 2=some (.cells (b.map encU))) (h3:getL m nn=some (.cells (acc.flatMap encZ))) (hl:reT (ownH 3 0 nn) 4 l' l) :
 VS GT ⟨[],memL (memIx G),2⟩ (stL l m n) (stL l' (memQ G b acc) 4):=by
 have low:∀ c,c<3→ownH 3 0 nn c=c:=fun c hc=>ownH_low hc;have hi:ownH 3 0 nn 3=nn:=by unfold ownH;rw [if_pos rfl]
 refine VS.renF (ownH 3 0 nn) (fun c hc=>low c (Nat.lt_trans hc (by show 2<3;decide))) (fun c hc=>?_) (by show 2≤4;decide) (fun c c' k k' hc hc' e=>?_) (fun c k hc=>?_) hl
 ·have hc:2≤c:=hc
  show 2≤_;unfold ownH;split <;> omega
 ·have g1:c≤3:=by rcases get3 hc with ⟨rfl,-⟩ | ⟨rfl,-⟩ | ⟨rfl,-⟩ | ⟨rfl,-⟩ <;> decide
  have g2:c'≤3:=by rcases get3 hc' with ⟨rfl,-⟩ | ⟨rfl,-⟩ | ⟨rfl,-⟩ | ⟨rfl,-⟩ <;> decide
  unfold ownH at e
  split at e <;> split at e <;> omega
 ·rcases get3 hc with ⟨rfl,rfl⟩ | ⟨rfl,rfl⟩ | ⟨rfl,rfl⟩ | ⟨rfl,hne,rfl⟩
  ·exact ⟨by decide,by rw [ltB,ltE_seal];trivial,by rw [low 0 (by decide),h0,reFB,reFE_seal]⟩
  ·exact ⟨by decide,by simp [ltB,ltL,ltA],by rw [low 1 (by decide),h1,reFB,reFL,reFL,reF,low 0 (by decide)]⟩
  ·exact ⟨by decide,by rw [ltB,ltL_U];trivial,by rw [low 2 (by decide),h2,reFB,reFL_U]⟩
  ·exact ⟨by decide,ltL_id _ _ (noIdsL_flat (fun _=>rfl) _),by rw [hi,h3,reFB,reFL_id _ _ (noIdsL_flat (fun _=>rfl) _)]⟩
attribute [go_sem] appL newsA isSlice
theorem sortI_nil:PureN Tryz.prog gt0 107 [.g (.slice none 0 0)] (.g (.tuple #[])):=by
 refine PureN.ofC rfl ⟨_,Tryz.func107,rfl,by kernel_rfl⟩ fun w rargs ha=>?_;obtain ⟨v,vs,hr,hv,hvs⟩:=ha;obtain rfl:vs=[]:=hvs;obtain rfl:v=.slice none 0 0:=hv;have hra:rargs=#[.slice none 0 0]:=Array.toList_inj.1 hr;rw [hra];refine (Tryz.slices_Sort_int_none none 0 w).mono ?_;rintro e w' ⟨rfl,rfl⟩;exact ⟨rfl,Below.refl _ _⟩
theorem ze_ent:zeroO Tryz.prog 167=some [.g (.slice none 0 0),.g (.string ⟨#[]⟩),.g (.int .i64 0),.g (.slice none 0 0)]:=by kernel_rfl
theorem sz_ent:szO Tryz.prog 167=some 4:=by kernel_rfl
theorem fl_ent0:fldO Tryz.prog 167 0=some (0,90):=by kernel_rfl
theorem fl_ent1:fldO Tryz.prog 167 1=some (2,3):=by kernel_rfl
theorem fl_ent2:fldO Tryz.prog 167 2=some (3,25):=by kernel_rfl
attribute [go_sem] ze_ent sz_ent fl_ent0 fl_ent1 fl_ent2
def hitE (p:List Nod) (st:List Stt) (b:List Int) (n:Nat) (e:En):Bool:=(wordsC e.1).all (mayM b)&&isM p st e.1 n
theorem hit_step {p:List Nod} {st:List Stt} {b:List Int} {n:Nat} {es:List En} {i:Nat} (hi:i<es.length) (acc:List Int):acc++((es.take (i+1)).filter (hitE p st b n)).map (fun e=>(e.2:Int))=(acc++((es.take i).filter (hitE p st b n)).map fun e=>(e.2:Int))++if hitE p st b n es[i]=true then [(es[i].2:Int)] else []:=by
 rw [List.take_succ_eq_append_getElem hi,List.filter_append,List.map_append,←List.append_assoc]
 congr 1
 cases h:hitE p st b n es[i] with
 | true=>rw [if_pos rfl,List.filter_cons,h];rfl
 | false=>rw [if_neg (by decide),List.filter_cons,h];rfl
theorem ltA_own3 {acc:List Int}:ltA 4 (ownA 3 1 0 acc):=ltA_own (b0:=3) (N:=1) Nat.zero_lt_one
def rawZ (p:List Nod) (st:List Stt) (G:Gr) (b:List Int) (n:Nat) (KS:List Ky):List Int:=KS.flatMap fun k=>((getG G k).filter (hitE p st b n)).map fun e=>(e.2:Int)
theorem rowEn {l:List En} {k:Nat} (hk:k<l.length):((l.flatMap encEn).drop (k*4)).take 4=[.sl l[k].1.parts.length 2 (l[k].1.parts.flatMap encP),.g (.string l[k].1.pseudo),.g (.int .i64 (l[k].2:Int)),.sl (wordsC l[k].1).length 1 ((wordsC l[k].1).flatMap encN)]∧k*4+4≤(l.flatMap encEn).length :=
 ⟨row_part encEn 4 (fun _=>rfl) l k hk 0 4 (by decide),row_fit encEn 4 (fun _=>rfl) l k hk (j:=0) (by decide)⟩
theorem memIx_in {G:Gr} {b:List Int} {c:Nat} {x:Blk} (h:getL (memIx G) c=some x):getL [(0,Blk.map (encG sealV4 0 G) G.length),(1,.cells [.mp 0]),(2,.cells (b.map encU))] c=some x:=by
 rw [getL] at h ⊢
 split at h
 ·rename_i e;rw [if_pos e];exact h
 ·rename_i e
  rw [if_neg e];rw [getL] at h ⊢
  split at h
  ·rename_i e;rw [if_pos e];exact h
  ·cases h
def S3 (cs:List AV) (c:Nat):Option (List AV):=if c=3 then some cs else none
theorem seal_Q {GT:GTab} {G:Gr} {b:List Int} {cs l l':List AV} (hp:∀ a∈cs,plainA a=true) (hl:frLF (S3 cs) l' l) (hk:keepT 2 l' l') :
 VS GT ⟨[],memL (memIx G),2⟩ (stL l [(3,.cells cs),(0,.map (encG sealV4 0 G) G.length),(1,.cells [.mp 0]),(2,.cells (b.map encU))] 4) (stL l' (memIx G) 2):=by
 refine VS.trans (VS.sealF (m':=memIx G) (S3 cs) (fun c x hx=>?_) hl fun c x hc=>?_) (VS.pop (fun c x _ hc=>hc) hk)
 ·unfold S3 at hx
  split at hx
  ·rename_i e;cases hx;subst e;exact ⟨rfl,hp⟩
  ·cases hx
 ·have hne:c=0∨c=1:=by
   rw [getL] at hc
   split at hc
   ·rename_i e;exact .inl e.symm
   ·rw [getL] at hc
    split at hc
    ·rename_i e;exact .inr e.symm
    ·cases hc
  refine ⟨by unfold S3;rw [if_neg (by omega)],.inl ?_⟩;rw [getL,if_neg (by omega)];exact memIx_in hc
set_option maxRecDepth 100000 in
set_option maxHeartbeats 4000000 in
theorem match_no (G:Gr) (p:List Nod) (st:List Stt) (n:Int) (hp:OkPg p) (hno:(treeB p&&elemB p n)=false):CallM Tryz.prog gt0 [] (memIx G) 2 52 [.ptr 1 0,.sl p.length 5 (p.flatMap encNd),.sl st.length 2 (st.flatMap encSt),.g (.int .i64 n)] (.sl 0 1 []) (memIx G) 2:=by
 have HT:=tree_p p hp;have HE:=element_p p n;refine callM_of_w (c:=_) Tryz.func52 rfl (by kernel_rfl) ?_;simp only [Tryz.f52,List.replicate,List.length_cons,List.length_nil,Nat.reduceAdd,Nat.reduceSub,List.cons_append,List.nil_append]
 (repeat ((first | with_reducible refine W.step (b:=false) ?_ | skip);simp only [go_sem,↓reduceIte,Nat.reduceAdd,Nat.reduceSub,Nat.reduceMul,Nat.reduceEqDiff,Nat.reduceLeDiff,Nat.reduceLT,Int.reduceLE,Int.reduceLT,Int.reduceToNat,Int.reduceEq];try with_reducible refine drawn hmix (by kernel_rfl) ?_))
 refine AtCall.mk HT ?_
 cases ht:treeB p with
 | false =>
   (repeat ((first | with_reducible refine W.step (b:=false) ?_ | skip);simp only [go_sem,↓reduceIte,Nat.reduceAdd,Nat.reduceSub,Nat.reduceMul,Nat.reduceEqDiff,Nat.reduceLeDiff,Nat.reduceLT,Int.reduceLE,Int.reduceLT,Int.reduceToNat,Int.reduceEq];try with_reducible refine drawn hmix (by kernel_rfl) ?_))
   refine ⟨.inr rfl,[.any,.any,.any,.any,.any,.any,.any,.any,(.sl 0 1 []),.any,.any,.any,.any,.any,.any,.any,.any,.any,.any,.any,.any,.any,.any,.any,.any,.any,.any,.any,.any,.any,.any,.any,.any,.any,.any,.any,.any,.any,.any,.any,.any,.any,.any,.any,.any,.any,.any,.any,.any,.any,.any,.any,.any,.any,.any,.any,.any,.any,.any,.any,.any,.any,.any,.any,.any,.any,.any,.any,.any,.any,.any,.any,.any,.any,.any,.any,.any,.any,.any,.any],VS.weak ?_ ⟨.inl rfl,.inl rfl,trivial⟩,rfl⟩
   (repeat (first | refine ⟨_,_,rfl,wkA.any _,?_⟩ | refine ⟨_,_,rfl,wkA.nil 1,?_⟩));rfl
 | true =>
   rw [ht,Bool.true_and] at hno;rw [hno] at HE
   (repeat ((first | with_reducible refine W.step (b:=false) ?_ | skip);simp only [go_sem,↓reduceIte,Nat.reduceAdd,Nat.reduceSub,Nat.reduceMul,Nat.reduceEqDiff,Nat.reduceLeDiff,Nat.reduceLT,Int.reduceLE,Int.reduceLT,Int.reduceToNat,Int.reduceEq];try with_reducible refine drawn hmix (by kernel_rfl) ?_))
   refine AtCall.mk HE ?_
   (repeat ((first | with_reducible refine W.step (b:=false) ?_ | skip);simp only [go_sem,↓reduceIte,Nat.reduceAdd,Nat.reduceSub,Nat.reduceMul,Nat.reduceEqDiff,Nat.reduceLeDiff,Nat.reduceLT,Int.reduceLE,Int.reduceLT,Int.reduceToNat,Int.reduceEq];try with_reducible refine drawn hmix (by kernel_rfl) ?_))
   refine ⟨.inr rfl,[.any,.any,.any,.any,.any,.any,.any,.any,(.sl 0 1 []),.any,.any,.any,.any,.any,.any,.any,.any,.any,.any,.any,.any,.any,.any,.any,.any,.any,.any,.any,.any,.any,.any,.any,.any,.any,.any,.any,.any,.any,.any,.any,.any,.any,.any,.any,.any,.any,.any,.any,.any,.any,.any,.any,.any,.any,.any,.any,.any,.any,.any,.any,.any,.any,.any,.any,.any,.any,.any,.any,.any,.any,.any,.any,.any,.any,.any,.any,.any,.any,.any,.any],VS.weak ?_ ⟨.inl rfl,.inl rfl,trivial⟩,rfl⟩
   (repeat (first | refine ⟨_,_,rfl,wkA.any _,?_⟩ | refine ⟨_,_,rfl,wkA.nil 1,?_⟩));rfl
set_option maxRecDepth 100000 in
set_option maxHeartbeats 4000000 in
theorem match_yes (G:Gr) (p:List Nod) (st:List Stt) (n:Nat) (hp:OkPg p) (hs:st.length≤1000000) (htp:TinyPg p) (ht:treeB p=true) (he:elemB p n=true)
 (hG:∀ k,(getG G k).length≤1000000∧∀ e∈getG G k,okPT e.1.parts∧(wordsC e.1).length≤1000000∧∀ w∈wordsC e.1,w.size≤1000000) (hlen:(rawZ p st G (filterM p n) n (keysM p n)).length≤1000000) :
 CallM Tryz.prog gt0 [] (memIx G) 2 52 [.ptr 1 0,.sl p.length 5 (p.flatMap encNd),.sl st.length 2 (st.flatMap encSt),.g (.int .i64 (n:Int))] (.sl (rawZ p st G (filterM p n) n (keysM p n)).length 1 (((rawZ p st G (filterM p n) n (keysM p n)).mergeSort fun x y=>decide (x≤y)).flatMap encZ)) (memIx G) 2:=by
 have HT:=tree_p p hp;have HE:=element_p p n;have hT:=tree_P ht;have hn:=(elem_at.1 he).1;have HF:=filter_p p n hp htp hT hn;have HK:=keys_p p n hp hn;have HI:=fun (c:Cx) (hc:okPT c.parts)=>is_p p st n c hp hs hc;have hb:(filterM p n).length=4:=by unfold filterM;rw [fold_len];rfl
 rw [ht] at HT;rw [he] at HE;simp only [ht,Bool.true_and] at HI;refine callM_of_w (c:=_) Tryz.func52 rfl (by kernel_rfl) ?_;simp only [Tryz.f52,List.replicate,List.length_cons,List.length_nil,Nat.reduceAdd,Nat.reduceSub,List.cons_append,List.nil_append];have hkl:(keysM p n).length≤1000010:=by
  unfold keysM;have h1:=classes_len (n:=(n:Int)) hp;have h2:(setM (classesM p n)).length≤(classesM p n).length:=by
   unfold setM;have:=Lib.compact_length_le (sortM ((classesM p n).map sOf));rw [sortM_len,List.length_map] at this;rw [List.length_map];exact this
  simp only [List.length_append,List.length_cons,List.length_nil,List.length_map]
  split <;> simp only [List.length_cons,List.length_nil] <;> omega
 generalize filterM p n=b at *;generalize keysM p n=KS at *;have x4:(b.map encU).length=4:=by rw [List.length_map];exact hb
 have tk:(b.map encU).take 4=b.map encU:=List.take_of_length_le (by omega);have ce:(b.map encU).all isCell=true:=by rw [List.all_map];exact List.all_eq_true.2 fun _ _=>rfl
 (repeat ((first | with_reducible refine W.step (b:=false) ?_ | skip);simp only [go_sem,↓reduceIte,Nat.reduceAdd,Nat.reduceSub,Nat.reduceMul,Nat.reduceEqDiff,Nat.reduceLeDiff,Nat.reduceLT,Int.reduceLE,Int.reduceLT,Int.reduceToNat,Int.reduceEq];try with_reducible refine drawn hmix (by kernel_rfl) ?_))
 refine AtCall.mk HT ?_
 (repeat ((first | with_reducible refine W.step (b:=false) ?_ | skip);simp only [go_sem,↓reduceIte,Nat.reduceAdd,Nat.reduceSub,Nat.reduceMul,Nat.reduceEqDiff,Nat.reduceLeDiff,Nat.reduceLT,Int.reduceLE,Int.reduceLT,Int.reduceToNat,Int.reduceEq];try with_reducible refine drawn hmix (by kernel_rfl) ?_))
 refine AtCall.mk HE ?_
 (repeat ((first | with_reducible refine W.step (b:=false) ?_ | skip);simp only [go_sem,↓reduceIte,Nat.reduceAdd,Nat.reduceSub,Nat.reduceMul,Nat.reduceEqDiff,Nat.reduceLeDiff,Nat.reduceLT,Int.reduceLE,Int.reduceLT,Int.reduceToNat,Int.reduceEq];try with_reducible refine drawn hmix (by kernel_rfl) ?_))
 refine AtCall.mk HF ?_
 (repeat ((first | with_reducible refine W.step (b:=false) ?_ | skip);simp only [go_sem,↓reduceIte,Nat.reduceAdd,Nat.reduceSub,Nat.reduceMul,Nat.reduceEqDiff,Nat.reduceLeDiff,Nat.reduceLT,Int.reduceLE,Int.reduceLT,Int.reduceToNat,Int.reduceEq,x4,tk,ce];try with_reducible refine drawn hmix (by kernel_rfl) ?_))
 refine AtCall.mk HK ?_
 (repeat ((first | with_reducible refine W.step (b:=false) ?_ | skip);simp only [go_sem,↓reduceIte,Nat.reduceAdd,Nat.reduceSub,Nat.reduceMul,Nat.reduceEqDiff,Nat.reduceLeDiff,Nat.reduceLT,Int.reduceLE,Int.reduceLT,Int.reduceToNat,Int.reduceEq];try with_reducible refine drawn hmix (by kernel_rfl) ?_))
 obtain ⟨R,hR⟩:∃ R,rawZ p st G b n KS=R:=⟨_,rfl⟩;rw [hR] at hlen ⊢;have hR:R=[]++rawZ p st G b n KS:=hR.symm
 refine W.loop (s1:=stL [(.ptr 1 0),(.sl p.length 5 (p.flatMap encNd)),(.sl st.length 2 (st.flatMap encSt)),(.g (.int .i64 (n:Int))),.any,.any,.any,.any,(.g (.slice none 0 0)),(ownA 3 1 0 ([])),(.ptr 2 0),.any,.any,.any,.any,.any,.any,.any,.any,.any,.any,.any,.any,.any,.any,.any,.any,.any,.any,.any,.any,.any,.any,.any,.any,(.sl KS.length 2 (KS.flatMap encKy)),(.g (.int .i64 (KS.length:Int))),(.g (.int .i64 ((0:Nat):Int))),.any,.any,.any,.any,.any,.any,.any,.any,.any,.any,.any,.any,.any,.any,.any,.any,.any,.any,.any,.any,.any,.any,.any,.any,.any,.any,.any,.any,.any,.any,.any,.any,.any,.any,.any,.any,.any,.any,.any,.any,.any,.any] (memQ G b ([])) 4)
  (fun (z:List Int×Nat) t=>(z.2≤KS.length∧R=z.1++rawZ p st G b n (KS.drop z.2))∧t=stL [(.ptr 1 0),(.sl p.length 5 (p.flatMap encNd)),(.sl st.length 2 (st.flatMap encSt)),(.g (.int .i64 (n:Int))),.any,.any,.any,.any,(.g (.slice none 0 0)),(ownA 3 1 0 (z.1)),(.ptr 2 0),.any,.any,.any,.any,.any,.any,.any,.any,.any,.any,.any,.any,.any,.any,.any,.any,.any,.any,.any,.any,.any,.any,.any,.any,(.sl KS.length 2 (KS.flatMap encKy)),(.g (.int .i64 (KS.length:Int))),(.g (.int .i64 (z.2:Int))),.any,.any,.any,.any,.any,.any,.any,.any,.any,.any,.any,.any,.any,.any,.any,.any,.any,.any,.any,.any,.any,.any,.any,.any,.any,.any,.any,.any,.any,.any,.any,.any,.any,.any,.any,.any,.any,.any,.any,.any,.any,.any] (memQ G b (z.1)) 4) (fun z=>KS.length - z.2) ([],0) ⟨⟨Nat.zero_le _,hR⟩,rfl⟩ ?_ ?_
 ·exact dropQ (by simp [getL]) (by simp [getL]) (by simp [getL]) (fun h=>absurd rfl h) (by simp [keepT_cons,keepT_nil,ltA,ltL,own_nil])
 rintro ⟨acc,j⟩ t ⟨⟨hj,hR⟩,rfl⟩;simp only at hj hR
 by_cases hlt:j<KS.length
 ·obtain ⟨s1,s2⟩:=rowKy hlt
  have hlook:=look_G KS[j] G G.length;simp only [keyAg] at hlook;rw [List.drop_eq_getElem_cons hlt] at hR;have hR:R=(acc++((getG G KS[j]).filter (hitE p st b n)).map fun e=>(e.2:Int))++rawZ p st G b n (KS.drop (j+1)):=by
   rw [hR,List.append_assoc];rfl
  cases hix:idxG G KS[j] with
  | none =>
    rw [hix] at hlook;have hg:getG G KS[j]=[]:=by unfold getG;rw [hix]
    rw [hg,List.filter_nil,List.map_nil,List.append_nil] at hR
    (repeat ((first | with_reducible refine W.step (b:=true) ?_ | skip);simp only [go_sem,↓reduceIte,Nat.reduceAdd,Nat.reduceSub,Nat.reduceMul,Nat.reduceEqDiff,Nat.reduceLeDiff,Nat.reduceLT,Int.reduceLE,Int.reduceLT,Int.reduceToNat,Int.reduceEq,memQ,hlt,s1,s2,hlook];(try with_reducible refine drawn hmix (by kernel_rfl) ?_);try with_reducible refine ⟨by kernel_rfl,?_⟩))
    refine W.loop (s1:=stL [(.ptr 1 0),(.sl p.length 5 (p.flatMap encNd)),(.sl st.length 2 (st.flatMap encSt)),(.g (.int .i64 (n:Int))),.any,.any,.any,.any,(.g (.slice none 0 0)),(ownA 3 1 0 (acc)),(.ptr 2 0),.any,.any,.any,.any,.any,.any,.any,.any,.any,.any,.any,.any,.any,.any,.any,.any,.any,.any,.any,.any,.any,.any,.any,.any,(.sl KS.length 2 (KS.flatMap encKy)),(.g (.int .i64 (KS.length:Int))),(.g (.int .i64 (j:Int))),.any,.any,.any,.any,.any,.any,.any,.any,(.g (.slice none 0 0)),(.g (.int .i64 0)),(.g (.int .i64 0)),.any,.any,.any,.any,.any,.any,.any,.any,.any,.any,.any,.any,.any,.any,.any,.any,.any,.any,.any,.any,.any,.any,.any,.any,.any,.any,.any,.any,.any,.any,.any] (memQ G b acc) 4) (fun (_:Unit) t=>t=stL [(.ptr 1 0),(.sl p.length 5 (p.flatMap encNd)),(.sl st.length 2 (st.flatMap encSt)),(.g (.int .i64 (n:Int))),.any,.any,.any,.any,(.g (.slice none 0 0)),(ownA 3 1 0 (acc)),(.ptr 2 0),.any,.any,.any,.any,.any,.any,.any,.any,.any,.any,.any,.any,.any,.any,.any,.any,.any,.any,.any,.any,.any,.any,.any,.any,(.sl KS.length 2 (KS.flatMap encKy)),(.g (.int .i64 (KS.length:Int))),(.g (.int .i64 (j:Int))),.any,.any,.any,.any,.any,.any,.any,.any,(.g (.slice none 0 0)),(.g (.int .i64 0)),(.g (.int .i64 0)),.any,.any,.any,.any,.any,.any,.any,.any,.any,.any,.any,.any,.any,.any,.any,.any,.any,.any,.any,.any,.any,.any,.any,.any,.any,.any,.any,.any,.any,.any,.any] (memQ G b acc) 4) (fun _=>0) () rfl (dropQ (by simp [getL]) (by simp [getL]) (by simp [getL]) (fun h=>by simp [getL,rows_one h]) (by simp [keepT_cons,keepT_nil,ltA,ltL,ltA_own3])) ?_;rintro _ t rfl
    (repeat ((first | with_reducible refine W.step (b:=false) ?_ | skip);simp only [go_sem,↓reduceIte,Nat.reduceAdd,Nat.reduceSub,Nat.reduceMul,Nat.reduceEqDiff,Nat.reduceLeDiff,Nat.reduceLT,Int.reduceLE,Int.reduceLT,Int.reduceToNat,Int.reduceEq];try with_reducible refine drawn hmix (by kernel_rfl) ?_))
    refine ⟨(acc,j+1),_,⟨⟨hlt,hR⟩,rfl⟩,by show KS.length - (j+1)<KS.length - j;omega,?_⟩;rw [up1 (by omega)];exact VS.tm (by simp [leL])
  | some g =>
    rw [hix] at hlook;obtain ⟨hes,hin⟩:=hG KS[j];generalize getG G KS[j]=es at *
    (repeat ((first | with_reducible refine W.step (b:=true) ?_ | skip);simp only [go_sem,↓reduceIte,Nat.reduceAdd,Nat.reduceSub,Nat.reduceMul,Nat.reduceEqDiff,Nat.reduceLeDiff,Nat.reduceLT,Int.reduceLE,Int.reduceLT,Int.reduceToNat,Int.reduceEq,memQ,hlt,s1,s2,hlook];(try with_reducible refine drawn hmix (by kernel_rfl) ?_);try with_reducible refine ⟨by kernel_rfl,?_⟩))
    refine W.loop (s1:=stL [(.ptr 1 0),(.sl p.length 5 (p.flatMap encNd)),(.sl st.length 2 (st.flatMap encSt)),(.g (.int .i64 (n:Int))),.any,.any,.any,.any,(.g (.slice none 0 0)),(ownA 3 1 0 (acc)),(.ptr 2 0),.any,.any,.any,.any,.any,.any,.any,.any,.any,.any,.any,.any,.any,.any,.any,.any,.any,.any,.any,.any,.any,.any,.any,.any,(.sl KS.length 2 (KS.flatMap encKy)),(.g (.int .i64 (KS.length:Int))),(.g (.int .i64 (j:Int))),.any,.any,.any,.any,.any,.any,.any,.any,(.sl es.length 4 (es.flatMap encEn)),(.g (.int .i64 (es.length:Int))),(.g (.int .i64 ((0:Nat):Int))),.any,.any,.any,.any,.any,.any,.any,.any,.any,.any,.any,.any,.any,.any,.any,.any,.any,.any,.any,.any,.any,.any,.any,.any,.any,.any,.any,.any,.any,.any,.any] (memQ G b (acc)) 4)
     (fun (z:List Int×Nat) t=>(z.2≤es.length∧z.1=acc++((es.take z.2).filter (hitE p st b n)).map fun e=>(e.2:Int))∧t=stL [(.ptr 1 0),(.sl p.length 5 (p.flatMap encNd)),(.sl st.length 2 (st.flatMap encSt)),(.g (.int .i64 (n:Int))),.any,.any,.any,.any,(.g (.slice none 0 0)),(ownA 3 1 0 (z.1)),(.ptr 2 0),.any,.any,.any,.any,.any,.any,.any,.any,.any,.any,.any,.any,.any,.any,.any,.any,.any,.any,.any,.any,.any,.any,.any,.any,(.sl KS.length 2 (KS.flatMap encKy)),(.g (.int .i64 (KS.length:Int))),(.g (.int .i64 (j:Int))),.any,.any,.any,.any,.any,.any,.any,.any,(.sl es.length 4 (es.flatMap encEn)),(.g (.int .i64 (es.length:Int))),(.g (.int .i64 (z.2:Int))),.any,.any,.any,.any,.any,.any,.any,.any,.any,.any,.any,.any,.any,.any,.any,.any,.any,.any,.any,.any,.any,.any,.any,.any,.any,.any,.any,.any,.any,.any,.any] (memQ G b (z.1)) 4) (fun z=>es.length - z.2) (acc,0) ⟨⟨Nat.zero_le _,by simp⟩,rfl⟩ ?_ ?_
    ·exact dropQ (by simp [getL]) (by simp [getL]) (by simp [getL]) (fun h=>by simp [getL,rows_one h]) (by simp [keepT_cons,keepT_nil,ltA,ltL,ltA_own3])
    rintro ⟨acc2,i⟩ t ⟨⟨hi,hA⟩,rfl⟩;simp only at hi hA
    by_cases hli:i<es.length
    ·obtain ⟨q1,q2⟩:=rowEn hli
     obtain ⟨c1,c2,c3⟩:=hin _ (List.getElem_mem hli);have hst:=hit_step (p:=p) (st:=st) (b:=b) (n:=n) hli acc;rw [←hA] at hst;have hal:acc2.length≤1000000:=by
      have h1:(((es.take i).filter (hitE p st b n)).map fun e=>(e.2:Int)).length≤((es.filter (hitE p st b n)).map fun e=>(e.2:Int)).length:=by
       rw [List.length_map,List.length_map];exact ((List.take_sublist i es).filter _).length_le
      have h2:=congrArg List.length hR;rw [List.length_append,List.length_append] at h2;rw [hA,List.length_append];omega
     have hhit:hitE p st b n es[i]=((wordsC es[i].1).all (mayM b)&&isM p st es[i].1 n):=rfl;rw [hhit] at hst;clear hhit;generalize es[i].1=c at *;generalize es[i].2=at9 at *
     (repeat ((first | with_reducible refine W.step (b:=false) ?_ | skip);simp only [go_sem,↓reduceIte,Nat.reduceAdd,Nat.reduceSub,Nat.reduceMul,Nat.reduceEqDiff,Nat.reduceLeDiff,Nat.reduceLT,Int.reduceLE,Int.reduceLT,Int.reduceToNat,Int.reduceEq,memQ,hli,q1,q2];try with_reducible refine drawn hmix (by kernel_rfl) ?_))
     refine W.loop (s1:=stL [(.ptr 1 0),(.sl p.length 5 (p.flatMap encNd)),(.sl st.length 2 (st.flatMap encSt)),(.g (.int .i64 (n:Int))),.any,.any,.any,.any,(.g (.slice none 0 0)),(ownA 3 1 0 (acc2)),(.ptr 2 0),.any,.any,.any,(.ptr 4 0),.any,.any,.any,.any,.any,.any,.any,.any,.any,.any,.any,.any,.any,.any,.any,.any,.any,.any,.any,.any,(.sl KS.length 2 (KS.flatMap encKy)),(.g (.int .i64 (KS.length:Int))),(.g (.int .i64 (j:Int))),.any,.any,.any,.any,.any,.any,.any,.any,(.sl es.length 4 (es.flatMap encEn)),(.g (.int .i64 (es.length:Int))),(.g (.int .i64 (i:Int))),.any,.any,.any,.any,(.sl (wordsC c).length 1 ((wordsC c).flatMap encN)),(.g (.int .i64 ((wordsC c).length:Int))),(.g (.int .i64 ((0:Nat):Int))),.any,.any,.any,.any,.any,.any,.any,.any,.any,.any,.any,.any,.any,.any,.any,.any,.any,.any,.any,.any,.any,.any,.any,.any] ((4,.cells [.sl c.parts.length 2 (c.parts.flatMap encP),.g (.string c.pseudo),.g (.int .i64 (at9:Int)),.sl (wordsC c).length 1 ((wordsC c).flatMap encN)])::memQ G b (acc2)) 5)
      (fun (w:Nat) t=>(w≤(wordsC c).length∧((wordsC c).take w).all (mayM b)=true)∧t=stL [(.ptr 1 0),(.sl p.length 5 (p.flatMap encNd)),(.sl st.length 2 (st.flatMap encSt)),(.g (.int .i64 (n:Int))),.any,.any,.any,.any,(.g (.slice none 0 0)),(ownA 3 1 0 (acc2)),(.ptr 2 0),.any,.any,.any,(.ptr 4 0),.any,.any,.any,.any,.any,.any,.any,.any,.any,.any,.any,.any,.any,.any,.any,.any,.any,.any,.any,.any,(.sl KS.length 2 (KS.flatMap encKy)),(.g (.int .i64 (KS.length:Int))),(.g (.int .i64 (j:Int))),.any,.any,.any,.any,.any,.any,.any,.any,(.sl es.length 4 (es.flatMap encEn)),(.g (.int .i64 (es.length:Int))),(.g (.int .i64 (i:Int))),.any,.any,.any,.any,(.sl (wordsC c).length 1 ((wordsC c).flatMap encN)),(.g (.int .i64 ((wordsC c).length:Int))),(.g (.int .i64 (w:Int))),.any,.any,.any,.any,.any,.any,.any,.any,.any,.any,.any,.any,.any,.any,.any,.any,.any,.any,.any,.any,.any,.any,.any,.any] ((4,.cells [.sl c.parts.length 2 (c.parts.flatMap encP),.g (.string c.pseudo),.g (.int .i64 (at9:Int)),.sl (wordsC c).length 1 ((wordsC c).flatMap encN)])::memQ G b (acc2)) 5) (fun w=>(wordsC c).length - w) 0 ⟨⟨Nat.zero_le _,rfl⟩,rfl⟩ ?_ ?_
     ·exact VS.tm (by simp [leL])
     rintro w t ⟨⟨hw,hall⟩,rfl⟩
     by_cases hlw:w<(wordsC c).length
     ·have rw9:=rowN hlw
      have HM:=may_p b hb (wordsC c)[w] (c3 _ (List.getElem_mem hlw))
      (repeat ((first | with_reducible refine W.step (b:=false) ?_ | skip);simp only [go_sem,↓reduceIte,Nat.reduceAdd,Nat.reduceSub,Nat.reduceMul,Nat.reduceEqDiff,Nat.reduceLeDiff,Nat.reduceLT,Int.reduceLE,Int.reduceLT,Int.reduceToNat,Int.reduceEq,memQ,hlw,rw9,x4,tk];try with_reducible refine drawn hmix (by kernel_rfl) ?_))
      refine AtCall.mk HM ?_
      cases hm:mayM b (wordsC c)[w] with
      | true =>
        (repeat ((first | with_reducible refine W.step (b:=false) ?_ | skip);simp only [go_sem,↓reduceIte,Nat.reduceAdd,Nat.reduceSub,Nat.reduceMul,Nat.reduceEqDiff,Nat.reduceLeDiff,Nat.reduceLT,Int.reduceLE,Int.reduceLT,Int.reduceToNat,Int.reduceEq];try with_reducible refine drawn hmix (by kernel_rfl) ?_))
        refine ⟨w+1,_,⟨⟨hlw,by rw [List.take_succ_eq_append_getElem hlw,List.all_append,hall];simp [hm]⟩,rfl⟩,by show (wordsC c).length - (w+1)<(wordsC c).length - w;omega,?_⟩;rw [up1 (by omega)];exact VS.tm (by simp [leL])
      | false =>
        have hno:((wordsC c).all (mayM b)&&isM p st c n)=false:=by
         rw [List.all_eq_false.2 ⟨_,List.getElem_mem hlw,by rw [hm];decide⟩];rfl
        rw [hno,if_neg (by decide),List.append_nil] at hst
        (repeat ((first | with_reducible refine W.step (b:=false) ?_ | skip);simp only [go_sem,↓reduceIte,Nat.reduceAdd,Nat.reduceSub,Nat.reduceMul,Nat.reduceEqDiff,Nat.reduceLeDiff,Nat.reduceLT,Int.reduceLE,Int.reduceLT,Int.reduceToNat,Int.reduceEq];try with_reducible refine drawn hmix (by kernel_rfl) ?_))
        refine ⟨(acc2,i+1),_,⟨⟨hli,hst.symm⟩,rfl⟩,by show es.length - (i+1)<es.length - i;omega,?_⟩;rw [up1 (by omega)];exact dropQ (by simp [getL]) (by simp [getL]) (by simp [getL]) (fun h=>by simp [getL,rows_one h]) (by simp [keepT_cons,keepT_nil,ltA,ltL,ltA_own3])
     ·(repeat ((first | with_reducible refine W.step (b:=false) ?_ | skip);simp only [go_sem,↓reduceIte,Nat.reduceAdd,Nat.reduceSub,Nat.reduceMul,Nat.reduceEqDiff,Nat.reduceLeDiff,Nat.reduceLT,Int.reduceLE,Int.reduceLT,Int.reduceToNat,Int.reduceEq,memQ,hlw];try with_reducible refine drawn hmix (by kernel_rfl) ?_))
      refine AtCall.mk (HI c c1) ?_;have hwl:w=(wordsC c).length:=by omega
      rw [hwl,List.take_length] at hall;rw [hall,Bool.true_and] at hst
      cases hm:isM p st c n with
      | false =>
        rw [hm,if_neg (by decide),List.append_nil] at hst
        (repeat ((first | with_reducible refine W.step (b:=false) ?_ | skip);simp only [go_sem,↓reduceIte,Nat.reduceAdd,Nat.reduceSub,Nat.reduceMul,Nat.reduceEqDiff,Nat.reduceLeDiff,Nat.reduceLT,Int.reduceLE,Int.reduceLT,Int.reduceToNat,Int.reduceEq];try with_reducible refine drawn hmix (by kernel_rfl) ?_))
        refine ⟨(acc2,i+1),_,⟨⟨hli,hst.symm⟩,rfl⟩,by show es.length - (i+1)<es.length - i;omega,?_⟩;rw [up1 (by omega)];exact dropQ (by simp [getL]) (by simp [getL]) (by simp [getL]) (fun h=>by simp [getL,rows_one h]) (by simp [keepT_cons,keepT_nil,ltA,ltL,ltA_own3])
      | true =>
        rw [hm,if_pos rfl] at hst
        by_cases hnil:acc2=[]
        ·subst hnil
         (repeat ((first | with_reducible refine W.step (b:=false) ?_ | skip);simp only [go_sem,↓reduceIte,Nat.reduceAdd,Nat.reduceSub,Nat.reduceMul,Nat.reduceEqDiff,Nat.reduceLeDiff,Nat.reduceLT,Int.reduceLE,Int.reduceLT,Int.reduceToNat,Int.reduceEq,own_nil,rows_nil];try with_reducible refine drawn hmix (by kernel_rfl) ?_))
         refine ⟨([]++[(at9:Int)],i+1),_,⟨⟨hli,hst.symm⟩,rfl⟩,by show es.length - (i+1)<es.length - i;omega,?_⟩;rw [up1 (by omega)];exact growQ (nn:=6) (by decide) (by simp [getL]) (by simp [getL]) (by simp [getL]) (by simp [getL,encZ]) (by simp [reT_cons,reT_nil,reF,reFL,ltA,ltL,ownH,ownA])
        ·have hro:=rows_one (enc:=encZ) (b0:=3) hnil
         have ho:=ownA_pos (b0:=3) (sz:=1) (j:=0) hnil;have y1:(acc2.length+1≤acc2.length)=False:=eq_false (by omega);have y2:(acc2.length+1)*9≤17179869184:=by omega
         have hlz:=lenZ acc2
         (repeat ((first | with_reducible refine W.step (b:=false) ?_ | skip);simp only [go_sem,↓reduceIte,Nat.reduceAdd,Nat.reduceSub,Nat.reduceMul,Nat.reduceEqDiff,Nat.reduceLeDiff,Nat.reduceLT,Int.reduceLE,Int.reduceLT,Int.reduceToNat,Int.reduceEq,hro,ho,y1,y2,hlz];try with_reducible refine drawn hmix (by kernel_rfl) ?_))
         refine ⟨(acc2++[(at9:Int)],i+1),_,⟨⟨hli,hst.symm⟩,rfl⟩,by show es.length - (i+1)<es.length - i;omega,?_⟩;rw [up1 (by omega)];exact growQ (nn:=6) (by decide) (by simp [getL]) (by simp [getL]) (by simp [getL]) (by rw [List.flatMap_append];simp [getL,encZ]) (by rw [ownA_pos (by simp)];simp [reT_cons,reT_nil,reF,reFL,ltA,ltL,ownH])
    ·(repeat ((first | with_reducible refine W.step (b:=false) ?_ | skip);simp only [go_sem,↓reduceIte,Nat.reduceAdd,Nat.reduceSub,Nat.reduceMul,Nat.reduceEqDiff,Nat.reduceLeDiff,Nat.reduceLT,Int.reduceLE,Int.reduceLT,Int.reduceToNat,Int.reduceEq,hli];try with_reducible refine drawn hmix (by kernel_rfl) ?_))
     have hie:i=es.length:=by omega
     rw [hie,List.take_length] at hA;rw [←hA] at hR;refine ⟨(acc2,j+1),_,⟨⟨hlt,hR⟩,rfl⟩,by show KS.length - (j+1)<KS.length - j;omega,?_⟩;rw [up1 (by omega)];exact VS.tm (by simp [leL])
 ·have hje:j=KS.length:=by omega
  rw [hje,List.drop_length] at hR;have hR:R=acc:=by rw [hR];exact List.append_nil _
  subst hR
  by_cases hnil:R=[]
  ·subst hnil
   (repeat ((first | with_reducible refine W.step (b:=false) ?_ | skip);simp only [go_sem,↓reduceIte,Nat.reduceAdd,Nat.reduceSub,Nat.reduceMul,Nat.reduceEqDiff,Nat.reduceLeDiff,Nat.reduceLT,Int.reduceLE,Int.reduceLT,Int.reduceToNat,Int.reduceEq,memQ,hlt,own_nil,rows_nil];try with_reducible refine drawn hmix (by kernel_rfl) ?_))
   refine AtCall.mk sortI_nil ?_
   (repeat ((first | with_reducible refine W.step (b:=false) ?_ | skip);simp only [go_sem,↓reduceIte,Nat.reduceAdd,Nat.reduceSub,Nat.reduceMul,Nat.reduceEqDiff,Nat.reduceLeDiff,Nat.reduceLT,Int.reduceLE,Int.reduceLT,Int.reduceToNat,Int.reduceEq];try with_reducible refine drawn hmix (by kernel_rfl) ?_))
   refine ⟨.inr rfl,[.any,.any,.any,.any,.any,.any,.any,.any,(.sl 0 1 []),.any,.any,.any,.any,.any,.any,.any,.any,.any,.any,.any,.any,.any,.any,.any,.any,.any,.any,.any,.any,.any,.any,.any,.any,.any,.any,.any,.any,.any,.any,.any,.any,.any,.any,.any,.any,.any,.any,.any,.any,.any,.any,.any,.any,.any,.any,.any,.any,.any,.any,.any,.any,.any,.any,.any,.any,.any,.any,.any,.any,.any,.any,.any,.any,.any,.any,.any,.any,.any,.any,.any],VS.trans (VS.weak (m':=[(0,.map (encG sealV4 0 G) G.length),(1,.cells [.mp 0]),(2,.cells (b.map encU))]) (l':=[.any,.any,.any,.any,.any,.any,.any,.any,(.sl 0 1 []),.any,.any,.any,.any,.any,.any,.any,.any,.any,.any,.any,.any,.any,.any,.any,.any,.any,.any,.any,.any,.any,.any,.any,.any,.any,.any,.any,.any,.any,.any,.any,.any,.any,.any,.any,.any,.any,.any,.any,.any,.any,.any,.any,.any,.any,.any,.any,.any,.any,.any,.any,.any,.any,.any,.any,.any,.any,.any,.any,.any,.any,.any,.any,.any,.any,.any,.any,.any,.any,.any,.any]) ?_ ⟨.inl rfl,.inl rfl,.inl rfl,trivial⟩) (VS.pop (fun c x hn hc=>?_) (by simp [keepT_cons,keepT_nil,ltA])),by simp [resL,encZ];rfl⟩
   ·(repeat (first | refine ⟨_,_,rfl,wkA.any _,?_⟩ | refine ⟨_,_,rfl,wkA.nil 1,?_⟩));rfl
   ·exact memIx_in (b:=b) hc
  ·have hro:=rows_one (enc:=encZ) (b0:=3) hnil
   have ho:=ownA_pos (b0:=3) (sz:=1) (j:=0) hnil
   (repeat ((first | with_reducible refine W.step (b:=false) ?_ | skip);simp only [go_sem,↓reduceIte,Nat.reduceAdd,Nat.reduceSub,Nat.reduceMul,Nat.reduceEqDiff,Nat.reduceLeDiff,Nat.reduceLT,Int.reduceLE,Int.reduceLT,Int.reduceToNat,Int.reduceEq,memQ,hlt,hro,ho];try with_reducible refine drawn hmix (by kernel_rfl) ?_))
   refine AtCall.mem (m':=[(3,.cells ((R.mergeSort fun x y=>decide (x≤y)).flatMap encZ)),(0,.map (encG sealV4 0 G) G.length),(1,.cells [.mp 0]),(2,.cells (b.map encU))]) (CallM.one (b:=3) (sortI_m R (by omega)) (by decide) rfl (noIdsL_flat (fun _=>rfl) _) (noIdsL_flat (fun _=>rfl) _)) ?_;simp only [reF,fnm,lk,reFL]
   (repeat ((first | with_reducible refine W.step (b:=false) ?_ | skip);simp only [go_sem,↓reduceIte,Nat.reduceAdd,Nat.reduceSub,Nat.reduceMul,Nat.reduceEqDiff,Nat.reduceLeDiff,Nat.reduceLT,Int.reduceLE,Int.reduceLT,Int.reduceToNat,Int.reduceEq];try with_reducible refine drawn hmix (by kernel_rfl) ?_))
   exact ⟨.inr rfl,[.any,.any,.any,.any,.any,.any,.any,.any,(.sl R.length 1 ((R.mergeSort fun x y=>decide (x≤y)).flatMap encZ)),.any,.any,.any,.any,.any,.any,.any,.any,.any,.any,.any,.any,.any,.any,.any,.any,.any,.any,.any,.any,.any,.any,.any,.any,.any,.any,.any,.any,.any,.any,.any,.any,.any,.any,.any,.any,.any,.any,.any,.any,.any,.any,.any,.any,.any,.any,.any,.any,.any,.any,.any,.any,.any,.any,.any,.any,.any,.any,.any,.any,.any,.any,.any,.any,.any,.any,.any,.any,.any,.any,.any],seal_Q (fun a ha=>by obtain ⟨x,-,hx⟩:=List.mem_flatMap.1 ha;simp [encZ] at hx;subst hx;rfl) (by
    simp only [frLF_cons,frLF_nil,frAF_any,true_and,and_true]
    exact .inr (.inr ⟨3,_,0,R.length,1,R.length,rfl,rfl,by rw [List.drop_zero,List.take_of_length_le (by rw [lenZ,List.length_mergeSort];omega)],by rw [lenZ,List.length_mergeSort];omega⟩)) (by simp [keepT_cons,keepT_nil,ltA]),rfl⟩
attribute [go_sem] appL newsA isSlice
def ansM (p:List Nod) (st:List Stt) (l:List Cx) (n:Int):List Int:=if (treeB p&&elemB p n)=true then (idxs (fun c=>isM p st c n) l).map fun i:Nat=>(i:Int) else []
theorem raw_eq (p:List Nod) (st:List Stt) (l:List Cx) (n:Nat):rawZ p st (allG l) (filterM p n) n (keysM p n)=(rawM p st l n).map fun i:Nat=>(i:Int):=by
 unfold rawZ rawM;rw [List.map_flatMap]
 congr 1
 funext k
 rw [getG_all,List.map_map]
 rfl
theorem raw_sorted (p:List Nod) (st:List Stt) (l:List Cx) (n:Nat):((rawZ p st (allG l) (filterM p n) n (keysM p n)).mergeSort fun x y=>decide (x≤y))=(idxs (fun c=>isM p st c n) l).map fun i:Nat=>(i:Int):=by
 rw [raw_eq];have h1:=List.pairwise_mergeSort (le:=fun (x y:Int)=>decide (x≤y)) (fun a b c h k=>by simp only [decide_eq_true_eq] at h k ⊢;omega) (fun a b=>by simp only [Bool.or_eq_true,decide_eq_true_eq];omega) ((rawM p st l n).map fun i:Nat=>(i:Int))
 have h2:((idxs (fun c=>isM p st c n) l).map fun i:Nat=>(i:Int)).Pairwise fun a b=>decide (a≤b)=true :=
  List.Pairwise.map _ (fun a b h=>by simp only [decide_eq_true_eq];omega) (idxs_sorted (fun c=>isM p st c n) l)
 exact List.Perm.eq_of_pairwise (fun a b _ _ h k=>by simp only [decide_eq_true_eq] at h k;omega) h1 h2 ((List.mergeSort_perm _ _).trans ((raw_perm l n).map _))
def okQ (c:Cx):Prop:=okPT c.parts∧simps c.parts≤1000000∧∀ pt∈c.parts,∀ x∈pt.l,x.name.size≤999999
theorem okQ_cx {c:Cx} (h:okQ c):okCx c:=⟨h.1,h.2.1,fun pt hp x hx=>Nat.le_succ_of_le (h.2.2 pt hp x hx)⟩
theorem wordsR_in:∀ (l:List Part),(wordsR l).length≤simps l.tail∧∀ w∈wordsR l,∃ y∈l,w∈wordsS y.l
 | []=>⟨Nat.zero_le _,fun w hw=>by simp [wordsR] at hw⟩
 | [x]=>⟨Nat.zero_le _,fun w hw=>by simp [wordsR] at hw⟩
 | x :: y::l=>by
   obtain ⟨h1,h2⟩:=wordsR_in (y::l);have h3:(wordsS y.l).length≤y.l.length:=by unfold wordsS;exact Nat.le_trans (List.length_filter_le _ _) (by simp)
   have h4:simps (x::y::l).tail=y.l.length+simps (y::l).tail:=by simp [simps]
   rw [wordsR,h4]
   split
   ·refine ⟨by rw [List.length_append];omega,fun w hw=>?_⟩
    rcases List.mem_append.1 hw with hw | hw
    ·exact ⟨y,by simp,hw⟩
    ·obtain ⟨z,hz,hw⟩:=h2 w hw
     exact ⟨z,List.mem_cons_of_mem _ hz,hw⟩
   ·exact ⟨Nat.zero_le _,fun w hw=>by simp at hw⟩
theorem simps_tail (l:List Part):simps l.tail≤simps l:=by cases l <;> simp [simps]
theorem okQ_words {c:Cx} (h:okQ c):(wordsC c).length≤1000000∧∀ w∈wordsC c,w.size≤1000000:=by
 obtain ⟨h1,h2⟩:=wordsR_in c.parts.reverse;have h3:simps c.parts.reverse=simps c.parts:=by
  unfold simps;rw [List.map_reverse,List.sum_reverse]
 have h4:=simps_tail c.parts.reverse;refine ⟨by have:=h.2.1;unfold wordsC;omega,fun w hw=>?_⟩;obtain ⟨y,hy,hw⟩:=h2 w hw;unfold wordsS at hw;obtain ⟨x,hx,rfl⟩:=List.mem_map.1 (List.mem_filter.1 hw).1;have:=word_size x.kind x.name;have:=h.2.2 y (List.mem_reverse.1 hy) x hx;omega
structure Asked (p:List Nod) (st:List Stt) (l:List Cx):Prop where
 pg:OkPg p
 tiny:TinyPg p
 st:st.length≤1000000
 len:l.length≤1000000
 sel:∀ c∈l,okQ c
theorem idxs_len {α:Type} (q:α→Bool) (l:List α):(idxs q l).length≤l.length:=by
 unfold idxs;rw [List.length_map];exact Nat.le_trans (List.length_filter_le _ _) (by simp)
theorem match_m {p:List Nod} {st:List Stt} {l:List Cx} (h:Asked p st l) (n:Int):CallM Tryz.prog gt0 [] (memIx (allG l)) 2 52 [.ptr 1 0,.sl p.length 5 (p.flatMap encNd),.sl st.length 2 (st.flatMap encSt),.g (.int .i64 n)] (.sl (ansM p st l n).length 1 ((ansM p st l n).flatMap encZ)) (memIx (allG l)) 2:=by
 cases hno:treeB p&&elemB p n with
 | false =>
   have ha:ansM p st l n=[]:=by unfold ansM;rw [hno];rfl
   rw [ha];exact match_no (allG l) p st n h.pg hno
 | true =>
   obtain ⟨ht,he⟩:=Bool.and_eq_true_iff.1 hno;obtain ⟨k,rfl,hk,-⟩:=at_nat he;have ha:ansM p st l k=(idxs (fun c=>isM p st c k) l).map fun i:Nat=>(i:Int):=by unfold ansM;rw [hno];rfl
   have hr:(rawZ p st (allG l) (filterM p k) k (keysM p k)).length=(ansM p st l k).length:=by
    rw [ha,←raw_sorted,List.length_mergeSort]
   have hl:=idxs_len (fun c=>isM p st c k) l;have hll:=h.len
   have H:=match_yes (allG l) p st k h.pg h.st h.tiny ht he (fun key=>by
    rw [getG_all];refine ⟨Nat.le_trans (List.length_filter_le _ _) (by rw [List.length_zipIdx];exact h.len),fun e he=>?_⟩;have hm:e.1∈l:=by
     have h1:=(List.mem_filter.1 he).1;obtain ⟨i,hi,hx⟩:=List.getElem_of_mem h1;rw [List.getElem_zipIdx] at hx;rw [←hx];exact List.getElem_mem _
    exact ⟨(h.sel _ hm).1,okQ_words (h.sel _ hm)⟩) (by rw [hr,ha,List.length_map];omega)
   rw [raw_sorted,hr,←ha] at H;exact H
end Go.Proofs.YtlnaihkombcbcaaGreat
namespace Go.Proofs.YtlnaihkombcbcaaGreat
open Go.RowKit Go.Ev
attribute [local go_sem] eq_self false_and and_false Bool.false_eq_true List.set_cons_succ List.set_cons_zero List.getD_cons_succ List.getD_cons_zero List.getElem?_cons_succ List.getElem?_cons_zero true_and and_true and_self Bool.not_true Bool.not_false Nat.add_zero Nat.zero_add Nat.mul_one Int.toNat_natCast Int.natCast_nonneg Int.ofNat_lt Option.bind_some Option.map_some List.map_cons List.map_nil decide_true decide_false BEq.rfl Bool.and_self Bool.and_true Bool.and_false beq_self_eq_true List.cons_append List.nil_append List.take_zero List.take_succ_cons List.take_nil List.drop_succ_cons List.drop_zero List.drop_nil List.append_nil List.length_cons List.length_nil List.all_cons List.all_nil Nat.le_refl Int.le_refl Option.map_none List.replicate_zero List.replicate_succ Nat.zero_mul Nat.sub_zero Nat.zero_le Nat.le_zero_eq getR_nil Option.some_or Option.none_or Option.or_none Option.isSome_some Option.isSome_none Option.getD_some Option.getD_none Int.toNat_zero Int.natCast_zero Int.natCast_one Int.cast_ofNat_Int List.toList_toArray
attribute [go_sem] appL newsA isSlice
attribute [local go_sem] Tryz.underlying74
theorem un_rowsA:slOrStr (Tryz.prog.underlying 78)=true:=by kernel_rfl
attribute [go_sem] un_rowsA
def encRow (x:List Int):List AV:=[.sl x.length 1 (x.flatMap encZ)]
def memA (G:Gr) (acc:List (List Int)):ML:=(0,.map (encG sealV4 0 G) G.length)::(1,.cells [.mp 0])::rowsM encRow 2 (fun _=>acc) 1
theorem nm_seal (S:Nat→Prop):∀ (G:Gr) (o:Nat),nmE S (encG sealV4 o G)=True
 | [],_=>rfl
 | e::G,o=>by
   rw [encG];show ((nmA S (keyAg e.1)∧nmA S (sealV4 o e.2))∧nmE S (encG sealV4 (o+1) G))=True;rw [nm_seal S G,eq_true (nmA_id S (keyAg e.1) rfl),eq_true (nmA_id S (sealV4 o e.2) rfl)];simp
theorem nmB_seal (S:Nat→Prop) (G:Gr):nmB S (.map (encG sealV4 0 G) G.length)=True:=nm_seal S G 0
theorem getA {G:Gr} {acc:List (List Int)} {c:Nat} {k:Blk} (h:getL (memA G acc) c=some k):(c=0∧k=.map (encG sealV4 0 G) G.length)∨(c=1∧k=.cells [.mp 0])∨(c=2∧acc≠[]∧k=.cells (acc.flatMap encRow)):=by
 unfold memA at h;rw [getL] at h
 split at h
 ·rename_i e;cases h;exact .inl ⟨e.symm,rfl⟩
 ·rw [getL] at h
  split at h
  ·rename_i e;cases h;exact .inr (.inl ⟨e.symm,rfl⟩)
  ·rw [rowsM_get] at h
   split at h
   ·rename_i e;cases h;exact .inr (.inr ⟨by omega,e.2.2,rfl⟩)
   ·cases h
theorem growA {GT:GTab} {G:Gr} {acc:List (List Int)} {l l':List AV} {m:ML} {n nn:Nat} (hnn:3≤nn) (h0:getL m 0=some (.map (encG sealV4 0 G) G.length)) (h1:getL m 1=some (.cells [.mp 0])) (h3:getL m nn=some (.cells (acc.flatMap encRow))) (hl:reT (ownH 2 0 nn) 3 l' l) :
 VS GT ⟨[],memL (memIx G),2⟩ (stL l m n) (stL l' (memA G acc) 3):=by
 have low:∀ c,c<2→ownH 2 0 nn c=c:=fun c hc=>ownH_low hc;have hi:ownH 2 0 nn 2=nn:=by unfold ownH;rw [if_pos rfl]
 refine VS.renF (ownH 2 0 nn) (fun c hc=>low c hc) (fun c hc=>?_) (by show 2≤3;decide) (fun c c' k k' hc hc' e=>?_) (fun c k hc=>?_) hl
 ·have hc:2≤c:=hc
  show 2≤_;unfold ownH;split <;> omega
 ·have g1:c≤2:=by rcases getA hc with ⟨rfl,-⟩ | ⟨rfl,-⟩ | ⟨rfl,-⟩ <;> decide
  have g2:c'≤2:=by rcases getA hc' with ⟨rfl,-⟩ | ⟨rfl,-⟩ | ⟨rfl,-⟩ <;> decide
  unfold ownH at e
  split at e <;> split at e <;> omega
 ·rcases getA hc with ⟨rfl,rfl⟩ | ⟨rfl,rfl⟩ | ⟨rfl,hne,rfl⟩
  ·exact ⟨by decide,by rw [ltB,ltE_seal];trivial,by rw [low 0 (by decide),h0,reFB,reFE_seal]⟩
  ·exact ⟨by decide,by simp [ltB,ltL,ltA],by rw [low 1 (by decide),h1,reFB,reFL,reFL,reF,low 0 (by decide)]⟩
  ·exact ⟨by decide,ltL_id _ _ (noIdsL_flat (fun _=>rfl) _),by rw [hi,h3,reFB,reFL_id _ _ (noIdsL_flat (fun _=>rfl) _)]⟩
def S2 (cs:List AV) (c:Nat):Option (List AV):=if c=2 then some cs else none
theorem seal_A {GT:GTab} {G:Gr} {cs l l':List AV} {n:Nat} (hp:∀ a∈cs,plainA a=true) (hl:frLF (S2 cs) l' l) (hk:keepT 2 l' l') :
 VS GT ⟨[],memL (memIx G),2⟩ (stL l [(0,.map (encG sealV4 0 G) G.length),(1,.cells [.mp 0]),(2,.cells cs)] n) (stL l' (memIx G) 2):=by
 refine VS.trans (VS.sealF (m':=memIx G) (S2 cs) (fun c x hx=>?_) hl fun c x hc=>?_) (VS.pop (fun c x _ hc=>hc) hk)
 ·unfold S2 at hx
  split at hx
  ·rename_i e;cases hx;subst e;exact ⟨rfl,hp⟩
  ·cases hx
 ·have hne:c=0∨c=1:=by
   rw [getL] at hc
   split at hc
   ·rename_i e;exact .inl e.symm
   ·rw [getL] at hc
    split at hc
    ·rename_i e;exact .inr e.symm
    ·cases hc
  refine ⟨by unfold S2;rw [if_neg (by omega)],.inl ?_⟩;rcases hne with rfl | rfl
  ·rw [getL,if_pos rfl] at hc;cases hc;rfl
  ·rw [getL,if_neg (by decide),getL,if_pos rfl] at hc;cases hc;rfl
set_option maxRecDepth 100000 in
set_option maxHeartbeats 4000000 in
theorem all_m {p:List Nod} {st:List Stt} {l:List Cx} (h:Asked p st l):CallM Tryz.prog gt0 [] (memIx (allG l)) 2 48 [.ptr 1 0,.sl p.length 5 (p.flatMap encNd),.sl st.length 2 (st.flatMap encSt)] (.sl p.length 1 (((List.range p.length).map fun n:Nat=>ansM p st l (n:Int)).flatMap encRow)) (memIx (allG l)) 2:=by
 have hlen:=h.pg.len;refine callM_of_w (c:=_) Tryz.func48 rfl (by kernel_rfl) ?_;simp only [Tryz.f48,List.replicate,List.length_cons,List.length_nil,Nat.reduceAdd,Nat.reduceSub,List.cons_append,List.nil_append]
 (repeat ((first | with_reducible refine W.step (b:=false) ?_ | skip);simp only [go_sem,↓reduceIte,Nat.reduceAdd,Nat.reduceSub,Nat.reduceMul,Nat.reduceEqDiff,Nat.reduceLeDiff,Nat.reduceLT,Int.reduceLE,Int.reduceLT,Int.reduceToNat,Int.reduceEq];try with_reducible refine drawn hmix (by kernel_rfl) ?_))
 refine W.loop (s1:=stL [(.ptr 1 0),(.sl p.length 5 (p.flatMap encNd)),(.sl st.length 2 (st.flatMap encSt)),.any,.any,.any,(.g (.slice none 0 0)),(ownA 2 1 0 ((List.range 0).map fun n:Nat=>ansM p st l (n:Int))),.any,.any,.any,.any,(.g (.int .i64 (p.length:Int))),(.g (.int .i64 ((0:Nat):Int))),.any,.any,.any,.any,.any,.any,.any,.any,.any,.any,.any,.any] (memA (allG l) ((List.range 0).map fun n:Nat=>ansM p st l (n:Int))) 3)
  (fun (k:Nat) t=>k≤p.length∧t=stL [(.ptr 1 0),(.sl p.length 5 (p.flatMap encNd)),(.sl st.length 2 (st.flatMap encSt)),.any,.any,.any,(.g (.slice none 0 0)),(ownA 2 1 0 ((List.range k).map fun n:Nat=>ansM p st l (n:Int))),.any,.any,.any,.any,(.g (.int .i64 (p.length:Int))),(.g (.int .i64 ((k:Nat):Int))),.any,.any,.any,.any,.any,.any,.any,.any,.any,.any,.any,.any] (memA (allG l) ((List.range k).map fun n:Nat=>ansM p st l (n:Int))) 3) (fun k=>p.length - k) 0 ⟨Nat.zero_le _,rfl⟩ ?_ ?_
 ·exact VS.renF (fun c=>c) (fun _ _=>rfl) (fun _ h=>h) (by show 2≤3;decide) (fun _ _ _ _ _ _ h=>h) (fun c k hc=>by
   rw [reFB_same];rcases getA hc with ⟨rfl,rfl⟩ | ⟨rfl,rfl⟩ | ⟨rfl,hne,rfl⟩
   ·exact ⟨by decide,by rw [ltB,ltE_seal];trivial,rfl⟩
   ·exact ⟨by decide,by simp [ltB,ltL,ltA],rfl⟩
   ·exact absurd rfl hne) (keepT_re (by simp [keepT_cons,keepT_nil,ltA,own_nil]))
 rintro k t ⟨hk,rfl⟩;have hML:=match_m h (k:Int);have hal:((List.range k).map fun n:Nat=>ansM p st l (n:Int)).length=k:=by rw [List.length_map,List.length_range]
 have hnx:(List.range (k+1)).map (fun n:Nat=>ansM p st l (n:Int))=((List.range k).map fun n:Nat=>ansM p st l (n:Int))++[ansM p st l (k:Int)]:=by rw [List.range_succ,List.map_append];rfl
 by_cases hlt:k<p.length
 ·generalize ((List.range k).map fun n:Nat=>ansM p st l (n:Int))=acc at *
  by_cases hnil:acc=[]
  ·subst hnil
   (repeat ((first | with_reducible refine W.step (b:=false) ?_ | skip);simp only [go_sem,↓reduceIte,Nat.reduceAdd,Nat.reduceSub,Nat.reduceMul,Nat.reduceEqDiff,Nat.reduceLeDiff,Nat.reduceLT,Int.reduceLE,Int.reduceLT,Int.reduceToNat,Int.reduceEq,memA,hlt,own_nil,rows_nil];try with_reducible refine drawn hmix (by kernel_rfl) ?_))
   refine AtCall.mem (m':=[(0,.map (encG sealV4 0 (allG l)) (allG l).length),(1,.cells [.mp 0])]) (CallM.sub (m0:=memIx (allG l)) hML ⟨by decide,by simp [getL,nmB_cells,nmB_seal,nmL,nmA],by simp [nmL,nmA],by simp [nmB_cells,nmB_seal,nmL,nmA],by simp [nmA],by simp⟩) ?_
   (repeat ((first | with_reducible refine W.step (b:=false) ?_ | skip);simp only [go_sem,↓reduceIte,Nat.reduceAdd,Nat.reduceSub,Nat.reduceMul,Nat.reduceEqDiff,Nat.reduceLeDiff,Nat.reduceLT,Int.reduceLE,Int.reduceLT,Int.reduceToNat,Int.reduceEq];try with_reducible refine drawn hmix (by kernel_rfl) ?_))
   refine ⟨k+1,_,⟨hlt,rfl⟩,by show p.length - (k+1)<p.length - k;omega,?_⟩;rw [up1 (by omega),hnx];exact growA (nn:=4) (by decide) (by simp [getL]) (by simp [getL]) (by simp [getL,encRow]) (by simp [reT_cons,reT_nil,reF,reFL,ltA,ltL,ownH,ownA])
  ·have hro:=rows_one (enc:=encRow) (b0:=2) hnil
   have ho:=ownA_pos (b0:=2) (sz:=1) (j:=0) hnil
   (repeat ((first | with_reducible refine W.step (b:=false) ?_ | skip);simp only [go_sem,↓reduceIte,Nat.reduceAdd,Nat.reduceSub,Nat.reduceMul,Nat.reduceEqDiff,Nat.reduceLeDiff,Nat.reduceLT,Int.reduceLE,Int.reduceLT,Int.reduceToNat,Int.reduceEq,memA,hlt,hro,ho];try with_reducible refine drawn hmix (by kernel_rfl) ?_))
   refine AtCall.mem (m':=[(0,.map (encG sealV4 0 (allG l)) (allG l).length),(1,.cells [.mp 0]),(2,.cells (acc.flatMap encRow))]) (CallM.sub (m0:=memIx (allG l)) hML ⟨by decide,by simp [getL,nmB_cells,nmB_seal,nmL,nmA],by simp [nmL,nmA],by simp [nmB_cells,nmB_seal,nmL,nmA],by simp [nmA],by simp⟩) ?_;have y1:(acc.length+1≤acc.length)=False:=eq_false (by omega);have y2:(acc.length+1)*25≤17179869184:=by omega
   have hlz:(acc.flatMap encRow).length=acc.length:=by rw [flatMap_len (enc:=encRow) (sz:=1) (fun _=>rfl),Nat.mul_one]
   (repeat ((first | with_reducible refine W.step (b:=false) ?_ | skip);simp only [go_sem,↓reduceIte,Nat.reduceAdd,Nat.reduceSub,Nat.reduceMul,Nat.reduceEqDiff,Nat.reduceLeDiff,Nat.reduceLT,Int.reduceLE,Int.reduceLT,Int.reduceToNat,Int.reduceEq,y1,y2,hlz];try with_reducible refine drawn hmix (by kernel_rfl) ?_))
   refine ⟨k+1,_,⟨hlt,rfl⟩,by show p.length - (k+1)<p.length - k;omega,?_⟩;rw [up1 (by omega),hnx];exact growA (nn:=4) (by decide) (by simp [getL]) (by simp [getL]) (by rw [List.flatMap_append];simp [getL,encRow]) (by rw [ownA_pos (by simp)];simp [reT_cons,reT_nil,reF,reFL,ltA,ltL,ownH])
 ·have hke:k=p.length:=by omega
  subst hke;clear hnx hML;generalize ((List.range p.length).map fun n:Nat=>ansM p st l (n:Int))=acc at *
  by_cases hnil:acc=[]
  ·subst hnil
   have h0:p.length=0:=hal.symm
   (repeat ((first | with_reducible refine W.step (b:=false) ?_ | skip);simp only [go_sem,↓reduceIte,Nat.reduceAdd,Nat.reduceSub,Nat.reduceMul,Nat.reduceEqDiff,Nat.reduceLeDiff,Nat.reduceLT,Int.reduceLE,Int.reduceLT,Int.reduceToNat,Int.reduceEq,memA,hlt,own_nil,rows_nil];try with_reducible refine drawn hmix (by kernel_rfl) ?_))
   refine ⟨.inr rfl,[.any,.any,.any,.any,.any,.any,(.sl 0 1 []),.any,.any,.any,.any,.any,.any,.any,.any,.any,.any,.any,.any,.any,.any,.any,.any,.any,.any,.any],VS.trans (VS.weak (m':=memIx (allG l)) (l':=[.any,.any,.any,.any,.any,.any,(.sl 0 1 []),.any,.any,.any,.any,.any,.any,.any,.any,.any,.any,.any,.any,.any,.any,.any,.any,.any,.any,.any]) ?_ ⟨.inl rfl,.inl rfl,trivial⟩) (VS.pop (fun c x _ hc=>hc) (by simp [keepT_cons,keepT_nil,ltA])),by rw [h0];rfl⟩
   (repeat (first | refine ⟨_,_,rfl,wkA.any _,?_⟩ | refine ⟨_,_,rfl,wkA.nil 1,?_⟩));rfl
  ·have hro:=rows_one (enc:=encRow) (b0:=2) hnil
   have ho:=ownA_pos (b0:=2) (sz:=1) (j:=0) hnil;have hlz:(acc.flatMap encRow).length=acc.length:=by rw [flatMap_len (enc:=encRow) (sz:=1) (fun _=>rfl),Nat.mul_one]
   (repeat ((first | with_reducible refine W.step (b:=false) ?_ | skip);simp only [go_sem,↓reduceIte,Nat.reduceAdd,Nat.reduceSub,Nat.reduceMul,Nat.reduceEqDiff,Nat.reduceLeDiff,Nat.reduceLT,Int.reduceLE,Int.reduceLT,Int.reduceToNat,Int.reduceEq,memA,hlt,hro,ho];try with_reducible refine drawn hmix (by kernel_rfl) ?_))
   rw [←hal]
   exact ⟨.inr rfl,[.any,.any,.any,.any,.any,.any,(.sl acc.length 1 (acc.flatMap encRow)),.any,.any,.any,.any,.any,.any,.any,.any,.any,.any,.any,.any,.any,.any,.any,.any,.any,.any,.any],seal_A (fun a ha=>by obtain ⟨x,-,hx⟩:=List.mem_flatMap.1 ha;simp [encRow] at hx;subst hx;rfl) (by
    simp only [frLF_cons,frLF_nil,frAF_any,true_and,and_true]
    exact .inr (.inr ⟨2,_,0,acc.length,1,acc.length,rfl,rfl,by rw [List.drop_zero,List.take_of_length_le (by rw [hlz];omega)],by rw [hlz];omega⟩)) (by simp [keepT_cons,keepT_nil,ltA]),rfl⟩
end Go.Proofs.YtlnaihkombcbcaaGreat
end
