/- Keys and filters leave nobody away: plain lists. -/
import Derived.Test.YtlnaihkombcbcaaGreatBd0
import Derived.Test.YtlnaihkombcbcaaGreatBc7
import Derived.Lib.TrimUEq
import Derived.Lib.MapLaws
set_option linter.unusedSimpArgs false
noncomputable section
namespace Go.Proofs.YtlnaihkombcbcaaGreat
open Go.RowKit Go.Ev
attribute [local go_sem] eq_self false_and and_false Bool.false_eq_true List.set_cons_succ List.set_cons_zero List.getD_cons_succ List.getD_cons_zero List.getElem?_cons_succ List.getElem?_cons_zero true_and and_true and_self Bool.not_true Bool.not_false Nat.add_zero Nat.zero_add Nat.mul_one Int.toNat_natCast Int.natCast_nonneg Int.ofNat_lt Option.bind_some Option.map_some List.map_cons List.map_nil decide_true decide_false BEq.rfl Bool.and_self Bool.and_true Bool.and_false beq_self_eq_true List.cons_append List.nil_append List.take_zero List.take_succ_cons List.take_nil List.drop_succ_cons List.drop_zero List.drop_nil List.append_nil List.length_cons List.length_nil List.all_cons List.all_nil Nat.le_refl Int.le_refl Option.map_none List.replicate_zero List.replicate_succ Nat.zero_mul Nat.sub_zero Nat.zero_le Nat.le_zero_eq getR_nil Option.some_or Option.none_or Option.or_none Option.isSome_some Option.isSome_none Option.getD_some Option.getD_none Int.toNat_zero Int.natCast_zero Int.natCast_one Int.cast_ofNat_Int List.toList_toArray
attribute [go_sem] appL newsA isSlice
def blB:ByteArray:=⟨#[32,10,9,12,13]⟩
def isBlR (r:Int):Bool:=r==32||r==10||r==9||r==12||r==13
theorem contR_p (r:Int) (h0:0≤r):PureN Tryz.prog gt0 230 [.g (.string blB),.g (.int .i32 r)] (.g (.bool (isBlR r))):=by
 refine PureN.ofC rfl ⟨_,Tryz.func230,by kernel_rfl,by kernel_rfl⟩ fun w rargs ha=>?_;obtain ⟨v0,vs,e0,h1,v1,vs1,rfl,h2,h3⟩:=ha;rw [VRs] at h3;subst h3;obtain rfl:rargs=#[v0,v1]:=by rw [←Array.toList_inj];exact e0
 obtain rfl:v0=.string blB:=h1;obtain rfl:v1=.int .i32 r:=h2
 by_cases h:r<128
 ·refine (Tryz.strings_ContainsRune_ascii blB r w h0 h).mono ?_
  rintro e w' ⟨rfl,rfl⟩;refine ⟨?_,Below.refl _ _⟩;obtain ⟨k,rfl⟩:∃ k:Nat,r=k:=⟨r.toNat,by omega⟩;have hk:k<128:=by omega
  have:∀ k:Fin 128,decide (0≤Lib.indexByte blB.data.toList ((k.val:Int)).toNat.toUInt8)=isBlR (k.val:Int):=by decide +kernel
  rw [this ⟨k,hk⟩]
 ·have hf:isBlR r=false:=by
   unfold isBlR;simp only [Bool.or_eq_false_iff,beq_eq_false_iff_ne];omega
  rw [hf]
  have HR:=Lib.hid fun w=>irune_high blB r w (by decide) (by decide) (fun i hi=>by
   have:∀ i:Fin 5,(blB[i.val]'(i.2)).toNat<128:=by decide +kernel
   exact this ⟨i,hi⟩) (by omega)
  go_enter Tryz.func230,Tryz.ntmps230
  go_wp2_with fail
  refine (HR.out _).mono ?_;rintro e w' ⟨rfl,hB⟩
  go_wp2
  go_ret
  exact ⟨rfl,hB⟩
theorem clsCl_p (r:Int) (h0:0≤r):PureN Tryz.prog gt0 229 [.g (.int .i32 r)] (.g (.bool (isBlR r))):=by
 have HC:=contR_p r h0;refine PureN.of_w (c:=_) Tryz.func229 rfl (by kernel_rfl) rfl ?_;simp only [Tryz.f229,List.replicate,List.length_cons,List.length_nil,Nat.reduceAdd,Nat.reduceSub,List.cons_append,List.nil_append]
 (repeat ((first | with_reducible refine W.step (b:=false) ?_ | skip);simp only [go_sem,↓reduceIte,Nat.reduceAdd,Nat.reduceSub,Nat.reduceMul,Nat.reduceEqDiff,Nat.reduceLeDiff,Nat.reduceLT,Int.reduceLE,Int.reduceLT,Int.reduceToNat,Int.reduceEq];try with_reducible refine drawn hmix (by kernel_rfl) ?_))
 refine AtCall.mk HC ?_
 (repeat ((first | with_reducible refine W.step (b:=false) ?_ | skip);simp only [go_sem,↓reduceIte,Nat.reduceAdd,Nat.reduceSub,Nat.reduceMul,Nat.reduceEqDiff,Nat.reduceLeDiff,Nat.reduceLT,Int.reduceLE,Int.reduceLT,Int.reduceToNat,Int.reduceEq];try with_reducible refine drawn hmix (by kernel_rfl) ?_))
 exact postP_one _ (.inr rfl) rfl (.plain rfl)
theorem dec_cases (s:ByteArray) (pos:Nat) (h:pos<s.data.toList.length) :
 (∃ c,s.data.toList[pos]?=some c∧c.toNat<128∧Utf8.decode s pos=(c.toNat,1)) ∨
 (128≤(Utf8.decode s pos).1∧1≤(Utf8.decode s pos).2∧pos+(Utf8.decode s pos).2≤s.data.toList.length∧∀ i,i<(Utf8.decode s pos).2→128≤(s.data.toList.getD (pos+i) 0).toNat):=by
 have hget:s.data.toList[pos]?=some (s.data.toList.getD pos 0):=by rw [List.getD_eq_getElem?_getD,List.getElem?_eq_getElem h];rfl
 rw [Lib.decode_N];generalize hb0:s.data.toList.getD pos 0=c0 at *;generalize hb1:s.data.toList.getD (pos+1) 0=c1;generalize hb2:s.data.toList.getD (pos+2) 0=c2;generalize hb3:s.data.toList.getD (pos+3) 0=c3
 by_cases hlt:c0.toNat<128
 ·exact .inl ⟨c0,hget,hlt,Lib.decodeN_ascii _ _ _ _ _ hlt⟩
 ·right
  have key:∀ (w:Nat),w≤4→(∀ i,i<w→128≤([c0,c1,c2,c3].getD i 0).toNat)→∀ i,i<w→128≤(s.data.toList.getD (pos+i) 0).toNat:=by
   intro w hw hall i hi;have:=hall i hi
   match i,(show i<4 by omega) with
   | 0,_=>rw [Nat.add_zero,hb0];exact this
   | 1,_=>rw [hb1];exact this
   | 2,_=>rw [hb2];exact this
   | 3,_=>rw [hb3];exact this
  rcases Lib.decodeN_shape (s.data.toList.length - pos) c0.toNat c1.toNat c2.toNat c3.toNat with ⟨g,-⟩ | ⟨g1,g2,g3,g4,e⟩ | ⟨g1,g2,g3,g4,g5,g6,e⟩ | ⟨g1,g2,g3,g4,g5,g6,g7,e⟩ | e
  ·exact absurd g hlt
  ·rw [e]
   refine ⟨g4,by simp,by simp only;omega,key 2 (by decide) fun i hi=>?_⟩
   match i,hi with
   | 0,_=>show 128≤c0.toNat;omega
   | 1,_=>show 128≤c1.toNat;omega
  ·rw [e]
   refine ⟨by simp only;omega,by simp,by simp only;omega,key 3 (by decide) fun i hi=>?_⟩
   match i,hi with
   | 0,_=>show 128≤c0.toNat;omega
   | 1,_=>show 128≤c1.toNat;omega
   | 2,_=>show 128≤c2.toNat;omega
  ·rw [e]
   refine ⟨by simp only;omega,by simp,by simp only;omega,key 4 (by decide) fun i hi=>?_⟩
   match i,hi with
   | 0,_=>show 128≤c0.toNat;omega
   | 1,_=>show 128≤c1.toNat;omega
   | 2,_=>show 128≤c2.toNat;omega
   | 3,_=>show 128≤c3.toNat;omega
  ·rw [e]
   refine ⟨by decide,by decide,by simp only;omega,key 1 (by decide) fun i hi=>?_⟩;obtain rfl:i=0:=by omega
   show 128≤c0.toNat;omega
theorem isBl_R (c:UInt8):isBl c=isBlR (c.toNat:Int):=by
 have:∀ k:Fin 256,isBl (UInt8.ofNat k.val)=isBlR (k.val:Int):=by decide +kernel
 have h:=this ⟨c.toNat,c.toNat_lt⟩;simpa using h
theorem wordsL_take:∀ (w:Nat) (cur l:List UInt8),w≤l.length→(∀ i,i<w→128≤(l.getD i 0).toNat)→wordsL cur l=wordsL (cur++l.take w) (l.drop w)
 | 0,cur,l,_,_=>by simp
 | w+1,cur,[],h,_=>by simp at h
 | w+1,cur,c::l,h,k=>by
   have hc:isBl c=false:=by
    rw [isBl_R];have:=k 0 (by omega);simp only [List.getD_cons_zero] at this;unfold isBlR;simp only [Bool.or_eq_false_iff,beq_eq_false_iff_ne];omega
   rw [wordsL,hc];simp only [Bool.false_eq_true,if_false,List.take_succ_cons,List.drop_succ_cons];rw [wordsL_take w (cur++[c]) l (by simpa using h) fun i hi=>by have:=k (i+1) (by omega);simpa using this];simp
def partB (l:List UInt8) (p:Nat×Nat):List UInt8:=(l.drop p.1).take (p.2 - p.1)
def curB (l:List UInt8) (start:Int) (pos:Nat):List UInt8:=if start<0 then [] else partB l (start.toNat,pos)
structure FldI (l:List UInt8) (pos:Nat) (start:Int) (sp:List (Nat×Nat)):Prop where
 le:pos≤l.length
 st:start<pos
 low:-1000000001≤start
 fit:∀ p∈sp,p.1≤p.2∧p.2≤l.length
 words:sp.map (partB l)++wordsL (curB l start pos) (l.drop pos)=wordsL [] l
 len:sp.length≤pos
def encSp (p:Nat×Nat):List AV:=[.g (.int .i64 (p.1:Int)),.g (.int .i64 (p.2:Int))]
theorem partB_ne {l:List UInt8} {a b:Nat} (h:a<b) (hb:b≤l.length):partB l (a,b)≠[]:=by
 unfold partB;intro e;have:=congrArg List.length e;simp at this;omega
theorem FldI.blank {l:List UInt8} {pos:Nat} {start:Int} {sp:List (Nat×Nat)} (h:FldI l pos start sp) {c:UInt8} (hc:l[pos]?=some c) (hb:isBl c=true) (hl:l.length≤1000000) :
 (start<0→FldI l (pos+1) start sp)∧(0≤start→FldI l (pos+1) (-1 - start) (sp++[(start.toNat,pos)])):=by
 have hlt:pos<l.length:=(List.getElem?_eq_some_iff.1 hc).1;have hd:l.drop pos=c::l.drop (pos+1):=by rw [List.drop_eq_getElem_cons hlt];congr 1;exact (List.getElem?_eq_some_iff.1 hc).2
 have hw:=h.words;rw [hd,wordsL,hb] at hw;simp only [if_true] at hw;have h1:=h.st;have h2:=h.low;refine ⟨fun hs=>⟨hlt,by omega,h2,h.fit,?_,by have:=h.len;omega⟩,fun hs=>⟨hlt,by omega,by omega,fun p hp=>?_,?_,by have:=h.len;simp;omega⟩⟩
 ·unfold curB at hw ⊢
  rw [if_pos hs] at hw ⊢;simpa using hw
 ·rcases List.mem_append.1 hp with hp | hp
  ·exact h.fit p hp
  ·rw [List.mem_singleton.1 hp];exact ⟨by simp only;omega,by simp only;omega⟩
 ·unfold curB at hw ⊢
  have hcur:(if start<0 then [] else partB l (start.toNat,pos))=partB l (start.toNat,pos):=if_neg (by omega);rw [hcur,if_neg (partB_ne (by omega) (by omega))] at hw;rw [if_pos (by omega),List.map_append,List.append_assoc];exact hw
theorem FldI.other {l:List UInt8} {pos:Nat} {start:Int} {sp:List (Nat×Nat)} (h:FldI l pos start sp) {w:Nat} (hw0:1≤w) (hw:pos+w≤l.length) (hk:wordsL (curB l start pos) (l.drop pos)=wordsL (curB l start pos++(l.drop pos).take w) (l.drop (pos+w))) :
 FldI l (pos+w) (if start<0 then (pos:Int) else start) sp:=by
 have h1:=h.st;refine ⟨hw,by split <;> omega,by have:=h.low;split <;> omega,h.fit,?_,by have:=h.len;omega⟩
 have h2:=h.words;rw [hk] at h2;rw [←h2]
 congr 2
 unfold curB
 by_cases hs:start<0
 ·rw [if_pos hs,if_pos hs,if_neg (by omega)]
  unfold partB;simp
 ·rw [if_neg hs,if_neg hs,if_neg hs]
  unfold partB;simp only;obtain ⟨a,rfl⟩:∃ a:Nat,start=a:=⟨start.toNat,by omega⟩;simp only [Int.toNat_natCast];have e:pos+w - a=(pos - a)+w:=by omega
  rw [e,List.take_add,List.drop_drop]
  congr 3
  omega
theorem FldI.fin {l:List UInt8} {start:Int} {sp:List (Nat×Nat)} (h:FldI l l.length start sp):(if start<0 then sp else sp++[(start.toNat,l.length)]).map (partB l)=wordsL [] l:=by
 have h2:=h.words;have h1:=h.st;rw [List.drop_length,wordsL] at h2;unfold curB at h2
 by_cases hs:start<0
 ·rw [if_pos hs] at h2 ⊢;simpa using h2
 ·rw [if_neg hs,if_neg (partB_ne (by omega) (Nat.le_refl _))] at h2
  rw [if_neg hs,List.map_append];exact h2
theorem el_span:elemO Tryz.prog 355=some 2:=by kernel_rfl
theorem ag_span:aggO Tryz.prog 357=some (true,2):=by kernel_rfl
theorem ei_span:elemI Tryz.prog 355=some (2,16,true):=by kernel_rfl
theorem ez_span:elemZ Tryz.prog 355=[.int .i64 0,.int .i64 0]:=by kernel_rfl
theorem sz_span:szO Tryz.prog 357=some 2:=by kernel_rfl
theorem ze_span:zeroO Tryz.prog 357=some [.g (.int .i64 0),.g (.int .i64 0)]:=by kernel_rfl
theorem fl_span0:fldO Tryz.prog 357 0=some (0,3):=by kernel_rfl
theorem fl_span1:fldO Tryz.prog 357 1=some (1,3):=by kernel_rfl
theorem bl_span (parts:List (Nat×AV)):evBuild Tryz.prog 357 parts=aggM (fillL [(0,1),(1,1)] [.g (.int .i64 0),.g (.int .i64 0)] parts):=evBuild_eq (by kernel_rfl) parts
theorem ss_span:slOrStr (Tryz.prog.underlying 355)=true:=by kernel_rfl
theorem ei_strs:elemI Tryz.prog 25=some (1,16,true):=by kernel_rfl
theorem ss_strs:slOrStr (Tryz.prog.underlying 25)=true:=by kernel_rfl
theorem ez_strs:elemZ Tryz.prog 25=[.string ⟨#[]⟩]:=by kernel_rfl
attribute [go_sem] el_span ag_span ei_span ez_span sz_span ze_span fl_span0 fl_span1 bl_span ss_span ei_strs ss_strs ez_strs
theorem lenSp (sp:List (Nat×Nat)):(sp.flatMap encSp).length=sp.length*2:=flatMap_len (enc:=encSp) (sz:=2) (fun _=>rfl) sp
theorem xorI {x:Int} (h0:0≤x) (h1:x≤1000000000):IntKind.i64.wrap ((BitVec.ofInt 64 (if IntKind.i64.signed=true then -1 else IntKind.i64.max) ^^^ BitVec.ofInt 64 x).toNat:Int)=-1 - x:=by
 obtain ⟨k,rfl⟩:∃ k:Nat,x=k:=⟨x.toNat,by omega⟩;have e1:(BitVec.ofInt 64 (if IntKind.i64.signed=true then -1 else IntKind.i64.max))=BitVec.allOnes 64:=by decide
 rw [e1,BitVec.ofInt_natCast,BitVec.allOnes_xor,BitVec.toNat_not,BitVec.toNat_ofNat,Nat.mod_eq_of_lt (by omega),IntKind.wrap_i64];omega
theorem rowSp {l:List (Nat×Nat)} {k:Nat} (hk:k<l.length):((l.flatMap encSp).drop (k*2)).take 2=[.g (.int .i64 (l[k].1:Int)),.g (.int .i64 (l[k].2:Int))]∧k*2+2≤(l.flatMap encSp).length :=
 ⟨row_part encSp 2 (fun _=>rfl) l k hk 0 2 (by decide),row_fit encSp 2 (fun _=>rfl) l k hk (j:=0) (by decide)⟩
theorem lenN (l:List ByteArray):(l.flatMap encN).length=l.length:=by rw [flatMap_len (enc:=encN) (sz:=1) (fun _=>rfl),Nat.mul_one]
theorem mapN (l:List ByteArray):l.flatMap encN=l.map fun x=>AV.g (.string x):=by
 induction l with
 | nil=>rfl
 | cons x l ih=>rw [List.flatMap_cons,ih];rfl
theorem putN (l:List ByteArray) (i:Nat) (v:ByteArray) (h:i<l.length):(l.flatMap encN).take i++.g (.string v)::(l.flatMap encN).drop (i+1)=(l.set i v).flatMap encN:=by
 rw [put_set (by rw [lenN];exact h),mapN,mapN,List.map_set]
theorem zeroN:∀ k:Nat,zerosA [.string ⟨#[]⟩] k=(List.replicate k (⟨#[]⟩:ByteArray)).flatMap encN
 | 0=>rfl
 | k+1=>by rw [zerosA,zeroN k,List.replicate_succ,List.flatMap_cons];rfl
def laidW (s:ByteArray) (sp:List (Nat×Nat)) (k:Nat):List ByteArray:=(sp.take k).map (fun p=>cutS s p.1 p.2)++List.replicate (sp.length - k) ⟨#[]⟩
theorem laidW_len {s:ByteArray} {sp:List (Nat×Nat)} {k:Nat} (h:k≤sp.length):(laidW s sp k).length=sp.length:=by unfold laidW;simp;omega
theorem laidW_zero (s:ByteArray) (sp:List (Nat×Nat)):zerosA [.string ⟨#[]⟩] sp.length=(laidW s sp 0).flatMap encN:=by
 rw [zeroN];unfold laidW;simp
theorem laidW_all (s:ByteArray) (sp:List (Nat×Nat)):laidW s sp sp.length=sp.map fun p=>cutS s p.1 p.2:=by
 unfold laidW;simp
theorem laidW_set {s:ByteArray} {sp:List (Nat×Nat)} {k:Nat} (h:k<sp.length):(laidW s sp k).set k (cutS s sp[k].1 sp[k].2)=laidW s sp (k+1):=by
 unfold laidW;have e:sp.length - k=(sp.length - (k+1))+1:=by omega
 have hl:((sp.take k).map fun p=>cutS s p.1 p.2).length=k:=by simp;omega
 rw [List.take_succ_eq_append_getElem h,List.map_append,e,List.replicate_succ,List.set_append_right _ _ (by rw [hl];exact Nat.le_refl _),hl,Nat.sub_self,List.set_cons_zero];simp
set_option maxRecDepth 100000 in
set_option maxHeartbeats 4000000 in
theorem fields_m (s:ByteArray) (hs:s.size≤1000000):CallM Tryz.prog gt0 [] [] 0 228 [.g (.string s),.fn (.func 229) [] []] (.gs 0 0 (wordsB s).length 1 (wordsB s).length) [(0,.cells ((wordsB s).flatMap encN))] 1:=by
 have hsz:s.data.toList.length=s.size:=by rw [Array.length_toList];rfl
 refine callM_of_w (c:=_) Tryz.func228 rfl (by kernel_rfl) ?_;simp only [Tryz.f228,List.replicate,List.length_cons,List.length_nil,Nat.reduceAdd,Nat.reduceSub,List.cons_append,List.nil_append]
 (repeat ((first | with_reducible refine W.step (b:=false) ?_ | skip);simp only [go_sem,↓reduceIte,Nat.reduceAdd,Nat.reduceSub,Nat.reduceMul,Nat.reduceEqDiff,Nat.reduceLeDiff,Nat.reduceLT,Int.reduceLE,Int.reduceLT,Int.reduceToNat,Int.reduceEq];try with_reducible refine drawn hmix (by kernel_rfl) ?_))
 refine W.loop (s1:=stL [(.g (.string s)),(.fn (.func 229) [] []),.any,.any,.any,(.gs 0 0 0 2 0),(.g (.int .i64 (-1))),.any,.any,.any,.any,.any,.any,.any,(.ptr 1 0),.any,.any,.any,.any,.any,.any,.any,.any,.any,.any,.any,.any,.any,.any,.any,.any,.any,.any,.any,.any,.any,.any,.any,.any,.any,.any,.any,.any,.any,.any,.any,.any,.any,.any,.any,.any,.any,.any,.any,.any,.any,.any,.any,.any,.any,.any,.any,.any,.any,.any] [(0,.cells []),(1,.sit s 0)] 2)
  (fun (q:Nat×Int×List (Nat×Nat)) t=>FldI s.data.toList q.1 q.2.1 q.2.2∧t=stL [(.g (.string s)),(.fn (.func 229) [] []),.any,.any,.any,(.gs 0 0 q.2.2.length 2 q.2.2.length),(.g (.int .i64 q.2.1)),.any,.any,.any,.any,.any,.any,.any,(.ptr 1 0),.any,.any,.any,.any,.any,.any,.any,.any,.any,.any,.any,.any,.any,.any,.any,.any,.any,.any,.any,.any,.any,.any,.any,.any,.any,.any,.any,.any,.any,.any,.any,.any,.any,.any,.any,.any,.any,.any,.any,.any,.any,.any,.any,.any,.any,.any,.any,.any,.any,.any] [(0,.cells (q.2.2.flatMap encSp)),(1,.sit s q.1)] 2) (fun q=>s.data.toList.length - q.1)
  (0,-1,[]) ⟨⟨Nat.zero_le _,by decide,by decide,by simp,by simp [curB],by simp⟩,rfl⟩ ?_ ?_
 ·refine VS.ren [(0,0),(1,1)] (by simp) (by simp) (Nat.zero_le _) ?_ ⟨⟨0,_,rfl,rfl,_,rfl,.inl ⟨rfl,rfl⟩⟩,⟨1,_,rfl,rfl,rfl⟩,trivial⟩
  simp only [go_sem,↓reduceIte,Nat.reduceAdd,Nat.reduceSub,Nat.reduceMul,Nat.reduceEqDiff,Nat.reduceLeDiff,Nat.reduceLT,Int.reduceLE,Int.reduceLT,Int.reduceToNat,Int.reduceEq]
 rintro ⟨pos,start,sp⟩ t ⟨hI,rfl⟩;simp only at hI;have hsl:=hI.len;have hst:=hI.st;have hlow:=hI.low;have f32:(sp.length+1≤sp.length)=False:=eq_false (by omega);have hsp:=lenSp sp
 by_cases hlt:pos<s.size
 ·have f9:(sp.length+1)*17≤17179869184:=by omega
  rcases dec_cases s pos (by omega) with ⟨c,hc,hc128,hd⟩ | ⟨d1,d2,d3,d4⟩
  ·have HC:=clsCl_p (c.toNat:Int) (Int.natCast_nonneg _)
   rw [←isBl_R] at HC
   (repeat ((first | with_reducible refine W.step (b:=false) ?_ | skip);simp only [go_sem,↓reduceIte,Nat.reduceAdd,Nat.reduceSub,Nat.reduceMul,Nat.reduceEqDiff,Nat.reduceLeDiff,Nat.reduceLT,Int.reduceLE,Int.reduceLT,Int.reduceToNat,Int.reduceEq,hlt,hd];try with_reducible refine drawn hmix (by kernel_rfl) ?_))
   refine AtCall.mk HC ?_
   cases hb:isBl c with
   | true =>
     obtain ⟨n1,n2⟩:=hI.blank hc hb (by omega)
     by_cases hs0:0≤start
     ·have fs:=eq_true hs0
      (repeat ((first | with_reducible refine W.step (b:=false) ?_ | skip);simp only [go_sem,↓reduceIte,Nat.reduceAdd,Nat.reduceSub,Nat.reduceMul,Nat.reduceEqDiff,Nat.reduceLeDiff,Nat.reduceLT,Int.reduceLE,Int.reduceLT,Int.reduceToNat,Int.reduceEq,fs,f32,hsp,f9];try with_reducible refine drawn hmix (by kernel_rfl) ?_))
      refine ⟨(pos+1,-1 - start,sp++[(start.toNat,pos)]),_,⟨n2 hs0,rfl⟩,by show s.data.toList.length - (pos+1)<s.data.toList.length - pos;omega,?_⟩;obtain ⟨a,rfl⟩:∃ a:Nat,start=a:=⟨start.toNat,by omega⟩;refine VS.ren [(0,3),(1,1)] (by simp) (by simp) (Nat.zero_le _) ?_ ⟨⟨3,_,rfl,rfl,_,rfl,.inl ⟨by simp [encSp],noIdsL_flat (fun _=>rfl) _⟩⟩,⟨1,_,rfl,rfl,rfl⟩,trivial⟩;simp only [List.length_append,go_sem,↓reduceIte,Nat.reduceAdd,Nat.reduceSub,Nat.reduceMul,Nat.reduceEqDiff,Nat.reduceLeDiff,Nat.reduceLT,Int.reduceLE,Int.reduceLT,Int.reduceToNat,Int.reduceEq];exact congrArg (fun z=>Value.int .i64 z) (xorI hs0 (by omega))
     ·have fs:=eq_false hs0
      (repeat ((first | with_reducible refine W.step (b:=false) ?_ | skip);simp only [go_sem,↓reduceIte,Nat.reduceAdd,Nat.reduceSub,Nat.reduceMul,Nat.reduceEqDiff,Nat.reduceLeDiff,Nat.reduceLT,Int.reduceLE,Int.reduceLT,Int.reduceToNat,Int.reduceEq,fs];try with_reducible refine drawn hmix (by kernel_rfl) ?_))
      refine ⟨(pos+1,start,sp),_,⟨n1 (by omega),rfl⟩,by show s.data.toList.length - (pos+1)<s.data.toList.length - pos;omega,?_⟩;exact VS.tm (by simp [leL])
   | false =>
     have hnx:=hI.other (w:=1) (Nat.le_refl _) (by omega) (by
      have hdr:s.data.toList.drop pos=c::s.data.toList.drop (pos+1):=by rw [List.drop_eq_getElem_cons (by omega)];congr 1;exact (List.getElem?_eq_some_iff.1 hc).2
      rw [hdr,wordsL,hb]
      simp)
     by_cases hs0:start<0
     ·have fs:=eq_true hs0
      rw [if_pos hs0] at hnx
      (repeat ((first | with_reducible refine W.step (b:=false) ?_ | skip);simp only [go_sem,↓reduceIte,Nat.reduceAdd,Nat.reduceSub,Nat.reduceMul,Nat.reduceEqDiff,Nat.reduceLeDiff,Nat.reduceLT,Int.reduceLE,Int.reduceLT,Int.reduceToNat,Int.reduceEq,fs];try with_reducible refine drawn hmix (by kernel_rfl) ?_))
      refine ⟨(pos+1,pos,sp),_,⟨hnx,rfl⟩,by show s.data.toList.length - (pos+1)<s.data.toList.length - pos;omega,?_⟩;exact VS.tm (by simp [leL])
     ·have fs:=eq_false hs0
      rw [if_neg hs0] at hnx
      (repeat ((first | with_reducible refine W.step (b:=false) ?_ | skip);simp only [go_sem,↓reduceIte,Nat.reduceAdd,Nat.reduceSub,Nat.reduceMul,Nat.reduceEqDiff,Nat.reduceLeDiff,Nat.reduceLT,Int.reduceLE,Int.reduceLT,Int.reduceToNat,Int.reduceEq,fs];try with_reducible refine drawn hmix (by kernel_rfl) ?_))
      refine ⟨(pos+1,start,sp),_,⟨hnx,rfl⟩,by show s.data.toList.length - (pos+1)<s.data.toList.length - pos;omega,?_⟩;exact VS.tm (by simp [leL])
  ·generalize hd:Utf8.decode s pos=rw at *
   obtain ⟨r,w⟩:=rw;simp only at d1 d2 d3 d4;have HC:=clsCl_p (r:Int) (Int.natCast_nonneg _);have hbf:isBlR (r:Int)=false:=by
    unfold isBlR;simp only [Bool.or_eq_false_iff,beq_eq_false_iff_ne];omega
   rw [hbf] at HC
   have hnx:=hI.other d2 d3 (by
    have:=wordsL_take w (curB s.data.toList start pos) (s.data.toList.drop pos) (by simp;omega) (fun i hi=>by have:=d4 i hi;simpa [List.getD_eq_getElem?_getD,List.getElem?_drop] using this)
    rw [this,List.drop_drop])
   (repeat ((first | with_reducible refine W.step (b:=false) ?_ | skip);simp only [go_sem,↓reduceIte,Nat.reduceAdd,Nat.reduceSub,Nat.reduceMul,Nat.reduceEqDiff,Nat.reduceLeDiff,Nat.reduceLT,Int.reduceLE,Int.reduceLT,Int.reduceToNat,Int.reduceEq,hlt,hd];try with_reducible refine drawn hmix (by kernel_rfl) ?_))
   refine AtCall.mk HC ?_
   by_cases hs0:start<0
   ·have fs:=eq_true hs0
    rw [if_pos hs0] at hnx
    (repeat ((first | with_reducible refine W.step (b:=false) ?_ | skip);simp only [go_sem,↓reduceIte,Nat.reduceAdd,Nat.reduceSub,Nat.reduceMul,Nat.reduceEqDiff,Nat.reduceLeDiff,Nat.reduceLT,Int.reduceLE,Int.reduceLT,Int.reduceToNat,Int.reduceEq,fs];try with_reducible refine drawn hmix (by kernel_rfl) ?_))
    refine ⟨(pos+w,pos,sp),_,⟨hnx,rfl⟩,by show s.data.toList.length - (pos+w)<s.data.toList.length - pos;omega,?_⟩;exact VS.tm (by simp [leL])
   ·have fs:=eq_false hs0
    rw [if_neg hs0] at hnx
    (repeat ((first | with_reducible refine W.step (b:=false) ?_ | skip);simp only [go_sem,↓reduceIte,Nat.reduceAdd,Nat.reduceSub,Nat.reduceMul,Nat.reduceEqDiff,Nat.reduceLeDiff,Nat.reduceLT,Int.reduceLE,Int.reduceLT,Int.reduceToNat,Int.reduceEq,fs];try with_reducible refine drawn hmix (by kernel_rfl) ?_))
    refine ⟨(pos+w,start,sp),_,⟨hnx,rfl⟩,by show s.data.toList.length - (pos+w)<s.data.toList.length - pos;omega,?_⟩;exact VS.tm (by simp [leL])
 ·obtain rfl:pos=s.data.toList.length:=by have:=hI.le;omega
  have fl:(s.data.toList.length<s.size)=False:=eq_false (by omega);have hfin:=hI.fin;have hfit:=hI.fit;obtain ⟨SP,hSP⟩:∃ SP,SP=if start<0 then sp else sp++[(start.toNat,s.data.toList.length)]:=⟨_,rfl⟩
  have hSl:SP.length≤1000001:=by
   rw [hSP]
   split
   ·omega
   ·rw [List.length_append,List.length_singleton];omega
  rw [←hSP] at hfin;have hfit2:∀ p∈SP,p.1≤p.2∧p.2≤s.size:=by
   rw [hSP];intro p hp
   split at hp
   ·have:=hfit p hp;omega
   ·rcases List.mem_append.1 hp with hp | hp
    ·have:=hfit p hp;omega
    ·rw [List.mem_singleton.1 hp];exact ⟨by simp only;omega,by simp only;omega⟩
  have f9:sp.length*17≤17179869184:=by omega
  have f10:(sp.length+1)*17≤17179869184:=by omega
  by_cases hs0:0≤start
  case' pos =>
   have fs:=eq_true hs0;obtain ⟨a,rfl⟩:∃ a:Nat,start=a:=⟨start.toNat,by omega⟩;rw [if_neg (by omega),hsz] at hSP
   (repeat ((first | with_reducible refine W.step (b:=false) ?_ | skip);simp only [go_sem,↓reduceIte,Nat.reduceAdd,Nat.reduceSub,Nat.reduceMul,Nat.reduceEqDiff,Nat.reduceLeDiff,Nat.reduceLT,Int.reduceLE,Int.reduceLT,Int.reduceToNat,Int.reduceEq,fl,fs,f32,hsp,f10];try with_reducible refine drawn hmix (by kernel_rfl) ?_))
   refine W.vs (s1:=stL [(.g (.string s)),.any,.any,.any,.any,.any,.any,.any,.any,(.gs 1 0 SP.length 1 SP.length),.any,.any,.any,.any,.any,.any,.any,.any,.any,.any,.any,.any,.any,.any,.any,.any,.any,.any,.any,.any,.any,.any,.any,.any,.any,.any,.any,.any,.any,.any,.any,.any,.any,.any,.any,.any,.any,(.gs 0 0 SP.length 2 SP.length),(.g (.int .i64 (SP.length:Int))),(.g (.int .i64 ((0:Nat):Int))),.any,.any,.any,.any,.any,.any,.any,.any,.any,.any,.any,.any,.any,.any,.any] [(0,.cells (SP.flatMap encSp)),(1,.cells ((laidW s SP 0).flatMap encN))] 2) ?_ ?_
   ·have hSl:SP.length=sp.length+1:=by rw [hSP];simp
    have hz:=laidW_zero s SP;have hc:SP.flatMap encSp=sp.flatMap encSp++[.g (.int .i64 (a:Int)),.g (.int .i64 (s.size:Int))]:=by rw [hSP];simp [encSp]
    rw [hSl] at hz;refine VS.ren [(0,3),(1,4)] (by simp) (by simp) (Nat.zero_le _) ?_ ⟨⟨3,_,rfl,rfl,_,rfl,.inl ⟨hc,noIdsL_flat (fun _=>rfl) _⟩⟩,⟨4,_,rfl,rfl,_,rfl,.inl ⟨hz.symm,noIdsL_flat (fun _=>rfl) _⟩⟩,trivial⟩;simp only [hSl,go_sem,↓reduceIte,Nat.reduceAdd,Nat.reduceSub,Nat.reduceMul,Nat.reduceEqDiff,Nat.reduceLeDiff,Nat.reduceLT,Int.reduceLE,Int.reduceLT,Int.reduceToNat,Int.reduceEq]
  case' neg =>
   have fs:=eq_false hs0;rw [if_pos (by omega)] at hSP
   (repeat ((first | with_reducible refine W.step (b:=false) ?_ | skip);simp only [go_sem,↓reduceIte,Nat.reduceAdd,Nat.reduceSub,Nat.reduceMul,Nat.reduceEqDiff,Nat.reduceLeDiff,Nat.reduceLT,Int.reduceLE,Int.reduceLT,Int.reduceToNat,Int.reduceEq,fl,fs,f9];try with_reducible refine drawn hmix (by kernel_rfl) ?_))
   refine W.vs (s1:=stL [(.g (.string s)),.any,.any,.any,.any,.any,.any,.any,.any,(.gs 1 0 SP.length 1 SP.length),.any,.any,.any,.any,.any,.any,.any,.any,.any,.any,.any,.any,.any,.any,.any,.any,.any,.any,.any,.any,.any,.any,.any,.any,.any,.any,.any,.any,.any,.any,.any,.any,.any,.any,.any,.any,.any,(.gs 0 0 SP.length 2 SP.length),(.g (.int .i64 (SP.length:Int))),(.g (.int .i64 ((0:Nat):Int))),.any,.any,.any,.any,.any,.any,.any,.any,.any,.any,.any,.any,.any,.any,.any] [(0,.cells (SP.flatMap encSp)),(1,.cells ((laidW s SP 0).flatMap encN))] 2) ?_ ?_
   ·have hz:=laidW_zero s SP
    subst hSP;refine VS.ren [(0,0),(1,2)] (by simp) (by simp) (Nat.zero_le _) ?_ ⟨⟨0,_,rfl,rfl,_,rfl,.inl ⟨rfl,noIdsL_flat (fun _=>rfl) _⟩⟩,⟨2,_,rfl,rfl,_,rfl,.inl ⟨hz.symm,noIdsL_flat (fun _=>rfl) _⟩⟩,trivial⟩;simp only [go_sem,↓reduceIte,Nat.reduceAdd,Nat.reduceSub,Nat.reduceMul,Nat.reduceEqDiff,Nat.reduceLeDiff,Nat.reduceLT,Int.reduceLE,Int.reduceLT,Int.reduceToNat,Int.reduceEq]
  all_goals
   clear f9 f10 hfit hI hsp f32 hst hlow hSP;have hwd:(SP.map fun p=>cutS s p.1 p.2)=wordsB s:=by
    unfold wordsB;rw [←hfin,List.map_map]
    rfl
   refine W.loop (s1:=stL [(.g (.string s)),.any,.any,.any,.any,.any,.any,.any,.any,(.gs 1 0 SP.length 1 SP.length),.any,.any,.any,.any,.any,.any,.any,.any,.any,.any,.any,.any,.any,.any,.any,.any,.any,.any,.any,.any,.any,.any,.any,.any,.any,.any,.any,.any,.any,.any,.any,.any,.any,.any,.any,.any,.any,(.gs 0 0 SP.length 2 SP.length),(.g (.int .i64 (SP.length:Int))),(.g (.int .i64 ((0:Nat):Int))),.any,.any,.any,.any,.any,.any,.any,.any,.any,.any,.any,.any,.any,.any,.any] [(0,.cells (SP.flatMap encSp)),(1,.cells ((laidW s SP 0).flatMap encN))] 2)
    (fun (k:Nat) t=>k≤SP.length∧t=stL [(.g (.string s)),.any,.any,.any,.any,.any,.any,.any,.any,(.gs 1 0 SP.length 1 SP.length),.any,.any,.any,.any,.any,.any,.any,.any,.any,.any,.any,.any,.any,.any,.any,.any,.any,.any,.any,.any,.any,.any,.any,.any,.any,.any,.any,.any,.any,.any,.any,.any,.any,.any,.any,.any,.any,(.gs 0 0 SP.length 2 SP.length),(.g (.int .i64 (SP.length:Int))),(.g (.int .i64 (k:Int))),.any,.any,.any,.any,.any,.any,.any,.any,.any,.any,.any,.any,.any,.any,.any] [(0,.cells (SP.flatMap encSp)),(1,.cells ((laidW s SP k).flatMap encN))] 2) (fun k=>SP.length - k) 0 ⟨Nat.zero_le _,rfl⟩ (VS.refl _) ?_
   rintro k t ⟨hk,rfl⟩
   by_cases hlt:k<SP.length
   ·have r:=rowSp hlt
    obtain ⟨g1,g2⟩:=hfit2 _ (List.getElem_mem hlt);have hl1:=laidW_len (s:=s) (sp:=SP) hk;have hput:=putN (laidW s SP k) k (cutS s SP[k].1 SP[k].2) (by omega);rw [laidW_set hlt] at hput;have g3:k+1≤((laidW s SP k).flatMap encN).length:=by rw [lenN,hl1];exact hlt
    (repeat ((first | with_reducible refine W.step (b:=false) ?_ | skip);simp only [go_sem,↓reduceIte,Nat.reduceAdd,Nat.reduceSub,Nat.reduceMul,Nat.reduceEqDiff,Nat.reduceLeDiff,Nat.reduceLT,Int.reduceLE,Int.reduceLT,Int.reduceToNat,Int.reduceEq,hlt,r,g1,g2,g3,hput];try with_reducible refine drawn hmix (by kernel_rfl) ?_))
    refine ⟨k+1,_,⟨by omega,rfl⟩,by show SP.length - (k+1)<SP.length - k;omega,?_⟩;rw [up1 (by omega)];refine VS.ren [(0,0),(1,1)] (by simp) (by simp) (Nat.zero_le _) ?_ ⟨⟨0,_,rfl,rfl,_,rfl,.inl ⟨rfl,noIdsL_flat (fun _=>rfl) _⟩⟩,⟨1,_,rfl,rfl,_,rfl,.inl ⟨rfl,noIdsL_flat (fun _=>rfl) _⟩⟩,trivial⟩;simp only [go_sem,↓reduceIte,Nat.reduceAdd,Nat.reduceSub,Nat.reduceMul,Nat.reduceEqDiff,Nat.reduceLeDiff,Nat.reduceLT,Int.reduceLE,Int.reduceLT,Int.reduceToNat,Int.reduceEq]
   ·obtain rfl:k=SP.length:=by omega
    (repeat ((first | with_reducible refine W.step (b:=false) ?_ | skip);simp only [go_sem,↓reduceIte,Nat.reduceAdd,Nat.reduceSub,Nat.reduceMul,Nat.reduceEqDiff,Nat.reduceLeDiff,Nat.reduceLT,Int.reduceLE,Int.reduceLT,Int.reduceToNat,Int.reduceEq,hlt];try with_reducible refine drawn hmix (by kernel_rfl) ?_))
    have hl:SP.length=(wordsB s).length:=by rw [←hwd,List.length_map]
    rw [laidW_all,hwd,hl];refine ⟨.inr rfl,[.any,.any,.any,.any,(.gs 0 0 (wordsB s).length 1 (wordsB s).length),.any,.any,.any,.any,.any,.any,.any,.any,.any,.any,.any,.any,.any,.any,.any,.any,.any,.any,.any,.any,.any,.any,.any,.any,.any,.any,.any,.any,.any,.any,.any,.any,.any,.any,.any,.any,.any,.any,.any,.any,.any,.any,.any,.any,.any,.any,.any,.any,.any,.any,.any,.any,.any,.any,.any,.any,.any,.any,.any,.any],VS.ren [(0,1)] (by simp) (by simp) (Nat.zero_le _) ?_ ⟨⟨1,_,rfl,rfl,_,rfl,.inl ⟨rfl,noIdsL_flat (fun _=>rfl) _⟩⟩,trivial⟩,rfl⟩;simp only [go_sem,↓reduceIte,Nat.reduceAdd,Nat.reduceSub,Nat.reduceMul,Nat.reduceEqDiff,Nat.reduceLeDiff,Nat.reduceLT,Int.reduceLE,Int.reduceLT,Int.reduceToNat,Int.reduceEq]
theorem at_size {p:List Nod} (hp:OkPg p) (n:Int) (s:ByteArray):((atM p n s).getD ⟨#[]⟩).size≤1000000:=by
 unfold atM
 split
 ·rename_i he
  obtain ⟨k,rfl,hk,e⟩:=at_nat he;rw [e]
  cases hf:p[k].attrs.find? fun x=>decide (x.name=s) with
  | none=>exact Nat.zero_le _
  | some a=>exact hp.values _ (List.getElem_mem hk) a (List.mem_of_find?_eq_some hf)
 ·exact Nat.zero_le _
set_option maxRecDepth 100000 in
set_option maxHeartbeats 4000000 in
theorem classes_m (p:List Nod) (n:Int) (hp:OkPg p):CallM Tryz.prog gt0 [] [] 0 173 [.sl p.length 5 (p.flatMap encNd),.g (.int .i64 n)] (.gs 0 0 (classesM p n).length 1 (classesM p n).length) [(0,.cells ((classesM p n).flatMap encN))] 1:=by
 refine callM_of_w (c:=_) Tryz.func173 rfl (by kernel_rfl) ?_;simp only [Tryz.f173,List.replicate,List.length_cons,List.length_nil,Nat.reduceAdd,Nat.reduceSub,List.cons_append,List.nil_append]
 (repeat ((first | with_reducible refine W.step (b:=false) ?_ | skip);simp only [go_sem,↓reduceIte,Nat.reduceAdd,Nat.reduceSub,Nat.reduceMul,Nat.reduceEqDiff,Nat.reduceLeDiff,Nat.reduceLT,Int.reduceLE,Int.reduceLT,Int.reduceToNat,Int.reduceEq];try with_reducible refine drawn hmix (by kernel_rfl) ?_))
 refine AtCall.mk (attr_p p n clsB hp.attrs) ?_
 (repeat ((first | with_reducible refine W.step (b:=false) ?_ | skip);simp only [go_sem,↓reduceIte,Nat.reduceAdd,Nat.reduceSub,Nat.reduceMul,Nat.reduceEqDiff,Nat.reduceLeDiff,Nat.reduceLT,Int.reduceLE,Int.reduceLT,Int.reduceToNat,Int.reduceEq];try with_reducible refine drawn hmix (by kernel_rfl) ?_))
 refine AtCall.mem (fields_m ((atM p n clsB).getD ⟨#[]⟩) (at_size hp n clsB)) ?_
 (repeat ((first | with_reducible refine W.step (b:=false) ?_ | skip);simp only [go_sem,↓reduceIte,Nat.reduceAdd,Nat.reduceSub,Nat.reduceMul,Nat.reduceEqDiff,Nat.reduceLeDiff,Nat.reduceLT,Int.reduceLE,Int.reduceLT,Int.reduceToNat,Int.reduceEq];try with_reducible refine drawn hmix (by kernel_rfl) ?_))
 exact ⟨.inr rfl,[.any,.any,.any,.any,(.gs 0 0 (classesM p n).length 1 (classesM p n).length),.any,.any,.any,.any,.any,.any,.any,.any,.any,.any],VS.tm (by simp [leL];rfl),rfl⟩
theorem classes_p (p:List Nod) (n:Int) (hp:OkPg p):PureN Tryz.prog gt0 173 [.sl p.length 5 (p.flatMap encNd),.g (.int .i64 n)] (.sl (classesM p n).length 1 ((classesM p n).flatMap encN)):=by
 have hs:=SealTo.gs (m:=[(0,.cells ((classesM p n).flatMap encN))]) (b:=0) (o:=0) (k:=(classesM p n).length) (sz:=1) (c:=(classesM p n).length) rfl (by rw [lenN];omega) (fun a ha=>by
  have h1:=List.mem_of_mem_drop (List.mem_of_mem_take ha);obtain ⟨x,-,hx⟩:=List.mem_flatMap.1 h1
  simp [encN] at hx;subst hx;rfl)
 rw [List.drop_zero,List.take_of_length_le (by rw [lenN];omega)] at hs;exact (classes_m p n hp).pureN rfl hs
attribute [go_sem] appL newsA isSlice
theorem ag_sts:aggO Tryz.prog 70=some (false,1):=by kernel_rfl
theorem ag_st:aggO Tryz.prog 152=some (true,2):=by kernel_rfl
theorem el_sts:elemO Tryz.prog 70=some 2:=by kernel_rfl
theorem ag_world:aggO Tryz.prog 249=some (true,2):=by kernel_rfl
theorem fl_world0:fldO Tryz.prog 249 0=some (0,69):=by kernel_rfl
theorem fl_world1:fldO Tryz.prog 249 1=some (1,70):=by kernel_rfl
theorem bl_st (parts:List (Nat×AV)):evBuild Tryz.prog 152 parts=aggM (fillL [(0,1),(1,1)] [.g (.int .i64 0),.g (.string ⟨#[]⟩)] parts):=evBuild_eq (by kernel_rfl) parts
theorem eqg_st:Tryz.prog.eqGuardType Tryz.prog.depth 152=false:=by kernel_rfl
theorem st_eq9 (k1 k2:Int) (s1 s2:ByteArray):pv Tryz.prog (binOp .eql 152 (.agg #[.int .i64 k1,.string s1]) (.agg #[.int .i64 k2,.string s2]))=some (.bool (decide (k1=k2)&&(decide (s1=s2)&&true))) :=
 pv_eql_agg Tryz.underlying152 (by kernel_rfl) (by simp [eqFs,Tryz.underlying3,Tryz.underlying9])
attribute [go_sem] ag_sts ag_st el_sts ag_world fl_world0 fl_world1 bl_st eqg_st
theorem rowSt {l:List Stt} {k:Nat} (hk:k<l.length):((l.flatMap encSt).drop (k*2)).take 2=[.g (.int .i64 l[k].node),.g (.string l[k].name)]∧k*2+2≤(l.flatMap encSt).length :=
 ⟨row_part encSt 2 (fun _=>rfl) l k hk 0 2 (by decide),row_fit encSt 2 (fun _=>rfl) l k hk (j:=0) (by decide)⟩
theorem idx_ge {α:Type} (pr:α→Bool) (l:List α):decide (0≤idxL pr l)=l.any pr:=by
 rcases find_idx pr l with ⟨h1,h2⟩ | ⟨k,hk,h1,h2⟩
 ·rw [h1,show l.any pr=false by rw [List.any_eq_false];rw [List.find?_eq_none] at h2;exact h2];rfl
 ·rw [h1,show l.any pr=true by rw [List.any_eq_true];exact ⟨l[k],List.getElem_mem hk,List.find?_some h2⟩]
  exact decide_eq_true (by omega)
set_option maxRecDepth 100000 in
set_option maxHeartbeats 4000000 in
theorem indexN_p (l:List ByteArray) (x:ByteArray) (hl:l.length≤1000001):PureN Tryz.prog gt0 184 [.sl l.length 1 (l.flatMap encN),.g (.string x)] (.g (.int .i64 (idxL (fun y=>decide (y=x)) l))):=by
 refine PureN.of_w (c:=_) Tryz.func184 rfl (by kernel_rfl) rfl ?_;simp only [Tryz.f184,List.replicate,List.length_cons,List.length_nil,Nat.reduceAdd,Nat.reduceSub,List.cons_append,List.nil_append]
 (repeat ((first | with_reducible refine W.step (b:=false) ?_ | skip);simp only [go_sem,↓reduceIte,Nat.reduceAdd,Nat.reduceSub,Nat.reduceMul,Nat.reduceEqDiff,Nat.reduceLeDiff,Nat.reduceLT,Int.reduceLE,Int.reduceLT,Int.reduceToNat,Int.reduceEq];try with_reducible refine drawn hmix (by kernel_rfl) ?_))
 refine W.loop (s1:=stL [(.sl l.length 1 (l.flatMap encN)),(.g (.string x)),.any,.any,.any,.any,.any,(.g (.int .i64 (l.length:Int))),(.g (.int .i64 ((0:Nat):Int))),.any,.any,.any,.any,.any,.any,.any,.any,.any,.any] [] 0)
  (fun (k:Nat) t=>k≤l.length∧(∀ y∈l.take k,decide (y=x)=false)∧t=stL [(.sl l.length 1 (l.flatMap encN)),(.g (.string x)),.any,.any,.any,.any,.any,(.g (.int .i64 (l.length:Int))),(.g (.int .i64 (k:Int))),.any,.any,.any,.any,.any,.any,.any,.any,.any,.any] [] 0) (fun k=>l.length - k) 0 ⟨Nat.zero_le _,by simp,rfl⟩ (VS.tm (by simp [leL])) ?_
 rintro k t ⟨hk,he,rfl⟩
 by_cases hlt:k<l.length
 ·have r:=rowN hlt
  by_cases hx:l[k]=x
  ·have fx:(x=l[k])=True:=eq_true hx.symm
   (repeat ((first | with_reducible refine W.step (b:=false) ?_ | skip);simp only [go_sem,↓reduceIte,Nat.reduceAdd,Nat.reduceSub,Nat.reduceMul,Nat.reduceEqDiff,Nat.reduceLeDiff,Nat.reduceLT,Int.reduceLE,Int.reduceLT,Int.reduceToNat,Int.reduceEq,hlt,r,fx];try with_reducible refine drawn hmix (by kernel_rfl) ?_))
   rw [idxL_hit hlt he (decide_eq_true hx)];exact postP_one _ (.inr rfl) rfl (.plain rfl)
  ·have fx:(x=l[k])=False:=eq_false (fun e=>hx e.symm)
   (repeat ((first | with_reducible refine W.step (b:=false) ?_ | skip);simp only [go_sem,↓reduceIte,Nat.reduceAdd,Nat.reduceSub,Nat.reduceMul,Nat.reduceEqDiff,Nat.reduceLeDiff,Nat.reduceLT,Int.reduceLE,Int.reduceLT,Int.reduceToNat,Int.reduceEq,hlt,r,fx];try with_reducible refine drawn hmix (by kernel_rfl) ?_))
   refine ⟨k+1,_,⟨by omega,take_next (pr:=fun y=>decide (y=x)) hlt he (decide_eq_false hx),rfl⟩,by show l.length - (k+1)<l.length - k;omega,VS.tm ?_⟩;rw [up1 (by omega)];simp [leL]
 ·(repeat ((first | with_reducible refine W.step (b:=false) ?_ | skip);simp only [go_sem,↓reduceIte,Nat.reduceAdd,Nat.reduceSub,Nat.reduceMul,Nat.reduceEqDiff,Nat.reduceLeDiff,Nat.reduceLT,Int.reduceLE,Int.reduceLT,Int.reduceToNat,Int.reduceEq,hlt];try with_reducible refine drawn hmix (by kernel_rfl) ?_))
  rw [idxL_none (fun y hy=>he y (by rw [List.take_of_length_le (by omega)];exact hy))];exact postP_one _ (.inr rfl) rfl (.plain rfl)
theorem containsN_p (l:List ByteArray) (x:ByteArray) (hl:l.length≤1000001):PureN Tryz.prog gt0 115 [.sl l.length 1 (l.flatMap encN),.g (.string x)] (.g (.bool (l.any fun y=>decide (y=x)))):=by
 refine PureN.of_w (c:=_) Tryz.func115 rfl (by kernel_rfl) rfl ?_;simp only [Tryz.f115,List.replicate,List.length_cons,List.length_nil,Nat.reduceAdd,Nat.reduceSub,List.cons_append,List.nil_append]
 (repeat ((first | with_reducible refine W.step (b:=false) ?_ | skip);simp only [go_sem,↓reduceIte,Nat.reduceAdd,Nat.reduceSub,Nat.reduceMul,Nat.reduceEqDiff,Nat.reduceLeDiff,Nat.reduceLT,Int.reduceLE,Int.reduceLT,Int.reduceToNat,Int.reduceEq];try with_reducible refine drawn hmix (by kernel_rfl) ?_))
 refine AtCall.mk (indexN_p l x hl) ?_
 (repeat ((first | with_reducible refine W.step (b:=false) ?_ | skip);simp only [go_sem,↓reduceIte,Nat.reduceAdd,Nat.reduceSub,Nat.reduceMul,Nat.reduceEqDiff,Nat.reduceLeDiff,Nat.reduceLT,Int.reduceLE,Int.reduceLT,Int.reduceToNat,Int.reduceEq];try with_reducible refine drawn hmix (by kernel_rfl) ?_))
 rw [idx_ge];exact postP_one _ (.inr rfl) rfl (.plain rfl)
set_option maxRecDepth 100000 in
set_option maxHeartbeats 4000000 in
theorem indexSt_p (l:List Stt) (x:Stt) (hl:l.length≤1000000):PureN Tryz.prog gt0 354 [.sl l.length 2 (l.flatMap encSt),.agg (encSt x)] (.g (.int .i64 (idxL (fun y:Stt=>decide (y.node=x.node)&&decide (y.name=x.name)) l))):=by
 refine PureN.of_w (c:=_) Tryz.func354 rfl (by kernel_rfl) rfl ?_;simp only [Tryz.f354,List.replicate,List.length_cons,List.length_nil,Nat.reduceAdd,Nat.reduceSub,List.cons_append,List.nil_append,encSt]
 (repeat ((first | with_reducible refine W.step (b:=false) ?_ | skip);simp only [go_sem,↓reduceIte,Nat.reduceAdd,Nat.reduceSub,Nat.reduceMul,Nat.reduceEqDiff,Nat.reduceLeDiff,Nat.reduceLT,Int.reduceLE,Int.reduceLT,Int.reduceToNat,Int.reduceEq];try with_reducible refine drawn hmix (by kernel_rfl) ?_))
 refine W.loop (s1:=stL [(.sl l.length 2 (l.flatMap encSt)),.any,.any,(.ptr 0 0),.any,.any,.any,(.g (.int .i64 (l.length:Int))),(.g (.int .i64 ((0:Nat):Int))),.any,.any,.any,.any,.any,.any,.any,.any,.any,.any] [(0,.cells [.g (.int .i64 x.node),.g (.string x.name)])] 1)
  (fun (k:Nat) t=>k≤l.length∧(∀ y∈l.take k,(decide (y.node=x.node)&&decide (y.name=x.name))=false)∧t=stL [(.sl l.length 2 (l.flatMap encSt)),.any,.any,(.ptr 0 0),.any,.any,.any,(.g (.int .i64 (l.length:Int))),(.g (.int .i64 (k:Int))),.any,.any,.any,.any,.any,.any,.any,.any,.any,.any] [(0,.cells [.g (.int .i64 x.node),.g (.string x.name)])] 1) (fun k=>l.length - k) 0 ⟨Nat.zero_le _,by simp,rfl⟩ (VS.tm (by simp [leL])) ?_
 rintro k t ⟨hk,he,rfl⟩
 by_cases hlt:k<l.length
 ·obtain ⟨r1,r2⟩:=rowSt hlt
  cases hx:(decide (l[k].node=x.node)&&decide (l[k].name=x.name)) with
  | true =>
    have fx:(decide (x.node=l[k].node)&&decide (x.name=l[k].name))=true:=by rw [←hx];simp only [eq_comm]
    (repeat ((first | with_reducible refine W.step (b:=false) ?_ | skip);simp only [go_sem,↓reduceIte,Nat.reduceAdd,Nat.reduceSub,Nat.reduceMul,Nat.reduceEqDiff,Nat.reduceLeDiff,Nat.reduceLT,Int.reduceLE,Int.reduceLT,Int.reduceToNat,Int.reduceEq,hlt,r1,r2,st_eq9,fx];try with_reducible refine drawn hmix (by kernel_rfl) ?_))
    rw [idxL_hit hlt he hx];exact postP_one _ (.inr rfl) rfl (.plain rfl)
  | false =>
    have fx:(decide (x.node=l[k].node)&&decide (x.name=l[k].name))=false:=by rw [←hx];simp only [eq_comm]
    (repeat ((first | with_reducible refine W.step (b:=false) ?_ | skip);simp only [go_sem,↓reduceIte,Nat.reduceAdd,Nat.reduceSub,Nat.reduceMul,Nat.reduceEqDiff,Nat.reduceLeDiff,Nat.reduceLT,Int.reduceLE,Int.reduceLT,Int.reduceToNat,Int.reduceEq,hlt,r1,r2,st_eq9,fx];try with_reducible refine drawn hmix (by kernel_rfl) ?_))
    refine ⟨k+1,_,⟨by omega,take_next (pr:=fun y:Stt=>decide (y.node=x.node)&&decide (y.name=x.name)) hlt he hx,rfl⟩,by show l.length - (k+1)<l.length - k;omega,VS.tm ?_⟩;rw [up1 (by omega)];simp [leL]
 ·(repeat ((first | with_reducible refine W.step (b:=false) ?_ | skip);simp only [go_sem,↓reduceIte,Nat.reduceAdd,Nat.reduceSub,Nat.reduceMul,Nat.reduceEqDiff,Nat.reduceLeDiff,Nat.reduceLT,Int.reduceLE,Int.reduceLT,Int.reduceToNat,Int.reduceEq,hlt];try with_reducible refine drawn hmix (by kernel_rfl) ?_))
  rw [idxL_none (fun y hy=>he y (by rw [List.take_of_length_le (by omega)];exact hy))];exact postP_one _ (.inr rfl) rfl (.plain rfl)
theorem containsSt_p (l:List Stt) (x:Stt) (hl:l.length≤1000000):PureN Tryz.prog gt0 332 [.sl l.length 2 (l.flatMap encSt),.agg [.g (.int .i64 x.node),.g (.string x.name)]] (.g (.bool (l.any fun y=>decide (y.node=x.node)&&decide (y.name=x.name)))):=by
 refine PureN.of_w (c:=_) Tryz.func332 rfl (by kernel_rfl) rfl ?_;simp only [Tryz.f332,List.replicate,List.length_cons,List.length_nil,Nat.reduceAdd,Nat.reduceSub,List.cons_append,List.nil_append]
 (repeat ((first | with_reducible refine W.step (b:=false) ?_ | skip);simp only [go_sem,↓reduceIte,Nat.reduceAdd,Nat.reduceSub,Nat.reduceMul,Nat.reduceEqDiff,Nat.reduceLeDiff,Nat.reduceLT,Int.reduceLE,Int.reduceLT,Int.reduceToNat,Int.reduceEq];try with_reducible refine drawn hmix (by kernel_rfl) ?_))
 refine AtCall.mk (indexSt_p l x hl) ?_
 (repeat ((first | with_reducible refine W.step (b:=false) ?_ | skip);simp only [go_sem,↓reduceIte,Nat.reduceAdd,Nat.reduceSub,Nat.reduceMul,Nat.reduceEqDiff,Nat.reduceLeDiff,Nat.reduceLT,Int.reduceLE,Int.reduceLT,Int.reduceToNat,Int.reduceEq];try with_reducible refine drawn hmix (by kernel_rfl) ?_))
 rw [idx_ge];exact postP_one _ (.inr rfl) rfl (.plain rfl)
abbrev wldA (p:List Nod) (st:List Stt):List AV:=[.sl p.length 5 (p.flatMap encNd),.sl st.length 2 (st.flatMap encSt)]
set_option maxRecDepth 100000 in
set_option maxHeartbeats 4000000 in
theorem wattr_p (p:List Nod) (st:List Stt) (n:Int) (s:ByteArray) (l:List ByteArray) (hp:OkPg p) (hl:l.length≤1000000):PureN Tryz.prog gt0 331 [.agg (wldA p st),.g (.int .i64 n),.g (.string s),.sl l.length 1 (l.flatMap encN)] (.g (.bool (attrB p n s l))):=by
 have HC:=fun x=>containsN_p l x (Nat.le_succ_of_le hl);refine PureN.of_w (c:=_) Tryz.func331 rfl (by kernel_rfl) rfl ?_;simp only [Tryz.f331,List.replicate,List.length_cons,List.length_nil,Nat.reduceAdd,Nat.reduceSub,List.cons_append,List.nil_append,wldA]
 (repeat ((first | with_reducible refine W.step (b:=false) ?_ | skip);simp only [go_sem,↓reduceIte,Nat.reduceAdd,Nat.reduceSub,Nat.reduceMul,Nat.reduceEqDiff,Nat.reduceLeDiff,Nat.reduceLT,Int.reduceLE,Int.reduceLT,Int.reduceToNat,Int.reduceEq];try with_reducible refine drawn hmix (by kernel_rfl) ?_))
 refine AtCall.mk (attr_p p n s hp.attrs) ?_;unfold attrB
 cases ha:atM p n s with
 | none =>
   (repeat ((first | with_reducible refine W.step (b:=false) ?_ | skip);simp only [go_sem,↓reduceIte,Nat.reduceAdd,Nat.reduceSub,Nat.reduceMul,Nat.reduceEqDiff,Nat.reduceLeDiff,Nat.reduceLT,Int.reduceLE,Int.reduceLT,Int.reduceToNat,Int.reduceEq];try with_reducible refine drawn hmix (by kernel_rfl) ?_))
   exact postP_one _ (.inr rfl) rfl (.plain rfl)
 | some v =>
   by_cases hn:l=[]
   ·have fl:((l.length:Int)=0)=True:=eq_true (by rw [hn];rfl)
    have fr:(decide (l=[])||l.any fun y=>decide (y=v))=true:=by rw [decide_eq_true hn];rfl
    simp only [fr]
    (repeat ((first | with_reducible refine W.step (b:=false) ?_ | skip);simp only [go_sem,↓reduceIte,Nat.reduceAdd,Nat.reduceSub,Nat.reduceMul,Nat.reduceEqDiff,Nat.reduceLeDiff,Nat.reduceLT,Int.reduceLE,Int.reduceLT,Int.reduceToNat,Int.reduceEq,fl];try with_reducible refine drawn hmix (by kernel_rfl) ?_))
    exact postP_one _ (.inr rfl) rfl (.plain rfl)
   ·have fl:((l.length:Int)=0)=False:=eq_false (fun e=>hn (List.eq_nil_of_length_eq_zero (by omega)))
    have fr:(decide (l=[])||l.any fun y=>decide (y=v))=l.any fun y=>decide (y=v):=by rw [decide_eq_false hn];rfl
    simp only [fr]
    (repeat ((first | with_reducible refine W.step (b:=false) ?_ | skip);simp only [go_sem,↓reduceIte,Nat.reduceAdd,Nat.reduceSub,Nat.reduceMul,Nat.reduceEqDiff,Nat.reduceLeDiff,Nat.reduceLT,Int.reduceLE,Int.reduceLT,Int.reduceToNat,Int.reduceEq,fl];try with_reducible refine drawn hmix (by kernel_rfl) ?_))
    refine AtCall.mk (HC v) ?_
    (repeat ((first | with_reducible refine W.step (b:=false) ?_ | skip);simp only [go_sem,↓reduceIte,Nat.reduceAdd,Nat.reduceSub,Nat.reduceMul,Nat.reduceEqDiff,Nat.reduceLeDiff,Nat.reduceLT,Int.reduceLE,Int.reduceLT,Int.reduceToNat,Int.reduceEq];try with_reducible refine drawn hmix (by kernel_rfl) ?_))
    exact postP_one _ (.inr rfl) rfl (.plain rfl)
theorem kin_len {p:List Nod} {n:Int} (hp:OkPg p):(kinM p n).length≤1000000:=by
 unfold kinM
 split
 ·rename_i h
  refine Nat.le_trans (List.length_filter_le _ _) ?_;obtain ⟨u,hu⟩:∃ u:Nat,(ndAt p n).up=u:=⟨(ndAt p n).up.toNat,by omega⟩;rw [hu,ndAt_nat (by omega)];exact hp.kids _ (List.getElem_mem (by omega))
 ·exact Nat.zero_le _
theorem idx_bound {α:Type} (pr:α→Bool) (l:List α) (h:l.length≤1000000):-1≤idxL pr l∧idxL pr l<1000000:=by
 rcases find_idx pr l with ⟨h1,-⟩ | ⟨k,hk,h1,-⟩ <;> omega
set_option maxRecDepth 100000 in
set_option maxHeartbeats 4000000 in
theorem place_p (p:List Nod) (st:List Stt) (n:Int) (hp:OkPg p):PureN Tryz.prog gt0 334 [.agg (wldA p st),.g (.int .i64 n)] (.g (.int .i64 (placeM p n))):=by
 refine PureN.of_w (c:=_) Tryz.func334 rfl (by kernel_rfl) rfl ?_;simp only [Tryz.f334,List.replicate,List.length_cons,List.length_nil,Nat.reduceAdd,Nat.reduceSub,List.cons_append,List.nil_append,wldA];have hb:=idx_bound (fun k=>decide (k=n)) (kinM p n) (kin_len hp);have fw:IntKind.i64.wrap (1+idxL (fun k=>decide (k=n)) (kinM p n))=placeM p n:=IntWalk.i64_in _ (by omega)
 (repeat ((first | with_reducible refine W.step (b:=false) ?_ | skip);simp only [go_sem,↓reduceIte,Nat.reduceAdd,Nat.reduceSub,Nat.reduceMul,Nat.reduceEqDiff,Nat.reduceLeDiff,Nat.reduceLT,Int.reduceLE,Int.reduceLT,Int.reduceToNat,Int.reduceEq];try with_reducible refine drawn hmix (by kernel_rfl) ?_))
 refine AtCall.mk (kin_p p n hp) ?_
 (repeat ((first | with_reducible refine W.step (b:=false) ?_ | skip);simp only [go_sem,↓reduceIte,Nat.reduceAdd,Nat.reduceSub,Nat.reduceMul,Nat.reduceEqDiff,Nat.reduceLeDiff,Nat.reduceLT,Int.reduceLE,Int.reduceLT,Int.reduceToNat,Int.reduceEq];try with_reducible refine drawn hmix (by kernel_rfl) ?_))
 refine AtCall.mk (indexI_p (kinM p n) n (kin_len hp)) ?_
 (repeat ((first | with_reducible refine W.step (b:=false) ?_ | skip);simp only [go_sem,↓reduceIte,Nat.reduceAdd,Nat.reduceSub,Nat.reduceMul,Nat.reduceEqDiff,Nat.reduceLeDiff,Nat.reduceLT,Int.reduceLE,Int.reduceLT,Int.reduceToNat,Int.reduceEq,fw];try with_reducible refine drawn hmix (by kernel_rfl) ?_))
 exact postP_one _ (.inr rfl) rfl (.plain rfl)
theorem ahead_cut {l:List Int} {n:Int} {k:Nat} (hk:k<l.length) (h:idxL (fun k=>decide (k=n)) l=(k:Int)):l.takeWhile (fun k=>!decide (k=n))=l.take k:=by
 obtain ⟨h1,h2⟩:=idx_first hk h;have e:l=l.take k++l[k]::l.drop (k+1):=by rw [←List.drop_eq_getElem_cons hk,List.take_append_drop]
 conv=>lhs;rw [e]
 rw [List.takeWhile_append_of_pos (fun x hx=>by rw [h2 x hx];rfl),List.takeWhile_cons,h1];simp
set_option maxRecDepth 100000 in
set_option maxHeartbeats 4000000 in
theorem ahead_p (p:List Nod) (st:List Stt) (n:Int) (hp:OkPg p) (hin:n∈kinM p n):PureN Tryz.prog gt0 338 [.agg (wldA p st),.g (.int .i64 n)] (.sl (aheadM p n).length 1 ((aheadM p n).flatMap encZ)):=by
 refine PureN.of_w (c:=_) Tryz.func338 rfl (by kernel_rfl) rfl ?_;simp only [Tryz.f338,List.replicate,List.length_cons,List.length_nil,Nat.reduceAdd,Nat.reduceSub,List.cons_append,List.nil_append,wldA];obtain ⟨k,hk,h1⟩:∃ k:Nat,k<(kinM p n).length∧idxL (fun k=>decide (k=n)) (kinM p n)=(k:Int):=by
  rcases find_idx (fun k=>decide (k=n)) (kinM p n) with ⟨-,h2⟩ | ⟨k,hk,h1,-⟩
  ·rw [List.find?_eq_none] at h2
   exact absurd (decide_eq_true rfl) (h2 n hin)
  ·exact ⟨k,hk,h1⟩
 have hc:aheadM p n=(kinM p n).take k:=ahead_cut hk h1;have hle:k≤(kinM p n).length:=by omega
 have hl:(aheadM p n).length=k:=by rw [hc,List.length_take];omega
 have hz:((kinM p n).flatMap encZ).take k=(aheadM p n).flatMap encZ:=by rw [hc,mapZ,mapZ,List.map_take]
 rw [hl]
 (repeat ((first | with_reducible refine W.step (b:=false) ?_ | skip);simp only [go_sem,↓reduceIte,Nat.reduceAdd,Nat.reduceSub,Nat.reduceMul,Nat.reduceEqDiff,Nat.reduceLeDiff,Nat.reduceLT,Int.reduceLE,Int.reduceLT,Int.reduceToNat,Int.reduceEq];try with_reducible refine drawn hmix (by kernel_rfl) ?_))
 refine AtCall.mk (kin_p p n hp) ?_
 (repeat ((first | with_reducible refine W.step (b:=false) ?_ | skip);simp only [go_sem,↓reduceIte,Nat.reduceAdd,Nat.reduceSub,Nat.reduceMul,Nat.reduceEqDiff,Nat.reduceLeDiff,Nat.reduceLT,Int.reduceLE,Int.reduceLT,Int.reduceToNat,Int.reduceEq];try with_reducible refine drawn hmix (by kernel_rfl) ?_))
 refine AtCall.mk (indexI_p (kinM p n) n (kin_len hp)) ?_;rw [h1]
 (repeat ((first | with_reducible refine W.step (b:=false) ?_ | skip);simp only [go_sem,↓reduceIte,Nat.reduceAdd,Nat.reduceSub,Nat.reduceMul,Nat.reduceEqDiff,Nat.reduceLeDiff,Nat.reduceLT,Int.reduceLE,Int.reduceLT,Int.reduceToNat,Int.reduceEq,hle,hz];try with_reducible refine drawn hmix (by kernel_rfl) ?_))
 exact postP_one _ (.inr rfl) rfl (.plain rfl)
set_option maxRecDepth 100000 in
set_option maxHeartbeats 4000000 in
theorem above_p (p:List Nod) (st:List Stt) (n:Nat) (hp:OkPg p) (hT:TreeP p) (hn:n<p.length):PureN Tryz.prog gt0 337 [.agg (wldA p st),.g (.int .i64 (n:Int))] (.sl (aboveM p n).length 1 (((aboveM p n).map fun k:Nat=>(k:Int)).flatMap encZ)):=by
 refine PureN.of_w2 (c:=_) Tryz.func337 rfl (by kernel_rfl) rfl ?_;simp only [Tryz.f337,List.replicate,List.length_cons,List.length_nil,Nat.reduceAdd,Nat.reduceSub,List.cons_append,List.nil_append,wldA];have hlen:=hp.len;have r:=rowNd hn;have hu:=ndAt_nat hn
 (repeat ((first | with_reducible refine W.step (b:=false) ?_ | skip);simp only [go_sem,↓reduceIte,Nat.reduceAdd,Nat.reduceSub,Nat.reduceMul,Nat.reduceEqDiff,Nat.reduceLeDiff,Nat.reduceLT,Int.reduceLE,Int.reduceLT,Int.reduceToNat,Int.reduceEq,hn,r];try with_reducible refine drawn hmix (by kernel_rfl) ?_))
 have hab:∀ k:Nat,aboveM p k=if 0<(ndAt p k).up∧(ndAt p k).up<k then (ndAt p k).up.toNat::aboveM p (ndAt p k).up.toNat else []:=fun k=>by rw [aboveM]
 have hup:∀ (k:Nat) (hk:k<p.length),0<k→0≤p[k].up∧p[k].up<k:=fun k hk h0=>by rw [←ndAt_nat hk];exact hT.up k h0 hk
 refine W.loop (s1:=stL [.any,(.g (.int .i64 p[n].up)),(.ptr 0 0),.any,.any,(ownA 1 1 0 ([]:List Int)),.any,.any,.any,.any,.any,.any,.any,.any,.any,.any,.any,.any,.any,.any,.any,.any,.any,.any,.any] ([(0,.cells [.sl p.length 5 (p.flatMap encNd),.sl st.length 2 (st.flatMap encSt)])]++rowsM encZ 1 (fun _=>([]:List Int)) 1) 2)
  (fun (q:List Int×Int) t=>(q.2<p.length∧q.1.length≤n∧(0<q.2→q.2<n)∧((aboveM p n).map fun k:Nat=>(k:Int))=q.1++(if 0<q.2 then q.2::((aboveM p q.2.toNat).map fun k:Nat=>(k:Int)) else [])∧q.1.length+q.2.toNat≤n)∧t=stL [.any,(.g (.int .i64 q.2)),(.ptr 0 0),.any,.any,(ownA 1 1 0 q.1),.any,.any,.any,.any,.any,.any,.any,.any,.any,.any,.any,.any,.any,.any,.any,.any,.any,.any,.any] ([(0,.cells [.sl p.length 5 (p.flatMap encNd),.sl st.length 2 (st.flatMap encSt)])]++rowsM encZ 1 (fun _=>q.1) 1) 2) (fun q=>q.2.toNat)
  ([],p[n].up) ⟨?_,rfl⟩ ?_ ?_
 ·have hb:0<p[n].up→p[n].up<n:=fun h=>by
   by_cases h0:n=0
   ·have:=hT.root0 (by omega)
    subst h0;rw [←hu];simp only [Int.natCast_zero];omega
   ·exact (hup n hn (by omega)).2
  simp only [List.length_nil,List.nil_append];refine ⟨by omega,by omega,hb,?_,by omega⟩;rw [hab,hu]
  by_cases h0:0<p[n].up
  ·rw [if_pos ⟨h0,hb h0⟩,if_pos h0,List.map_cons]
   congr 1
   omega
  ·rw [if_neg (by omega),if_neg h0];rfl
 ·exact VS.same (by decide) (fun _=>rfl) (by simp [leL,ownA])
 rintro ⟨acc,u⟩ t ⟨⟨h1,h2,h4,h3,h5⟩,rfl⟩;simp only at h1 h2 h3 h4 h5
 by_cases h0:0<u
 ·have f0:=eq_true h0
  obtain ⟨k,rfl⟩:∃ k:Nat,u=k:=⟨u.toNat,by omega⟩;have hk:k<p.length:=by omega
  have rk:=rowNd hk;have huk:=hup k hk (by omega);have hnext:p[k].up<p.length∧(acc++[(k:Int)]).length≤n∧(0<p[k].up→p[k].up<n)∧((aboveM p n).map fun k:Nat=>(k:Int))=(acc++[(k:Int)])++(if 0<p[k].up then p[k].up::((aboveM p p[k].up.toNat).map fun k:Nat=>(k:Int)) else [])∧(acc++[(k:Int)]).length+p[k].up.toNat≤n:=by
   rw [List.length_append,List.length_singleton];refine ⟨by omega,by omega,fun h=>by omega,?_,by omega⟩;rw [h3,if_pos h0,Int.toNat_natCast,hab,ndAt_nat hk]
   by_cases hz:0<p[k].up
   ·rw [if_pos ⟨hz,huk.2⟩,if_pos hz,List.map_cons,show ((p[k].up.toNat:Nat):Int)=p[k].up by omega];simp
   ·rw [if_neg (by omega),if_neg hz];simp
  have hm:p[k].up.toNat<k:=by omega
  have hne:acc++[(k:Int)]≠[]:=by simp
  by_cases hnil:acc=[]
  ·subst hnil
   (repeat ((first | with_reducible refine W.step (b:=false) ?_ | skip);simp only [go_sem,↓reduceIte,Nat.reduceAdd,Nat.reduceSub,Nat.reduceMul,Nat.reduceEqDiff,Nat.reduceLeDiff,Nat.reduceLT,Int.reduceLE,Int.reduceLT,Int.reduceToNat,Int.reduceEq,own_nil,rows_nil,f0,hk,rk];try with_reducible refine drawn hmix (by kernel_rfl) ?_))
   refine ⟨([]++[(k:Int)],p[k].up),_,⟨hnext,rfl⟩,by show p[k].up.toNat<(k:Int).toNat;omega,?_⟩;refine VS.grow (enc:=encZ) (F:=[(0,.cells [.sl p.length 5 (p.flatMap encNd),.sl st.length 2 (st.flatMap encSt)])]) 1 (nn:=3) (by decide) (fun _=>rfl) ?_ (by simp [getL,encZ]) ?_
   ·intro c x hc
    rw [getL] at hc
    split at hc
    ·rename_i h;subst h;cases hc
     exact ⟨by decide,by simp [nmB,nmL,nmA],by simp [getL]⟩
    ·cases hc
   ·simp [reT_cons,reT_nil,reF,ltA,ownH,ownA]
  ·have hacc:=rows_one (enc:=encZ) (b0:=1) hnil
   have ho:=ownA_pos (b0:=1) (sz:=1) (j:=0) hnil;have f1:(acc.length+1≤acc.length)=False:=eq_false (by omega);have hlz:=lenZ acc;have hlen:=hp.len;have f2:(acc.length+1)*9≤17179869184:=by omega
   (repeat ((first | with_reducible refine W.step (b:=false) ?_ | skip);simp only [go_sem,↓reduceIte,Nat.reduceAdd,Nat.reduceSub,Nat.reduceMul,Nat.reduceEqDiff,Nat.reduceLeDiff,Nat.reduceLT,Int.reduceLE,Int.reduceLT,Int.reduceToNat,Int.reduceEq,hacc,ho,f0,hk,rk,f1,f2];try with_reducible refine drawn hmix (by kernel_rfl) ?_))
   refine ⟨(acc++[(k:Int)],p[k].up),_,⟨hnext,rfl⟩,by show p[k].up.toNat<(k:Int).toNat;omega,?_⟩;refine VS.grow (enc:=encZ) (F:=[(0,.cells [.sl p.length 5 (p.flatMap encNd),.sl st.length 2 (st.flatMap encSt)])]) 1 (nn:=3) (by decide) (fun _=>rfl) ?_ ?_ ?_
   ·intro c x hc
    rw [getL] at hc
    split at hc
    ·rename_i h;subst h;cases hc
     exact ⟨by decide,by simp [nmB,nmL,nmA],by simp [getL]⟩
    ·cases hc
   ·rw [List.flatMap_append];simp [getL,encZ]
   ·rw [ownA_pos hne]
    simp [reT_cons,reT_nil,reF,ltA,ownH]
 ·have f0:=eq_false h0
  rw [if_neg h0,List.append_nil] at h3;have hla:(aboveM p n).length=acc.length:=by rw [←List.length_map (f:=fun k:Nat=>(k:Int)),h3]
  rw [h3,hla]
  by_cases hnil:acc=[]
  ·subst hnil
   (repeat ((first | with_reducible refine W.step (b:=false) ?_ | skip);simp only [go_sem,↓reduceIte,Nat.reduceAdd,Nat.reduceSub,Nat.reduceMul,Nat.reduceEqDiff,Nat.reduceLeDiff,Nat.reduceLT,Int.reduceLE,Int.reduceLT,Int.reduceToNat,Int.reduceEq,own_nil,rows_nil,f0];try with_reducible refine drawn hmix (by kernel_rfl) ?_))
   exact postV_nil 1 _ (.inr rfl) rfl
  ·have hacc:=rows_one (enc:=encZ) (b0:=1) hnil
   have ho:=ownA_pos (b0:=1) (sz:=1) (j:=0) hnil
   (repeat ((first | with_reducible refine W.step (b:=false) ?_ | skip);simp only [go_sem,↓reduceIte,Nat.reduceAdd,Nat.reduceSub,Nat.reduceMul,Nat.reduceEqDiff,Nat.reduceLeDiff,Nat.reduceLT,Int.reduceLE,Int.reduceLT,Int.reduceToNat,Int.reduceEq,hacc,ho,f0];try with_reducible refine drawn hmix (by kernel_rfl) ?_))
   have hs:=SealTo.gs (m:=[(0,.cells [.sl p.length 5 (p.flatMap encNd),.sl st.length 2 (st.flatMap encSt)]),(1,.cells (acc.flatMap encZ))]) (b:=1) (o:=0) (k:=acc.length) (sz:=1) (c:=acc.length) rfl (by rw [lenZ];omega) (fun a ha=>by
    have h1:=List.mem_of_mem_drop (List.mem_of_mem_take ha);obtain ⟨x,-,hx⟩:=List.mem_flatMap.1 h1
    simp [encZ] at hx;subst hx;rfl)
   rw [List.drop_zero,Nat.mul_one,takeZ] at hs;exact postV.of (postP_one _ (.inr rfl) rfl hs)
set_option maxRecDepth 100000 in
set_option maxHeartbeats 4000000 in
theorem related_p (p:List Nod) (st:List Stt) (n:Nat) (comb:Int) (hp:OkPg p) (hT:TreeP p) (hn:n<p.length) (hin:(n:Int)∈kinM p n):PureN Tryz.prog gt0 303 [.agg (wldA p st),.g (.int .i64 (n:Int)),.g (.int .i64 comb)] (.sl (relatedM p n comb).length 1 ((relatedM p n comb).flatMap encZ)):=by
 have HB:=above_p p st n hp hT hn;have HA:=ahead_p p st n hp hin;refine PureN.of_w2 (c:=_) Tryz.func303 rfl (by kernel_rfl) rfl ?_;simp only [Tryz.f303,List.replicate,List.length_cons,List.length_nil,Nat.reduceAdd,Nat.reduceSub,List.cons_append,List.nil_append,wldA];unfold relatedM
 by_cases h1:comb=1
 ·have f1:=eq_true h1
  rw [if_pos h1,List.length_map]
  (repeat ((first | with_reducible refine W.step (b:=false) ?_ | skip);simp only [go_sem,↓reduceIte,Nat.reduceAdd,Nat.reduceSub,Nat.reduceMul,Nat.reduceEqDiff,Nat.reduceLeDiff,Nat.reduceLT,Int.reduceLE,Int.reduceLT,Int.reduceToNat,Int.reduceEq,f1];try with_reducible refine drawn hmix (by kernel_rfl) ?_))
  refine AtCall.mk HB ?_
  (repeat ((first | with_reducible refine W.step (b:=false) ?_ | skip);simp only [go_sem,↓reduceIte,Nat.reduceAdd,Nat.reduceSub,Nat.reduceMul,Nat.reduceEqDiff,Nat.reduceLeDiff,Nat.reduceLT,Int.reduceLE,Int.reduceLT,Int.reduceToNat,Int.reduceEq];try with_reducible refine drawn hmix (by kernel_rfl) ?_))
  exact postV.of (postP_one _ (.inr rfl) rfl (.plain rfl))
 have f1:=eq_false h1;rw [if_neg h1]
 by_cases h2:comb=2
 ·have f2:=eq_true h2
  rw [if_pos h2,List.length_map]
  (repeat ((first | with_reducible refine W.step (b:=false) ?_ | skip);simp only [go_sem,↓reduceIte,Nat.reduceAdd,Nat.reduceSub,Nat.reduceMul,Nat.reduceEqDiff,Nat.reduceLeDiff,Nat.reduceLT,Int.reduceLE,Int.reduceLT,Int.reduceToNat,Int.reduceEq,f1,f2];try with_reducible refine drawn hmix (by kernel_rfl) ?_))
  refine AtCall.mk HB ?_;obtain ⟨k,hk⟩:∃ k,k=min 1 (aboveM p n).length:=⟨_,rfl⟩;have fm:(if ((aboveM p n).length:Int)<1 then ((aboveM p n).length:Int) else 1)=(k:Int):=by rw [hk];split <;> omega
  have fk:k≤(aboveM p n).length:=by omega
  have hl:((aboveM p n).take 1).length=k:=by rw [List.length_take];omega
  have hz:(((aboveM p n).map fun k:Nat=>(k:Int)).flatMap encZ).take k=(((aboveM p n).take 1).map fun k:Nat=>(k:Int)).flatMap encZ:=by
   rw [mapZ,mapZ,←List.map_take,←List.map_take,hk]
   congr 2
   rw [List.take_eq_take_iff];omega
  rw [hl]
  (repeat ((first | with_reducible refine W.step (b:=false) ?_ | skip);simp only [go_sem,↓reduceIte,Nat.reduceAdd,Nat.reduceSub,Nat.reduceMul,Nat.reduceEqDiff,Nat.reduceLeDiff,Nat.reduceLT,Int.reduceLE,Int.reduceLT,Int.reduceToNat,Int.reduceEq,fm,fk,hz];try with_reducible refine drawn hmix (by kernel_rfl) ?_))
  exact postV.of (postP_one _ (.inr rfl) rfl (.plain rfl))
 have f2:=eq_false h2;rw [if_neg h2]
 by_cases h3:comb=3
 ·have f3:=eq_true h3
  rw [if_pos h3]
  (repeat ((first | with_reducible refine W.step (b:=false) ?_ | skip);simp only [go_sem,↓reduceIte,Nat.reduceAdd,Nat.reduceSub,Nat.reduceMul,Nat.reduceEqDiff,Nat.reduceLeDiff,Nat.reduceLT,Int.reduceLE,Int.reduceLT,Int.reduceToNat,Int.reduceEq,f1,f2,f3];try with_reducible refine drawn hmix (by kernel_rfl) ?_))
  refine AtCall.mk HA ?_;have hal:(aheadM p n).length≤1000000:=Nat.le_trans (List.takeWhile_sublist _).length_le (kin_len hp);have fw:IntKind.i64.wrap (((aheadM p n).length:Int) - 1)=((aheadM p n).length:Int) - 1:=IntWalk.i64_in _ (by omega);have fm:(if 0<((aheadM p n).length:Int) - 1 then ((aheadM p n).length:Int) - 1 else 0)=(((aheadM p n).length - 1:Nat):Int):=by split <;> omega
  have fk:(aheadM p n).length - 1≤(aheadM p n).length:=by omega
  have hl:((aheadM p n).drop ((aheadM p n).length - 1)).length=(aheadM p n).length - ((aheadM p n).length - 1):=List.length_drop;have hz:(((aheadM p n).flatMap encZ).drop ((aheadM p n).length - 1)).take ((aheadM p n).length - ((aheadM p n).length - 1))=((aheadM p n).drop ((aheadM p n).length - 1)).flatMap encZ:=by
   rw [List.take_of_length_le (by rw [List.length_drop,lenZ];exact Nat.le_refl _),mapZ,mapZ,List.map_drop]
  rw [hl]
  (repeat ((first | with_reducible refine W.step (b:=false) ?_ | skip);simp only [go_sem,↓reduceIte,Nat.reduceAdd,Nat.reduceSub,Nat.reduceMul,Nat.reduceEqDiff,Nat.reduceLeDiff,Nat.reduceLT,Int.reduceLE,Int.reduceLT,Int.reduceToNat,Int.reduceEq,fw,fm,fk,hz];try with_reducible refine drawn hmix (by kernel_rfl) ?_))
  exact postV.of (postP_one _ (.inr rfl) rfl (.plain rfl))
 have f3:=eq_false h3;rw [if_neg h3]
 by_cases h4:comb=4
 ·have f4:=eq_true h4
  rw [if_pos h4]
  (repeat ((first | with_reducible refine W.step (b:=false) ?_ | skip);simp only [go_sem,↓reduceIte,Nat.reduceAdd,Nat.reduceSub,Nat.reduceMul,Nat.reduceEqDiff,Nat.reduceLeDiff,Nat.reduceLT,Int.reduceLE,Int.reduceLT,Int.reduceToNat,Int.reduceEq,f1,f2,f3,f4];try with_reducible refine drawn hmix (by kernel_rfl) ?_))
  refine AtCall.mk HA ?_
  (repeat ((first | with_reducible refine W.step (b:=false) ?_ | skip);simp only [go_sem,↓reduceIte,Nat.reduceAdd,Nat.reduceSub,Nat.reduceMul,Nat.reduceEqDiff,Nat.reduceLeDiff,Nat.reduceLT,Int.reduceLE,Int.reduceLT,Int.reduceToNat,Int.reduceEq];try with_reducible refine drawn hmix (by kernel_rfl) ?_))
  exact postV.of (postP_one _ (.inr rfl) rfl (.plain rfl))
 ·have f4:=eq_false h4
  rw [if_neg h4]
  (repeat ((first | with_reducible refine W.step (b:=false) ?_ | skip);simp only [go_sem,↓reduceIte,Nat.reduceAdd,Nat.reduceSub,Nat.reduceMul,Nat.reduceEqDiff,Nat.reduceLeDiff,Nat.reduceLT,Int.reduceLE,Int.reduceLT,Int.reduceToNat,Int.reduceEq,f1,f2,f3,f4];try with_reducible refine drawn hmix (by kernel_rfl) ?_))
  exact postV_nil 1 _ (.inr rfl) rfl
theorem rowS6 {l:List Simp} {k:Nat} (hk:k<l.length):((l.flatMap encS).drop (k*6)).take 6=encS l[k]∧k*6+6≤(l.flatMap encS).length:=by
 have h2:=row_part encS 6 encS_len l k hk 0 6 (by decide);rw [Nat.add_zero,List.drop_zero,List.take_of_length_le (l:=encS l[k]) (by rw [encS_len];decide)] at h2;exact ⟨h2,row_fit encS 6 encS_len l k hk (j:=0) (by decide)⟩
set_option maxRecDepth 100000 in
set_option maxHeartbeats 4000000 in
theorem idxFS_m (l:List Simp) (hl:l.length≤1000000) (pr:Simp→Bool) (g:Nat) (caps:List AV) (m:ML) (n:Nat)
 (hc:∀ x∈l,CallM Tryz.prog gt0 [] m n g (.agg (encS x)::caps) (.g (.bool (pr x))) m n) :
 CallM Tryz.prog gt0 [] m n 166 [.sl l.length 6 (l.flatMap encS),.fn (.func g) [] caps] (.g (.int .i64 (idxL pr l))) m n:=by
 refine callM_of_w (c:=_) Tryz.func166 rfl (by kernel_rfl) ?_;simp only [Tryz.f166,List.replicate,List.length_cons,List.length_nil,Nat.reduceAdd,Nat.reduceSub,List.cons_append,List.nil_append]
 (repeat ((first | with_reducible refine W.step (b:=false) ?_ | skip);simp only [go_sem,↓reduceIte,Nat.reduceAdd,Nat.reduceSub,Nat.reduceMul,Nat.reduceEqDiff,Nat.reduceLeDiff,Nat.reduceLT,Int.reduceLE,Int.reduceLT,Int.reduceToNat,Int.reduceEq];try with_reducible refine drawn hmix (by kernel_rfl) ?_))
 refine W.loop (s1:=stL [(.sl l.length 6 (l.flatMap encS)),(.fn (.func g) [] caps),.any,.any,.any,.any,.any,(.g (.int .i64 (l.length:Int))),(.g (.int .i64 ((0:Nat):Int))),.any,.any,.any,.any,.any,.any,.any,.any,.any,.any] m n)
  (fun (k:Nat) t=>k≤l.length∧(∀ x∈l.take k,pr x=false)∧t=stL [(.sl l.length 6 (l.flatMap encS)),(.fn (.func g) [] caps),.any,.any,.any,.any,.any,(.g (.int .i64 (l.length:Int))),(.g (.int .i64 (k:Int))),.any,.any,.any,.any,.any,.any,.any,.any,.any,.any] m n) (fun k=>l.length - k) 0 ⟨Nat.zero_le _,by simp,rfl⟩ (VS.tm (by simp [leL])) ?_
 rintro k t ⟨hk,he,rfl⟩
 by_cases hlt:k<l.length
 ·obtain ⟨r1,r2⟩:=rowS6 hlt
  (repeat ((first | with_reducible refine W.step (b:=false) ?_ | skip);simp only [go_sem,↓reduceIte,Nat.reduceAdd,Nat.reduceSub,Nat.reduceMul,Nat.reduceEqDiff,Nat.reduceLeDiff,Nat.reduceLT,Int.reduceLE,Int.reduceLT,Int.reduceToNat,Int.reduceEq,hlt,r1,r2];try with_reducible refine drawn hmix (by kernel_rfl) ?_))
  refine AtCall.mem (hc _ (List.getElem_mem hlt)) ?_
  cases hx:pr l[k] with
  | true =>
    (repeat ((first | with_reducible refine W.step (b:=false) ?_ | skip);simp only [go_sem,↓reduceIte,Nat.reduceAdd,Nat.reduceSub,Nat.reduceMul,Nat.reduceEqDiff,Nat.reduceLeDiff,Nat.reduceLT,Int.reduceLE,Int.reduceLT,Int.reduceToNat,Int.reduceEq];try with_reducible refine drawn hmix (by kernel_rfl) ?_))
    rw [idxL_hit hlt he hx];exact ⟨.inr rfl,[.any,.any,.any,.any,(.g (.int .i64 (k:Int))),.any,.any,.any,.any,.any,.any,.any,.any,.any,.any,.any,.any,.any,.any],VS.tm (by simp [leL]),rfl⟩
  | false =>
    (repeat ((first | with_reducible refine W.step (b:=false) ?_ | skip);simp only [go_sem,↓reduceIte,Nat.reduceAdd,Nat.reduceSub,Nat.reduceMul,Nat.reduceEqDiff,Nat.reduceLeDiff,Nat.reduceLT,Int.reduceLE,Int.reduceLT,Int.reduceToNat,Int.reduceEq];try with_reducible refine drawn hmix (by kernel_rfl) ?_))
    refine ⟨k+1,_,⟨by omega,take_next hlt he hx,rfl⟩,by show l.length - (k+1)<l.length - k;omega,VS.tm ?_⟩;rw [up1 (by omega)];simp [leL]
 ·(repeat ((first | with_reducible refine W.step (b:=false) ?_ | skip);simp only [go_sem,↓reduceIte,Nat.reduceAdd,Nat.reduceSub,Nat.reduceMul,Nat.reduceEqDiff,Nat.reduceLeDiff,Nat.reduceLT,Int.reduceLE,Int.reduceLT,Int.reduceToNat,Int.reduceEq,hlt];try with_reducible refine drawn hmix (by kernel_rfl) ?_))
  rw [idxL_none (fun x hx=>he x (by rw [List.take_of_length_le (by omega)];exact hx))];exact ⟨.inr rfl,[.any,.any,.any,.any,(.g (.int .i64 (-1))),.any,.any,.any,.any,.any,.any,.any,.any,.any,.any,.any,.any,.any,.any],VS.tm (by simp [leL]),rfl⟩
theorem conFS_m (l:List Simp) (hl:l.length≤1000000) (pr:Simp→Bool) (g:Nat) (caps:List AV) (m:ML) (n:Nat)
 (hc:∀ x∈l,CallM Tryz.prog gt0 [] m n g (.agg (encS x)::caps) (.g (.bool (pr x))) m n) :
 CallM Tryz.prog gt0 [] m n 299 [.sl l.length 6 (l.flatMap encS),.fn (.func g) [] caps] (.g (.bool (l.any pr))) m n:=by
 refine callM_of_w (c:=_) Tryz.func299 rfl (by kernel_rfl) ?_;simp only [Tryz.f299,List.replicate,List.length_cons,List.length_nil,Nat.reduceAdd,Nat.reduceSub,List.cons_append,List.nil_append]
 (repeat ((first | with_reducible refine W.step (b:=false) ?_ | skip);simp only [go_sem,↓reduceIte,Nat.reduceAdd,Nat.reduceSub,Nat.reduceMul,Nat.reduceEqDiff,Nat.reduceLeDiff,Nat.reduceLT,Int.reduceLE,Int.reduceLT,Int.reduceToNat,Int.reduceEq];try with_reducible refine drawn hmix (by kernel_rfl) ?_))
 refine AtCall.mem (idxFS_m l hl pr g caps m n hc) ?_
 (repeat ((first | with_reducible refine W.step (b:=false) ?_ | skip);simp only [go_sem,↓reduceIte,Nat.reduceAdd,Nat.reduceSub,Nat.reduceMul,Nat.reduceEqDiff,Nat.reduceLeDiff,Nat.reduceLT,Int.reduceLE,Int.reduceLT,Int.reduceToNat,Int.reduceEq];try with_reducible refine drawn hmix (by kernel_rfl) ?_))
 rw [idx_ge];exact ⟨.inr rfl,[.any,.any,.any,.any,(.g (.bool (l.any pr))),.any,.any,.any,.any],VS.tm (by simp [leL]),rfl⟩
attribute [go_sem] appL newsA isSlice
theorem sz_simp:szO Tryz.prog 239=some 6:=by kernel_rfl
attribute [go_sem] sz_simp
theorem encS_m (k:Int) (nm v:ByteArray) (a b:Int) (l:List Simp):encS (.mk k nm v a b l)=[.g (.int .i64 k),.g (.string nm),.g (.string v),.g (.int .i64 a),.g (.int .i64 b),.sl l.length 6 (l.flatMap encS)]:=by rw [encS,encSs_flat]
theorem wordsL_len:∀ (l cur:List UInt8),(wordsL cur l).length≤l.length+1
 | [],cur=>by rw [wordsL];split <;> simp
 | c::l,cur=>by
   rw [wordsL]
   split
   ·split
    ·have:=wordsL_len l [];simp only [List.length_cons];omega
    ·have:=wordsL_len l [];simp only [List.length_cons];omega
   ·have:=wordsL_len l (cur++[c]);simp only [List.length_cons];omega
theorem classes_len {p:List Nod} {n:Int} (hp:OkPg p):(classesM p n).length≤1000001:=by
 unfold classesM wordsB;rw [List.length_map];refine Nat.le_trans (wordsL_len _ _) ?_;have:=at_size hp n clsB;rw [Array.length_toList];exact Nat.succ_le_succ this
theorem noIds_S (x:Simp):noIdsL (encS x)=true:=by cases x;rw [encS_m];rfl
theorem holdsCl_m (p:List Nod) (st:List Stt) (n:Int) (y:Simp) (H:PureN Tryz.prog gt0 301 [.agg (wldA p st),.g (.int .i64 n),.agg (encS y)] (.g (.bool (holdsS p st n y)))) (m:ML) (nn q1 q2:Nat) (l1:q1<nn) (l2:q2<nn)
 (h1:getL m q1=some (.cells (wldA p st))) (h2:getL m q2=some (.cells [.g (.int .i64 n)])):CallM Tryz.prog gt0 [] m nn 335 [.agg (encS y),.ptr q1 0,.ptr q2 0] (.g (.bool (holdsS p st n y))) m nn:=by
 obtain ⟨kind,name,value,a,b,l⟩:=y;rw [encS_m] at H ⊢;generalize holdsS p st n (.mk kind name value a b l)=R at *;have g1:(nn=q1)=False:=eq_false (by omega);have g2:(nn=q2)=False:=eq_false (by omega);refine callM_of_w (c:=_) Tryz.func335 rfl (by kernel_rfl) ?_;simp only [Tryz.f335,List.replicate,List.length_cons,List.length_nil,Nat.reduceAdd,Nat.reduceSub,List.cons_append,List.nil_append]
 (repeat ((first | with_reducible refine W.step (b:=false) ?_ | skip);simp only [go_sem,↓reduceIte,Nat.reduceAdd,Nat.reduceSub,Nat.reduceMul,Nat.reduceEqDiff,Nat.reduceLeDiff,Nat.reduceLT,Int.reduceLE,Int.reduceLT,Int.reduceToNat,Int.reduceEq,h1,h2,g1,g2];try with_reducible refine drawn hmix (by kernel_rfl) ?_))
 refine AtCall.mk H ?_
 (repeat ((first | with_reducible refine W.step (b:=false) ?_ | skip);simp only [go_sem,↓reduceIte,Nat.reduceAdd,Nat.reduceSub,Nat.reduceMul,Nat.reduceEqDiff,Nat.reduceLeDiff,Nat.reduceLT,Int.reduceLE,Int.reduceLT,Int.reduceToNat,Int.reduceEq];try with_reducible refine drawn hmix (by kernel_rfl) ?_))
 refine ⟨.inr rfl,[.any,.any,.any,.any,(.g (.bool R)),.any,.any,.any,.any],VS.pop (fun c x hn hc=>by rw [getL,if_neg (by omega)];exact hc) (by simp [keepT_cons,keepT_nil,ltA]),rfl⟩
def okS:Simp→Prop
 | .mk _ _ _ _ _ l=>l.length≤1000000∧okL l
where okL:List Simp→Prop
 | []=>True
 | x::xs=>okS x∧okL xs
theorem okL_mem:∀ {l:List Simp},okS.okL l→∀ y∈l,okS y
 | x::xs,h,y,hy=>by
   rcases List.mem_cons.1 hy with rfl | hy
   ·exact h.1
   ·exact okL_mem h.2 y hy
set_option maxRecDepth 100000 in
set_option maxHeartbeats 4000000 in
theorem holds_p (p:List Nod) (st:List Stt) (n:Int) (hp:OkPg p) (hs:st.length≤1000000) (he:elemB p n=true) (N:Nat):∀ (x:Simp),SizeOf.sizeOf x≤N→okS x→PureN Tryz.prog gt0 301 [.agg (wldA p st),.g (.int .i64 n),.agg (encS x)] (.g (.bool (holdsS p st n x))):=by
 induction N with
 | zero=>intro x hl;cases x;simp at hl
 | succ N ih =>
   rintro ⟨kind,name,value,a,b,l⟩ hl hok;have IH:∀ y∈l,PureN Tryz.prog gt0 301 [.agg (wldA p st),.g (.int .i64 n),.agg (encS y)] (.g (.bool (holdsS p st n y))):=fun y hy=>by
    have h1:=List.sizeOf_lt_of_mem hy;have h2:=okL_mem hok.2 y hy;rw [Simp.mk.sizeOf_spec] at hl;exact ih y (by omega) h2
   refine PureN.of_w (c:=_) Tryz.func301 rfl (by kernel_rfl) (by simp [noIdsL,noIds,noIds_S]) ?_;simp only [Tryz.f301,List.replicate,List.length_cons,List.length_nil,Nat.reduceAdd,Nat.reduceSub,List.cons_append,List.nil_append,wldA,encS_m,holdsS];obtain ⟨k,rfl,hk,hnd⟩:=at_nat he;have r:=rowNd hk
   by_cases h1:kind=1
   ·have f1:=eq_true h1
    rw [if_pos h1]
    (repeat ((first | with_reducible refine W.step (b:=false) ?_ | skip);simp only [go_sem,↓reduceIte,Nat.reduceAdd,Nat.reduceSub,Nat.reduceMul,Nat.reduceEqDiff,Nat.reduceLeDiff,Nat.reduceLT,Int.reduceLE,Int.reduceLT,Int.reduceToNat,Int.reduceEq,f1];try with_reducible refine drawn hmix (by kernel_rfl) ?_))
    exact postP_one _ (.inr rfl) rfl (.plain rfl)
   have f1:=eq_false h1;rw [if_neg h1]
   by_cases h2:kind=2
   ·have f2:=eq_true h2
    rw [if_pos h2,hnd]
    (repeat ((first | with_reducible refine W.step (b:=false) ?_ | skip);simp only [go_sem,↓reduceIte,Nat.reduceAdd,Nat.reduceSub,Nat.reduceMul,Nat.reduceEqDiff,Nat.reduceLeDiff,Nat.reduceLT,Int.reduceLE,Int.reduceLT,Int.reduceToNat,Int.reduceEq,f1,f2,hk,r];try with_reducible refine drawn hmix (by kernel_rfl) ?_))
    exact postP_one _ (.inr rfl) rfl (.plain rfl)
   have f2:=eq_false h2;rw [if_neg h2]
   by_cases h3:kind=3
   ·have f3:=eq_true h3
    rw [if_pos h3]
    (repeat ((first | with_reducible refine W.step (b:=false) ?_ | skip);simp only [go_sem,↓reduceIte,Nat.reduceAdd,Nat.reduceSub,Nat.reduceMul,Nat.reduceEqDiff,Nat.reduceLeDiff,Nat.reduceLT,Int.reduceLE,Int.reduceLT,Int.reduceToNat,Int.reduceEq,f1,f2,f3];try with_reducible refine drawn hmix (by kernel_rfl) ?_))
    refine AtCall.mem (PureN.read (wattr_p p st k idB [name] hp (by simp)) (CloseTo.agg (by simp [plainC]) (CloseTo.plain rfl (CloseTo.plain rfl (CloseTo.gs (b:=3) (o:=0) (k:=1) (sz:=1) (cs:=[.g (.string name)]) rfl (by simp) (by simp [plainC]) CloseTo.nil))))) ?_
    (repeat ((first | with_reducible refine W.step (b:=false) ?_ | skip);simp only [go_sem,↓reduceIte,Nat.reduceAdd,Nat.reduceSub,Nat.reduceMul,Nat.reduceEqDiff,Nat.reduceLeDiff,Nat.reduceLT,Int.reduceLE,Int.reduceLT,Int.reduceToNat,Int.reduceEq];try with_reducible refine drawn hmix (by kernel_rfl) ?_))
    exact postP_one _ (.inr rfl) rfl (.plain rfl)
   have f3:=eq_false h3;rw [if_neg h3]
   by_cases h4:kind=4
   ·have f4:=eq_true h4
    rw [if_pos h4]
    (repeat ((first | with_reducible refine W.step (b:=false) ?_ | skip);simp only [go_sem,↓reduceIte,Nat.reduceAdd,Nat.reduceSub,Nat.reduceMul,Nat.reduceEqDiff,Nat.reduceLeDiff,Nat.reduceLT,Int.reduceLE,Int.reduceLT,Int.reduceToNat,Int.reduceEq,f1,f2,f3,f4];try with_reducible refine drawn hmix (by kernel_rfl) ?_))
    refine AtCallQ.mk (classes_p p k hp) ?_
    (repeat ((first | with_reducible refine W.step (b:=false) ?_ | skip);simp only [go_sem,↓reduceIte,Nat.reduceAdd,Nat.reduceSub,Nat.reduceMul,Nat.reduceEqDiff,Nat.reduceLeDiff,Nat.reduceLT,Int.reduceLE,Int.reduceLT,Int.reduceToNat,Int.reduceEq];try with_reducible refine drawn hmix (by kernel_rfl) ?_))
    refine AtCallQ.mk (containsN_p (classesM p k) name (classes_len hp)) ?_
    (repeat ((first | with_reducible refine W.step (b:=false) ?_ | skip);simp only [go_sem,↓reduceIte,Nat.reduceAdd,Nat.reduceSub,Nat.reduceMul,Nat.reduceEqDiff,Nat.reduceLeDiff,Nat.reduceLT,Int.reduceLE,Int.reduceLT,Int.reduceToNat,Int.reduceEq];try with_reducible refine drawn hmix (by kernel_rfl) ?_))
    exact postP_one _ (.inr rfl) rfl (.plain rfl)
   have f4:=eq_false h4;rw [if_neg h4]
   by_cases h5:kind=5
   ·have f5:=eq_true h5
    rw [if_pos h5]
    (repeat ((first | with_reducible refine W.step (b:=false) ?_ | skip);simp only [go_sem,↓reduceIte,Nat.reduceAdd,Nat.reduceSub,Nat.reduceMul,Nat.reduceEqDiff,Nat.reduceLeDiff,Nat.reduceLT,Int.reduceLE,Int.reduceLT,Int.reduceToNat,Int.reduceEq,f1,f2,f3,f4,f5];try with_reducible refine drawn hmix (by kernel_rfl) ?_))
    refine AtCall.mk (PureN.weak (wattr_p p st k name [] hp (by simp)) ⟨_,_,rfl,wkA.refl _,_,_,rfl,wkA.refl _,_,_,rfl,wkA.refl _,_,_,rfl,wkA.nil 1,rfl⟩ rfl) ?_
    (repeat ((first | with_reducible refine W.step (b:=false) ?_ | skip);simp only [go_sem,↓reduceIte,Nat.reduceAdd,Nat.reduceSub,Nat.reduceMul,Nat.reduceEqDiff,Nat.reduceLeDiff,Nat.reduceLT,Int.reduceLE,Int.reduceLT,Int.reduceToNat,Int.reduceEq];try with_reducible refine drawn hmix (by kernel_rfl) ?_))
    exact postP_one _ (.inr rfl) rfl (.plain rfl)
   have f5:=eq_false h5;rw [if_neg h5]
   by_cases h6:kind=6
   ·have f6:=eq_true h6
    rw [if_pos h6]
    (repeat ((first | with_reducible refine W.step (b:=false) ?_ | skip);simp only [go_sem,↓reduceIte,Nat.reduceAdd,Nat.reduceSub,Nat.reduceMul,Nat.reduceEqDiff,Nat.reduceLeDiff,Nat.reduceLT,Int.reduceLE,Int.reduceLT,Int.reduceToNat,Int.reduceEq,f1,f2,f3,f4,f5,f6];try with_reducible refine drawn hmix (by kernel_rfl) ?_))
    refine AtCall.mem (PureN.read (wattr_p p st k name [value] hp (by simp)) (CloseTo.agg (by simp [plainC]) (CloseTo.plain rfl (CloseTo.plain rfl (CloseTo.gs (b:=3) (o:=0) (k:=1) (sz:=1) (cs:=[.g (.string value)]) rfl (by simp) (by simp [plainC]) CloseTo.nil))))) ?_
    (repeat ((first | with_reducible refine W.step (b:=false) ?_ | skip);simp only [go_sem,↓reduceIte,Nat.reduceAdd,Nat.reduceSub,Nat.reduceMul,Nat.reduceEqDiff,Nat.reduceLeDiff,Nat.reduceLT,Int.reduceLE,Int.reduceLT,Int.reduceToNat,Int.reduceEq];try with_reducible refine drawn hmix (by kernel_rfl) ?_))
    exact postP_one _ (.inr rfl) rfl (.plain rfl)
   have f6:=eq_false h6;rw [if_neg h6]
   by_cases h7:kind=7
   ·have f7:=eq_true h7
    rw [if_pos h7]
    (repeat ((first | with_reducible refine W.step (b:=false) ?_ | skip);simp only [go_sem,↓reduceIte,Nat.reduceAdd,Nat.reduceSub,Nat.reduceMul,Nat.reduceEqDiff,Nat.reduceLeDiff,Nat.reduceLT,Int.reduceLE,Int.reduceLT,Int.reduceToNat,Int.reduceEq,f1,f2,f3,f4,f5,f6,f7];try with_reducible refine drawn hmix (by kernel_rfl) ?_))
    refine AtCall.mk (containsSt_p st ⟨k,name⟩ hs) ?_
    (repeat ((first | with_reducible refine W.step (b:=false) ?_ | skip);simp only [go_sem,↓reduceIte,Nat.reduceAdd,Nat.reduceSub,Nat.reduceMul,Nat.reduceEqDiff,Nat.reduceLeDiff,Nat.reduceLT,Int.reduceLE,Int.reduceLT,Int.reduceToNat,Int.reduceEq];try with_reducible refine drawn hmix (by kernel_rfl) ?_))
    exact postP_one _ (.inr rfl) rfl (.plain rfl)
   have f7:=eq_false h7;rw [if_neg h7]
   by_cases h8:kind=8
   ·have f8:=eq_true h8
    rw [if_pos h8]
    (repeat ((first | with_reducible refine W.step (b:=false) ?_ | skip);simp only [go_sem,↓reduceIte,Nat.reduceAdd,Nat.reduceSub,Nat.reduceMul,Nat.reduceEqDiff,Nat.reduceLeDiff,Nat.reduceLT,Int.reduceLE,Int.reduceLT,Int.reduceToNat,Int.reduceEq,f1,f2,f3,f4,f5,f6,f7,f8];try with_reducible refine drawn hmix (by kernel_rfl) ?_))
    refine AtCallQ.mk (place_p p st k hp) ?_
    (repeat ((first | with_reducible refine W.step (b:=false) ?_ | skip);simp only [go_sem,↓reduceIte,Nat.reduceAdd,Nat.reduceSub,Nat.reduceMul,Nat.reduceEqDiff,Nat.reduceLeDiff,Nat.reduceLT,Int.reduceLE,Int.reduceLT,Int.reduceToNat,Int.reduceEq];try with_reducible refine drawn hmix (by kernel_rfl) ?_))
    refine AtCallQ.mk (nth_p a b (placeM p k)) ?_
    (repeat ((first | with_reducible refine W.step (b:=false) ?_ | skip);simp only [go_sem,↓reduceIte,Nat.reduceAdd,Nat.reduceSub,Nat.reduceMul,Nat.reduceEqDiff,Nat.reduceLeDiff,Nat.reduceLT,Int.reduceLE,Int.reduceLT,Int.reduceToNat,Int.reduceEq];try with_reducible refine drawn hmix (by kernel_rfl) ?_))
    exact postP_one _ (.inr rfl) rfl (.plain rfl)
   have f8:=eq_false h8;rw [if_neg h8]
   by_cases h9:kind=9
   ·have f9:=eq_true h9
    rw [if_pos h9,hnd]
    by_cases hu:p[k].up=0
    ·have fu:=eq_true hu
     (repeat ((first | with_reducible refine W.step (b:=false) ?_ | skip);simp only [go_sem,↓reduceIte,Nat.reduceAdd,Nat.reduceSub,Nat.reduceMul,Nat.reduceEqDiff,Nat.reduceLeDiff,Nat.reduceLT,Int.reduceLE,Int.reduceLT,Int.reduceToNat,Int.reduceEq,f1,f2,f3,f4,f5,f6,f7,f8,f9,fu,hk,r];try with_reducible refine drawn hmix (by kernel_rfl) ?_))
     refine AtCall.mk (place_p p st k hp) ?_
     (repeat ((first | with_reducible refine W.step (b:=false) ?_ | skip);simp only [go_sem,↓reduceIte,Nat.reduceAdd,Nat.reduceSub,Nat.reduceMul,Nat.reduceEqDiff,Nat.reduceLeDiff,Nat.reduceLT,Int.reduceLE,Int.reduceLT,Int.reduceToNat,Int.reduceEq];try with_reducible refine drawn hmix (by kernel_rfl) ?_))
     exact postP_one _ (.inr rfl) rfl (.plain rfl)
    ·have fu:=eq_false hu
     (repeat ((first | with_reducible refine W.step (b:=false) ?_ | skip);simp only [go_sem,↓reduceIte,Nat.reduceAdd,Nat.reduceSub,Nat.reduceMul,Nat.reduceEqDiff,Nat.reduceLeDiff,Nat.reduceLT,Int.reduceLE,Int.reduceLT,Int.reduceToNat,Int.reduceEq,f1,f2,f3,f4,f5,f6,f7,f8,f9,fu,hk,r];try with_reducible refine drawn hmix (by kernel_rfl) ?_))
     exact postP_one _ (.inr rfl) rfl (.plain rfl)
   have f9:=eq_false h9;rw [if_neg h9]
   by_cases h10:kind=10
   ·have f10:=eq_true h10
    rw [if_pos h10,hnd];have fz:(p[k].kids.length:Int)=0↔p[k].kids=[]:=by rw [←List.length_eq_zero_iff];omega
    have fz2:decide ((p[k].kids.length:Int)=0)=decide (p[k].kids=[]):=by rw [Bool.eq_iff_iff];simp only [decide_eq_true_eq];exact fz
    (repeat ((first | with_reducible refine W.step (b:=false) ?_ | skip);simp only [go_sem,↓reduceIte,Nat.reduceAdd,Nat.reduceSub,Nat.reduceMul,Nat.reduceEqDiff,Nat.reduceLeDiff,Nat.reduceLT,Int.reduceLE,Int.reduceLT,Int.reduceToNat,Int.reduceEq,f1,f2,f3,f4,f5,f6,f7,f8,f9,f10,hk,r,fz2];try with_reducible refine drawn hmix (by kernel_rfl) ?_))
    exact postP_one _ (.inr rfl) rfl (.plain rfl)
   have f10:=eq_false h10;rw [if_neg h10]
   by_cases h11:kind=11
   ·have f11:=eq_true h11
    rw [if_pos h11]
    (repeat ((first | with_reducible refine W.step (b:=false) ?_ | skip);simp only [go_sem,↓reduceIte,Nat.reduceAdd,Nat.reduceSub,Nat.reduceMul,Nat.reduceEqDiff,Nat.reduceLeDiff,Nat.reduceLT,Int.reduceLE,Int.reduceLT,Int.reduceToNat,Int.reduceEq,f1,f2,f3,f4,f5,f6,f7,f8,f9,f10,f11];try with_reducible refine drawn hmix (by kernel_rfl) ?_))
    refine AtCall.mem (conFS_m l hok.1 (holdsS p st k) 335 _ _ _ fun y hy=>holdsCl_m p st k y (IH y hy) _ _ 0 1 (by decide) (by decide) rfl rfl) ?_;rw [anyS_eq]
    (repeat ((first | with_reducible refine W.step (b:=false) ?_ | skip);simp only [go_sem,↓reduceIte,Nat.reduceAdd,Nat.reduceSub,Nat.reduceMul,Nat.reduceEqDiff,Nat.reduceLeDiff,Nat.reduceLT,Int.reduceLE,Int.reduceLT,Int.reduceToNat,Int.reduceEq];try with_reducible refine drawn hmix (by kernel_rfl) ?_))
    exact postP_one _ (.inr rfl) rfl (.plain rfl)
   have f11:=eq_false h11;rw [if_neg h11]
   (repeat ((first | with_reducible refine W.step (b:=false) ?_ | skip);simp only [go_sem,↓reduceIte,Nat.reduceAdd,Nat.reduceSub,Nat.reduceMul,Nat.reduceEqDiff,Nat.reduceLeDiff,Nat.reduceLT,Int.reduceLE,Int.reduceLT,Int.reduceToNat,Int.reduceEq,f1,f2,f3,f4,f5,f6,f7,f8,f9,f10,f11];try with_reducible refine drawn hmix (by kernel_rfl) ?_))
   exact postP_one _ (.inr rfl) rfl (.plain rfl)
end Go.Proofs.YtlnaihkombcbcaaGreat
namespace Go.Proofs.YtlnaihkombcbcaaGreat
open Go.RowKit Go.Ev
theorem mem_setM {l:List ByteArray} {x:ByteArray}:x∈setM l↔x∈l:=by
 unfold setM;rw [List.mem_map]
 constructor
 ·rintro ⟨y,hy,rfl⟩
  rw [mem_compact,mem_sortM,List.mem_map] at hy;obtain ⟨z,hz,rfl⟩:=hy;exact hz
 ·intro h
  exact ⟨sOf x,by rw [mem_compact,mem_sortM];exact List.mem_map_of_mem h,rfl⟩
theorem bs_inj {a b:Str} (h:bs a=bs b):a=b:=by
 have:=congrArg sOf h;exact this
theorem setM_nodup (l:List ByteArray):(setM l).Nodup:=by
 have h:=rises_nodup (compact_rises (sortM_sorted (l.map sOf)));unfold setM;exact List.Pairwise.map bs (fun a b hne e=>hne (bs_inj e)) h
theorem above_step {p:List Nod} (n:Nat):aboveM p n=if 0<(ndAt p n).up∧(ndAt p n).up<n then (ndAt p n).up.toNat::aboveM p (ndAt p n).up.toNat else []:=by rw [aboveM]
theorem above_lt {p:List Nod}:∀ (n k:Nat),k∈aboveM p n→0<k∧k<n:=by
 intro n
 induction n using Nat.strongRecOn with
 | ind n ih =>
   intro k hk;rw [above_step] at hk
   split at hk
   ·rename_i h
    rcases List.mem_cons.1 hk with rfl | hk
    ·omega
    ·have:=ih _ (by omega) k hk;omega
   ·simp at hk
theorem above_trans {p:List Nod}:∀ (n k j:Nat),k∈aboveM p n→j∈aboveM p k→j∈aboveM p n:=by
 intro n
 induction n using Nat.strongRecOn with
 | ind n ih =>
   intro k j hk hj;rw [above_step] at hk ⊢
   split at hk
   ·rename_i h
    rw [if_pos h];refine List.mem_cons_of_mem _ ?_;rcases List.mem_cons.1 hk with rfl | hk
    ·exact hj
    ·exact ih _ (by omega) k j hk hj
   ·simp at hk
theorem fits_head {p:List Nod} {st:List Stt} {x:Part} {l:List Part} {n:Nat} (h:fitsS p st (x::l) n=true):elemB p n=true∧∀ y∈x.l,holdsS p st n y=true:=by
 cases l with
 | nil =>
   rw [fitsS,Bool.and_eq_true,List.all_eq_true] at h;exact h
 | cons y l =>
   rw [fitsS,Bool.and_eq_true,Bool.and_eq_true,List.all_eq_true] at h;exact h.1
theorem holds_key {p:List Nod} {st:List Stt} {n:Int} {x:Simp} (h:holdsS p st n x=true) (hk:x.kind=3∨x.kind=4∨x.kind=2):(x.kind,x.name)∈keysM p n:=by
 obtain ⟨kind,name,value,a,b,l⟩:=x;simp only [Simp.kind,Simp.name] at hk ⊢;unfold keysM;rw [holdsS] at h;rcases hk with rfl | rfl | rfl
 ·simp only [Int.reduceEq,if_false,if_true,attr_one] at h
  cases hv:atM p n idB with
  | none=>rw [hv] at h;cases h
  | some v =>
    rw [hv] at h;obtain rfl:=of_decide_eq_true h;simp
 ·simp only [Int.reduceEq,if_false,if_true] at h
  rw [List.any_eq_true] at h;obtain ⟨y,hy,he⟩:=h;obtain rfl:=of_decide_eq_true he;refine List.mem_append_right _ (List.mem_append_right _ (List.mem_map.2 ⟨y,mem_setM.2 hy,rfl⟩))
 ·simp only [Int.reduceEq,if_false,if_true] at h
  rw [←of_decide_eq_true h];simp
theorem key_in {p:List Nod} {st:List Stt} {c:Cx} {n:Nat} (h:isM p st c n=true):keyM c∈keysM p n:=by
 unfold isM at h;rw [Bool.and_eq_true,Int.toNat_natCast] at h;have h2:=h.2;unfold keyM
 cases hl:c.parts.getLast? with
 | none=>simp [keysM]
 | some x =>
   have hr:c.parts.reverse.head?=some x:=by rw [List.head?_reverse];exact hl
   obtain ⟨l,hl2⟩:∃ l,c.parts.reverse=x::l:=by
    cases hc:c.parts.reverse with
    | nil=>rw [hc] at hr;cases hr
    | cons y l=>rw [hc] at hr;cases hr;exact ⟨l,rfl⟩
   rw [hl2] at h2;have hall:=(fits_head h2).2;simp only;unfold keyS;have one:∀ (k:Int) (y:Simp),(k=3∨k=4∨k=2)→x.l.find? (fun x=>decide (x.kind=k))=some y→(k,y.name)∈keysM p n:=by
    intro k y hk hf;have e:y.kind=k:=by have:=List.find?_some hf;simpa using this
    have:=holds_key (hall y (List.mem_of_find?_eq_some hf)) (by rw [e];exact hk)
    rwa [e] at this
   cases h3:x.l.find? (fun x=>decide (x.kind=3)) with
   | some y=>exact one 3 y (.inl rfl) h3
   | none =>
     cases h4:x.l.find? (fun x=>decide (x.kind=4)) with
     | some y=>exact one 4 y (.inr (.inl rfl)) h4
     | none =>
       cases h5:x.l.find? (fun x=>decide (x.kind=2)) with
       | some y=>exact one 2 y (.inr (.inr rfl)) h5
       | none=>simp [keysM]
theorem word_nil {k:Int} {s:ByteArray} (h:wordM k s≠⟨#[]⟩):k=3∨k=4∨k=2:=by
 unfold wordM at h
 split at h
 ·exact .inl ‹_›
 ·split at h
  ·exact .inr (.inl ‹_›)
  ·split at h
   ·exact .inr (.inr ‹_›)
   ·exact absurd rfl h
theorem words_in {p:List Nod} {st:List Stt} {l:List Simp} {n:Int} (h:∀ y∈l,holdsS p st n y=true) {w:ByteArray} (hw:w∈wordsS l):w∈wordsK (keysM p n):=by
 unfold wordsS at hw;rw [List.mem_filter,List.mem_map] at hw;obtain ⟨⟨y,hy,rfl⟩,hne⟩:=hw;have hk:=word_nil (by simpa using hne);have:=holds_key (h y hy) hk;unfold wordsK;rw [List.mem_map];refine ⟨(y.kind,y.name),List.mem_filter.2 ⟨this,?_⟩,rfl⟩;simp only [Bool.not_eq_true',decide_eq_false_iff_not];omega
theorem related_above {p:List Nod} {n:Nat} {comb:Int} (hc:comb=1∨comb=2) {k:Int} (hk:k∈relatedM p n comb):k.toNat∈aboveM p n:=by
 unfold relatedM at hk;rcases hc with rfl | rfl
 ·rw [if_pos rfl,List.mem_map] at hk
  obtain ⟨j,hj,rfl⟩:=hk;simpa using hj
 ·rw [if_neg (by decide),if_pos rfl,List.mem_map] at hk
  obtain ⟨j,hj,rfl⟩:=hk;simpa using List.mem_of_mem_take hj
theorem words_above {p:List Nod} {st:List Stt}:∀ (l:List Part) (n:Nat),fitsS p st l n=true→∀ w∈wordsR l,∃ k∈aboveM p n,w∈wordsK (keysM p (k:Int))
 | [],n,h,w,hw=>by simp [wordsR] at hw
 | [x],n,h,w,hw=>by simp [wordsR] at hw
 | x :: y::l,n,h,w,hw=>by
   rw [wordsR] at hw
   split at hw
   ·rename_i hc
    rw [fitsS,Bool.and_eq_true,List.any_eq_true] at h;obtain ⟨-,k,hk,hf⟩:=h;have hka:=related_above hc hk;rcases List.mem_append.1 hw with hw | hw
    ·exact ⟨k.toNat,hka,words_in (fits_head hf).2 hw⟩
    ·obtain ⟨j,hj,hjw⟩:=words_above (y::l) k.toNat hf w hw
     exact ⟨j,above_trans n _ j hka hj,hjw⟩
   ·simp at hw
def okB (b:List Int):Prop:=b.length=4∧∀ x∈b,∃ n:Nat,n<2 ^ 64∧x=(n:Int)
theorem orU_nat {n j:Nat} (hn:n<2 ^ 64) (hj:j<64):orU (n:Int) j=((n ||| 2 ^ j:Nat):Int)∧n ||| 2 ^ j<2 ^ 64:=by
 have h2:2 ^ j<2 ^ 64:=Nat.pow_lt_pow_right (by decide) hj;have hlt:n ||| 2 ^ j<2 ^ 64:=Nat.or_lt_two_pow hn h2
 refine ⟨?_,hlt⟩;unfold orU;rw [Nat.min_eq_left (by omega),Int.one_mul];have e1:IntKind.u64.wrap (2 ^ j)=((2 ^ j:Nat):Int):=by
  have:((2:Int) ^ j)=((2 ^ j:Nat):Int):=by push_cast;rfl
  rw [this];clear hlt this;generalize (2 ^ j:Nat)=z at *;exact IntWalk.u64_in _ (by omega)
 rw [e1,BitVec.toNat_or,BitVec.ofInt_natCast,BitVec.ofInt_natCast,BitVec.toNat_ofNat,BitVec.toNat_ofNat,Nat.mod_eq_of_lt hn,Nat.mod_eq_of_lt h2,IntWalk.u64_in _ (by omega)]
theorem bitOf_nat {n j:Nat} (hn:n<2 ^ 64) (hj:j<64):bitOf (n:Int) j=if n.testBit j then 1 else 0:=by
 unfold bitOf;rw [Nat.min_eq_left (by omega)];have e1:(n:Int).fdiv (2 ^ j)=((n / 2 ^ j:Nat):Int):=by
  have:((2:Int) ^ j)=((2 ^ j:Nat):Int):=by push_cast;rfl
  rw [this,Int.fdiv_eq_ediv_of_nonneg _ (Int.natCast_nonneg _)]
  push_cast;rfl
 have e2:n / 2 ^ j<2 ^ 64:=Nat.lt_of_le_of_lt (Nat.div_le_self _ _) hn;have e3:(BitVec.ofInt 64 1).toNat=1:=by decide
 rw [e1,BitVec.toNat_and,BitVec.ofInt_natCast,BitVec.toNat_ofNat,Nat.mod_eq_of_lt e2,e3,Nat.and_one_is_mod];have e4:n.testBit j=decide (n / 2 ^ j % 2=1):=Nat.testBit_eq_decide_div_mod_eq;rw [e4];have h5:n / 2 ^ j % 2<2:=Nat.mod_lt _ (by decide);rw [IntWalk.u64_in _ (by omega)]
 by_cases h:n / 2 ^ j % 2=1
 ·rw [h];simp
 ·have h0:n / 2 ^ j % 2=0:=by omega
  rw [h0];simp
theorem okB_at {b:List Int} (h:okB b) {i:Nat} (hi:i<4):∃ n:Nat,n<2 ^ 64∧b.getD i 0=(n:Int):=by
 have hl:i<b.length:=by rw [h.1];exact hi
 obtain ⟨n,h1,h2⟩:=h.2 _ (List.getElem_mem hl);exact ⟨n,h1,by rw [List.getD_eq_getElem?_getD,List.getElem?_eq_getElem hl];exact h2⟩
theorem addAt_ok {b:List Int} (h:okB b) {i:Nat} (hi:i<256):okB (addAt b i)∧setAt (addAt b i) i=true∧∀ k,k<256→setAt b k=true→setAt (addAt b i) k=true:=by
 obtain ⟨n,hn,hb⟩:=okB_at h (i:=i / 64) (by omega);obtain ⟨e1,e2⟩:=orU_nat hn (j:=i % 64) (by omega);have hlen:i / 64<b.length:=by rw [h.1];omega
 have hself:(addAt b i).getD (i / 64) 0=((n ||| 2 ^ (i % 64):Nat):Int):=by
  unfold addAt;rw [hb,e1,List.getD_eq_getElem?_getD,List.getElem?_set_self hlen];rfl
 refine ⟨⟨by unfold addAt;rw [List.length_set];exact h.1,fun x hx=>?_⟩,?_,fun k hk hs=>?_⟩
 ·unfold addAt at hx
  rcases List.mem_or_eq_of_mem_set hx with hx | rfl
  ·exact h.2 x hx
  ·rw [hb];exact ⟨_,e2,e1⟩
 ·unfold setAt
  rw [hself,bitOf_nat e2 (by omega),Nat.testBit_or,Nat.testBit_two_pow_self,Bool.or_true]
  rfl
 ·unfold setAt at hs ⊢
  by_cases hki:k / 64=i / 64
  ·rw [hki,hself,bitOf_nat e2 (by omega),Nat.testBit_or]
   rw [hki,hb,bitOf_nat hn (by omega)] at hs
   cases ht:n.testBit (k % 64) with
   | true=>rfl
   | false=>rw [ht] at hs;simp at hs
  ·have:(addAt b i).getD (k / 64) 0=b.getD (k / 64) 0:=by
    unfold addAt;rw [List.getD_eq_getElem?_getD,List.getElem?_set_ne (fun e=>hki e.symm),←List.getD_eq_getElem?_getD]
   rw [this];exact hs
theorem bits_lt (s:ByteArray):(bitA (hashL s.data.toList)).toNat<256∧(bitB (hashL s.data.toList)).toNat<256:=by
 obtain ⟨i,h1,h2⟩:=bitA_nat (hashL s.data.toList);obtain ⟨j,h3,h4⟩:∃ i:Nat,i<256∧bitB (hashL s.data.toList)=(i:Int):=bitA_nat _;rw [h2,h4];exact ⟨by simpa using h1,by simpa using h3⟩
theorem addW_ok {b:List Int} (h:okB b) (s:ByteArray):okB (addW b s)∧mayM (addW b s) s=true∧∀ t,mayM b t=true→mayM (addW b s) t=true:=by
 obtain ⟨b1,b2⟩:=bits_lt s;obtain ⟨h1,h2,h3⟩:=addAt_ok h b1;obtain ⟨k1,k2,k3⟩:=addAt_ok h1 b2;refine ⟨k1,?_,fun t ht=>?_⟩
 ·unfold mayM
  show (setAt (addW b s) _&&setAt (addW b s) _)=true;rw [show addW b s=addAt (addAt b (bitA (hashL s.data.toList)).toNat) (bitB (hashL s.data.toList)).toNat from rfl,k3 _ b1 h2,k2];rfl
 ·obtain ⟨t1,t2⟩:=bits_lt t
  unfold mayM at ht ⊢;rw [Bool.and_eq_true] at ht ⊢;exact ⟨k3 _ t1 (h3 _ t1 ht.1),k3 _ t2 (h3 _ t2 ht.2)⟩
theorem fold_ok:∀ (l:List ByteArray) {b:List Int},okB b→okB (l.foldl addW b)∧∀ t,(t∈l∨mayM b t=true)→mayM (l.foldl addW b) t=true
 | [],b,h=>⟨h,fun t ht=>ht.elim (fun e=>by simp at e) id⟩
 | s::l,b,h=>by
   obtain ⟨h1,h2,h3⟩:=addW_ok h s;obtain ⟨k1,k2⟩:=fold_ok l h1;refine ⟨k1,fun t ht=>k2 t ?_⟩;rcases ht with ht | ht
   ·rcases List.mem_cons.1 ht with rfl | ht
    ·exact .inr h2
    ·exact .inl ht
   ·exact .inr (h3 t ht)
theorem zero_ok:okB [0,0,0,0]:=⟨rfl,fun x hx=>⟨0,by decide,by simp at hx;rw [hx];rfl⟩⟩
theorem words_may {p:List Nod} {st:List Stt} {c:Cx} {n:Nat} (h:isM p st c n=true):(wordsC c).all (mayM (filterM p n))=true:=by
 unfold isM at h;rw [Bool.and_eq_true,Int.toNat_natCast] at h;rw [List.all_eq_true];intro w hw;obtain ⟨k,hk,hkw⟩:=words_above _ n h.2 w hw;exact (fold_ok _ zero_ok).2 w (.inl (List.mem_flatMap.2 ⟨k,hk,hkw⟩))
theorem keys_nodup (p:List Nod) (n:Int):(keysM p n).Nodup:=by
 have h:=setM_nodup (classesM p n);have h4:((setM (classesM p n)).map fun c=>((4:Int),c)).Nodup:=List.Pairwise.map _ (fun a b hne e=>hne (by cases e;rfl)) h;unfold keysM;rw [List.nodup_append];refine ⟨by simp,?_,?_⟩
 ·cases atM p n idB with
  | none=>simpa using h4
  | some v =>
    rw [List.nodup_append];refine ⟨by simp,h4,?_⟩;intro a ha b hb e;simp only [List.mem_singleton] at ha;subst e ha;obtain ⟨c,-,hc⟩:=List.mem_map.1 hb
    cases hc
 ·intro a ha b hb e
  subst e;have hb2:a.1=3∨a.1=4:=by
   rcases List.mem_append.1 hb with hb | hb
   ·cases hv:atM p n idB with
    | none=>rw [hv] at hb;simp at hb
    | some v=>rw [hv] at hb;simp at hb;rw [hb];exact .inl rfl
   ·obtain ⟨c,-,rfl⟩:=List.mem_map.1 hb;exact .inr rfl
  simp at ha;rcases ha with rfl | rfl <;> simp at hb2
def idxs {α:Type} (q:α→Bool) (l:List α):List Nat:=(l.zipIdx.filter fun e=>q e.1).map (·.2)
theorem filter_or {α:Type} (a b:α→Bool):∀ (l:List α),(∀ x∈l,¬(a x=true∧b x=true))→(l.filter fun x=>a x||b x).Perm (l.filter a++l.filter b)
 | [],_=>by simp
 | x::l,h=>by
   have ih:=filter_or a b l fun y hy=>h y (List.mem_cons_of_mem _ hy);have hx:=h x List.mem_cons_self;rw [List.filter_cons,List.filter_cons,List.filter_cons]
   cases ha:a x <;> cases hb:b x
   ·simpa using ih
   ·simp only [Bool.false_or,if_true,Bool.false_eq_true,if_false]
    exact (ih.cons x).trans List.perm_middle.symm
   ·simp only [Bool.or_false,if_true,Bool.false_eq_true,if_false]
    exact ih.cons x
   ·exact absurd ⟨ha,hb⟩ hx
theorem by_keys {α κ:Type} [DecidableEq κ] (f:α→κ) (q:α→Bool) (l:List α):∀ (K:List κ),K.Nodup→(K.flatMap fun k=>l.filter fun e=>decide (f e=k)&&q e).Perm (l.filter fun e=>decide (f e∈K)&&q e)
 | [],_=>by simp
 | k::K,h=>by
   rw [List.nodup_cons] at h;rw [List.flatMap_cons];have ih:=by_keys f q l K h.2;refine (List.Perm.append_left _ ih).trans ?_
   have:=filter_or (fun e=>decide (f e=k)&&q e) (fun e=>decide (f e∈K)&&q e) l (by
    rintro x - ⟨h1,h2⟩;simp only [Bool.and_eq_true,decide_eq_true_eq] at h1 h2
    exact h.1 (h1.1▸h2.1))
   refine this.symm.trans (List.Perm.of_eq ?_);refine List.filter_congr fun x _=>?_
   cases q x
   ·simp
   ·rw [Bool.eq_iff_iff];simp
theorem raw_perm {p:List Nod} {st:List Stt} (l:List Cx) (n:Nat):(rawM p st l n).Perm (idxs (fun c=>isM p st c n) l):=by
 unfold rawM idxs;rw [←List.map_flatMap];refine List.Perm.map _ ?_;have h:=by_keys (fun e:Cx×Nat=>keyM e.1) (fun e=>(wordsC e.1).all (mayM (filterM p n))&&isM p st e.1 n) l.zipIdx (keysM p n) (keys_nodup p n)
 have e1:((keysM p n).flatMap fun k=>(l.zipIdx.filter fun e=>decide (keyM e.1=k)).filter fun e=>(wordsC e.1).all (mayM (filterM p n))&&isM p st e.1 n) =
  (keysM p n).flatMap fun k=>l.zipIdx.filter fun e=>decide (keyM e.1=k)&&((wordsC e.1).all (mayM (filterM p n))&&isM p st e.1 n):=by
  congr 1
  funext k
  rw [List.filter_filter];exact List.filter_congr fun x _=>Bool.and_comm _ _
 rw [e1];refine h.trans (List.Perm.of_eq (List.filter_congr fun x _=>?_))
 cases hi:isM p st x.1 n with
 | false=>simp [hi]
 | true =>
   rw [words_may hi];simp [key_in hi,hi]
theorem idxs_sorted {α:Type} (q:α→Bool) (l:List α):(idxs q l).Pairwise (·<·):=by
 unfold idxs;refine List.Pairwise.map _ (R:=fun a b:α×Nat=>a.2<b.2) (fun a b h=>h) (List.Pairwise.filter _ ?_);rw [List.pairwise_iff_getElem];intro i j hi hj hij;rw [List.getElem_zipIdx,List.getElem_zipIdx];simp only;omega
theorem idxs_append {α:Type} (q:α→Bool) (a b:List α):idxs q (a++b)=idxs q a++(idxs q b).map (·+a.length):=by
 unfold idxs;rw [List.zipIdx_append,List.filter_append,List.map_append,Nat.zero_add]
 congr 1
 have:∀ (b:List α) (i:Nat),((b.zipIdx (i+a.length)).filter fun e=>q e.1).map (·.2)=(((b.zipIdx i).filter fun e=>q e.1).map (·.2)).map (·+a.length):=by
  intro b
  induction b with
  | nil=>intro i;rfl
  | cons x b ih =>
    intro i;have h:=ih (i+1);rw [show i+1+a.length=i+a.length+1 by omega] at h;rw [List.zipIdx_cons,List.zipIdx_cons,List.filter_cons,List.filter_cons]
    cases q x
    ·simpa using h
    ·simpa using h
 have h:=this b 0;rw [Nat.zero_add] at h;exact h
end Go.Proofs.YtlnaihkombcbcaaGreat
end
