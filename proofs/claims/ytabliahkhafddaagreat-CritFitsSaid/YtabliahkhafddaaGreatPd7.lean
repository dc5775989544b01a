/- Index.All: by walks over shapes. -/
import Derived.Test.YtabliahkhafddaaGreatPd6
import Derived.Test.YtabliahkhafddaaGreatPc9
import Derived.Lib.TrimUEq
import Derived.Lib.MapLaws
import Derived.Test.YtabliahkhafddaaGreatPd2
import Derived.Sort.OwnSorted
import Derived.Test.YtabliahkhafddaaGreatPd1
set_option linter.unusedSimpArgs false
noncomputable section
namespace Go.Proofs.YtabliahkhafddaaGreat
open Go.RowKit Go.Ev
open Go.Ev.AV renaming any→aN
attribute [local go_sem] eq_self false_and and_false Bool.false_eq_true List.set_cons_succ List.set_cons_zero List.getD_cons_succ List.getD_cons_zero List.getElem?_cons_succ List.getElem?_cons_zero true_and and_true and_self Bool.not_true Bool.not_false Nat.add_zero Nat.zero_add Nat.mul_one Int.toNat_natCast Int.natCast_nonneg Int.ofNat_lt Option.bind_some Option.map_some List.map_cons List.map_nil decide_true decide_false BEq.rfl Bool.and_self Bool.and_true Bool.and_false beq_self_eq_true List.cons_append List.nil_append List.take_zero List.take_succ_cons List.take_nil List.drop_succ_cons List.drop_zero List.drop_nil List.append_nil List.length_cons List.length_nil List.all_cons List.all_nil Nat.le_refl Int.le_refl Option.map_none List.replicate_zero List.replicate_succ Nat.zero_mul Nat.sub_zero Nat.zero_le Nat.le_zero_eq Q2f Option.some_or Option.none_or Option.or_none Option.isSome_some Option.isSome_none Option.getD_some Option.getD_none Int.toNat_zero Int.natCast_zero Int.natCast_one Int.cast_ofNat_Int List.toList_toArray
attribute [go_sem] appL newsA isSlice
def blB:ByteArray:=⟨#[32,10,9,12,13]⟩
def isBlR (r:Int):Bool:=r==32||r==10||r==9||r==12||r==13
theorem contR_p (r:Int) (h0:0≤r):PureN Tryz.prog gt0 385 [.g (.string blB),.g (.int .i32 r)] (.g (.bool (isBlR r))):=by
 refine PureN.ofC rfl ⟨_,Tryz.func385,by kernel_rfl,by kernel_rfl⟩ fun w rargs ha=>?_;obtain ⟨v0,vs,e0,h1,v1,vs1,rfl,h2,h3⟩:=ha;rw [VRs] at h3;subst h3;obtain rfl:rargs=#[v0,v1]:=by rw [←Array.toList_inj];exact e0
 obtain rfl:v0=.string blB:=h1;obtain rfl:v1=.int .i32 r:=h2
 by_cases h:r<128
 ·refine (Tryz.strings_ContainsRune_ascii blB r w h0 h).mono ?_
  rintro e w' ⟨rfl,rfl⟩;refine ⟨?_,Below.refl _ _⟩;obtain ⟨k,rfl⟩:∃ k:Nat,r=k:=⟨r.toNat,by omega⟩;have hk:k<128:=by omega
  have:∀ k:Fin 128,decide (0≤Lib.indexByte blB.data.toList ((k.val:Int)).toNat.toUInt8)=isBlR (k.val:Int):=by decide +kernel
  rw [this ⟨k,hk⟩]
 ·have hf:isBlR r=false:=by
   unfold isBlR;simp only [Bool.or_eq_false_iff,beq_eq_false_iff_ne];omega
  rw [hf]
  have HR:=Lib.hid fun w=>irune_high blB r w (by decide) (by decide) (fun i hi=>by
   have:∀ i:Fin 5,(blB[i.val]'(i.2)).toNat<128:=by decide +kernel
   exact this ⟨i,hi⟩) (by omega)
  go_enter Tryz.func385,Tryz.ntmps385
  go_wp2_with fail
  refine (HR.out _).mono ?_;rintro e w' ⟨rfl,hB⟩
  go_wp2
  go_ret
  exact ⟨rfl,hB⟩
theorem clsCl_p (r:Int) (h0:0≤r):PureN Tryz.prog gt0 384 [.g (.int .i32 r)] (.g (.bool (isBlR r))):=by
 have HC:=contR_p r h0;refine PureN.of_w (c:=_) Tryz.func384 rfl (by kernel_rfl) rfl ?_;simp only [Tryz.f384,List.replicate,List.length_cons,List.length_nil,Nat.reduceAdd,Nat.reduceSub,List.cons_append,List.nil_append]
 (repeat ((try with_reducible refine W.step (b:=false) ?_);simp (decide:=true) only [go_sem,↓reduceIte,Nat.reduceAdd,Nat.reduceSub]))
 refine AtCall.mk HC ?_
 (repeat ((try with_reducible refine W.step (b:=false) ?_);simp (decide:=true) only [go_sem,↓reduceIte,Nat.reduceAdd,Nat.reduceSub]))
 exact Q0a _ (.inr rfl) rfl (.plain rfl)
theorem dec_cases (s:ByteArray) (pos:Nat) (h:pos<s.data.toList.length) :
 (∃ c,s.data.toList[pos]?=some c∧c.toNat<128∧Utf8.decode s pos=(c.toNat,1)) ∨
 (128≤(Utf8.decode s pos).1∧1≤(Utf8.decode s pos).2∧pos+(Utf8.decode s pos).2≤s.data.toList.length∧∀ i,i<(Utf8.decode s pos).2→128≤(s.data.toList.getD (pos+i) 0).toNat):=by
 have hget:s.data.toList[pos]?=some (s.data.toList.getD pos 0):=by rw [List.getD_eq_getElem?_getD,List.getElem?_eq_getElem h];rfl
 rw [Lib.decode_N];generalize hb0:s.data.toList.getD pos 0=c0 at *;generalize hb1:s.data.toList.getD (pos+1) 0=c1;generalize hb2:s.data.toList.getD (pos+2) 0=c2;generalize hb3:s.data.toList.getD (pos+3) 0=c3
 by_cases hlt:c0.toNat<128
 ·exact .inl ⟨c0,hget,hlt,Lib.decodeN_ascii _ _ _ _ _ hlt⟩
 ·right
  have key:∀ (w:Nat),w≤4→(∀ i,i<w→128≤([c0,c1,c2,c3].getD i 0).toNat)→∀ i,i<w→128≤(s.data.toList.getD (pos+i) 0).toNat:=by
   intro w hw hall i hi;have:=hall i hi
   match i,(show i<4 by omega) with
   | 0,_=>rw [Nat.add_zero,hb0];exact this
   | 1,_=>rw [hb1];exact this
   | 2,_=>rw [hb2];exact this
   | 3,_=>rw [hb3];exact this
  rcases Lib.decodeN_shape (s.data.toList.length - pos) c0.toNat c1.toNat c2.toNat c3.toNat with ⟨g,-⟩ | ⟨g1,g2,g3,g4,e⟩ | ⟨g1,g2,g3,g4,g5,g6,e⟩ | ⟨g1,g2,g3,g4,g5,g6,g7,e⟩ | e
  ·exact absurd g hlt
  ·rw [e]
   refine ⟨g4,by simp,by simp only;omega,key 2 (by decide) fun i hi=>?_⟩
   match i,hi with
   | 0,_=>show 128≤c0.toNat;omega
   | 1,_=>show 128≤c1.toNat;omega
  ·rw [e]
   refine ⟨by simp only;omega,by simp,by simp only;omega,key 3 (by decide) fun i hi=>?_⟩
   match i,hi with
   | 0,_=>show 128≤c0.toNat;omega
   | 1,_=>show 128≤c1.toNat;omega
   | 2,_=>show 128≤c2.toNat;omega
  ·rw [e]
   refine ⟨by simp only;omega,by simp,by simp only;omega,key 4 (by decide) fun i hi=>?_⟩
   match i,hi with
   | 0,_=>show 128≤c0.toNat;omega
   | 1,_=>show 128≤c1.toNat;omega
   | 2,_=>show 128≤c2.toNat;omega
   | 3,_=>show 128≤c3.toNat;omega
  ·rw [e]
   refine ⟨by decide,by decide,by simp only;omega,key 1 (by decide) fun i hi=>?_⟩;obtain rfl:i=0:=by omega
   show 128≤c0.toNat;omega
theorem isBl_R (c:UInt8):isBl c=isBlR (c.toNat:Int):=by
 have:∀ k:Fin 256,isBl (UInt8.ofNat k.val)=isBlR (k.val:Int):=by decide +kernel
 have h:=this ⟨c.toNat,c.toNat_lt⟩;simpa using h
theorem wordsL_take:∀ (w:Nat) (cur l:List UInt8),w≤l.length→(∀ i,i<w→128≤(l.getD i 0).toNat)→wordsL cur l=wordsL (cur++l.take w) (l.drop w)
 | 0,cur,l,_,_=>by simp
 | w+1,cur,[],h,_=>by simp at h
 | w+1,cur,c::l,h,k=>by
   have hc:isBl c=false:=by
    rw [isBl_R];have:=k 0 (by omega);simp only [List.getD_cons_zero] at this;unfold isBlR;simp only [Bool.or_eq_false_iff,beq_eq_false_iff_ne];omega
   rw [wordsL,hc];simp only [Bool.false_eq_true,if_false,List.take_succ_cons,List.drop_succ_cons];rw [wordsL_take w (cur++[c]) l (by simpa using h) fun i hi=>by have:=k (i+1) (by omega);simpa using this];simp
def partB (l:List UInt8) (p:Nat×Nat):List UInt8:=(l.drop p.1).take (p.2 - p.1)
def curB (l:List UInt8) (start:Int) (pos:Nat):List UInt8:=if start<0 then [] else partB l (start.toNat,pos)
structure FldI (l:List UInt8) (pos:Nat) (start:Int) (sp:List (Nat×Nat)):Prop where
 le:pos≤l.length
 st:start<pos
 low:-1000000001≤start
 fit:∀ p∈sp,p.1≤p.2∧p.2≤l.length
 words:sp.map (partB l)++wordsL (curB l start pos) (l.drop pos)=wordsL [] l
 len:sp.length≤pos
def encSp (p:Nat×Nat):List AV:=[.g (.int .i64 (p.1:Int)),.g (.int .i64 (p.2:Int))]
theorem partB_ne {l:List UInt8} {a b:Nat} (h:a<b) (hb:b≤l.length):partB l (a,b)≠[]:=by
 unfold partB;intro e;have:=congrArg List.length e;simp at this;omega
theorem FldI.blank {l:List UInt8} {pos:Nat} {start:Int} {sp:List (Nat×Nat)} (h:FldI l pos start sp) {c:UInt8} (hc:l[pos]?=some c) (hb:isBl c=true) (hl:l.length≤1000000) :
 (start<0→FldI l (pos+1) start sp)∧(0≤start→FldI l (pos+1) (-1 - start) (sp++[(start.toNat,pos)])):=by
 have hlt:pos<l.length:=(List.getElem?_eq_some_iff.1 hc).1;have hd:l.drop pos=c::l.drop (pos+1):=by rw [List.drop_eq_getElem_cons hlt];congr 1;exact (List.getElem?_eq_some_iff.1 hc).2
 have hw:=h.words;rw [hd,wordsL,hb] at hw;simp only [if_true] at hw;have h1:=h.st;have h2:=h.low;refine ⟨fun hs=>⟨hlt,by omega,h2,h.fit,?_,by have:=h.len;omega⟩,fun hs=>⟨hlt,by omega,by omega,fun p hp=>?_,?_,by have:=h.len;simp;omega⟩⟩
 ·unfold curB at hw ⊢
  rw [if_pos hs] at hw ⊢;simpa using hw
 ·rcases List.mem_append.1 hp with hp | hp
  ·exact h.fit p hp
  ·rw [List.mem_singleton.1 hp];exact ⟨by simp only;omega,by simp only;omega⟩
 ·unfold curB at hw ⊢
  have hcur:(if start<0 then [] else partB l (start.toNat,pos))=partB l (start.toNat,pos):=if_neg (by omega);rw [hcur,if_neg (partB_ne (by omega) (by omega))] at hw;rw [if_pos (by omega),List.map_append,List.append_assoc];exact hw
theorem FldI.other {l:List UInt8} {pos:Nat} {start:Int} {sp:List (Nat×Nat)} (h:FldI l pos start sp) {w:Nat} (hw0:1≤w) (hw:pos+w≤l.length) (hk:wordsL (curB l start pos) (l.drop pos)=wordsL (curB l start pos++(l.drop pos).take w) (l.drop (pos+w))) :
 FldI l (pos+w) (if start<0 then (pos:Int) else start) sp:=by
 have h1:=h.st;refine ⟨hw,by split <;> omega,by have:=h.low;split <;> omega,h.fit,?_,by have:=h.len;omega⟩
 have h2:=h.words;rw [hk] at h2;rw [←h2]
 congr 2
 unfold curB
 by_cases hs:start<0
 ·rw [if_pos hs,if_pos hs,if_neg (by omega)]
  unfold partB;simp
 ·rw [if_neg hs,if_neg hs,if_neg hs]
  unfold partB;simp only;obtain ⟨a,rfl⟩:∃ a:Nat,start=a:=⟨start.toNat,by omega⟩;simp only [Int.toNat_natCast];have e:pos+w - a=(pos - a)+w:=by omega
  rw [e,List.take_add,List.drop_drop]
  congr 3
  omega
theorem FldI.fin {l:List UInt8} {start:Int} {sp:List (Nat×Nat)} (h:FldI l l.length start sp):(if start<0 then sp else sp++[(start.toNat,l.length)]).map (partB l)=wordsL [] l:=by
 have h2:=h.words;have h1:=h.st;rw [List.drop_length,wordsL] at h2;unfold curB at h2
 by_cases hs:start<0
 ·rw [if_pos hs] at h2 ⊢;simpa using h2
 ·rw [if_neg hs,if_neg (partB_ne (by omega) (Nat.le_refl _))] at h2
  rw [if_neg hs,List.map_append];exact h2
theorem el_span:elemO Tryz.prog 425=some 2:=by kernel_rfl
theorem ag_span:aggO Tryz.prog 427=some (true,2):=by kernel_rfl
theorem ei_span:elemI Tryz.prog 425=some (2,16,true):=by kernel_rfl
theorem ez_span:elemZ Tryz.prog 425=[.int .i64 0,.int .i64 0]:=by kernel_rfl
theorem sz_span:szO Tryz.prog 427=some 2:=by kernel_rfl
theorem ze_span:zeroO Tryz.prog 427=some [.g (.int .i64 0),.g (.int .i64 0)]:=by kernel_rfl
theorem fl_span0:fldO Tryz.prog 427 0=some (0,3):=by kernel_rfl
theorem fl_span1:fldO Tryz.prog 427 1=some (1,3):=by kernel_rfl
theorem bl_span (parts:List (Nat×AV)):evBuild Tryz.prog 427 parts=aggM (fillL [(0,1),(1,1)] [.g (.int .i64 0),.g (.int .i64 0)] parts):=Q1d (by kernel_rfl) parts
theorem ss_span:slOrStr (Tryz.prog.underlying 425)=true:=by kernel_rfl
theorem ei_strs:elemI Tryz.prog 46=some (1,16,true):=by kernel_rfl
theorem ss_strs:slOrStr (Tryz.prog.underlying 46)=true:=by kernel_rfl
theorem ez_strs:elemZ Tryz.prog 46=[.string ⟨#[]⟩]:=by kernel_rfl
attribute [go_sem] el_span ag_span ei_span ez_span sz_span ze_span fl_span0 fl_span1 bl_span ss_span ei_strs ss_strs ez_strs
theorem lenSp (sp:List (Nat×Nat)):(sp.flatMap encSp).length=sp.length*2:=Q1n (enc:=encSp) (sz:=2) (fun _=>rfl) sp
theorem xorI {x:Int} (h0:0≤x) (h1:x≤1000000000):IntKind.i64.wrap ((BitVec.ofInt 64 (if IntKind.i64.signed=true then -1 else IntKind.i64.max) ^^^ BitVec.ofInt 64 x).toNat:Int)=-1 - x:=by
 obtain ⟨k,rfl⟩:∃ k:Nat,x=k:=⟨x.toNat,by omega⟩;have e1:(BitVec.ofInt 64 (if IntKind.i64.signed=true then -1 else IntKind.i64.max))=BitVec.allOnes 64:=by decide
 rw [e1,BitVec.ofInt_natCast,BitVec.allOnes_xor,BitVec.toNat_not,BitVec.toNat_ofNat,Nat.mod_eq_of_lt (by omega),IntKind.wrap_i64];omega
theorem rowSp {l:List (Nat×Nat)} {k:Nat} (hk:k<l.length):((l.flatMap encSp).drop (k*2)).take 2=[.g (.int .i64 (l[k].1:Int)),.g (.int .i64 (l[k].2:Int))]∧k*2+2≤(l.flatMap encSp).length :=
 ⟨Q2m encSp 2 (fun _=>rfl) l k hk 0 2 (by decide),row_fit encSp 2 (fun _=>rfl) l k hk (j:=0) (by decide)⟩
theorem lenN (l:List ByteArray):(l.flatMap encN).length=l.length:=by rw [Q1n (enc:=encN) (sz:=1) (fun _=>rfl),Nat.mul_one]
theorem mapN (l:List ByteArray):l.flatMap encN=l.map fun x=>AV.g (.string x):=by
 induction l with
 | nil=>rfl
 | cons x l ih=>rw [List.flatMap_cons,ih];rfl
theorem putN (l:List ByteArray) (i:Nat) (v:ByteArray) (h:i<l.length):(l.flatMap encN).take i++.g (.string v)::(l.flatMap encN).drop (i+1)=(l.set i v).flatMap encN:=by
 rw [put_set (by rw [lenN];exact h),mapN,mapN,List.map_set]
theorem zeroN:∀ k:Nat,zerosA [.string ⟨#[]⟩] k=(List.replicate k (⟨#[]⟩:ByteArray)).flatMap encN
 | 0=>rfl
 | k+1=>by rw [zerosA,zeroN k,List.replicate_succ,List.flatMap_cons];rfl
def laidW (s:ByteArray) (sp:List (Nat×Nat)) (k:Nat):List ByteArray:=(sp.take k).map (fun p=>cutS s p.1 p.2)++List.replicate (sp.length - k) ⟨#[]⟩
theorem laidW_len {s:ByteArray} {sp:List (Nat×Nat)} {k:Nat} (h:k≤sp.length):(laidW s sp k).length=sp.length:=by unfold laidW;simp;omega
theorem laidW_zero (s:ByteArray) (sp:List (Nat×Nat)):zerosA [.string ⟨#[]⟩] sp.length=(laidW s sp 0).flatMap encN:=by
 rw [zeroN];unfold laidW;simp
theorem laidW_all (s:ByteArray) (sp:List (Nat×Nat)):laidW s sp sp.length=sp.map fun p=>cutS s p.1 p.2:=by
 unfold laidW;simp
theorem laidW_set {s:ByteArray} {sp:List (Nat×Nat)} {k:Nat} (h:k<sp.length):(laidW s sp k).set k (cutS s sp[k].1 sp[k].2)=laidW s sp (k+1):=by
 unfold laidW;have e:sp.length - k=(sp.length - (k+1))+1:=by omega
 have hl:((sp.take k).map fun p=>cutS s p.1 p.2).length=k:=by simp;omega
 rw [List.take_succ_eq_append_getElem h,List.map_append,e,List.replicate_succ,List.set_append_right _ _ (by rw [hl];exact Nat.le_refl _),hl,Nat.sub_self,List.set_cons_zero];simp
set_option maxRecDepth 100000 in
set_option maxHeartbeats 4000000 in
theorem fields_m (s:ByteArray) (hs:s.size≤1000000):CallM Tryz.prog gt0 [] [] 0 383 [.g (.string s),.fn (.func 384) [] []] (.gs 0 0 (wordsB s).length 1 (wordsB s).length) [(0,.cells ((wordsB s).flatMap encN))] 1:=by
 have hsz:s.data.toList.length=s.size:=by rw [Array.length_toList];rfl
 refine Q0m (c:=_) Tryz.func383 rfl (by kernel_rfl) ?_;simp only [Tryz.f383,List.replicate,List.length_cons,List.length_nil,Nat.reduceAdd,Nat.reduceSub,List.cons_append,List.nil_append]
 (repeat ((try with_reducible refine W.step (b:=false) ?_);simp (decide:=true) only [go_sem,↓reduceIte,Nat.reduceAdd,Nat.reduceSub]))
 refine W.loop (s1:=stL [(.g (.string s)),(.fn (.func 384) [] []),aN,aN,aN,(.gs 0 0 0 2 0),(.g (.int .i64 (-1))),aN,aN,aN,aN,aN,aN,aN,(.ptr 1 0),aN,aN,aN,aN,aN,aN,aN,aN,aN,aN,aN,aN,aN,aN,aN,aN,aN,aN,aN,aN,aN,aN,aN,aN,aN,aN,aN,aN,aN,aN,aN,aN,aN,aN,aN,aN,aN,aN,aN,aN,aN,aN,aN,aN,aN,aN,aN,aN,aN,aN] [(0,.cells []),(1,.sit s 0)] 2)
  (fun (q:Nat×Int×List (Nat×Nat)) t=>FldI s.data.toList q.1 q.2.1 q.2.2∧t=stL [(.g (.string s)),(.fn (.func 384) [] []),aN,aN,aN,(.gs 0 0 q.2.2.length 2 q.2.2.length),(.g (.int .i64 q.2.1)),aN,aN,aN,aN,aN,aN,aN,(.ptr 1 0),aN,aN,aN,aN,aN,aN,aN,aN,aN,aN,aN,aN,aN,aN,aN,aN,aN,aN,aN,aN,aN,aN,aN,aN,aN,aN,aN,aN,aN,aN,aN,aN,aN,aN,aN,aN,aN,aN,aN,aN,aN,aN,aN,aN,aN,aN,aN,aN,aN,aN] [(0,.cells (q.2.2.flatMap encSp)),(1,.sit s q.1)] 2) (fun q=>s.data.toList.length - q.1)
  (0,-1,[]) ⟨⟨Nat.zero_le _,by decide,by decide,by simp,by simp [curB],by simp⟩,rfl⟩ ?_ ?_
 ·refine VS.ren [(0,0),(1,1)] (by simp) (by simp) (Nat.zero_le _) ?_ ⟨⟨0,_,rfl,rfl,_,rfl,.inl ⟨rfl,rfl⟩⟩,⟨1,_,rfl,rfl,rfl⟩,trivial⟩
  simp only [go_sem,↓reduceIte,Nat.reduceAdd,Nat.reduceSub,Nat.reduceMul,Nat.reduceEqDiff,Nat.reduceLeDiff,Nat.reduceLT,Int.reduceLE,Int.reduceLT,Int.reduceToNat,Int.reduceEq]
 rintro ⟨pos,start,sp⟩ t ⟨hI,rfl⟩;simp only at hI;have hsl:=hI.len;have hst:=hI.st;have hlow:=hI.low;have f32:(sp.length+1≤sp.length)=False:=eq_false (by omega);have hsp:=lenSp sp
 by_cases hlt:pos<s.size
 ·have f9:(sp.length+1)*17≤17179869184:=by omega
  rcases dec_cases s pos (by omega) with ⟨c,hc,hc128,hd⟩ | ⟨d1,d2,d3,d4⟩
  ·have HC:=clsCl_p (c.toNat:Int) (Int.natCast_nonneg _)
   rw [←isBl_R] at HC
   (repeat ((try with_reducible refine W.step (b:=false) ?_);simp (decide:=true) only [go_sem,↓reduceIte,Nat.reduceAdd,Nat.reduceSub,hlt,hd]))
   refine AtCall.mk HC ?_
   cases hb:isBl c with
   | true =>
     obtain ⟨n1,n2⟩:=hI.blank hc hb (by omega)
     by_cases hs0:0≤start
     ·have fs:=eq_true hs0
      (repeat ((try with_reducible refine W.step (b:=false) ?_);simp (decide:=true) only [go_sem,↓reduceIte,Nat.reduceAdd,Nat.reduceSub,fs,f32,hsp,f9]))
      refine ⟨(pos+1,-1 - start,sp++[(start.toNat,pos)]),_,⟨n2 hs0,rfl⟩,by show s.data.toList.length - (pos+1)<s.data.toList.length - pos;omega,?_⟩;obtain ⟨a,rfl⟩:∃ a:Nat,start=a:=⟨start.toNat,by omega⟩;refine VS.ren [(0,3),(1,1)] (by simp) (by simp) (Nat.zero_le _) ?_ ⟨⟨3,_,rfl,rfl,_,rfl,.inl ⟨by simp [encSp],Q0y (fun _=>rfl) _⟩⟩,⟨1,_,rfl,rfl,rfl⟩,trivial⟩;simp only [List.length_append,go_sem,↓reduceIte,Nat.reduceAdd,Nat.reduceSub,Nat.reduceMul,Nat.reduceEqDiff,Nat.reduceLeDiff,Nat.reduceLT,Int.reduceLE,Int.reduceLT,Int.reduceToNat,Int.reduceEq];exact congrArg (fun z=>Value.int .i64 z) (xorI hs0 (by omega))
     ·have fs:=eq_false hs0
      (repeat ((try with_reducible refine W.step (b:=false) ?_);simp (decide:=true) only [go_sem,↓reduceIte,Nat.reduceAdd,Nat.reduceSub,fs]))
      refine ⟨(pos+1,start,sp),_,⟨n1 (by omega),rfl⟩,by show s.data.toList.length - (pos+1)<s.data.toList.length - pos;omega,?_⟩;exact VS.tm (by simp [leL])
   | false =>
     have hnx:=hI.other (w:=1) (Nat.le_refl _) (by omega) (by
      have hdr:s.data.toList.drop pos=c::s.data.toList.drop (pos+1):=by rw [List.drop_eq_getElem_cons (by omega)];congr 1;exact (List.getElem?_eq_some_iff.1 hc).2
      rw [hdr,wordsL,hb]
      simp)
     by_cases hs0:start<0
     ·have fs:=eq_true hs0
      rw [if_pos hs0] at hnx
      (repeat ((try with_reducible refine W.step (b:=false) ?_);simp (decide:=true) only [go_sem,↓reduceIte,Nat.reduceAdd,Nat.reduceSub,fs]))
      refine ⟨(pos+1,pos,sp),_,⟨hnx,rfl⟩,by show s.data.toList.length - (pos+1)<s.data.toList.length - pos;omega,?_⟩;exact VS.tm (by simp [leL])
     ·have fs:=eq_false hs0
      rw [if_neg hs0] at hnx
      (repeat ((try with_reducible refine W.step (b:=false) ?_);simp (decide:=true) only [go_sem,↓reduceIte,Nat.reduceAdd,Nat.reduceSub,fs]))
      refine ⟨(pos+1,start,sp),_,⟨hnx,rfl⟩,by show s.data.toList.length - (pos+1)<s.data.toList.length - pos;omega,?_⟩;exact VS.tm (by simp [leL])
  ·generalize hd:Utf8.decode s pos=rw at *
   obtain ⟨r,w⟩:=rw;simp only at d1 d2 d3 d4;have HC:=clsCl_p (r:Int) (Int.natCast_nonneg _);have hbf:isBlR (r:Int)=false:=by
    unfold isBlR;simp only [Bool.or_eq_false_iff,beq_eq_false_iff_ne];omega
   rw [hbf] at HC
   have hnx:=hI.other d2 d3 (by
    have:=wordsL_take w (curB s.data.toList start pos) (s.data.toList.drop pos) (by simp;omega) (fun i hi=>by have:=d4 i hi;simpa [List.getD_eq_getElem?_getD,List.getElem?_drop] using this)
    rw [this,List.drop_drop])
   (repeat ((try with_reducible refine W.step (b:=false) ?_);simp (decide:=true) only [go_sem,↓reduceIte,Nat.reduceAdd,Nat.reduceSub,hlt,hd]))
   refine AtCall.mk HC ?_
   by_cases hs0:start<0
   ·have fs:=eq_true hs0
    rw [if_pos hs0] at hnx
    (repeat ((try with_reducible refine W.step (b:=false) ?_);simp (decide:=true) only [go_sem,↓reduceIte,Nat.reduceAdd,Nat.reduceSub,fs]))
    refine ⟨(pos+w,pos,sp),_,⟨hnx,rfl⟩,by show s.data.toList.length - (pos+w)<s.data.toList.length - pos;omega,?_⟩;exact VS.tm (by simp [leL])
   ·have fs:=eq_false hs0
    rw [if_neg hs0] at hnx
    (repeat ((try with_reducible refine W.step (b:=false) ?_);simp (decide:=true) only [go_sem,↓reduceIte,Nat.reduceAdd,Nat.reduceSub,fs]))
    refine ⟨(pos+w,start,sp),_,⟨hnx,rfl⟩,by show s.data.toList.length - (pos+w)<s.data.toList.length - pos;omega,?_⟩;exact VS.tm (by simp [leL])
 ·obtain rfl:pos=s.data.toList.length:=by have:=hI.le;omega
  have fl:(s.data.toList.length<s.size)=False:=eq_false (by omega);have hfin:=hI.fin;have hfit:=hI.fit;obtain ⟨SP,hSP⟩:∃ SP,SP=if start<0 then sp else sp++[(start.toNat,s.data.toList.length)]:=⟨_,rfl⟩
  have hSl:SP.length≤1000001:=by
   rw [hSP]
   split
   ·omega
   ·rw [List.length_append,List.length_singleton];omega
  rw [←hSP] at hfin;have hfit2:∀ p∈SP,p.1≤p.2∧p.2≤s.size:=by
   rw [hSP];intro p hp
   split at hp
   ·have:=hfit p hp;omega
   ·rcases List.mem_append.1 hp with hp | hp
    ·have:=hfit p hp;omega
    ·rw [List.mem_singleton.1 hp];exact ⟨by simp only;omega,by simp only;omega⟩
  have f9:sp.length*17≤17179869184:=by omega
  have f10:(sp.length+1)*17≤17179869184:=by omega
  by_cases hs0:0≤start
  case' pos =>
   have fs:=eq_true hs0;obtain ⟨a,rfl⟩:∃ a:Nat,start=a:=⟨start.toNat,by omega⟩;rw [if_neg (by omega),hsz] at hSP
   (repeat ((try with_reducible refine W.step (b:=false) ?_);simp (decide:=true) only [go_sem,↓reduceIte,Nat.reduceAdd,Nat.reduceSub,fl,fs,f32,hsp,f10]))
   refine W.vs (s1:=stL [(.g (.string s)),aN,aN,aN,aN,aN,aN,aN,aN,(.gs 1 0 SP.length 1 SP.length),aN,aN,aN,aN,aN,aN,aN,aN,aN,aN,aN,aN,aN,aN,aN,aN,aN,aN,aN,aN,aN,aN,aN,aN,aN,aN,aN,aN,aN,aN,aN,aN,aN,aN,aN,aN,aN,(.gs 0 0 SP.length 2 SP.length),(.g (.int .i64 (SP.length:Int))),(.g (.int .i64 ((0:Nat):Int))),aN,aN,aN,aN,aN,aN,aN,aN,aN,aN,aN,aN,aN,aN,aN] [(0,.cells (SP.flatMap encSp)),(1,.cells ((laidW s SP 0).flatMap encN))] 2) ?_ ?_
   ·have hSl:SP.length=sp.length+1:=by rw [hSP];simp
    have hz:=laidW_zero s SP;have hc:SP.flatMap encSp=sp.flatMap encSp++[.g (.int .i64 (a:Int)),.g (.int .i64 (s.size:Int))]:=by rw [hSP];simp [encSp]
    rw [hSl] at hz;refine VS.ren [(0,3),(1,4)] (by simp) (by simp) (Nat.zero_le _) ?_ ⟨⟨3,_,rfl,rfl,_,rfl,.inl ⟨hc,Q0y (fun _=>rfl) _⟩⟩,⟨4,_,rfl,rfl,_,rfl,.inl ⟨hz.symm,Q0y (fun _=>rfl) _⟩⟩,trivial⟩;simp only [hSl,go_sem,↓reduceIte,Nat.reduceAdd,Nat.reduceSub,Nat.reduceMul,Nat.reduceEqDiff,Nat.reduceLeDiff,Nat.reduceLT,Int.reduceLE,Int.reduceLT,Int.reduceToNat,Int.reduceEq]
  case' neg =>
   have fs:=eq_false hs0;rw [if_pos (by omega)] at hSP
   (repeat ((try with_reducible refine W.step (b:=false) ?_);simp (decide:=true) only [go_sem,↓reduceIte,Nat.reduceAdd,Nat.reduceSub,fl,fs,f9]))
   refine W.vs (s1:=stL [(.g (.string s)),aN,aN,aN,aN,aN,aN,aN,aN,(.gs 1 0 SP.length 1 SP.length),aN,aN,aN,aN,aN,aN,aN,aN,aN,aN,aN,aN,aN,aN,aN,aN,aN,aN,aN,aN,aN,aN,aN,aN,aN,aN,aN,aN,aN,aN,aN,aN,aN,aN,aN,aN,aN,(.gs 0 0 SP.length 2 SP.length),(.g (.int .i64 (SP.length:Int))),(.g (.int .i64 ((0:Nat):Int))),aN,aN,aN,aN,aN,aN,aN,aN,aN,aN,aN,aN,aN,aN,aN] [(0,.cells (SP.flatMap encSp)),(1,.cells ((laidW s SP 0).flatMap encN))] 2) ?_ ?_
   ·have hz:=laidW_zero s SP
    subst hSP;refine VS.ren [(0,0),(1,2)] (by simp) (by simp) (Nat.zero_le _) ?_ ⟨⟨0,_,rfl,rfl,_,rfl,.inl ⟨rfl,Q0y (fun _=>rfl) _⟩⟩,⟨2,_,rfl,rfl,_,rfl,.inl ⟨hz.symm,Q0y (fun _=>rfl) _⟩⟩,trivial⟩;simp only [go_sem,↓reduceIte,Nat.reduceAdd,Nat.reduceSub,Nat.reduceMul,Nat.reduceEqDiff,Nat.reduceLeDiff,Nat.reduceLT,Int.reduceLE,Int.reduceLT,Int.reduceToNat,Int.reduceEq]
  all_goals
   clear f9 f10 hfit hI hsp f32 hst hlow hSP;have hwd:(SP.map fun p=>cutS s p.1 p.2)=wordsB s:=by
    unfold wordsB;rw [←hfin,List.map_map]
    rfl
   refine W.loop (s1:=stL [(.g (.string s)),aN,aN,aN,aN,aN,aN,aN,aN,(.gs 1 0 SP.length 1 SP.length),aN,aN,aN,aN,aN,aN,aN,aN,aN,aN,aN,aN,aN,aN,aN,aN,aN,aN,aN,aN,aN,aN,aN,aN,aN,aN,aN,aN,aN,aN,aN,aN,aN,aN,aN,aN,aN,(.gs 0 0 SP.length 2 SP.length),(.g (.int .i64 (SP.length:Int))),(.g (.int .i64 ((0:Nat):Int))),aN,aN,aN,aN,aN,aN,aN,aN,aN,aN,aN,aN,aN,aN,aN] [(0,.cells (SP.flatMap encSp)),(1,.cells ((laidW s SP 0).flatMap encN))] 2)
    (fun (k:Nat) t=>k≤SP.length∧t=stL [(.g (.string s)),aN,aN,aN,aN,aN,aN,aN,aN,(.gs 1 0 SP.length 1 SP.length),aN,aN,aN,aN,aN,aN,aN,aN,aN,aN,aN,aN,aN,aN,aN,aN,aN,aN,aN,aN,aN,aN,aN,aN,aN,aN,aN,aN,aN,aN,aN,aN,aN,aN,aN,aN,aN,(.gs 0 0 SP.length 2 SP.length),(.g (.int .i64 (SP.length:Int))),(.g (.int .i64 (k:Int))),aN,aN,aN,aN,aN,aN,aN,aN,aN,aN,aN,aN,aN,aN,aN] [(0,.cells (SP.flatMap encSp)),(1,.cells ((laidW s SP k).flatMap encN))] 2) (fun k=>SP.length - k) 0 ⟨Nat.zero_le _,rfl⟩ (VS.refl _) ?_
   rintro k t ⟨hk,rfl⟩
   by_cases hlt:k<SP.length
   ·have r:=rowSp hlt
    obtain ⟨g1,g2⟩:=hfit2 _ (List.getElem_mem hlt);have hl1:=laidW_len (s:=s) (sp:=SP) hk;have hput:=putN (laidW s SP k) k (cutS s SP[k].1 SP[k].2) (by omega);rw [laidW_set hlt] at hput;have g3:k+1≤((laidW s SP k).flatMap encN).length:=by rw [lenN,hl1];exact hlt
    (repeat ((try with_reducible refine W.step (b:=false) ?_);simp (decide:=true) only [go_sem,↓reduceIte,Nat.reduceAdd,Nat.reduceSub,hlt,r,g1,g2,g3,hput]))
    refine ⟨k+1,_,⟨by omega,rfl⟩,by show SP.length - (k+1)<SP.length - k;omega,?_⟩;rw [up1 (by omega)];refine VS.ren [(0,0),(1,1)] (by simp) (by simp) (Nat.zero_le _) ?_ ⟨⟨0,_,rfl,rfl,_,rfl,.inl ⟨rfl,Q0y (fun _=>rfl) _⟩⟩,⟨1,_,rfl,rfl,_,rfl,.inl ⟨rfl,Q0y (fun _=>rfl) _⟩⟩,trivial⟩;simp only [go_sem,↓reduceIte,Nat.reduceAdd,Nat.reduceSub,Nat.reduceMul,Nat.reduceEqDiff,Nat.reduceLeDiff,Nat.reduceLT,Int.reduceLE,Int.reduceLT,Int.reduceToNat,Int.reduceEq]
   ·obtain rfl:k=SP.length:=by omega
    (repeat ((try with_reducible refine W.step (b:=false) ?_);simp (decide:=true) only [go_sem,↓reduceIte,Nat.reduceAdd,Nat.reduceSub,hlt]))
    have hl:SP.length=(wordsB s).length:=by rw [←hwd,List.length_map]
    rw [laidW_all,hwd,hl];refine ⟨.inr rfl,[aN,aN,aN,aN,(.gs 0 0 (wordsB s).length 1 (wordsB s).length),aN,aN,aN,aN,aN,aN,aN,aN,aN,aN,aN,aN,aN,aN,aN,aN,aN,aN,aN,aN,aN,aN,aN,aN,aN,aN,aN,aN,aN,aN,aN,aN,aN,aN,aN,aN,aN,aN,aN,aN,aN,aN,aN,aN,aN,aN,aN,aN,aN,aN,aN,aN,aN,aN,aN,aN,aN,aN,aN,aN],VS.ren [(0,1)] (by simp) (by simp) (Nat.zero_le _) ?_ ⟨⟨1,_,rfl,rfl,_,rfl,.inl ⟨rfl,Q0y (fun _=>rfl) _⟩⟩,trivial⟩,rfl⟩;simp only [go_sem,↓reduceIte,Nat.reduceAdd,Nat.reduceSub,Nat.reduceMul,Nat.reduceEqDiff,Nat.reduceLeDiff,Nat.reduceLT,Int.reduceLE,Int.reduceLT,Int.reduceToNat,Int.reduceEq]
theorem at_size {p:List Nod} (hp:OkPg p) (n:Int) (s:ByteArray):((atM p n s).getD ⟨#[]⟩).size≤1000000:=by
 unfold atM
 split
 ·rename_i he
  obtain ⟨k,rfl,hk,e⟩:=at_nat he;rw [e]
  cases hf:p[k].attrs.find? fun x=>decide (x.name=s) with
  | none=>exact Nat.zero_le _
  | some a=>exact hp.values _ (List.getElem_mem hk) a (List.mem_of_find?_eq_some hf)
 ·exact Nat.zero_le _
set_option maxRecDepth 100000 in
set_option maxHeartbeats 4000000 in
theorem classes_m (p:List Nod) (n:Int) (hp:OkPg p):CallM Tryz.prog gt0 [] [] 0 362 [.sl p.length 5 (p.flatMap encNd),.g (.int .i64 n)] (.gs 0 0 (classesM p n).length 1 (classesM p n).length) [(0,.cells ((classesM p n).flatMap encN))] 1:=by
 refine Q0m (c:=_) Tryz.func362 rfl (by kernel_rfl) ?_;simp only [Tryz.f362,List.replicate,List.length_cons,List.length_nil,Nat.reduceAdd,Nat.reduceSub,List.cons_append,List.nil_append]
 (repeat ((try with_reducible refine W.step (b:=false) ?_);simp (decide:=true) only [go_sem,↓reduceIte,Nat.reduceAdd,Nat.reduceSub]))
 refine AtCall.mk (attr_p p n clsB hp.attrs) ?_
 (repeat ((try with_reducible refine W.step (b:=false) ?_);simp (decide:=true) only [go_sem,↓reduceIte,Nat.reduceAdd,Nat.reduceSub]))
 refine AtCall.mem (fields_m ((atM p n clsB).getD ⟨#[]⟩) (at_size hp n clsB)) ?_
 (repeat ((try with_reducible refine W.step (b:=false) ?_);simp (decide:=true) only [go_sem,↓reduceIte,Nat.reduceAdd,Nat.reduceSub]))
 exact ⟨.inr rfl,[aN,aN,aN,aN,(.gs 0 0 (classesM p n).length 1 (classesM p n).length),aN,aN,aN,aN,aN,aN,aN,aN,aN,aN],VS.tm (by simp [leL];rfl),rfl⟩
theorem classes_p (p:List Nod) (n:Int) (hp:OkPg p):PureN Tryz.prog gt0 362 [.sl p.length 5 (p.flatMap encNd),.g (.int .i64 n)] (.sl (classesM p n).length 1 ((classesM p n).flatMap encN)):=by
 have hs:=SealTo.gs (m:=[(0,.cells ((classesM p n).flatMap encN))]) (b:=0) (o:=0) (k:=(classesM p n).length) (sz:=1) (c:=(classesM p n).length) rfl (by rw [lenN];omega) (fun a ha=>by
  have h1:=List.mem_of_mem_drop (List.mem_of_mem_take ha);obtain ⟨x,-,hx⟩:=List.mem_flatMap.1 h1
  simp [encN] at hx;subst hx;rfl)
 rw [List.drop_zero,List.take_of_length_le (by rw [lenN];omega)] at hs;exact (classes_m p n hp).pureN rfl hs
attribute [go_sem] appL newsA isSlice
theorem ag_sts:aggO Tryz.prog 36=some (false,1):=by kernel_rfl
theorem ag_st:aggO Tryz.prog 108=some (true,2):=by kernel_rfl
theorem el_sts:elemO Tryz.prog 36=some 2:=by kernel_rfl
theorem bl_st (parts:List (Nat×AV)):evBuild Tryz.prog 108 parts=aggM (fillL [(0,1),(1,1)] [.g (.int .i64 0),.g (.string ⟨#[]⟩)] parts):=Q1d (by kernel_rfl) parts
theorem eqg_st:Tryz.prog.eqGuardType Tryz.prog.depth 108=false:=by kernel_rfl
attribute [go_sem] ag_sts ag_st el_sts bl_st eqg_st
theorem idx_ge {α:Type} (pr:α→Bool) (l:List α):decide (0≤idxL pr l)=l.any pr:=by
 rcases find_idx pr l with ⟨h1,h2⟩ | ⟨k,hk,h1,h2⟩
 ·rw [h1,show l.any pr=false by rw [List.any_eq_false];rw [List.find?_eq_none] at h2;exact h2];rfl
 ·rw [h1,show l.any pr=true by rw [List.any_eq_true];exact ⟨l[k],List.getElem_mem hk,List.find?_some h2⟩]
  exact decide_eq_true (by omega)
set_option maxRecDepth 100000 in
set_option maxHeartbeats 4000000 in
theorem indexN_p (l:List ByteArray) (x:ByteArray) (hl:l.length≤1000001):PureN Tryz.prog gt0 252 [.sl l.length 1 (l.flatMap encN),.g (.string x)] (.g (.int .i64 (idxL (fun y=>decide (y=x)) l))):=by
 refine PureN.of_w (c:=_) Tryz.func252 rfl (by kernel_rfl) rfl ?_;simp only [Tryz.f252,List.replicate,List.length_cons,List.length_nil,Nat.reduceAdd,Nat.reduceSub,List.cons_append,List.nil_append]
 (repeat ((try with_reducible refine W.step (b:=false) ?_);simp (decide:=true) only [go_sem,↓reduceIte,Nat.reduceAdd,Nat.reduceSub]))
 refine W.loop (s1:=stL [(.sl l.length 1 (l.flatMap encN)),(.g (.string x)),aN,aN,aN,aN,aN,(.g (.int .i64 (l.length:Int))),(.g (.int .i64 ((0:Nat):Int))),aN,aN,aN,aN,aN,aN,aN,aN,aN,aN] [] 0)
  (fun (k:Nat) t=>k≤l.length∧(∀ y∈l.take k,decide (y=x)=false)∧t=stL [(.sl l.length 1 (l.flatMap encN)),(.g (.string x)),aN,aN,aN,aN,aN,(.g (.int .i64 (l.length:Int))),(.g (.int .i64 (k:Int))),aN,aN,aN,aN,aN,aN,aN,aN,aN,aN] [] 0) (fun k=>l.length - k) 0 ⟨Nat.zero_le _,by simp,rfl⟩ (VS.tm (by simp [leL])) ?_
 rintro k t ⟨hk,he,rfl⟩
 by_cases hlt:k<l.length
 ·have r:=rowN hlt
  by_cases hx:l[k]=x
  ·have fx:(x=l[k])=True:=eq_true hx.symm
   (repeat ((try with_reducible refine W.step (b:=false) ?_);simp (decide:=true) only [go_sem,↓reduceIte,Nat.reduceAdd,Nat.reduceSub,hlt,r,fx]))
   rw [Q3i hlt he (decide_eq_true hx)];exact Q0a _ (.inr rfl) rfl (.plain rfl)
  ·have fx:(x=l[k])=False:=eq_false (fun e=>hx e.symm)
   (repeat ((try with_reducible refine W.step (b:=false) ?_);simp (decide:=true) only [go_sem,↓reduceIte,Nat.reduceAdd,Nat.reduceSub,hlt,r,fx]))
   refine ⟨k+1,_,⟨by omega,Q1e (pr:=fun y=>decide (y=x)) hlt he (decide_eq_false hx),rfl⟩,by show l.length - (k+1)<l.length - k;omega,VS.tm ?_⟩;rw [up1 (by omega)];simp [leL]
 ·(repeat ((try with_reducible refine W.step (b:=false) ?_);simp (decide:=true) only [go_sem,↓reduceIte,Nat.reduceAdd,Nat.reduceSub,hlt]))
  rw [Q2v (fun y hy=>he y (by rw [List.take_of_length_le (by omega)];exact hy))];exact Q0a _ (.inr rfl) rfl (.plain rfl)
theorem containsN_p (l:List ByteArray) (x:ByteArray) (hl:l.length≤1000001):PureN Tryz.prog gt0 187 [.sl l.length 1 (l.flatMap encN),.g (.string x)] (.g (.bool (l.any fun y=>decide (y=x)))):=by
 refine PureN.of_w (c:=_) Tryz.func187 rfl (by kernel_rfl) rfl ?_;simp only [Tryz.f187,List.replicate,List.length_cons,List.length_nil,Nat.reduceAdd,Nat.reduceSub,List.cons_append,List.nil_append]
 (repeat ((try with_reducible refine W.step (b:=false) ?_);simp (decide:=true) only [go_sem,↓reduceIte,Nat.reduceAdd,Nat.reduceSub]))
 refine AtCall.mk (indexN_p l x hl) ?_
 (repeat ((try with_reducible refine W.step (b:=false) ?_);simp (decide:=true) only [go_sem,↓reduceIte,Nat.reduceAdd,Nat.reduceSub]))
 rw [idx_ge];exact Q0a _ (.inr rfl) rfl (.plain rfl)
theorem kin_len {p:List Nod} {n:Int} (hp:OkPg p):(kinM p n).length≤1000000:=by
 unfold kinM
 split
 ·rename_i h
  refine Nat.le_trans (List.length_filter_le _ _) ?_;obtain ⟨u,hu⟩:∃ u:Nat,(ndAt p n).up=u:=⟨(ndAt p n).up.toNat,by omega⟩;rw [hu,Q0o (by omega)];exact hp.kids _ (List.getElem_mem (by omega))
 ·exact Nat.zero_le _
theorem idx_bound {α:Type} (pr:α→Bool) (l:List α) (h:l.length≤1000000):-1≤idxL pr l∧idxL pr l<1000000:=by
 rcases find_idx pr l with ⟨h1,-⟩ | ⟨k,hk,h1,-⟩ <;> omega
theorem ahead_cut {l:List Int} {n:Int} {k:Nat} (hk:k<l.length) (h:idxL (fun k=>decide (k=n)) l=(k:Int)):l.takeWhile (fun k=>!decide (k=n))=l.take k:=by
 obtain ⟨h1,h2⟩:=idx_first hk h;have e:l=l.take k++l[k]::l.drop (k+1):=by rw [←List.drop_eq_getElem_cons hk,List.take_append_drop]
 conv=>lhs;rw [e]
 rw [List.takeWhile_append_of_pos (fun x hx=>by rw [h2 x hx];rfl),List.takeWhile_cons,h1];simp
theorem rowS6 {l:List Simp} {k:Nat} (hk:k<l.length):((l.flatMap encS).drop (k*6)).take 6=encS l[k]∧k*6+6≤(l.flatMap encS).length:=by
 have h2:=Q2m encS 6 encS_len l k hk 0 6 (by decide);rw [Nat.add_zero,List.drop_zero,List.take_of_length_le (l:=encS l[k]) (by rw [encS_len];decide)] at h2;exact ⟨h2,row_fit encS 6 encS_len l k hk (j:=0) (by decide)⟩
attribute [go_sem] appL newsA isSlice
theorem sz_simp:szO Tryz.prog 141=some 6:=by kernel_rfl
attribute [go_sem] sz_simp
theorem encS_m (k:Int) (nm v:ByteArray) (a b:Int) (l:List Simp):encS (.mk k nm v a b l)=[.g (.int .i64 k),.g (.string nm),.g (.string v),.g (.int .i64 a),.g (.int .i64 b),.sl l.length 6 (l.flatMap encS)]:=by rw [encS,encSs_flat]
theorem wordsL_len:∀ (l cur:List UInt8),(wordsL cur l).length≤l.length+1
 | [],cur=>by rw [wordsL];split <;> simp
 | c::l,cur=>by
   rw [wordsL]
   split
   ·split
    ·have:=wordsL_len l [];simp only [List.length_cons];omega
    ·have:=wordsL_len l [];simp only [List.length_cons];omega
   ·have:=wordsL_len l (cur++[c]);simp only [List.length_cons];omega
theorem classes_len {p:List Nod} {n:Int} (hp:OkPg p):(classesM p n).length≤1000001:=by
 unfold classesM wordsB;rw [List.length_map];refine Nat.le_trans (wordsL_len _ _) ?_;have:=at_size hp n clsB;rw [Array.length_toList];exact Nat.succ_le_succ this
theorem noIds_S (x:Simp):noIdsL (encS x)=true:=by cases x;rw [encS_m];rfl
def okS:Simp→Prop
 | .mk _ _ _ _ _ l=>l.length≤1000000∧okL l
where okL:List Simp→Prop
 | []=>True
 | x::xs=>okS x∧okL xs
theorem okL_mem:∀ {l:List Simp},okS.okL l→∀ y∈l,okS y
 | x::xs,h,y,hy=>by
   rcases List.mem_cons.1 hy with rfl | hy
   ·exact h.1
   ·exact okL_mem h.2 y hy
end Go.Proofs.YtabliahkhafddaaGreat
namespace Go.Proofs.YtabliahkhafddaaGreat
open Go.RowKit Go.Ev
open Go.Ev.AV renaming any→aN
theorem Q1t {p:List Nod} (n:Nat):aboveM p n=if 0<(ndAt p n).up∧(ndAt p n).up<n then (ndAt p n).up.toNat::aboveM p (ndAt p n).up.toNat else []:=by rw [aboveM]
theorem above_lt {p:List Nod}:∀ (n k:Nat),k∈aboveM p n→0<k∧k<n:=by
 intro n
 induction n using Nat.strongRecOn with
 | ind n ih =>
   intro k hk;rw [Q1t] at hk
   split at hk
   ·rename_i h
    rcases List.mem_cons.1 hk with rfl | hk
    ·omega
    ·have:=ih _ (by omega) k hk;omega
   ·simp at hk
theorem fits_head {p:List Nod} {st:List Stt} {x:Part} {l:List Part} {n:Nat} (h:fitsS p st (x::l) n=true):elemB p n=true∧∀ y∈x.l,holdsS p st n y=true:=by
 cases l with
 | nil =>
   rw [fitsS,Bool.and_eq_true,List.all_eq_true] at h;exact h
 | cons y l =>
   rw [fitsS,Bool.and_eq_true,Bool.and_eq_true,List.all_eq_true] at h;exact h.1
end Go.Proofs.YtabliahkhafddaaGreat
namespace Go.Proofs.YtabliahkhafddaaGreat
open Go.RowKit Go.Ev
open Go.Ev.AV renaming any→aN
attribute [local go_sem] eq_self false_and and_false Bool.false_eq_true List.set_cons_succ List.set_cons_zero List.getD_cons_succ List.getD_cons_zero List.getElem?_cons_succ List.getElem?_cons_zero true_and and_true and_self Bool.not_true Bool.not_false Nat.add_zero Nat.zero_add Nat.mul_one Int.toNat_natCast Int.natCast_nonneg Int.ofNat_lt Option.bind_some Option.map_some List.map_cons List.map_nil decide_true decide_false BEq.rfl Bool.and_self Bool.and_true Bool.and_false beq_self_eq_true List.cons_append List.nil_append List.take_zero List.take_succ_cons List.take_nil List.drop_succ_cons List.drop_zero List.drop_nil List.append_nil List.length_cons List.length_nil List.all_cons List.all_nil Nat.le_refl Int.le_refl Option.map_none List.replicate_zero List.replicate_succ Nat.zero_mul Nat.sub_zero Nat.zero_le Nat.le_zero_eq Q2f Option.some_or Option.none_or Option.or_none Option.isSome_some Option.isSome_none Option.getD_some Option.getD_none Int.toNat_zero Int.natCast_zero Int.natCast_one Int.cast_ofNat_Int List.toList_toArray
attribute [go_sem] appL newsA isSlice
theorem pv_pureA {P:Program} {α:Type} (a:α):pv P (pure a)=some a:=rfl
theorem part0 (x y:Value):pv Tryz.prog (part 3 #[x,y] (0*1))=some x:=by kernel_rfl
theorem part1 (x y:Value):pv Tryz.prog (part 3 #[x,y] (1*1))=some y:=by kernel_rfl
theorem sz3:pv Tryz.prog (Go.sizeOf 3)=some 1:=by kernel_rfl
theorem eq3 (a c:Int):pv Tryz.prog (Op.equalIn 9999 3 (.int .i64 a) (.int .i64 c))=some (a==c):=by kernel_rfl
theorem key9 (a b c d:Int):pv Tryz.prog (Op.equal 267 (.agg #[.int .i64 a,.int .i64 b]) (.agg #[.int .i64 c,.int .i64 d]))=some (decide (a=c)&&decide (b=d)):=by
 show pv Tryz.prog (Op.equalIn (9999+1) 267 _ _)=_;rw [Op.equalIn,Q0t,Q2n Tryz.underlying267,Option.bind_some];simp only;rw [Q0t,sz3,Option.bind_some,Q0t];have hr:∀ {β:Type} (init:β) (f:Nat→β→Sem (ForInStep β)),forIn [:2] init f=forIn [0,1] init f:=by
  intro β init f;rw [Std.Legacy.Range.forIn_eq_forIn_range']
  rfl
 rw [hr,List.forIn_cons,Q0t,Q0t,part0,Option.bind_some,Q0t,part0,Option.bind_some,Q0t,eq3,Option.bind_some]
 by_cases h:a=c
 ·subst h
  simp only [beq_self_eq_true,Bool.not_true,Bool.false_eq_true,if_false];rw [pv_pureA,Option.bind_some];simp only;rw [List.forIn_cons,Q0t,Q0t,part1,Option.bind_some,Q0t,part1,Option.bind_some,Q0t,eq3,Option.bind_some]
  by_cases h2:b=d
  ·subst h2
   simp only [beq_self_eq_true,Bool.not_true,Bool.false_eq_true,if_false];simp [pv,pure,Pure.pure]
  ·have:(b==d)=false:=beq_eq_false_iff_ne.2 h2
   rw [this];simp [pv,pure,Pure.pure,h2]
 ·have:(a==c)=false:=beq_eq_false_iff_ne.2 h
  rw [this];simp [pv,pure,Pure.pure,h]
theorem chk9 (e:Bool) (a b:Int):(pv Tryz.prog (Instr.checkKey e 10000 267 (.agg #[.int .i64 a,.int .i64 b]))).isSome=true:=by kernel_rfl
abbrev K2:=List ((Int×Int)×Int)
def idxK (K:K2) (k:Int×Int):Option Nat:=K.findIdx? fun e=>decide (e.1=k)
def getK:K2→Int×Int→Int
 | [],_=>0
 | e::K,k=>if e.1=k then e.2 else getK K k
def setK:K2→Int×Int→Int→K2
 | [],k,v=>[(k,v)]
 | e::K,k,v=>if e.1=k then (k,v)::K else e::setK K k v
theorem getK_idx (k:Int×Int):∀ K:K2,getK K k=match idxK K k with | some i=>(K.getD i ((0,0),0)).2 | none=>0
 | []=>rfl
 | e::K=>by
   have ih:=getK_idx k K;unfold idxK at ih ⊢;rw [getK,List.findIdx?_cons]
   by_cases h:e.1=k
   ·rw [if_pos h,decide_eq_true h];rfl
   ·rw [if_neg h,decide_eq_false h,ih]
    cases K.findIdx? fun e=>decide (e.1=k) <;> rfl
theorem setK_idx (k:Int×Int) (v:Int):∀ K:K2,setK K k v=match idxK K k with | some i=>K.modify i fun _=>(k,v) | none=>K++[(k,v)]
 | []=>rfl
 | e::K=>by
   have ih:=setK_idx k v K;unfold idxK at ih ⊢;rw [setK,List.findIdx?_cons]
   by_cases h:e.1=k
   ·rw [if_pos h,decide_eq_true h];rfl
   ·rw [if_neg h,decide_eq_false h,ih]
    cases K.findIdx? fun e=>decide (e.1=k) <;> rfl
theorem get_set (k:Int×Int) (v:Int):∀ K:K2,getK (setK K k v) k=v
 | []=>by simp [setK,getK]
 | e::K=>by
   rw [setK]
   by_cases h:e.1=k
   ·rw [if_pos h,getK,if_pos rfl]
   ·rw [if_neg h,getK,if_neg h,get_set k v K]
theorem get_set_ne {k k':Int×Int} (v:Int) (hne:k≠k'):∀ K:K2,getK (setK K k v) k'=getK K k'
 | []=>by simp [setK,getK,hne]
 | e::K=>by
   rw [setK]
   by_cases h:e.1=k
   ·rw [if_pos h,getK,getK,if_neg hne,if_neg (by rw [h];exact hne)]
   ·rw [if_neg h,getK,getK,get_set_ne v hne K]
def keyA (k:Int×Int):AV:=.agg [.g (.int .i64 k.1),.g (.int .i64 k.2)]
def encK:Nat→K2→List (Nat×AV×AV)
 | _,[]=>[]
 | o,e::K=>(o,keyA e.1,.g (.int .i64 e.2))::encK (o+1) K
def blkK (K:K2):Blk:=.map (encK 0 K) K.length
theorem encK_get:∀ (K:K2) (o i:Nat),(encK o K)[i]?=(K[i]?).map fun e=>(o+i,keyA e.1,AV.g (.int .i64 e.2))
 | [],_,_=>by simp [encK]
 | e::K,o,0=>by simp [encK]
 | e::K,o,i+1=>by
   rw [encK,List.getElem?_cons_succ,List.getElem?_cons_succ,encK_get K (o+1) i,show o+1+i=o+(i+1) by omega]
theorem encK_len:∀ (K:K2) (o:Nat),(encK o K).length=K.length
 | [],_=>rfl
 | e::K,o=>by rw [encK,List.length_cons,encK_len K,List.length_cons]
theorem encK_mod:∀ (K:K2) (o i:Nat) (k:Int×Int) (v:Int),(encK o K).modify i (fun e=>(e.1,keyA k,.g (.int .i64 v)))=encK o (K.modify i fun _=>(k,v))
 | [],_,i,_,_=>by cases i <;> rfl
 | e::K,o,0,_,_=>rfl
 | e::K,o,i+1,k,v=>by
   rw [encK,List.modify_succ_cons,List.modify_succ_cons,encK,encK_mod K (o+1) i k v]
theorem encK_app:∀ (K:K2) (o:Nat) (k:Int×Int) (v:Int),encK o K++[(o+K.length,keyA k,.g (.int .i64 v))]=encK o (K++[(k,v)])
 | [],_,_,_=>rfl
 | e::K,o,k,v=>by
   rw [List.cons_append,encK,encK,List.cons_append,←encK_app K (o+1) k v,List.length_cons,show o+(K.length+1)=o+1+K.length by omega]
theorem find_K (k:Int×Int):∀ (K:K2) (o i:Nat),findS Tryz.prog 267 (.agg #[.int .i64 k.1,.int .i64 k.2]) (encK o K) i=some ((idxK K k).map fun j=>(i+j,AV.g (.int .i64 (K.getD j ((0,0),0)).2)))
 | [],_,_=>rfl
 | e :: K,o,i=>by
   have ih:=find_K k K (o+1) (i+1);have ht:toG (keyA e.1)=some (.agg #[.int .i64 e.1.1,.int .i64 e.1.2]):=rfl;rw [encK,findS,ht];simp only;rw [key9];unfold idxK at ih ⊢;rw [List.findIdx?_cons]
   by_cases h:e.1=k
   ·have h1:(decide (k.1=e.1.1)&&decide (k.2=e.1.2))=true:=by rw [←h];simp
    have h2:Instr.sameBits 10000 (.agg #[.int .i64 e.1.1,.int .i64 e.1.2]) (.agg #[.int .i64 k.1,.int .i64 k.2])=true:=by rw [h];simp [Instr.sameBits]
    rw [h1];simp only [h2,decide_eq_true h,if_true,Option.map_some]
    rfl
   ·have h1:(decide (k.1=e.1.1)&&decide (k.2=e.1.2))=false:=by
     rw [←Bool.not_eq_true,Bool.and_eq_true,decide_eq_true_eq,decide_eq_true_eq];rintro ⟨g1,g2⟩;exact h (Prod.ext g1.symm g2.symm)
    rw [h1];simp only [ih,decide_eq_false h,Bool.false_eq_true,if_false,Option.map_map]
    congr 2
    funext j
    simp only [Function.comp,List.getD_cons_succ];rw [show i+1+j=i+(j+1) by omega]
theorem keyFind_K (k:Int×Int) (K:K2):keyFind Tryz.prog 267 (keyA k) (encK 0 K)=some ((idxK K k).map fun j=>(j,AV.g (.int .i64 (K.getD j ((0,0),0)).2))):=by
 have h1:isKeyT (Tryz.prog.underlying 267) (keyA k)=false:=by rw [Tryz.underlying267];rfl
 have h2:toG (keyA k)=some (.agg #[.int .i64 k.1,.int .i64 k.2]):=rfl;have h3:wideKey (Tryz.prog.underlying 267)=true:=by rw [Tryz.underlying267];rfl
 unfold keyFind;rw [h1,h2,h3];simp only;obtain ⟨x,hx⟩:=Option.isSome_iff_exists.1 (chk9 false k.1 k.2);obtain ⟨y,hy⟩:=Option.isSome_iff_exists.1 (chk9 true k.1 k.2);rw [hx,hy];simp only;rw [find_K];simp
theorem un_mp:Tryz.prog.underlying 196=some (.map 267 3):=by kernel_rfl
theorem ze_int:(Tryz.prog.info? 3).bind (·.zero)=some (.int .i64 0):=by kernel_rfl
theorem look_K (k:Int×Int) (K:K2):lookB Tryz.prog 196 (keyA k) false (some (blkK K))=some (.g (.int .i64 (getK K k))):=by
 rw [getK_idx];unfold lookB blkK;simp only [un_mp,keyFind_K,ze_int]
 cases idxK K k with
 | none=>rfl
 | some j=>rfl
theorem mset_K (k:Int×Int) (K:K2) (v:Int):msetB Tryz.prog 196 (keyA k) (.g (.int .i64 v)) (some (blkK K))=some (blkK (setK K k v)):=by
 rw [setK_idx];unfold msetB blkK;simp only [un_mp,keyFind_K]
 cases idxK K k with
 | none =>
   simp only [Option.map_none,List.length_append,List.length_singleton];have:=encK_app K 0 k v;rw [Nat.zero_add] at this;rw [this]
 | some j =>
   simp only [Option.map_some,List.length_modify];rw [encK_mod]
theorem ag_key2:aggO Tryz.prog 267=some (true,2):=by kernel_rfl
theorem ag_mp:aggO Tryz.prog 196=some (false,1):=by kernel_rfl
theorem bl_key2 (parts:List (Nat×AV)):evBuild Tryz.prog 267 parts=aggM (rowsL 1 [.g (.int .i64 0),.g (.int .i64 0)] parts):=evArr_eq (by kernel_rfl) parts
theorem ze_key2:zeroO Tryz.prog 267=some [.g (.int .i64 0),.g (.int .i64 0)]:=by kernel_rfl
theorem sz_key2:szO Tryz.prog 267=some 2:=by kernel_rfl
attribute [go_sem] ag_key2 ag_mp bl_key2 ze_key2 sz_key2
theorem nm_encK (S:Nat→Prop):∀ (K:K2) (o:Nat),nmE S (encK o K)
 | [],_=>trivial
 | _::K,o=>⟨⟨⟨trivial,trivial,trivial⟩,trivial⟩,nm_encK S K (o+1)⟩
theorem Q0z (S:Nat→Prop) (K:K2):nmB S (blkK K):=nm_encK S K 0
theorem lt_encK (n:Nat):∀ (K:K2) (o:Nat),ltE n (encK o K)
 | [],_=>trivial
 | _::K,o=>⟨⟨by simp [keyA,ltA,ltL],by simp [ltA]⟩,lt_encK n K (o+1)⟩
theorem elem_at {p:List Nod} {n:Nat}:elemB p n=true↔∃ h:n<p.length,p[n].name≠⟨#[]⟩:=by
 unfold elemB;simp only [Bool.and_eq_true,decide_eq_true_eq,Bool.not_eq_true',decide_eq_false_iff_not]
 constructor
 ·rintro ⟨-,h1,h2⟩
  have h:n<p.length:=by omega
  exact ⟨h,by rwa [Q0o h] at h2⟩
 ·rintro ⟨h,h1⟩
  exact ⟨Int.natCast_nonneg _,by omega,by rwa [Q0o h]⟩
theorem kin_self {p:List Nod} {n:Nat} (hT:TreeP p) (he:elemB p n=true):(n:Int)∈kinM p n∧0<n:=by
 obtain ⟨h,hne⟩:=elem_at.1 he;have h0:0<n:=by
  rcases Nat.eq_zero_or_pos n with rfl | h0
  ·have:=hT.root (by intro e;rw [e] at h;simp at h)
   have e:=Q0o h;simp only [Int.natCast_zero] at e;rw [e] at this;exact absurd this hne
  ·exact h0
 obtain ⟨u1,u2⟩:=hT.up n h0 h;refine ⟨?_,h0⟩;obtain ⟨u,hu⟩:∃ u:Nat,(ndAt p n).up=u:=⟨(ndAt p n).up.toNat,by omega⟩;unfold kinM;rw [if_pos ⟨he,u1,by omega⟩,List.mem_filter];refine ⟨?_,he⟩;rw [hu,hT.kids u (by omega)];unfold kidsR;rw [List.mem_map];exact ⟨n,List.mem_filter.2 ⟨List.mem_range.2 h,decide_eq_true ⟨h0,hu⟩⟩,rfl⟩
theorem kin_nat {p:List Nod} {n:Int} {x:Int} (hx:x∈kinM p n):∃ k:Nat,x=(k:Int)∧k<p.length:=by
 unfold kinM at hx
 split at hx
 ·obtain ⟨k,h1,h2,-⟩:=at_nat (List.mem_filter.1 hx).2
  exact ⟨k,h1,h2⟩
 ·simp at hx
theorem Q3w {p:List Nod} {n:Nat} {comb x:Int} (hn:n<p.length) (hx:x∈relatedM p n comb):∃ k:Nat,x=(k:Int)∧k<p.length:=by
 have above:∀ k∈aboveM p n,k<p.length:=fun k hk=>by have:=(above_lt n k hk).2;omega
 have ahead:∀ y∈aheadM p n,∃ k:Nat,y=(k:Int)∧k<p.length:=fun y hy=>kin_nat ((List.takeWhile_sublist _).subset hy);unfold relatedM at hx
 split at hx
 ·obtain ⟨k,hk,rfl⟩:=List.mem_map.1 hx;exact ⟨k,rfl,above k hk⟩
 ·split at hx
  ·obtain ⟨k,hk,rfl⟩:=List.mem_map.1 hx;exact ⟨k,rfl,above k (List.mem_of_mem_take hk)⟩
  ·split at hx
   ·exact ahead x (List.mem_of_mem_drop hx)
   ·split at hx
    ·exact ahead x hx
    ·simp at hx
theorem related_len {p:List Nod} {n:Nat} {comb:Int} (hp:OkPg p) (hn:n<p.length):(relatedM p n comb).length≤1000000:=by
 have hab:∀ n:Nat,(aboveM p n).length≤n:=by
  intro n
  induction n using Nat.strongRecOn with
  | ind n ih =>
    rw [Q1t]
    split
    ·rename_i h
     have:=ih (ndAt p n).up.toNat (by omega);rw [List.length_cons];omega
    ·simp
 have h1:=hab n;have h2:=hp.len;have h3:(aheadM p n).length≤1000000:=Nat.le_trans (List.takeWhile_sublist _).length_le (kin_len hp);unfold relatedM
 split
 ·rw [List.length_map];omega
 ·split
  ·rw [List.length_map,List.length_take];omega
  ·split
   ·rw [List.length_drop];omega
   ·split
    ·exact h3
    ·simp
def okPT (PT:List Part):Prop:=PT.length≤1000000∧∀ pt∈PT,pt.l.length≤1000000∧∀ x∈pt.l,okS x
attribute [go_sem] appL newsA isSlice
theorem tree_P {p:List Nod} (h:treeB p=true):TreeP p:=by
 unfold treeB at h;simp only [Bool.and_eq_true,Bool.not_eq_true',decide_eq_false_iff_not,decide_eq_true_eq,List.all_eq_true,List.mem_range,Bool.or_eq_true] at h;obtain ⟨h0,h1,h2,h3,h4,h5⟩:=h;refine ⟨fun n hn hl=>?_,fun _=>?_,fun _=>h1,h5⟩
 ·rcases h4 n hl with h | h
  ·omega
  ·exact h
 ·have hz:=congrArg ByteArray.size h2
  rw [ByteArray.size_append] at hz;have:(ndAt p 0).name.size=0:=by
   have:ByteArray.size ⟨#[]⟩=0:=rfl;omega
  exact ByteArray.size_eq_zero_iff.1 this
def pageM (p:List Nod):List Nod:=if treeB p=true then p else []
theorem reE_K (g:Nat→Nat):∀ (K:K2) (o:Nat),reFE g (encK o K)=encK o K
 | [],_=>rfl
 | e::K,o=>by rw [encK,reFE,reE_K g K,keyA,reF_id _ _ rfl,reF_id _ _ rfl]
theorem reB_K (g:Nat→Nat) (K:K2):reFB g (blkK K)=blkK K:=by unfold blkK;rw [reFB,reE_K]
theorem page_ok {p:List Nod} (hp:OkPg p):OkPg (pageM p)∧TreeP (pageM p):=by
 unfold pageM
 cases h:treeB p with
 | true=>rw [if_pos rfl];exact ⟨hp,tree_P h⟩
 | false =>
   rw [if_neg (by decide)];exact ⟨⟨by simp,by simp,by simp,by simp,by simp⟩,⟨fun n h1 h2=>by simp at h2,fun h=>absurd rfl h,fun h=>by simp at h,fun n h=>by simp at h⟩⟩
end Go.Proofs.YtabliahkhafddaaGreat
namespace Go.Proofs.YtabliahkhafddaaGreat
open Go.RowKit Go.Ev
open Go.Ev.AV renaming any→aN
def standsR (p:List Nod) (n m:Nat) (comb:Int):Bool :=
 if comb=1 then decide (m∈aboveM p n) else
 if comb=2 then decide ((ndAt p n).up=(m:Int)) else
 if comb=3 then decide ((ndAt p n).up=(ndAt p m).up)&&decide (placeM p m=placeM p n - 1) else
 if comb=4 then decide ((ndAt p n).up=(ndAt p m).up)&&decide (placeM p m<placeM p n) else false
theorem Q3k {p:List Nod} {n:Nat} (hT:TreeP p) (he:elemB p n=true):0<n∧n<p.length:=⟨(kin_self hT he).2,(elem_at.1 he).1⟩
theorem kin_eq {p:List Nod} {n:Nat} (hT:TreeP p) (he:elemB p n=true):∃ u:Nat,(ndAt p n).up=(u:Int)∧kinM p n=(kidsR p p.length u).filter (elemB p):=by
 obtain ⟨h0,h⟩:=Q3k hT he;obtain ⟨u1,u2⟩:=hT.up n h0 h;obtain ⟨u,hu⟩:∃ u:Nat,(ndAt p n).up=u:=⟨(ndAt p n).up.toNat,by omega⟩;refine ⟨u,hu,?_⟩;unfold kinM;rw [if_pos ⟨he,u1,by omega⟩,hu,hT.kids u (by omega)]
theorem kidsR_nodup (p:List Nod) (k j:Nat):(kidsR p k j).Nodup:=by
 unfold kidsR;exact List.Pairwise.map _ (fun a b hne e=>hne (by omega)) (List.Pairwise.filter _ List.nodup_range)
theorem kin_nodup {p:List Nod} {n:Nat} (hT:TreeP p) (he:elemB p n=true):(kinM p n).Nodup:=by
 obtain ⟨u,-,h⟩:=kin_eq hT he;rw [h];exact List.Pairwise.filter _ (kidsR_nodup _ _ _)
theorem kin_iff {p:List Nod} {n m:Nat} (hT:TreeP p) (hn:elemB p n=true) (hm:elemB p m=true):(m:Int)∈kinM p n↔(ndAt p n).up=(ndAt p m).up:=by
 obtain ⟨u,hu,h⟩:=kin_eq hT hn;obtain ⟨m0,m1⟩:=Q3k hT hm;rw [h,hu,List.mem_filter];unfold kidsR;rw [List.mem_map]
 constructor
 ·rintro ⟨⟨i,hi,e⟩,-⟩
  obtain rfl:i=m:=by omega
  exact (of_decide_eq_true (List.mem_filter.1 hi).2).2.symm
 ·intro e
  exact ⟨⟨m,List.mem_filter.2 ⟨List.mem_range.2 m1,decide_eq_true ⟨m0,e.symm⟩⟩,rfl⟩,hm⟩
theorem kin_same {p:List Nod} {n m:Nat} (hT:TreeP p) (hn:elemB p n=true) (hm:elemB p m=true) (e:(ndAt p n).up=(ndAt p m).up):kinM p n=kinM p m:=by
 obtain ⟨u,hu,h⟩:=kin_eq hT hn;obtain ⟨v,hv,k⟩:=kin_eq hT hm;obtain rfl:u=v:=by omega
 rw [h,k]
theorem idx_nodup {l:List Int} (hl:l.Nodup) {j:Nat} (hj:j<l.length):idxL (fun k=>decide (k=l[j])) l=(j:Int):=by
 refine Q3i hj (fun x hx=>?_) (decide_eq_true rfl);obtain ⟨i,hi,e⟩:=List.getElem_of_mem hx;rw [List.length_take] at hi;rw [List.getElem_take] at e;subst e;refine decide_eq_false fun e=>?_;have:=(List.getElem_inj hl).1 e;omega
theorem stands_rel {p:List Nod} {n m:Nat} (comb:Int) (hT:TreeP p) (hn:elemB p n=true) (hm:elemB p m=true):standsR p n m comb=decide ((m:Int)∈relatedM p n comb):=by
 obtain ⟨n0,n1⟩:=Q3k hT hn;obtain ⟨m0,m1⟩:=Q3k hT hm;obtain ⟨u1,u2⟩:=hT.up n n0 n1;have hin:=(kin_self hT hn).1;have hnd:=kin_nodup hT hn;obtain ⟨i,hi,ei⟩:=List.getElem_of_mem hin;have hidx:idxL (fun k=>decide (k=(n:Int))) (kinM p n)=(i:Int):=by
  have:=idx_nodup hnd hi
  rwa [ei] at this
 have hpl:placeM p n=1+(i:Int):=by unfold placeM;rw [hidx]
 have hah:aheadM p n=(kinM p n).take i:=ahead_cut hi hidx;have hmem:∀ j:Nat,(hj:j<(kinM p n).length)→(kinM p n)[j]=(m:Int)→(ndAt p n).up=(ndAt p m).up∧placeM p m=1+(j:Int):=fun j hj e=>by
  have hup:=(kin_iff hT hn hm).1 (e▸List.getElem_mem hj);refine ⟨hup,?_⟩;unfold placeM;rw [←kin_same hT hn hm hup];have:=idx_nodup hnd hj;rw [e] at this;rw [this]
 unfold standsR relatedM
 by_cases c1:comb=1
 ·rw [if_pos c1,if_pos c1]
  refine decide_eq_decide.2 ⟨fun h=>List.mem_map.2 ⟨m,h,rfl⟩,fun h=>?_⟩;obtain ⟨k,hk,e⟩:=List.mem_map.1 h;obtain rfl:k=m:=by omega
  exact hk
 rw [if_neg c1,if_neg c1]
 by_cases c2:comb=2
 ·rw [if_pos c2,if_pos c2,Q1t]
  refine decide_eq_decide.2 ?_
  by_cases hu:0<(ndAt p n).up
  ·rw [if_pos ⟨hu,u2⟩]
   simp only [List.take_succ_cons,List.take_zero,List.map_cons,List.map_nil,List.mem_singleton];omega
  ·rw [if_neg (by omega)]
   simp only [List.take_nil,List.map_nil,List.not_mem_nil,iff_false];omega
 rw [if_neg c2,if_neg c2]
 by_cases c3:comb=3
 ·rw [if_pos c3,if_pos c3,hah,←Bool.decide_and]
  have hl:((kinM p n).take i).length=i:=by rw [List.length_take];omega
  rw [hl];refine decide_eq_decide.2 ⟨fun ⟨h1,h2⟩=>?_,fun h=>?_⟩
  ·obtain ⟨j,hj,ej⟩:=List.getElem_of_mem ((kin_iff hT hn hm).2 h1)
   have:=(hmem j hj ej).2;rw [List.mem_iff_getElem];refine ⟨0,by rw [List.length_drop,hl];omega,?_⟩;rw [List.getElem_drop,List.getElem_take];have e0:i - 1+0=j:=by omega
   simp only [e0];exact ej
  ·obtain ⟨k,hk,ek⟩:=List.getElem_of_mem h
   rw [List.length_drop,hl] at hk;rw [List.getElem_drop,List.getElem_take] at ek;have:=hmem _ (by omega) ek;exact ⟨this.1,by omega⟩
 rw [if_neg c3,if_neg c3]
 by_cases c4:comb=4
 ·rw [if_pos c4,if_pos c4,hah,←Bool.decide_and]
  refine decide_eq_decide.2 ⟨fun ⟨h1,h2⟩=>?_,fun h=>?_⟩
  ·obtain ⟨j,hj,ej⟩:=List.getElem_of_mem ((kin_iff hT hn hm).2 h1)
   have:=(hmem j hj ej).2;rw [List.mem_take_iff_getElem];exact ⟨j,by omega,ej⟩
  ·obtain ⟨k,hk,ek⟩:=List.mem_take_iff_getElem.1 h
   have:=hmem _ (by omega) ek;exact ⟨this.1,by omega⟩
 ·rw [if_neg c4,if_neg c4]
  simp
theorem Q3r {p:List Nod} {st:List Stt} {l:List Part} {n:Nat} (h:fitsS p st l n=true):elemB p n=true:=by
 cases l with
 | nil=>simp [fitsS] at h
 | cons x l=>exact (fits_head h).1
def someR (p:List Nod) (f:Nat→Bool) (n:Nat) (comb:Int):Bool:=(List.range p.length).any fun m=>decide (0<m)&&(f m&&standsR p n m comb)
theorem some_rel {p:List Nod} {st:List Stt} {l:List Part} {n:Nat} {comb:Int} (hT:TreeP p) (hn:elemB p n=true):someR p (fitsS p st l) n comb=(relatedM p n comb).any fun k=>fitsS p st l k.toNat:=by
 unfold someR;rw [Bool.eq_iff_iff,List.any_eq_true,List.any_eq_true]
 constructor
 ·rintro ⟨m,hm,h⟩
  obtain ⟨-,h2⟩:=Bool.and_eq_true_iff.1 h;obtain ⟨h3,h4⟩:=Bool.and_eq_true_iff.1 h2;rw [stands_rel comb hT hn (Q3r h3)] at h4;exact ⟨m,of_decide_eq_true h4,h3⟩
 ·rintro ⟨k,hk,h⟩
  obtain ⟨m,rfl,hm⟩:=Q3w (Q3k hT hn).2 hk;rw [Int.toNat_natCast] at h;refine ⟨m,List.mem_range.2 hm,?_⟩;rw [decide_eq_true (Q3k hT (Q3r h)).1,h,stands_rel comb hT hn (Q3r h),decide_eq_true hk]
  rfl
theorem row_step {p:List Nod} {st:List Stt} {PT:List Part} {k n:Nat} (hT:TreeP p) (hk:k<PT.length) :
 fitsS p st (PT.take (k+1)).reverse n=(elemB p n&&(PT[k].l.all (holdsS p st n)&&(decide (k=0)||someR p (fitsS p st (PT.take k).reverse) n PT[k].comb))):=by
 rw [List.take_succ_eq_append_getElem hk,List.reverse_append];show fitsS p st (PT[k]::(PT.take k).reverse) n=_
 by_cases he:elemB p n=true
 ·cases hr:(PT.take k).reverse with
  | nil =>
    have h0:k=0:=by
     have:=congrArg List.length hr;rw [List.length_reverse,List.length_take,List.length_nil] at this;omega
    rw [fitsS,decide_eq_true h0,Bool.true_or,Bool.and_true]
  | cons y l =>
    have h0:k≠0:=by
     intro h0;rw [h0] at hr;simp at hr
    rw [fitsS,decide_eq_false h0,Bool.false_or,some_rel hT he,Bool.and_assoc]
 ·rw [Bool.not_eq_true] at he
  cases hr:(PT.take k).reverse with
  | nil=>rw [fitsS,he];rfl
  | cons y l=>rw [fitsS,he];rfl
theorem isM_row {p:List Nod} {st:List Stt} {c:Cx} (n:Nat):isM p st c n=fitsS p st c.parts.reverse n:=by
 unfold isM;rw [Int.toNat_natCast]
 cases h:fitsS p st c.parts.reverse n with
 | false=>rw [Bool.and_false]
 | true=>rw [Q3r h];rfl
theorem isM_in {p:List Nod} {st:List Stt} {c:Cx} {n:Int} (h:isM p st c n=true):∃ k:Nat,n=(k:Int)∧k<p.length:=by
 unfold isM at h;obtain ⟨k,h1,h2,-⟩:=at_nat (Bool.and_eq_true_iff.1 h).1;exact ⟨k,h1,h2⟩
def allR (p:List Nod) (st:List Stt) (c:Cx):List Int:=((List.range p.length).filter fun n:Nat=>treeB p&&isM p st c (n:Int)).map fun n:Nat=>(n:Int)
theorem mem_allR {p:List Nod} {st:List Stt} {c:Cx} {n:Int}:n∈allR p st c↔(treeB p&&isM p st c n)=true:=by
 unfold allR;rw [List.mem_map]
 constructor
 ·rintro ⟨k,hk,rfl⟩
  exact (List.mem_filter.1 hk).2
 ·intro h
  obtain ⟨k,rfl,hk⟩:=isM_in (Bool.and_eq_true_iff.1 h).2;exact ⟨k,List.mem_filter.2 ⟨List.mem_range.2 hk,h⟩,rfl⟩
theorem nth_ref {a b i:Int} (ha:bigN a=false) (hb:bigN b=false) (hi:bigN i=false) :
 nthM a b i=if a=0∨i=b then decide (i=b) else if a<0 then decide (i<b)&&decide (Int.tmod (b - i) (-a)=0) else decide (b<i)&&decide (Int.tmod (i - b) a=0):=by
 unfold nthM;rw [ha,hb,hi,Bool.not_false,Bool.true_and,Bool.true_and,Bool.true_and]
 by_cases h0:a=0
 ·rw [if_pos h0,if_pos (.inl h0)]
 rw [if_neg h0]
 by_cases he:i=b
 ·subst he
  rw [if_pos (.inr rfl),Int.sub_self];simp
 rw [if_neg (by omega)];have key:∀ x y:Int,y≠0→Int.tmod x y=0→(0≤Int.tdiv x y↔0≤x*y):=fun x y hy hm=>by
  have e:=Int.mul_tdiv_add_tmod x y;rw [hm,Int.add_zero] at e;generalize Int.tdiv x y=q at e ⊢;rw [←e];have hsq:0<y*y:=by
   rcases Int.lt_or_gt_of_ne hy with h | h
   ·exact Int.mul_pos_of_neg_of_neg h h
   ·exact Int.mul_pos h h
  constructor
  ·intro hq
   have:=Int.mul_nonneg (Int.le_of_lt hsq) hq
   rwa [Int.mul_right_comm] at this
  ·intro h
   rw [Int.mul_right_comm] at h;exact Int.nonneg_of_mul_nonneg_right h hsq
 by_cases hn:a<0
 ·rw [if_pos hn]
  have hm:Int.tmod (i - b) a=0↔Int.tmod (b - i) (-a)=0:=by
   rw [Int.tmod_neg,show b - i=-(i - b) by omega,Int.neg_tmod,Int.neg_eq_zero]
  by_cases h:Int.tmod (i - b) a=0
  ·have h2:=hm.1 h
   rw [decide_eq_true h,decide_eq_true h2,Bool.true_and,Bool.and_true];refine decide_eq_decide.2 ((key _ _ h0 h).trans ⟨fun h3=>?_,fun h3=>?_⟩)
   ·rcases Int.lt_or_gt_of_ne he with h4 | h4
    ·exact h4
    ·have:=Int.mul_neg_of_pos_of_neg (show 0<i - b by omega) hn
     omega
   ·exact Int.le_of_lt (Int.mul_pos_of_neg_of_neg (by omega) hn)
  ·rw [decide_eq_false h,decide_eq_false (fun h2=>h (hm.2 h2)),Bool.false_and,Bool.and_false]
 ·rw [if_neg hn]
  by_cases h:Int.tmod (i - b) a=0
  ·rw [decide_eq_true h,Bool.true_and,Bool.and_true]
   refine decide_eq_decide.2 ((key _ _ h0 h).trans ⟨fun h3=>?_,fun h3=>?_⟩)
   ·rcases Int.lt_or_gt_of_ne he with h4 | h4
    ·have:=Int.mul_neg_of_neg_of_pos (show i - b<0 by omega) (show 0<a by omega)
     omega
    ·exact h4
   ·exact Int.le_of_lt (Int.mul_pos (by omega) (by omega))
  ·rw [decide_eq_false h,Bool.false_and,Bool.and_false]
structure Saf where
 cls:List ByteArray
 atts:List ByteArray
def clsSafe (S:Saf) (name:ByteArray):Bool:=!decide (name=⟨#[]⟩)&&(!(name.data.toList.any isBl)&&S.cls.any fun y=>decide (y=name))
def attSafe (S:Saf) (name:ByteArray):Bool:=if name=clsB then S.cls.any (clsSafe S) else !decide (name=⟨#[]⟩)&&S.atts.any fun y=>decide (y=name)
def maySafe (S:Saf) (kind:Int) (name:ByteArray):Bool:=if kind=3 then attSafe S idB else if kind=4 then clsSafe S name else if kind=5∨kind=6 then attSafe S name else decide (kind=7)
def wiQ (a:Int):Int:=min (max a 0) 2
def andQ (l:List Int):Int:=l.foldl (fun a x=>min a (wiQ x)) 2
def orQ (l:List Int):Int:=l.foldl (fun a x=>max a (wiQ x)) 0
section
variable (S:Saf) (p:List Nod) (n:Int)
mutual
def simpQ:Simp→Int
 | .mk kind name value a b l=>if kind=11 then 2 - wiQ (orQ (simpsQ l)) else if maySafe S kind name=true then 1 else if holdsS p [] n (.mk kind name value a b l)=true then 2 else 0
def simpsQ:List Simp→List Int
 | []=>[]
 | x::xs=>simpQ x::simpsQ xs
end
theorem simpsQ_eq:∀ l:List Simp,simpsQ S p n l=l.map (simpQ S p n)
 | []=>by rw [simpsQ];rfl
 | x::xs=>by rw [simpsQ,simpsQ_eq xs,List.map_cons]
end
def fitsQ (S:Saf) (p:List Nod):List Part→Nat→Int
 | [],_=>0
 | [x],n=>if elemB p n=true then andQ (x.l.map (simpQ S p n)) else 0
 | x::y::l,n=>if elemB p n=true then (if andQ (x.l.map (simpQ S p n))=0 then 0 else andQ [andQ (x.l.map (simpQ S p n)),(relatedM p n x.comb).foldl (fun a k=>orQ [a,fitsQ S p (y::l) k.toNat]) 0]) else 0
def ofQ (S:Saf) (p:List Nod) (n:Int) (c:Cx):Int:=if treeB p=true∧elemB p n=true then fitsQ S p c.parts.reverse n.toNat else 0
theorem wiQ_in {a:Int} (h:0≤a) (k:a≤2):wiQ a=a:=by unfold wiQ;omega
theorem wiQ_bd (a:Int):0≤wiQ a∧wiQ a≤2:=by unfold wiQ;omega
theorem and_fold:∀ (l:List Int) (a:Int),0≤a→0≤l.foldl (fun a x=>min a (wiQ x)) a∧l.foldl (fun a x=>min a (wiQ x)) a≤a
 | [],a,h=>⟨h,Int.le_refl _⟩
 | x::l,a,h=>by
   have h1:=wiQ_bd x;have h2:=and_fold l (min a (wiQ x)) (by omega);rw [List.foldl_cons];omega
theorem or_fold:∀ (l:List Int) (a:Int),a≤2→a≤l.foldl (fun a x=>max a (wiQ x)) a∧l.foldl (fun a x=>max a (wiQ x)) a≤2
 | [],a,h=>⟨Int.le_refl _,h⟩
 | x::l,a,h=>by
   have h1:=wiQ_bd x;have h2:=or_fold l (max a (wiQ x)) (by omega);rw [List.foldl_cons];omega
theorem andQ_bd (l:List Int):0≤andQ l∧andQ l≤2:=and_fold l 2 (by decide)
theorem orQ_bd (l:List Int):0≤orQ l∧orQ l≤2:=or_fold l 0 (by decide)
def twoQ (b:Bool):Int:=if b=true then 2 else 0
theorem or_any {α:Type} (f:α→Bool) (l:List α):orQ (l.map fun x=>twoQ (f x))=twoQ (l.any f):=by
 have key:∀ (l:List α) (b:Bool),(l.map fun x=>twoQ (f x)).foldl (fun a x=>max a (wiQ x)) (twoQ b)=twoQ (b||l.any f):=by
  intro l
  induction l with
  | nil=>intro b;rw [List.any_nil,Bool.or_false];rfl
  | cons x l ih =>
    intro b;rw [List.map_cons,List.foldl_cons];have:max (twoQ b) (wiQ (twoQ (f x)))=twoQ (b||f x):=by cases b <;> cases f x <;> decide
    rw [this,ih,List.any_cons,Bool.or_assoc]
 have:=key l false;rw [Bool.false_or] at this;exact this
def calm:Simp→Prop
 | .mk kind _ _ _ _ l=>kind≠7∧calmL l
where calmL:List Simp→Prop
 | []=>True
 | x::xs=>calm x∧calmL xs
theorem calmL_mem:∀ {l:List Simp},calm.calmL l→∀ y∈l,calm y
 | x::xs,h,y,hy=>by
   rcases List.mem_cons.1 hy with rfl | hy
   ·exact h.1
   ·exact calmL_mem h.2 y hy
def none0:Saf:=⟨[],[]⟩
theorem may_none (kind:Int) (name:ByteArray) (h:kind≠7):maySafe none0 kind name=false:=by
 have hc:∀ s,clsSafe none0 s=false:=fun s=>by unfold clsSafe none0;simp
 have ha:∀ s,attSafe none0 s=false:=fun s=>by unfold attSafe;split <;> simp [none0]
 unfold maySafe;rw [ha,ha,hc];simp [h]
theorem simp_calm (p:List Nod) (n:Int) (N:Nat):∀ x:Simp,SizeOf.sizeOf x≤N→calm x→simpQ none0 p n x=twoQ (holdsS p [] n x):=by
 induction N with
 | zero=>intro x hx;cases x;simp at hx
 | succ N ih =>
   rintro ⟨kind,name,value,a,b,l⟩ hl hc;rw [Simp.mk.sizeOf_spec] at hl;rw [simpQ]
   by_cases h:kind=11
   ·subst h
    have hh:holdsS p [] n (.mk 11 name value a b l)=!(l.any (holdsS p [] n)):=by
     rw [holdsS];simp only [Int.reduceEq,if_false,if_true,anyS_eq]
    have hm:l.map (simpQ none0 p n)=l.map fun x=>twoQ (holdsS p [] n x):=List.map_congr_left fun y hy=>ih y (by have:=List.sizeOf_lt_of_mem hy;omega) (calmL_mem hc.2 y hy);rw [if_pos rfl,simpsQ_eq,hm,or_any,hh]
    cases l.any (holdsS p [] n) <;> decide
   ·rw [if_neg h,may_none _ _ hc.1,if_neg (by decide)]
    rfl
theorem and_ge:∀ (l:List Int) (a:Int),1≤a→(∀ x∈l,1≤x)→1≤l.foldl (fun a x=>min a (wiQ x)) a
 | [],_,h,_=>h
 | x::l,a,h,hl=>by
   have h1:=hl x (by simp);rw [List.foldl_cons];exact and_ge l _ (by unfold wiQ;omega) fun y hy=>hl y (List.mem_cons_of_mem _ hy)
theorem or_le:∀ (l:List Int) (a:Int),a≤1→(∀ x∈l,x≤1)→l.foldl (fun a x=>max a (wiQ x)) a≤1
 | [],_,h,_=>h
 | x::l,a,h,hl=>by
   have h1:=hl x (by simp);rw [List.foldl_cons];exact or_le l _ (by unfold wiQ;omega) fun y hy=>hl y (List.mem_cons_of_mem _ hy)
theorem or_ge:∀ (l:List Int) (a:Int),(1≤a∨∃ x∈l,1≤x)→1≤l.foldl (fun a x=>max a (wiQ x)) a
 | [],_,h=>h.elim id (fun ⟨x,hx,_⟩=>by simp at hx)
 | x::l,a,h=>by
   rw [List.foldl_cons];refine or_ge l _ ?_;rcases h with h | ⟨y,hy,h⟩
   ·exact .inl (by omega)
   ·rcases List.mem_cons.1 hy with rfl | hy
    ·exact .inl (by unfold wiQ;omega)
    ·exact .inr ⟨y,hy,h⟩
theorem or2_ge {a b:Int} (h:1≤a∨1≤b):1≤orQ [a,b]:=by
 refine or_ge _ _ (.inr ?_);rcases h with h | h
 ·exact ⟨a,by simp,h⟩
 ·exact ⟨b,by simp,h⟩
theorem fold_or_ge {α:Type} (f:α→Int):∀ (l:List α) (a:Int),(1≤a∨∃ x∈l,1≤f x)→1≤l.foldl (fun a k=>orQ [a,f k]) a
 | [],_,h=>h.elim id (fun ⟨x,hx,_⟩=>by simp at hx)
 | x::l,a,h=>by
   rw [List.foldl_cons];refine fold_or_ge f l _ ?_;rcases h with h | ⟨y,hy,h⟩
   ·exact .inl (or2_ge (.inl h))
   ·rcases List.mem_cons.1 hy with rfl | hy
    ·exact .inl (or2_ge (.inr h))
    ·exact .inr ⟨y,hy,h⟩
theorem simp_sound (p:List Nod) (st:List Stt) (n:Int) (N:Nat):∀ x:Simp,SizeOf.sizeOf x≤N→(holdsS p st n x=true→1≤simpQ none0 p n x)∧(holdsS p st n x=false→simpQ none0 p n x≤1):=by
 induction N with
 | zero=>intro x hx;cases x;simp at hx
 | succ N ih =>
   rintro ⟨kind,name,value,a,b,l⟩ hl;rw [Simp.mk.sizeOf_spec] at hl;rw [simpQ]
   by_cases h:kind=11
   ·subst h
    have hh:holdsS p st n (.mk 11 name value a b l)=!(l.any (holdsS p st n)):=by
     rw [holdsS];simp only [Int.reduceEq,if_false,if_true,anyS_eq]
    have IH:∀ y∈l,(holdsS p st n y=true→1≤simpQ none0 p n y)∧(holdsS p st n y=false→simpQ none0 p n y≤1):=fun y hy=>ih y (by have:=List.sizeOf_lt_of_mem hy;omega);rw [if_pos rfl,simpsQ_eq,hh];have hb:=orQ_bd (l.map (simpQ none0 p n));rw [wiQ_in hb.1 hb.2,Bool.not_eq_true',Bool.not_eq_false']
    constructor
    ·intro h
     rw [List.any_eq_false] at h;have:orQ (l.map (simpQ none0 p n))≤1:=or_le _ _ (by decide) fun x hx=>by
      obtain ⟨y,hy,rfl⟩:=List.mem_map.1 hx;exact (IH y hy).2 (by simpa using h y hy)
     omega
    ·intro h
     rw [List.any_eq_true] at h;obtain ⟨y,hy,h⟩:=h;have:1≤orQ (l.map (simpQ none0 p n)):=or_ge _ _ (.inr ⟨_,List.mem_map_of_mem hy,(IH y hy).1 h⟩);omega
   ·rw [if_neg h]
    by_cases h7:kind=7
    ·have:maySafe none0 kind name=true:=by unfold maySafe;subst h7;simp
     rw [if_pos this];exact ⟨fun _=>by decide,fun _=>by decide⟩
    ·rw [may_none _ _ h7,if_neg (by decide)]
     have hs:holdsS p st n (.mk kind name value a b l)=holdsS p [] n (.mk kind name value a b l):=by
      rw [holdsS,holdsS];simp only [if_neg h7,if_neg h]
     rw [hs]
     constructor
     ·intro h;rw [if_pos h];decide
     ·intro h;rw [if_neg (by rw [h];decide)];decide
theorem fits_sound (p:List Nod) (st:List Stt):∀ (PT:List Part) (n:Nat),fitsS p st PT n=true→1≤fitsQ none0 p PT n
 | [],n,h=>by simp [fitsS] at h
 | [x],n,h=>by
   rw [fitsS,Bool.and_eq_true,List.all_eq_true] at h;rw [fitsQ,if_pos h.1];refine and_ge _ _ (by decide) fun y hy=>?_;obtain ⟨z,hz,rfl⟩:=List.mem_map.1 hy;exact (simp_sound p st n _ z (Nat.le_refl _)).1 (h.2 z hz)
 | x::y::l,n,h=>by
   rw [fitsS,Bool.and_eq_true,Bool.and_eq_true,List.all_eq_true,List.any_eq_true] at h;obtain ⟨⟨h1,h2⟩,k,hk,h3⟩:=h;rw [fitsQ,if_pos h1];have ha:1≤andQ (x.l.map (simpQ none0 p n)):=and_ge _ _ (by decide) fun y hy=>by
    obtain ⟨z,hz,rfl⟩:=List.mem_map.1 hy;exact (simp_sound p st n _ z (Nat.le_refl _)).1 (h2 z hz)
   rw [if_neg (by omega)];have ho:1≤(relatedM p n x.comb).foldl (fun a k=>orQ [a,fitsQ none0 p (y::l) k.toNat]) 0:=fold_or_ge (fun k:Int=>fitsQ none0 p (y::l) k.toNat) _ _ (.inr ⟨k,hk,fits_sound p st (y::l) k.toNat h3⟩);refine and_ge _ _ (by decide) fun z hz=>?_;simp only [List.mem_cons,List.not_mem_nil,or_false] at hz;rcases hz with rfl | rfl
   ·exact ha
   ·exact ho
theorem of_sound {p:List Nod} {st:List Stt} {c:Cx} {n:Int} (h:(treeB p&&isM p st c n)=true):1≤ofQ none0 p n c:=by
 obtain ⟨ht,h⟩:=Bool.and_eq_true_iff.1 h;unfold isM at h;obtain ⟨he,h⟩:=Bool.and_eq_true_iff.1 h;unfold ofQ;rw [if_pos ⟨ht,he⟩];exact fits_sound p st _ _ h
def memoQ (find:K2→Int×K2) (k:Int×Int) (K:K2):Int×K2 :=
 if getK K k=0 then ((find K).1,setK (find K).2 k (1+(find K).1)) else (getK K k - 1,K)
def foldQ (f:K2→Int→Int×K2):K2→Int→List Int→Int×K2
 | K,a,[]=>(a,K)
 | K,a,x::l=>foldQ f (f K x).2 (orQ [a,(f K x).1]) l
def partQ (S:Saf) (p:List Nod) (pt:Part) (n:Int):Int:=andQ (pt.l.map (simpQ S p n))
def findQ (S:Saf) (p:List Nod) (PT:List Part) (fits:K2→Int→Int×K2) (q:Nat) (K:K2) (n:Int):Int×K2:=match PT[q]? with
 | none=>(0,K)
 | some pt=>if elemB p n=true then (if q=0∨partQ S p pt n=0 then (partQ S p pt n,K) else (andQ [partQ S p pt n,(foldQ fits K 0 (relatedM p n.toNat pt.comb)).1],(foldQ fits K 0 (relatedM p n.toNat pt.comb)).2)) else (0,K)
def fitsKQ (S:Saf) (p:List Nod) (PT:List Part):Nat→K2→Int→Int×K2
 | 0,K,n=>memoQ (fun K=>findQ S p PT (fun K _=>(0,K)) 0 K n) (n,0) K
 | q+1,K,n=>memoQ (fun K=>findQ S p PT (fitsKQ S p PT q) (q+1) K n) (n,((q+1:Nat):Int)) K
def rightQ (S:Saf) (p:List Nod) (PT:List Part) (q n:Nat):Int:=fitsQ S p (PT.take (q+1)).reverse n
theorem fitsQ_bd (S:Saf) (p:List Nod):∀ (PT:List Part) (n:Nat),0≤fitsQ S p PT n∧fitsQ S p PT n≤2
 | [],n=>by rw [fitsQ];decide
 | [x],n=>by
   rw [fitsQ]
   split
   ·exact andQ_bd _
   ·decide
 | x::y::l,n=>by
   rw [fitsQ]
   split
   ·split
    ·decide
    ·exact andQ_bd _
   ·decide
def OkQ (S:Saf) (p:List Nod) (PT:List Part) (Q:Nat) (K:K2):Prop:=∀ n q:Nat,q<Q→getK K ((n:Int),(q:Int))=0∨getK K ((n:Int),(q:Int))=1+rightQ S p PT q n
theorem rightQ_zero {S:Saf} {p:List Nod} {PT:List Part} (h:0<PT.length) (n:Nat):rightQ S p PT 0 n=if elemB p n=true then partQ S p PT[0] n else 0:=by
 unfold rightQ partQ;rw [List.take_succ_eq_append_getElem h,List.take_zero,List.nil_append,List.reverse_singleton,fitsQ]
theorem rightQ_step {S:Saf} {p:List Nod} {PT:List Part} {q:Nat} (h:q+1<PT.length) (n:Nat):rightQ S p PT (q+1) n=if elemB p n=true then (if partQ S p PT[q+1] n=0 then 0 else andQ [partQ S p PT[q+1] n,(relatedM p n PT[q+1].comb).foldl (fun a k=>orQ [a,rightQ S p PT q k.toNat]) 0]) else 0:=by
 unfold rightQ partQ;rw [List.take_succ_eq_append_getElem h,List.reverse_append,List.reverse_singleton,List.singleton_append];rw [List.take_succ_eq_append_getElem (show q<PT.length by omega),List.reverse_append,List.reverse_singleton,List.singleton_append,fitsQ]
def TurnQ (S:Saf) (p:List Nod) (PT:List Part) (Q:Nat) (K:K2) (r:Int) (f:Int×K2):Prop:=f.1=r∧OkQ S p PT Q f.2∧∀ n q:Nat,Q≤q→getK f.2 ((n:Int),(q:Int))=getK K ((n:Int),(q:Int))
theorem memo_turnQ {S:Saf} {p:List Nod} {PT:List Part} {q n:Nat} {find:K2→Int×K2} (H:∀ K,OkQ S p PT q K→TurnQ S p PT q K (rightQ S p PT q n) (find K)) {K:K2} (hK:OkQ S p PT (q+1) K) :
 TurnQ S p PT (q+1) K (rightQ S p PT q n) (memoQ find ((n:Int),(q:Int)) K):=by
 unfold memoQ
 by_cases h0:getK K ((n:Int),(q:Int))=0
 ·rw [if_pos h0]
  have ne:∀ {n' q':Nat},¬(n'=n∧q'=q)→(((n:Int),(q:Int)):Int×Int)≠((n':Int),(q':Int)):=by
   intro n' q' h e;rw [Prod.mk.injEq] at e;exact h ⟨by omega,by omega⟩
  obtain ⟨h1,h2,h3⟩:=H K (fun n' q' hq=>hK n' q' (by omega));generalize find K=fr at *;obtain ⟨b,K2⟩:=fr;simp only at h1 h2 h3 ⊢;refine ⟨h1,fun n' q' hq=>?_,fun n' q' hq=>?_⟩
  ·by_cases he:n'=n∧q'=q
   ·obtain ⟨rfl,rfl⟩:=he
    simp only;rw [get_set,h1];exact .inr rfl
   ·simp only
    rw [get_set_ne _ (ne he)]
    by_cases hq':q'<q
    ·exact h2 n' q' hq'
    ·rw [h3 n' q' (by omega)];exact hK n' q' hq
  ·simp only
   rw [get_set_ne _ (ne (by omega)),h3 n' q' (by omega)]
 ·rw [if_neg h0]
  refine ⟨?_,hK,fun _ _ _=>rfl⟩;have h1:=(hK n q (Nat.lt_succ_self _)).resolve_left h0;simp only;rw [h1];omega
theorem fold_turnQ {S:Saf} {p:List Nod} {PT:List Part} {Q:Nat} {f:K2→Int→Int×K2} {r:Int→Int}:∀ (l:List Int) (K:K2) (a:Int),(∀ K,∀ x∈l,OkQ S p PT Q K→TurnQ S p PT Q K (r x) (f K x))→OkQ S p PT Q K→TurnQ S p PT Q K (l.foldl (fun a k=>orQ [a,r k]) a) (foldQ f K a l)
 | [],K,a,_,hK=>⟨rfl,hK,fun _ _ _=>rfl⟩
 | x::l,K,a,H,hK=>by
   obtain ⟨h1,h2,h3⟩:=H K x List.mem_cons_self hK;rw [foldQ,List.foldl_cons,h1];obtain ⟨g1,g2,g3⟩:=fold_turnQ l (f K x).2 (orQ [a,r x]) (fun K y hy=>H K y (List.mem_cons_of_mem _ hy)) h2;exact ⟨g1,g2,fun n q hq=>by rw [g3 n q hq,h3 n q hq]⟩
theorem fits_turnQ {S:Saf} {p:List Nod} {PT:List Part}:∀ (q:Nat),q<PT.length→∀ (n:Nat),n<p.length→∀ K,OkQ S p PT (q+1) K→TurnQ S p PT (q+1) K (rightQ S p PT q n) (fitsKQ S p PT q K n)
 | 0,hq,n,hn,K,hK=>by
   refine memo_turnQ (q:=0) (n:=n) (find:=fun K=>findQ S p PT (fun K _=>(0,K)) 0 K n) (fun K hK=>?_) hK;unfold findQ;rw [List.getElem?_eq_getElem hq,rightQ_zero hq];simp only [true_or,if_true]
   split <;> exact ⟨rfl,hK,fun _ _ _=>rfl⟩
 | q + 1,hq,n,hn,K,hK=>by
   refine memo_turnQ (q:=q+1) (n:=n) (find:=fun K=>findQ S p PT (fitsKQ S p PT q) (q+1) K n) (fun K hK=>?_) hK;unfold findQ;rw [List.getElem?_eq_getElem hq,rightQ_step hq];simp only
   split
   ·by_cases h:partQ S p PT[q+1] n=0
    ·rw [if_pos h,if_pos (Or.inr h:q+1=0∨_),h];exact ⟨rfl,hK,fun _ _ _=>rfl⟩
    ·rw [if_neg h,if_neg (fun h2:q+1=0∨_=>h2.elim (by omega) h),Int.toNat_natCast]
     obtain ⟨g1,g2,g3⟩:=fold_turnQ (r:=fun k=>rightQ S p PT q k.toNat) (relatedM p n PT[q+1].comb) K 0 (fun K x hx hK=>by
      obtain ⟨k,rfl,hk⟩:=Q3w hn hx
      exact fits_turnQ q (by omega) k hk K hK) hK
     exact ⟨by rw [g1],g2,g3⟩
   ·exact ⟨rfl,hK,fun _ _ _=>rfl⟩
def critS:ByteArray:=⟨#[99,114,105,116,105,99,97,108]⟩
def hasC (p:List Nod) (n:Nat):Bool:=(atM p (n:Int) critS).isSome
def critB (p:List Nod) (m:Nat):Bool:=elemB p (m:Int)&&(List.range p.length).any fun n=>hasC p n&&(decide (n=m)||decide (m∈aboveM p n))
def nodesM (p:List Nod):List Int:=if treeB p=true then tellC (critB p) p.length else []
where tellC (f:Nat→Bool) (n:Nat):List Int:=((List.range n).filter f).map fun n:Nat=>(n:Int)
theorem hasC_elem {p:List Nod} {n:Nat} (h:hasC p n=true):elemB p (n:Int)=true:=by
 unfold hasC atM at h
 by_cases he:elemB p (n:Int)=true
 ·exact he
 ·rw [if_neg he] at h;cases h
theorem critB_iff {p:List Nod} {m:Nat}:critB p m=true↔elemB p (m:Int)=true∧∃ c,hasC p c=true∧(c=m∨m∈aboveM p c):=by
 unfold critB;rw [Bool.and_eq_true,List.any_eq_true];refine and_congr_right fun _=>⟨fun ⟨c,_,h⟩=>?_,fun ⟨c,h1,h2⟩=>?_⟩
 ·rw [Bool.and_eq_true,Bool.or_eq_true,decide_eq_true_eq,decide_eq_true_eq] at h
  exact ⟨c,h⟩
 ·exact ⟨c,List.mem_range.2 (elem_at.1 (hasC_elem h1)).1,by rw [h1,Bool.true_and,Bool.or_eq_true,decide_eq_true_eq,decide_eq_true_eq];exact h2⟩
theorem mem_nodesM {p:List Nod} {m:Nat} (ht:treeB p=true):(m:Int)∈nodesM p↔critB p m=true:=by
 unfold nodesM nodesM.tellC;rw [if_pos ht,List.mem_map]
 constructor
 ·rintro ⟨k,hk,e⟩
  obtain rfl:k=m:=by omega
  exact (List.mem_filter.1 hk).2
 ·intro h
  exact ⟨m,List.mem_filter.2 ⟨List.mem_range.2 (elem_at.1 (Bool.and_eq_true_iff.1 h).1).1,h⟩,rfl⟩
theorem nodesM_nat {p:List Nod} {x:Int} (h:x∈nodesM p):treeB p=true∧∃ m:Nat,x=(m:Int)∧critB p m=true:=by
 unfold nodesM nodesM.tellC at h
 split at h
 ·rename_i ht
  obtain ⟨k,hk,rfl⟩:=List.mem_map.1 h;exact ⟨ht,k,rfl,(List.mem_filter.1 hk).2⟩
 ·simp at h
theorem nodesM_sorted (p:List Nod):(nodesM p).Pairwise (·<·):=by
 unfold nodesM nodesM.tellC
 split
 ·exact List.Pairwise.map _ (fun a b h=>by omega) (List.Pairwise.filter _ List.pairwise_lt_range)
 ·exact List.Pairwise.nil
end Go.Proofs.YtabliahkhafddaaGreat
namespace Go.Proofs.YtabliahkhafddaaGreat
open Go.RowKit Go.Ev
open Go.Ev.AV renaming any→aN
attribute [local go_sem] eq_self false_and and_false Bool.false_eq_true List.set_cons_succ List.set_cons_zero List.getD_cons_succ List.getD_cons_zero List.getElem?_cons_succ List.getElem?_cons_zero true_and and_true and_self Bool.not_true Bool.not_false Nat.add_zero Nat.zero_add Nat.mul_one Int.toNat_natCast Int.natCast_nonneg Int.ofNat_lt Option.bind_some Option.map_some List.map_cons List.map_nil decide_true decide_false BEq.rfl Bool.and_self Bool.and_true Bool.and_false beq_self_eq_true List.cons_append List.nil_append List.take_zero List.take_succ_cons List.take_nil List.drop_succ_cons List.drop_zero List.drop_nil List.append_nil List.length_cons List.length_nil List.all_cons List.all_nil Nat.le_refl Int.le_refl Option.map_none List.replicate_zero List.replicate_succ Nat.zero_mul Nat.sub_zero Nat.zero_le Nat.le_zero_eq Q2f Option.some_or Option.none_or Option.or_none Option.isSome_some Option.isSome_none Option.getD_some Option.getD_none Int.toNat_zero Int.natCast_zero Int.natCast_one Int.cast_ofNat_Int List.toList_toArray
attribute [go_sem] appL newsA isSlice
theorem zi_int:zeroO Tryz.prog 3=some [.g (.int .i64 0)]:=by kernel_rfl
theorem ze_simp6:zeroO Tryz.prog 141=some [.g (.int .i64 0),.g (.string ⟨#[]⟩),.g (.string ⟨#[]⟩),.g (.int .i64 0),.g (.int .i64 0),.g (.slice none 0 0)]:=by kernel_rfl
attribute [go_sem] ze_simp6 zi_int
theorem VSdrop {GT:GTab} {l l':List AV} {m m':ML} {n n':Nat} (hm:∀ p∈m',p.1<n'∧ltB n' p.2∧getL m p.1=some p.2) (hl:keepT n' l' l):VS GT .none (stL l m n) (stL l' m' n') :=
 VS.drop (fun c k hc=>hm (c,k) (Q1a hc)) hl
theorem lenSq (x:Simp):(encS x).length=6:=by cases x;rw [encS_m];rfl
theorem rowPq {l:List Part} {k:Nat} (hk:k<l.length):(l.flatMap encP)[k*2]?=some (.g (.int .i64 l[k].comb))∧(l.flatMap encP)[k*2+1]?=some (.sl l[k].l.length 6 (l[k].l.flatMap encS)):=by
 have h:=flat_get encP 2 (fun _=>rfl) l k hk;exact ⟨h 0 (by decide),h 1 (by decide)⟩
def simps (PT:List Part):Nat:=(PT.map fun p=>p.l.length).sum
end Go.Proofs.YtabliahkhafddaaGreat
namespace Go.Proofs.YtabliahkhafddaaGreat
open Go.RowKit Go.Ev Go.Sort
open Go.Ev.AV renaming any→aN
attribute [local go_sem] eq_self false_and and_false Bool.false_eq_true List.set_cons_succ List.set_cons_zero List.getD_cons_succ List.getD_cons_zero List.getElem?_cons_succ List.getElem?_cons_zero true_and and_true and_self Bool.not_true Bool.not_false Nat.add_zero Nat.zero_add Nat.mul_one Int.toNat_natCast Int.natCast_nonneg Int.ofNat_lt Option.bind_some Option.map_some List.map_cons List.map_nil decide_true decide_false BEq.rfl Bool.and_self Bool.and_true Bool.and_false beq_self_eq_true List.cons_append List.nil_append List.take_zero List.take_succ_cons List.take_nil List.drop_succ_cons List.drop_zero List.drop_nil List.append_nil List.length_cons List.length_nil List.all_cons List.all_nil Nat.le_refl Int.le_refl Option.map_none List.replicate_zero List.replicate_succ Nat.zero_mul Nat.sub_zero Nat.zero_le Nat.le_zero_eq Q2f Option.some_or Option.none_or Option.or_none Option.isSome_some Option.isSome_none Option.getD_some Option.getD_none Int.toNat_zero Int.natCast_zero Int.natCast_one Int.cast_ofNat_Int List.toList_toArray
end Go.Proofs.YtabliahkhafddaaGreat
namespace Go.Proofs.YtabliahkhafddaaGreat
open Go.RowKit Go.Ev
open Go.Ev.AV renaming any→aN
attribute [local go_sem] eq_self false_and and_false Bool.false_eq_true List.set_cons_succ List.set_cons_zero List.getD_cons_succ List.getD_cons_zero List.getElem?_cons_succ List.getElem?_cons_zero true_and and_true and_self Bool.not_true Bool.not_false Nat.add_zero Nat.zero_add Nat.mul_one Int.toNat_natCast Int.natCast_nonneg Int.ofNat_lt Option.bind_some Option.map_some List.map_cons List.map_nil decide_true decide_false BEq.rfl Bool.and_self Bool.and_true Bool.and_false beq_self_eq_true List.cons_append List.nil_append List.take_zero List.take_succ_cons List.take_nil List.drop_succ_cons List.drop_zero List.drop_nil List.append_nil List.length_cons List.length_nil List.all_cons List.all_nil Nat.le_refl Int.le_refl Option.map_none List.replicate_zero List.replicate_succ Nat.zero_mul Nat.sub_zero Nat.zero_le Nat.le_zero_eq Q2f Option.some_or Option.none_or Option.or_none Option.isSome_some Option.isSome_none Option.getD_some Option.getD_none Int.toNat_zero Int.natCast_zero Int.natCast_one Int.cast_ofNat_Int List.toList_toArray
attribute [go_sem] appL newsA isSlice
section
variable {P:Program} {GT:GTab} {rd:List Mem}
end
attribute [go_sem] appL newsA isSlice
attribute [go_sem] appL newsA isSlice
def TinyPg (p:List Nod):Prop:=∀ x∈p,x.name.size≤999999∧∀ a∈x.attrs,a.value.size≤999999
attribute [go_sem] appL newsA isSlice
abbrev Ky:=Int×ByteArray
abbrev En:=Cx×Nat
abbrev Gr:=List (Ky×List En)
def encEn (e:En):List AV:=[.sl e.1.parts.length 2 (e.1.parts.flatMap encP),.g (.string e.1.pseudo),.g (.int .i64 (e.2:Int)),.sl (wordsC e.1).length 1 ((wordsC e.1).flatMap encN)]
def keyAg (k:Ky):AV:=.agg [.g (.int .i64 k.1),.g (.string k.2)]
def encG (val:Nat→List En→AV):Nat→Gr→List (Nat×AV×AV)
 | _,[]=>[]
 | o,e::G=>(o,keyAg e.1,val o e.2)::encG val (o+1) G
def sealV4 (_:Nat) (es:List En):AV:=.sl es.length 4 (es.flatMap encEn)
attribute [go_sem] appL newsA isSlice
theorem sz_cx:szO Tryz.prog 39=some 2:=by kernel_rfl
theorem ze_cx:zeroO Tryz.prog 39=some [.g (.slice none 0 0),.g (.string ⟨#[]⟩)]:=by kernel_rfl
attribute [go_sem] sz_cx ze_cx
attribute [go_sem] appL newsA isSlice
attribute [go_sem] appL newsA isSlice
attribute [go_sem] appL newsA isSlice
def okQ (c:Cx):Prop:=okPT c.parts∧simps c.parts≤1000000∧∀ pt∈c.parts,∀ x∈pt.l,x.name.size≤999999
structure Asked (p:List Nod) (st:List Stt) (l:List Cx):Prop where
 pg:OkPg p
 tiny:TinyPg p
 st:st.length≤1000000
 len:l.length≤1000000
 sel:∀ c∈l,okQ c
attribute [go_sem] appL newsA isSlice
theorem un_rowsA:slOrStr (Tryz.prog.underlying 50)=true:=by kernel_rfl
attribute [go_sem] un_rowsA
def encRow (x:List Int):List AV:=[.sl x.length 1 (x.flatMap encZ)]
def memA (G:Gr) (acc:List (List Int)):ML:=(0,.map (encG sealV4 0 G) G.length)::(1,.cells [.mp 0])::rowsM encRow 2 (fun _=>acc) 1
theorem getA {G:Gr} {acc:List (List Int)} {c:Nat} {k:Blk} (h:getL (memA G acc) c=some k):(c=0∧k=.map (encG sealV4 0 G) G.length)∨(c=1∧k=.cells [.mp 0])∨(c=2∧acc≠[]∧k=.cells (acc.flatMap encRow)):=by
 unfold memA at h;rw [getL] at h
 split at h
 ·rename_i e;cases h;exact .inl ⟨e.symm,rfl⟩
 ·rw [getL] at h
  split at h
  ·rename_i e;cases h;exact .inr (.inl ⟨e.symm,rfl⟩)
  ·rw [Q2q] at h
   split at h
   ·rename_i e;cases h;exact .inr (.inr ⟨by omega,e.2.2,rfl⟩)
   ·cases h
end Go.Proofs.YtabliahkhafddaaGreat
end
