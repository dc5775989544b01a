/- Values and lists of names, as the evaluator tells them. -/
import Derived.Test.YtlnaihkombcbcaaGreatTd1
import Derived.Test.YtlnaihkombcbcaaGreatTc8
import Derived.Test.YtlnaihkombcbcaaGreatTc1
set_option linter.unusedSimpArgs false
noncomputable section
namespace Go.Proofs.YtlnaihkombcbcaaGreat
open Go.RowKit Go.Sort Go.Ev
attribute [local go_sem] Oper.semAt_some
structure Dl where
 name:ByteArray
 l:List Vl
 imp:Bool
def encD (d:Dl):List AV:=[.g (.string d.name),.sl d.l.length 5 (d.l.flatMap encV),.g (.bool d.imp)]
theorem encD_len (d:Dl):(encD d).length=3:=rfl
theorem dlB_cells {z:Nat} {w:World} {b o:Nat} {ds:List Dl} (h:∀ k (hk:k<ds.length) j a,(encD ds[k])[j]?=some a→∃ x,w.cell? ⟨b,o+(k*3+j),none⟩=some x∧AtB z w a x) {k:Nat} (hk:k<ds.length) :
 w.cell? ⟨b,o+k*3,none⟩=some (.string ds[k].name)∧(∃ ad cap,w.cell? ⟨b,o+k*3+1,none⟩=some (.slice ad ds[k].l.length cap)∧AtB z w (.sl ds[k].l.length 5 (ds[k].l.flatMap encV)) (.slice ad ds[k].l.length cap)) ∧
  w.cell? ⟨b,o+k*3+2,none⟩=some (.bool ds[k].imp):=by
 have h9:=h k hk;obtain ⟨x0,e0,v0⟩:=h9 0 _ rfl;obtain ⟨x1,e1,v1⟩:=h9 1 _ rfl;obtain ⟨x2,e2,v2⟩:=h9 2 _ rfl;obtain rfl:x0=_:=v0;obtain rfl:x2=_:=v2;have v1':=v1;obtain ⟨ad,cap,rfl,-⟩:=AtB.sl_form v1;simp only [Nat.add_zero,←Nat.add_assoc] at e0 e1 e2;exact ⟨e0,⟨ad,cap,e1,v1'⟩,e2⟩
theorem backward_any (v:Value) (hv:∃ a n c,v=.slice a n c) (w:World) :
 Calls Tryz.prog 82 #[v] w fun e w'=>e=.returned (.func (.func 145) #[] #[.pointer (some ⟨w.heap.size,0,none⟩)])∧w'=w.alloc (.cells #[v] 51):=by
 obtain ⟨a,n,c,rfl⟩:=hv
 go_enter Tryz.func82,Tryz.ntmps82
 go_wp2
 go_ret
 exact ⟨rfl,rfl⟩
def revI (n:Nat):List Nat:=(List.range n).reverse
theorem revI_take {n k:Nat} (hk:k<n):(revI n).take (k+1)=(revI n).take k++[n - 1 - k]:=by
 have hl:k<(revI n).length:=by simp [revI];exact hk
 rw [List.take_succ_eq_append_getElem hl]
 congr 2
 simp [revI,List.getElem_reverse]
theorem revI_all {n:Nat}:(revI n).take n=revI n:=List.take_of_length_le (by simp [revI])
def DeclAt (w:World) (b o k:Nat) (x:Value):Prop:=∃ s a m c i,x=.agg #[.string s,.slice a m c,.bool i]∧w.cell? ⟨b,o+k*3,none⟩=some (.string s)∧w.cell? ⟨b,o+k*3+1,none⟩=some (.slice a m c)∧w.cell? ⟨b,o+k*3+2,none⟩=some (.bool i)
theorem DeclAt.below {z:Nat} {w w':World} {b o k:Nat} {x:Value} (h:DeclAt w b o k x) (hb:Below z w w') (hz:b<z):DeclAt w' b o k x:=by
 obtain ⟨s,a,m,c,i,h1,h2,h3,h4⟩:=h;exact ⟨s,a,m,c,i,h1,(hb.cell (p:=⟨b,_,none⟩) hz).trans h2,(hb.cell (p:=⟨b,_,none⟩) hz).trans h3,(hb.cell (p:=⟨b,_,none⟩) hz).trans h4⟩
def KpB (z Bx:Nat) (A B:World):Prop:=Below z A B∧B.heap[Bx]?=A.heap[Bx]?
theorem KpB.trans {z Bx:Nat} {A B C:World} (h:KpB z Bx A B) (k:KpB z Bx B C):KpB z Bx A C:=⟨h.1.trans k.1,k.2.trans h.2⟩
set_option maxRecDepth 100000 in
set_option maxHeartbeats 2000000 in
theorem backward_iter (n:Nat) (hn:3≤n) (z Bx b o m cap:Nat) (ad:Option Addr) (ag:Nat→Value) (w:World) (hm:m≤1000000) (had:0<m→ad=some ⟨b,o,none⟩) (hbz:0<m→b<z)
 (hd:∀ k,k<m→DeclAt w b o k (ag k)) (hb:w.cell? ⟨Bx,0,none⟩=some (.slice ad m cap)) (hBx:Bx<w.heap.size) (hz:z≤w.heap.size) :
 IterTo Fence.wide n Tryz.prog 145 #[.pointer (some ⟨Bx,0,none⟩)] (fun k:Nat=>#[.int .i64 k,ag k]) (fun A B=>A=B) (KpB z Bx) (fun xs=>xs=revI m) (fun pre=>∃ k,k≤m∧pre=(revI m).take k) (fun pre x=>∃ k,k<m∧pre=(revI m).take k∧x=m - 1 - k) w:=by
 intro l J Jx W hW hJ hJx hY h0;have hW0:KpB z Bx w W:=⟨hW.mono hz,hW.block _ hBx⟩;have hBz:∀ A,KpB z Bx w A→A.cell? ⟨Bx,0,none⟩=some (.slice ad m cap):=fun A hA=>(World.cell?_of_block (w:=w) hA.2).trans hb;have hbW:=hBz W hW0;have HD:=Lib.hid fun A (hA:KpB z Bx w A) k (hk:k<m)=>(hd k hk).below hA.1 (hbz (by omega));have HBZ:=Lib.hid hBz;clear hd hBz;refine callsIn_of_wp Tryz.func145 rfl trivial ?_ rfl;simp only [Tryz.ntmps145,List.size_toArray,List.length_cons,List.length_nil,Nat.reduceAdd,Nat.reduceSub,Array.replicate_succ,Array.replicate_zero,List.push_toArray,List.append_toArray,List.nil_append,List.cons_append]
 gi_wp2
 gi_loopw [3] (fun i wr=>∃ k:Nat,k≤m∧i=.int .i64 ((m:Int) - 1 - k)∧J ((revI m).take k) wr∧KpB z Bx w wr) (fun i _=>((intOf i)+1).toNat)
 case atStart=>exact ⟨0,Nat.zero_le _,by go_num,h0,hW0⟩
 case round =>
  obtain ⟨k,hk,rfl,hj,hB⟩:=hrel
  by_cases hlt:k<m
  ·obtain rfl:=had (by omega)
   have hbx:=HBZ.out wr hB;obtain ⟨s,a,mm,c,i,hag,d0,d1,d2⟩:=HD.out wr hB (m - 1 - k) (by omega);have hy:=hY ((revI m).take k) (m - 1 - k) wr hj ⟨k,hlt,rfl,rfl⟩;rw [←revI_take hlt,hag] at hy;have e1:((m:Int) - 1 - k)=((m - 1 - k:Nat):Int):=by omega
   obtain ⟨q,hq⟩:∃ q,q=m - 1 - k:=⟨_,rfl⟩;rw [←hq] at e1 hy d0 d1 d2;rw [e1];have hqm:q<m:=by omega
   have hqe:(q:Int)=m - 1 - k:=by omega
   have HQ:=Lib.hid hqe;clear hq hqe e1;obtain ⟨fn,tmps,assign,body,hyy,hR⟩:=hy
   gi_wp2_with fail
   refine ⟨fun _=>by omega,hR.mono ?_⟩;rintro e B (⟨rfl,hJ2,hk2⟩ | ⟨rfl,hJ2⟩)
   ·gi_wp2
    go_roundw
    case rel=>exact ⟨k+1,by omega,by rw [HQ.out];go_num,hJ2,hB.trans hk2⟩
    case measure=>have:=HQ.out;simp [intOf]
   ·gi_wp2
    refine bodyPost_ret (results_none rfl _ _ _) rfl ?_;exact ⟨⟨_,rfl⟩,.inr ⟨_,⟨k+1,by omega,rfl⟩,hJ2⟩⟩
  ·obtain rfl:k=m:=by omega
   gi_wp2
   go_end0
   rw [revI_all] at hj;exact ⟨⟨_,rfl⟩,.inl ⟨_,rfl,hj⟩⟩
def ffB (s:ByteArray):Bool:=s.toList==[102,111,110,116,45,102,97,109,105,108,121]
def pickM:List Vl→ByteArray×Bool
 | [y]=>if y.kind=1∧(y.tk=1∨y.tk=6) then (y.text,true) else (⟨#[]⟩,false)
 | _=>(⟨#[]⟩,false)
def famR:List Dl→ByteArray×Bool
 | []=>(⟨#[]⟩,false)
 | d::r=>if ffB d.name=true then pickM (trimM d.l) else famR r
def famM (kind:Int) (ds:List Dl):ByteArray×Bool:=if kind=6 then famR ds.reverse else (⟨#[]⟩,false)
def Res2 (z:Nat) (W:World) (s:ByteArray) (b:Bool):Prop:=W.heap[z+1]?=some (.cells #[.string s] 9 (0,0))∧W.heap[z+2]?=some (.cells #[.bool b] 4 (0,0))
theorem Res2.below {z:Nat} {W W':World} {s:ByteArray} {b:Bool} (h:Res2 z W s b) (hb:Below W.heap.size W W'):Res2 z W' s b :=
 ⟨(hb.block _ (Array.getElem?_eq_some_iff.1 h.1).1).trans h.1,(hb.block _ (Array.getElem?_eq_some_iff.1 h.2).1).trans h.2⟩
theorem Res2.grown {z B:Nat} {W W':World} {s:ByteArray} {b:Bool} {row:Option Nat} (h:Res2 z W s b) (hg:W.grownBy W' row) (hr:∀ r,row=some r→B≤r) (hB:z+3≤B):Res2 z W' s b :=
 ⟨(hg.block _ (Array.getElem?_eq_some_iff.1 h.1).1 fun e=>by have:=hr _ e.symm;omega).trans h.1,(hg.block _ (Array.getElem?_eq_some_iff.1 h.2).1 fun e=>by have:=hr _ e.symm;omega).trans h.2⟩
theorem Res2.set {z:Nat} {W:World} {s:ByteArray} {b:Bool} (h:Res2 z W s b) (s':ByteArray) (b':Bool):Res2 z ((W.setCell ⟨z+1,0,none⟩ (.string s')).setCell ⟨z+2,0,none⟩ (.bool b')) s' b':=by
 refine ⟨?_,?_⟩
 ·rw [put_far _ rfl (show z+1≠z+2 by omega)]
  have:=put_same (o:=0) (.string s') h.1;simpa using this
 ·have h2:(W.setCell ⟨z+1,0,none⟩ (.string s')).heap[z+2]?=_:=put_far _ rfl (show z+2≠z+1 by omega) |>.trans h.2
  have:=put_same (o:=0) (.bool b') h2;simpa using this
theorem Res2.taken {z D:Nat} {W:World} {s:ByteArray} {b:Bool} (h:Res2 z W s b) (hD:z+3≤D) (o:Obj):Res2 z (W.putObj D o) s b :=
 ⟨(World.putObj_heap_other (by omega)).trans h.1,(World.putObj_heap_other (by omega)).trans h.2⟩
theorem Res2.cells {z:Nat} {W:World} {s:ByteArray} {b:Bool} (h:Res2 z W s b):W.cell? ⟨z+1,0,none⟩=some (.string s)∧W.cell? ⟨z+2,0,none⟩=some (.bool b)∧W.frozen? ⟨z+1,0,none⟩=false∧W.frozen? ⟨z+2,0,none⟩=false :=
 ⟨by rw [Lib.cell_of_heap h.1];rfl,by rw [Lib.cell_of_heap h.2];rfl,Lib.frozen_of_heap h.1 0,Lib.frozen_of_heap h.2 0⟩
def nmF (ds:List Dl) (k:Nat):ByteArray:=((ds[k]?).map (·.name)).getD ⟨#[]⟩
def imF (ds:List Dl) (k:Nat):Bool:=((ds[k]?).map (·.imp)).getD false
def agF (ds:List Dl) (sv:Nat→Value) (k:Nat):Value:=.agg #[.string (nmF ds k),sv k,.bool (imF ds k)]
theorem nmF_at {ds:List Dl} {k:Nat} (h:k<ds.length):nmF ds k=ds[k].name:=by simp [nmF,h]
theorem imF_at {ds:List Dl} {k:Nat} (h:k<ds.length):imF ds k=ds[k].imp:=by simp [imF,h]
theorem famR_drop {ds:List Dl} {k:Nat} (hk:k<ds.length):famR (ds.reverse.drop k)=if ffB ds[ds.length - 1 - k].name=true then pickM (trimM ds[ds.length - 1 - k].l) else famR (ds.reverse.drop (k+1)):=by
 have hl:k<ds.reverse.length:=by simp;exact hk
 rw [List.drop_eq_getElem_cons hl,famR,List.getElem_reverse]
theorem revI_take_len {n k:Nat} (hk:k≤n):((revI n).take k).length=k:=by rw [List.length_take,revI,List.length_reverse,List.length_range];omega
def FI (ds:List Dl) (z:Nat) (w:World) (pre:List Nat) (W:World):Prop :=
 ∃ k,k≤ds.length∧pre=(revI ds.length).take k∧Hid (famR ds.reverse=famR (ds.reverse.drop k))∧Res2 z W ⟨#[]⟩ false∧Below z w W∧z+4≤W.heap.size
def FX (ds:List Dl) (z:Nat) (w:World) (c:Code) (_:List Nat) (W:World):Prop:=c=.ret∧Res2 z W (famR ds.reverse).1 (famR ds.reverse).2∧Below z w W
theorem fam_leaf {ds:List Dl} {w W w7:World} {xs:List Nat} {s:ByteArray} {b:Bool} {B:Nat} (hR7:Res2 w.heap.size w7 ⟨#[]⟩ false) (hB7:Below W.heap.size W w7) (hC7:Below w.heap.size w w7) (h1:(famR ds.reverse).1=s) (h2:(famR ds.reverse).2=b) (_:w.heap.size<B) :
 KeepsFrom B W ((w7.setCell ⟨w.heap.size+1,0,none⟩ (.string s)).setCell ⟨w.heap.size+1+1,0,none⟩ (.bool b))∧FX ds w.heap.size w .ret xs ((w7.setCell ⟨w.heap.size+1,0,none⟩ (.string s)).setCell ⟨w.heap.size+1+1,0,none⟩ (.bool b)):=by
 have hk:KeepsFrom B W w7:=⟨hB7.size,fun k o _ hk _=>(hB7.block k (Array.getElem?_eq_some_iff.1 hk).1).trans hk⟩;refine ⟨(hk.trans ((KeepsOthers.setCell _ _ _).from _)).trans ((KeepsOthers.setCell _ _ _).from _),rfl,?_,?_⟩
 ·rw [h1,h2];exact hR7.set s b
 ·exact (hC7.setCell (p:=⟨w.heap.size+1,0,none⟩) (Nat.le_succ _) _).setCell (p:=⟨w.heap.size+1+1,0,none⟩) (by show w.heap.size≤w.heap.size+1+1;omega) _
set_option maxRecDepth 100000 in
set_option maxHeartbeats 4000000 in
theorem family_in (n:Nat) (hn:7≤n) (kind mn mx:Int) (a1 a3 a6 a7 ad:Option Addr) (n1 c1 n3 c3 n6 c6 n7 c7 cap:Nat) (ds:List Dl) (w:World)
 (hv:At w (.sl ds.length 3 (ds.flatMap encD)) (.slice ad ds.length cap)) (hl:ds.length≤1000000) (hll:∀ d∈ds,d.l.length≤1000000) :
 CallsIn Fence.wide n Tryz.prog 30 #[.agg #[.int .i64 kind,.slice a1 n1 c1,.slice ad ds.length cap,.slice a3 n3 c3,.int .i64 mn,.int .i64 mx,.slice a6 n6 c6,.slice a7 n7 c7]] w
  fun e w'=>e=.returned (.tuple #[.string (famM kind ds).1,.bool (famM kind ds).2])∧Below w.heap.size w w':=by
 have hB3:Below w.heap.size w (((w.alloc (.cells #[.int .i64 kind,.slice a1 n1 c1,.slice ad ds.length cap,.slice a3 n3 c3,.int .i64 mn,.int .i64 mx,.slice a6 n6 c6,.slice a7 n7 c7] 53)).alloc (.cells #[.string ⟨#[]⟩] 9)).alloc (.cells #[.bool false] 4)):=(((Below.refl _ w).alloc (Nat.le_refl _) _).alloc (by simp) _).alloc (by simp;omega) _;have hR3:Res2 w.heap.size (((w.alloc (.cells #[.int .i64 kind,.slice a1 n1 c1,.slice ad ds.length cap,.slice a3 n3 c3,.int .i64 mn,.int .i64 mx,.slice a6 n6 c6,.slice a7 n7 c7] 53)).alloc (.cells #[.string ⟨#[]⟩] 9)).alloc (.cells #[.bool false] 4)) ⟨#[]⟩ false:=by
  refine ⟨?_,?_⟩
  ·rw [Below.heap_alloc _ _ _ (by simp)]
   have:=World.alloc_heap_new (w.alloc (.cells #[.int .i64 kind,.slice a1 n1 c1,.slice ad ds.length cap,.slice a3 n3 c3,.int .i64 mn,.int .i64 mx,.slice a6 n6 c6,.slice a7 n7 c7] 53)) (.cells #[.string ⟨#[]⟩] 9);rw [World.size_alloc] at this;exact this
  ·have:=World.alloc_heap_new ((w.alloc (.cells #[.int .i64 kind,.slice a1 n1 c1,.slice ad ds.length cap,.slice a3 n3 c3,.int .i64 mn,.int .i64 mx,.slice a6 n6 c6,.slice a7 n7 c7] 53)).alloc (.cells #[.string ⟨#[]⟩] 9)) (.cells #[.bool false] 4)
   rw [World.size_alloc,World.size_alloc] at this;exact this
 have hs3:(((w.alloc (.cells #[.int .i64 kind,.slice a1 n1 c1,.slice ad ds.length cap,.slice a3 n3 c3,.int .i64 mn,.int .i64 mx,.slice a6 n6 c6,.slice a7 n7 c7] 53)).alloc (.cells #[.string ⟨#[]⟩] 9)).alloc (.cells #[.bool false] 4)).heap.size=w.heap.size+3:=by simp
 refine callsIn_of_wp_marks Tryz.func30 rfl trivial ?_ rfl;simp only [Tryz.ntmps30,List.size_toArray,List.length_cons,List.length_nil,Nat.reduceAdd,Nat.reduceSub,Array.replicate_succ,Array.replicate_zero,List.push_toArray,List.append_toArray,List.nil_append,List.cons_append]
 by_cases hk:kind=6
 ·subst hk
  obtain ⟨b,o,had,hbz,hc⟩:∃ b o,(0<ds.length→ad=some ⟨b,o,none⟩)∧(0<ds.length→b<w.heap.size)∧∀ k (hk:k<ds.length) j a,(encD ds[k])[j]?=some a→∃ x,w.cell? ⟨b,o+(k*3+j),none⟩=some x∧AtB w.heap.size w a x:=by
   rcases slB_cells encD 3 encD_len (by decide) (At.toB hv) with ⟨h0,-⟩ | ⟨b,o,cap',e,-,-,hbz,hc⟩
   ·exact ⟨0,0,fun h=>by rw [h0] at h;simp at h,fun h=>by rw [h0] at h;simp at h,fun k hk=>by rw [h0] at hk;simp at hk⟩
   ·cases e
    exact ⟨b,o,fun _=>rfl,fun _=>hbz,hc⟩
  obtain ⟨sv,hsvd⟩:∃ sv:Nat→Value,sv=fun k=>if k<ds.length then (w.cell? ⟨b,o+k*3+1,none⟩).getD (.slice none 0 0) else .slice none 0 0:=⟨_,rfl⟩
  have hsv1:∀ k (hk:k<ds.length),∃ a c,sv k=.slice a ds[k].l.length c∧AtB w.heap.size w (.sl ds[k].l.length 5 (ds[k].l.flatMap encV)) (.slice a ds[k].l.length c):=fun k hk=>by
   obtain ⟨-,⟨a,c,h1,h2⟩,-⟩:=dlB_cells hc hk;refine ⟨a,c,?_,h2⟩;rw [hsvd];simp only [hk,if_true,h1,Option.getD_some]
  have hsv:∀ k,∃ a m c,sv k=.slice a m c:=fun k=>by
   by_cases hk:k<ds.length
   ·obtain ⟨a,c,h,-⟩:=hsv1 k hk
    exact ⟨_,_,_,h⟩
   ·exact ⟨none,0,0,by rw [hsvd];simp only [hk,if_false]⟩
  have hdecl:∀ k,k<ds.length→DeclAt w b o k (agF ds sv k):=fun k hk=>by
   obtain ⟨h1,⟨a,c,h2,-⟩,h3⟩:=dlB_cells hc hk;refine ⟨_,a,ds[k].l.length,c,_,?_,h1,h2,h3⟩;rw [agF,nmF_at hk,imF_at hk,hsvd];simp only [hk,if_true,h2,Option.getD_some]
  clear hsvd hc;have HBW:=Lib.hid (backward_any (.slice ad ds.length cap) ⟨_,_,_,rfl⟩ (((w.alloc (.cells #[.int .i64 6,.slice a1 n1 c1,.slice ad ds.length cap,.slice a3 n3 c3,.int .i64 mn,.int .i64 mx,.slice a6 n6 c6,.slice a7 n7 c7] 53)).alloc (.cells #[.string ⟨#[]⟩] 9)).alloc (.cells #[.bool false] 4)));rw [hs3] at HBW;have HB3:=Lib.hid (And.intro hB3 hR3);have HLL:=Lib.hid hll;clear hB3 hR3 hv hll
  gi_wp2_with fail
  refine ⟨trivial,fun h=>(by cases h),((callsIn_wide (n:=_)).2 HBW.out).mono ?_⟩;rintro e w4 ⟨rfl,rfl⟩;clear HBW;have hs4:((((w.alloc (.cells #[.int .i64 6,.slice a1 n1 c1,.slice ad ds.length cap,.slice a3 n3 c3,.int .i64 mn,.int .i64 mx,.slice a6 n6 c6,.slice a7 n7 c7] 53)).alloc (.cells #[.string ⟨#[]⟩] 9)).alloc (.cells #[.bool false] 4)).alloc (.cells #[.slice ad ds.length cap] 51)).heap.size=w.heap.size+4:=by simp
  have hB4:Below w.heap.size w ((((w.alloc (.cells #[.int .i64 6,.slice a1 n1 c1,.slice ad ds.length cap,.slice a3 n3 c3,.int .i64 mn,.int .i64 mx,.slice a6 n6 c6,.slice a7 n7 c7] 53)).alloc (.cells #[.string ⟨#[]⟩] 9)).alloc (.cells #[.bool false] 4)).alloc (.cells #[.slice ad ds.length cap] 51)):=HB3.out.1.alloc HB3.out.1.size _;have hR4:Res2 w.heap.size ((((w.alloc (.cells #[.int .i64 6,.slice a1 n1 c1,.slice ad ds.length cap,.slice a3 n3 c3,.int .i64 mn,.int .i64 mx,.slice a6 n6 c6,.slice a7 n7 c7] 53)).alloc (.cells #[.string ⟨#[]⟩] 9)).alloc (.cells #[.bool false] 4)).alloc (.cells #[.slice ad ds.length cap] 51)) ⟨#[]⟩ false:=HB3.out.2.below (below_alloc _ _);have hbx4:((((w.alloc (.cells #[.int .i64 6,.slice a1 n1 c1,.slice ad ds.length cap,.slice a3 n3 c3,.int .i64 mn,.int .i64 mx,.slice a6 n6 c6,.slice a7 n7 c7] 53)).alloc (.cells #[.string ⟨#[]⟩] 9)).alloc (.cells #[.bool false] 4)).alloc (.cells #[.slice ad ds.length cap] 51)).cell? ⟨w.heap.size+3,0,none⟩=some (.slice ad ds.length cap):=by
   have:=World.alloc_heap_new (((w.alloc (.cells #[.int .i64 6,.slice a1 n1 c1,.slice ad ds.length cap,.slice a3 n3 c3,.int .i64 mn,.int .i64 mx,.slice a6 n6 c6,.slice a7 n7 c7] 53)).alloc (.cells #[.string ⟨#[]⟩] 9)).alloc (.cells #[.bool false] 4)) (.cells #[.slice ad ds.length cap] 51);rw [hs3] at this;rw [Lib.cell_of_heap this];rfl
  have HSEQ:=Lib.hid (backward_iter (n - 1) (by omega) w.heap.size (w.heap.size+3) b o ds.length cap ad (agF ds sv) ((((w.alloc (.cells #[.int .i64 6,.slice a1 n1 c1,.slice ad ds.length cap,.slice a3 n3 c3,.int .i64 mn,.int .i64 mx,.slice a6 n6 c6,.slice a7 n7 c7] 53)).alloc (.cells #[.string ⟨#[]⟩] 9)).alloc (.cells #[.bool false] 4)).alloc (.cells #[.slice ad ds.length cap] 51)) hl had hbz (fun k hk=>(hdecl k hk).below hB4 (hbz (by omega))) hbx4 (by omega) (by omega));have hst:FI ds w.heap.size w [] ((((w.alloc (.cells #[.int .i64 6,.slice a1 n1 c1,.slice ad ds.length cap,.slice a3 n3 c3,.int .i64 mn,.int .i64 mx,.slice a6 n6 c6,.slice a7 n7 c7] 53)).alloc (.cells #[.string ⟨#[]⟩] 9)).alloc (.cells #[.bool false] 4)).alloc (.cells #[.slice ad ds.length cap] 51)):=⟨0,Nat.zero_le _,rfl,Lib.hid (by rw [List.drop_zero]),hR4,hB4,by omega⟩;have HST:=Lib.hid hst;have HSV:=Lib.hid hsv1;clear hbx4 hst hB4 hR4 HB3 hdecl hsv1
  gi_wp2
  refine range_over_al (α:=Nat) rfl (fun _=>trivial) (by omega) (gf:=145) (lb:=#[.pointer (some ⟨w.heap.size+3,0,none⟩)]) rfl (enters_of Tryz.func145 (by kernel_rfl) rfl) (encs:=fun k:Nat=>#[.int .i64 k,agF ds sv k]) (fun _=>rfl)
   (fun A B=>A=B) (KpB w.heap.size (w.heap.size+3)) (S:=fun xs=>xs=revI ds.length) (Sp:=fun pre=>∃ k,k≤ds.length∧pre=(revI ds.length).take k) (G:=fun pre x=>∃ k,k<ds.length∧pre=(revI ds.length).take k∧x=ds.length - 1 - k)
   (FI ds w.heap.size w) (FX ds w.heap.size w) ?own ?ownx HST.out ?wi ?wx ?wb ?kt ?kb ?ka (fun k=>.cells #[.string (nmF ds k),sv k,.bool (imF ds k)] 134) HSEQ.out
   (fun k A=>{ tmps:=#[.agg #[.int .i64 6,.slice a1 n1 c1,.slice ad ds.length cap,.slice a3 n3 c3,.int .i64 mn,.int .i64 mx,.slice a6 n6 c6,.slice a7 n7 c7],.pointer (some ⟨w.heap.size,0,none⟩),.pointer (some ⟨w.heap.size+1,0,none⟩),.pointer (some ⟨w.heap.size+1+1,0,none⟩),undef,.pointer (some ⟨A.heap.size,0,none⟩),undef,.pointer (some ⟨w.heap.size,0,none⟩),.int .i64 6,.bool false,.pointer (some ⟨w.heap.size,2,none⟩),.slice ad ds.length cap,.func (.func 145) #[] #[.pointer (some ⟨w.heap.size+3,0,none⟩)],.int .i64 k,agF ds sv k,undef,undef,undef,undef,undef,undef,undef,undef,undef,undef,undef,undef,undef,undef,undef,undef,undef,undef,undef,undef,undef,undef,undef,undef,undef,undef,undef,undef,undef,undef,undef,undef,undef,undef,undef,undef,undef],defers:=[] }) ?assign ?body ?done ?stop
  case own =>
   rintro s W W' row ⟨k,h1,h2,h3,h4,h5,h6⟩ hg hr;rw [hs4] at hr;exact ⟨k,h1,h2,h3,h4.grown hg (fun r e=>(hr r e).1) (by omega),h5.grown hg h5.size (fun r e=>by have:=(hr r e).1;omega),Nat.le_trans h6 hg.size⟩
  case ownx =>
   rintro c s W W' row ⟨h2,h4,h5⟩ hg hr;rw [hs4] at hr;exact ⟨h2,h4.grown hg (fun r e=>(hr r e).1) (by omega),h5.grown hg h5.size (fun r e=>by have:=(hr r e).1;omega)⟩
  case wi=>rintro s A B h rfl;exact h
  case wx=>rintro c s A B h rfl;exact h
  case wb=>rintro A B rfl k o h _;exact h
  case kt=>exact fun h k=>h.trans k
  case kb =>
   intro W l o hlz;rw [hs4] at hlz;exact ⟨⟨rfl,rfl,rfl,by simp,fun k hk=>World.putObj_heap_other (by omega)⟩,World.putObj_heap_other (by omega)⟩
  case ka =>
   intro W o hlz;rw [hs4] at hlz;exact ⟨(Below.refl _ W).alloc (by omega) _,Below.heap_alloc _ _ _ (by omega)⟩
  case assign =>
   intro l k A K hK;obtain ⟨sa,sn,sc,hsk⟩:=hsv k;rw [hsk] at hK;simp only [agF,hsk] at hK ⊢
   gi_wp2
   exact hK
  case body =>
   rintro l pre x A W ⟨kk,hkk,rfl,hfr,hR,hB,hsz⟩ ⟨k,hkl,hpk,rfl⟩ hA1 hA2 hX;obtain rfl:kk=k:=by
    have:=congrArg List.length hpk
    rwa [revI_take_len hkk,revI_take_len (by omega)] at this
   rw [hs4] at hA1;have hq:ds.length - 1 - kk<ds.length:=by omega
   have hfd:=famR_drop hkl;rw [←hfr.out] at hfd;obtain ⟨sa,sc,hsk,hat⟩:=HSV.out _ hq;have hll2:=HLL.out _ (List.getElem_mem hq);rw [nmF_at hq,imF_at hq,hsk] at hX;have hst:(revI ds.length).take kk++[ds.length - 1 - kk]=(revI ds.length).take (kk+1):=(revI_take hkl).symm;have ha:VlS w.heap.size W (.slice sa ds[ds.length - 1 - kk].l.length sc) ds[ds.length - 1 - kk].l:=VlS.of (hat.below hB) (by omega);have ht:=trim_any w.heap.size _ _ W (by omega) ha hll2;simp only [agF,nmF_at hq,imF_at hq,hsk];have d0:W.cell? ⟨A.heap.size,0,none⟩=some (.string ds[ds.length - 1 - kk].name):=by rw [Lib.cell_of_heap hX];rfl
   have d1:W.cell? ⟨A.heap.size,1,none⟩=some (.slice sa ds[ds.length - 1 - kk].l.length sc):=by rw [Lib.cell_of_heap hX];rfl
   have HT:=Lib.hid ht;have HST2:=Lib.hid hst;clear hat ha ht hst hX HSV HLL HSEQ HST hpk;have hffb:ffB ds[ds.length - 1 - kk].name=(ds[ds.length - 1 - kk].name.toList==[102,111,110,116,45,102,97,109,105,108,121]):=rfl;generalize ds[ds.length - 1 - kk].name=nm at *;generalize ds[ds.length - 1 - kk].l=dl at *;generalize ds[ds.length - 1 - kk].imp=im at *
   cases hff:ffB nm
   ·have hb:(nm.toList==[102,111,110,116,45,102,97,109,105,108,121])=false:=by rw [←hffb,hff]
    rw [hff,if_neg (by simp)] at hfd;have HFD:=Lib.hid hfd;clear hfd hfr
    gi_wp2
    exact ⟨KeepsFrom.refl _ _,⟨Below.refl _ _,rfl⟩,kk+1,by omega,HST2.out,HFD,hR,hB,hsz⟩
   ·have hb : (nm.toList==[102,111,110,116,45,102,97,109,105,108,121])=true:=by rw [←hffb,hff]
    rw [hff,if_pos rfl] at hfd;have HFIN:=Lib.hid hfd;clear hfd hfr
    gi_wp2_with fail
    refine ⟨trivial,fun h=>(by cases h),(((callsIn_wide (n:=_)).2 HT.out).inRound l).mono ?_⟩;rintro e w7 ⟨v7,rfl,hn7,hB7⟩;have hR7:=hR.below hB7;have hC7:Below w.heap.size w w7:=hB.trans (hB7.mono (by omega));obtain ⟨r0,r1,q0,q1⟩:=hR7.cells;clear HT d0 d1 hb hff hffb;generalize trimM dl=l1 at *
    cases l1 with
    | nil =>
      obtain ⟨a9,c9,rfl⟩:=hn7.form
      gi_wp2
      exact fam_leaf hR7 hB7 hC7 (by rw [HFIN.out];simp [pickM]) (by rw [HFIN.out];simp [pickM]) (by simp;omega)
    | cons y r =>
      cases r with
      | cons y2 r2 =>
        obtain ⟨a9,c9,rfl⟩:=hn7.form
        gi_wp2
        exact fam_leaf hR7 hB7 hC7 (by rw [HFIN.out];simp [pickM]) (by rw [HFIN.out];simp [pickM]) (by simp;omega)
      | nil =>
        have hs7:=hn7.vls;rcases hs7.form with ⟨h0,-⟩ | ⟨-,b7,o7,c9,rfl,-,-⟩
        ·cases h0
        ·obtain ⟨y0,y1,y2,-,-⟩:=hs7.cells (k:=0) (by simp)
         simp only [List.getElem_cons_zero,Nat.zero_mul,Nat.add_zero] at y0 y1 y2;have hpk2:pickM [y]=if y.kind=1∧(y.tk=1∨y.tk=6) then (y.text,true) else (⟨#[]⟩,false):=rfl
         rw [hpk2] at HFIN;clear hs7 hn7 hpk2;generalize y.kind=kd at *;generalize y.tk=tk at *;generalize y.text=tx at *
         by_cases hkd:kd=1
         ·subst hkd
          by_cases ht1:tk=1
          ·subst ht1
           gi_wp2
           exact fam_leaf hR7 hB7 hC7 (by rw [HFIN.out];simp) (by rw [HFIN.out];simp) (by simp;omega)
          ·by_cases ht6:tk=6
           ·subst ht6
            gi_wp2
            exact fam_leaf hR7 hB7 hC7 (by rw [HFIN.out];simp) (by rw [HFIN.out];simp) (by simp;omega)
           ·have hno:¬((1:Int)=1∧(tk=1∨tk=6)):=fun h=>h.2.elim ht1 ht6
            rw [if_neg hno] at HFIN;clear hno;have hb1:(tk != 1)=true:=by simpa using ht1
            have hb6:(tk != 6)=true:=by simpa using ht6
            gi_wp2
            exact fam_leaf hR7 hB7 hC7 (by rw [HFIN.out]) (by rw [HFIN.out]) (by simp;omega)
         ·rw [if_neg (fun h=>hkd h.1)] at HFIN
          gi_wp2
          exact fam_leaf hR7 hB7 hC7 (by rw [HFIN.out]) (by rw [HFIN.out]) (by simp;omega)
  case done =>
   rintro D xs W hD rfl ⟨k,h1,h2,h3,h4,h5,h6⟩ hdef;rw [hs4] at hD;have hk9:k=ds.length:=by
    have:=congrArg List.length h2;rw [revI_take_len h1] at this;simpa [revI] using this.symm
   have hf9:famM 6 ds=(⟨#[]⟩,false):=by
    rw [famM,if_pos rfl,h3.out,hk9,List.drop_of_length_le (by simp)];rfl
   obtain ⟨r0,r1,q0,q1⟩:=h4.cells;have HF9:=Lib.hid hf9;have H45:=Lib.hid (And.intro h4 h5);clear hf9 h3 h4 h5 HSEQ HST HSV HLL
   gi_wp2
   have hdef2:((W.setCell ⟨w.heap.size+1,0,none⟩ (.string ⟨#[]⟩)).setCell ⟨w.heap.size+1+1,0,none⟩ (.bool false)).heap[D]?=some (.deferred (some [])):=by
    rw [put_far _ rfl (show D≠w.heap.size+1+1 by omega),put_far _ rfl (show D≠w.heap.size+1 by omega)];exact hdef
   refine ⟨by simp,.inl ⟨_,_,rfl,run_takeDeferred hdef2,?_⟩⟩;obtain ⟨t0,t1,-,-⟩:=((H45.out.1.set ⟨#[]⟩ false).taken (D:=D) (by omega) (.deferred none)).cells;have hB9:=(H45.out.2.setCell (p:=⟨w.heap.size+1,0,none⟩) (Nat.le_succ _) (.string ⟨#[]⟩)).setCell (p:=⟨w.heap.size+1+1,0,none⟩) (by show w.heap.size≤w.heap.size+1+1;omega) (.bool false);refine ⟨.tuple #[.string ⟨#[]⟩,.bool false],by simp [results,Tryz.results30,go_sem,t0,t1],by rw [HF9.out],?_⟩;exact hB9.grown (grownBy_putObj' _ D _) hB9.size fun k e=>by cases e;omega
  case stop =>
   rintro D c pre W hD hpre ⟨rfl,h4,h5⟩ hdef;rw [hs4] at hD;clear HSEQ HST HSV HLL
   gi_wp2
   refine ⟨by simp,.inl ⟨_,_,rfl,run_takeDeferred hdef,?_⟩⟩;obtain ⟨t0,t1,-,-⟩:=(h4.taken (D:=D) (by omega) (.deferred none)).cells;have hf9:famM 6 ds=famR ds.reverse:=by rw [famM,if_pos rfl]
   rw [hf9];refine ⟨.tuple #[.string (famR ds.reverse).1,.bool (famR ds.reverse).2],by simp [results,Tryz.results30,go_sem,t0,t1],rfl,?_⟩;exact h5.grown (grownBy_putObj' _ D _) h5.size fun k e=>by cases e;omega
 ·have hf:famM kind ds=(⟨#[]⟩,false):=by rw [famM,if_neg hk]
  rw [hf];clear hv hll hf
  gi_wp2
  obtain ⟨r0,r1,-,-⟩:=hR3.cells;refine ⟨.tuple #[.string ⟨#[]⟩,.bool false],?_,rfl,hB3⟩;simp [results,Tryz.results30,go_sem,r0,r1]
end Go.Proofs.YtlnaihkombcbcaaGreat
namespace Go.Proofs.YtlnaihkombcbcaaGreat
open Go.RowKit Go.Ev
def wtP (p:Part):Nat:=p.l.length
def wtC (c:Cx):Nat:=c.parts.length+(c.parts.map wtP).sum
def wt (l:List Cx):Nat:=l.length+(l.map wtC).sum
def shortC (c:Cx):Prop:=∀ p∈c.parts,shortS p.l
theorem sum_take_succ {α:Type} (f:α→Nat) (l:List α) (k:Nat) (hk:k<l.length):((l.take (k+1)).map f).sum=((l.take k).map f).sum+f l[k]:=by
 rw [List.take_succ_eq_append_getElem hk,List.map_append,List.sum_append];simp
theorem forall_take_succ {α:Type} {p:α→Prop} {l:List α} {k:Nat} (hk:k<l.length) (h:∀ x∈l.take k,p x) (hx:p l[k]):∀ x∈l.take (k+1),p x:=by
 intro x hm;rw [List.take_succ_eq_append_getElem hk,List.mem_append] at hm;rcases hm with hm | hm
 ·exact h x hm
 ·simp at hm;subst hm;exact hx
theorem cx_cells {w:World} {b o:Nat} {l:List Cx} (h:∀ k (hk:k<l.length) j a,(encC l[k])[j]?=some a→∃ x,w.cell? ⟨b,o+(k*2+j),none⟩=some x∧At w a x) {k:Nat} (hk:k<l.length) :
 ∃ ad cap,w.cell? ⟨b,o+k*2,none⟩=some (.slice ad l[k].parts.length cap)∧At w (.sl l[k].parts.length 2 (l[k].parts.flatMap encP)) (.slice ad l[k].parts.length cap)∧w.cell? ⟨b,o+k*2+1,none⟩=some (.string l[k].pseudo):=by
 obtain ⟨x0,e0,v0⟩:=h k hk 0 _ rfl;obtain ⟨x1,e1,v1⟩:=h k hk 1 _ rfl;obtain rfl:x1=_:=v1;have v0':=v0;obtain ⟨ad,cap,rfl,-⟩:=At.sl_form v0;simp only [Nat.add_zero,←Nat.add_assoc] at e0 e1;exact ⟨ad,cap,e0,v0',e1⟩
theorem part_cells {w:World} {b o:Nat} {l:List Part} (h:∀ k (hk:k<l.length) j a,(encP l[k])[j]?=some a→∃ x,w.cell? ⟨b,o+(k*2+j),none⟩=some x∧At w a x) {k:Nat} (hk:k<l.length) :
 w.cell? ⟨b,o+k*2,none⟩=some (.int .i64 l[k].comb)∧∃ ad cap,w.cell? ⟨b,o+k*2+1,none⟩=some (.slice ad l[k].l.length cap)∧At w (.sl l[k].l.length 6 (l[k].l.flatMap encS)) (.slice ad l[k].l.length cap):=by
 obtain ⟨x0,e0,v0⟩:=h k hk 0 _ rfl;obtain ⟨x1,e1,v1⟩:=h k hk 1 _ rfl;obtain rfl:x0=_:=v0;have v1':=v1;obtain ⟨ad,cap,rfl,-⟩:=At.sl_form v1;simp only [Nat.add_zero,←Nat.add_assoc] at e0 e1;exact ⟨e0,ad,cap,e1,v1'⟩
def SmallPost (l:List Cx) (most:Int) (w:World) (e:Ending) (w':World):Prop:=∃ b:Bool,e=.returned (.bool b)∧Hid (b=true→(wt l:Int)≤most∧∀ c∈l,shortC c)∧Below w.heap.size w w'
set_option maxHeartbeats 4000000 in
theorem small4_any (l:List Cx) (v:Value) (most:Int) (w:World) (hv:At w (.sl l.length 2 (l.flatMap encC)) v) (hg:∀ c∈l,c.parts.length≤140737488351232) (h2:0≤most) (h3:most≤1000) :
 Calls Tryz.prog 54 #[v,.int .i64 most] w (SmallPost l most w):=by
 rcases sl_cells encC 2 (fun _=>rfl) hv with ⟨rfl,ad,cap,rfl⟩ | ⟨b,o,cap,rfl,hcap,hpos,hc⟩
 ·go_enter Tryz.func54,Tryz.ntmps54
  go_wp2
  go_loopw [5,6] (fun n i wr=>i=.int .i64 0∧n=.int .i64 0∧wr=w) (fun _ _ _=>0)
  case atStart=>exact ⟨rfl,rfl,rfl⟩
  case round =>
   obtain ⟨rfl,rfl,rfl⟩:=hrel
   go_wp2
   go_ret
   exact ⟨_,rfl,Lib.hid fun _=>⟨by simp [wt];exact h2,fun c hc=>by cases hc⟩,Below.refl _ _⟩
 ·have HC := Lib.hid fun k (hk:k<l.length)=>cx_cells hc hk
  have HG:=Lib.hid hg;clear hc hv hg
  go_enter Tryz.func54,Tryz.ntmps54
  go_wp2
  go_loopw [5,6] (fun v5 i wr=>∃ (k:Nat) (m:Int),k≤l.length∧i=.int .i64 k∧v5=.int .i64 m∧0≤m∧Hid (m≤most→(l.length:Int)+(((l.take k).map wtC).sum:Nat)≤m∧∀ c∈l.take k,shortC c)∧Below w.heap.size w wr) (fun _ i _=>l.length - (intOf i).toNat)
  case atStart=>exact ⟨0,l.length,Nat.zero_le _,rfl,rfl,by omega,Lib.hid fun _=>⟨by simp,fun x hx=>by simp at hx⟩,Below.refl _ _⟩
  case round =>
   obtain ⟨k,m,hk,rfl,rfl,hm0,hh,hB⟩:=hrel
   by_cases hlt:k<l.length
   ·by_cases hm:m≤most
    ·have hk1000:(k:Int)≤1000:=by have:=(hh.out hm).1;omega
     obtain ⟨ad,cp,c0,ha,c1⟩:=HC.out k hlt;have c0':=cell_up c0 hB;have c1':=cell_up c1 hB;have hpb:=HG.out _ (List.getElem_mem hlt);have hsum:=sum_take_succ wtC l k hlt;have hfa:=fun h h'=>forall_take_succ (p:=shortC) hlt h h';have hha:=hh.out hm;rw [wtC] at hsum;generalize l[k]=c at *;rcases sl_cells encP 2 (fun _=>rfl) ha with ⟨hnil,ad',cp',e9⟩ | ⟨b2,o2,cap2,e9,hcap2,hpos2,hc2⟩
     ·have hz:c.parts.length=0:=by rw [hnil];rfl
      have hz2:(c.parts.map wtP).sum=0:=by rw [hnil];rfl
      rw [hz,hz2] at hsum;rw [hz] at c0';have hsc:shortC c:=fun p hp=>by rw [hnil] at hp;cases hp
      have HK:=Lib.hid (And.intro hsum (hfa hha.2 hsc));clear hsum hfa hsc hnil hz hz2 ha c0 e9 hpb
      go_wp2
      go_loopw [5,7] (fun v5 i wx=>i=.int .i64 0∧v5=.int .i64 m∧wx=wr) (fun _ _ _=>0)
      case atStart=>exact ⟨rfl,by go_num,rfl⟩
      case round =>
       obtain ⟨rfl,rfl,rfl⟩:=hrel
       by_cases hps:c.pseudo.size≤100
       ·go_wp2
        go_roundw
        case rel=>exact ⟨k+1,m,by omega,by go_num,rfl,hm0,Lib.hid fun _=>⟨by rw [HK.out.1];have:=hha.1;omega,HK.out.2⟩,hB⟩
        case measure=>simp [intOf];omega
       ·go_wp2
        go_ret
        exact ⟨false,rfl,Lib.hid (fun h=>by cases h),hB⟩
     ·obtain ⟨rfl,rfl⟩:ad=some ⟨b2,o2,none⟩∧cp=cap2:=by cases e9;exact ⟨rfl,rfl⟩
      have HP:=Lib.hid fun j (hj:j<c.parts.length)=>part_cells hc2 hj;have HK:=Lib.hid (And.intro hsum hfa);clear hsum hfa hc2 ha e9 hh;have hpb':(c.parts.length:Int)≤140737488351232:=by omega
      go_wp2
      go_loopw [5,7] (fun v5 i wx=>∃ (j:Nat) (m':Int),j≤c.parts.length∧i=.int .i64 j∧v5=.int .i64 m'∧0≤m'∧Hid (m'≤most→m+(c.parts.length:Int)+(((c.parts.take j).map wtP).sum:Nat)≤m'∧∀ p∈c.parts.take j,shortS p.l)∧Below w.heap.size w wx) (fun _ i _=>c.parts.length - (intOf i).toNat)
      case atStart=>exact ⟨0,m+c.parts.length,Nat.zero_le _,rfl,by go_num,by omega,Lib.hid fun _=>⟨by simp,fun x hx=>by simp at hx⟩,hB⟩
      case round =>
       obtain ⟨j,m',hj,rfl,rfl,hm0',hh',hBx⟩:=hrel;have c0x:=cell_up c0 hBx;have c1x:=cell_up c1 hBx
       by_cases hjl:j<c.parts.length
       ·by_cases hm':m'≤most
        ·obtain ⟨-,ad3,cp3,c3,ha3⟩:=HP.out j hjl
         have c3':=cell_up c3 hBx;have HREC:=Lib.hid (count_any _ c.parts[j].l (Nat.le_refl _) _ m' most _ (ha3.below hBx) hm0' (by omega) h2 h3);have HS1:=Lib.hid (sum_take_succ wtP c.parts j hjl);have HS2:=Lib.hid (fun h h'=>forall_take_succ (p:=fun p:Part=>shortS p.l) hjl h h');have hj1000:(j:Int)≤1000000000000000:=by omega
         clear c3 ha3;rw [wtP] at HS1;generalize c.parts[j].l=ll at *
         go_wp2_with fail
         refine HREC.out.mono ?_;rintro e w2 ⟨r,rfl,hr1,hr2,hr3,hB2⟩
         go_wp2
         go_roundw
         case rel =>
          refine ⟨j+1,r,by omega,by go_num,rfl,by omega,Lib.hid fun hr=>?_,bup hBx hB2⟩;obtain ⟨g1,g2⟩:=hh'.out hm';obtain ⟨g3,g4⟩:=hr3.out hr;exact ⟨by rw [HS1.out];push_cast;omega,HS2.out g2 g4⟩
         case measure=>simp [intOf];omega
        ·by_cases hps:c.pseudo.size≤100
         ·go_wp2
          go_roundw
          case rel=>exact ⟨k+1,m',by omega,by go_num,rfl,hm0',Lib.hid (fun h=>by omega),hBx⟩
          case measure=>simp [intOf];omega
         ·go_wp2
          go_ret
          exact ⟨false,rfl,Lib.hid (fun h=>by cases h),hBx⟩
       ·obtain rfl:j=c.parts.length:=by omega
        have hh9:=hh'.out;rw [List.take_length] at hh9;have HH9:=Lib.hid hh9;clear hh9 hh'
        by_cases hps:c.pseudo.size≤100
        ·go_wp2
         go_roundw
         case rel=>exact ⟨k+1,m',by omega,by go_num,rfl,hm0',Lib.hid fun h=>by
          obtain ⟨g1,g2⟩:=HH9.out h
          exact ⟨by rw [HK.out.1];have:=hha.1;push_cast;omega,HK.out.2 hha.2 g2⟩,hBx⟩
         case measure=>simp [intOf];omega
        ·go_wp2
         go_ret
         exact ⟨false,rfl,Lib.hid (fun h=>by cases h),hBx⟩
    ·go_wp2
     go_ret
     exact ⟨false,rfl,Lib.hid (fun h=>by cases h),hB⟩
   ·obtain rfl:k=l.length:=by omega
    have hh':=hh.out;rw [List.take_length] at hh';have HH:=Lib.hid hh';clear hh' hh
    go_wp2
    go_ret
    refine ⟨_,rfl,Lib.hid fun h=>?_,hB⟩;have h9:m≤most:=by simpa using h
    obtain ⟨g1,g2⟩:=HH.out h9;exact ⟨by unfold wt;push_cast;omega,g2⟩
end Go.Proofs.YtlnaihkombcbcaaGreat
namespace Go.Proofs.YtlnaihkombcbcaaGreat
open Go.RowKit Go.Ev Go.Sort
def Rfn (a b:AV):Prop:=∀ (w:World) (G:Gh) (v:Value),VR w G a v→VR w G b v
def Rfns:List AV→List AV→Prop
 | [],[]=>True
 | a::la,b::lb=>Rfn a b∧Rfns la lb
 | _,_=>False
theorem Rfn.refl (a:AV):Rfn a a:=fun _ _ _ h=>h
theorem Rfns.row:∀ {la lb:List AV} {w:World} {G:Gh} {rb o:Nat},Rfns la lb→RowR w G rb o la→RowR w G rb o lb
 | [],[],_,_,_,_,_,h=>h
 | [],_::_,_,_,_,_,h,_=>h.elim
 | _::_,[],_,_,_,_,h,_=>h.elim
 | _::_,_::_,_,_,_,_,h,⟨h1,⟨v,h2,h3⟩,h4⟩=>⟨h1,⟨v,h2,h.1 _ _ _ h3⟩,Rfns.row h.2 h4⟩
mutual
def decVs:Nat→List AV→Option (List Vl)
 | 0,_=>none
 | _+1,[]=>some []
 | n+1,.g (.int .i64 k)::.g (.int .i64 t)::.g (.string s)::.g (.int .i64 m)::lv::rest=>match decL n lv,decVs n rest with
   | some l,some r=>some (.mk k t s m l::r)
   | _,_=>none
 | _+1,_=>none
def decL:Nat→AV→Option (List Vl)
 | 0,_=>none
 | n+1,.sl k 5 cs=>match decVs n cs with
   | some l=>if l.length=k then some l else none
   | none=>none
 | _+1,.z0=>some []
 | _+1,.g (.slice none 0 0)=>some []
 | _+1,_=>none
end
theorem rfn_sl {k sz:Nat} {cs ds:List AV} (h:Rfns cs ds):Rfn (.sl k sz cs) (.sl k sz ds):=fun _ _ _ ⟨a,cap,h1,h2,h3⟩=>⟨a,cap,h1,h2,h3.imp id fun ⟨rb,ro,h4,h5⟩=>⟨rb,ro,h4,h.row h5⟩⟩
theorem rfn_z0 (sz:Nat):Rfn .z0 (.sl 0 sz []):=fun _ _ _ ⟨a,h⟩=>⟨a,0,h,Nat.le_refl _,.inl rfl⟩
theorem rfn_nil (sz:Nat):Rfn (.g (.slice none 0 0)) (.sl 0 sz []):=fun _ _ _ h=>⟨none,0,h,Nat.le_refl _,.inl rfl⟩
theorem dec_spec:∀ n:Nat,(∀ (cs:List AV) (l:List Vl),decVs n cs=some l→Rfns cs (l.flatMap encV))∧(∀ (a:AV) (l:List Vl),decL n a=some l→Rfn a (.sl l.length 5 (l.flatMap encV)))
 | 0=>⟨fun cs l h=>by simp [decVs] at h,fun a l h=>by simp [decL] at h⟩
 | n + 1=>by
   obtain ⟨ih1,ih2⟩:=dec_spec n;refine ⟨fun cs l h=>?_,fun a l h=>?_⟩
   ·unfold decVs at h
    split at h
    ·cases h
    ·cases h
     rw [List.flatMap_nil,Rfns]
     trivial
    ·rename_i n0 k t s m lv rest he
     obtain rfl:n0=n:=by omega
     split at h
     ·rename_i l' r h1 h2
      cases h
      rw [List.flatMap_cons,encV,encVs_flat];exact ⟨.refl _,.refl _,.refl _,.refl _,ih2 _ _ h1,ih1 _ _ h2⟩
     ·cases h
    ·cases h
   ·unfold decL at h
    split at h
    ·cases h
    ·rename_i n0 k cs he
     obtain rfl:n0=n:=by omega
     split at h
     ·rename_i l' h1
      split at h
      ·rename_i hl
       cases h
       subst hl;exact rfn_sl (ih1 _ _ h1)
      ·cases h
     ·cases h
    ·cases h;exact rfn_z0 5
    ·cases h;exact rfn_nil 5
    ·cases h
def strsAV (ss:List Str):AV:=.sl ss.length 1 (ss.map fun s=>.g (.string (bs s)))
theorem new_owns {z e n:Nat} {w:World} {v:Value} {ss:List Str} (h:w.ownsRow z e 1 v n (ss.map encStr)):New z w (strsAV ss) v:=by
 have hn:ss.length=n:=by have:=h.1;simpa using this
 subst hn;rcases h.2 with ⟨rfl,h0⟩ | ⟨g,cap,cur,rfl,hg,hb,hc,-,-,ht⟩
 ·exact ⟨none,0,by rw [h0],by omega,.inl h0⟩
 ·refine ⟨_,cap,rfl,hc,.inr ⟨g,0,rfl,RowR.mk (show z≤g∧g<w.heap.size from ⟨hg,(Array.getElem?_eq_some_iff.1 hb).1⟩) fun i a hi=>?_⟩⟩
  rw [List.getElem?_map] at hi;obtain ⟨s,h1,rfl⟩:=Option.map_eq_some_iff.1 hi;refine ⟨.string (bs s),?_,rfl⟩;have hlt:i<ss.length:=(List.getElem?_eq_some_iff.1 h1).1;have h2:(cur.toList.take (ss.length*1))[i]?=(ss.map encStr)[i]?:=by rw [ht]
  rw [List.getElem?_take_of_lt (by omega),List.getElem?_map,h1] at h2;rw [Nat.zero_add,Lib.cell_of_heap hb];have h3:cur[i]?=some (encStr s):=by simpa using h2
  exact h3
end Go.Proofs.YtlnaihkombcbcaaGreat
end
