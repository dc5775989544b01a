/- Values and lists of names, as the evaluator tells them. -/
import Derived.Test.YtabliahkhafddaaGreatPd1
import Derived.Test.YtabliahkhafddaaGreatPc2
import Derived.Test.YtabliahkhafddaaGreatPc9
import Derived.Test.YtabliahkhafddaaGreatPd0
import Derived.Test.YtabliahkhafddaaGreatPc1
set_option linter.unusedSimpArgs false
noncomputable section
namespace Go.Proofs.YtabliahkhafddaaGreat
open Go.RowKit Go.Ev
attribute [local go_sem] Oper.semAt_some
mutual
def okV:Vl→Bool
 | .mk _ _ s _ l=>decide (s.size≤1000000)&&okVs l
def okVs:List Vl→Bool
 | []=>true
 | x::xs=>okV x&&okVs xs
end
theorem okV_eq (x:Vl):okV x=(decide (x.text.size≤1000000)&&okVs x.l):=by cases x;rw [okV];rfl
theorem okVs_at:∀ {l:List Vl},okVs l=true→∀ x∈l,x.text.size≤1000000∧okVs x.l=true
 | [],_,x,hx=>by simp at hx
 | y::l,h,x,hx=>by
   rw [okVs,Bool.and_eq_true,okV_eq,Bool.and_eq_true] at h;rcases List.mem_cons.1 hx with rfl | hx
   ·exact ⟨of_decide_eq_true h.1.1,h.1.2⟩
   ·exact okVs_at h.2 x hx
def ownR (k:Int) (s:ByteArray) (l:List Vl):List ByteArray:=if isVarK k s=true∧(readM l).is=true then [(readM l).name] else []
mutual
def rfV:Vl→List ByteArray
 | .mk k _ s _ l=>ownR k s l++(if 2≤k∧k≤5 then rfVs l else [])
def rfVs:List Vl→List ByteArray
 | []=>[]
 | x::xs=>rfV x++rfVs xs
end
theorem rfV_eq (x:Vl):rfV x=ownR x.kind x.text x.l++(if 2≤x.kind∧x.kind≤5 then rfVs x.l else []):=by cases x;rw [rfV];rfl
theorem rfVs_append:∀ (a b:List Vl),rfVs (a++b)=rfVs a++rfVs b
 | [],b=>by simp [rfVs]
 | x::a,b=>by simp only [List.cons_append,rfVs,rfVs_append a b,List.append_assoc]
theorem rfVs_snoc {l:List Vl} {k:Nat} (hk:k<l.length):rfVs (l.take (k+1))=rfVs (l.take k)++rfV l[k]:=by
 rw [List.take_succ_eq_append_getElem hk,rfVs_append];simp only [rfVs,List.append_nil]
theorem rfVs_le {l:List Vl} (k:Nat):(rfVs (l.take k)).length≤(rfVs l).length:=by
 have h:=rfVs_append (l.take k) (l.drop k);rw [List.take_append_drop] at h;rw [h,List.length_append];omega
theorem ownR_le (k:Int) (s:ByteArray) (l:List Vl):(ownR k s l).length≤1:=by unfold ownR;split <;> simp
mutual
theorem rfV_cnt:∀ x:Vl,(rfV x).length≤cntV x
 | .mk k t s n l=>by
   have:=rfVs_cnt l;have h2:=ownR_le k s l;rw [rfV,cntV,List.length_append]
   split <;> simp <;> omega
theorem rfVs_cnt:∀ l:List Vl,(rfVs l).length≤cntVs l
 | []=>by simp [rfVs]
 | x::xs=>by
   have h1:=rfV_cnt x;have h2:=rfVs_cnt xs;rw [rfVs,cntVs,List.length_append];omega
end
set_option maxRecDepth 100000 in
set_option maxHeartbeats 2000000 in
theorem refs_in (l z m0 Nb:Nat) (Ow:World→Nat→Prop) (J:List ByteArray→World→Prop) (hJ:∀ s A B,J s A→Below A.heap.size A B→J s B) (hO:∀ A B k,m0≤A.heap.size→Below A.heap.size A B→Ow B k→Ow A k) (hzm:z≤m0)
 (hY:∀ m pre x A,J pre A→pre.length<Nb→m0≤A.heap.size→YieldAt Fence.wide m Tryz.prog l #[.string x] A fun e B=>e=.returned (.bool true)∧J (pre++[x]) B∧KO Ow z A B) (N:Nat) :
 ∀ (vs:List Vl),SizeOf.sizeOf vs≤N→cntVs vs≤1000000→okVs vs=true→∀ (n:Nat) (v:Value) (pre:List ByteArray) (W:World),pre.length+(rfVs vs).length≤Nb→m0≤W.heap.size→AtB z W (.sl vs.length 5 (vs.flatMap encV)) v→J pre W→(∀ k,Ow W k→k<W.heap.size) →
   CallsIn Fence.wide n Tryz.prog 298 #[v,.func (.yield l) #[] #[]] W fun e B=>e=.returned (.bool true)∧J (pre++rfVs vs) B∧KO Ow z W B:=by
 induction N with
 | zero=>intro vs hl;cases vs <;> simp at hl <;> omega
 | succ N ih =>
   intro vs hl hcn hok n v pre W hNb hm hv hj hOW;have hlen:=cntVs_len vs;rcases slB_cells encV 5 Q4f (by decide) hv with ⟨rfl,ad,cap,rfl⟩ | ⟨b,o,cap,rfl,hcap,hpos,hbz,hc⟩
   ·refine callsIn_of_wp Tryz.func298 rfl trivial ?_ rfl
    simp only [Tryz.ntmps298,List.size_toArray,List.length_cons,List.length_nil,Nat.reduceAdd,Nat.reduceSub,Array.replicate_succ,Array.replicate_zero,List.push_toArray,List.append_toArray,List.nil_append,List.cons_append]
    gi_wp2
    gi_loopw [11] (fun i wr=>i=.int .i64 0∧J pre wr∧KO Ow z W wr) (fun _ _=>0)
    case atStart=>exact ⟨rfl,hj,KO.refl hOW⟩
    case round =>
     obtain ⟨rfl,hj2,hB⟩:=hrel
     gi_wp2
     go_ret
     exact ⟨rfl,by simpa [rfVs] using hj2,hB⟩
   ·have IH:=Lib.hid fun k (hk:k<vs.length)=>ih vs[k].l (by have:=vl_lt (List.getElem_mem hk);omega) (by have:=cntVs_at hk;omega) ((okVs_at hok _ (List.getElem_mem hk)).2)
    have HC:=Lib.hid fun k (hk:k<vs.length)=>vlB_cells hc hk;have HS:=Lib.hid fun k (hk:k<vs.length)=>rfVs_snoc hk;have HL:=Lib.hid fun k (hk:k<vs.length)=>And.intro (okVs_at hok _ (List.getElem_mem hk)).1 (Nat.le_trans (cntVs_len vs[k].l) (by have:=cntVs_at hk;omega):vs[k].l.length≤1000000);clear ih hc hl hv hok;refine callsIn_of_wp Tryz.func298 rfl trivial ?_ rfl;simp only [Tryz.ntmps298,List.size_toArray,List.length_cons,List.length_nil,Nat.reduceAdd,Nat.reduceSub,Array.replicate_succ,Array.replicate_zero,List.push_toArray,List.append_toArray,List.nil_append,List.cons_append]
    gi_wp2
    gi_loopw [11] (fun i wr=>∃ k:Nat,k≤vs.length∧i=.int .i64 k∧J (pre++rfVs (vs.take k)) wr∧KO Ow z W wr) (fun i _=>vs.length - (intOf i).toNat)
    case atStart=>exact ⟨0,Nat.zero_le _,rfl,by simpa [rfVs] using hj,KO.refl hOW⟩
    case round =>
     obtain ⟨k,hk,rfl,hj2,hK⟩:=hrel;have hB:=hK.below
     by_cases hlt:k<vs.length
     ·obtain ⟨c0,c1,c2,c3,ad,cp,c4,ha⟩:=HC.out k hlt
      have c0':=(hB.cell (p:=⟨b,o+k*5,none⟩) hbz).trans c0;have c1':=(hB.cell (p:=⟨b,o+k*5+1,none⟩) hbz).trans c1;have c2':=(hB.cell (p:=⟨b,o+k*5+2,none⟩) hbz).trans c2;have c3':=(hB.cell (p:=⟨b,o+k*5+3,none⟩) hbz).trans c3;have c4':=(hB.cell (p:=⟨b,o+k*5+4,none⟩) hbz).trans c4;have ha':=ha.below hB;have HSN:=HS.out k hlt;rw [rfV_eq] at HSN;obtain ⟨hts,hll⟩:=HL.out k hlt;have HREC:=Lib.hid (IH.out k hlt);have hle:=rfVs_le (l:=vs) (k+1);have hmr:m0≤wr.heap.size:=Nat.le_trans hm hB.size;have hzr:z≤wr.heap.size:=Nat.le_trans hzm hmr;have hOwr:=hK.lt;clear c0 c1 c2 c3 c4 ha IH HC HS HL;generalize vs[k].kind=kd at *;generalize vs[k].tk=tk at *;generalize vs[k].text=tx at *;generalize vs[k].n=nn at *;generalize vs[k].l=ll at *;obtain ⟨X,hX⟩:∃ X:Obj,X=.cells #[.int .i64 kd,.int .i64 tk,.string tx,.int .i64 nn,.slice ad ll.length cp] 193:=⟨_,rfl⟩;have hgr:∀ B,Below (wr.alloc X).heap.size (wr.alloc X) B→Below wr.heap.size wr B∧B.heap[wr.heap.size]?=some X∧J (pre++rfVs (vs.take k)) B∧KO Ow z wr B:=fun B hB2=>by
       have h1:=bup (Q0h wr X) hB2;refine ⟨h1,(hB2.block _ (by simp)).trans (World.alloc_heap_new wr X),hJ _ _ _ hj2 h1,KO.grow h1 hzr (fun k hk=>hO _ _ _ hmr h1 hk) hOwr⟩
      have HGR:=Lib.hid hgr;clear hgr;subst hX;have hiv:=fun m=>(callsIn_wide (n:=m)).2 (isVar_any kd tk nn tx (.slice ad ll.length cp) (wr.alloc (.cells #[.int .i64 kd,.int .i64 tk,.string tx,.int .i64 nn,.slice ad ll.length cp] 193)) hts);have HIV:=Lib.hid hiv;clear hiv
      gi_wp2_with fail
      refine ⟨trivial,fun h=>(by cases h),(HIV.out _).mono ?_⟩;rintro e w2 ⟨rfl,hB2⟩;obtain ⟨hb2,hx2,hj3,hK3⟩:=HGR.out _ hB2;have hKW:=hK.trans hK3;have hz2:z≤w2.heap.size:=Nat.le_trans hzr hb2.size;have hm2:m0≤w2.heap.size:=Nat.le_trans hmr hb2.size;have d0:w2.cell? ⟨wr.heap.size,0,none⟩=some (.int .i64 kd):=by rw [Lib.cell_of_heap hx2];rfl
      have d1:w2.cell? ⟨wr.heap.size,1,none⟩=some (.int .i64 tk):=by rw [Lib.cell_of_heap hx2];rfl
      have d2:w2.cell? ⟨wr.heap.size,2,none⟩=some (.string tx):=by rw [Lib.cell_of_heap hx2];rfl
      have d3:w2.cell? ⟨wr.heap.size,3,none⟩=some (.int .i64 nn):=by rw [Lib.cell_of_heap hx2];rfl
      have d4:w2.cell? ⟨wr.heap.size,4,none⟩=some (.slice ad ll.length cp):=by rw [Lib.cell_of_heap hx2];rfl
      have ha2:=ha'.below (hb2.mono hzr);clear HGR HIV hB2 c0' c1' c2' c3' c4' ha'
      cases hiv:isVarK kd tx
      ·rw [ownR,if_neg (by rw [hiv];simp),List.nil_append] at HSN
       by_cases hkk:2≤kd∧kd≤5
       ·obtain ⟨hk2,hk5⟩:=hkk
        rw [if_pos ⟨hk2,hk5⟩] at HSN;have hpb:(pre++rfVs (vs.take k)).length+(rfVs ll).length≤Nb:=by
         have h9:=congrArg List.length HSN;simp only [List.length_append] at h9 ⊢;omega
        have HR:=Lib.hid (HREC.out (n - 1) (.slice ad ll.length cp) (pre++rfVs (vs.take k)) w2 hpb hm2 ha2 hj3 hKW.lt);clear HREC
        gi_wp2_with fail
        refine ⟨trivial,fun h=>(by cases h),HR.out.mono ?_⟩;rintro e W9 ⟨rfl,hj9,hK9⟩;have hKW9:=hKW.trans hK9;rw [List.append_assoc,←HSN] at hj9
        gi_wp2
        go_roundw
        case rel=>exact ⟨k+1,by omega,by go_num,hj9,hKW9⟩
        case measure=>simp [intOf];omega
       ·rw [if_neg hkk,List.append_nil] at HSN
        rw [←HSN] at hj3;clear HREC
        by_cases hk2:2≤kd
        ·have hk5:¬kd≤5:=fun h=>hkk ⟨hk2,h⟩
         gi_wp2
         refine ⟨trivial,?_⟩
         gi_wp2
         go_roundw
         case rel=>exact ⟨k+1,by omega,by go_num,hj3,hKW⟩
         case measure=>simp [intOf];omega
        ·gi_wp2
         refine ⟨trivial,?_⟩
         gi_wp2
         go_roundw
         case rel=>exact ⟨k+1,by omega,by go_num,hj3,hKW⟩
         case measure=>simp [intOf];omega
      ·have hk5:kd=5:=by
        rw [isVarK,Bool.and_eq_true,beq_iff_eq] at hiv;exact hiv.1
       subst hk5;have hown:ownR 5 tx ll=if (readM ll).is=true then [(readM ll).name] else []:=by simp [ownR,hiv]
       rw [hown,if_pos (by omega:(2:Int)≤5∧(5:Int)≤5)] at HSN;have HRD:=Lib.hid fun m=>(callsIn_wide (n:=m)).2 (read_any 5 tk nn tx (.slice ad ll.length cp) ll w2 (ha2.toAt hz2) hll);clear hown;generalize readM ll=f at *;obtain ⟨nm,fb,fl,is⟩:=f;simp only at HSN HRD
       gi_wp2_with fail
       refine ⟨trivial,fun h=>(by cases h),(HRD.out _).mono ?_⟩;rintro e w3 ⟨⟨fa,fn,fc,rfl⟩,hB3⟩;have hb4:Below w2.heap.size w2 (w3.alloc (.cells #[.string nm,.slice fa fn fc,.bool fl] 375)):=hB3.alloc hB3.size _;have hx4:=(hb4.block _ (Array.getElem?_eq_some_iff.1 hx2).1).trans hx2;have hj4:=hJ _ _ _ hj3 hb4;have hK4:KO Ow z w2 (w3.alloc (.cells #[.string nm,.slice fa fn fc,.bool fl] 375)):=KO.grow hb4 hz2 (fun k hk=>hO _ _ _ hm2 hb4 hk) hK3.lt;have hm4:m0≤(w3.alloc (.cells #[.string nm,.slice fa fn fc,.bool fl] 375)).heap.size:=Nat.le_trans hm2 hb4.size;have hno:¬Ow (w3.alloc (.cells #[.string nm,.slice fa fn fc,.bool fl] 375)) wr.heap.size:=fun h=>by
        have:=hOwr _ (hO wr _ _ hmr (bup hb2 hb4) h);omega
       have hwr4:wr.heap.size<(w3.alloc (.cells #[.string nm,.slice fa fn fc,.bool fl] 375)).heap.size:=Nat.lt_of_lt_of_le (Array.getElem?_eq_some_iff.1 hx2).1 hb4.size;have H4:=Lib.hid (And.intro hx4 (And.intro hj4 (And.intro hK4 (And.intro hm4 (And.intro hno hwr4)))));clear hx4 hj4 hK4 hm4 hno hwr4 HRD d0 d1 d2 d3 d4
       cases is
       ·simp only [Bool.false_eq_true,if_false,List.nil_append] at HSN
        have hpb:(pre++rfVs (vs.take k)).length+(rfVs ll).length≤Nb:=by
         have h9:=congrArg List.length HSN;simp only [List.length_append] at h9 ⊢;omega
        have HR:=Lib.hid (HREC.out (n - 1) (.slice ad ll.length cp) (pre++rfVs (vs.take k)) _ hpb H4.out.2.2.2.1 (ha2.below (hb4.mono hz2)) H4.out.2.1 H4.out.2.2.1.lt);have e0:(w3.alloc (.cells #[.string nm,.slice fa fn fc,.bool fl] 375)).cell? ⟨wr.heap.size,0,none⟩=some (.int .i64 5):=by rw [Lib.cell_of_heap H4.out.1];rfl
        have e4:(w3.alloc (.cells #[.string nm,.slice fa fn fc,.bool fl] 375)).cell? ⟨wr.heap.size,4,none⟩=some (.slice ad ll.length cp):=by rw [Lib.cell_of_heap H4.out.1];rfl
        clear HREC
        gi_wp2_with fail
        refine ⟨fun _ h=>(by cases h),?_⟩
        gi_wp2_with fail
        refine ⟨trivial,fun h=>(by cases h),HR.out.mono ?_⟩;rintro e W9 ⟨rfl,hj9,hK9⟩;have hKW9:=(hKW.trans H4.out.2.2.1).trans hK9;rw [List.append_assoc,←HSN] at hj9;clear e0 e4
        gi_wp2
        go_roundw
        case rel=>exact ⟨k+1,by omega,by go_num,hj9,hKW9⟩
        case measure=>simp [intOf];omega
       ·simp only [if_true] at HSN
        have hlen9:=congrArg List.length HSN;simp only [List.length_append,List.length_cons,List.length_nil] at hlen9
        gi_wp2_with fail
        refine upon_yield rfl (hY _ _ _ _ H4.out.2.1 (by simp only [List.length_append];omega) H4.out.2.2.2.1) ?_;rintro W5 ⟨hj5,hK5⟩;have hx5:=(hK5.same _ H4.out.2.2.2.2.2 H4.out.2.2.2.2.1).trans H4.out.1;have hKW5:=(hKW.trans H4.out.2.2.1).trans hK5;have e0:W5.cell? ⟨wr.heap.size,0,none⟩=some (.int .i64 5):=by rw [Lib.cell_of_heap hx5];rfl
        have e4:W5.cell? ⟨wr.heap.size,4,none⟩=some (.slice ad ll.length cp):=by rw [Lib.cell_of_heap hx5];rfl
        have HR:=Lib.hid (HREC.out (n - 1) (.slice ad ll.length cp) _ _ (by simp only [List.length_append,List.length_cons,List.length_nil];omega) (Nat.le_trans H4.out.2.2.2.1 hK5.below.size) ((ha2.below (hb4.mono hz2)).below hK5.below) hj5 hKW5.lt);clear HREC hj5 hx5
        gi_wp2_with fail
        refine ⟨trivial,fun h=>(by cases h),HR.out.mono ?_⟩;rintro e W9 ⟨rfl,hj9,hK9⟩;have hKW9:=hKW5.trans hK9;rw [List.append_assoc,List.append_assoc,←List.append_assoc (rfVs (vs.take k)),List.append_assoc (rfVs (vs.take k)),←HSN] at hj9;clear e0 e4
        gi_wp2
        go_roundw
        case rel=>exact ⟨k+1,by omega,by go_num,hj9,hKW9⟩
        case measure=>simp [intOf];omega
     ·obtain rfl:k=vs.length:=by omega
      rw [List.take_length] at hj2
      gi_wp2
      go_ret
      exact ⟨rfl,hj2,hK⟩
end Go.Proofs.YtabliahkhafddaaGreat
namespace Go.Proofs.YtabliahkhafddaaGreat
open Go.RowKit Go.Sort Go.Ev
attribute [local go_sem] Oper.semAt_some
theorem names_any (v:Value) (hv:∃ a n c,v=.slice a n c) (w:World) :
 Calls Tryz.prog 247 #[v] w fun e w'=>e=.returned (.func (.func 297) #[] #[.pointer (some ⟨w.heap.size,0,none⟩)])∧w'=w.alloc (.cells #[v] 63):=by
 obtain ⟨a,n,c,rfl⟩:=hv
 go_enter Tryz.func247,Tryz.ntmps247
 go_wp2
 go_ret
 exact ⟨rfl,rfl⟩
theorem names_iter (z:Nat) (Bl:Nat) (v:Value) (vs:List Vl) (w:World) (hcn:cntVs vs≤1000000) (hok:okVs vs=true) (hz:z≤w.heap.size) (hv:AtB z w (.sl vs.length 5 (vs.flatMap encV)) v)
 (hl:w.cell? ⟨Bl,0,none⟩=some v) (hlz:Bl<w.heap.size) :
 IterAll Tryz.prog 297 #[.pointer (some ⟨Bl,0,none⟩)] (fun x:ByteArray=>#[.string x]) z (rfVs vs).length (fun xs=>xs=rfVs vs) w:=by
 intro n l Ow J W hW hOs hJ hO hY h0;have hWz:Below z w W:=hW.mono hz;have hl':=(hW.cell (p:=⟨Bl,0,none⟩) hlz).trans hl;have HT:=Lib.hid (refs_in l z W.heap.size (rfVs vs).length Ow J hJ hO (Nat.le_trans hz hW.size) hY _ vs (Nat.le_refl _) hcn hok (n - 1) v [] W (by simp) (Nat.le_refl _) (hv.below hWz) h0 hOs);obtain ⟨ad,cap,rfl,-⟩:=AtB.sl_form hv;clear hv;refine callsIn_of_wp Tryz.func297 rfl trivial ?_ rfl;simp only [Tryz.ntmps297,List.size_toArray,List.length_cons,List.length_nil,Nat.reduceAdd,Nat.reduceSub,Array.replicate_succ,Array.replicate_zero,List.push_toArray,List.append_toArray,List.nil_append,List.cons_append]
 gi_wp2_with fail
 refine ⟨trivial,fun h=>(by cases h),HT.out.mono ?_⟩;rintro e B ⟨rfl,hj,hK⟩
 gi_wp2
 go_end0
 exact ⟨⟨_,rfl⟩,_,rfl,by simpa using hj,hK⟩
def ddS (a:List ByteArray) (x:ByteArray):List ByteArray:=if Lib.containsS a x=true then a else a++[x]
def dd (l:List ByteArray):List ByteArray:=l.foldl ddS []
theorem dd_snoc (l:List ByteArray) (x:ByteArray):dd (l++[x])=ddS (dd l) x:=by rw [dd,List.foldl_append];rfl
theorem ddS_len (a:List ByteArray) (x:ByteArray):(ddS a x).length≤a.length+1:=by unfold ddS;split <;> simp
theorem foldl_dd_len:∀ (l a:List ByteArray),(l.foldl ddS a).length≤a.length+l.length
 | [],a=>by simp
 | x::l,a=>by
   have h1:=foldl_dd_len l (ddS a x);have h2:=ddS_len a x;simp only [List.foldl_cons,List.length_cons];omega
theorem dd_len (l:List ByteArray):(dd l).length≤l.length:=by have:=foldl_dd_len l [];simpa [dd] using this
theorem contains_owns {w:World} {z e:Nat} {v:Value} {zs:List ByteArray} (h:w.ownsRow z e 1 v zs.length (zs.map Value.string)) (x:ByteArray) (hl:zs.length≤1000000) :
 Calls Tryz.prog 187 #[v,.string x] w fun e w'=>e=.returned (.bool (Lib.containsS zs x))∧w'=w:=by
 rcases h.2 with ⟨rfl,h0⟩ | ⟨g,cap,cur,rfl,hg,hb,hc,-,-,ht⟩
 ·obtain rfl:zs=[]:=List.eq_nil_of_length_eq_zero h0
  refine (Tryz.slices_Contains_string_empty none 0 x w).mono ?_;rintro e w' ⟨rfl,rfl⟩;exact ⟨rfl,rfl⟩
 ·have hcell:∀ j,j<zs.length→w.cell? ⟨g,0+j,none⟩=some (.string (zs.getD j ByteArray.empty)):=fun j hj=>by
   rw [Nat.zero_add,h.cellAt j (by omega)];simp [hj]
  refine (Tryz.slices_Contains_string g 0 zs.length cap zs x w (Nat.le_refl _) (by omega) hcell).mono ?_;rintro e w' ⟨rfl,rfl⟩;exact ⟨by rw [List.take_length],rfl⟩
set_option maxRecDepth 100000 in
set_option maxHeartbeats 4000000 in
theorem refs_any (v:Value) (vs:List Vl) (w:World) (hcn:cntVs vs≤1000000) (hok:okVs vs=true) (hv:At w (.sl vs.length 5 (vs.flatMap encV)) v) :
 Calls Tryz.prog 179 #[v] w fun e w'=>∃ v',e=.returned v'∧w'.ownsRow w.heap.size 9 1 v' (dd (rfVs vs)).length ((dd (rfVs vs)).map Value.string)∧Below w.heap.size w w':=by
 obtain ⟨i0,hi,hz0,hz1,hz2⟩:=info_parts Tryz.infoS;have hNle:=rfVs_cnt vs;have hB1:=Q0h w (.cells #[.slice none 0 0] 46);have hsz1:(w.alloc (.cells #[.slice none 0 0] 46)).heap.size=w.heap.size+1:=by simp
 have hB2:Below w.heap.size w ((w.alloc (.cells #[.slice none 0 0] 46)).alloc (.cells #[v] 63)):=hB1.alloc hB1.size _;have hsz2:((w.alloc (.cells #[.slice none 0 0] 46)).alloc (.cells #[v] 63)).heap.size=w.heap.size+2:=by simp
 have hc2:((w.alloc (.cells #[.slice none 0 0] 46)).alloc (.cells #[v] 63)).cell? ⟨w.heap.size+1,0,none⟩=some v:=by
  have:=World.alloc_heap_new (w.alloc (.cells #[.slice none 0 0] 46)) (.cells #[v] 63);rw [hsz1] at this;rw [Lib.cell_of_heap this];rfl
 have hbx:((w.alloc (.cells #[.slice none 0 0] 46)).alloc (.cells #[v] 63)).heap[w.heap.size]?=some (.cells #[.slice none 0 0] 46 (0,0)):=by
  rw [Below.heap_alloc _ _ _ (by omega)];exact World.alloc_heap_new w _
 have HSEQ:=Lib.hid (names_iter w.heap.size (w.heap.size+1) v vs _ hcn hok (by omega) (AtB.below (At.toB hv) hB2) hc2 (by omega));have hform:∃ a n c,v=.slice a n c:=by
  obtain ⟨ad,cap,rfl,-⟩:=At.sl_form hv;exact ⟨_,_,_,rfl⟩
 have HNM:=Lib.hid (names_any v hform (w.alloc (.cells #[.slice none 0 0] 46)));rw [hsz1] at HNM;obtain ⟨ad,an,ac,rfl⟩:=hform;have hst:AIb (w.heap.size+4) w.heap.size w (dd []) ((w.alloc (.cells #[.slice none 0 0] 46)).alloc (.cells #[.slice ad an ac] 63)):=⟨_,hbx,World.ownsRow_nil _ _ _ _,hB2⟩;have HST:=Lib.hid hst;clear hv hc2 hbx hst hB1;refine callsIn_wide (n:=7).1 (callsIn_of_wp_marks Tryz.func179 rfl trivial ?_ rfl);simp only [Tryz.ntmps179,List.size_toArray,List.length_cons,List.length_nil,Nat.reduceAdd,Nat.reduceSub,Array.replicate_succ,Array.replicate_zero,List.push_toArray,List.append_toArray,List.nil_append,List.cons_append]
 gi_wp2_with fail
 refine ⟨trivial,((callsIn_wide (n:=_)).2 HNM.out).mono ?_⟩;rintro e w2 ⟨rfl,rfl⟩
 gi_wp2
 refine range_all (α:=ByteArray) (gf:=297) (lb:=#[.pointer (some ⟨w.heap.size+1,0,none⟩)]) rfl (enters_of Tryz.func297 (by kernel_rfl) rfl) (encs:=fun x:ByteArray=>#[.string x]) (fun _=>rfl) (z:=w.heap.size) (N:=(rfVs vs).length) (S:=fun xs=>xs=rfVs vs) (by rw [hsz2];omega)
  (fun pre W=>AIb (w.heap.size+4) w.heap.size w (dd pre) W) (OwB w.heap.size) HST.out ?ia ?il ?ow ?oa ?ol ?od ?seq (fun x=>{ tmps:=#[.slice ad an ac,undef,.slice none 0 0,.pointer (some ⟨w.heap.size,0,none⟩),.string x,.slice ad an ac,.func (.func 297) #[] #[.pointer (some ⟨w.heap.size+1,0,none⟩)],.string x,undef,undef,undef,undef,undef,undef,undef,undef,undef],defers:=[] }) ?assign ?body ?done
 case ia=>exact fun s A B h hb=>h.below hb
 case il =>
  rw [hsz2];exact fun s A r r' h hr=>h.put (by omega) hr
 case ow=>exact fun k hk=>(HST.out.own hk).1
 case oa =>
  intro A B k hA hb hk;rw [hsz2] at hA;rcases hk with h | ⟨v,h1,h2⟩
  ·exact .inl h
  ·exact .inr ⟨v,(hb.block _ (by omega)).symm.trans h1,h2⟩
 case ol =>
  rw [hsz2];intro A r r' k hr;have hz:∀ x,(A.putObj (w.heap.size+2+1) (.loop r')).heap[w.heap.size]?=some x↔A.heap[w.heap.size]?=some x:=fun x=>by rw [World.putObj_heap_other (by omega)]
  exact or_congr Iff.rfl (exists_congr fun v=>and_congr (hz _) Iff.rfl)
 case od =>
  rw [hsz2];intro s A h;exact ⟨fun hk=>by have:=(h.own hk).2;omega,fun hk=>by have:=(h.own hk).2;omega⟩
 case seq=>exact HSEQ.out
 case assign =>
  intro l x W m K hK
  gi_wp2
  exact hK
 case body =>
  rintro l pre x W m ⟨v1,h1,h2,h3⟩ hpl hWs;rw [hsz2] at hWs;have hddl:=dd_len pre;have hc1:W.cell? ⟨w.heap.size,0,none⟩=some v1:=by rw [Lib.cell_of_heap h1];rfl
  have hf1:W.frozen? ⟨w.heap.size,0,none⟩=false:=Lib.frozen_of_heap h1 0
  gi_wp2_with fail
  refine ⟨trivial,fun h=>(by cases h),(((callsIn_wide (n:=_)).2 (contains_owns h2 x (by omega))).inRound l).mono ?_⟩;rintro e w' ⟨rfl,rfl⟩
  cases hcx:Lib.containsS (dd pre) x
  ·have hdd:dd (pre++[x])=dd pre++[x]:=by rw [dd_snoc,ddS,hcx];rfl
   gi_wp2_with (gi_at_builtin;refine wpListIn_append_own_at _ rfl _ _ 46 rfl (w.heap.size+4) 9 i0 (.string ByteArray.empty) 1 16 Tryz.underlying46 hi hz0 hz1 hz2 rfl (by decide) _ _ _ rfl (h2.alloc _) ⟨w'.heap.size,0,none⟩ 1 1 [.string x] rfl rfl ?c1 ?c2 ?c3 ?c4 ?c5 ?_)
   case c1=>exact cell_one_new _ _ _
   case c2=>simp [Value.oneCell']
   case c3=>unfold maxLen;omega
   case c4=>omega
   case c5=>simp;omega
   intro v' w1 hown' hgrow _ hblk;obtain ⟨g',cap',rfl⟩:=ownsRow_succ hown';have HE:=Lib.hid (aib_snoc (by omega) h1 h2 h3 (by omega) hgrow hown' (by rw [World.size_alloc];exact hblk));have hb1:w1.heap[w.heap.size]?=some (.cells #[v1] 46 (0,0)):=by
    rw [hgrow.block _ (by simp;omega) (row_ne_low h2 (b:=w.heap.size) (by omega)),Below.heap_alloc _ _ _ (by omega)];exact h1
   clear hc1 hf1;have hc1:w1.cell? ⟨w.heap.size,0,none⟩=some v1:=by rw [Lib.cell_of_heap hb1];rfl
   have hf1:w1.frozen? ⟨w.heap.size,0,none⟩=false:=Lib.frozen_of_heap hb1 0;have HDD:=Lib.hid hdd;clear hb1 h1 h2 h3 hown' hblk hdd
   gi_wp2
   rw [HDD.out];exact HE.out
  ·have hdd:dd (pre++[x])=dd pre:=by rw [dd_snoc,ddS,hcx];rfl
   have HE:Hid (AIb (w.heap.size+4) w.heap.size w (dd pre) w'):=Lib.hid ⟨v1,h1,h2,h3⟩;have HDD:=Lib.hid hdd;clear h1 h2 h3 hdd
   gi_wp2
   rw [HDD.out];exact ⟨HE.out,KO.refl fun k hk=>(HE.out.own hk).1⟩
 case done =>
  rintro D xs W hD rfl ⟨v1,h1,h2,h3⟩ hbel hdef;have hc1:W.cell? ⟨w.heap.size,0,none⟩=some v1:=by rw [Lib.cell_of_heap h1];rfl
  gi_wp2
  refine ⟨by simp,.inl ⟨_,_,rfl,run_takeDeferred hdef,?_⟩⟩;refine ⟨_,results_tmp rfl _ _ _,v1,rfl,owns_mono (ownsRow_putObj h2 _ hdef rfl) (by omega),?_⟩;exact h3.grown (grownBy_putObj' W D _) h3.size fun k e=>by cases e;simp at hD;omega
end Go.Proofs.YtabliahkhafddaaGreat
namespace Go.Proofs.YtabliahkhafddaaGreat
open Go.RowKit
section
variable {F:Fence} {n:Nat} {P:Program} {α:Type}
theorem range_over_al {g:Operand} {ps:Array Tmp} {assign body:Code} {Q:Exit→Act→World→Prop} {a:Act} {w:World}
 (hro:F.round=none) (hF:∀ f,F.fn f) (h1:1≤n) {gf:Nat} {lb:Array Value} (hg:a.eval g=.func (.func gf) #[] lb) (eg:∀ args w,(callFunc gf args).run P w=.ok (.enter gf args) w)
 {encs:α→Array Value} (hps:∀ x,(encs x).size=ps.size) (Wr Kp:World→World→Prop) {S Sp:List α→Prop} {G:List α→α→Prop}
 (I:List α→World→Prop) (Ix:Code→List α→World→Prop) (hI:OwnFrom w.heap.size I) (hIx:∀ c,OwnFrom w.heap.size (Ix c)) (h0:I [] w)
 (hWI:∀ s A B,I s A→Wr A B→I s B) (hWx:∀ c s A B,Ix c s A→Wr A B→Ix c s B) (hWb:∀ A B,Wr A B→∀ (k:Nat) (o:Obj),A.heap[k]?=some o→o.isCells=false→B.heap[k]?=some o)
 (hKt:∀ {A B C:World},Kp A B→Kp B C→Kp A C) (hKb:∀ (W:World) (l:Nat) (o:Obj),w.heap.size≤l→Kp W (W.putObj l o)) (hKa:∀ (W:World) (o:Obj),w.heap.size≤W.heap.size→Kp W (W.alloc o)) (ob:α→Obj)
 (hseq:IterTo F (n - 1) P gf lb encs Wr Kp S Sp G w) (a₁:α→World→Act)
 (hassign:∀ (l:Nat) (x:α) (W:World) (K:Act→World→Prop),K (a₁ x W) (W.alloc (ob x)) →
   assign.wpIn (F.inRound l) (n - 1 - 1) P (Exit.then K (fun _ _ _=>False)) { tmps:=(ps.zip (encs x)).foldl (fun t (p,v)=>t.setIfInBounds p v) a.tmps,defers:=[] } W)
 (hbody:∀ (l:Nat) (pre:List α) (x:α) (A W:World),I pre W→G pre x→w.heap.size+2≤A.heap.size→A.heap.size<W.heap.size→W.heap[A.heap.size]?=some (ob x)→body.wpIn (F.inRound l) (n - 1 - 1) P (ownPostG w.heap.size Kp I Ix (pre++[x]) W) (a₁ x A) W)
 (hdone:∀ (D:Nat) (xs:List α) (W:World),w.heap.size≤D→S xs→I xs W→W.heap[D]?=some (.deferred (some []))→Q .normal { a with defers:={ target:=.collected D,args:=#[] }::a.defers } W)
 (hstop:∀ (D:Nat) (c:Code) (pre:List α) (W:World),w.heap.size≤D→Sp pre→Ix c pre W→W.heap[D]?=some (.deferred (some []))→c.wpIn F n P Q { a with defers:={ target:=.collected D,args:=#[] }::a.defers } W) :
 (Code.rangeFunc g ps assign body).wpIn F n P Q a w:=by
 refine wpIn_rangeFunc fun fn hfn=>?_;rw [hro];generalize hL:w.heap.size+1=L;generalize hD:w.heap.size=D at *;obtain ⟨mk,hmk⟩:∃ mk:LoopState→Option Code→Loop,mk=fun st pe=>{ state:=st,pending:=pe,fn,tmps:=a.tmps,params:=ps,assign,body,defers:=D }:=⟨_,rfl⟩;have e1:∀ pe st,(mk st pe).state=st:=fun pe st=>by rw [hmk]
 have e2:∀ pe st,(mk st pe).pending=pe:=fun pe st=>by rw [hmk]
 have e3:∀ pe st pe' st',{ mk st pe with state:=st',pending:=pe' }=mk st' pe':=fun pe st pe' st'=>by rw [hmk]
 have e4:∀ pe st st',{ mk st pe with state:=st' }=mk st' pe:=fun pe st st'=>by rw [hmk]
 have hne:D≠L:=by omega
 let W1:=(w.alloc (.deferred (some []))).alloc (.loop (mk .ready none))
 have hbook:Book L D (mk .ready none) W1:=by
  refine ⟨?_,?_⟩
  ·have:=World.alloc_heap_new (w.alloc (.deferred (some []))) (.loop (mk .ready none))
   rw [World.size_alloc,hD,hL] at this;exact this
  ·have:=World.alloc_heap_new w (.deferred (some []))
   rw [hD] at this;exact (Below.heap_alloc _ _ _ (by simp;omega)).trans this
 have hI1:I [] W1:=hI.alloc _ (hI.alloc _ h0);have hb1:Below w.heap.size w W1:=((Below.refl _ w).alloc (Nat.le_refl _) _).alloc (by simp) _;refine ⟨L,[{ target:=.collected D,args:=#[] }],W1,{ target:=.fn (.func gf) lb,args:=#[.func (.yield L) #[] #[]] },W1,gf,#[.func (.yield L) #[] #[]]++lb,W1,?_,?_,fun f _=>hF f,?_,fun _=>h1,?_⟩
 ·have:=run_enterLoop_outer (P:=P) (w:=w) fn a.tmps ps assign body
  rw [hD,hL] at this;rw [this];show _=Result.ok _ ((w.alloc _).alloc (.loop (mk .ready none)));rw [hmk]
 ·simp only [resolve,hg];simp [go_sem]
 ·simp [invoke,go_sem,eg]
 refine (hseq L (fun pre W=>I pre W∧Book L D (mk .ready none) W) (fun pre W=>∃ c,Ix c pre W∧Book L D (mk .done (some c)) W) W1 hb1
  (fun s A B h hw=>⟨hWI s A B h.1 hw,h.2.step (hWb A B hw)⟩) (fun s A B ⟨c,h,hk⟩ hw=>⟨c,hWx c s A B h hw,hk.step (hWb A B hw)⟩) ?_ ⟨hI1,hbook⟩).mono ?_
 ·rintro pre x A ⟨hi,hbk⟩ hlen
  have hy:=run_yield (P:=P) (args:=encs x) hbk.1 (by rw [hmk];exact hps x);have hLA:L<A.heap.size:=(Array.getElem?_eq_some_iff.1 hbk.1).1;have hDA:D<A.heap.size:=(Array.getElem?_eq_some_iff.1 hbk.2).1;have hbk1:Book L D (mk .ready none) (A.alloc (ob x)):=⟨(Below.heap_alloc _ _ _ hLA).trans hbk.1,(Below.heap_alloc _ _ _ hDA).trans hbk.2⟩;have hi1:I pre (A.alloc (ob x)):=hI.alloc _ hi;refine ⟨fn,(ps.zip (encs x)).foldl (fun t (p,v)=>t.setIfInBounds p v) a.tmps,assign,body,by rw [hy];rw [hmk],roundIn_of_wpIn hfn (hassign L x A _ ⟨_,run_beginRound hbk1.1 (e1 _ _),?_⟩)⟩;rw [e4];have hbk2:Book L D (mk .busy none) ((A.alloc (ob x)).putObj L (.loop (mk .busy none))):=hbk1.put hne;have hi2:I pre ((A.alloc (ob x)).putObj L (.loop (mk .busy none))):=hI.putObj _ hi1 (by omega) hbk1.1 rfl;have hk2:Kp A ((A.alloc (ob x)).putObj L (.loop (mk .busy none))):=hKt (hKa _ _ (by omega)) (hKb _ _ _ (by omega));have hnew:((A.alloc (ob x)).putObj L (.loop (mk .busy none))).heap[A.heap.size]?=some (ob x):=(World.putObj_heap_other (by omega)).trans (World.alloc_heap_new A _);have hszB:A.heap.size<((A.alloc (ob x)).putObj L (.loop (mk .busy none))).heap.size:=by simp
  generalize (A.alloc (ob x)).putObj L (.loop (mk .busy none))=B at hbk2 hi2 hk2 hnew hszB;have fin:∀ (j:Option Code) (C:World),KeepsFrom D B C→(Instr.endRound L j).run P C=.ok (.bool j.isNone) (C.putObj L (.loop (mk (if j.isNone then .ready else .done) j)))∧C.heap[L]?=some (.loop (mk .busy none))∧Book L D (mk (if j.isNone then .ready else .done) j) (C.putObj L (.loop (mk (if j.isNone then .ready else .done) j))):=by
   intro j C hk;have hl:C.heap[L]?=some (.loop (mk .busy none)):=hk.same _ _ (by omega) hbk2.1 rfl;have hr:=run_endRound (P:=P) j hl;rw [e3] at hr;exact ⟨hr,hl,Book.put (r:=mk .busy none) ⟨hl,hk.same _ _ (Nat.le_refl _) hbk2.2 rfl⟩ hne⟩
  refine wpIn_mono (hbody L pre x A B hi2 hlen (by omega) hszB hnew) ?_
  have leave:∀ (c:Code) (C:World),KeepsFrom D B C∧Ix c (pre++[x]) C→∃ v C',(Instr.endRound L (some c)).run P C=.ok v C' ∧
   (((Ending.returned v=.returned (.bool true)∧(I (pre++[x]) C'∧Book L D (mk .ready none) C')∧Kp A C'))∨(Ending.returned v=.returned (.bool false)∧∃ c,Ix c (pre++[x]) C'∧Book L D (mk .done (some c)) C')):=by
   rintro c C ⟨hk,hx⟩;obtain ⟨hr,hl,hb⟩:=fin (some c) C hk;exact ⟨_,_,hr,.inr ⟨rfl,c,(hIx c).putObj _ hx (by omega) hl rfl,hb⟩⟩
  intro e a3 C hp
  cases e with
  | normal =>
    obtain ⟨hk,hkp,hi3⟩:=hp;obtain ⟨hr,hl,hb⟩:=fin none C hk;exact ⟨_,_,hr,.inl ⟨rfl,⟨hI.putObj _ hi3 (by omega) hl rfl,hb⟩,hKt (hKt hk2 hkp) (hKb _ _ _ (by omega))⟩⟩
  | ret=>exact leave .ret C hp
  | exit id=>exact leave (.exit id) C hp
  | goto t=>exact leave (.goto t) C hp
  | panic ch=>exact hp.elim
  | outgrown=>exact hp.elim
 ·rintro e C ⟨⟨v,rfl⟩,(⟨xs,hS,hi,hb⟩ | ⟨pre,hSp,c,hx,hb⟩)⟩
  ·have hr:=run_endLoop (P:=P) hb.1 (by rw [e1];simp)
   rw [e4,e2] at hr;exact ⟨none,_,hr,hdone D xs _ (Nat.le_refl _) hS (hI.putObj _ hi (by omega) hb.1 rfl) ((World.putObj_heap_other hne).trans hb.2)⟩
  ·have hr:=run_endLoop (P:=P) hb.1 (by rw [e1];simp)
   rw [e4,e2] at hr;exact ⟨some c,_,hr,hstop D c pre _ (Nat.le_refl _) hSp ((hIx c).putObj _ hx (by omega) hb.1 rfl) ((World.putObj_heap_other hne).trans hb.2)⟩
end
end Go.Proofs.YtabliahkhafddaaGreat
namespace Go.Proofs.YtabliahkhafddaaGreat
open Go.RowKit Go.Sort Go.Ev
attribute [local go_sem] Oper.semAt_some
structure Dl where
 name:ByteArray
 l:List Vl
 imp:Bool
def encD (d:Dl):List AV:=[.g (.string d.name),.sl d.l.length 5 (d.l.flatMap encV),.g (.bool d.imp)]
theorem encD_len (d:Dl):(encD d).length=3:=rfl
theorem dlB_cells {z:Nat} {w:World} {b o:Nat} {ds:List Dl} (h:∀ k (hk:k<ds.length) j a,(encD ds[k])[j]?=some a→∃ x,w.cell? ⟨b,o+(k*3+j),none⟩=some x∧AtB z w a x) {k:Nat} (hk:k<ds.length) :
 w.cell? ⟨b,o+k*3,none⟩=some (.string ds[k].name)∧(∃ ad cap,w.cell? ⟨b,o+k*3+1,none⟩=some (.slice ad ds[k].l.length cap)∧AtB z w (.sl ds[k].l.length 5 (ds[k].l.flatMap encV)) (.slice ad ds[k].l.length cap)) ∧
  w.cell? ⟨b,o+k*3+2,none⟩=some (.bool ds[k].imp):=by
 have h9:=h k hk;obtain ⟨x0,e0,v0⟩:=h9 0 _ rfl;obtain ⟨x1,e1,v1⟩:=h9 1 _ rfl;obtain ⟨x2,e2,v2⟩:=h9 2 _ rfl;obtain rfl:x0=_:=v0;obtain rfl:x2=_:=v2;have v1':=v1;obtain ⟨ad,cap,rfl,-⟩:=AtB.sl_form v1;simp only [Nat.add_zero,←Nat.add_assoc] at e0 e1 e2;exact ⟨e0,⟨ad,cap,e1,v1'⟩,e2⟩
theorem backward_any (v:Value) (hv:∃ a n c,v=.slice a n c) (w:World) :
 Calls Tryz.prog 253 #[v] w fun e w'=>e=.returned (.func (.func 304) #[] #[.pointer (some ⟨w.heap.size,0,none⟩)])∧w'=w.alloc (.cells #[v] 62):=by
 obtain ⟨a,n,c,rfl⟩:=hv
 go_enter Tryz.func253,Tryz.ntmps253
 go_wp2
 go_ret
 exact ⟨rfl,rfl⟩
def revI (n:Nat):List Nat:=(List.range n).reverse
theorem revI_take {n k:Nat} (hk:k<n):(revI n).take (k+1)=(revI n).take k++[n - 1 - k]:=by
 have hl:k<(revI n).length:=by simp [revI];exact hk
 rw [List.take_succ_eq_append_getElem hl]
 congr 2
 simp [revI,List.getElem_reverse]
theorem revI_all {n:Nat}:(revI n).take n=revI n:=List.take_of_length_le (by simp [revI])
def DeclAt (w:World) (b o k:Nat) (x:Value):Prop:=∃ s a m c i,x=.agg #[.string s,.slice a m c,.bool i]∧w.cell? ⟨b,o+k*3,none⟩=some (.string s)∧w.cell? ⟨b,o+k*3+1,none⟩=some (.slice a m c)∧w.cell? ⟨b,o+k*3+2,none⟩=some (.bool i)
theorem DeclAt.below {z:Nat} {w w':World} {b o k:Nat} {x:Value} (h:DeclAt w b o k x) (hb:Below z w w') (hz:b<z):DeclAt w' b o k x:=by
 obtain ⟨s,a,m,c,i,h1,h2,h3,h4⟩:=h;exact ⟨s,a,m,c,i,h1,(hb.cell (p:=⟨b,_,none⟩) hz).trans h2,(hb.cell (p:=⟨b,_,none⟩) hz).trans h3,(hb.cell (p:=⟨b,_,none⟩) hz).trans h4⟩
def KpB (z Bx:Nat) (A B:World):Prop:=Below z A B∧B.heap[Bx]?=A.heap[Bx]?
theorem KpB.trans {z Bx:Nat} {A B C:World} (h:KpB z Bx A B) (k:KpB z Bx B C):KpB z Bx A C:=⟨h.1.trans k.1,k.2.trans h.2⟩
set_option maxRecDepth 100000 in
set_option maxHeartbeats 2000000 in
theorem backward_iter (n:Nat) (hn:3≤n) (z Bx b o m cap:Nat) (ad:Option Addr) (ag:Nat→Value) (w:World) (hm:m≤1000000) (had:0<m→ad=some ⟨b,o,none⟩) (hbz:0<m→b<z)
 (hd:∀ k,k<m→DeclAt w b o k (ag k)) (hb:w.cell? ⟨Bx,0,none⟩=some (.slice ad m cap)) (hBx:Bx<w.heap.size) (hz:z≤w.heap.size) :
 IterTo Fence.wide n Tryz.prog 304 #[.pointer (some ⟨Bx,0,none⟩)] (fun k:Nat=>#[.int .i64 k,ag k]) (fun A B=>A=B) (KpB z Bx) (fun xs=>xs=revI m) (fun pre=>∃ k,k≤m∧pre=(revI m).take k) (fun pre x=>∃ k,k<m∧pre=(revI m).take k∧x=m - 1 - k) w:=by
 intro l J Jx W hW hJ hJx hY h0;have hW0:KpB z Bx w W:=⟨hW.mono hz,hW.block _ hBx⟩;have hBz:∀ A,KpB z Bx w A→A.cell? ⟨Bx,0,none⟩=some (.slice ad m cap):=fun A hA=>(World.cell?_of_block (w:=w) hA.2).trans hb;have hbW:=hBz W hW0;have HD:=Lib.hid fun A (hA:KpB z Bx w A) k (hk:k<m)=>(hd k hk).below hA.1 (hbz (by omega));have HBZ:=Lib.hid hBz;clear hd hBz;refine callsIn_of_wp Tryz.func304 rfl trivial ?_ rfl;simp only [Tryz.ntmps304,List.size_toArray,List.length_cons,List.length_nil,Nat.reduceAdd,Nat.reduceSub,Array.replicate_succ,Array.replicate_zero,List.push_toArray,List.append_toArray,List.nil_append,List.cons_append]
 gi_wp2
 gi_loopw [3] (fun i wr=>∃ k:Nat,k≤m∧i=.int .i64 ((m:Int) - 1 - k)∧J ((revI m).take k) wr∧KpB z Bx w wr) (fun i _=>((intOf i)+1).toNat)
 case atStart=>exact ⟨0,Nat.zero_le _,by go_num,h0,hW0⟩
 case round =>
  obtain ⟨k,hk,rfl,hj,hB⟩:=hrel
  by_cases hlt:k<m
  ·obtain rfl:=had (by omega)
   have hbx:=HBZ.out wr hB;obtain ⟨s,a,mm,c,i,hag,d0,d1,d2⟩:=HD.out wr hB (m - 1 - k) (by omega);have hy:=hY ((revI m).take k) (m - 1 - k) wr hj ⟨k,hlt,rfl,rfl⟩;rw [←revI_take hlt,hag] at hy;have e1:((m:Int) - 1 - k)=((m - 1 - k:Nat):Int):=by omega
   obtain ⟨q,hq⟩:∃ q,q=m - 1 - k:=⟨_,rfl⟩;rw [←hq] at e1 hy d0 d1 d2;rw [e1];have hqm:q<m:=by omega
   have hqe:(q:Int)=m - 1 - k:=by omega
   have HQ:=Lib.hid hqe;clear hq hqe e1;obtain ⟨fn,tmps,assign,body,hyy,hR⟩:=hy
   gi_wp2_with fail
   refine ⟨fun _=>by omega,hR.mono ?_⟩;rintro e B (⟨rfl,hJ2,hk2⟩ | ⟨rfl,hJ2⟩)
   ·gi_wp2
    go_roundw
    case rel=>exact ⟨k+1,by omega,by rw [HQ.out];go_num,hJ2,hB.trans hk2⟩
    case measure=>have:=HQ.out;simp [intOf]
   ·gi_wp2
    refine bodyPost_ret (results_none rfl _ _ _) rfl ?_;exact ⟨⟨_,rfl⟩,.inr ⟨_,⟨k+1,by omega,rfl⟩,hJ2⟩⟩
  ·obtain rfl:k=m:=by omega
   gi_wp2
   go_end0
   rw [revI_all] at hj;exact ⟨⟨_,rfl⟩,.inl ⟨_,rfl,hj⟩⟩
def ffB (s:ByteArray):Bool:=s.toList==[102,111,110,116,45,102,97,109,105,108,121]
def pickM:List Vl→ByteArray×Bool
 | [y]=>if y.kind=1∧(y.tk=1∨y.tk=6) then (y.text,true) else (⟨#[]⟩,false)
 | _=>(⟨#[]⟩,false)
def famR:List Dl→ByteArray×Bool
 | []=>(⟨#[]⟩,false)
 | d::r=>if ffB d.name=true then pickM (trimM d.l) else famR r
def famM (kind:Int) (ds:List Dl):ByteArray×Bool:=if kind=6 then famR ds.reverse else (⟨#[]⟩,false)
def Res2 (z:Nat) (W:World) (s:ByteArray) (b:Bool):Prop:=W.heap[z+1]?=some (.cells #[.string s] 9 (0,0))∧W.heap[z+2]?=some (.cells #[.bool b] 4 (0,0))
theorem Res2.below {z:Nat} {W W':World} {s:ByteArray} {b:Bool} (h:Res2 z W s b) (hb:Below W.heap.size W W'):Res2 z W' s b :=
 ⟨(hb.block _ (Array.getElem?_eq_some_iff.1 h.1).1).trans h.1,(hb.block _ (Array.getElem?_eq_some_iff.1 h.2).1).trans h.2⟩
theorem Res2.grown {z B:Nat} {W W':World} {s:ByteArray} {b:Bool} {row:Option Nat} (h:Res2 z W s b) (hg:W.grownBy W' row) (hr:∀ r,row=some r→B≤r) (hB:z+3≤B):Res2 z W' s b :=
 ⟨(hg.block _ (Array.getElem?_eq_some_iff.1 h.1).1 fun e=>by have:=hr _ e.symm;omega).trans h.1,(hg.block _ (Array.getElem?_eq_some_iff.1 h.2).1 fun e=>by have:=hr _ e.symm;omega).trans h.2⟩
theorem Res2.set {z:Nat} {W:World} {s:ByteArray} {b:Bool} (h:Res2 z W s b) (s':ByteArray) (b':Bool):Res2 z ((W.setCell ⟨z+1,0,none⟩ (.string s')).setCell ⟨z+2,0,none⟩ (.bool b')) s' b':=by
 refine ⟨?_,?_⟩
 ·rw [Q0q _ rfl (show z+1≠z+2 by omega)]
  have:=Q0u (o:=0) (.string s') h.1;simpa using this
 ·have h2:(W.setCell ⟨z+1,0,none⟩ (.string s')).heap[z+2]?=_:=Q0q _ rfl (show z+2≠z+1 by omega) |>.trans h.2
  have:=Q0u (o:=0) (.bool b') h2;simpa using this
theorem Res2.taken {z D:Nat} {W:World} {s:ByteArray} {b:Bool} (h:Res2 z W s b) (hD:z+3≤D) (o:Obj):Res2 z (W.putObj D o) s b :=
 ⟨(World.putObj_heap_other (by omega)).trans h.1,(World.putObj_heap_other (by omega)).trans h.2⟩
theorem Res2.cells {z:Nat} {W:World} {s:ByteArray} {b:Bool} (h:Res2 z W s b):W.cell? ⟨z+1,0,none⟩=some (.string s)∧W.cell? ⟨z+2,0,none⟩=some (.bool b)∧W.frozen? ⟨z+1,0,none⟩=false∧W.frozen? ⟨z+2,0,none⟩=false :=
 ⟨by rw [Lib.cell_of_heap h.1];rfl,by rw [Lib.cell_of_heap h.2];rfl,Lib.frozen_of_heap h.1 0,Lib.frozen_of_heap h.2 0⟩
def nmF (ds:List Dl) (k:Nat):ByteArray:=((ds[k]?).map (·.name)).getD ⟨#[]⟩
def imF (ds:List Dl) (k:Nat):Bool:=((ds[k]?).map (·.imp)).getD false
def agF (ds:List Dl) (sv:Nat→Value) (k:Nat):Value:=.agg #[.string (nmF ds k),sv k,.bool (imF ds k)]
theorem nmF_at {ds:List Dl} {k:Nat} (h:k<ds.length):nmF ds k=ds[k].name:=by simp [nmF,h]
theorem imF_at {ds:List Dl} {k:Nat} (h:k<ds.length):imF ds k=ds[k].imp:=by simp [imF,h]
theorem famR_drop {ds:List Dl} {k:Nat} (hk:k<ds.length):famR (ds.reverse.drop k)=if ffB ds[ds.length - 1 - k].name=true then pickM (trimM ds[ds.length - 1 - k].l) else famR (ds.reverse.drop (k+1)):=by
 have hl:k<ds.reverse.length:=by simp;exact hk
 rw [List.drop_eq_getElem_cons hl,famR,List.getElem_reverse]
theorem Q3v {n k:Nat} (hk:k≤n):((revI n).take k).length=k:=by rw [List.length_take,revI,List.length_reverse,List.length_range];omega
def FI (ds:List Dl) (z:Nat) (w:World) (pre:List Nat) (W:World):Prop :=
 ∃ k,k≤ds.length∧pre=(revI ds.length).take k∧Hid (famR ds.reverse=famR (ds.reverse.drop k))∧Res2 z W ⟨#[]⟩ false∧Below z w W∧z+4≤W.heap.size
def FX (ds:List Dl) (z:Nat) (w:World) (c:Code) (_:List Nat) (W:World):Prop:=c=.ret∧Res2 z W (famR ds.reverse).1 (famR ds.reverse).2∧Below z w W
theorem fam_leaf {ds:List Dl} {w W w7:World} {xs:List Nat} {s:ByteArray} {b:Bool} {B:Nat} (hR7:Res2 w.heap.size w7 ⟨#[]⟩ false) (hB7:Below W.heap.size W w7) (hC7:Below w.heap.size w w7) (h1:(famR ds.reverse).1=s) (h2:(famR ds.reverse).2=b) (_:w.heap.size<B) :
 KeepsFrom B W ((w7.setCell ⟨w.heap.size+1,0,none⟩ (.string s)).setCell ⟨w.heap.size+1+1,0,none⟩ (.bool b))∧FX ds w.heap.size w .ret xs ((w7.setCell ⟨w.heap.size+1,0,none⟩ (.string s)).setCell ⟨w.heap.size+1+1,0,none⟩ (.bool b)):=by
 have hk:KeepsFrom B W w7:=⟨hB7.size,fun k o _ hk _=>(hB7.block k (Array.getElem?_eq_some_iff.1 hk).1).trans hk⟩;refine ⟨(hk.trans ((KeepsOthers.setCell _ _ _).from _)).trans ((KeepsOthers.setCell _ _ _).from _),rfl,?_,?_⟩
 ·rw [h1,h2];exact hR7.set s b
 ·exact (hC7.setCell (p:=⟨w.heap.size+1,0,none⟩) (Nat.le_succ _) _).setCell (p:=⟨w.heap.size+1+1,0,none⟩) (by show w.heap.size≤w.heap.size+1+1;omega) _
set_option maxRecDepth 100000 in
set_option maxHeartbeats 4000000 in
theorem family_in (n:Nat) (hn:7≤n) (kind mn mx:Int) (a1 a3 a6 a7 ad:Option Addr) (n1 c1 n3 c3 n6 c6 n7 c7 cap:Nat) (ds:List Dl) (w:World)
 (hv:At w (.sl ds.length 3 (ds.flatMap encD)) (.slice ad ds.length cap)) (hl:ds.length≤1000000) (hll:∀ d∈ds,d.l.length≤1000000) :
 CallsIn Fence.wide n Tryz.prog 188 #[.agg #[.int .i64 kind,.slice a1 n1 c1,.slice ad ds.length cap,.slice a3 n3 c3,.int .i64 mn,.int .i64 mx,.slice a6 n6 c6,.slice a7 n7 c7]] w
  fun e w'=>e=.returned (.tuple #[.string (famM kind ds).1,.bool (famM kind ds).2])∧Below w.heap.size w w':=by
 have hB3:Below w.heap.size w (((w.alloc (.cells #[.int .i64 kind,.slice a1 n1 c1,.slice ad ds.length cap,.slice a3 n3 c3,.int .i64 mn,.int .i64 mx,.slice a6 n6 c6,.slice a7 n7 c7] 65)).alloc (.cells #[.string ⟨#[]⟩] 9)).alloc (.cells #[.bool false] 4)):=(((Below.refl _ w).alloc (Nat.le_refl _) _).alloc (by simp) _).alloc (by simp;omega) _;have hR3:Res2 w.heap.size (((w.alloc (.cells #[.int .i64 kind,.slice a1 n1 c1,.slice ad ds.length cap,.slice a3 n3 c3,.int .i64 mn,.int .i64 mx,.slice a6 n6 c6,.slice a7 n7 c7] 65)).alloc (.cells #[.string ⟨#[]⟩] 9)).alloc (.cells #[.bool false] 4)) ⟨#[]⟩ false:=by
  refine ⟨?_,?_⟩
  ·rw [Below.heap_alloc _ _ _ (by simp)]
   have:=World.alloc_heap_new (w.alloc (.cells #[.int .i64 kind,.slice a1 n1 c1,.slice ad ds.length cap,.slice a3 n3 c3,.int .i64 mn,.int .i64 mx,.slice a6 n6 c6,.slice a7 n7 c7] 65)) (.cells #[.string ⟨#[]⟩] 9);rw [World.size_alloc] at this;exact this
  ·have:=World.alloc_heap_new ((w.alloc (.cells #[.int .i64 kind,.slice a1 n1 c1,.slice ad ds.length cap,.slice a3 n3 c3,.int .i64 mn,.int .i64 mx,.slice a6 n6 c6,.slice a7 n7 c7] 65)).alloc (.cells #[.string ⟨#[]⟩] 9)) (.cells #[.bool false] 4)
   rw [World.size_alloc,World.size_alloc] at this;exact this
 have hs3:(((w.alloc (.cells #[.int .i64 kind,.slice a1 n1 c1,.slice ad ds.length cap,.slice a3 n3 c3,.int .i64 mn,.int .i64 mx,.slice a6 n6 c6,.slice a7 n7 c7] 65)).alloc (.cells #[.string ⟨#[]⟩] 9)).alloc (.cells #[.bool false] 4)).heap.size=w.heap.size+3:=by simp
 refine callsIn_of_wp_marks Tryz.func188 rfl trivial ?_ rfl;simp only [Tryz.ntmps188,List.size_toArray,List.length_cons,List.length_nil,Nat.reduceAdd,Nat.reduceSub,Array.replicate_succ,Array.replicate_zero,List.push_toArray,List.append_toArray,List.nil_append,List.cons_append]
 by_cases hk:kind=6
 ·subst hk
  obtain ⟨b,o,had,hbz,hc⟩:∃ b o,(0<ds.length→ad=some ⟨b,o,none⟩)∧(0<ds.length→b<w.heap.size)∧∀ k (hk:k<ds.length) j a,(encD ds[k])[j]?=some a→∃ x,w.cell? ⟨b,o+(k*3+j),none⟩=some x∧AtB w.heap.size w a x:=by
   rcases slB_cells encD 3 encD_len (by decide) (At.toB hv) with ⟨h0,-⟩ | ⟨b,o,cap',e,-,-,hbz,hc⟩
   ·exact ⟨0,0,fun h=>by rw [h0] at h;simp at h,fun h=>by rw [h0] at h;simp at h,fun k hk=>by rw [h0] at hk;simp at hk⟩
   ·cases e
    exact ⟨b,o,fun _=>rfl,fun _=>hbz,hc⟩
  obtain ⟨sv,hsvd⟩:∃ sv:Nat→Value,sv=fun k=>if k<ds.length then (w.cell? ⟨b,o+k*3+1,none⟩).getD (.slice none 0 0) else .slice none 0 0:=⟨_,rfl⟩
  have hsv1:∀ k (hk:k<ds.length),∃ a c,sv k=.slice a ds[k].l.length c∧AtB w.heap.size w (.sl ds[k].l.length 5 (ds[k].l.flatMap encV)) (.slice a ds[k].l.length c):=fun k hk=>by
   obtain ⟨-,⟨a,c,h1,h2⟩,-⟩:=dlB_cells hc hk;refine ⟨a,c,?_,h2⟩;rw [hsvd];simp only [hk,if_true,h1,Option.getD_some]
  have hsv:∀ k,∃ a m c,sv k=.slice a m c:=fun k=>by
   by_cases hk:k<ds.length
   ·obtain ⟨a,c,h,-⟩:=hsv1 k hk
    exact ⟨_,_,_,h⟩
   ·exact ⟨none,0,0,by rw [hsvd];simp only [hk,if_false]⟩
  have hdecl:∀ k,k<ds.length→DeclAt w b o k (agF ds sv k):=fun k hk=>by
   obtain ⟨h1,⟨a,c,h2,-⟩,h3⟩:=dlB_cells hc hk;refine ⟨_,a,ds[k].l.length,c,_,?_,h1,h2,h3⟩;rw [agF,nmF_at hk,imF_at hk,hsvd];simp only [hk,if_true,h2,Option.getD_some]
  clear hsvd hc;have HBW:=Lib.hid (backward_any (.slice ad ds.length cap) ⟨_,_,_,rfl⟩ (((w.alloc (.cells #[.int .i64 6,.slice a1 n1 c1,.slice ad ds.length cap,.slice a3 n3 c3,.int .i64 mn,.int .i64 mx,.slice a6 n6 c6,.slice a7 n7 c7] 65)).alloc (.cells #[.string ⟨#[]⟩] 9)).alloc (.cells #[.bool false] 4)));rw [hs3] at HBW;have HB3:=Lib.hid (And.intro hB3 hR3);have HLL:=Lib.hid hll;clear hB3 hR3 hv hll
  gi_wp2_with fail
  refine ⟨trivial,fun h=>(by cases h),((callsIn_wide (n:=_)).2 HBW.out).mono ?_⟩;rintro e w4 ⟨rfl,rfl⟩;clear HBW;have hs4:((((w.alloc (.cells #[.int .i64 6,.slice a1 n1 c1,.slice ad ds.length cap,.slice a3 n3 c3,.int .i64 mn,.int .i64 mx,.slice a6 n6 c6,.slice a7 n7 c7] 65)).alloc (.cells #[.string ⟨#[]⟩] 9)).alloc (.cells #[.bool false] 4)).alloc (.cells #[.slice ad ds.length cap] 62)).heap.size=w.heap.size+4:=by simp
  have hB4:Below w.heap.size w ((((w.alloc (.cells #[.int .i64 6,.slice a1 n1 c1,.slice ad ds.length cap,.slice a3 n3 c3,.int .i64 mn,.int .i64 mx,.slice a6 n6 c6,.slice a7 n7 c7] 65)).alloc (.cells #[.string ⟨#[]⟩] 9)).alloc (.cells #[.bool false] 4)).alloc (.cells #[.slice ad ds.length cap] 62)):=HB3.out.1.alloc HB3.out.1.size _;have hR4:Res2 w.heap.size ((((w.alloc (.cells #[.int .i64 6,.slice a1 n1 c1,.slice ad ds.length cap,.slice a3 n3 c3,.int .i64 mn,.int .i64 mx,.slice a6 n6 c6,.slice a7 n7 c7] 65)).alloc (.cells #[.string ⟨#[]⟩] 9)).alloc (.cells #[.bool false] 4)).alloc (.cells #[.slice ad ds.length cap] 62)) ⟨#[]⟩ false:=HB3.out.2.below (Q0h _ _);have hbx4:((((w.alloc (.cells #[.int .i64 6,.slice a1 n1 c1,.slice ad ds.length cap,.slice a3 n3 c3,.int .i64 mn,.int .i64 mx,.slice a6 n6 c6,.slice a7 n7 c7] 65)).alloc (.cells #[.string ⟨#[]⟩] 9)).alloc (.cells #[.bool false] 4)).alloc (.cells #[.slice ad ds.length cap] 62)).cell? ⟨w.heap.size+3,0,none⟩=some (.slice ad ds.length cap):=by
   have:=World.alloc_heap_new (((w.alloc (.cells #[.int .i64 6,.slice a1 n1 c1,.slice ad ds.length cap,.slice a3 n3 c3,.int .i64 mn,.int .i64 mx,.slice a6 n6 c6,.slice a7 n7 c7] 65)).alloc (.cells #[.string ⟨#[]⟩] 9)).alloc (.cells #[.bool false] 4)) (.cells #[.slice ad ds.length cap] 62);rw [hs3] at this;rw [Lib.cell_of_heap this];rfl
  have HSEQ:=Lib.hid (backward_iter (n - 1) (by omega) w.heap.size (w.heap.size+3) b o ds.length cap ad (agF ds sv) ((((w.alloc (.cells #[.int .i64 6,.slice a1 n1 c1,.slice ad ds.length cap,.slice a3 n3 c3,.int .i64 mn,.int .i64 mx,.slice a6 n6 c6,.slice a7 n7 c7] 65)).alloc (.cells #[.string ⟨#[]⟩] 9)).alloc (.cells #[.bool false] 4)).alloc (.cells #[.slice ad ds.length cap] 62)) hl had hbz (fun k hk=>(hdecl k hk).below hB4 (hbz (by omega))) hbx4 (by omega) (by omega));have hst:FI ds w.heap.size w [] ((((w.alloc (.cells #[.int .i64 6,.slice a1 n1 c1,.slice ad ds.length cap,.slice a3 n3 c3,.int .i64 mn,.int .i64 mx,.slice a6 n6 c6,.slice a7 n7 c7] 65)).alloc (.cells #[.string ⟨#[]⟩] 9)).alloc (.cells #[.bool false] 4)).alloc (.cells #[.slice ad ds.length cap] 62)):=⟨0,Nat.zero_le _,rfl,Lib.hid (by rw [List.drop_zero]),hR4,hB4,by omega⟩;have HST:=Lib.hid hst;have HSV:=Lib.hid hsv1;clear hbx4 hst hB4 hR4 HB3 hdecl hsv1
  gi_wp2
  refine range_over_al (α:=Nat) rfl (fun _=>trivial) (by omega) (gf:=304) (lb:=#[.pointer (some ⟨w.heap.size+3,0,none⟩)]) rfl (enters_of Tryz.func304 (by kernel_rfl) rfl) (encs:=fun k:Nat=>#[.int .i64 k,agF ds sv k]) (fun _=>rfl)
   (fun A B=>A=B) (KpB w.heap.size (w.heap.size+3)) (S:=fun xs=>xs=revI ds.length) (Sp:=fun pre=>∃ k,k≤ds.length∧pre=(revI ds.length).take k) (G:=fun pre x=>∃ k,k<ds.length∧pre=(revI ds.length).take k∧x=ds.length - 1 - k)
   (FI ds w.heap.size w) (FX ds w.heap.size w) ?own ?ownx HST.out ?wi ?wx ?wb ?kt ?kb ?ka (fun k=>.cells #[.string (nmF ds k),sv k,.bool (imF ds k)] 75) HSEQ.out
   (fun k A=>{ tmps:=#[.agg #[.int .i64 6,.slice a1 n1 c1,.slice ad ds.length cap,.slice a3 n3 c3,.int .i64 mn,.int .i64 mx,.slice a6 n6 c6,.slice a7 n7 c7],.pointer (some ⟨w.heap.size,0,none⟩),.pointer (some ⟨w.heap.size+1,0,none⟩),.pointer (some ⟨w.heap.size+1+1,0,none⟩),undef,.pointer (some ⟨A.heap.size,0,none⟩),undef,.pointer (some ⟨w.heap.size,0,none⟩),.int .i64 6,.bool false,.pointer (some ⟨w.heap.size,2,none⟩),.slice ad ds.length cap,.func (.func 304) #[] #[.pointer (some ⟨w.heap.size+3,0,none⟩)],.int .i64 k,agF ds sv k,undef,undef,undef,undef,undef,undef,undef,undef,undef,undef,undef,undef,undef,undef,undef,undef,undef,undef,undef,undef,undef,undef,undef,undef,undef,undef,undef,undef,undef,undef,undef,undef,undef,undef,undef,undef,undef],defers:=[] }) ?assign ?body ?done ?stop
  case own =>
   rintro s W W' row ⟨k,h1,h2,h3,h4,h5,h6⟩ hg hr;rw [hs4] at hr;exact ⟨k,h1,h2,h3,h4.grown hg (fun r e=>(hr r e).1) (by omega),h5.grown hg h5.size (fun r e=>by have:=(hr r e).1;omega),Nat.le_trans h6 hg.size⟩
  case ownx =>
   rintro c s W W' row ⟨h2,h4,h5⟩ hg hr;rw [hs4] at hr;exact ⟨h2,h4.grown hg (fun r e=>(hr r e).1) (by omega),h5.grown hg h5.size (fun r e=>by have:=(hr r e).1;omega)⟩
  case wi=>rintro s A B h rfl;exact h
  case wx=>rintro c s A B h rfl;exact h
  case wb=>rintro A B rfl k o h _;exact h
  case kt=>exact fun h k=>h.trans k
  case kb =>
   intro W l o hlz;rw [hs4] at hlz;exact ⟨⟨rfl,rfl,rfl,by simp,fun k hk=>World.putObj_heap_other (by omega)⟩,World.putObj_heap_other (by omega)⟩
  case ka =>
   intro W o hlz;rw [hs4] at hlz;exact ⟨(Below.refl _ W).alloc (by omega) _,Below.heap_alloc _ _ _ (by omega)⟩
  case assign =>
   intro l k A K hK;obtain ⟨sa,sn,sc,hsk⟩:=hsv k;rw [hsk] at hK;simp only [agF,hsk] at hK ⊢
   gi_wp2
   exact hK
  case body =>
   rintro l pre x A W ⟨kk,hkk,rfl,hfr,hR,hB,hsz⟩ ⟨k,hkl,hpk,rfl⟩ hA1 hA2 hX;obtain rfl:kk=k:=by
    have:=congrArg List.length hpk
    rwa [Q3v hkk,Q3v (by omega)] at this
   rw [hs4] at hA1;have hq:ds.length - 1 - kk<ds.length:=by omega
   have hfd:=famR_drop hkl;rw [←hfr.out] at hfd;obtain ⟨sa,sc,hsk,hat⟩:=HSV.out _ hq;have hll2:=HLL.out _ (List.getElem_mem hq);rw [nmF_at hq,imF_at hq,hsk] at hX;have hst:(revI ds.length).take kk++[ds.length - 1 - kk]=(revI ds.length).take (kk+1):=(revI_take hkl).symm;have ha:VlS w.heap.size W (.slice sa ds[ds.length - 1 - kk].l.length sc) ds[ds.length - 1 - kk].l:=VlS.of (hat.below hB) (by omega);have ht:=Q1o w.heap.size _ _ W (by omega) ha hll2;simp only [agF,nmF_at hq,imF_at hq,hsk];have d0:W.cell? ⟨A.heap.size,0,none⟩=some (.string ds[ds.length - 1 - kk].name):=by rw [Lib.cell_of_heap hX];rfl
   have d1:W.cell? ⟨A.heap.size,1,none⟩=some (.slice sa ds[ds.length - 1 - kk].l.length sc):=by rw [Lib.cell_of_heap hX];rfl
   have HT:=Lib.hid ht;have HST2:=Lib.hid hst;clear hat ha ht hst hX HSV HLL HSEQ HST hpk;have hffb:ffB ds[ds.length - 1 - kk].name=(ds[ds.length - 1 - kk].name.toList==[102,111,110,116,45,102,97,109,105,108,121]):=rfl;generalize ds[ds.length - 1 - kk].name=nm at *;generalize ds[ds.length - 1 - kk].l=dl at *;generalize ds[ds.length - 1 - kk].imp=im at *
   cases hff:ffB nm
   ·have hb:(nm.toList==[102,111,110,116,45,102,97,109,105,108,121])=false:=by rw [←hffb,hff]
    rw [hff,if_neg (by simp)] at hfd;have HFD:=Lib.hid hfd;clear hfd hfr
    gi_wp2
    exact ⟨KeepsFrom.refl _ _,⟨Below.refl _ _,rfl⟩,kk+1,by omega,HST2.out,HFD,hR,hB,hsz⟩
   ·have hb : (nm.toList==[102,111,110,116,45,102,97,109,105,108,121])=true:=by rw [←hffb,hff]
    rw [hff,if_pos rfl] at hfd;have HFIN:=Lib.hid hfd;clear hfd hfr
    gi_wp2_with fail
    refine ⟨trivial,fun h=>(by cases h),(((callsIn_wide (n:=_)).2 HT.out).inRound l).mono ?_⟩;rintro e w7 ⟨v7,rfl,hn7,hB7⟩;have hR7:=hR.below hB7;have hC7:Below w.heap.size w w7:=hB.trans (hB7.mono (by omega));obtain ⟨r0,r1,q0,q1⟩:=hR7.cells;clear HT d0 d1 hb hff hffb;generalize trimM dl=l1 at *
    cases l1 with
    | nil =>
      obtain ⟨a9,c9,rfl⟩:=hn7.form
      gi_wp2
      exact fam_leaf hR7 hB7 hC7 (by rw [HFIN.out];simp [pickM]) (by rw [HFIN.out];simp [pickM]) (by simp;omega)
    | cons y r =>
      cases r with
      | cons y2 r2 =>
        obtain ⟨a9,c9,rfl⟩:=hn7.form
        gi_wp2
        exact fam_leaf hR7 hB7 hC7 (by rw [HFIN.out];simp [pickM]) (by rw [HFIN.out];simp [pickM]) (by simp;omega)
      | nil =>
        have hs7:=hn7.vls;rcases hs7.form with ⟨h0,-⟩ | ⟨-,b7,o7,c9,rfl,-,-⟩
        ·cases h0
        ·obtain ⟨y0,y1,y2,-,-⟩:=hs7.cells (k:=0) (by simp)
         simp only [List.getElem_cons_zero,Nat.zero_mul,Nat.add_zero] at y0 y1 y2;have hpk2:pickM [y]=if y.kind=1∧(y.tk=1∨y.tk=6) then (y.text,true) else (⟨#[]⟩,false):=rfl
         rw [hpk2] at HFIN;clear hs7 hn7 hpk2;generalize y.kind=kd at *;generalize y.tk=tk at *;generalize y.text=tx at *
         by_cases hkd:kd=1
         ·subst hkd
          by_cases ht1:tk=1
          ·subst ht1
           gi_wp2
           exact fam_leaf hR7 hB7 hC7 (by rw [HFIN.out];simp) (by rw [HFIN.out];simp) (by simp;omega)
          ·by_cases ht6:tk=6
           ·subst ht6
            gi_wp2
            exact fam_leaf hR7 hB7 hC7 (by rw [HFIN.out];simp) (by rw [HFIN.out];simp) (by simp;omega)
           ·have hno:¬((1:Int)=1∧(tk=1∨tk=6)):=fun h=>h.2.elim ht1 ht6
            rw [if_neg hno] at HFIN;clear hno;have hb1:(tk != 1)=true:=by simpa using ht1
            have hb6:(tk != 6)=true:=by simpa using ht6
            gi_wp2
            exact fam_leaf hR7 hB7 hC7 (by rw [HFIN.out]) (by rw [HFIN.out]) (by simp;omega)
         ·rw [if_neg (fun h=>hkd h.1)] at HFIN
          gi_wp2
          exact fam_leaf hR7 hB7 hC7 (by rw [HFIN.out]) (by rw [HFIN.out]) (by simp;omega)
  case done =>
   rintro D xs W hD rfl ⟨k,h1,h2,h3,h4,h5,h6⟩ hdef;rw [hs4] at hD;have hk9:k=ds.length:=by
    have:=congrArg List.length h2;rw [Q3v h1] at this;simpa [revI] using this.symm
   have hf9:famM 6 ds=(⟨#[]⟩,false):=by
    rw [famM,if_pos rfl,h3.out,hk9,List.drop_of_length_le (by simp)];rfl
   obtain ⟨r0,r1,q0,q1⟩:=h4.cells;have HF9:=Lib.hid hf9;have H45:=Lib.hid (And.intro h4 h5);clear hf9 h3 h4 h5 HSEQ HST HSV HLL
   gi_wp2
   have hdef2:((W.setCell ⟨w.heap.size+1,0,none⟩ (.string ⟨#[]⟩)).setCell ⟨w.heap.size+1+1,0,none⟩ (.bool false)).heap[D]?=some (.deferred (some [])):=by
    rw [Q0q _ rfl (show D≠w.heap.size+1+1 by omega),Q0q _ rfl (show D≠w.heap.size+1 by omega)];exact hdef
   refine ⟨by simp,.inl ⟨_,_,rfl,run_takeDeferred hdef2,?_⟩⟩;obtain ⟨t0,t1,-,-⟩:=((H45.out.1.set ⟨#[]⟩ false).taken (D:=D) (by omega) (.deferred none)).cells;have hB9:=(H45.out.2.setCell (p:=⟨w.heap.size+1,0,none⟩) (Nat.le_succ _) (.string ⟨#[]⟩)).setCell (p:=⟨w.heap.size+1+1,0,none⟩) (by show w.heap.size≤w.heap.size+1+1;omega) (.bool false);refine ⟨.tuple #[.string ⟨#[]⟩,.bool false],by simp [results,Tryz.results188,go_sem,t0,t1],by rw [HF9.out],?_⟩;exact hB9.grown (grownBy_putObj' _ D _) hB9.size fun k e=>by cases e;omega
  case stop =>
   rintro D c pre W hD hpre ⟨rfl,h4,h5⟩ hdef;rw [hs4] at hD;clear HSEQ HST HSV HLL
   gi_wp2
   refine ⟨by simp,.inl ⟨_,_,rfl,run_takeDeferred hdef,?_⟩⟩;obtain ⟨t0,t1,-,-⟩:=(h4.taken (D:=D) (by omega) (.deferred none)).cells;have hf9:famM 6 ds=famR ds.reverse:=by rw [famM,if_pos rfl]
   rw [hf9];refine ⟨.tuple #[.string (famR ds.reverse).1,.bool (famR ds.reverse).2],by simp [results,Tryz.results188,go_sem,t0,t1],rfl,?_⟩;exact h5.grown (grownBy_putObj' _ D _) h5.size fun k e=>by cases e;omega
 ·have hf:famM kind ds=(⟨#[]⟩,false):=by rw [famM,if_neg hk]
  rw [hf];clear hv hll hf
  gi_wp2
  obtain ⟨r0,r1,-,-⟩:=hR3.cells;refine ⟨.tuple #[.string ⟨#[]⟩,.bool false],?_,rfl,hB3⟩;simp [results,Tryz.results188,go_sem,r0,r1]
end Go.Proofs.YtabliahkhafddaaGreat
namespace Go.Proofs.YtabliahkhafddaaGreat
open Go.RowKit Go.Ev
end Go.Proofs.YtabliahkhafddaaGreat
namespace Go.Proofs.YtabliahkhafddaaGreat
open Go.RowKit
def risesB (ss:List Str):Prop:=ss.Pairwise fun a b=>a<b
theorem str_total (a b:Str):a≤b∨b≤a:=List.le_total a b
theorem str_trans {a b c:Str} (h:a≤b) (k:b≤c):a≤c:=List.le_trans h k
theorem str_lt {a b:Str} (h:a≤b) (hne:a≠b):a<b:=Decidable.byContradiction fun hn=>hne (List.le_antisymm h (List.not_lt.1 hn))
theorem sortM_sorted (ss:List Str):(sortM ss).Pairwise (·≤·):=by
 have h:=List.pairwise_mergeSort (le:=fun (x y:Str)=>decide (x≤y)) (by intro a b c h k;simp at *;exact str_trans h k) (by intro a b;simpa using str_total a b) ss;exact h.imp fun h=>of_decide_eq_true h
theorem keeps_iff {zs:List Str} {j:Nat} (hj:j<zs.length):Lib.keeps zs.toArray j=true↔∀ h:0<j,zs[j]≠zs[j - 1]:=by
 by_cases h0:0<j
 ·have e1:zs.toArray[j]! = zs[j]:=by simp [hj]
  have e2:zs.toArray[j - 1]! = zs[j - 1]:=by simp [show j - 1<zs.length by omega]
  by_cases e:zs[j]=zs[j - 1]
  ·rw [Lib.keeps_neg h0 (by rw [e1,e2,e])]
   simp [h0,e]
  ·rw [Lib.keeps_pos (by rw [e1,e2];exact e)]
   simp [e]
 ·rw [Lib.keeps_lt_one _ j (by omega)]
  simp [show ¬0<j by omega]
theorem compact_map (zs:List Str):Lib.compact zs=((List.range zs.length).filter (Lib.keeps zs.toArray)).map fun j=>zs.toArray[j]! := by
 unfold Lib.compact Lib.compactUpTo;simp
theorem mem_compact (zs:List Str) (x:Str):x∈Lib.compact zs↔x∈zs:=by
 rw [compact_map]
 constructor
 ·intro h
  obtain ⟨j,hj,rfl⟩:=List.mem_map.1 h;have hj2:=List.mem_range.1 (List.mem_filter.1 hj).1;simp [hj2]
 ·intro h
  obtain ⟨n,hn,rfl⟩:=List.getElem_of_mem h;have key:∀ n (hn:n<zs.length),∃ j,∃ hj:j<zs.length,Lib.keeps zs.toArray j=true∧zs[j]=zs[n]:=by
   intro n
   induction n with
   | zero=>exact fun hn=>⟨0,hn,(keeps_iff hn).2 fun h=>absurd h (by omega),rfl⟩
   | succ n ih =>
     intro hn
     by_cases e:zs[n+1]=zs[n]
     ·obtain ⟨j,hj,h1,h2⟩:=ih (by omega)
      exact ⟨j,hj,h1,by rw [h2,e]⟩
     ·exact ⟨n+1,hn,(keeps_iff hn).2 fun _=>e,rfl⟩
  obtain ⟨j,hj,h1,h2⟩:=key n hn;refine List.mem_map.2 ⟨j,List.mem_filter.2 ⟨List.mem_range.2 hj,h1⟩,?_⟩;rw [←h2];simp [hj]
theorem compact_rises {zs:List Str} (h:zs.Pairwise (·≤·)):risesB (Lib.compact zs):=by
 rw [compact_map];refine List.pairwise_map.2 (List.Pairwise.imp_of_mem (R:=fun a b=>a<b) ?_ ((List.pairwise_lt_range).filter _));intro i j hi hj hij;have hj1:=List.mem_filter.1 hj;have hi2:=List.mem_range.1 (List.mem_filter.1 hi).1;have hj2:=List.mem_range.1 hj1.1;have hk:=(keeps_iff hj2).1 hj1.2 (by omega);have e1:zs.toArray[i]! = zs[i]:=by simp [hi2]
 have e2:zs.toArray[j]! = zs[j]:=by simp [hj2]
 rw [e1,e2];have h1:zs[i]≤zs[j - 1]:=by
  by_cases e:i=j - 1
  ·subst e;exact List.le_refl _
  ·exact List.pairwise_iff_getElem.1 h i (j - 1) hi2 (by omega) (by omega)
 have h2:zs[j - 1]≤zs[j]:=List.pairwise_iff_getElem.1 h (j - 1) j (by omega) hj2 (by omega);have h3:zs[j - 1]<zs[j]:=str_lt h2 fun e=>hk e.symm;exact List.lt_of_le_of_lt h1 h3
theorem mem_sortM (ss:List Str) (x:Str):x∈sortM ss↔x∈ss:=(List.mergeSort_perm ss _).mem_iff
theorem mem_ofM (κ:Int) (vs:List Vl) (x:Str):x∈ofM κ vs↔x∈(txVs κ vs).map sOf:=by rw [ofM,mem_compact,mem_sortM]
theorem ofM_rises (κ:Int) (vs:List Vl):risesB (ofM κ vs):=compact_rises (sortM_sorted _)
end Go.Proofs.YtabliahkhafddaaGreat
namespace Go.Proofs.YtabliahkhafddaaGreat
open Go.RowKit Go.Ev Go.Sort
def Rfn (a b:AV):Prop:=∀ (w:World) (G:Gh) (v:Value),VR w G a v→VR w G b v
def Rfns:List AV→List AV→Prop
 | [],[]=>True
 | a::la,b::lb=>Rfn a b∧Rfns la lb
 | _,_=>False
theorem Rfn.refl (a:AV):Rfn a a:=fun _ _ _ h=>h
theorem Rfns.row:∀ {la lb:List AV} {w:World} {G:Gh} {rb o:Nat},Rfns la lb→RowR w G rb o la→RowR w G rb o lb
 | [],[],_,_,_,_,_,h=>h
 | [],_::_,_,_,_,_,h,_=>h.elim
 | _::_,[],_,_,_,_,h,_=>h.elim
 | _::_,_::_,_,_,_,_,h,⟨h1,⟨v,h2,h3⟩,h4⟩=>⟨h1,⟨v,h2,h.1 _ _ _ h3⟩,Rfns.row h.2 h4⟩
mutual
def decVs:Nat→List AV→Option (List Vl)
 | 0,_=>none
 | _+1,[]=>some []
 | n+1,.g (.int .i64 k)::.g (.int .i64 t)::.g (.string s)::.g (.int .i64 m)::lv::rest=>match decL n lv,decVs n rest with
   | some l,some r=>some (.mk k t s m l::r)
   | _,_=>none
 | _+1,_=>none
def decL:Nat→AV→Option (List Vl)
 | 0,_=>none
 | n+1,.sl k 5 cs=>match decVs n cs with
   | some l=>if l.length=k then some l else none
   | none=>none
 | _+1,.z0=>some []
 | _+1,.g (.slice none 0 0)=>some []
 | _+1,_=>none
end
theorem rfn_sl {k sz:Nat} {cs ds:List AV} (h:Rfns cs ds):Rfn (.sl k sz cs) (.sl k sz ds):=fun _ _ _ ⟨a,cap,h1,h2,h3⟩=>⟨a,cap,h1,h2,h3.imp id fun ⟨rb,ro,h4,h5⟩=>⟨rb,ro,h4,h.row h5⟩⟩
theorem rfn_z0 (sz:Nat):Rfn .z0 (.sl 0 sz []):=fun _ _ _ ⟨a,h⟩=>⟨a,0,h,Nat.le_refl _,.inl rfl⟩
theorem rfn_nil (sz:Nat):Rfn (.g (.slice none 0 0)) (.sl 0 sz []):=fun _ _ _ h=>⟨none,0,h,Nat.le_refl _,.inl rfl⟩
theorem dec_spec:∀ n:Nat,(∀ (cs:List AV) (l:List Vl),decVs n cs=some l→Rfns cs (l.flatMap encV))∧(∀ (a:AV) (l:List Vl),decL n a=some l→Rfn a (.sl l.length 5 (l.flatMap encV)))
 | 0=>⟨fun cs l h=>by simp [decVs] at h,fun a l h=>by simp [decL] at h⟩
 | n + 1=>by
   obtain ⟨ih1,ih2⟩:=dec_spec n;refine ⟨fun cs l h=>?_,fun a l h=>?_⟩
   ·unfold decVs at h
    split at h
    ·cases h
    ·cases h
     rw [List.flatMap_nil,Rfns]
     trivial
    ·rename_i n0 k t s m lv rest he
     obtain rfl:n0=n:=by omega
     split at h
     ·rename_i l' r h1 h2
      cases h
      rw [List.flatMap_cons,encV,encVs_flat];exact ⟨.refl _,.refl _,.refl _,.refl _,ih2 _ _ h1,ih1 _ _ h2⟩
     ·cases h
    ·cases h
   ·unfold decL at h
    split at h
    ·cases h
    ·rename_i n0 k cs he
     obtain rfl:n0=n:=by omega
     split at h
     ·rename_i l' h1
      split at h
      ·rename_i hl
       cases h
       subst hl;exact rfn_sl (ih1 _ _ h1)
      ·cases h
     ·cases h
    ·cases h;exact rfn_z0 5
    ·cases h;exact rfn_nil 5
    ·cases h
def strsAV (ss:List Str):AV:=.sl ss.length 1 (ss.map fun s=>.g (.string (bs s)))
theorem new_owns {z e n:Nat} {w:World} {v:Value} {ss:List Str} (h:w.ownsRow z e 1 v n (ss.map encStr)):New z w (strsAV ss) v:=by
 have hn:ss.length=n:=by have:=h.1;simpa using this
 subst hn;rcases h.2 with ⟨rfl,h0⟩ | ⟨g,cap,cur,rfl,hg,hb,hc,-,-,ht⟩
 ·exact ⟨none,0,by rw [h0],by omega,.inl h0⟩
 ·refine ⟨_,cap,rfl,hc,.inr ⟨g,0,rfl,RowR.mk (show z≤g∧g<w.heap.size from ⟨hg,(Array.getElem?_eq_some_iff.1 hb).1⟩) fun i a hi=>?_⟩⟩
  rw [List.getElem?_map] at hi;obtain ⟨s,h1,rfl⟩:=Option.map_eq_some_iff.1 hi;refine ⟨.string (bs s),?_,rfl⟩;have hlt:i<ss.length:=(List.getElem?_eq_some_iff.1 h1).1;have h2:(cur.toList.take (ss.length*1))[i]?=(ss.map encStr)[i]?:=by rw [ht]
  rw [List.getElem?_take_of_lt (by omega),List.getElem?_map,h1] at h2;rw [Nat.zero_add,Lib.cell_of_heap hb];have h3:cur[i]?=some (encStr s):=by simpa using h2
  exact h3
end Go.Proofs.YtabliahkhafddaaGreat
end
