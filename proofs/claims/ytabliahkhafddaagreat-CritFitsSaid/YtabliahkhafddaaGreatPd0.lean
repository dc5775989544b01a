/- subst.small, isVar, decls.Custom, split.blank. -/
import Derived.Test.YtabliahkhafddaaGreatPc9
import Derived.Laws.OwnMore
import Derived.Sort.OwnSorted
import Derived.Laws.IdiomStrings
import Derived.Lib.SliceRun
set_option linter.unusedSimpArgs false
noncomputable section
namespace Go.Proofs.YtabliahkhafddaaGreat
open Go.RowKit Go.Ev
attribute [local go_sem] Oper.semAt_some
mutual
def txV (κ:Int):Vl→List ByteArray
 | .mk k t s _ l=>(if k=1∧t=κ then [s] else [])++(if 2≤k∧k≤5 then txVs κ l else [])
def txVs (κ:Int):List Vl→List ByteArray
 | []=>[]
 | x::xs=>txV κ x++txVs κ xs
end
theorem txV_eq (κ:Int) (x:Vl):txV κ x=(if x.kind=1∧x.tk=κ then [x.text] else [])++(if 2≤x.kind∧x.kind≤5 then txVs κ x.l else []):=by cases x;rw [txV];rfl
theorem txVs_append (κ:Int):∀ (a b:List Vl),txVs κ (a++b)=txVs κ a++txVs κ b
 | [],b=>by simp [txVs]
 | x::a,b=>by simp only [List.cons_append,txVs,txVs_append κ a b,List.append_assoc]
theorem txVs_snoc (κ:Int) {l:List Vl} {k:Nat} (hk:k<l.length):txVs κ (l.take (k+1))=txVs κ (l.take k)++txV κ l[k]:=by
 rw [List.take_succ_eq_append_getElem hk,txVs_append];simp only [txVs,List.append_nil]
theorem cntVs_at {l:List Vl} {k:Nat} (hk:k<l.length):cntVs l[k].l<cntVs l:=by
 have h:=cntVs_snoc hk;have h2:=cntVs_append (l.take (k+1)) (l.drop (k+1));rw [List.take_append_drop] at h2;omega
theorem txVs_le (κ:Int) {l:List Vl} (k:Nat):(txVs κ (l.take k)).length≤(txVs κ l).length:=by
 have h:=txVs_append κ (l.take k) (l.drop k);rw [List.take_append_drop] at h;rw [h,List.length_append];omega
set_option maxHeartbeats 4000000 in
theorem texts_in (l z m0 Nb:Nat) (κ:Int) (Ow:World→Nat→Prop) (J:List ByteArray→World→Prop) (hJ:∀ s A B,J s A→Below A.heap.size A B→J s B) (hO:∀ A B k,m0≤A.heap.size→Below A.heap.size A B→Ow B k→Ow A k) (hzm:z≤m0)
 (hY:∀ m pre x A,J pre A→pre.length<Nb→m0≤A.heap.size→YieldAt Fence.wide m Tryz.prog l #[.string x] A fun e B=>e=.returned (.bool true)∧J (pre++[x]) B∧KO Ow z A B) (N:Nat) :
 ∀ (vs:List Vl),SizeOf.sizeOf vs≤N→cntVs vs≤1000000→∀ (n:Nat) (v:Value) (pre:List ByteArray) (W:World),pre.length+(txVs κ vs).length≤Nb→m0≤W.heap.size→AtB z W (.sl vs.length 5 (vs.flatMap encV)) v→J pre W→(∀ k,Ow W k→k<W.heap.size) →
   CallsIn Fence.wide n Tryz.prog 300 #[v,.int .i64 κ,.func (.yield l) #[] #[]] W fun e B=>e=.returned (.bool true)∧J (pre++txVs κ vs) B∧KO Ow z W B:=by
 induction N with
 | zero=>intro vs hl;cases vs <;> simp at hl <;> omega
 | succ N ih =>
   intro vs hl hcn n v pre W hNb hm hv hj hOW;have hlen:=cntVs_len vs;rcases slB_cells encV 5 Q4f (by decide) hv with ⟨rfl,ad,cap,rfl⟩ | ⟨b,o,cap,rfl,hcap,hpos,hbz,hc⟩
   ·refine callsIn_of_wp Tryz.func300 rfl trivial ?_ rfl
    simp only [Tryz.ntmps300,List.size_toArray,List.length_cons,List.length_nil,Nat.reduceAdd,Nat.reduceSub,Array.replicate_succ,Array.replicate_zero,List.push_toArray,List.append_toArray,List.nil_append,List.cons_append]
    gi_wp2
    gi_loopw [11] (fun i wr=>i=.int .i64 0∧J pre wr∧KO Ow z W wr) (fun _ _=>0)
    case atStart=>exact ⟨rfl,hj,KO.refl hOW⟩
    case round =>
     obtain ⟨rfl,hj2,hB⟩:=hrel
     gi_wp2
     go_ret
     exact ⟨rfl,by simpa [txVs] using hj2,hB⟩
   ·have IH:=Lib.hid fun k (hk:k<vs.length)=>ih vs[k].l (by have:=vl_lt (List.getElem_mem hk);omega) (by have:=cntVs_at hk;omega)
    have HC:=Lib.hid fun k (hk:k<vs.length)=>vlB_cells hc hk;have HS:=Lib.hid fun k (hk:k<vs.length)=>txVs_snoc κ hk;clear ih hc hl hv;refine callsIn_of_wp Tryz.func300 rfl trivial ?_ rfl;simp only [Tryz.ntmps300,List.size_toArray,List.length_cons,List.length_nil,Nat.reduceAdd,Nat.reduceSub,Array.replicate_succ,Array.replicate_zero,List.push_toArray,List.append_toArray,List.nil_append,List.cons_append]
    gi_wp2
    gi_loopw [11] (fun i wr=>∃ k:Nat,k≤vs.length∧i=.int .i64 k∧J (pre++txVs κ (vs.take k)) wr∧KO Ow z W wr) (fun i _=>vs.length - (intOf i).toNat)
    case atStart=>exact ⟨0,Nat.zero_le _,rfl,by simpa [txVs] using hj,KO.refl hOW⟩
    case round =>
     obtain ⟨k,hk,rfl,hj2,hK⟩:=hrel;have hB:=hK.below
     by_cases hlt:k<vs.length
     ·obtain ⟨c0,c1,c2,c3,ad,cp,c4,ha⟩:=HC.out k hlt
      have c0':=(hB.cell (p:=⟨b,o+k*5,none⟩) hbz).trans c0;have c1':=(hB.cell (p:=⟨b,o+k*5+1,none⟩) hbz).trans c1;have c2':=(hB.cell (p:=⟨b,o+k*5+2,none⟩) hbz).trans c2;have c3':=(hB.cell (p:=⟨b,o+k*5+3,none⟩) hbz).trans c3;have c4':=(hB.cell (p:=⟨b,o+k*5+4,none⟩) hbz).trans c4;have ha':=ha.below hB;have HSN:=HS.out k hlt;rw [txV_eq] at HSN;have HREC:=Lib.hid (IH.out k hlt);have hmr:m0≤wr.heap.size:=Nat.le_trans hm hB.size;have hzr:z≤wr.heap.size:=Nat.le_trans hzm hmr;clear c0 c1 c2 c3 c4 ha IH HC HS;generalize vs[k].kind=kd at *;generalize vs[k].tk=tk at *;generalize vs[k].text=tx at *;generalize vs[k].n=nn at *;generalize vs[k].l=ll at *;have hnew:∀ (x:Obj) (B:World),KO Ow z (wr.alloc x) B→B.heap[wr.heap.size]?=some x∧KO Ow z W B:=by
       intro x B hKB;have hka:KO Ow z wr (wr.alloc x):=KO.grow (Q0h wr x) hzr (fun k hk=>hO _ _ _ hmr (Q0h _ _) hk) hK.lt;refine ⟨(hKB.same _ (by simp) fun ho=>?_).trans (World.alloc_heap_new wr x),hK.trans (hka.trans hKB)⟩;have:=hK.lt _ (hO _ _ _ hmr (Q0h _ _) ho);omega
      by_cases hk1:kd=1
      ·subst hk1
       simp only [true_and,show ¬((2:Int)≤1∧(1:Int)≤5) by omega,if_false,List.append_nil] at HSN
       by_cases ht:tk=κ
       ·subst ht
        rw [if_pos rfl] at HSN;have hpb:(pre++txVs tk (vs.take k)).length<Nb:=by
         have h9:=congrArg List.length HSN;simp only [List.length_append,List.length_cons,List.length_nil] at h9 ⊢;have h8:=txVs_le tk (l:=vs) (k+1);omega
        gi_wp2_with fail
        refine upon_yield rfl (hY _ _ _ _ (hJ _ _ _ hj2 (Q0h _ _)) hpb (by simp;omega)) ?_;rintro W2 ⟨hj3,hK3⟩;obtain ⟨hcell,hK4⟩:=hnew _ _ hK3;rw [List.append_assoc,←HSN] at hj3;have d0:W2.cell? ⟨wr.heap.size,0,none⟩=some (.int .i64 1):=by rw [Lib.cell_of_heap hcell];rfl
        clear hnew hcell HREC
        gi_wp2
        refine ⟨trivial,?_⟩
        gi_wp2
        go_roundw
        case rel=>exact ⟨k+1,by omega,by go_num,hj3,hK4⟩
        case measure=>simp [intOf];omega
       ·rw [if_neg ht,List.append_nil] at HSN
        have hj3:=hJ _ _ (wr.alloc (.cells #[.int .i64 1,.int .i64 tk,.string tx,.int .i64 nn,.slice ad ll.length cp] 193)) hj2 (Q0h _ _);have hK4:=(hnew (.cells #[.int .i64 1,.int .i64 tk,.string tx,.int .i64 nn,.slice ad ll.length cp] 193) _ (KO.refl fun k hk=>by have:=hK.lt k (hO _ _ _ hmr (Q0h _ _) hk);simp;omega)).2;rw [←HSN] at hj3;clear hnew HREC
        gi_wp2
        refine ⟨fun _ h=>(by cases h),?_⟩
        gi_wp2
        refine ⟨trivial,?_⟩
        gi_wp2
        go_roundw
        case rel=>exact ⟨k+1,by omega,by go_num,hj3,hK4⟩
        case measure=>simp [intOf];omega
      ·by_cases hkk:2≤kd∧kd≤5
       ·obtain ⟨hk2,hk5⟩:=hkk
        rw [if_neg (fun h=>hk1 h.1),if_pos ⟨hk2,hk5⟩,List.nil_append] at HSN;have hpb:(pre++txVs κ (vs.take k)).length+(txVs κ ll).length≤Nb:=by
         have h9:=congrArg List.length HSN;simp only [List.length_append] at h9 ⊢;have h8:=txVs_le κ (l:=vs) (k+1);omega
        have hr2:=HREC.out (n - 1) (.slice ad ll.length cp) (pre++txVs κ (vs.take k)) (wr.alloc (.cells #[.int .i64 kd,.int .i64 tk,.string tx,.int .i64 nn,.slice ad ll.length cp] 193)) hpb (by simp;omega)
         (ha'.below ((Below.refl _ wr).alloc hzr _)) (hJ _ _ _ hj2 (Q0h _ _)) (fun k hk=>by have:=hK.lt k (hO _ _ _ hmr (Q0h _ _) hk);simp;omega)
        have HR:=Lib.hid hr2;clear hr2 HREC
        gi_wp2_with fail
        refine ⟨fun _ h=>(by cases h),?_⟩
        gi_wp2_with fail
        refine ⟨trivial,?_⟩
        gi_wp2_with fail
        refine ⟨fun h=>(by cases h),HR.out.mono ?_⟩;rintro e W2 ⟨rfl,hj3,hK3⟩;obtain ⟨-,hK4⟩:=hnew _ _ hK3;rw [List.append_assoc,←HSN] at hj3;clear hnew
        gi_wp2
        go_roundw
        case rel=>exact ⟨k+1,by omega,by go_num,hj3,hK4⟩
        case measure=>simp [intOf];omega
       ·rw [if_neg (fun h=>hk1 h.1),if_neg hkk,List.append_nil,List.append_nil] at HSN
        have hj3:=hJ _ _ (wr.alloc (.cells #[.int .i64 kd,.int .i64 tk,.string tx,.int .i64 nn,.slice ad ll.length cp] 193)) hj2 (Q0h _ _);have hK4:=(hnew (.cells #[.int .i64 kd,.int .i64 tk,.string tx,.int .i64 nn,.slice ad ll.length cp] 193) _ (KO.refl fun k hk=>by have:=hK.lt k (hO _ _ _ hmr (Q0h _ _) hk);simp;omega)).2;rw [←HSN] at hj3;clear hnew HREC
        by_cases hk2:2≤kd
        ·have hk5:¬kd≤5:=fun h=>hkk ⟨hk2,h⟩
         gi_wp2
         refine ⟨fun _ h=>(by cases h),?_⟩
         gi_wp2
         refine ⟨trivial,?_⟩
         gi_wp2
         go_roundw
         case rel=>exact ⟨k+1,by omega,by go_num,hj3,hK4⟩
         case measure=>simp [intOf];omega
        ·gi_wp2
         refine ⟨fun _ h=>(by cases h),?_⟩
         gi_wp2
         refine ⟨trivial,?_⟩
         gi_wp2
         go_roundw
         case rel=>exact ⟨k+1,by omega,by go_num,hj3,hK4⟩
         case measure=>simp [intOf];omega
     ·obtain rfl:k=vs.length:=by omega
      rw [List.take_length] at hj2
      gi_wp2
      go_ret
      exact ⟨rfl,hj2,hK⟩
end Go.Proofs.YtabliahkhafddaaGreat
namespace Go.Proofs.YtabliahkhafddaaGreat
open Go.RowKit Go.Ev Go.Sort
def sOf (b:ByteArray):Str:=b.data.toList
theorem owns_mono {w:World} {B C:Nat} {e:TypeId} {size:Nat} {v:Value} {n:Nat} {xs:List Value} (h:w.ownsRow B e size v n xs) (hc:C≤B):w.ownsRow C e size v n xs:=by
 obtain ⟨h1,h2⟩:=h;refine ⟨h1,?_⟩;rcases h2 with h2 | ⟨g,cap,cur,hv,hg,hr⟩
 ·exact .inl h2
 ·exact .inr ⟨g,cap,cur,hv,Nat.le_trans hc hg,hr⟩
theorem owns_slice {w:World} {B:Nat} {e:TypeId} {sz:Nat} {v:Value} {n:Nat} {xs:List Value} (h:w.ownsRow B e sz v n xs):∃ a c,v=.slice a n c:=by
 rcases h.2 with ⟨rfl,rfl⟩ | ⟨g,cap,cur,rfl,-⟩
 ·exact ⟨_,_,rfl⟩
 ·exact ⟨_,_,rfl⟩
theorem owns_below {w w':World} {z e sz n:Nat} {v:Value} {xs:List Value} (h:w.ownsRow z e sz v n xs) (hb:Below w.heap.size w w'):w'.ownsRow z e sz v n xs:=by
 refine ⟨h.1,h.2.imp id ?_⟩;rintro ⟨g,cap,cur,h1,h2,h3,h4⟩;exact ⟨g,cap,cur,h1,h2,by rw [hb.block g (Array.getElem?_eq_some_iff.1 h3).1];exact h3,h4⟩
section
variable {w:World}
def SrcOf (w:World) (y:Value) (m size:Nat) (news:List Value):Prop :=
 (y=.slice none 0 0∧m=0∧news=[])∨∃ ad c,y=.slice (some ad) m c∧news.length=m*size∧(∀ j u,news[j]?=some u→w.cell? (ad.add j)=some u)∧∀ u∈news,u.oneCell'=true
theorem flat_len (l:List Vl):(l.flatMap encV).length=l.length*5:=by
 induction l with
 | nil=>rfl
 | cons c l ih=>rw [List.flatMap_cons,List.length_append,ih,List.length_cons];show (encV c).length+_=_;rw [Q4f];omega
end
theorem wpList_append_src {P:Program} {w:World} {ops:Array Oper} {rest:List Oper} {o:Oper} {a:Act} {Q:Exit→Act→World→Prop} (hgd:o.guard=none) (s x:Operand) (t:TypeId)
 (ho:o.op=.call { callee:=.builtin .append,args:=#[s,x],argTypes:=#[t,t] })
 (base:Nat) (e:TypeId) (i:TypeInfo) (z:Value) (size bytes:Nat) (ht:P.underlying t=some (.slice e)) (hi:P.info? e=some i) (hz:i.zero=some z)
 (hsize:i.size=size) (hby:i.bytes=bytes) (hzs:z.cells.size=size) (hsz:0<size)
 (v:Value) (n:Nat) (xs:List Value) (hs:a.eval s=v) (hown:w.ownsRow base e size v n xs)
 (y:Value) (m:Nat) (news:List Value) (hx:a.eval x=y) (hsrc:SrcOf w y m size news)
 (h63:n+m≤maxLen) (hbytes:(n+m)*bytes≤140737488355328) (hbase:base≤w.heap.size)
 (h:∀ v' w',w'.ownsRow base e size v' (n+m) (xs++news)→w.grownBy w' v.ownBlock→wpList P ops Q rest (a.put o.dst v') w'):wpList P ops Q (o::rest) a w:=by
 refine wpList_plain hgd fun K hK=>?_;have key:∃ v' w',(Builtin.append_ #[t,t] o.type #[v,y]).run P w=.ok v' w'∧w'.ownsRow base e size v' (n+m) (xs++news)∧w.grownBy w' v.ownBlock:=by
  rcases hsrc with ⟨rfl,rfl,rfl⟩ | ⟨ad,c,rfl,h1,h2,h3⟩
  ·exact ⟨v,w,run_append_owned_none w base t o.type e i size ht hi v n xs hown,by simpa using hown,⟨rfl,rfl,rfl,Nat.le_refl _,fun _ _ _=>rfl⟩⟩
  ·obtain ⟨v',w',g1,g2,g3,-⟩:=run_append_own (P:=P) (w:=w) base t o.type e i z size bytes ht hi hz hsize hby hzs hsz v n xs hown ad m c news h1 h2 h3 h63 hbytes hbase
   exact ⟨v',w',g1,g2,g3⟩
 obtain ⟨v',w',hrun,r1,r2⟩:=key;unfold Oper.wp;simp [execOp,ho,resolve,invoke,builtin,hs,hx,hrun,Result.andThen];exact hK _ _ (h v' w' r1 r2)
theorem SrcOf.below {w w':World} {y:Value} {m size:Nat} {news:List Value} (h:SrcOf w y m size news) (hb:Below w.heap.size w w'):SrcOf w' y m size news:=by
 rcases h with h | ⟨ad,c,h1,h2,h3,h4⟩
 ·exact .inl h
 ·exact .inr ⟨ad,c,h1,h2,fun j u hj=>Q2z (h3 j u hj) hb,h4⟩
def lowC (c:UInt8):UInt8:=if 65≤c.toNat∧c.toNat≤90 then UInt8.ofNat (c.toNat+32) else c
def lowS (s:Str):Str:=s.map lowC
theorem lowC_big {c:UInt8} (h1:65≤c.toNat) (h2:c.toNat≤90):((lowC c).toNat:Int)=(c.toNat:Int)+32:=by
 rw [lowC,if_pos ⟨h1,h2⟩];have:(UInt8.ofNat (c.toNat+32)).toNat=c.toNat+32:=by
  rw [UInt8.toNat_ofNat'];omega
 rw [this];omega
theorem lowC_not {c:UInt8} (h:¬(65≤c.toNat∧c.toNat≤90)):lowC c=c:=by rw [lowC,if_neg h]
theorem cell_set_at {w:World} {b k:Nat} (j:Nat) (v:Value) (h:(w.cell? ⟨b,k,none⟩).isSome=true):(w.setCell ⟨b,k,none⟩ v).cell? ⟨b,j,none⟩=if j=k then some v else w.cell? ⟨b,j,none⟩:=by
 by_cases hj:j=k
 ·subst hj
  rw [if_pos rfl]
  have := World.cell?_setCells_in b [v] j w (fun i hi => by have:i=0:=by simpa using hi
                                                            subst this;exact h) 0 (by simp)
  simpa [World.setCells] using this
 ·rw [if_neg hj]
  have:=World.cell?_setCells_out b [v] k w ⟨b,j,none⟩ (fun _ _=>by simp;omega);exact this
theorem frozen_set (w:World) (b o:Nat) (v:Value) (x:Addr):(w.setCell ⟨b,o,none⟩ v).frozen? x=w.frozen? x:=World.frozen?_setCells b [v] o w x
set_option maxRecDepth 100000 in
set_option maxHeartbeats 2000000 in
theorem small_any (s:ByteArray) (w:World) (hs:s.size≤1000000) :
 Calls Tryz.prog 356 #[.string s] w fun e w'=>e=.returned (.string (bs (lowS (sOf s))))∧Below w.heap.size w w':=by
 have hconv:=run_bytes_of_string (P:=Tryz.prog) w 9 301 5 s Tryz.underlying9 Tryz.underlying301 Tryz.underlying5;generalize grownCap w s.size 0 5=cap at hconv;have hl:(sOf s).length=s.size:=ba_len s;have hh:∀ X:Obj,(w.drew.alloc X).heap[w.heap.size]?=some X:=fun X=>World.alloc_heap_new w.drew X;have hcell:∀ j (hj:j<(sOf s).length),(w.drew.alloc (.cells (bytesRow s cap) 5 ((bytesRow s cap).size,(bytesRow s cap).size+1))).cell? ⟨w.heap.size,j,none⟩=some (.int .u8 ((sOf s)[j].toNat:Int)):=fun j hj=>by
  rw [Lib.cell_of_heap (hh _)];rw [bytesRow_at s cap j (by have:s.data.size=s.size:=rfl;omega)]
  rfl
 have hfr:∀ j (hj:j<(sOf s).length),(w.drew.alloc (.cells (bytesRow s cap) 5 ((bytesRow s cap).size,(bytesRow s cap).size+1))).frozen? ⟨w.heap.size,j,none⟩=false:=fun j hj=>by
  have h9:=hcell j hj;rw [Lib.cell_of_heap (hh _)] at h9;have h8:=(Array.getElem?_eq_some_iff.1 h9).1;simp only [World.frozen?,hh];simp;omega
 have hB0:Below w.heap.size w (w.drew.alloc (.cells (bytesRow s cap) 5 ((bytesRow s cap).size,(bytesRow s cap).size+1))):=((Below.refl _ w).drew).alloc (Nat.le_refl _) _;have hback:=fun (W:World) (l:Str) (hc:∀ j (hj:j<l.length),W.cell? ⟨w.heap.size,j,none⟩=some (.int .u8 (l[j].toNat:Int)))=>run_convert_bytes_back (P:=Tryz.prog) W 301 9 5 ⟨w.heap.size,0,none⟩ cap l Tryz.underlying301 Tryz.underlying5 Tryz.underlying9 (fun j hj=>by rw [Addr.add_lit,Nat.zero_add];exact hc j hj);have HC:=Lib.hid hcell;have HF:=Lib.hid hfr;have HB:=Lib.hid hB0;have HK:=Lib.hid hback;clear hcell hfr hB0 hback hh;generalize bytesRow s cap=C at *;generalize hsl:sOf s=l at *;clear hsl;have hback2:∀ (W:World),(∀ j (hj:j<l.length),W.cell? ⟨w.heap.size,j,none⟩=some (.int .u8 ((lowC l[j]).toNat:Int)))→(convert 301 9 (.slice (some ⟨w.heap.size,0,none⟩) s.size cap)).run Tryz.prog W=.ok (.string (bs (lowS l))) W:=fun W hc=>by
  have h9:=HK.out W (lowS l) (fun j hj=>by
   have hj2:j<l.length:=by simpa [lowS] using hj
   rw [hc j hj2]
   simp [lowS])
  have h8:(lowS l).length=s.size:=by rw [lowS,List.length_map,hl]
  rw [h8] at h9;exact h9
 have HK2:=Lib.hid hback2;clear HK hback2
 go_enter Tryz.func356,Tryz.ntmps356
 go_wp2
 go_loopw [10] (fun i wr=>∃ k:Nat,k≤s.size∧i=.int .i64 k∧Hid (∀ j (hj:j<l.length),wr.cell? ⟨w.heap.size,j,none⟩=some (.int .u8 ((if j<k then lowC l[j] else l[j]).toNat:Int)))∧Hid (∀ j,j<l.length→wr.frozen? ⟨w.heap.size,j,none⟩=false)∧Below w.heap.size w wr) (fun i _=>s.size - (intOf i).toNat)
 case atStart=>exact ⟨0,Nat.zero_le _,rfl,Lib.hid fun j hj=>by rw [if_neg (Nat.not_lt_zero j)];exact HC.out j hj,HF,HB.out⟩
 case round =>
  obtain ⟨k,hk,rfl,hcs,hfs,hBr⟩:=hrel
  by_cases hlt:k<s.size
  ·have hkl:k<l.length:=by omega
   have c0:=hcs.out k hkl;have f0:=hfs.out k hkl;rw [if_neg (Nat.lt_irrefl k)] at c0
   have hstep:∀ (wr':World) (v:Value),(∀ j,j<l.length→wr'.cell? ⟨w.heap.size,j,none⟩=if j=k then some v else wr.cell? ⟨w.heap.size,j,none⟩)→v=.int .u8 ((lowC l[k]).toNat:Int) →
    ∀ j (hj:j<l.length),wr'.cell? ⟨w.heap.size,j,none⟩=some (.int .u8 ((if j<k+1 then lowC l[j] else l[j]).toNat:Int)):=fun wr' v hw hv j hj=>by
    rw [hw j hj]
    by_cases hjk:j=k
    ·subst hjk;rw [if_pos rfl,if_pos (Nat.lt_succ_self _),hv]
    ·rw [if_neg hjk,hcs.out j hj]
     by_cases hj2:j<k
     ·rw [if_pos hj2,if_pos (by omega)]
     ·rw [if_neg hj2,if_neg (by omega)]
   have HST:=Lib.hid hstep;have hset:=fun (v:Value) (j:Nat)=>cell_set_at (w:=wr) (b:=w.heap.size) (k:=k) j v (by rw [c0];rfl);have HSET:=Lib.hid hset;clear hstep hset
   by_cases hbig:65≤l[k].toNat∧l[k].toNat≤90
   ·obtain ⟨hb1,hb2⟩:=hbig
    have hlow:=lowC_big hb1 hb2;generalize hc:l[k].toNat=c at *
    go_wp2
    go_roundw
    case rel =>
     refine ⟨k+1,by omega,by go_num,Lib.hid (HST.out _ _ (fun j _=>HSET.out _ j) ?_),Lib.hid fun j hj=>(frozen_set _ _ _ _ _).trans (hfs.out j hj),hBr.setCell (Nat.le_refl _) _⟩;rw [hlow]
     go_num
    case measure=>simp [intOf];omega
   ·have hlow:=lowC_not hbig
    have hnx:=HST.out wr (.int .u8 (l[k].toNat:Int)) (fun j hj=>by
     by_cases hjk:j=k
     ·subst hjk;rw [if_pos rfl,c0]
     ·rw [if_neg hjk]) (by rw [hlow])
    have HNX:=Lib.hid hnx;clear hnx hlow HSET HST;generalize hc:l[k].toNat=c at *
    by_cases hb1:65≤c
    ·have hb2:¬c≤90:=fun h=>hbig ⟨hb1,h⟩
     go_wp2
     go_roundw
     case rel=>exact ⟨k+1,by omega,by go_num,HNX,hfs,hBr⟩
     case measure=>simp [intOf];omega
    ·go_wp2
     go_roundw
     case rel=>exact ⟨k+1,by omega,by go_num,HNX,hfs,hBr⟩
     case measure=>simp [intOf];omega
  ·obtain rfl:k=s.size:=by omega
   have hb9:=HK2.out wr (fun j hj=>by have:=hcs.out j hj;rw [if_pos (by omega)] at this;exact this)
   go_wp2
   go_ret
   exact ⟨rfl,hBr⟩
theorem Tryz.infoVal:(Tryz.prog.info? 193).map (fun i=>(i.zero,i.size,i.bytes))=some (some (.agg #[.int .i64 0,.int .i64 0,.string ByteArray.empty,.int .i64 0,.slice none 0 0]),5,64):=by kernel_rfl
def VlS (z:Nat) (w:World) (v:Value) (l:List Vl):Prop :=
 ∃ ad cap,v=.slice ad l.length cap∧l.length≤cap∧(l=[]∨∃ b o,ad=some ⟨b,o,none⟩∧b<w.heap.size ∧
   ∀ k (hk:k<l.length) j a,(encV l[k])[j]?=some a→∃ x,w.cell? ⟨b,o+(k*5+j),none⟩=some x∧AtB z w a x)
theorem VlS.of {z:Nat} {w:World} {v:Value} {l:List Vl} (h:AtB z w (.sl l.length 5 (l.flatMap encV)) v) (hz:z≤w.heap.size):VlS z w v l:=by
 rcases slB_cells encV 5 Q4f (by decide) h with ⟨rfl,ad,cap,rfl⟩ | ⟨b,o,cap,rfl,hcap,-,hbz,hc⟩
 ·exact ⟨ad,cap,rfl,Nat.zero_le _,.inl rfl⟩
 ·exact ⟨_,cap,rfl,hcap,.inr ⟨b,o,rfl,Nat.lt_of_lt_of_le hbz hz,hc⟩⟩
theorem VlS.of_at {w:World} {v:Value} {l:List Vl} (h:At w (.sl l.length 5 (l.flatMap encV)) v):VlS w.heap.size w v l:=VlS.of (z:=w.heap.size) h (Nat.le_refl _)
theorem VlS.below {z:Nat} {w w':World} {v:Value} {l:List Vl} (h:VlS z w v l) (hz:z≤w.heap.size) (hb:Below w.heap.size w w'):VlS z w' v l:=by
 obtain ⟨ad,cap,h1,h2,h3⟩:=h;refine ⟨ad,cap,h1,h2,h3.imp id ?_⟩;rintro ⟨b,o,h4,h5,h6⟩;refine ⟨b,o,h4,Nat.lt_of_lt_of_le h5 hb.size,fun k hk j a hj=>?_⟩;obtain ⟨x,h7,h8⟩:=h6 k hk j a hj;exact ⟨x,(hb.cell (p:=⟨b,_,none⟩) h5).trans h7,h8.below (hb.mono hz)⟩
theorem cells_oneB {w:World} {G:Gh} {l:List Vl} {vs:List Value} (h:VRs w G (l.flatMap encV) vs):∀ u∈vs,u.oneCell'=true:=by
 intro u hu;obtain ⟨j,hj⟩:=List.getElem?_of_mem hu;have hl:=VRs.len h;have hlt:j<(l.flatMap encV).length:=by rw [←hl];exact (List.getElem?_eq_some_iff.1 hj).1
 have hv:=VRs.get2 h (List.getElem?_eq_getElem hlt) hj;have hm:(l.flatMap encV)[j]∈l.flatMap encV:=List.getElem_mem hlt;obtain ⟨c,-,hc⟩:=List.mem_flatMap.1 hm;have:isCell (l.flatMap encV)[j]=true:=by
  generalize (l.flatMap encV)[j]=a at hc;obtain ⟨k1,k2,k3,k4,k5⟩:=c;rw [encV] at hc;simp at hc;rcases hc with rfl | rfl | rfl | rfl | rfl <;> rfl
 exact (Q3z this hv).1
theorem VlS.src {z:Nat} {w:World} {a:Addr} {n c:Nat} {l:List Vl} (h:VlS z w (.slice (some a) n c) l):∃ news,VRs w ⟨fun _=>none,fun b=>b<z⟩ (l.flatMap encV) news∧SrcOf w (.slice (some a) n c) l.length 5 news:=by
 obtain ⟨ad,cap,h1,h2,h3⟩:=h
 cases h1
 rcases h3 with rfl | ⟨b,o,h4,h5,h6⟩
 ·exact ⟨[],by rw [List.flatMap_nil,VRs],.inr ⟨_,_,rfl,rfl,by simp,by simp⟩⟩
 ·cases h4
  have hcell:∀ i a,(l.flatMap encV)[i]?=some a→∃ x,w.cell? ⟨b,o+i,none⟩=some x∧AtB z w a x:=fun i a hi=>by
   have hlt:i<l.length*5:=by rw [←flat_len];exact (List.getElem?_eq_some_iff.1 hi).1
   have hq:i / 5<l.length:=by omega
   have hi2:i=i / 5*5+i % 5:=by omega
   rw [hi2,flat_get encV 5 Q4f _ (i / 5) hq (i % 5) (by omega)] at hi;obtain ⟨x,h7,h8⟩:=h6 _ hq _ _ hi;exact ⟨x,by rw [←hi2] at h7;exact h7,h8⟩
  have hvs:VRs w ⟨fun _=>none,fun b=>b<z⟩ (l.flatMap encV) ((List.range (l.length*5)).map fun i=>(w.cell? ⟨b,o+i,none⟩).getD undef):=by
   refine VRs.mk (by rw [List.length_map,List.length_range,flat_len]) fun i a v ha hv=>?_;obtain ⟨x,h7,h8⟩:=hcell i a ha;have hlt:i<l.length*5:=by rw [←flat_len];exact (List.getElem?_eq_some_iff.1 ha).1
   rw [List.getElem?_map,List.getElem?_range hlt] at hv;simp only [Option.map_some,h7,Option.getD_some,Option.some.injEq] at hv;subst hv;exact h8
  refine ⟨_,hvs,.inr ⟨_,_,rfl,by simp,fun j u hj=>?_,cells_oneB hvs⟩⟩;have hlt:j<l.length*5:=by have:=(List.getElem?_eq_some_iff.1 hj).1;simpa using this
  rw [List.getElem?_map,List.getElem?_range hlt] at hj;simp only [Option.map_some,Option.some.injEq] at hj;obtain ⟨x,h7,-⟩:=hcell j _ (List.getElem?_eq_getElem (by rw [flat_len];exact hlt));rw [h7,Option.getD_some] at hj;rw [Addr.add_lit,h7,hj]
theorem VlS.sub {z:Nat} {w:World} {b o n c0:Nat} {l:List Vl} (h:VlS z w (.slice (some ⟨b,o,none⟩) n c0) l) (k m c:Nat) (hkm:k+m≤l.length) (hc2:m≤c) (a:Option Addr) (ha:0<m→a=some ⟨b,o+k*5,none⟩) :
 VlS z w (.slice a m c) ((l.drop k).take m):=by
 have hl:((l.drop k).take m).length=m:=by simp;omega
 refine ⟨a,c,by rw [hl],by rw [hl];exact hc2,?_⟩
 by_cases h0:m=0
 ·subst h0;exact .inl (by simp)
 ·obtain ⟨ad,cap,h1,h2,h3⟩:=h
  cases h1
  rcases h3 with rfl | ⟨b',o',h4,h5,h6⟩
  ·simp at hkm;omega
  ·cases h4
   refine .inr ⟨b,o+k*5,ha (by omega),h5,fun q hq j av hi=>?_⟩;rw [hl] at hq;have he:((l.drop k).take m)[q]=l[k+q]'(by omega):=by simp
   rw [he] at hi;obtain ⟨x,h7,h8⟩:=h6 (k+q) (by omega) _ _ hi;refine ⟨x,?_,h8⟩;rw [←h7]
   congr 2
   omega
theorem VlS.cells {z:Nat} {w:World} {b o n c:Nat} {l:List Vl} (h:VlS z w (.slice (some ⟨b,o,none⟩) n c) l) {k:Nat} (hk:k<l.length) :
 w.cell? ⟨b,o+k*5,none⟩=some (.int .i64 l[k].kind)∧w.cell? ⟨b,o+k*5+1,none⟩=some (.int .i64 l[k].tk)∧w.cell? ⟨b,o+k*5+2,none⟩=some (.string l[k].text) ∧
  w.cell? ⟨b,o+k*5+3,none⟩=some (.int .i64 l[k].n) ∧
  ∃ ad cap,w.cell? ⟨b,o+k*5+4,none⟩=some (.slice ad l[k].l.length cap)∧AtB z w (.sl l[k].l.length 5 (l[k].l.flatMap encV)) (.slice ad l[k].l.length cap):=by
 obtain ⟨ad,cap,h1,h2,h3⟩:=h
 cases h1
 rcases h3 with rfl | ⟨b',o',h4,h5,h6⟩
 ·simp at hk
 ·cases h4;exact vlB_cells h6 hk
theorem VlS.form {z:Nat} {w:World} {v:Value} {l:List Vl} (h:VlS z w v l):(l=[]∧∃ ad cap,v=.slice ad 0 cap)∨(0<l.length∧∃ b o cap,v=.slice (some ⟨b,o,none⟩) l.length cap∧l.length≤cap∧b<w.heap.size):=by
 obtain ⟨ad,cap,rfl,h2,h3⟩:=h;rcases h3 with rfl | ⟨b,o,rfl,h5,h6⟩
 ·exact .inl ⟨rfl,ad,cap,rfl⟩
 ·by_cases h0:l=[]
  ·subst h0;exact .inl ⟨rfl,_,cap,rfl⟩
  ·exact .inr ⟨List.length_pos_iff.2 h0,b,o,cap,rfl,h2,h5⟩
def NewV (z zr:Nat) (w:World) (v:Value) (l:List Vl):Prop:=∃ news,w.ownsRow zr 193 5 v l.length news∧VRs w ⟨fun _=>none,fun b=>b<z⟩ (l.flatMap encV) news
theorem NewV.vls {z zr:Nat} {w:World} {v:Value} {l:List Vl} (h:NewV z zr w v l):VlS z w v l:=by
 obtain ⟨news,h1,h2⟩:=h;rcases h1.2 with ⟨rfl,h0⟩ | ⟨g,cap,cur,rfl,hg,hb,hc,hm,hs,ht⟩
 ·exact ⟨none,0,by rw [h0],by omega,.inl (List.eq_nil_of_length_eq_zero h0)⟩
 ·refine ⟨_,cap,rfl,hc,.inr ⟨g,0,rfl,(Array.getElem?_eq_some_iff.1 hb).1,fun k hk j a hj=>?_⟩⟩
  have hj5:j<5:=by have:=(List.getElem?_eq_some_iff.1 hj).1;rw [Q4f] at this;exact this
  have hi:(l.flatMap encV)[k*5+j]?=some a:=by rw [flat_get encV 5 Q4f l k hk j hj5];exact hj
  obtain ⟨x,h3,h4⟩:=VRs.get h2 hi;refine ⟨x,?_,h4⟩;rw [Nat.zero_add,Lib.cell_of_heap hb];have hlt:k*5+j<l.length*5:=by omega
  rw [←ht,List.getElem?_take,if_pos hlt] at h3;simpa using h3
theorem NewV.nil (z zr:Nat) (w:World):NewV z zr w (.slice none 0 0) []:=⟨[],World.ownsRow_nil _ _ _ _,by rw [List.flatMap_nil,VRs]⟩
theorem NewV.below {z zr:Nat} {w w':World} {v:Value} {l:List Vl} (h:NewV z zr w v l) (hz:z≤w.heap.size) (hb:Below w.heap.size w w'):NewV z zr w' v l:=by
 obtain ⟨news,h1,h2⟩:=h;exact ⟨news,owns_below h1 hb,Q2p (fun _ h=>h) (fun rb hr=>hb.block rb (Nat.lt_of_lt_of_le hr hz)) _ h2⟩
theorem NewV.mono {z zr zr':Nat} {w:World} {v:Value} {l:List Vl} (h:NewV z zr w v l) (hz:zr'≤zr):NewV z zr' w v l:=by
 obtain ⟨news,h1,h2⟩:=h;exact ⟨news,owns_mono h1 hz,h2⟩
theorem NewV.set {z zr:Nat} {w:World} {v:Value} {l:List Vl} (h:NewV z zr w v l) {p:Addr} (x:Value) (h1:z≤p.block) (h2:p.block<zr):NewV z zr (w.setCell p x) v l:=by
 obtain ⟨news,h3,h4⟩:=h;exact ⟨news,ownsRow_setCell_below h3 h2 x,Q2p (fun _ h=>h) (fun rb hr=>Below.heap_setCell w p x rb (by omega)) _ h4⟩
theorem NewV.form {z zr:Nat} {w:World} {v:Value} {l:List Vl} (h:NewV z zr w v l):∃ a c,v=.slice a l.length c:=owns_slice h.choose_spec.1
set_option maxRecDepth 100000 in
set_option maxHeartbeats 1000000 in
theorem clone_any (z:Nat) (v:Value) (l:List Vl) (w:World) (hz:z≤w.heap.size) (hv:VlS z w v l) (hl:l.length≤1000000) :
 Calls Tryz.prog 306 #[v] w fun e w'=>∃ v',e=.returned v'∧NewV z w.heap.size w' v' l∧Below w.heap.size w w':=by
 obtain ⟨i0,hi,hz0,hz1,hz2⟩:=info_parts Tryz.infoVal;have q22:∀ (w:World) (a:Option Addr) (n c n' c':Nat),(binOp .eql 63 (.slice a n c) (.slice none n' c')).run Tryz.prog w=.ok (.bool a.isNone) w:=fun w a n c n' c'=>Lib.run_eql_slice_nil w _ _ a n c n' c' Tryz.underlying63;obtain ⟨ad,cap,rfl,hnc,h0⟩:=id hv
 cases ad with
 | none =>
   obtain rfl:l=[]:=by
    rcases h0 with h0 | ⟨rb,ro,h0,-⟩
    ·exact h0
    ·cases h0
   clear hv
   go_enter Tryz.func306,Tryz.ntmps306
   go_wp2
   go_ret
   exact ⟨_,rfl,NewV.nil _ _ _,Below.refl _ _⟩
 | some a =>
   obtain ⟨na,hna,hsa⟩:=hv.src;have HN:=Lib.hid hna;have hsz:=Nat.le_refl w.heap.size;have hsa2:=hsa.below ((Below.refl _ w).alloc hsz (.cells #[] 193));have hO:=World.ownsRow_lit (base:=w.heap.size) (e:=193) (size:=5) w #[] 0 hsz (by decide) rfl;clear hv hna hsa h0
   go_enter Tryz.func306,Tryz.ntmps306
   go_wp2_with (at_builtin;refine wpList_append_src rfl _ _ 63 rfl w.heap.size 193 i0 _ 5 64 Tryz.underlying63 hi hz0 hz1 hz2 rfl (by decide) (.slice (some ⟨w.heap.size,0,none⟩) 0 0) 0 _ rfl hO _ l.length na rfl hsa2 (by unfold maxLen;omega) (by omega) (by simp) ?_)
   intro v4 w4 hown4 hgrow4;have hC4:Below w.heap.size w w4:=((Below.refl _ w).alloc hsz _).grown hgrow4 (by simp) (fun g e=>by cases e;exact hsz);have HO:=Lib.hid hown4;clear hown4 hgrow4 hO hsa2
   go_wp2
   go_ret
   refine ⟨_,rfl,⟨na,?_,Q2p (fun _ h=>h) (fun rb hr=>hC4.block rb (Nat.lt_of_lt_of_le hr hz)) _ HN.out⟩,hC4⟩;have:=HO.out;simpa using this
def blankB (x:Vl):Bool:=x.kind==1&&x.tk==8
def trimM (l:List Vl):List Vl:=((l.dropWhile blankB).reverse.dropWhile blankB).reverse
theorem trimM_len (l:List Vl):(trimM l).length≤l.length:=by
 have h1:=(List.dropWhile_sublist (l:=l) blankB).length_le;have h2:=(List.dropWhile_sublist (l:=(l.dropWhile blankB).reverse) blankB).length_le;rw [trimM,List.length_reverse];rw [List.length_reverse] at h2;omega
set_option maxRecDepth 100000 in
theorem blank_any (k t n:Int) (s:ByteArray) (lv:Value) (w:World) :
 Calls Tryz.prog 305 #[.agg #[.int .i64 k,.int .i64 t,.string s,.int .i64 n,lv]] w fun e w'=>e=.returned (.bool (k==1&&t==8))∧Below w.heap.size w w':=by
 by_cases hk:k=1
 ·subst hk
  by_cases ht:t=8
  ·subst ht
   go_enter Tryz.func305,Tryz.ntmps305
   go_wp2
   go_ret
   exact ⟨rfl,Q0h _ _⟩
  ·have hb:(t==8)=false:=by simpa using ht
   go_enter Tryz.func305,Tryz.ntmps305
   go_wp2
   go_ret
   exact ⟨by simp [hb],Q0h _ _⟩
 ·have hb:(k==1)=false:=by simpa using hk
  go_enter Tryz.func305,Tryz.ntmps305
  go_wp2
  go_ret
  exact ⟨by simp [hb],Q0h _ _⟩
def sliceLen:Value→Nat
 | .slice _ n _=>n
 | _=>0
theorem drop_blank {l:List Vl} {k:Nat} (hk:k<l.length) (hb:blankB l[k]=true):(l.drop k).dropWhile blankB=(l.drop (k+1)).dropWhile blankB:=by
 rw [List.drop_eq_getElem_cons hk,List.dropWhile_cons_of_pos hb]
theorem drop_not {l:List Vl} {k:Nat} (hk:k<l.length) (hb:blankB l[k]=false):(l.drop k).dropWhile blankB=l.drop k:=by
 rw [List.drop_eq_getElem_cons hk,List.dropWhile_cons_of_neg (by rw [hb];simp)]
theorem take_blank {l:List Vl} {p:Nat} (hp:p<l.length) (hb:blankB l[p]=true):(l.take (p+1)).reverse.dropWhile blankB=(l.take p).reverse.dropWhile blankB:=by
 rw [List.take_succ_eq_append_getElem hp,List.reverse_append,List.reverse_singleton,List.singleton_append,List.dropWhile_cons_of_pos hb]
theorem take_not {l:List Vl} {p:Nat} (hp:p<l.length) (hb:blankB l[p]=false):(l.take (p+1)).reverse.dropWhile blankB=(l.take (p+1)).reverse:=by
 rw [List.take_succ_eq_append_getElem hp,List.reverse_append,List.reverse_singleton,List.singleton_append,List.dropWhile_cons_of_neg (by rw [hb];simp)]
set_option maxRecDepth 100000 in
set_option maxHeartbeats 4000000 in
theorem Q1o (z:Nat) (v:Value) (l:List Vl) (w:World) (hz:z≤w.heap.size) (hv:VlS z w v l) (hl:l.length≤1000000) :
 Calls Tryz.prog 254 #[v] w fun e w'=>∃ v',e=.returned v'∧NewV z w.heap.size w' v' (trimM l)∧Below w.heap.size w w':=by
 rcases hv.form with ⟨rfl,ad,cap,rfl⟩ | ⟨hpos,b,o,cap,rfl,hcap,-⟩
 ·have HC:=Lib.hid fun w' (hz':z≤w'.heap.size)=>clone_any z (.slice ad 0 cap) [] w' hz' ⟨ad,cap,rfl,Nat.zero_le _,.inl rfl⟩ (by simp)
  clear hv
  go_enter Tryz.func254,Tryz.ntmps254
  go_wp2
  go_loopw [0] (fun x wr=>x=.slice ad 0 cap∧wr=w) (fun _ _=>0)
  case atStart=>exact ⟨rfl,rfl⟩
  case round =>
   obtain ⟨rfl,rfl⟩:=hrel
   go_wp2
   go_loopw [0] (fun x wr'=>x=.slice ad 0 cap∧wr'=wr) (fun _ _=>0)
   case atStart=>exact ⟨rfl,rfl⟩
   case round =>
    obtain ⟨rfl,rfl⟩:=hrel
    go_wp2_with fail
    refine (HC.out _ hz).mono ?_;rintro e w2 ⟨v',rfl,hn,hB⟩
    go_wp2
    go_ret
    exact ⟨_,rfl,hn,hB⟩
 ·have HV := Lib.hid fun k (hk:k<l.length)=>hv.cells hk
  have HSUB:=Lib.hid fun k m c hkm hc2 a ha=>hv.sub k m c hkm hc2 a ha;clear hv
  go_enter Tryz.func254,Tryz.ntmps254
  go_wp2
  go_loopw [0] (fun x wr=>∃ k r c a,l.length=k+r∧r≤c∧x=.slice a r c∧Hid (0<r→a=some ⟨b,o+k*5,none⟩)∧Hid (l.dropWhile blankB=(l.drop k).dropWhile blankB)∧Below w.heap.size w wr) (fun x _=>sliceLen x)
  case atStart=>exact ⟨0,l.length,cap,some ⟨b,o,none⟩,by omega,hcap,rfl,Lib.hid fun _=>by simp,Lib.hid rfl,Below.refl _ _⟩
  case round =>
   obtain ⟨k,r,c,a,hkr,hrc,rfl,HA,HD,hBr⟩:=hrel
   cases r with
   | zero =>
     have HDW:Hid (l.dropWhile blankB=l.drop k):=Lib.hid (by rw [HD.out,List.drop_of_length_le (by omega)];rfl)
     go_wp2
     go_loopw [0] (fun x wr'=>∃ m,m≤0∧x=.slice a m c∧Hid (trimM l=(((l.drop k).take m).reverse.dropWhile blankB).reverse)∧Below w.heap.size w wr') (fun x _=>sliceLen x)
     case atStart=>exact ⟨0,Nat.le_refl _,rfl,Lib.hid (by rw [trimM,HDW.out,List.take_of_length_le (by simp;omega)]),hBr⟩
     case round =>
      obtain ⟨m,hm,rfl,ht,hB2⟩:=hrel
      cases m with
      | zero =>
        have ht0:trimM l=[]:=by rw [ht.out];simp
        have HT0:=Lib.hid ht0;clear ht0 ht
        go_wp2_with fail
        refine (clone_any z (.slice a 0 c) [] _ (Nat.le_trans hz hB2.size) ⟨a,c,rfl,Nat.zero_le _,.inl rfl⟩ (by simp)).mono ?_;rintro e w3 ⟨v',rfl,hn,hB3⟩
        go_wp2
        go_ret
        exact ⟨_,rfl,by rw [HT0.out];exact hn.mono hB2.size,bup hB2 hB3⟩
      | succ p=>exact absurd hm (by omega)
   | succ r' =>
     obtain rfl:=HA.out (by omega);have hkl:k<l.length:=by omega
     obtain ⟨c0,c1,c2,c3,ad,cp,c4,-⟩:=HV.out k hkl;have c0':=Q2z c0 hBr;have c1':=Q2z c1 hBr;have c2':=Q2z c2 hBr;have c3':=Q2z c3 hBr;have c4':=Q2z c4 hBr;have hbk:blankB l[k]=(l[k].kind==1&&l[k].tk==8):=rfl;have hd1:blankB l[k]=true→l.dropWhile blankB=(l.drop (k+1)).dropWhile blankB:=fun h=>by rw [HD.out,drop_blank hkl h]
     have hd2:blankB l[k]=false→l.dropWhile blankB=l.drop k:=fun h=>by rw [HD.out,drop_not hkl h]
     have HD1:=Lib.hid hd1;have HD2:=Lib.hid hd2;clear c0 c1 c2 c3 c4 HD hd1 hd2;rw [hbk] at HD1 HD2;generalize l[k].kind=kd at *;generalize l[k].tk=tk at *;generalize l[k].text=tx at *;generalize l[k].n=nn at *;generalize l[k].l.length=ln at *;clear hbk
     go_wp2_with fail
     refine (blank_any kd tk nn tx (.slice ad ln cp) _).mono ?_;rintro e w3 ⟨rfl,hB3⟩;have hC3:=bup hBr hB3
     cases hb:(kd==1&&tk==8)
     ·have HDW:=Lib.hid (HD2.out hb)
      clear c0' c1' c2' c3' c4' HD1 HD2 hBr;have hBr:=hC3;clear hC3
      go_wp2
      go_loopw [0] (fun x wr'=>∃ m,m≤r'+1∧x=.slice (some ⟨b,o+k*5,none⟩) m c∧Hid (trimM l=(((l.drop k).take m).reverse.dropWhile blankB).reverse)∧Below w.heap.size w wr') (fun x _=>sliceLen x)
      case atStart=>exact ⟨r'+1,Nat.le_refl _,rfl,Lib.hid (by rw [trimM,HDW.out,List.take_of_length_le (by simp;omega)]),hBr⟩
      case round =>
       obtain ⟨m,hm,rfl,ht,hB2⟩:=hrel
       cases m with
       | zero =>
         have ht0:trimM l=[]:=by rw [ht.out];simp
         have HT0:=Lib.hid ht0;clear ht0 ht
         go_wp2_with fail
         refine (clone_any z (.slice (some ⟨b,o+k*5,none⟩) 0 c) [] _ (Nat.le_trans hz hB2.size) ⟨_,c,rfl,Nat.zero_le _,.inl rfl⟩ (by simp)).mono ?_;rintro e w3 ⟨v',rfl,hn,hB3⟩
         go_wp2
         go_ret
         exact ⟨_,rfl,by rw [HT0.out];exact hn.mono hB2.size,bup hB2 hB3⟩
       | succ p =>
         have hkp:k+p<l.length:=by omega
         obtain ⟨c0,c1,c2,c3,ad,cp,c4,-⟩:=HV.out (k+p) hkp;have c0':=Q2z c0 hB2;have c1':=Q2z c1 hB2;have c2':=Q2z c2 hB2;have c3':=Q2z c3 hB2;have c4':=Q2z c4 hB2;rw [Nat.add_mul,←Nat.add_assoc] at c0' c1' c2' c3' c4';have hlp:p<(l.drop k).length:=by simp;omega
         have hget:(l.drop k)[p]=l[k+p]:=by simp
         have hbk:blankB l[k+p]=(l[k+p].kind==1&&l[k+p].tk==8):=rfl;have ht1:blankB l[k+p]=true→trimM l=(((l.drop k).take p).reverse.dropWhile blankB).reverse:=fun h=>by rw [ht.out,take_blank hlp (by rw [hget];exact h)]
         have ht2:blankB l[k+p]=false→trimM l=(l.drop k).take (p+1):=fun h=>by rw [ht.out,take_not hlp (by rw [hget];exact h),List.reverse_reverse]
         have hcl:=fun w' (hB:Below w.heap.size w w')=>clone_any z (.slice (some ⟨b,o+k*5,none⟩) (p+1) c) ((l.drop k).take (p+1)) w' (Nat.le_trans hz hB.size) ((HSUB.out k (p+1) c (by omega) (by omega) _ (fun _=>rfl)).below hz hB) (by simp;omega);have HT1:=Lib.hid ht1;have HT2:=Lib.hid ht2;have HCL:=Lib.hid hcl;clear c0 c1 c2 c3 c4 ht ht1 ht2 hcl hget;rw [hbk] at HT1 HT2;generalize l[k+p].kind=kd at *;generalize l[k+p].tk=tk at *;generalize l[k+p].text=tx at *;generalize l[k+p].n=nn at *;generalize l[k+p].l.length=ln at *;clear hbk
         go_wp2_with fail
         refine (blank_any kd tk nn tx (.slice ad ln cp) _).mono ?_;rintro e w3 ⟨rfl,hB3⟩;have hC3:=bup hB2 hB3
         cases hb:(kd==1&&tk==8)
         ·have HT3:=Lib.hid (HT2.out hb)
          clear c0' c1' c2' c3' c4' HT1 HT2
          go_wp2_with fail
          refine (HCL.out _ hC3).mono ?_;rintro e w4 ⟨v',rfl,hn,hB4⟩
          go_wp2
          go_ret
          exact ⟨_,rfl,by rw [HT3.out];exact hn.mono hC3.size,bup hC3 hB4⟩
         ·have HT3:=Lib.hid (HT1.out hb)
          clear c0' c1' c2' c3' c4' HT1 HT2 HCL
          go_wp2
          go_roundw
          case rel=>exact ⟨p,by omega,rfl,HT3,hC3⟩
          case measure=>simp [sliceLen]
     ·have HD3:=Lib.hid (HD1.out hb)
      clear c0' c1' c2' c3' c4' HD1 HD2
      by_cases hc1:c=1
      ·subst hc1
       obtain rfl:r'=0:=by omega
       go_wp2
       go_roundw
       case rel=>exact ⟨k+1,0,_,_,by omega,by omega,rfl,Lib.hid fun h=>absurd h (Nat.lt_irrefl 0),HD3,hC3⟩
       case measure=>simp [sliceLen]
      ·go_wp2
       go_roundw
       case rel=>exact ⟨k+1,r',c - 1,_,by omega,by omega,rfl,Lib.hid fun _=>by congr 2;omega,HD3,hC3⟩
       case measure=>simp [sliceLen]
end Go.Proofs.YtabliahkhafddaaGreat
end
