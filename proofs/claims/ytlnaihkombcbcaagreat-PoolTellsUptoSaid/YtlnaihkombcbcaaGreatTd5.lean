/- (*user).decl, walked. -/
import Derived.Test.YtlnaihkombcbcaaGreatTd2
import Derived.Test.YtlnaihkombcbcaaGreatTc8
import Derived.Test.YtlnaihkombcbcaaGreatTd1
import Derived.Lib.AppendZeros
import Derived.Test.YtlnaihkombcbcaaGreatTd3
import Derived.Deep.RegionHeld3
import Derived.BigQuiet
import Derived.Deep.CutRange
set_option linter.unusedSimpArgs false
noncomputable section
namespace Go.Proofs.YtlnaihkombcbcaaGreat
open Go.ChangeShapes Go.WideShapes Go.RowKit Go.Ev
def encN (s:ByteArray):List AV:=[.g (.string s)]
inductive Itm where
 | mk (kind:Int) (sels:List Cx) (decls:List Dl) (names:List ByteArray) (mn mx:Int) (vals:List Vl) (l:List Itm)
namespace Itm
def kind:Itm→Int | .mk k _ _ _ _ _ _ _=>k
def sels:Itm→List Cx | .mk _ s _ _ _ _ _ _=>s
def decls:Itm→List Dl | .mk _ _ d _ _ _ _ _=>d
def names:Itm→List ByteArray | .mk _ _ _ n _ _ _ _=>n
def mn:Itm→Int | .mk _ _ _ _ m _ _ _=>m
def mx:Itm→Int | .mk _ _ _ _ _ m _ _=>m
def vals:Itm→List Vl | .mk _ _ _ _ _ _ v _=>v
def l:Itm→List Itm | .mk _ _ _ _ _ _ _ l=>l
end Itm
mutual
def encI:Itm→List AV
 | .mk k s d n mn mx v l=>[.g (.int .i64 k),.sl s.length 2 (s.flatMap encC),.sl d.length 3 (d.flatMap encD),.sl n.length 1 (n.flatMap encN),.g (.int .i64 mn),.g (.int .i64 mx),.sl v.length 5 (v.flatMap encV),.sl l.length 8 (encIs l)]
def encIs:List Itm→List AV
 | []=>[]
 | x::xs=>encI x++encIs xs
end
theorem encIs_flat:∀ l:List Itm,encIs l=l.flatMap encI
 | []=>by rw [encIs];rfl
 | x::xs=>by rw [encIs,encIs_flat xs,List.flatMap_cons]
theorem encI_len (x:Itm):(encI x).length=8:=by cases x;rw [encI];rfl
mutual
def gsI:Itm→Bool
 | .mk _ s _ _ _ _ _ l=>(s.all fun c=>decide (c.parts.length≤140737488351232))&&gsIs l
def gsIs:List Itm→Bool
 | []=>true
 | x::xs=>gsI x&&gsIs xs
end
theorem gsIs_all:∀ {l:List Itm},(∀ x∈l,gsI x=true)→gsIs l=true
 | [],_=>by rw [gsIs]
 | x::xs,h=>by rw [gsIs,h x List.mem_cons_self,gsIs_all (fun y hy=>h y (List.mem_cons_of_mem _ hy))];rfl
theorem gsIs_at:∀ {l:List Itm},gsIs l=true→∀ x∈l,(∀ c∈x.sels,c.parts.length≤140737488351232)∧gsIs x.l=true
 | [],_,x,hx=>by simp at hx
 | y::l,h,x,hx=>by
   rw [gsIs,Bool.and_eq_true] at h;rcases List.mem_cons.1 hx with rfl | hx
   ·cases x
    rw [gsI,Bool.and_eq_true,List.all_eq_true] at h;exact ⟨fun c hc=>of_decide_eq_true (h.1.1 c hc),h.1.2⟩
   ·exact gsIs_at h.2 x hx
theorem itm_lt {l:List Itm} {x:Itm} (h:x∈l):SizeOf.sizeOf x.l<SizeOf.sizeOf l:=by
 have h1:=List.sizeOf_lt_of_mem h
 cases x
 simp [Itm.l] at h1 ⊢;omega
theorem c_decl:Tryz.prog.cellsOf 134=3:=by kernel_rfl
theorem c_decls:Tryz.prog.cellsOf 51=1:=by kernel_rfl
theorem c_strs:Tryz.prog.cellsOf 25=1:=by kernel_rfl
theorem c_cxs:Tryz.prog.cellsOf 50=1:=by kernel_rfl
theorem c_item:Tryz.prog.cellsOf 53=8:=by kernel_rfl
theorem c_items:Tryz.prog.cellsOf 46=1:=by kernel_rfl
theorem c_bool:Tryz.prog.cellsOf 4=1:=by kernel_rfl
section
variable {H:Type} {enc:TypeId×Value→H} {W:World} {sp:Nat→Bool} {held:Bool}
set_option maxRecDepth 100000 in
theorem open_decl (fuel:Nat) (cs:List Value) (x:DataW H×List MemPlace) (h:DataW.trod enc Tryz.prog W 0 sp held fuel 134 cs=some x) (hfit:Fits Tryz.prog 134 x.1):∃ a:Dl,Ats W (encD a) cs∧True:=by
 obtain ⟨hl,n,rfl,hf⟩:=field_of Tryz.underlying134 h;rw [c_decl] at hl;obtain ⟨c0,c1,c2,rfl⟩:∃ c0 c1 c2,cs=[c0,c1,c2]:=by
  match cs,hl with
  | [a,b,c],_=>exact ⟨a,b,c,rfl⟩
 obtain ⟨y0,h0,-⟩:∃ y,DataW.trod enc Tryz.prog W 0 sp held n 9 ((List.drop 0 [c0,c1,c2]).take (Tryz.prog.cellsOf 9))=some y∧(Fits Tryz.prog 134 x.1→Fits Tryz.prog 9 y.1):=hf 0 _ rfl;obtain ⟨y1,h1,f1⟩:∃ y,DataW.trod enc Tryz.prog W 0 sp held n 27 ((List.drop 1 [c0,c1,c2]).take (Tryz.prog.cellsOf 27))=some y∧(Fits Tryz.prog 134 x.1→Fits Tryz.prog 27 y.1):=hf 1 _ rfl;obtain ⟨y2,h2,-⟩:∃ y,DataW.trod enc Tryz.prog W 0 sp held n 4 ((List.drop 2 [c0,c1,c2]).take (Tryz.prog.cellsOf 4))=some y∧(Fits Tryz.prog 134 x.1→Fits Tryz.prog 4 y.1):=hf 2 _ rfl;simp only [c_str,c_vals,c_bool,List.drop,List.take] at h0 h1 h2;obtain ⟨s,e0,-⟩:=DataW.trod_string Tryz.underlying9 h0;obtain ⟨l,v,e1,hv,-,-⟩:=open_sl (fun _=>True) encV 5 encV_len (by decide) Tryz.underlying27 c_val (fun m _=>open_val m) h1 (f1 hfit);obtain ⟨b,e2,-⟩:=DataW.trod_bool Tryz.underlying4 h2;simp only [List.cons.injEq,and_true] at e0 e1 e2;subst e0 e1 e2;exact ⟨⟨s,l,b⟩,VRs.cons_mk rfl (VRs.cons_mk hv (VRs.cons_mk rfl (by rw [VRs]))),trivial⟩
theorem open_name (fuel:Nat) (cs:List Value) (x:DataW H×List MemPlace) (h:DataW.trod enc Tryz.prog W 0 sp held fuel 9 cs=some x) (_:Fits Tryz.prog 9 x.1):∃ a:ByteArray,Ats W (encN a) cs∧True:=by
 obtain ⟨s,e0,-⟩:=DataW.trod_string Tryz.underlying9 h;subst e0;exact ⟨s,VRs.cons_mk rfl (by rw [VRs]),trivial⟩
def encSh (l:List Itm):List AV:=[.sl l.length 8 (l.flatMap encI)]
end
end Go.Proofs.YtlnaihkombcbcaaGreat
namespace Go.Proofs.YtlnaihkombcbcaaGreat
open Go.RowKit Go.Ev
theorem okVs_append:∀ (a b:List Vl),okVs (a++b)=(okVs a&&okVs b)
 | [],b=>by simp [okVs]
 | x::a,b=>by simp only [List.cons_append,okVs,okVs_append a b,Bool.and_assoc]
theorem okVs_snoc {l:List Vl} {k:Nat} (hk:k<l.length) (h:okVs (l.take k)=true) (ht:l[k].text.size≤1000000) (hl:okVs l[k].l=true):okVs (l.take (k+1))=true:=by
 rw [List.take_succ_eq_append_getElem hk,okVs_append,h,okVs,okVs,okV_eq,hl,decide_eq_true ht];rfl
def FewPostO (l:List Vl) (left:Int) (w:World) (e:Ending) (w':World):Prop :=
 ∃ r:Int,e=.returned (.int .i64 r)∧-1≤r∧r≤left∧Hid (0≤r→(cntVs l:Int)+r≤left∧okVs l=true)∧Below w.heap.size w w'
set_option maxHeartbeats 4000000 in
theorem few3_any (N:Nat):∀ (l:List Vl),SizeOf.sizeOf l≤N→∀ (v:Value) (left deep:Int) (w:World),At w (.sl l.length 5 (l.flatMap encV)) v→0≤left→left≤1000→-1000≤deep→deep≤1000 →
 Calls Tryz.prog 73 #[v,.int .i64 left,.int .i64 deep] w (FewPostO l left w):=by
 induction N with
 | zero=>intro l hl;cases l <;> simp at hl <;> omega
 | succ N ih =>
   intro l hl v left deep w hv h0 h1 h2 h3
   by_cases hd:deep<1
   ·obtain ⟨ad,cap,rfl,-⟩:=At.sl_form hv
    clear ih
    go_enter Tryz.func73,Tryz.ntmps73
    go_wp2
    go_ret
    exact ⟨-1,rfl,by omega,by omega,Lib.hid fun h=>by omega,Below.refl _ _⟩
   rcases sl_cells encV 5 encV_len hv with ⟨rfl,ad,cap,rfl⟩ | ⟨b,o,cap,rfl,hcap,hpos,hc⟩
   ·go_enter Tryz.func73,Tryz.ntmps73
    go_wp2
    go_loopw [1,7] (fun v1 i wr=>i=.int .i64 0∧v1=.int .i64 left∧wr=w) (fun _ _ _=>0)
    case atStart=>exact ⟨rfl,rfl,rfl⟩
    case round =>
     obtain ⟨rfl,rfl,rfl⟩:=hrel
     go_wp2
     go_ret
     exact ⟨left,rfl,by omega,Int.le_refl _,Lib.hid fun _=>⟨by simp [cntVs],by rw [okVs]⟩,Below.refl _ _⟩
   ·have IH:=Lib.hid fun k (hk:k<l.length)=>ih l[k].l (by have:=vl_lt (List.getElem_mem hk);omega)
    have HC:=Lib.hid fun k (hk:k<l.length)=>vl_cells hc hk;have HS:=Lib.hid fun k (hk:k<l.length)=>cntVs_snoc hk;have HO:=Lib.hid fun k (hk:k<l.length)=>okVs_snoc hk;have hlen:=cntVs_len;have HL:=Lib.hid hlen;clear ih hc hl hv hlen
    go_enter Tryz.func73,Tryz.ntmps73
    go_wp2
    go_loopw [1,7] (fun v1 i wr=>∃ (k:Nat) (m:Int),k≤l.length∧(k:Int)≤left+1∧i=.int .i64 k∧v1=.int .i64 m∧-1≤m∧m≤left∧Hid (0≤m→(cntVs (l.take k):Int)+m≤left∧okVs (l.take k)=true)∧Below w.heap.size w wr) (fun _ i _=>l.length - (intOf i).toNat)
    case atStart=>exact ⟨0,left,Nat.zero_le _,by omega,rfl,rfl,by omega,Int.le_refl _,Lib.hid fun _=>⟨by simp [cntVs],by rw [List.take_zero,okVs]⟩,Below.refl _ _⟩
    case round =>
     obtain ⟨k,m,hk,hkl,rfl,rfl,hm1,hm2,hh,hB⟩:=hrel
     by_cases hlt:k<l.length
     ·by_cases hm:0≤m
      ·have hkm:(k:Int)+m≤left:=by
        have g1:=(hh.out hm).1;have g2:=HL.out (l.take k);rw [List.length_take] at g2;omega
       obtain ⟨-,-,c2,-,ad,cp,c4,ha⟩:=HC.out k hlt;have c2':=cell_up c2 hB;have c4':=cell_up c4 hB;have HREC:=Lib.hid fun hm9:0≤m - 1=>IH.out k hlt _ (m - 1) (deep - 1) wr (ha.below hB) hm9 (by omega) (by omega) (by omega);have HSN:=HS.out k hlt;have HSO:=HO.out k hlt;have HN:=Lib.hid (HL.out l[k].l);have hcn0:l[k].l.length=0→cntVs l[k].l=0∧okVs l[k].l=true:=by
        intro h9;rw [List.eq_nil_of_length_eq_zero h9];exact ⟨by simp [cntVs],by rw [okVs]⟩
       have HN0:=Lib.hid hcn0;clear c2 c4 ha hcn0;generalize l[k].text=tx at *;generalize l[k].l=ll at *
       by_cases hn1:tx.size≤100
       ·by_cases hm9:0≤m - 1
        ·by_cases hll:0<ll.length
         ·go_wp2_with fail
          refine (HREC.out hm9).mono ?_;rintro e w2 ⟨r,rfl,hr1,hr2,hr3,hB2⟩
          go_wp2
          go_roundw
          case rel =>
           refine ⟨k+1,r,by omega,by push_cast;omega,by go_num,rfl,hr1,by omega,Lib.hid fun hr=>?_,bup hB hB2⟩;obtain ⟨g1,g3⟩:=hh.out hm;obtain ⟨g2,g4⟩:=hr3.out hr;refine ⟨?_,HSO g3 (by omega) g4⟩;rw [HSN]
           push_cast
           omega
          case measure=>simp [intOf];omega
         ·have g3:=HN0.out (by omega)
          go_wp2
          go_roundw
          case rel =>
           refine ⟨k+1,m - 1,by omega,by push_cast;omega,by go_num,by go_num,by omega,by omega,Lib.hid fun hr=>?_,hB⟩;obtain ⟨g1,g4⟩:=hh.out hm;refine ⟨?_,HSO g4 (by omega) g3.2⟩;rw [HSN,g3.1]
           push_cast
           omega
          case measure=>simp [intOf];omega
        ·go_wp2
         go_roundw
         case rel =>
          refine ⟨k+1,m - 1,by omega,by push_cast;omega,by go_num,by go_num,by omega,by omega,Lib.hid fun hr=>by omega,hB⟩
         case measure=>simp [intOf];omega
       ·go_wp2
        go_ret
        exact ⟨-1,rfl,by omega,by omega,Lib.hid fun h=>by omega,hB⟩
      ·go_wp2
       go_ret
       exact ⟨m,rfl,hm1,hm2,Lib.hid fun h=>by omega,hB⟩
     ·obtain rfl:k=l.length:=by omega
      have hh':=hh.out;rw [List.take_length] at hh';have HH:=Lib.hid hh';clear hh' hh
      go_wp2
      go_ret
      exact ⟨m,rfl,hm1,hm2,HH,hB⟩
def Small3Post (l:List Vl) (most:Int) (w:World) (e:Ending) (w':World):Prop:=∃ b:Bool,e=.returned (.bool b)∧Hid (b=true→(cntVs l:Int)≤most∧okVs l=true)∧Below w.heap.size w w'
theorem small3_any (l:List Vl) (v:Value) (most:Int) (w:World) (hv:At w (.sl l.length 5 (l.flatMap encV)) v) (h0:0≤most) (h1:most≤1000) :
 Calls Tryz.prog 25 #[v,.int .i64 most] w (Small3Post l most w):=by
 have H:=Lib.hid (few3_any _ l (Nat.le_refl _) v most 100 w hv h0 h1 (by omega) (by omega));obtain ⟨ad,cap,rfl,-⟩:=At.sl_form hv;clear hv
 go_enter Tryz.func25,Tryz.ntmps25
 go_wp2_with fail
 refine H.out.mono ?_;rintro e w2 ⟨r,rfl,hr1,hr2,hr3,hB⟩
 by_cases hr:0≤r
 ·go_wp2
  go_ret
  exact ⟨true,by simp,Lib.hid fun _=>by obtain ⟨h8,h9⟩:=hr3.out hr;exact ⟨by omega,h9⟩,hB⟩
 ·go_wp2
  go_ret
  exact ⟨false,by simp;omega,Lib.hid (fun h=>Bool.noConfusion h),hB⟩
def okD (d:Dl):Prop:=cntVs d.l≤40∧okVs d.l=true∧d.name.size≤100
def okDs (l:List Dl):Prop:=l.length≤20∧∀ d∈l,okD d
mutual
def okI:Itm→Prop
 | .mk _ _ d n _ _ v l=>okDs d∧n.length≤20∧cntVs v≤100∧okVs v=true∧okIs l
def okIs:List Itm→Prop
 | []=>True
 | x::xs=>okI x∧okIs xs
end
mutual
def cntI:Itm→Nat
 | .mk _ _ _ _ _ _ _ l=>1+cntIs l
def cntIs:List Itm→Nat
 | []=>0
 | x::xs=>cntI x+cntIs xs
end
theorem okI_eq (x:Itm):okI x↔okDs x.decls∧x.names.length≤20∧cntVs x.vals≤100∧okVs x.vals=true∧okIs x.l:=by cases x;rw [okI];rfl
theorem cntI_eq (x:Itm):cntI x=1+cntIs x.l:=by cases x;rw [cntI];rfl
theorem okIs_append:∀ (a b:List Itm),okIs (a++b)↔okIs a∧okIs b
 | [],b=>by simp [okIs]
 | x::a,b=>by simp only [List.cons_append,okIs,okIs_append a b,and_assoc]
theorem cntIs_append:∀ (a b:List Itm),cntIs (a++b)=cntIs a+cntIs b
 | [],b=>by simp [cntIs]
 | x::a,b=>by simp only [List.cons_append,cntIs,cntIs_append a b];omega
theorem okIs_at:∀ {l:List Itm},okIs l→∀ x∈l,okI x
 | [],_,x,hx=>by simp at hx
 | y::l,h,x,hx=>by
   rw [okIs] at h;rcases List.mem_cons.1 hx with rfl | hx
   ·exact h.1
   ·exact okIs_at h.2 x hx
theorem okIs_snoc {l:List Itm} {k:Nat} (hk:k<l.length) (h:okIs (l.take k)) (hx:okI l[k]):okIs (l.take (k+1)):=by
 rw [List.take_succ_eq_append_getElem hk,okIs_append];exact ⟨h,hx,trivial⟩
theorem cntIs_snoc {l:List Itm} {k:Nat} (hk:k<l.length):cntIs (l.take (k+1))=cntIs (l.take k)+1+cntIs l[k].l:=by
 rw [List.take_succ_eq_append_getElem hk,cntIs_append];simp only [cntIs,cntI_eq];omega
theorem cntIs_len:∀ (a:List Itm),a.length≤cntIs a
 | []=>by simp [cntIs]
 | x::a=>by
   have:=cntIs_len a;simp only [List.length_cons,cntIs,cntI_eq];omega
theorem dl_cells {w:World} {b o:Nat} {ds:List Dl} (h:∀ k (hk:k<ds.length) j a,(encD ds[k])[j]?=some a→∃ x,w.cell? ⟨b,o+(k*3+j),none⟩=some x∧At w a x) {k:Nat} (hk:k<ds.length) :
 w.cell? ⟨b,o+k*3,none⟩=some (.string ds[k].name)∧(∃ ad cap,w.cell? ⟨b,o+k*3+1,none⟩=some (.slice ad ds[k].l.length cap)∧At w (.sl ds[k].l.length 5 (ds[k].l.flatMap encV)) (.slice ad ds[k].l.length cap)) ∧
  w.cell? ⟨b,o+k*3+2,none⟩=some (.bool ds[k].imp):=by
 have h9:=h k hk;obtain ⟨x0,e0,v0⟩:=h9 0 _ rfl;obtain ⟨x1,e1,v1⟩:=h9 1 _ rfl;obtain ⟨x2,e2,v2⟩:=h9 2 _ rfl;obtain rfl:x0=_:=v0;obtain rfl:x2=_:=v2;have v1':=v1;obtain ⟨ad,cap,rfl,-⟩:=At.sl_form v1;simp only [Nat.add_zero,←Nat.add_assoc] at e0 e1 e2;exact ⟨e0,⟨ad,cap,e1,v1'⟩,e2⟩
theorem itB_cells {z:Nat} {w:World} {b o:Nat} {l:List Itm} (h:∀ k (hk:k<l.length) j a,(encI l[k])[j]?=some a→∃ x,w.cell? ⟨b,o+(k*8+j),none⟩=some x∧AtB z w a x) {k:Nat} (hk:k<l.length) :
 ∃ a1 c1 a2 c2 a3 c3 a6 c6 a7 c7,w.cell? ⟨b,o+k*8,none⟩=some (.int .i64 l[k].kind)∧w.cell? ⟨b,o+k*8+1,none⟩=some (.slice a1 l[k].sels.length c1)∧w.cell? ⟨b,o+k*8+2,none⟩=some (.slice a2 l[k].decls.length c2) ∧
   w.cell? ⟨b,o+k*8+3,none⟩=some (.slice a3 l[k].names.length c3)∧w.cell? ⟨b,o+k*8+4,none⟩=some (.int .i64 l[k].mn)∧w.cell? ⟨b,o+k*8+5,none⟩=some (.int .i64 l[k].mx) ∧
   w.cell? ⟨b,o+k*8+6,none⟩=some (.slice a6 l[k].vals.length c6)∧w.cell? ⟨b,o+k*8+7,none⟩=some (.slice a7 l[k].l.length c7) ∧
   AtB z w (.sl l[k].sels.length 2 (l[k].sels.flatMap encC)) (.slice a1 l[k].sels.length c1)∧AtB z w (.sl l[k].decls.length 3 (l[k].decls.flatMap encD)) (.slice a2 l[k].decls.length c2) ∧
   AtB z w (.sl l[k].names.length 1 (l[k].names.flatMap encN)) (.slice a3 l[k].names.length c3)∧AtB z w (.sl l[k].vals.length 5 (l[k].vals.flatMap encV)) (.slice a6 l[k].vals.length c6) ∧
   AtB z w (.sl l[k].l.length 8 (l[k].l.flatMap encI)) (.slice a7 l[k].l.length c7):=by
 have h9:=h k hk;generalize l[k]=x at *;obtain ⟨kd,ss,ds,ns,mn,mx,vs,ll⟩:=x;rw [encI,encIs_flat] at h9;obtain ⟨x0,e0,v0⟩:=h9 0 _ rfl;obtain ⟨x1,e1,v1⟩:=h9 1 _ rfl;obtain ⟨x2,e2,v2⟩:=h9 2 _ rfl;obtain ⟨x3,e3,v3⟩:=h9 3 _ rfl;obtain ⟨x4,e4,v4⟩:=h9 4 _ rfl;obtain ⟨x5,e5,v5⟩:=h9 5 _ rfl;obtain ⟨x6,e6,v6⟩:=h9 6 _ rfl;obtain ⟨x7,e7,v7⟩:=h9 7 _ rfl;obtain rfl:x0=_:=v0;obtain rfl:x4=_:=v4;obtain rfl:x5=_:=v5;have v1':=v1;have v2':=v2;have v3':=v3;have v6':=v6;have v7':=v7;obtain ⟨a1,c1,rfl,-⟩:=AtB.sl_form v1;obtain ⟨a2,c2,rfl,-⟩:=AtB.sl_form v2;obtain ⟨a3,c3,rfl,-⟩:=AtB.sl_form v3;obtain ⟨a6,c6,rfl,-⟩:=AtB.sl_form v6;obtain ⟨a7,c7,rfl,-⟩:=AtB.sl_form v7;simp only [Nat.add_zero,←Nat.add_assoc] at e0 e1 e2 e3 e4 e5 e6 e7;exact ⟨a1,c1,a2,c2,a3,c3,a6,c6,a7,c7,e0,e1,e2,e3,e4,e5,e6,e7,v1',v2',v3',v6',v7'⟩
def itmO (kd:Int) (a1:Option Addr) (n1 c1:Nat) (a2:Option Addr) (n2 c2:Nat) (a3:Option Addr) (n3 c3:Nat) (mn mx:Int) (a6:Option Addr) (n6 c6:Nat) (a7:Option Addr) (n7 c7:Nat):Obj :=
 .cells #[.int .i64 kd,.slice a1 n1 c1,.slice a2 n2 c2,.slice a3 n3 c3,.int .i64 mn,.int .i64 mx,.slice a6 n6 c6,.slice a7 n7 c7] 53
theorem itmO_cells {W:World} {B:Nat} {kd mn mx:Int} {a1 a2 a3 a6 a7:Option Addr} {n1 c1 n2 c2 n3 c3 n6 c6 n7 c7:Nat} (h:W.heap[B]?=some (itmO kd a1 n1 c1 a2 n2 c2 a3 n3 c3 mn mx a6 n6 c6 a7 n7 c7)) :
 W.cell? ⟨B,0,none⟩=some (.int .i64 kd)∧W.cell? ⟨B,1,none⟩=some (.slice a1 n1 c1)∧W.cell? ⟨B,2,none⟩=some (.slice a2 n2 c2)∧W.cell? ⟨B,3,none⟩=some (.slice a3 n3 c3) ∧
  W.cell? ⟨B,4,none⟩=some (.int .i64 mn)∧W.cell? ⟨B,5,none⟩=some (.int .i64 mx)∧W.cell? ⟨B,6,none⟩=some (.slice a6 n6 c6)∧W.cell? ⟨B,7,none⟩=some (.slice a7 n7 c7):=by
 unfold itmO at h;refine ⟨?_,?_,?_,?_,?_,?_,?_,?_⟩ <;> (rw [Lib.cell_of_heap h];rfl)
def Small7Post (l:List Dl) (w:World) (e:Ending) (w':World):Prop:=∃ b:Bool,e=.returned (.bool b)∧Hid (b=true→okDs l)∧Below w.heap.size w w'
set_option maxHeartbeats 4000000 in
theorem small7_any (l:List Dl) (v:Value) (w:World) (hv:At w (.sl l.length 3 (l.flatMap encD)) v) :
 Calls Tryz.prog 200 #[v,.int .i64 40] w (Small7Post l w):=by
 rcases sl_cells encD 3 encD_len hv with ⟨rfl,ad,cap,rfl⟩ | ⟨b,o,cap,rfl,hcap,hpos,hc⟩
 ·go_enter Tryz.func200,Tryz.ntmps200
  go_wp2
  go_loopw [5] (fun i wr=>i=.int .i64 0∧wr=w) (fun _ _=>0)
  case atStart=>exact ⟨rfl,rfl⟩
  case round =>
   obtain ⟨rfl,rfl⟩:=hrel
   go_wp2
   go_ret
   exact ⟨true,rfl,Lib.hid fun _=>⟨by simp,by simp⟩,Below.refl _ _⟩
 ·by_cases hl20:l.length≤20
  ·have HC:=Lib.hid fun k (hk:k<l.length)=>dl_cells hc hk
   clear hc hv
   go_enter Tryz.func200,Tryz.ntmps200
   go_wp2
   go_loopw [5] (fun i wr=>∃ k:Nat,k≤l.length∧i=.int .i64 k∧Hid (∀ d∈l.take k,okD d)∧Below w.heap.size w wr) (fun i _=>l.length - (intOf i).toNat)
   case atStart=>exact ⟨0,Nat.zero_le _,rfl,Lib.hid (by simp),Below.refl _ _⟩
   case round =>
    obtain ⟨k,hk,rfl,hh,hB⟩:=hrel
    by_cases hlt:k<l.length
    ·obtain ⟨c0,⟨ad,cp,c1,ha⟩,-⟩:=HC.out k hlt
     have c0':=cell_up c0 hB;have c1':=cell_up c1 hB;have HS:=Lib.hid (small3_any _ _ 40 wr (ha.below hB) (by decide) (by decide));have HF:=Lib.hid (forall_take_succ (p:=okD) hlt hh.out);unfold okD at HF;clear c0 c1 ha;generalize l[k].name=nm at *;generalize l[k].l=ll at *
     go_wp2_with fail
     refine HS.out.mono ?_;rintro e w2 ⟨q,rfl,hq,hB2⟩
     cases q
     ·go_wp2
      go_ret
      exact ⟨false,rfl,Lib.hid (fun h=>by cases h),bup hB hB2⟩
     ·have c02:=cell_up c0' (Below.mono hB2 (Nat.le_refl _))
      by_cases hn:nm.size≤100
      ·go_wp2
       go_roundw
       case rel=>exact ⟨k+1,by omega,by go_num,Lib.hid (HF.out ⟨by have:=(hq.out trivial).1;omega,(hq.out trivial).2,hn⟩),bup hB hB2⟩
       case measure=>simp [intOf];omega
      ·go_wp2
       go_ret
       exact ⟨false,rfl,Lib.hid (fun h=>by cases h),bup hB hB2⟩
    ·obtain rfl:k=l.length:=by omega
     have hh':=hh.out;rw [List.take_length] at hh';have HH:=Lib.hid hh';clear hh' hh
     go_wp2
     go_ret
     exact ⟨true,by simp;omega,Lib.hid fun _=>⟨hl20,HH.out⟩,hB⟩
  ·clear hc hv
   go_enter Tryz.func200,Tryz.ntmps200
   go_wp2
   go_loopw [5] (fun i wr=>i=.int .i64 0∧wr=w) (fun _ _=>0)
   case atStart=>exact ⟨rfl,rfl⟩
   case round =>
    obtain ⟨rfl,rfl⟩:=hrel
    go_wp2
    go_ret
    exact ⟨false,by simp;omega,Lib.hid (fun h=>by cases h),Below.refl _ _⟩
def LeftPost (l:List Itm) (n:Int) (w:World) (e:Ending) (w':World):Prop :=
 ∃ r:Int,e=.returned (.int .i64 r)∧-1≤r∧r≤n∧Hid (0≤r→(cntIs l:Int)+r≤n∧okIs l)∧Below w.heap.size w w'
theorem neg_post {l:List Itm} {n:Int} {w w':World} (h:-1≤n) (hB:Below w.heap.size w w'):LeftPost l n w (.returned (.int .i64 (-1))) w':=⟨-1,rfl,by omega,by omega,Lib.hid fun h=>by omega,hB⟩
set_option maxRecDepth 100000 in
set_option maxHeartbeats 4000000 in
theorem left8_any (N:Nat):∀ (l:List Itm),SizeOf.sizeOf l≤N→gsIs l=true→∀ (v:Value) (n deep:Int) (w:World),At w (.sl l.length 8 (l.flatMap encI)) v→0≤n→n≤1000→-1000≤deep→deep≤1000 →
 Calls Tryz.prog 134 #[v,.int .i64 n,.int .i64 deep] w (LeftPost l n w):=by
 induction N with
 | zero=>intro l hl;cases l <;> simp at hl <;> omega
 | succ N ih =>
   intro l hl hgs v n deep w hv h0 h1 h2 h3
   by_cases hd:deep<1
   ·obtain ⟨ad,cap,rfl,-⟩:=At.sl_form hv
    clear ih
    go_enter Tryz.func134,Tryz.ntmps134
    go_wp2
    go_ret
    exact neg_post (by omega) (Below.refl _ _)
   rcases slB_cells encI 8 encI_len (by decide) (At.toB hv) with ⟨rfl,ad,cap,rfl⟩ | ⟨b,o,cap,rfl,hcap,hpos,hbz,hc⟩
   ·go_enter Tryz.func134,Tryz.ntmps134
    go_wp2
    go_loopw [1,7] (fun v1 i wr=>i=.int .i64 0∧v1=.int .i64 n∧wr=w) (fun _ _ _=>0)
    case atStart=>exact ⟨rfl,rfl,rfl⟩
    case round =>
     obtain ⟨rfl,rfl,rfl⟩:=hrel
     go_wp2
     go_ret
     exact ⟨n,rfl,by omega,Int.le_refl _,Lib.hid fun _=>⟨by simp [cntIs],by rw [okIs];trivial⟩,Below.refl _ _⟩
   ·have IH := Lib.hid fun k (hk:k<l.length)=>ih l[k].l (by have:=itm_lt (List.getElem_mem hk);omega) (gsIs_at hgs _ (List.getElem_mem hk)).2
    have HC:=Lib.hid fun k (hk:k<l.length)=>itB_cells hc hk;have HG:=Lib.hid fun k (hk:k<l.length)=>(gsIs_at hgs _ (List.getElem_mem hk)).1;have HS:=Lib.hid fun k (hk:k<l.length)=>And.intro (cntIs_snoc hk) (fun (h:okIs (l.take k)) (h':okDs l[k].decls∧l[k].names.length≤20∧cntVs l[k].vals≤100∧okVs l[k].vals=true∧okIs l[k].l)=>okIs_snoc hk h ((okI_eq l[k]).2 h'));have HL:=Lib.hid cntIs_len;clear ih hc hl hv hgs
    go_enter Tryz.func134,Tryz.ntmps134
    go_wp2
    go_loopw [1,7] (fun v1 i wr=>∃ (k:Nat) (m:Int),k≤l.length∧(k:Int)≤n+1∧i=.int .i64 k∧v1=.int .i64 m∧-1≤m∧m≤n∧Hid (0≤m→(cntIs (l.take k):Int)+m≤n∧okIs (l.take k))∧Below w.heap.size w wr) (fun _ i _=>l.length - (intOf i).toNat)
    case atStart=>exact ⟨0,n,Nat.zero_le _,by omega,rfl,rfl,by omega,Int.le_refl _,Lib.hid fun _=>⟨by simp [cntIs],by rw [List.take_zero,okIs];trivial⟩,Below.refl _ _⟩
    case round =>
     obtain ⟨k,m,hk,hkl,rfl,rfl,hm1,hm2,hh,hB⟩:=hrel
     by_cases hlt:k<l.length
     ·by_cases hm:0≤m
      ·have hkm : (k:Int)+m≤n:=by
        have g1:=(hh.out hm).1;have g2:=HL.out (l.take k);rw [List.length_take] at g2;omega
       obtain ⟨a1,p1,a2,p2,a3,p3,a6,p6,a7,p7,d0,d1,d2,d3,d4,d5,d6,d7,v1,v2,v3,v6,v7⟩:=HC.out k hlt;have up:∀ {j:Nat} {x:Value},w.cell? ⟨b,j,none⟩=some x→wr.cell? ⟨b,j,none⟩=some x:=fun h=>(hB.cell (p:=⟨b,_,none⟩) hbz).trans h;replace d0:=up d0;replace d1:=up d1;replace d2:=up d2;replace d3:=up d3;replace d4:=up d4;replace d5:=up d5;replace d6:=up d6;replace d7:=up d7;have HG2:=HG.out k hlt;have hnmc:=Lib.hid (slB_cells encN 1 (fun _=>rfl) (by decide) v3);have H4:=Lib.hid fun w' (h:Below w.heap.size w w')=>small4_any _ _ 60 w' (AtB.toAt (AtB.below v1 h) h.size) HG2 (by decide) (by decide);have H7:=Lib.hid fun w' (h:Below w.heap.size w w')=>small7_any _ _ w' (AtB.toAt (AtB.below v2 h) h.size);have H2:=Lib.hid fun w' (h:Below w.heap.size w w')=>small3_any _ _ 100 w' (AtB.toAt (AtB.below v6 h) h.size) (by decide) (by decide);have HREC:=Lib.hid fun w' (h:Below w.heap.size w w') (m':Int) hm9 hm8=>IH.out k hlt _ m' (deep - 1) w' (AtB.toAt (AtB.below v7 h) h.size) hm9 hm8 (by omega) (by omega);have HSN:=Lib.hid (HS.out k hlt);have HLL:=Lib.hid (fun h9:l[k].l.length=0=>(by rw [List.eq_nil_of_length_eq_zero h9];exact ⟨by simp [cntIs],by rw [okIs];trivial⟩:cntIs l[k].l=0∧okIs l[k].l));clear v1 v2 v3 v6 v7 HG2 HG IH HS up HC;generalize l[k].kind=kd at *;generalize l[k].sels=ss at *;generalize l[k].decls=ds at *;generalize l[k].names=ns at *;generalize l[k].mn=mn at *;generalize l[k].mx=mx at *;generalize l[k].vals=vs at *;generalize l[k].l=ll at *
       have HX:∀ w',Below (wr.heap.size+1) (wr.alloc (itmO kd a1 ss.length p1 a2 ds.length p2 a3 ns.length p3 mn mx a6 vs.length p6 a7 ll.length p7)) w'→w'.heap[wr.heap.size]?=some (itmO kd a1 ss.length p1 a2 ds.length p2 a3 ns.length p3 mn mx a6 vs.length p6 a7 ll.length p7):=fun w' h =>
        (h.block _ (Nat.lt_succ_self _)).trans (World.alloc_heap_new wr _)
       have HXB:∀ w',Below (wr.heap.size+1) (wr.alloc (itmO kd a1 ss.length p1 a2 ds.length p2 a3 ns.length p3 mn mx a6 vs.length p6 a7 ll.length p7)) w'→Below w.heap.size w w':=fun w' h =>
        bup hB (bup (below_alloc wr _) (by rw [World.size_alloc];exact h))
       have HK:=Lib.hid (And.intro HX HXB);have b0:Below (wr.heap.size+1) (wr.alloc (itmO kd a1 ss.length p1 a2 ds.length p2 a3 ns.length p3 mn mx a6 vs.length p6 a7 ll.length p7)) (wr.alloc (itmO kd a1 ss.length p1 a2 ds.length p2 a3 ns.length p3 mn mx a6 vs.length p6 a7 ll.length p7)):=Below.refl _ _;have hsz0:(wr.alloc (itmO kd a1 ss.length p1 a2 ds.length p2 a3 ns.length p3 mn mx a6 vs.length p6 a7 ll.length p7)).heap.size=wr.heap.size+1:=by simp
       have B0:=Lib.hid b0;have SZ0:=Lib.hid hsz0;clear HX HXB b0 hsz0;have cont:∀ (w2 w3:World),Below (wr.heap.size+1) (wr.alloc (itmO kd a1 ss.length p1 a2 ds.length p2 a3 ns.length p3 mn mx a6 vs.length p6 a7 ll.length p7)) w2→Below w2.heap.size w2 w3→Below (wr.heap.size+1) (wr.alloc (itmO kd a1 ss.length p1 a2 ds.length p2 a3 ns.length p3 mn mx a6 vs.length p6 a7 ll.length p7)) w3   := fun _ _ h k=>h.trans (k.mono (by have:=h.size;rw [SZ0.out] at this;exact this));have CONT:=Lib.hid cont;clear cont
       by_cases hn20:ns.length≤20
       ·go_wp2_with fail
        refine (H4.out _ (HK.out.2 _ B0.out)).mono ?_;rintro e w2 ⟨q,rfl,hq4,hB2⟩;have b2:=CONT.out _ _ B0.out hB2;obtain ⟨x0,x1,x2,x3,x4,x5,x6,x7⟩:=itmO_cells (HK.out.1 _ b2)
        cases q
        ·go_wp2
         go_ret
         exact neg_post (by omega) (HK.out.2 _ b2)
        ·go_wp2_with fail
         refine (H7.out _ (HK.out.2 _ b2)).mono ?_;rintro e w3 ⟨q,rfl,hq7,hB3⟩;have b3:=CONT.out _ _ b2 hB3;clear x0 x1 x2 x3 x4 x5 x6 x7;obtain ⟨x0,x1,x2,x3,x4,x5,x6,x7⟩:=itmO_cells (HK.out.1 _ b3)
         cases q
         ·go_wp2
          go_ret
          exact neg_post (by omega) (HK.out.2 _ b3)
         ·go_wp2_with fail
          refine (H2.out _ (HK.out.2 _ b3)).mono ?_;rintro e w4 ⟨q,rfl,hq2,hB4⟩;have b4:=CONT.out _ _ b3 hB4;clear x0 x1 x2 x3 x4 x5 x6 x7;obtain ⟨x0,x1,x2,x3,x4,x5,x6,x7⟩:=itmO_cells (HK.out.1 _ b4)
          cases q
          ·go_wp2
           go_ret
           exact neg_post (by omega) (HK.out.2 _ b4)
          ·have OK:=Lib.hid (fun ho:okIs ll=>And.intro (hq7.out (by first | exact rfl | exact trivial)) (And.intro hn20 (And.intro (by have:=(hq2.out (by first | exact rfl | exact trivial)).1;omega:cntVs vs≤100) (And.intro (hq2.out (by first | exact rfl | exact trivial)).2 ho))))
           have hB9:=HK.out.2 _ b4;clear hq4 hq7 hq2 hB2 hB3 hB4 b2 b3;have HN9:Hid (∀ j,j<ns.length→∃ s,w4.cell? ((a3.getD ⟨0,0,none⟩).add j)=some (.string s)):=Lib.hid fun j hj=>by
            rcases hnmc.out with ⟨rfl,-⟩ | ⟨b3,o3,cp3,e9,-,-,hb3,hc3⟩
            ·simp at hj
            ·obtain ⟨y,e8,v8⟩:=hc3 j hj 0 _ rfl
             obtain rfl:y=_:=v8
             cases e9
             refine ⟨ns[j],?_⟩;show w4.cell? (Addr.add _ j)=_;rw [Option.getD_some,Addr.add_lit];refine (hB9.cell (p:=⟨b3,o3+j,none⟩) hb3).trans ?_;simpa [Nat.mul_one] using e8
           have HA3:Hid (0<ns.length→∃ b3 o3,a3=some ⟨b3,o3,none⟩):=Lib.hid fun hj=>by
            rcases hnmc.out with ⟨rfl,-⟩ | ⟨b3,o3,cp3,e9,-,-,hb3,hc3⟩
            ·simp at hj
            ·cases e9;exact ⟨_,_,rfl⟩
           clear hnmc
           go_wp2
           go_loopw [9] (fun i wx=>∃ j:Nat,j≤ns.length∧i=.int .i64 j∧wx=w4) (fun i _=>ns.length - (intOf i).toNat)
           case atStart=>exact ⟨0,Nat.zero_le _,rfl,rfl⟩
           case round =>
            obtain ⟨j,hj,rfl,rfl⟩:=hrel
            by_cases hjl:j<ns.length
            ·obtain ⟨s,hs⟩:=HN9.out j hjl
             obtain ⟨b3,o3,rfl⟩:=HA3.out (by omega);rw [Option.getD_some,Addr.add_lit] at hs
             by_cases hss:s.size≤100
             ·go_wp2
              go_roundw
              case rel=>exact ⟨j+1,by omega,by go_num,by first | rfl | trivial⟩
              case measure=>simp [intOf];omega
             ·go_wp2
              go_ret
              exact neg_post (by omega) hB9
            ·obtain rfl:j=ns.length:=by omega
             by_cases hm9:0≤m - 1
             ·by_cases hll:0<ll.length
              ·go_wp2_with fail
               refine (HREC.out _ hB9 (m - 1) hm9 (by omega)).mono ?_;rintro e w5 ⟨r,rfl,hr1,hr2,hr3,hB5⟩
               go_wp2
               go_roundw
               case rel =>
                refine ⟨k+1,r,by omega,by push_cast;omega,by go_num,by first | rfl | trivial,hr1,by omega,Lib.hid fun hr=>?_,bup hB9 hB5⟩;obtain ⟨g1,g3⟩:=hh.out hm;obtain ⟨g2,g4⟩:=hr3.out hr;refine ⟨?_,HSN.out.2 g3 (OK.out g4)⟩;rw [HSN.out.1]
                push_cast
                omega
               case measure=>simp [intOf];omega
              ·have g8:=Lib.hid (HLL.out (by omega))
               go_wp2
               go_roundw
               case rel =>
                refine ⟨k+1,m - 1,by omega,by push_cast;omega,by go_num,by go_num,by omega,by omega,Lib.hid fun hr=>?_,hB9⟩;obtain ⟨g1,g3⟩:=hh.out hm;refine ⟨?_,HSN.out.2 g3 (OK.out g8.out.2)⟩;rw [HSN.out.1,g8.out.1]
                push_cast
                omega
               case measure=>simp [intOf];omega
             ·go_wp2
              go_roundw
              case rel=>exact ⟨k+1,m - 1,by omega,by push_cast;omega,by go_num,by go_num,by omega,by omega,Lib.hid fun hr=>by omega,hB9⟩
              case measure=>simp [intOf];omega
       ·go_wp2
        go_ret
        exact neg_post (by omega) (HK.out.2 _ B0.out)
      ·go_wp2
       go_ret
       exact ⟨m,rfl,hm1,hm2,Lib.hid fun h=>by omega,hB⟩
     ·obtain rfl:k=l.length:=by omega
      have hh':=hh.out;rw [List.take_length] at hh';have HH:=Lib.hid hh';clear hh' hh
      go_wp2
      go_ret
      exact ⟨m,rfl,hm1,hm2,HH,hB⟩
def Small8Post (l:List Itm) (most:Int) (w:World) (e:Ending) (w':World):Prop:=∃ b:Bool,e=.returned (.bool b)∧Hid (b=true→(cntIs l:Int)≤most∧okIs l)∧Below w.heap.size w w'
theorem small8_any (l:List Itm) (v:Value) (most:Int) (w:World) (hv:At w (.sl l.length 8 (l.flatMap encI)) v) (hg:gsIs l=true) (h0:0≤most) (h1:most≤1000) :
 Calls Tryz.prog 72 #[v,.int .i64 most] w (Small8Post l most w):=by
 have H:=Lib.hid (left8_any _ l (Nat.le_refl _) hg v most 8 w hv h0 h1 (by omega) (by omega));obtain ⟨ad,cap,rfl,-⟩:=At.sl_form hv;clear hv
 go_enter Tryz.func72,Tryz.ntmps72
 go_wp2_with fail
 refine H.out.mono ?_;rintro e w2 ⟨r,rfl,hr1,hr2,hr3,hB⟩
 by_cases hr:0≤r
 ·go_wp2
  go_ret
  exact ⟨true,by simp,Lib.hid fun _=>by obtain ⟨h8,h9⟩:=hr3.out hr;exact ⟨by omega,h9⟩,hB⟩
 ·go_wp2
  go_ret
  exact ⟨false,by simp;omega,Lib.hid (fun h=>Bool.noConfusion h),hB⟩
def okSh (l:List Itm):Prop:=cntIs l≤15∧okIs l
def Small18Post (sh:List (List Itm)) (w:World) (e:Ending) (w':World):Prop:=∃ b:Bool,e=.returned (.bool b)∧Hid (b=true→sh.length≤4∧∀ l∈sh,okSh l)∧Below w.heap.size w w'
set_option maxHeartbeats 4000000 in
theorem small18_any (sh:List (List Itm)) (v:Value) (w:World) (hv:At w (.sl sh.length 1 (sh.flatMap encSh)) v) (hg:∀ l∈sh,gsIs l=true) :
 Calls Tryz.prog 23 #[v] w (Small18Post sh w):=by
 rcases slB_cells encSh 1 (fun _=>rfl) (by decide) (At.toB hv) with ⟨rfl,ad,cap,rfl⟩ | ⟨b,o,cap,rfl,hcap,hpos,hbz,hc⟩
 ·go_enter Tryz.func23,Tryz.ntmps23
  go_wp2
  go_loopw [3] (fun i wr=>i=.int .i64 0∧wr=w) (fun _ _=>0)
  case atStart=>exact ⟨rfl,rfl⟩
  case round =>
   obtain ⟨rfl,rfl⟩:=hrel
   go_wp2
   go_ret
   exact ⟨true,rfl,Lib.hid fun _=>⟨by simp,by simp⟩,Below.refl _ _⟩
 ·by_cases hl4:sh.length≤4
  ·have HC:=Lib.hid fun k (hk:k<sh.length)=>hc k hk 0 _ rfl
   have HG:=Lib.hid fun k (hk:k<sh.length)=>hg _ (List.getElem_mem hk);clear hc hv hg
   go_enter Tryz.func23,Tryz.ntmps23
   go_wp2
   go_loopw [3] (fun i wr=>∃ k:Nat,k≤sh.length∧i=.int .i64 k∧Hid (∀ l∈sh.take k,okSh l)∧Below w.heap.size w wr) (fun i _=>sh.length - (intOf i).toNat)
   case atStart=>exact ⟨0,Nat.zero_le _,rfl,Lib.hid (by simp),Below.refl _ _⟩
   case round =>
    obtain ⟨k,hk,rfl,hh,hB⟩:=hrel
    by_cases hlt:k<sh.length
    ·obtain ⟨x,e0,v0⟩:=HC.out k hlt
     have v0':=v0;obtain ⟨ad,cp,rfl,-⟩:=AtB.sl_form v0;simp only [Nat.add_zero,Nat.mul_one] at e0;have e0':=(hB.cell (p:=⟨b,o+k,none⟩) hbz).trans e0;have HS:=Lib.hid (small8_any _ _ 15 wr (AtB.toAt (AtB.below v0' hB) hB.size) (HG.out k hlt) (by decide) (by decide));have HF:=Lib.hid (forall_take_succ (p:=okSh) hlt hh.out);unfold okSh at HF;clear e0 v0 v0';generalize sh[k]=ll at *
     go_wp2_with fail
     refine HS.out.mono ?_;rintro e w2 ⟨q,rfl,hq,hB2⟩
     cases q
     ·go_wp2
      go_ret
      exact ⟨false,rfl,Lib.hid (fun h=>by cases h),bup hB hB2⟩
     ·go_wp2
      go_roundw
      case rel=>exact ⟨k+1,by omega,by go_num,Lib.hid (HF.out (by have:=hq.out (by first | exact rfl | exact trivial);exact ⟨by omega,this.2⟩)),bup hB hB2⟩
      case measure=>simp [intOf];omega
    ·obtain rfl:k=sh.length:=by omega
     have hh':=hh.out;rw [List.take_length] at hh';have HH:=Lib.hid hh';clear hh' hh
     go_wp2
     go_ret
     exact ⟨true,by simp;omega,Lib.hid fun _=>⟨hl4,HH.out⟩,hB⟩
  ·clear hc hv
   go_enter Tryz.func23,Tryz.ntmps23
   go_wp2
   go_loopw [3] (fun i wr=>i=.int .i64 0∧wr=w) (fun _ _=>0)
   case atStart=>exact ⟨rfl,rfl⟩
   case round =>
    obtain ⟨rfl,rfl⟩:=hrel
    go_wp2
    go_ret
    exact ⟨false,by simp;omega,Lib.hid (fun h=>by cases h),Below.refl _ _⟩
end Go.Proofs.YtlnaihkombcbcaaGreat
namespace Go.Proofs.YtlnaihkombcbcaaGreat
open Go.RowKit Go.Sort Go.Ev
theorem Tryz.infoItem:(Tryz.prog.info? 53).map (fun i=>(i.zero,i.size,i.bytes))=some (some (.agg #[.int .i64 0,.slice none 0 0,.slice none 0 0,.slice none 0 0,.int .i64 0,.int .i64 0,.slice none 0 0,.slice none 0 0]),8,144):=by kernel_rfl
def SrcN (w:World) (y:Value) (m size:Nat) (news:List Value):Prop :=
 (∃ c,y=.slice none 0 c∧m=0∧news=[])∨∃ ad c,y=.slice (some ad) m c∧news.length=m*size∧(∀ j u,news[j]?=some u→w.cell? (ad.add j)=some u)∧∀ u∈news,u.oneCell'=true
theorem SrcN.below {w w':World} {y:Value} {m size:Nat} {news:List Value} (h:SrcN w y m size news) (hb:Below w.heap.size w w'):SrcN w' y m size news:=by
 rcases h with h | ⟨ad,c,h1,h2,h3,h4⟩
 ·exact .inl h
 ·exact .inr ⟨ad,c,h1,h2,fun j u hj=>cell_up (h3 j u hj) hb,h4⟩
theorem SrcN.form {w:World} {y:Value} {m size:Nat} {news:List Value} (h:SrcN w y m size news):∃ a c,y=.slice a m c:=by
 rcases h with ⟨c,rfl,rfl,-⟩ | ⟨ad,c,rfl,-⟩
 ·exact ⟨_,_,rfl⟩
 ·exact ⟨_,_,rfl⟩
theorem run_append_owned_none' {P:Program} {w:World} (base:Nat) (t ty e:TypeId) (i:TypeInfo) (size:Nat) (ht:P.underlying t=some (.slice e)) (hi:P.info? e=some i)
 (v:Value) (n:Nat) (xs:List Value) (hown:w.ownsRow base e size v n xs) (c:Nat) :
 (Builtin.append_ #[t,t] ty #[v,.slice none 0 c]).run P w=.ok v w:=by
 rcases hown.2 with ⟨rfl,rfl⟩ | ⟨g,cap,cur,rfl,_,_,hnc,_⟩
 ·simp [Builtin.append_,run_underlying ht,sizeOf,typeInfo,hi,Builtin.lenOf,Builtin.firstCells]
 ·simp [Builtin.append_,run_underlying ht,sizeOf,typeInfo,hi,Builtin.lenOf,Builtin.firstCells,hnc,storeCells]
theorem wpList_append_srcN {P:Program} {w:World} {ops:Array Oper} {rest:List Oper} {o:Oper} {a:Act} {Q:Exit→Act→World→Prop} (hgd:o.guard=none) (s x:Operand) (t:TypeId)
 (ho:o.op=.call { callee:=.builtin .append,args:=#[s,x],argTypes:=#[t,t] })
 (base:Nat) (e:TypeId) (i:TypeInfo) (z:Value) (size bytes:Nat) (ht:P.underlying t=some (.slice e)) (hi:P.info? e=some i) (hz:i.zero=some z)
 (hsize:i.size=size) (hby:i.bytes=bytes) (hzs:z.cells.size=size) (hsz:0<size)
 (v:Value) (n:Nat) (xs:List Value) (hs:a.eval s=v) (hown:w.ownsRow base e size v n xs)
 (y:Value) (m:Nat) (news:List Value) (hx:a.eval x=y) (hsrc:SrcN w y m size news)
 (h63:n+m≤maxLen) (hbytes:(n+m)*bytes≤140737488355328) (hbase:base≤w.heap.size)
 (h:∀ v' w',w'.ownsRow base e size v' (n+m) (xs++news)→w.grownBy w' v.ownBlock→wpList P ops Q rest (a.put o.dst v') w'):wpList P ops Q (o::rest) a w:=by
 refine wpList_plain hgd fun K hK=>?_;have key:∃ v' w',(Builtin.append_ #[t,t] o.type #[v,y]).run P w=.ok v' w'∧w'.ownsRow base e size v' (n+m) (xs++news)∧w.grownBy w' v.ownBlock:=by
  rcases hsrc with ⟨c,rfl,rfl,rfl⟩ | ⟨ad,c,rfl,h1,h2,h3⟩
  ·exact ⟨v,w,run_append_owned_none' base t o.type e i size ht hi v n xs hown c,by simpa using hown,⟨rfl,rfl,rfl,Nat.le_refl _,fun _ _ _=>rfl⟩⟩
  ·obtain ⟨v',w',g1,g2,g3,-⟩:=run_append_own (P:=P) (w:=w) base t o.type e i z size bytes ht hi hz hsize hby hzs hsz v n xs hown ad m c news h1 h2 h3 h63 hbytes hbase
   exact ⟨v',w',g1,g2,g3⟩
 obtain ⟨v',w',hrun,r1,r2⟩:=key;unfold Oper.wp;simp [execOp,ho,resolve,invoke,builtin,hs,hx,hrun,Result.andThen];exact hK _ _ (h v' w' r1 r2)
structure Pc where
 v:Value
 m:Nat
 news:List Value
def allN (ps:List Pc):List Value:=ps.flatMap (·.news)
def sumM (ps:List Pc):Nat:=(ps.map (·.m)).sum
theorem allN_snoc {ps:List Pc} {k:Nat} (hk:k<ps.length):allN (ps.take (k+1))=allN (ps.take k)++ps[k].news:=by
 rw [List.take_succ_eq_append_getElem hk,allN,allN,List.flatMap_append,List.flatMap_cons,List.flatMap_nil,List.append_nil]
theorem sumM_snoc {ps:List Pc} {k:Nat} (hk:k<ps.length):sumM (ps.take (k+1))=sumM (ps.take k)+ps[k].m:=sum_take_succ _ _ _ hk
theorem sumM_le {ps:List Pc} (k:Nat):sumM (ps.take k)≤sumM ps:=by
 have h:sumM (ps.take k++ps.drop k)=sumM (ps.take k)+sumM (ps.drop k):=by rw [sumM,List.map_append,List.sum_append];rfl
 rw [List.take_append_drop] at h;omega
def PcAt (w:World) (v:Value) (ps:List Pc) (size:Nat):Prop :=
 ((ps=[]∧∃ a c,v=.slice a 0 c)∨∃ b o cap,v=.slice (some ⟨b,o,none⟩) ps.length cap∧0<ps.length∧∀ k (hk:k<ps.length),w.cell? ⟨b,o+k,none⟩=some ps[k].v)∧∀ p∈ps,SrcN w p.v p.m size p.news
theorem row_zeros (w:World) (e:TypeId) (z:Value) (sz n:Nat) (hzs:z.cells.size=sz) (hn:n≤1000000) :
 (w.drew.alloc (.cells (Builtin.zeroCells z.cells n++Builtin.zeroCells z.cells (grownCap w n 0 e - n)) e)).ownsRow w.heap.size e sz (.slice (some ⟨w.heap.size,0,none⟩) 0 (grownCap w n 0 e)) 0 []:=by
 refine ⟨by simp,.inr ⟨w.heap.size,_,_,rfl,Nat.le_refl _,heap_alloc_new w.drew _,Nat.zero_le _,grownCap_le_maxLen w n 0 e (by unfold maxLen;omega),?_,by simp⟩⟩;have hge:=grownCap_ge w n 0 e;simp only [Array.size_append,size_zeroCells,hzs];rw [←Nat.add_mul];have:n+(grownCap w n 0 e - n)=grownCap w n 0 e:=by omega
 rw [this]
set_option maxRecDepth 100000 in
theorem growI_any (n:Nat) (w:World) (hn:n≤1000000) :
 Calls Tryz.prog 146 #[.slice none 0 0,.int .i64 n] w fun e w'=>∃ v',e=.returned v'∧w'.ownsRow w.heap.size 53 8 v' 0 []∧Below w.heap.size w w':=by
 obtain ⟨i0,hi,hz0,hz1,hz2⟩:=info_parts Tryz.infoItem
 by_cases h0:0<n
 ·have hrun:=Lib.run_append_nil_zeros (P:=Tryz.prog) w 46 3 46 53 i0 _ .i64 .i64 Tryz.underlying46 Tryz.underlying3 hi hz0 n h0 (by rw [hz1];decide) (by omega) (by rw [hz2];omega)
  have hrow:=Lib.hid (row_zeros w 53 _ 8 n (show (Value.cells (.agg #[.int .i64 0,.slice none 0 0,.slice none 0 0,.slice none 0 0,.int .i64 0,.int .i64 0,.slice none 0 0,.slice none 0 0])).size=8 from rfl) hn);have hB:=Lib.hid (((Below.refl _ w).drew).alloc (Nat.le_refl w.heap.size) (.cells (Builtin.zeroCells (Value.cells (.agg #[.int .i64 0,.slice none 0 0,.slice none 0 0,.slice none 0 0,.int .i64 0,.int .i64 0,.slice none 0 0,.slice none 0 0])) n++Builtin.zeroCells (Value.cells (.agg #[.int .i64 0,.slice none 0 0,.slice none 0 0,.slice none 0 0,.int .i64 0,.int .i64 0,.slice none 0 0,.slice none 0 0])) (grownCap w n 0 53 - n)) 53));have hge:=grownCap_ge w n 0 53;have hlm:grownCap w n 0 53≤9223372036854775807:=by have:=grownCap_le_maxLen w n 0 53 (by unfold maxLen;omega);unfold maxLen at this;omega
  generalize (Obj.cells (Builtin.zeroCells (Value.cells (.agg #[.int .i64 0,.slice none 0 0,.slice none 0 0,.slice none 0 0,.int .i64 0,.int .i64 0,.slice none 0 0,.slice none 0 0])) n++Builtin.zeroCells (Value.cells (.agg #[.int .i64 0,.slice none 0 0,.slice none 0 0,.slice none 0 0,.int .i64 0,.int .i64 0,.slice none 0 0,.slice none 0 0])) (grownCap w n 0 53 - n)) 53)=O at *;generalize grownCap w n 0 53=gc at *
  go_enter Tryz.func146,Tryz.ntmps146
  go_wp2_with (at_builtin;refine Lib.wpList_append_run _ rfl _ _ _ _ rfl _ _ rfl rfl _ _ hrun ?_)
  go_wp2
  go_ret
  exact ⟨_,rfl,hrow.out,hB.out⟩
 ·obtain rfl:n=0:=by omega
  go_enter Tryz.func146,Tryz.ntmps146
  go_wp2
  go_ret
  exact ⟨_,rfl,World.ownsRow_nil _ _ _ _,Below.refl _ _⟩
set_option maxRecDepth 100000 in
set_option maxHeartbeats 2000000 in
theorem concatI_any (ps:List Pc) (v:Value) (w:World) (hp:PcAt w v ps 8) (hm:sumM ps≤1000000) (hpl:ps.length≤1000000) :
 Calls Tryz.prog 85 #[v] w fun e w'=>∃ v',e=.returned v'∧w'.ownsRow w.heap.size 53 8 v' (sumM ps) (allN ps)∧Below w.heap.size w w':=by
 obtain ⟨i0,hi,hz0,hz1,hz2⟩:=info_parts Tryz.infoItem;obtain ⟨hv,hsrc⟩:=hp;have G:=Lib.hid (growI_any (sumM ps) w hm);rcases hv with ⟨rfl,ad,cap,rfl⟩ | ⟨b,o,cap,rfl,hpos,hc⟩
 ·go_enter Tryz.func85,Tryz.ntmps85
  go_wp2
  go_loopw [3,5,11] (fun s v5 i wr=>i=.int .i64 0∧s=.int .i64 0∧w=wr) (fun _ _ _ _=>0)
  case atStart=>exact ⟨rfl,rfl,rfl⟩
  case round =>
   obtain ⟨rfl,rfl,rfl⟩:=hrel
   go_wp2_with fail
   refine G.out.mono ?_;rintro e w2 ⟨v2,rfl,h2,hB⟩
   go_wp2
   go_loopw [6,8,27] (fun s v5 i wx=>i=.int .i64 0∧s=v2∧wx=w2) (fun _ _ _ _=>0)
   case atStart=>exact ⟨rfl,rfl,rfl⟩
   case round =>
    obtain ⟨rfl,rfl,rfl⟩:=hrel
    go_wp2
    go_ret
    exact ⟨_,rfl,h2,hB⟩
 ·have HC:=Lib.hid hc
  have HS:=Lib.hid fun k (hk:k<ps.length)=>hsrc _ (List.getElem_mem hk);have H1:=Lib.hid fun k (hk:k<ps.length)=>sumM_snoc hk;have H2:=Lib.hid fun k (hk:k<ps.length)=>allN_snoc hk;have H3:=Lib.hid fun k=>sumM_le (ps:=ps) k;have HV:=Lib.hid fun k (hk:k<ps.length)=>(hsrc _ (List.getElem_mem hk)).form;clear hc hsrc
  go_enter Tryz.func85,Tryz.ntmps85
  go_wp2
  go_loopw [3,5,11] (fun s v5 i wr=>∃ k:Nat,k≤ps.length∧i=.int .i64 k∧s=.int .i64 (sumM (ps.take k):Nat)∧w=wr) (fun _ _ i _=>ps.length - (intOf i).toNat)
  case atStart=>exact ⟨0,Nat.zero_le _,rfl,by simp [sumM],rfl⟩
  case round =>
   obtain ⟨k,hk,rfl,rfl,rfl⟩:=hrel
   by_cases hlt:k<ps.length
   ·have c0:=HC.out k hlt
    obtain ⟨a,c,hf⟩:=HV.out k hlt;rw [hf] at c0;have h1:=H1.out k hlt;have h3:=H3.out (k+1);generalize ps[k].m=m at *
    go_wp2
    go_roundw
    case rel=>exact ⟨k+1,by omega,by go_num,by rw [h1];go_num,by first | rfl | trivial⟩
    case measure=>simp [intOf];omega
   ·obtain rfl:k=ps.length:=by omega
    rw [List.take_length]
    go_wp2_with fail
    refine G.out.mono ?_;rintro e w2 ⟨v2,rfl,h2,hB⟩;have H20:=Lib.hid h2;have HB0:=Lib.hid hB;clear h2 hB
    go_wp2
    go_loopw [6,8,27] (fun s v5 i wx=>∃ k:Nat,k≤ps.length∧i=.int .i64 k∧Hid (wx.ownsRow w.heap.size 53 8 s (sumM (ps.take k)) (allN (ps.take k)))∧Below w.heap.size w wx) (fun _ _ i _=>ps.length - (intOf i).toNat)
    case atStart=>exact ⟨0,Nat.zero_le _,rfl,Lib.hid (by simpa [sumM,allN] using H20.out),HB0.out⟩
    case round =>
     obtain ⟨k,hk,rfl,ho,hB⟩:=hrel
     by_cases hlt:k<ps.length
     ·have c0:=cell_up (HC.out k hlt) hB
      have h1:=H1.out k hlt;have h2:=H2.out k hlt;have h3:=H3.out (k+1);have hs:=(HS.out k hlt).below hB;obtain ⟨a,c,hf⟩:=HV.out k hlt;rw [hf] at c0 hs;have HO:=ho.out;obtain ⟨ao,co,rfl⟩:=owns_slice HO;rw [h1] at h3;generalize ps[k].m=m at *;generalize ps[k].news=nw at *;generalize sumM (ps.take k)=sm at *;generalize allN (ps.take k)=al at *;have hsz:=hB.size
      go_wp2_with (at_builtin;refine wpList_append_srcN rfl _ _ 46 rfl w.heap.size 53 i0 _ 8 144 Tryz.underlying46 hi hz0 hz1 hz2 rfl (by decide) _ _ _ rfl HO _ _ _ rfl hs (by unfold maxLen;omega) (by omega) hsz ?_)
      intro v' w' ho' hg';have hB':Below w.heap.size w w':=hB.grown hg' hsz (fun g e=>(HO.lt g e).1);have HO':=Lib.hid ho';clear ho' hg' hs HO
      go_wp2
      go_roundw
      case rel=>exact ⟨k+1,by omega,by go_num,by rw [h1,h2];exact HO',hB'⟩
      case measure=>simp [intOf];omega
     ·obtain rfl:k=ps.length:=by omega
      have h9:=ho.out;rw [List.take_length] at h9;have H9:=Lib.hid h9;clear h9 ho
      go_wp2
      go_ret
      exact ⟨_,rfl,H9.out,hB⟩
set_option maxRecDepth 100000 in
theorem growS_any (n:Nat) (w:World) (hn:n≤1000000) :
 Calls Tryz.prog 212 #[.slice none 0 0,.int .i64 n] w fun e w'=>∃ v',e=.returned v'∧w'.ownsRow w.heap.size 9 1 v' 0 []∧Below w.heap.size w w':=by
 obtain ⟨i0,hi,hz0,hz1,hz2⟩:=info_parts Tryz.infoS
 by_cases h0:0<n
 ·have hrun:=Lib.run_append_nil_zeros (P:=Tryz.prog) w 25 3 25 9 i0 _ .i64 .i64 Tryz.underlying25 Tryz.underlying3 hi hz0 n h0 (by rw [hz1];decide) (by omega) (by rw [hz2];omega)
  have hrow:=Lib.hid (row_zeros w 9 _ 1 n (show (Value.cells (.string ByteArray.empty)).size=1 from rfl) hn);have hB:=Lib.hid (((Below.refl _ w).drew).alloc (Nat.le_refl w.heap.size) (.cells (Builtin.zeroCells (Value.cells (.string ByteArray.empty)) n++Builtin.zeroCells (Value.cells (.string ByteArray.empty)) (grownCap w n 0 9 - n)) 9));have hge:=grownCap_ge w n 0 9;have hlm:grownCap w n 0 9≤9223372036854775807:=by have:=grownCap_le_maxLen w n 0 9 (by unfold maxLen;omega);unfold maxLen at this;omega
  generalize (Obj.cells (Builtin.zeroCells (Value.cells (.string ByteArray.empty)) n++Builtin.zeroCells (Value.cells (.string ByteArray.empty)) (grownCap w n 0 9 - n)) 9)=O at *;generalize grownCap w n 0 9=gc at *
  go_enter Tryz.func212,Tryz.ntmps212
  go_wp2_with (at_builtin;refine Lib.wpList_append_run _ rfl _ _ _ _ rfl _ _ rfl rfl _ _ hrun ?_)
  go_wp2
  go_ret
  exact ⟨_,rfl,hrow.out,hB.out⟩
 ·obtain rfl:n=0:=by omega
  go_enter Tryz.func212,Tryz.ntmps212
  go_wp2
  go_ret
  exact ⟨_,rfl,World.ownsRow_nil _ _ _ _,Below.refl _ _⟩
set_option maxRecDepth 100000 in
set_option maxHeartbeats 2000000 in
theorem concatS_any (ps:List Pc) (v:Value) (w:World) (hp:PcAt w v ps 1) (hm:sumM ps≤1000000) (hpl:ps.length≤1000000) :
 Calls Tryz.prog 150 #[v] w fun e w'=>∃ v',e=.returned v'∧w'.ownsRow w.heap.size 9 1 v' (sumM ps) (allN ps)∧Below w.heap.size w w':=by
 obtain ⟨i0,hi,hz0,hz1,hz2⟩:=info_parts Tryz.infoS;obtain ⟨hv,hsrc⟩:=hp;have G:=Lib.hid (growS_any (sumM ps) w hm);rcases hv with ⟨rfl,ad,cap,rfl⟩ | ⟨b,o,cap,rfl,hpos,hc⟩
 ·go_enter Tryz.func150,Tryz.ntmps150
  go_wp2
  go_loopw [3,5,11] (fun s v5 i wr=>i=.int .i64 0∧s=.int .i64 0∧w=wr) (fun _ _ _ _=>0)
  case atStart=>exact ⟨rfl,rfl,rfl⟩
  case round =>
   obtain ⟨rfl,rfl,rfl⟩:=hrel
   go_wp2_with fail
   refine G.out.mono ?_;rintro e w2 ⟨v2,rfl,h2,hB⟩
   go_wp2
   go_loopw [6,8,27] (fun s v5 i wx=>i=.int .i64 0∧s=v2∧wx=w2) (fun _ _ _ _=>0)
   case atStart=>exact ⟨rfl,rfl,rfl⟩
   case round =>
    obtain ⟨rfl,rfl,rfl⟩:=hrel
    go_wp2
    go_ret
    exact ⟨_,rfl,h2,hB⟩
 ·have HC:=Lib.hid hc
  have HS:=Lib.hid fun k (hk:k<ps.length)=>hsrc _ (List.getElem_mem hk);have H1:=Lib.hid fun k (hk:k<ps.length)=>sumM_snoc hk;have H2:=Lib.hid fun k (hk:k<ps.length)=>allN_snoc hk;have H3:=Lib.hid fun k=>sumM_le (ps:=ps) k;have HV:=Lib.hid fun k (hk:k<ps.length)=>(hsrc _ (List.getElem_mem hk)).form;clear hc hsrc
  go_enter Tryz.func150,Tryz.ntmps150
  go_wp2
  go_loopw [3,5,11] (fun s v5 i wr=>∃ k:Nat,k≤ps.length∧i=.int .i64 k∧s=.int .i64 (sumM (ps.take k):Nat)∧w=wr) (fun _ _ i _=>ps.length - (intOf i).toNat)
  case atStart=>exact ⟨0,Nat.zero_le _,rfl,by simp [sumM],rfl⟩
  case round =>
   obtain ⟨k,hk,rfl,rfl,rfl⟩:=hrel
   by_cases hlt:k<ps.length
   ·have c0:=HC.out k hlt
    obtain ⟨a,c,hf⟩:=HV.out k hlt;rw [hf] at c0;have h1:=H1.out k hlt;have h3:=H3.out (k+1);generalize ps[k].m=m at *
    go_wp2
    go_roundw
    case rel=>exact ⟨k+1,by omega,by go_num,by rw [h1];go_num,by first | rfl | trivial⟩
    case measure=>simp [intOf];omega
   ·obtain rfl:k=ps.length:=by omega
    rw [List.take_length]
    go_wp2_with fail
    refine G.out.mono ?_;rintro e w2 ⟨v2,rfl,h2,hB⟩;have H20:=Lib.hid h2;have HB0:=Lib.hid hB;clear h2 hB
    go_wp2
    go_loopw [6,8,27] (fun s v5 i wx=>∃ k:Nat,k≤ps.length∧i=.int .i64 k∧Hid (wx.ownsRow w.heap.size 9 1 s (sumM (ps.take k)) (allN (ps.take k)))∧Below w.heap.size w wx) (fun _ _ i _=>ps.length - (intOf i).toNat)
    case atStart=>exact ⟨0,Nat.zero_le _,rfl,Lib.hid (by simpa [sumM,allN] using H20.out),HB0.out⟩
    case round =>
     obtain ⟨k,hk,rfl,ho,hB⟩:=hrel
     by_cases hlt:k<ps.length
     ·have c0:=cell_up (HC.out k hlt) hB
      have h1:=H1.out k hlt;have h2:=H2.out k hlt;have h3:=H3.out (k+1);have hs:=(HS.out k hlt).below hB;obtain ⟨a,c,hf⟩:=HV.out k hlt;rw [hf] at c0 hs;have HO:=ho.out;obtain ⟨ao,co,rfl⟩:=owns_slice HO;rw [h1] at h3;generalize ps[k].m=m at *;generalize ps[k].news=nw at *;generalize sumM (ps.take k)=sm at *;generalize allN (ps.take k)=al at *;have hsz:=hB.size
      go_wp2_with (at_builtin;refine wpList_append_srcN rfl _ _ 25 rfl w.heap.size 9 i0 _ 1 16 Tryz.underlying25 hi hz0 hz1 hz2 rfl (by decide) _ _ _ rfl HO _ _ _ rfl hs (by unfold maxLen;omega) (by omega) hsz ?_)
      intro v' w' ho' hg';have hB':Below w.heap.size w w':=hB.grown hg' hsz (fun g e=>(HO.lt g e).1);have HO':=Lib.hid ho';clear ho' hg' hs HO
      go_wp2
      go_roundw
      case rel=>exact ⟨k+1,by omega,by go_num,by rw [h1,h2];exact HO',hB'⟩
      case measure=>simp [intOf];omega
     ·obtain rfl:k=ps.length:=by omega
      have h9:=ho.out;rw [List.take_length] at h9;have H9:=Lib.hid h9;clear h9 ho
      go_wp2
      go_ret
      exact ⟨_,rfl,H9.out,hB⟩
structure S3 where
 c:List Str
 f:List Str
 g:List Str
def UO (va vb vc:Value):Obj:=.cells #[va,vb,vc] 138
def OwV (va vb vc:Value) (k:Nat):Prop:=va.ownBlock=some k∨vb.ownBlock=some k∨vc.ownBlock=some k
def UAt (z Bu:Nat) (s:S3) (W:World):Prop :=
 ∃ va vb vc,W.heap[Bu]?=some (UO va vb vc)∧RowP W va s.c∧RowP W vb s.f∧RowP W vc s.g∧z≤Bu∧(∀ k,OwV va vb vc k→z≤k∧k≠Bu) ∧
   (∀ k,va.ownBlock=some k→vb.ownBlock≠some k∧vc.ownBlock≠some k)∧∀ k,vb.ownBlock=some k→vc.ownBlock≠some k
def OwU (Bu:Nat) (W:World) (k:Nat):Prop:=k=Bu∨∃ va vb vc,W.heap[Bu]?=some (UO va vb vc)∧OwV va vb vc k
theorem UO_inj {va vb vc va' vb' vc':Value} (h:UO va vb vc=UO va' vb' vc'):va=va'∧vb=vb'∧vc=vc':=by
 unfold UO at h;simpa using h
theorem OwU_iff {Bu:Nat} {W:World} {va vb vc:Value} (h:W.heap[Bu]?=some (UO va vb vc)) (k:Nat):OwU Bu W k↔k=Bu∨OwV va vb vc k:=by
 refine or_congr Iff.rfl ⟨?_,fun h'=>⟨va,vb,vc,h,h'⟩⟩;rintro ⟨a,b,c,h1,h2⟩;rw [h] at h1;obtain ⟨rfl,rfl,rfl⟩:=UO_inj (Option.some.inj h1);exact h2
theorem UAt.own {z Bu:Nat} {s:S3} {W:World} (h:UAt z Bu s W) {k:Nat} (hk:OwU Bu W k):z≤k∧k<W.heap.size:=by
 obtain ⟨va,vb,vc,h1,h2,h3,h4,h5,h6,-⟩:=h;rcases (OwU_iff h1 k).1 hk with rfl | hk
 ·exact ⟨h5,(Array.getElem?_eq_some_iff.1 h1).1⟩
 ·exact ⟨(h6 k hk).1,hk.elim h2.lt fun hk=>hk.elim h3.lt h4.lt⟩
theorem UAt.below {z Bu:Nat} {s:S3} {W W':World} (h:UAt z Bu s W) (hb:Below W.heap.size W W'):UAt z Bu s W':=by
 obtain ⟨va,vb,vc,h1,h2,h3,h4,h5⟩:=h;exact ⟨va,vb,vc,(hb.block _ (Array.getElem?_eq_some_iff.1 h1).1).trans h1,h2.keep fun b e=>hb.block b (h2.lt e),h3.keep fun b e=>hb.block b (h3.lt e),h4.keep fun b e=>hb.block b (h4.lt e),h5⟩
theorem OwU_below {Bu:Nat} {W W':World} (hB:Bu<W.heap.size) (hb:Below W.heap.size W W') (k:Nat) (h:OwU Bu W' k):OwU Bu W k:=by
 rcases h with h | ⟨a,b,c,h1,h2⟩
 ·exact .inl h
 ·exact .inr ⟨a,b,c,(hb.block _ hB).symm.trans h1,h2⟩
theorem UAt.lt {z Bu:Nat} {s:S3} {W:World} (h:UAt z Bu s W):Bu<W.heap.size:=by
 obtain ⟨va,vb,vc,h1,-⟩:=h;exact (Array.getElem?_eq_some_iff.1 h1).1
theorem UAt.ko {z Bu:Nat} {s:S3} {W W':World} (h:UAt z Bu s W) (hb:Below W.heap.size W W') (hz:z≤W.heap.size):KO (OwU Bu) z W W' :=
 KO.grow hb hz (fun k hk=>OwU_below h.lt hb k hk) fun _ hk=>(h.own hk).2
theorem SameW.below {w w':World} (h:SameW w w') (z:Nat):Below z w w':=⟨h.os,h.tape,h.output,by rw [h.heap];exact Nat.le_refl _,fun k _=>by rw [h.heap]⟩
theorem searchN_any {w:World} {v:Value} {ss:List Str} (h:RowP w v ss) (x:ByteArray) (hl:ss.length≤1000000) :
 Calls Tryz.prog 210 #[v,.string x] w fun e w'=>e=.returned (.tuple #[.int .i64 (posM ss (sOf x):Nat),.bool (hasM ss (sOf x))])∧∃ m,w'=w.drewN m:=by
 rcases h with ⟨rfl,rfl⟩ | ⟨b,o,cap,c,e,fr,rfl,h1,h2,h3,h4,h5,h6,h7⟩
 ·refine (Any2.slices_BinarySearch_string_empty lays26 none 0 x w).mono ?_
  rintro e w' ⟨rfl,rfl⟩;exact ⟨rfl,0,rfl⟩
 ·refine (Any2.slices_BinarySearch_string lays26 b o ss.length cap (fun t=>bs (ss.getD t [])) x w (by omega) (fun j hj=>?_)).mono ?_
  ·rw [cell_of h4,h7 j hj]
   simp [hj]
   rfl
  ·rintro e w' ⟨rfl,q,rfl⟩
   refine ⟨?_,q,rfl⟩;have hx:x.toList=sOf x:=ByteArray.toList_eq _;have hp:Lib.bsGo (fun t=>Op.bytesLess (bs (ss.getD t [])).toList x.toList) ss.length 0 ss.length=posM ss (sOf x):=by
    rw [posM,hx]
    congr 1
    funext t
    rw [bs_toList]
   rw [hp];have hb:∀ y:Str,(bs y=x)↔(y=sOf x):=fun y=>⟨fun h=>by rw [←h];rfl,fun h=>by rw [h];rfl⟩;simp only [hb]
   rfl
theorem keep_row {w w':World} {Bu so:Nat} {v0 v' u:Value} {ss:List Str} (h:AddFr w w' Bu so v0 v') (hr:RowP w u ss) (h1:∀ k,u.ownBlock=some k→k≠Bu∧v0.ownBlock≠some k):RowP w' u ss :=
 hr.keep fun b e=>h.other b (hr.lt e) (h1 b e).1 (h1 b e).2
theorem names_own {W:World} {B Bu:Nat} {v0 nv:Value} {xs:List ByteArray} (h:W.ownsRow B 9 1 nv xs.length (xs.map Value.string)) (hBu:Bu<B) (h0:∀ k,v0.ownBlock=some k→k<B):NamesAt W Bu v0 nv xs:=by
 rcases h.2 with ⟨rfl,hl⟩ | ⟨g,cap,cur,rfl,hg,hh,hc,-,-,ht⟩
 ·exact .inl ⟨List.eq_nil_of_length_eq_zero hl,_,_,rfl⟩
 ·by_cases hx:xs=[]
  ·subst hx
   exact .inl ⟨rfl,_,_,rfl⟩
  ·refine .inr ⟨g,0,cap,rfl,List.length_pos_iff.2 hx,(Array.getElem?_eq_some_iff.1 hh).1,by omega,fun e=>by have:=h0 g e;omega,fun j hj=>?_⟩
   rw [Nat.zero_add,Lib.cell_of_heap hh];have h9:(xs.map Value.string)[j]?=some (.string xs[j]):=by simp [hj]
   rw [←ht,List.getElem?_take,if_pos (by omega)] at h9;simpa using h9
theorem add_c (z Bu B:Nat) (s:S3) (nv:Value) (xs:List ByteArray) (W:World) (hU:UAt z Bu s W) (hown:W.ownsRow B 9 1 nv xs.length (xs.map Value.string)) (hfr:∀ k,OwU Bu W k→k<B) (hl:s.c.length+xs.length≤1000000) :
 Calls Tryz.prog 149 #[.pointer (some ⟨Bu,0,none⟩),nv] W fun e W'=>e=.returned (.bool (decide (s.c.length<(addM s.c (xs.map sOf)).length)))∧UAt z Bu { s with c:=addM s.c (xs.map sOf) } W'∧KO (OwU Bu) z W W':=by
 obtain ⟨va,vb,vc,h1,h2,h3,h4,h5,h6,h7,h8⟩:=hU;have hO:=OwU_iff h1;have hBu:=(Array.getElem?_eq_some_iff.1 h1).1;have hne:∀ k,va.ownBlock=some k→k≠Bu:=fun k hk=>(h6 k (by first | exact .inl hk | exact .inr (.inl hk) | exact .inr (.inr hk))).2;have hlt:∀ k,va.ownBlock=some k→k<B:=fun k hk=>hfr k ((hO k).2 (.inr (by first | exact .inl hk | exact .inr (.inl hk) | exact .inr (.inr hk))));have hsz:∀ k,OwV va vb vc k→k<W.heap.size:=fun k hk=>hk.elim h2.lt fun hk=>hk.elim h3.lt h4.lt;refine (add_any Bu 0 va nv s.c xs W _ _ _ h1 (by rw [Lib.cell_of_heap h1];rfl) (Lib.frozen_of_heap h1 _) h2 (fun e=>hne Bu e rfl) (names_own hown (hfr Bu (.inl rfl)) hlt) hl).mono ?_;rintro e W' ⟨v',rfl,hc,hr,hf⟩;have hb:W'.heap[Bu]?=some (UO v' vb vc):=hf.box _ _ _ h1;have hO':=OwU_iff hb;have hoth:∀ k,OwV v' vb vc k→v'.ownBlock=some k∨OwV va vb vc k:=by
  rintro k (h | h | h) <;> first | exact .inl h | exact .inr (.inl h) | exact .inr (.inr (.inl h)) | exact .inr (.inr (.inr h))
 have hnew:∀ k,v'.ownBlock=some k→va.ownBlock=some k∨W.heap.size≤k:=fun k hk=>by
  rcases hf.own with e | ⟨b,e,hb⟩
  ·exact .inl (e▸hk)
  ·rw [e] at hk;cases hk;exact .inr hb
 have hz:z≤W.heap.size:=Nat.le_trans h5 (Nat.le_of_lt hBu);have r_vb:RowP W' vb s.f:=keep_row hf h3 fun k hk=>⟨(h6 k (.inr (.inl hk))).2,fun e=>(h7 k e).1 hk⟩;have r_vc:RowP W' vc s.g:=keep_row hf h4 fun k hk=>⟨(h6 k (.inr (.inr hk))).2,fun e=>(h7 k e).2 hk⟩;refine ⟨rfl,⟨v',vb,vc,hb,hr,r_vb,r_vc,h5,?_,?_,?_⟩,?_,?_,?_,?_⟩
 ·intro k hk
  rcases hoth k hk with hk | hk
  ·rcases hnew k hk with hk | hk
   ·exact h6 k (by first | exact .inl hk | exact .inr (.inl hk) | exact .inr (.inr hk))
   ·exact ⟨by omega,by omega⟩
  ·exact h6 k hk
 ·exact fun k hk=>⟨fun e=>(hnew k hk).elim (fun hk2=>(h7 k hk2).1 e) fun hk2=>by have:=h3.lt e;omega,fun e=>(hnew k hk).elim (fun hk2=>(h7 k hk2).2 e) fun hk2=>by have:=h4.lt e;omega⟩
 ·exact fun k hk=>fun e=>h8 k hk e
 ·intro k hk hn
  have hn':¬(k=Bu∨OwV va vb vc k):=fun h=>hn ((hO k).2 h);exact hf.other k hk (fun e=>hn' (.inl e)) fun e=>hn' (.inr (by first | exact .inl e | exact .inr (.inl e) | exact .inr (.inr e)))
 ·intro k hk ho
  refine (hO k).2 ?_;rcases (hO' k).1 ho with h | h
  ·exact .inl h
  ·rcases hoth k h with h | h
   ·rcases hnew k h with h | h
    ·exact .inr (by first | exact .inl h | exact .inr (.inl h) | exact .inr (.inr h))
    ·omega
   ·exact .inr h
 ·intro k ho
  rcases (hO' k).1 ho with h | h
  ·have:=hf.size;omega
  ·rcases hoth k h with h | h
   ·exact hr.lt h
   ·have:=hsz k h;have:=hf.size;omega
 ·refine ⟨hf.os,hf.tape,hf.output,hf.size,fun k hk=>hf.other k (by omega) (by omega) fun e=>?_⟩
  have:=(h6 k (by first | exact .inl e | exact .inr (.inl e) | exact .inr (.inr e))).1;omega
theorem has_c (z Bu:Nat) (s:S3) (x:ByteArray) (W:World) (hU:UAt z Bu s W) (hl:s.c.length≤1000000) :
 Calls Tryz.prog 148 #[.pointer (some ⟨Bu,0,none⟩),.string x] W fun e W'=>e=.returned (.bool (hasM s.c (sOf x)))∧∃ m,W'=W.drewN m:=by
 obtain ⟨va,vb,vc,h1,h2,h3,h4,-⟩:=hU;have hc:W.cell? ⟨Bu,0,none⟩=some va:=by rw [Lib.cell_of_heap h1];rfl
 have H:=Lib.hid (searchN_any h2 x hl);obtain ⟨a,c,rfl⟩:=h2.form;clear h1 h2 h3 h4
 go_enter Tryz.func148,Tryz.ntmps148
 go_wp2_with fail
 refine H.out.mono ?_;rintro e W' ⟨rfl,hs⟩
 go_wp2
 go_ret
 exact ⟨rfl,hs⟩
theorem add_f (z Bu B:Nat) (s:S3) (nv:Value) (xs:List ByteArray) (W:World) (hU:UAt z Bu s W) (hown:W.ownsRow B 9 1 nv xs.length (xs.map Value.string)) (hfr:∀ k,OwU Bu W k→k<B) (hl:s.f.length+xs.length≤1000000) :
 Calls Tryz.prog 149 #[.pointer (some ⟨Bu,1,none⟩),nv] W fun e W'=>e=.returned (.bool (decide (s.f.length<(addM s.f (xs.map sOf)).length)))∧UAt z Bu { s with f:=addM s.f (xs.map sOf) } W'∧KO (OwU Bu) z W W':=by
 obtain ⟨va,vb,vc,h1,h2,h3,h4,h5,h6,h7,h8⟩:=hU;have hO:=OwU_iff h1;have hBu:=(Array.getElem?_eq_some_iff.1 h1).1;have hne:∀ k,vb.ownBlock=some k→k≠Bu:=fun k hk=>(h6 k (by first | exact .inl hk | exact .inr (.inl hk) | exact .inr (.inr hk))).2;have hlt:∀ k,vb.ownBlock=some k→k<B:=fun k hk=>hfr k ((hO k).2 (.inr (by first | exact .inl hk | exact .inr (.inl hk) | exact .inr (.inr hk))));have hsz:∀ k,OwV va vb vc k→k<W.heap.size:=fun k hk=>hk.elim h2.lt fun hk=>hk.elim h3.lt h4.lt;refine (add_any Bu 1 vb nv s.f xs W _ _ _ h1 (by rw [Lib.cell_of_heap h1];rfl) (Lib.frozen_of_heap h1 _) h3 (fun e=>hne Bu e rfl) (names_own hown (hfr Bu (.inl rfl)) hlt) hl).mono ?_;rintro e W' ⟨v',rfl,hc,hr,hf⟩;have hb:W'.heap[Bu]?=some (UO va v' vc):=hf.box _ _ _ h1;have hO':=OwU_iff hb;have hoth:∀ k,OwV va v' vc k→v'.ownBlock=some k∨OwV va vb vc k:=by
  rintro k (h | h | h) <;> first | exact .inl h | exact .inr (.inl h) | exact .inr (.inr (.inl h)) | exact .inr (.inr (.inr h))
 have hnew:∀ k,v'.ownBlock=some k→vb.ownBlock=some k∨W.heap.size≤k:=fun k hk=>by
  rcases hf.own with e | ⟨b,e,hb⟩
  ·exact .inl (e▸hk)
  ·rw [e] at hk;cases hk;exact .inr hb
 have hz:z≤W.heap.size:=Nat.le_trans h5 (Nat.le_of_lt hBu);have r_va:RowP W' va s.c:=keep_row hf h2 fun k hk=>⟨(h6 k (.inl hk)).2,fun e=>(h7 k hk).1 e⟩;have r_vc:RowP W' vc s.g:=keep_row hf h4 fun k hk=>⟨(h6 k (.inr (.inr hk))).2,fun e=>h8 k e hk⟩;refine ⟨rfl,⟨va,v',vc,hb,r_va,hr,r_vc,h5,?_,?_,?_⟩,?_,?_,?_,?_⟩
 ·intro k hk
  rcases hoth k hk with hk | hk
  ·rcases hnew k hk with hk | hk
   ·exact h6 k (by first | exact .inl hk | exact .inr (.inl hk) | exact .inr (.inr hk))
   ·exact ⟨by omega,by omega⟩
  ·exact h6 k hk
 ·exact fun k hk=>⟨fun e=>(hnew k e).elim (fun e2=>(h7 k hk).1 e2) fun e2=>by have:=h2.lt hk;omega,fun e=>(h7 k hk).2 e⟩
 ·exact fun k hk=>fun e=>(hnew k hk).elim (fun hk2=>h8 k hk2 e) fun hk2=>by have:=h4.lt e;omega
 ·intro k hk hn
  have hn':¬(k=Bu∨OwV va vb vc k):=fun h=>hn ((hO k).2 h);exact hf.other k hk (fun e=>hn' (.inl e)) fun e=>hn' (.inr (by first | exact .inl e | exact .inr (.inl e) | exact .inr (.inr e)))
 ·intro k hk ho
  refine (hO k).2 ?_;rcases (hO' k).1 ho with h | h
  ·exact .inl h
  ·rcases hoth k h with h | h
   ·rcases hnew k h with h | h
    ·exact .inr (by first | exact .inl h | exact .inr (.inl h) | exact .inr (.inr h))
    ·omega
   ·exact .inr h
 ·intro k ho
  rcases (hO' k).1 ho with h | h
  ·have:=hf.size;omega
  ·rcases hoth k h with h | h
   ·exact hr.lt h
   ·have:=hsz k h;have:=hf.size;omega
 ·refine ⟨hf.os,hf.tape,hf.output,hf.size,fun k hk=>hf.other k (by omega) (by omega) fun e=>?_⟩
  have:=(h6 k (by first | exact .inl e | exact .inr (.inl e) | exact .inr (.inr e))).1;omega
theorem has_f (z Bu:Nat) (s:S3) (x:ByteArray) (W:World) (hU:UAt z Bu s W) (hl:s.f.length≤1000000) :
 Calls Tryz.prog 148 #[.pointer (some ⟨Bu,1,none⟩),.string x] W fun e W'=>e=.returned (.bool (hasM s.f (sOf x)))∧∃ m,W'=W.drewN m:=by
 obtain ⟨va,vb,vc,h1,h2,h3,h4,-⟩:=hU;have hc:W.cell? ⟨Bu,1,none⟩=some vb:=by rw [Lib.cell_of_heap h1];rfl
 have H:=Lib.hid (searchN_any h3 x hl);obtain ⟨a,c,rfl⟩:=h3.form;clear h1 h2 h3 h4
 go_enter Tryz.func148,Tryz.ntmps148
 go_wp2_with fail
 refine H.out.mono ?_;rintro e W' ⟨rfl,hs⟩
 go_wp2
 go_ret
 exact ⟨rfl,hs⟩
theorem add_g (z Bu B:Nat) (s:S3) (nv:Value) (xs:List ByteArray) (W:World) (hU:UAt z Bu s W) (hown:W.ownsRow B 9 1 nv xs.length (xs.map Value.string)) (hfr:∀ k,OwU Bu W k→k<B) (hl:s.g.length+xs.length≤1000000) :
 Calls Tryz.prog 149 #[.pointer (some ⟨Bu,2,none⟩),nv] W fun e W'=>e=.returned (.bool (decide (s.g.length<(addM s.g (xs.map sOf)).length)))∧UAt z Bu { s with g:=addM s.g (xs.map sOf) } W'∧KO (OwU Bu) z W W':=by
 obtain ⟨va,vb,vc,h1,h2,h3,h4,h5,h6,h7,h8⟩:=hU;have hO:=OwU_iff h1;have hBu:=(Array.getElem?_eq_some_iff.1 h1).1;have hne:∀ k,vc.ownBlock=some k→k≠Bu:=fun k hk=>(h6 k (by first | exact .inl hk | exact .inr (.inl hk) | exact .inr (.inr hk))).2;have hlt:∀ k,vc.ownBlock=some k→k<B:=fun k hk=>hfr k ((hO k).2 (.inr (by first | exact .inl hk | exact .inr (.inl hk) | exact .inr (.inr hk))));have hsz:∀ k,OwV va vb vc k→k<W.heap.size:=fun k hk=>hk.elim h2.lt fun hk=>hk.elim h3.lt h4.lt;refine (add_any Bu 2 vc nv s.g xs W _ _ _ h1 (by rw [Lib.cell_of_heap h1];rfl) (Lib.frozen_of_heap h1 _) h4 (fun e=>hne Bu e rfl) (names_own hown (hfr Bu (.inl rfl)) hlt) hl).mono ?_;rintro e W' ⟨v',rfl,hc,hr,hf⟩;have hb:W'.heap[Bu]?=some (UO va vb v'):=hf.box _ _ _ h1;have hO':=OwU_iff hb;have hoth:∀ k,OwV va vb v' k→v'.ownBlock=some k∨OwV va vb vc k:=by
  rintro k (h | h | h) <;> first | exact .inl h | exact .inr (.inl h) | exact .inr (.inr (.inl h)) | exact .inr (.inr (.inr h))
 have hnew:∀ k,v'.ownBlock=some k→vc.ownBlock=some k∨W.heap.size≤k:=fun k hk=>by
  rcases hf.own with e | ⟨b,e,hb⟩
  ·exact .inl (e▸hk)
  ·rw [e] at hk;cases hk;exact .inr hb
 have hz:z≤W.heap.size:=Nat.le_trans h5 (Nat.le_of_lt hBu);have r_va:RowP W' va s.c:=keep_row hf h2 fun k hk=>⟨(h6 k (.inl hk)).2,fun e=>(h7 k hk).2 e⟩;have r_vb:RowP W' vb s.f:=keep_row hf h3 fun k hk=>⟨(h6 k (.inr (.inl hk))).2,fun e=>h8 k hk e⟩;refine ⟨rfl,⟨va,vb,v',hb,r_va,r_vb,hr,h5,?_,?_,?_⟩,?_,?_,?_,?_⟩
 ·intro k hk
  rcases hoth k hk with hk | hk
  ·rcases hnew k hk with hk | hk
   ·exact h6 k (by first | exact .inl hk | exact .inr (.inl hk) | exact .inr (.inr hk))
   ·exact ⟨by omega,by omega⟩
  ·exact h6 k hk
 ·exact fun k hk=>⟨fun e=>(h7 k hk).1 e,fun e=>(hnew k e).elim (fun e2=>(h7 k hk).2 e2) fun e2=>by have:=h2.lt hk;omega⟩
 ·exact fun k hk=>fun e=>(hnew k e).elim (fun e2=>h8 k hk e2) fun e2=>by have:=h3.lt hk;omega
 ·intro k hk hn
  have hn':¬(k=Bu∨OwV va vb vc k):=fun h=>hn ((hO k).2 h);exact hf.other k hk (fun e=>hn' (.inl e)) fun e=>hn' (.inr (by first | exact .inl e | exact .inr (.inl e) | exact .inr (.inr e)))
 ·intro k hk ho
  refine (hO k).2 ?_;rcases (hO' k).1 ho with h | h
  ·exact .inl h
  ·rcases hoth k h with h | h
   ·rcases hnew k h with h | h
    ·exact .inr (by first | exact .inl h | exact .inr (.inl h) | exact .inr (.inr h))
    ·omega
   ·exact .inr h
 ·intro k ho
  rcases (hO' k).1 ho with h | h
  ·have:=hf.size;omega
  ·rcases hoth k h with h | h
   ·exact hr.lt h
   ·have:=hsz k h;have:=hf.size;omega
 ·refine ⟨hf.os,hf.tape,hf.output,hf.size,fun k hk=>hf.other k (by omega) (by omega) fun e=>?_⟩
  have:=(h6 k (by first | exact .inl e | exact .inr (.inl e) | exact .inr (.inr e))).1;omega
def anB (s:ByteArray):Bool:=s.toList==[97,110,105,109,97,116,105,111,110,45,110,97,109,101]
def amB (s:ByteArray):Bool:=s.toList==[97,110,105,109,97,116,105,111,110]
def foB (s:ByteArray):Bool:=s.toList==[102,111,110,116]
def frB (n:ByteArray):Bool:=customB n||anB n||amB n
def faB (n:ByteArray):Bool:=customB n||ffB n||foB n
def rfN (l:List Vl):List Str:=(dd (rfVs l)).map sOf
def vN (l:List Vl):List Str:=ofM 1 l++ofM 6 l
def declM (s:S3) (n:ByteArray) (l:List Vl):S3 :=
 if customB n=true∧hasM s.c (sOf n)=false then s else ⟨addM s.c (rfN l),if frB n=true then addM s.f (ofM 1 l) else s.f,if faB n=true then addM s.g (vN l) else s.g⟩
def grewB (s t:S3):Bool:=decide (s.c.length<t.c.length)||decide (s.f.length<t.f.length)||decide (s.g.length<t.g.length)
theorem dd_le (l:List ByteArray):(dd l).length≤l.length:=dd_len l
theorem rfN_le (l:List Vl):(rfN l).length≤cntVs l:=by
 rw [rfN,List.length_map];exact Nat.le_trans (dd_le _) (rfVs_cnt l)
theorem vN_le (l:List Vl):(vN l).length≤2*cntVs l:=by
 have h1:=ofM_le 1 l;have h2:=ofM_le 6 l;rw [vN,List.length_append];omega
def NmRow (W:World) (B:Nat) (v:Value) (nm:List Str):Prop:=W.ownsRow B 9 1 v nm.length (nm.map encStr)
theorem NmRow.bs {W:World} {B:Nat} {v:Value} {nm:List Str} (h:NmRow W B v nm):W.ownsRow B 9 1 v (nm.map bs).length ((nm.map bs).map Value.string):=by
 rw [List.length_map,List.map_map];exact h
theorem sOf_bs (nm:List Str):(nm.map bs).map sOf=nm:=by
 rw [List.map_map];conv=>rhs;rw [←List.map_id nm]
 congr 1
theorem NmRow.src {W:World} {B:Nat} {v:Value} {nm:List Str} (h:NmRow W B v nm):SrcN W v nm.length 1 (nm.map encStr):=by
 rcases h.2 with ⟨rfl,h0⟩ | ⟨g,cap,cur,rfl,-,hg,hc,-,-,ht⟩
 ·obtain rfl:nm=[]:=List.eq_nil_of_length_eq_zero h0
  exact .inl ⟨0,rfl,rfl,rfl⟩
 ·refine .inr ⟨_,_,rfl,by simp,fun j u hj=>?_,enc_one nm⟩
  rw [Addr.add_lit,Nat.zero_add,Lib.cell_of_heap hg];have hlt:j<nm.length:=by simpa using (List.getElem?_eq_some_iff.1 hj).1
  rw [←ht,List.getElem?_take,if_pos (by omega)] at hj;simpa using hj
theorem NmRow.below {W W':World} {B:Nat} {v:Value} {nm:List Str} (h:NmRow W B v nm) (hb:Below W.heap.size W W'):NmRow W' B v nm:=owns_below h hb
theorem refsN_any (v:Value) (vs:List Vl) (w:World) (hcn:cntVs vs≤1000) (hok:okVs vs=true) (hv:At w (.sl vs.length 5 (vs.flatMap encV)) v) :
 Calls Tryz.prog 58 #[v] w fun e w'=>∃ v',e=.returned v'∧NmRow w' w.heap.size v' (rfN vs)∧Below w.heap.size w w':=by
 refine (refs_any v vs w (by omega) hok hv).mono ?_;rintro e w' ⟨v',rfl,h,hb⟩;refine ⟨v',rfl,?_,hb⟩;rw [NmRow,rfN,List.length_map,←map_sOf];exact h
theorem identsN_any (v:Value) (vs:List Vl) (w:World) (hcn:cntVs vs≤1000) (hv:At w (.sl vs.length 5 (vs.flatMap encV)) v) :
 Calls Tryz.prog 36 #[v] w fun e w'=>∃ v',e=.returned v'∧NmRow w' w.heap.size v' (ofM 1 vs)∧Below w.heap.size w w':=idents_any v vs w (by omega) hv
theorem stringsN_any (v:Value) (vs:List Vl) (w:World) (hcn:cntVs vs≤1000) (hv:At w (.sl vs.length 5 (vs.flatMap encV)) v) :
 Calls Tryz.prog 38 #[v] w fun e w'=>∃ v',e=.returned v'∧NmRow w' w.heap.size v' (ofM 6 vs)∧Below w.heap.size w w':=strings_any v vs w (by omega) hv
theorem concat2_any (v1 v2:Value) (a b:List Str) (w:World) (B1 B2:Nat) (h1:NmRow w B1 v1 a) (h2:NmRow w B2 v2 b) (hl:a.length+b.length≤1000000) :
 Calls Tryz.prog 150 #[.slice (some ⟨w.heap.size,0,none⟩) 2 2] (w.alloc (.cells #[v1,v2] 25)) fun e w'=>∃ v',e=.returned v'∧NmRow w' w.heap.size v' (a++b)∧Below w.heap.size w w':=by
 have hb0:=below_alloc w (.cells #[v1,v2] 25);have hcell:∀ j (u:Value),(#[v1,v2]:Array Value)[j]?=some u→(w.alloc (.cells #[v1,v2] 25)).cell? ⟨w.heap.size,0+j,none⟩=some u:=fun j u hj=>by
  rw [Lib.cell_of_heap (World.alloc_heap_new w _),Nat.zero_add];exact hj
 have hp:PcAt (w.alloc (.cells #[v1,v2] 25)) (.slice (some ⟨w.heap.size,0,none⟩) 2 2) [⟨v1,a.length,a.map encStr⟩,⟨v2,b.length,b.map encStr⟩] 1:=by
  refine ⟨.inr ⟨w.heap.size,0,2,rfl,by simp,fun k hk=>?_⟩,fun p hp=>?_⟩
  ·rcases k with _ | _ | k
   ·exact hcell 0 _ rfl
   ·exact hcell 1 _ rfl
   ·simp at hk;omega
  ·simp only [List.mem_cons,List.not_mem_nil,or_false] at hp
   rcases hp with rfl | rfl
   ·exact h1.src.below hb0
   ·exact h2.src.below hb0
 refine (concatS_any _ _ _ hp (by simp [sumM];omega) (by simp)).mono ?_;rintro e w' ⟨v',rfl,h,hb⟩;have e1:sumM [⟨v1,a.length,a.map encStr⟩,⟨v2,b.length,b.map encStr⟩]=(a++b).length:=by simp [sumM]
 have e2:allN [⟨v1,a.length,a.map encStr⟩,⟨v2,b.length,b.map encStr⟩]=(a++b).map encStr:=by simp [allN]
 rw [e1,e2,World.size_alloc] at h;exact ⟨v',rfl,owns_mono h (Nat.le_succ _),hb0.trans (hb.mono (by simp))⟩
theorem addN_c (z Bu B:Nat) (s:S3) (nv:Value) (nm:List Str) (W:World) (hU:UAt z Bu s W) (hown:NmRow W B nv nm) (hfr:∀ k,OwU Bu W k→k<B) (hl:s.c.length+nm.length≤1000000) :
 Calls Tryz.prog 149 #[.pointer (some ⟨Bu,0,none⟩),nv] W fun e W'=>e=.returned (.bool (decide (s.c.length<(addM s.c nm).length)))∧UAt z Bu ⟨addM s.c nm,s.f,s.g⟩ W'∧KO (OwU Bu) z W W':=by
 have h:=add_c z Bu B s nv (nm.map bs) W hU hown.bs hfr (by simpa using hl);rw [sOf_bs] at h;exact h
theorem addN_f (z Bu B:Nat) (s:S3) (nv:Value) (nm:List Str) (W:World) (hU:UAt z Bu s W) (hown:NmRow W B nv nm) (hfr:∀ k,OwU Bu W k→k<B) (hl:s.f.length+nm.length≤1000000) :
 Calls Tryz.prog 149 #[.pointer (some ⟨Bu,1,none⟩),nv] W fun e W'=>e=.returned (.bool (decide (s.f.length<(addM s.f nm).length)))∧UAt z Bu ⟨s.c,addM s.f nm,s.g⟩ W'∧KO (OwU Bu) z W W':=by
 have h:=add_f z Bu B s nv (nm.map bs) W hU hown.bs hfr (by simpa using hl);rw [sOf_bs] at h;exact h
theorem addN_g (z Bu B:Nat) (s:S3) (nv:Value) (nm:List Str) (W:World) (hU:UAt z Bu s W) (hown:NmRow W B nv nm) (hfr:∀ k,OwU Bu W k→k<B) (hl:s.g.length+nm.length≤1000000) :
 Calls Tryz.prog 149 #[.pointer (some ⟨Bu,2,none⟩),nv] W fun e W'=>e=.returned (.bool (decide (s.g.length<(addM s.g nm).length)))∧UAt z Bu ⟨s.c,s.f,addM s.g nm⟩ W'∧KO (OwU Bu) z W W':=by
 have h:=add_g z Bu B s nv (nm.map bs) W hU hown.bs hfr (by simpa using hl);rw [sOf_bs] at h;exact h
theorem KO.blk {z Bu:Nat} {W W':World} (h:KO (OwU Bu) z W W') {k:Nat} {o:Obj} (hk:W.heap[k]?=some o) (hn:¬OwU Bu W k):W'.heap[k]?=some o:=(h.same k (Array.getElem?_eq_some_iff.1 hk).1 hn).trans hk
theorem KO.not_own {z Bu:Nat} {W W':World} (h:KO (OwU Bu) z W W') {k:Nat} (hk:k<W.heap.size) (hn:¬OwU Bu W k):¬OwU Bu W' k:=fun ho=>hn (h.own k hk ho)
structure DSt (z Bu X:Nat) (o:Obj) (w:World) (s:S3) (W:World):Prop where
 u:UAt z Bu s W
 ko:KO (OwU Bu) z w W
 x:W.heap[X]?=some o
 nx:¬OwU Bu W X
theorem DSt.below {z Bu X:Nat} {o:Obj} {w W W':World} {s:S3} (h:DSt z Bu X o w s W) (hb:Below W.heap.size W W') (hz:z≤w.heap.size):DSt z Bu X o w s W' :=
 ⟨h.u.below hb,h.ko.trans (h.u.ko hb (Nat.le_trans hz h.ko.below.size)),(hb.block _ (Array.getElem?_eq_some_iff.1 h.x).1).trans h.x,fun ho=>h.nx (OwU_below h.u.lt hb X ho)⟩
theorem DSt.add {z Bu X:Nat} {o:Obj} {w W W':World} {s t:S3} (h:DSt z Bu X o w s W) (hu:UAt z Bu t W') (hk:KO (OwU Bu) z W W'):DSt z Bu X o w t W' :=
 ⟨hu,h.ko.trans hk,hk.blk h.x h.nx,hk.not_own (Array.getElem?_eq_some_iff.1 h.x).1 h.nx⟩
theorem DSt.new {z Bu:Nat} {o:Obj} {w:World} {s:S3} (hu:UAt z Bu s w) (hz:z≤w.heap.size):DSt z Bu w.heap.size o w s (w.alloc o) :=
 ⟨hu.below (below_alloc _ _),hu.ko (below_alloc _ _) hz,World.alloc_heap_new w o,fun ho=>by have:=(hu.own (OwU_below hu.lt (below_alloc _ _) _ ho)).2;omega⟩
theorem DSt.old {z Bu X:Nat} {o:Obj} {w W W':World} {s:S3} (h:DSt z Bu X o w s W) (hb:Below W.heap.size W W'):∀ k,OwU Bu W' k→k<W.heap.size:=fun k hk=>(h.u.own (OwU_below h.u.lt hb k hk)).2
def dclO (nm:ByteArray) (ad:Option Addr) (n cap:Nat) (imp:Bool):Obj:=.cells #[.string nm,.slice ad n cap,.bool imp] 134
theorem dclO_cells {W:World} {X:Nat} {nm:ByteArray} {ad:Option Addr} {n cap:Nat} {imp:Bool} (h:W.heap[X]?=some (dclO nm ad n cap imp)) :
 W.cell? ⟨X,0,none⟩=some (.string nm)∧W.cell? ⟨X,1,none⟩=some (.slice ad n cap):=by
 unfold dclO at h;exact ⟨by rw [Lib.cell_of_heap h];rfl,by rw [Lib.cell_of_heap h];rfl⟩
def UPost (z Bu:Nat) (s t:S3) (w:World) (e:Ending) (w':World):Prop:=e=.returned (.bool (grewB s t))∧UAt z Bu t w'∧KO (OwU Bu) z w w'
theorem grewB_eq {s t:S3} {g1 g2 g3:Bool} (h1:decide (s.c.length<t.c.length)=g1) (h2:decide (s.f.length<t.f.length)=g2) (h3:decide (s.g.length<t.g.length)=g3):grewB s t=(g1||g2||g3):=by rw [grewB,h1,h2,h3]
theorem grewB_self (s:S3):grewB s s=false:=by simp [grewB]
set_option maxRecDepth 100000 in
set_option maxHeartbeats 8000000 in
theorem decl_any (z Bu:Nat) (s:S3) (nm:ByteArray) (ad:Option Addr) (cap:Nat) (imp:Bool) (l:List Vl) (w:World) (hu:UAt z Bu s w) (hz:z≤w.heap.size)
 (hv:AtB z w (.sl l.length 5 (l.flatMap encV)) (.slice ad l.length cap)) (hcn:cntVs l≤1000) (hok:okVs l=true) (hs:s.c.length≤500000∧s.f.length≤500000∧s.g.length≤500000) :
 Calls Tryz.prog 147 #[.pointer (some ⟨Bu,0,none⟩),.agg #[.string nm,.slice ad l.length cap,.bool imp]] w (UPost z Bu s (declM s nm l) w):=by
 have hAt:∀ W,Below z w W→At W (.sl l.length 5 (l.flatMap encV)) (.slice ad l.length cap):=fun W h=>(hv.below h).toAt (Nat.le_trans hz h.size);have HR:=Lib.hid fun W (h:Below z w W)=>refsN_any _ l W hcn hok (hAt W h);have HI:=Lib.hid fun W (h:Below z w W)=>identsN_any _ l W hcn (hAt W h);have HT:=Lib.hid fun W (h:Below z w W)=>stringsN_any _ l W hcn (hAt W h);have D0:DSt z Bu w.heap.size (dclO nm ad l.length cap imp) w s (w.alloc (dclO nm ad l.length cap imp)):=DSt.new hu hz;have hl1:=rfN_le l;have hl2:=ofM_le 1 l;have hl3:=vN_le l;have hl4:(ofM 1 l).length+(ofM 6 l).length≤2000:=by have:=vN_le l;rw [vN,List.length_append] at this;omega
 obtain ⟨hs1,hs2,hs3⟩:=hs;have HZ:=Lib.hid hz;have HX:=Lib.hid fun (t:S3) (W:World) (h:DSt z Bu w.heap.size (dclO nm ad l.length cap imp) w t W)=>dclO_cells h.x;have HDB:=Lib.hid fun (t:S3) (W W':World) (h:DSt z Bu w.heap.size (dclO nm ad l.length cap imp) w t W) (hb:Below W.heap.size W W')=>h.below hb HZ.out;have hdm:∀ t,t=declM s nm l→(customB nm=true→hasM s.c (sOf nm)=true)→t=⟨addM s.c (rfN l),if frB nm=true then addM s.f (ofM 1 l) else s.f,if faB nm=true then addM s.g (vN l) else s.g⟩:=fun t ht h=>by
  rw [ht,declM,if_neg];rintro ⟨h1,h2⟩;rw [h h1] at h2;cases h2
 have hdf:customB nm=true→hasM s.c (sOf nm)=false→declM s nm l=s:=fun h1 h2=>by rw [declM,if_pos ⟨h1,h2⟩]
 have hfr:frB nm=(customB nm||nm.toList==[97,110,105,109,97,116,105,111,110,45,110,97,109,101]||nm.toList==[97,110,105,109,97,116,105,111,110]):=rfl;have hfa:faB nm=(customB nm||nm.toList==[102,111,110,116,45,102,97,109,105,108,121]||nm.toList==[102,111,110,116]):=rfl;have HDM:=Lib.hid hdm;have HDF:=Lib.hid hdf;generalize hdt:declM s nm l=t at *;have HDT:=Lib.hid hdt;have D0H:=Lib.hid D0;obtain ⟨x0,x1⟩:=HX.out _ _ D0;have HH:=Lib.hid fun n=>has_c z Bu s nm _ ((D0.below (below_drewN (Below.refl _ _) n) HZ.out).u) (by omega);clear hAt hv hu hz hdm hdf hdt D0
 go_enter Tryz.func147,Tryz.ntmps147
 go_wp2_with fail
 refine (custom_any nm _).mono ?_;rintro e w1 ⟨rfl,rfl⟩
 go_upto_region 2 with fail
 go_cut [5,9,19] from 10 to 19 (fun v5 _ v19 wx=>v5=.bool (customB nm)∧v19=.bool (customB nm&&!hasM s.c (sOf nm))∧Hid (DSt z Bu w.heap.size (dclO nm ad l.length cap imp) w s wx))
 case first =>
  cases hcu:customB nm
  ·go_quiet (fail)
   go_wp2_with fail
   go_meet
   exact ⟨by rw [hcu],by rw [hcu];rfl,Lib.hid (HDB.out _ _ _ D0H.out (below_drewN (Below.refl _ _) _))⟩
  ·go_quiet ((go_at_call 148;exact Calls.quiet_of (HH.out _)))
   go_wp2_with fail
   go_meet
   exact ⟨by rw [hcu],by rw [hcu];rfl,Lib.hid (HDB.out _ _ _ D0H.out (below_drewN (Below.refl _ _) _))⟩
 case rest =>
 obtain ⟨rfl,rfl,D1H⟩:=hcut;clear HH D0H x0 x1;obtain ⟨x0,x1⟩:=HX.out _ _ D1H.out
 cases hq:(customB nm&&!hasM s.c (sOf nm))
 ·have HTE := HDM.out t rfl (fun h=>by rw [h] at hq;simpa using hq)
  clear HDM HDF
  go_upto_region 4 with fail
  have D1:=D1H.out;clear x0 x1 D1H;obtain ⟨x0,x1⟩:=HX.out _ _ D1;have D1d:DSt z Bu w.heap.size (dclO nm ad l.length cap imp) w s wc.drew:=HDB.out _ _ _ D1 (Below.refl _ _).drew;obtain ⟨x0d,x1d⟩:=HX.out _ _ D1d;have D1H:=Lib.hid D1;have D1dH:=Lib.hid D1d;have R1:=Lib.hid (HR.out _ D1d.ko.below);clear D1 D1d
  go_cut [6] from 20 to 26 (fun v6 wx=>v6=.bool (decide (s.c.length<(addM s.c (rfN l)).length))∧Hid (DSt z Bu w.heap.size (dclO nm ad l.length cap imp) w ⟨addM s.c (rfN l),s.f,s.g⟩ wx))
  case first =>
   go_region_held3 (fun w'=>w'.cell? ⟨w.heap.size,0,none⟩=some (.string nm)∧w'.cell? ⟨w.heap.size,1,none⟩=some (.slice ad l.length cap))
    (first | exact ⟨x0,x1⟩ | exact ⟨x0d,x1d⟩ | exact ⟨x02,x12⟩ | exact ⟨x03,x13⟩)
    ((first
      | (go_at_call 58
         refine R1.out.mono ?_;rintro e w2 ⟨v2,rfl,ho2,hB2⟩;have D2:=HDB.out _ _ _ D1dH.out hB2;have A2:=addN_c z Bu _ s v2 (rfN l) w2 D2.u ho2 (D1dH.out.old hB2) (by omega)
         obtain ⟨x02,x12⟩:=HX.out _ _ D2)
      | (go_at_call 149
         refine A2.mono ?_;rintro e w3 ⟨rfl,hu3,hk3⟩;have D3:=D2.add hu3 hk3
         obtain ⟨x03,x13⟩:=HX.out _ _ D3)))
   go_wp2_with fail
   go_meet
   exact ⟨rfl,Lib.hid D3⟩
  case rest =>
  obtain ⟨rfl,D3⟩:=hcut;clear x0 x1 x0d x1d D1H D1dH R1;obtain ⟨x0,x1⟩:=HX.out _ _ D3.out;generalize hq1:decide (s.c.length<(addM s.c (rfN l)).length)=q1
  go_upto_region 5 with fail
  go_cut [5,37] from 27 to 37 (fun v5 v wx=>v5=.bool (customB nm)∧v=.bool (frB nm)∧wx=wc)
  case first =>
   cases hcu:customB nm
   ·cases h1:(nm.toList==[97,110,105,109,97,116,105,111,110,45,110,97,109,101])
    ·cases h2:(nm.toList==[97,110,105,109,97,116,105,111,110])
     ·go_wp2_with fail
      go_meet
      exact ⟨by rw [hcu],by rw [hfr,hcu,h1,h2];rfl,rfl⟩
     ·go_wp2_with fail
      go_meet
      exact ⟨by rw [hcu],by rw [hfr,hcu,h1,h2];rfl,rfl⟩
    ·go_wp2_with fail
     go_meet
     exact ⟨by rw [hcu],by rw [hfr,hcu,h1];rfl,rfl⟩
   ·go_wp2_with fail
    go_meet
    exact ⟨by rw [hcu],by rw [hfr,hcu];rfl,rfl⟩
  case rest =>
  obtain ⟨rfl,rfl,rfl⟩:=hcut
  go_upto_if 37 with fail
  go_cut [6] from 27 to 47 (fun v6 wx=>v6=.bool (decide (s.f.length<(if frB nm=true then addM s.f (ofM 1 l) else s.f).length)||q1)∧Hid (DSt z Bu w.heap.size (dclO nm ad l.length cap imp) w ⟨addM s.c (rfN l),if frB nm=true then addM s.f (ofM 1 l) else s.f,s.g⟩ wx))
  case first =>
   cases hf:frB nm
   ·go_wp2_with fail
    go_meet
    exact ⟨by rw [hf];simp,by rw [hf];exact D3⟩
   ·go_upto_region 6 with fail
    have D1:=D3.out;clear D3;have D1d:DSt z Bu w.heap.size (dclO nm ad l.length cap imp) w ⟨addM s.c (rfN l),s.f,s.g⟩ wc.drew:=HDB.out _ _ _ D1 (Below.refl _ _).drew;obtain ⟨x0d,x1d⟩:=HX.out _ _ D1d;have D1H:=Lib.hid D1;have D1dH:=Lib.hid D1d;have R1:=Lib.hid (HI.out _ D1d.ko.below);clear D1 D1d
    cases hq2:decide (s.f.length<(addM s.f (ofM 1 l)).length)
    ·go_region_held3 (fun w'=>w'.cell? ⟨w.heap.size,0,none⟩=some (.string nm)∧w'.cell? ⟨w.heap.size,1,none⟩=some (.slice ad l.length cap))
      (first | exact ⟨x0,x1⟩ | exact ⟨x0d,x1d⟩ | exact ⟨x02,x12⟩ | exact ⟨x03,x13⟩)
      ((first
        | (go_at_call 36
           refine R1.out.mono ?_;rintro e w2 ⟨v2,rfl,ho2,hB2⟩;have D2:=HDB.out _ _ _ D1dH.out hB2;have A2:=addN_f z Bu _ ⟨addM s.c (rfN l),s.f,s.g⟩ v2 (ofM 1 l) w2 D2.u ho2 (D1dH.out.old hB2) (by show s.f.length+_≤_;omega);dsimp only at A2;rw [hq2] at A2
           obtain ⟨x02,x12⟩:=HX.out _ _ D2)
        | (go_at_call 149
           refine A2.mono ?_;rintro e w3 ⟨rfl,hu3,hk3⟩;have D3:=D2.add hu3 hk3
           obtain ⟨x03,x13⟩:=HX.out _ _ D3)))
     go_wp2_with fail
     go_meet
     exact ⟨by rw [hf,if_pos rfl,hq2];rfl,by rw [hf,if_pos rfl];exact Lib.hid D3⟩
    ·first | (go_region_with ((first
      | (go_at_call 36
         refine R1.out.mono ?_;rintro e w2 ⟨v2,rfl,ho2,hB2⟩;have D2:=HDB.out _ _ _ D1dH.out hB2;have A2:=addN_f z Bu _ ⟨addM s.c (rfN l),s.f,s.g⟩ v2 (ofM 1 l) w2 D2.u ho2 (D1dH.out.old hB2) (by show s.f.length+_≤_;omega);dsimp only at A2;rw [hq2] at A2
         obtain ⟨x02,x12⟩:=HX.out _ _ D2)
      | (go_at_call 149
         refine A2.mono ?_;rintro e w3 ⟨rfl,hu3,hk3⟩;have D3:=D2.add hu3 hk3
         obtain ⟨x03,x13⟩:=HX.out _ _ D3)))) | fail
     all_goals (
      go_wp2_with fail
      go_meet
      exact ⟨by rw [hf,if_pos rfl,hq2];rfl,by rw [hf,if_pos rfl];exact Lib.hid D3⟩)
  case rest =>
  obtain ⟨rfl,D3⟩:=hcut;clear x0 x1;obtain ⟨x0,x1⟩:=HX.out _ _ D3.out;generalize hq2:decide (s.f.length<(if frB nm=true then addM s.f (ofM 1 l) else s.f).length)=q2;generalize hq21:(q2||q1)=q21
  go_upto_region 7 with fail
  go_cut [5,58] from 48 to 58 (fun v5 v wx=>v5=.bool (customB nm)∧v=.bool (faB nm)∧wx=wc)
  case first =>
   cases hcu:customB nm
   ·cases h1:(nm.toList==[102,111,110,116,45,102,97,109,105,108,121])
    ·cases h2:(nm.toList==[102,111,110,116])
     ·go_wp2_with fail
      go_meet
      exact ⟨by rw [hcu],by rw [hfa,hcu,h1,h2];rfl,rfl⟩
     ·go_wp2_with fail
      go_meet
      exact ⟨by rw [hcu],by rw [hfa,hcu,h1,h2];rfl,rfl⟩
    ·go_wp2_with fail
     go_meet
     exact ⟨by rw [hcu],by rw [hfa,hcu,h1];rfl,rfl⟩
   ·go_wp2_with fail
    go_meet
    exact ⟨by rw [hcu],by rw [hfa,hcu];rfl,rfl⟩
  case rest =>
  obtain ⟨rfl,rfl,rfl⟩:=hcut
  cases hg:faB nm
  ·go_wp2
   go_ret
   refine ⟨?_,?_,D3.out.ko⟩
   ·rw [HTE,grewB_eq (t:=⟨addM s.c (rfN l),if frB nm=true then addM s.f (ofM 1 l) else s.f,if faB nm=true then addM s.g (vN l) else s.g⟩) (g3:=false) hq1 hq2 (by rw [hg];simp)]
    cases q1 <;> cases q2 <;> cases hq21 <;> rfl
   ·rw [HTE,hg];exact D3.out.u
  ·go_upto_region 8 with fail
   have D1:=D3.out;clear D3;have D1d:DSt z Bu w.heap.size (dclO nm ad l.length cap imp) w ⟨addM s.c (rfN l),if frB nm=true then addM s.f (ofM 1 l) else s.f,s.g⟩ wc.drew:=HDB.out _ _ _ D1 (Below.refl _ _).drew;obtain ⟨x0d,x1d⟩:=HX.out _ _ D1d;have D1H:=Lib.hid D1;have D1dH:=Lib.hid D1d;have R1:=Lib.hid (HI.out _ D1d.ko.below);clear D1 D1d
   cases hq3:decide (s.g.length<(addM s.g (vN l)).length)
   ·go_region_held3 (fun w'=>w'.cell? ⟨w.heap.size,0,none⟩=some (.string nm)∧w'.cell? ⟨w.heap.size,1,none⟩=some (.slice ad l.length cap))
     (first | exact ⟨x0,x1⟩ | exact ⟨x0d,x1d⟩ | exact ⟨x02,x12⟩ | exact ⟨x04,x14⟩ | exact ⟨x05,x15⟩ | exact ⟨x06,x16⟩ | exact ⟨x03,x13⟩)
     ((first
       | (go_at_call 36
          refine R1.out.mono ?_;rintro e w2 ⟨v2,rfl,ho2,hB2⟩;obtain ⟨a2,c2,rfl⟩:=owns_slice ho2;have D2:=HDB.out _ _ _ D1dH.out hB2
          obtain ⟨x02,x12⟩:=HX.out _ _ D2)
       | (go_at_call 38
          refine (HT.out _ D2.ko.below).mono ?_;rintro e w4 ⟨v4,rfl,ho4,hB4⟩;obtain ⟨a4,c4,rfl⟩:=owns_slice ho4;have D4:=HDB.out _ _ _ D2 hB4;obtain ⟨x04,x14⟩:=HX.out _ _ D4;have D5:=HDB.out _ _ _ D4 (below_alloc w4 (.cells #[.slice a2 (ofM 1 l).length c2,.slice a4 (ofM 6 l).length c4] 25));obtain ⟨x05,x15⟩:=HX.out _ _ D5;have C4:=concat2_any (.slice a2 (ofM 1 l).length c2) (.slice a4 (ofM 6 l).length c4) (ofM 1 l) (ofM 6 l) w4 _ _ (ho2.below hB4) ho4 (by omega)
          clear ho2 ho4)
       | (go_at_call 150
          refine C4.mono ?_;rintro e w6 ⟨v6,rfl,ho6,hB6⟩;have D6:=HDB.out _ _ _ D4 hB6;obtain ⟨x06,x16⟩:=HX.out _ _ D6;have A2:=addN_g z Bu _ ⟨addM s.c (rfN l),if frB nm=true then addM s.f (ofM 1 l) else s.f,s.g⟩ v6 (vN l) w6 D6.u ho6 (D4.old hB6) (by show s.g.length+_≤_;omega);dsimp only at A2;rw [hq3] at A2
          clear ho6)
       | (go_at_call 149
          refine A2.mono ?_;rintro e w3 ⟨rfl,hu3,hk3⟩;have D3:=D6.add hu3 hk3
          obtain ⟨x03,x13⟩:=HX.out _ _ D3)))
    go_wp2
    go_ret
    refine ⟨?_,?_,D3.ko⟩
    ·rw [HTE,grewB_eq (t:=⟨addM s.c (rfN l),if frB nm=true then addM s.f (ofM 1 l) else s.f,if faB nm=true then addM s.g (vN l) else s.g⟩) (g3:=false) hq1 hq2 (by rw [hg,if_pos rfl];exact hq3)]
     cases q1 <;> cases q2 <;> first | rfl | (cases hq21;rfl)
    ·rw [HTE,hg,if_pos rfl];exact D3.u
   ·first | (go_region_with ((first
     | (go_at_call 36
        refine R1.out.mono ?_;rintro e w2 ⟨v2,rfl,ho2,hB2⟩;obtain ⟨a2,c2,rfl⟩:=owns_slice ho2;have D2:=HDB.out _ _ _ D1dH.out hB2
        obtain ⟨x02,x12⟩:=HX.out _ _ D2)
     | (go_at_call 38
        refine (HT.out _ D2.ko.below).mono ?_;rintro e w4 ⟨v4,rfl,ho4,hB4⟩;obtain ⟨a4,c4,rfl⟩:=owns_slice ho4;have D4:=HDB.out _ _ _ D2 hB4;obtain ⟨x04,x14⟩:=HX.out _ _ D4;have D5:=HDB.out _ _ _ D4 (below_alloc w4 (.cells #[.slice a2 (ofM 1 l).length c2,.slice a4 (ofM 6 l).length c4] 25));obtain ⟨x05,x15⟩:=HX.out _ _ D5;have C4:=concat2_any (.slice a2 (ofM 1 l).length c2) (.slice a4 (ofM 6 l).length c4) (ofM 1 l) (ofM 6 l) w4 _ _ (ho2.below hB4) ho4 (by omega)
        clear ho2 ho4)
     | (go_at_call 150
        refine C4.mono ?_;rintro e w6 ⟨v6,rfl,ho6,hB6⟩;have D6:=HDB.out _ _ _ D4 hB6;obtain ⟨x06,x16⟩:=HX.out _ _ D6;have A2:=addN_g z Bu _ ⟨addM s.c (rfN l),if frB nm=true then addM s.f (ofM 1 l) else s.f,s.g⟩ v6 (vN l) w6 D6.u ho6 (D4.old hB6) (by show s.g.length+_≤_;omega);dsimp only at A2;rw [hq3] at A2
        clear ho6)
     | (go_at_call 149
        refine A2.mono ?_;rintro e w3 ⟨rfl,hu3,hk3⟩;have D3:=D6.add hu3 hk3
        obtain ⟨x03,x13⟩:=HX.out _ _ D3)))) | fail
    all_goals (
     go_wp2
     go_ret
     refine ⟨?_,?_,D3.ko⟩
     ·rw [HTE,grewB_eq (t:=⟨addM s.c (rfN l),if frB nm=true then addM s.f (ofM 1 l) else s.f,if faB nm=true then addM s.g (vN l) else s.g⟩) (g3:=true) hq1 hq2 (by rw [hg,if_pos rfl];exact hq3)]
      cases q1 <;> cases q2 <;> first | rfl | (cases hq21;rfl)
     ·rw [HTE,hg,if_pos rfl];exact D3.u)
 ·have HTE:=HDF.out (by rw [Bool.and_eq_true] at hq;exact hq.1) (by rw [Bool.and_eq_true] at hq;simpa using hq.2)
  clear HDM HDF HR HI HT
  go_wp2
  go_ret
  subst HTE;exact ⟨by rw [grewB_self];rfl,D1H.out.u,D1H.out.ko⟩
end Go.Proofs.YtlnaihkombcbcaaGreat
end
