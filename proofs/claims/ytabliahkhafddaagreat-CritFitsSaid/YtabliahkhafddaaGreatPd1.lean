/- slices.AppendSeq, Collect, Sorted over a function that hands on texts. -/
import Derived.Test.YtabliahkhafddaaGreatPd0
import Derived.Test.YtabliahkhafddaaGreatPc9
import Derived.Sort.OwnSorted
import Derived.RangeFuncBox
import Derived.Maps.OwnIn
set_option linter.unusedSimpArgs false
noncomputable section
namespace Go.Proofs.YtabliahkhafddaaGreat
open Go.RowKit Go.Ev Go.Sort
def customB (s:ByteArray):Bool:=decide (2≤s.size)&&((s.extract 0 2).toList==[45,45])
set_option maxRecDepth 100000 in
theorem prefix_any (s:ByteArray) (w:World) :
 Calls Tryz.prog 303 #[.string s,.string ⟨#[45,45]⟩] w fun e w'=>e=.returned (.bool (customB s))∧w'=w:=by
 have h2:(⟨#[45,45]⟩:ByteArray).size=2:=rfl;have h3:(⟨#[45,45]⟩:ByteArray).toList=[45,45]:=by rw [ByteArray.toList_eq]
 generalize (⟨#[45,45]⟩:ByteArray)=p at *
 by_cases hs:2≤s.size
 ·go_enter Tryz.func303,Tryz.ntmps303
  go_wp2
  go_ret
  refine ⟨ret_bool ?_,rfl⟩;simp [customB,hs]
 ·go_enter Tryz.func303,Tryz.ntmps303
  go_wp2
  go_ret
  refine ⟨ret_bool ?_,rfl⟩;simp [customB,hs]
set_option maxRecDepth 100000 in
theorem prefix2_any (s:ByteArray) (w:World) :
 Calls Tryz.prog 251 #[.string s,.string ⟨#[45,45]⟩] w fun e w'=>e=.returned (.bool (customB s))∧w'=w:=by
 go_enter Tryz.func251,Tryz.ntmps251
 go_wp2_with fail
 refine (prefix_any s _).mono ?_;rintro e w' ⟨rfl,rfl⟩
 go_wp2
 go_ret
 exact ⟨rfl,rfl⟩
set_option maxRecDepth 100000 in
theorem custom_any (s:ByteArray) (w:World) :
 Calls Tryz.prog 186 #[.string s] w fun e w'=>e=.returned (.bool (customB s))∧w'=w:=by
 go_enter Tryz.func186,Tryz.ntmps186
 go_wp2_with fail
 refine (prefix2_any s _).mono ?_;rintro e w' ⟨rfl,rfl⟩
 go_wp2
 go_ret
 exact ⟨rfl,rfl⟩
def isVarK (k:Int) (s:ByteArray):Bool:=k==5&&lowS (sOf s)==[118,97,114]
set_option maxRecDepth 100000 in
theorem isVar_any (k t n:Int) (s:ByteArray) (lv:Value) (w:World) (hs:s.size≤1000000) :
 Calls Tryz.prog 333 #[.agg #[.int .i64 k,.int .i64 t,.string s,.int .i64 n,lv]] w fun e w'=>e=.returned (.bool (isVarK k s))∧Below w.heap.size w w':=by
 by_cases hk:k=5
 ·subst hk
  go_enter Tryz.func333,Tryz.ntmps333
  go_wp2_with fail
  refine (small_any s _ hs).mono ?_;rintro e w2 ⟨rfl,hB⟩;have hC:=bup (Q0h w _) hB;have hbt:(bs (lowS (sOf s))).toList=lowS (sOf s):=bs_toList _
  go_wp2
  go_ret
  refine ⟨ret_bool ?_,hC⟩;simp [isVarK]
 ·have hb:(k==5)=false:=by simpa using hk
  go_enter Tryz.func333,Tryz.ntmps333
  go_wp2
  go_ret
  exact ⟨ret_bool (by simp [isVarK,hb]),Q0h _ _⟩
structure Rf where
 name:ByteArray
 fb:List Vl
 falls:Bool
 is:Bool
def commaB (z:Vl):Bool:=z.kind==1&&(z.tk==7&&z.text.toList==[44]&&z.n==0)
def restM (name:ByteArray):List Vl→Rf
 | []=>⟨name,[],false,true⟩
 | z::q=>⟨name,trimM q,commaB z,commaB z⟩
def headM:List Vl→Rf
 | []=>⟨ByteArray.empty,[],false,false⟩
 | y::r=>if y.kind=1∧y.tk=1∧customB y.text=true then restM y.text (trimM r) else ⟨ByteArray.empty,[],false,false⟩
def readM (l:List Vl):Rf:=headM (trimM l)
def ReadPost (f:Rf) (e:Ending):Prop:=∃ a m c,e=.returned (.tuple #[.agg #[.string f.name,.slice a m c,.bool f.falls],.bool f.is])
theorem Q0i {P:Program} {fn:Func} {p u:Tmp} {ty:TypeId} (h:fn.results=#[.cell p ty,.tmp u]) (tmps:Array Value) (w:World) (g:Nat) (t:TypeId) (cs:Array Value) (fr:Nat×Nat) (d:TypeDesc)
 (hp:tmps.getD p undef=.pointer (some ⟨g,0,none⟩)) (hg:w.heap[g]?=some (.cells cs t fr))
 (hu:P.underlying ty=some d) (hd:(match d with | .struct _ | .array _ _=>true | _=>false)=true) (hi:(P.info? ty).map (·.size)=some cs.size) :
 (results fn tmps).run P w=.ok (.tuple #[.agg cs,tmps.getD u undef]) w:=by
 have hp':tmps[p]?.getD undef=.pointer (some ⟨g,0,none⟩):=by simpa using hp
 simp [results,h,hp',asAddr,run_loadVar_row w g t ty cs fr d hg hu hd hi]
theorem set3 {W:World} {g:Nat} {t:TypeId} {cs:Array Value} (x y z:Value) (h:W.heap[g]?=some (.cells cs t (0,0))) (hs:cs.size=3) :
 (((W.setCell ⟨g,0,none⟩ x).setCell ⟨g,1,none⟩ y).setCell ⟨g,2,none⟩ z).heap[g]?=some (.cells #[x,y,z] t (0,0)):=by
 rw [Q0u (o:=2) z (Q0u (o:=1) y (Q0u (o:=0) x h))];obtain ⟨l⟩:=cs
 match l,hs with
 | [a,b,c],_=>rfl
theorem below3 {w W:World} {g:Nat} (x y z:Value) (h:Below w.heap.size w W) (hg:w.heap.size≤g):Below w.heap.size w (((W.setCell ⟨g,0,none⟩ x).setCell ⟨g,1,none⟩ y).setCell ⟨g,2,none⟩ z) :=
 ((h.setCell hg _).setCell hg _).setCell hg _
theorem Tryz.sizeRef:(Tryz.prog.info? 375).map (·.size)=some 3:=by kernel_rfl
set_option maxRecDepth 100000 in
set_option maxHeartbeats 4000000 in
theorem read_any (k t n:Int) (s:ByteArray) (lv:Value) (l:List Vl) (w:World) (hv:At w (.sl l.length 5 (l.flatMap encV)) lv) (hl:l.length≤1000000) :
 Calls Tryz.prog 334 #[.agg #[.int .i64 k,.int .i64 t,.string s,.int .i64 n,lv]] w fun e w'=>ReadPost (readM l) e∧Below w.heap.size w w':=by
 have hB2:Below w.heap.size w ((w.alloc (.cells #[.int .i64 k,.int .i64 t,.string s,.int .i64 n,lv] 193)).alloc (.cells #[.string ByteArray.empty,.slice none 0 0,.bool false] 375)):=((Below.refl _ w).alloc (Nat.le_refl _) _).alloc (by simp) _;have HT:=Lib.hid (Q1o w.heap.size lv l _ hB2.size ((VlS.of_at hv).below (Nat.le_refl _) hB2) hl);have hlen:=trimM_len l;have HR:Hid (readM l=headM (trimM l)):=Lib.hid rfl;obtain ⟨ad,cap,rfl,-⟩:=At.sl_form hv;clear hv;generalize trimM l=l1 at *;generalize readM l=f at *
 go_enter Tryz.func334,Tryz.ntmps334
 go_wp2_with fail
 refine HT.out.mono ?_;rintro e w3 ⟨v1,rfl,hn1,hB3⟩;have hC3:=bup hB2 hB3;have hz3:w.heap.size+2≤w3.heap.size:=by have:=hB3.size;simpa using this
 have d2:w3.heap[w.heap.size+1]?=some (.cells #[.string ByteArray.empty,.slice none 0 0,.bool false] 375):=by
  rw [hB3.block _ (by simp)];have:=World.alloc_heap_new (w.alloc (.cells #[.int .i64 k,.int .i64 t,.string s,.int .i64 n,.slice ad l.length cap] 193)) (.cells #[.string ByteArray.empty,.slice none 0 0,.bool false] 375);rw [World.size_alloc] at this;exact this
 clear hB3;have e0:w3.cell? ⟨w.heap.size+1,0,none⟩=some (.string ByteArray.empty):=by rw [Lib.cell_of_heap d2];rfl
 have e1:w3.cell? ⟨w.heap.size+1,1,none⟩=some (.slice none 0 0):=by rw [Lib.cell_of_heap d2];rfl
 have e2:w3.cell? ⟨w.heap.size+1,2,none⟩=some (.bool false):=by rw [Lib.cell_of_heap d2];rfl
 have f0:w3.frozen? ⟨w.heap.size+1,0,none⟩=false:=Lib.frozen_of_heap d2 0;have f1:w3.frozen? ⟨w.heap.size+1,1,none⟩=false:=Lib.frozen_of_heap d2 1;have f2:w3.frozen? ⟨w.heap.size+1,2,none⟩=false:=Lib.frozen_of_heap d2 2
 cases l1 with
 | nil =>
   obtain ⟨a1,c1,rfl⟩:=hn1.form;have HF:Hid (f=⟨ByteArray.empty,[],false,false⟩):=HR
   go_wp2
   refine bodyPost_ret (Q0i rfl _ _ (w.heap.size+1) 375 _ (0,0) _ rfl (set3 _ _ _ d2 rfl) Tryz.underlying375 rfl Tryz.sizeRef) rfl ?_;refine ⟨⟨none,0,0,by rw [HF.out];rfl⟩,below3 _ _ _ hC3 (Nat.le_succ _)⟩
 | cons y r =>
   have hs1:=hn1.vls;rcases hs1.form with ⟨h0,-⟩ | ⟨-,b,o,c1,rfl,hcap1,-⟩
   ·cases h0
   ·obtain ⟨c0, c1',c2,c3,ad1,cp1,c4,-⟩:=hs1.cells (k:=0) (by simp)
    simp only [List.getElem_cons_zero,Nat.zero_mul,Nat.add_zero] at c0 c1' c2 c3 c4;have HSUB:=Lib.hid fun a ha=>hs1.sub 1 r.length (c1 - 1) (by simp;omega) (by simp at hcap1;omega) a ha;simp only [List.drop_succ_cons,List.drop_zero,List.take_length] at HSUB;rw [List.length_cons] at hcap1 hlen ⊢;have HY:Hid (f=if y.kind=1∧y.tk=1∧customB y.text=true then restM y.text (trimM r) else ⟨ByteArray.empty,[],false,false⟩):=HR;clear hs1 hn1 HR;generalize y.kind=kd at *;generalize y.tk=tk at *;generalize y.text=tx at *;generalize y.n=nn at *;generalize y.l.length=ln at *
    by_cases hk:kd=1
    ·subst hk
     by_cases ht:tk=1
     ·subst ht
      go_wp2_with fail
      refine (custom_any tx _).mono ?_;rintro e w4 ⟨rfl,rfl⟩
      cases hcu:customB tx
      ·have HF:Hid (f=⟨ByteArray.empty,[],false,false⟩):=Lib.hid (by rw [HY.out,hcu];simp)
       clear HY HSUB
       go_wp2
       refine bodyPost_ret (Q0i rfl _ _ (w.heap.size+1) 375 _ (0,0) _ rfl (set3 _ _ _ d2 rfl) Tryz.underlying375 rfl Tryz.sizeRef) rfl ?_;refine ⟨⟨none,0,0,by rw [HF.out];rfl⟩,below3 _ _ _ hC3 (Nat.le_succ _)⟩
      ·have HF : Hid (f=restM tx (trimM r)):=Lib.hid (by rw [HY.out,hcu];simp)
       clear HY;have hC4:Below w.heap.size w (w4.alloc (.cells #[.string tx,.slice none 0 0,.bool false] 375)):=hC3.alloc hC3.size _;have TR:=Lib.hid fun A hA=>Q1o w.heap.size (.slice A r.length (c1 - 1)) r _ hC4.size ((HSUB.out A hA).below hC3.size (Q0h w4 (.cells #[.string tx,.slice none 0 0,.bool false] 375))) (by omega);have HD2:=Lib.hid d2;clear HSUB c0 c1' c3 c4 e0 e1 e2 f0 f1 f2 d2;have hl2:=trimM_len r
       by_cases hc1:c1=1
       ·subst hc1
        obtain rfl:r=[]:=List.eq_nil_of_length_eq_zero (by omega)
        go_wp2_with fail
        refine (TR.out (some ⟨b,o,none⟩) (fun h=>absurd h (Nat.lt_irrefl 0))).mono ?_;rintro e w5 ⟨v6,rfl,hn6,hB5⟩;have hC5:=bup hC4 hB5;have hz5:=hB5.size;rw [World.size_alloc] at hz5;have d2':w5.heap[w.heap.size+1]?=some (.cells #[.string ByteArray.empty,.slice none 0 0,.bool false] 375):=by
         rw [hB5.block _ (by simp;omega),Below.heap_alloc _ _ _ (by omega)];exact HD2.out
        have d4:w5.heap[w4.heap.size]?=some (.cells #[.string tx,.slice none 0 0,.bool false] 375):=by
         rw [hB5.block _ (by simp)];exact World.alloc_heap_new w4 _
        have e0:w5.cell? ⟨w.heap.size+1,0,none⟩=some (.string ByteArray.empty):=by rw [Lib.cell_of_heap d2'];rfl
        have e1:w5.cell? ⟨w.heap.size+1,1,none⟩=some (.slice none 0 0):=by rw [Lib.cell_of_heap d2'];rfl
        have e2:w5.cell? ⟨w.heap.size+1,2,none⟩=some (.bool false):=by rw [Lib.cell_of_heap d2'];rfl
        have f0:w5.frozen? ⟨w.heap.size+1,0,none⟩=false:=Lib.frozen_of_heap d2' 0;have f1:w5.frozen? ⟨w.heap.size+1,1,none⟩=false:=Lib.frozen_of_heap d2' 1;have f2:w5.frozen? ⟨w.heap.size+1,2,none⟩=false:=Lib.frozen_of_heap d2' 2;have g0:w5.cell? ⟨w4.heap.size,0,none⟩=some (.string tx):=by rw [Lib.cell_of_heap d4];rfl
        have g1:w5.cell? ⟨w4.heap.size,1,none⟩=some (.slice none 0 0):=by rw [Lib.cell_of_heap d4];rfl
        have g2:w5.cell? ⟨w4.heap.size,2,none⟩=some (.bool false):=by rw [Lib.cell_of_heap d4];rfl
        have gf2:w5.frozen? ⟨w4.heap.size,2,none⟩=false:=Lib.frozen_of_heap d4 2;obtain ⟨a6,c6,rfl⟩:=hn6.form
        go_wp2
        refine bodyPost_ret (Q0i rfl _ _ (w.heap.size+1) 375 _ (0,0) _ rfl (set3 _ _ _ d2' rfl) Tryz.underlying375 rfl Tryz.sizeRef) rfl ?_;exact ⟨⟨none,0,0,by rw [HF.out];rfl⟩,below3 _ _ _ hC5 (Nat.le_succ _)⟩
       ·go_wp2_with fail
        refine (TR.out (some ⟨b,o+5,none⟩) (fun _=>rfl)).mono ?_;rintro e w5 ⟨v6,rfl,hn6,hB5⟩;have hC5:=bup hC4 hB5;have hz5:=hB5.size;rw [World.size_alloc] at hz5;have d2':w5.heap[w.heap.size+1]?=some (.cells #[.string ByteArray.empty,.slice none 0 0,.bool false] 375):=by
         rw [hB5.block _ (by simp;omega),Below.heap_alloc _ _ _ (by omega)];exact HD2.out
        have d4:w5.heap[w4.heap.size]?=some (.cells #[.string tx,.slice none 0 0,.bool false] 375):=by
         rw [hB5.block _ (by simp)];exact World.alloc_heap_new w4 _
        have e0:w5.cell? ⟨w.heap.size+1,0,none⟩=some (.string ByteArray.empty):=by rw [Lib.cell_of_heap d2'];rfl
        have e1:w5.cell? ⟨w.heap.size+1,1,none⟩=some (.slice none 0 0):=by rw [Lib.cell_of_heap d2'];rfl
        have e2:w5.cell? ⟨w.heap.size+1,2,none⟩=some (.bool false):=by rw [Lib.cell_of_heap d2'];rfl
        have f0:w5.frozen? ⟨w.heap.size+1,0,none⟩=false:=Lib.frozen_of_heap d2' 0;have f1:w5.frozen? ⟨w.heap.size+1,1,none⟩=false:=Lib.frozen_of_heap d2' 1;have f2:w5.frozen? ⟨w.heap.size+1,2,none⟩=false:=Lib.frozen_of_heap d2' 2;have g0:w5.cell? ⟨w4.heap.size,0,none⟩=some (.string tx):=by rw [Lib.cell_of_heap d4];rfl
        have g1:w5.cell? ⟨w4.heap.size,1,none⟩=some (.slice none 0 0):=by rw [Lib.cell_of_heap d4];rfl
        have g2:w5.cell? ⟨w4.heap.size,2,none⟩=some (.bool false):=by rw [Lib.cell_of_heap d4];rfl
        have gf2:w5.frozen? ⟨w4.heap.size,2,none⟩=false:=Lib.frozen_of_heap d4 2;generalize trimM r=l2 at *
        cases l2 with
        | nil =>
          obtain ⟨a6,c6,rfl⟩:=hn6.form
          go_wp2
          refine bodyPost_ret (Q0i rfl _ _ (w.heap.size+1) 375 _ (0,0) _ rfl (set3 _ _ _ d2' rfl) Tryz.underlying375 rfl Tryz.sizeRef) rfl ?_;exact ⟨⟨none,0,0,by rw [HF.out];rfl⟩,below3 _ _ _ hC5 (Nat.le_succ _)⟩
        | cons z q =>
          have hz4:w.heap.size≤w4.heap.size:=hC3.size;have hs6:=fun B:Bool=>(hn6.set (p:=⟨w4.heap.size,2,none⟩) (.bool B) hz4 (by simp)).vls;have hs5:=hn6.vls;rcases hs5.form with ⟨h0,-⟩ | ⟨-,b6,o6,c6,rfl,hcap6,-⟩
          ·cases h0
          ·obtain ⟨zc0,zc1,zc2,zc3,ad6,cp6,zc4,-⟩:=hs5.cells (k:=0) (by simp)
           simp only [List.getElem_cons_zero,Nat.zero_mul,Nat.add_zero] at zc0 zc1 zc2 zc3 zc4
           have HSUB:=Lib.hid fun (B:Bool) (C:Nat) (hC:q.length≤C) A hA=>(show VlS w.heap.size (w5.setCell ⟨w4.heap.size,2,none⟩ (.bool B)) (.slice A q.length C) q by
            have:=(hs6 B).sub 1 q.length C (by simp;omega) hC A hA
            simpa using this)
           rw [List.length_cons] at hcap6 hl2 ⊢;have hcm:commaB z=(z.kind==1&&(z.tk==7&&z.text.toList==[44]&&z.n==0)):=rfl;have HF2:Hid (f=⟨tx,trimM q,commaB z,commaB z⟩):=HF;rw [hcm] at HF2;clear hs5 hs6 hn6 HF hcm;generalize z.kind=zk at *;generalize z.tk=zt at *;generalize z.text=zs at *;generalize z.n=zn at *;generalize z.l.length=zl at *;have HD5:=Lib.hid (And.intro d2' d4)
           by_cases hzk:zk=1
           ·subst hzk
            by_cases hzt:zt=7
            ·subst hzt
             by_cases hzs:zs.toList=[44]
             ·by_cases hzn:zn=0
              ·subst hzn
               have HF:Hid (f=⟨tx,trimM q,true,true⟩):=Lib.hid (by rw [HF2.out];simp [*]);clear HF2
               by_cases hc6:c6=1
               ·subst hc6
                obtain rfl:q=[]:=List.eq_nil_of_length_eq_zero (by omega)
                go_wp2_with fail
                refine (Q1o w.heap.size (.slice (some ⟨b6,o6,none⟩) 0 0) [] _ (by simp [World.setCell];omega) (HSUB.out true 0 (Nat.le_refl _) _ (fun h=>absurd h (Nat.lt_irrefl 0))) (by simp)).mono ?_;rintro e w7 ⟨v7,rfl,hn7,hB7⟩;have hz7:=hB7.size;rw [show (w5.setCell ⟨w4.heap.size,2,none⟩ (.bool true)).heap.size=w5.heap.size by simp [World.setCell]] at hz7;have hC7:Below w.heap.size w w7:=(hC5.setCell (p:=⟨w4.heap.size,2,none⟩) hz4 (.bool true)).trans (hB7.mono (by simp [World.setCell];omega));have d2'':w7.heap[w.heap.size+1]?=some (.cells #[.string ByteArray.empty,.slice none 0 0,.bool false] 375):=by
                 rw [hB7.block _ (by simp [World.setCell];omega),Q0q _ rfl (by show w.heap.size+1≠w4.heap.size;omega)];exact HD5.out.1
                have d4':w7.heap[w4.heap.size]?=some (.cells #[.string tx,.slice none 0 0,.bool true] 375):=by
                 rw [hB7.block _ (by simp [World.setCell];omega)];exact Q0u (o:=2) (.bool true) HD5.out.2
                have e0:w7.cell? ⟨w.heap.size+1,0,none⟩=some (.string ByteArray.empty):=by rw [Lib.cell_of_heap d2''];rfl
                have e1:w7.cell? ⟨w.heap.size+1,1,none⟩=some (.slice none 0 0):=by rw [Lib.cell_of_heap d2''];rfl
                have e2:w7.cell? ⟨w.heap.size+1,2,none⟩=some (.bool false):=by rw [Lib.cell_of_heap d2''];rfl
                have f0:w7.frozen? ⟨w.heap.size+1,0,none⟩=false:=Lib.frozen_of_heap d2'' 0;have f1:w7.frozen? ⟨w.heap.size+1,1,none⟩=false:=Lib.frozen_of_heap d2'' 1;have f2:w7.frozen? ⟨w.heap.size+1,2,none⟩=false:=Lib.frozen_of_heap d2'' 2;have g0:w7.cell? ⟨w4.heap.size,0,none⟩=some (.string tx):=by rw [Lib.cell_of_heap d4'];rfl
                have g1:w7.cell? ⟨w4.heap.size,1,none⟩=some (.slice none 0 0):=by rw [Lib.cell_of_heap d4'];rfl
                have g2:w7.cell? ⟨w4.heap.size,2,none⟩=some (.bool true):=by rw [Lib.cell_of_heap d4'];rfl
                have gf1:w7.frozen? ⟨w4.heap.size,1,none⟩=false:=Lib.frozen_of_heap d4' 1;have hne1:¬w.heap.size+1=w4.heap.size:=by omega
                have hne2:¬w4.heap.size=w.heap.size+1:=by omega
                obtain ⟨a7,c7,rfl⟩:=hn7.form;clear hn7 hB7
                go_wp2
                go_region
                go_wp2
                refine bodyPost_ret (Q0i rfl _ _ (w.heap.size+1) 375 _ (0,0) _ rfl (set3 _ _ _ ((Q0q _ rfl (by show w.heap.size+1≠w4.heap.size;omega)).trans d2'') rfl) Tryz.underlying375 rfl Tryz.sizeRef) rfl ?_;refine ⟨⟨a7,(trimM ([]:List Vl)).length,c7,by rw [HF.out];rfl⟩,?_⟩;exact (below3 _ _ _ (hC7.setCell (p:=⟨w4.heap.size,1,none⟩) hz4 _) (Nat.le_succ _)).drew
               ·go_wp2_with fail
                refine (Q1o w.heap.size (.slice (some ⟨b6,o6+5,none⟩) q.length (c6 - 1)) q _ (by simp [World.setCell];omega) (HSUB.out true (c6 - 1) (by omega) _ (fun _=>by rw [Nat.one_mul])) (by omega)).mono ?_;rintro e w7 ⟨v7,rfl,hn7,hB7⟩;have hz7:=hB7.size;rw [show (w5.setCell ⟨w4.heap.size,2,none⟩ (.bool true)).heap.size=w5.heap.size by simp [World.setCell]] at hz7;have hC7:Below w.heap.size w w7:=(hC5.setCell (p:=⟨w4.heap.size,2,none⟩) hz4 (.bool true)).trans (hB7.mono (by simp [World.setCell];omega));have d2'':w7.heap[w.heap.size+1]?=some (.cells #[.string ByteArray.empty,.slice none 0 0,.bool false] 375):=by
                 rw [hB7.block _ (by simp [World.setCell];omega),Q0q _ rfl (by show w.heap.size+1≠w4.heap.size;omega)];exact HD5.out.1
                have d4':w7.heap[w4.heap.size]?=some (.cells #[.string tx,.slice none 0 0,.bool true] 375):=by
                 rw [hB7.block _ (by simp [World.setCell];omega)];exact Q0u (o:=2) (.bool true) HD5.out.2
                have e0:w7.cell? ⟨w.heap.size+1,0,none⟩=some (.string ByteArray.empty):=by rw [Lib.cell_of_heap d2''];rfl
                have e1:w7.cell? ⟨w.heap.size+1,1,none⟩=some (.slice none 0 0):=by rw [Lib.cell_of_heap d2''];rfl
                have e2:w7.cell? ⟨w.heap.size+1,2,none⟩=some (.bool false):=by rw [Lib.cell_of_heap d2''];rfl
                have f0:w7.frozen? ⟨w.heap.size+1,0,none⟩=false:=Lib.frozen_of_heap d2'' 0;have f1:w7.frozen? ⟨w.heap.size+1,1,none⟩=false:=Lib.frozen_of_heap d2'' 1;have f2:w7.frozen? ⟨w.heap.size+1,2,none⟩=false:=Lib.frozen_of_heap d2'' 2;have g0:w7.cell? ⟨w4.heap.size,0,none⟩=some (.string tx):=by rw [Lib.cell_of_heap d4'];rfl
                have g1:w7.cell? ⟨w4.heap.size,1,none⟩=some (.slice none 0 0):=by rw [Lib.cell_of_heap d4'];rfl
                have g2:w7.cell? ⟨w4.heap.size,2,none⟩=some (.bool true):=by rw [Lib.cell_of_heap d4'];rfl
                have gf1:w7.frozen? ⟨w4.heap.size,1,none⟩=false:=Lib.frozen_of_heap d4' 1;have hne1:¬w.heap.size+1=w4.heap.size:=by omega
                have hne2:¬w4.heap.size=w.heap.size+1:=by omega
                obtain ⟨a7,c7,rfl⟩:=hn7.form;clear hn7 hB7
                go_wp2
                go_region
                go_wp2
                refine bodyPost_ret (Q0i rfl _ _ (w.heap.size+1) 375 _ (0,0) _ rfl (set3 _ _ _ ((Q0q _ rfl (by show w.heap.size+1≠w4.heap.size;omega)).trans d2'') rfl) Tryz.underlying375 rfl Tryz.sizeRef) rfl ?_;refine ⟨⟨a7,(trimM q).length,c7,by rw [HF.out];rfl⟩,?_⟩;exact (below3 _ _ _ (hC7.setCell (p:=⟨w4.heap.size,1,none⟩) hz4 _) (Nat.le_succ _)).drew
              ·have hzn':(zn==0)=false:=by simpa using hzn
               have HF:Hid (f=⟨tx,trimM q,false,false⟩):=Lib.hid (by rw [HF2.out];simp [*]);clear HF2
               by_cases hc6:c6=1
               ·subst hc6
                obtain rfl:q=[]:=List.eq_nil_of_length_eq_zero (by omega)
                go_wp2_with fail
                refine (Q1o w.heap.size (.slice (some ⟨b6,o6,none⟩) 0 0) [] _ (by simp [World.setCell];omega) (HSUB.out false 0 (Nat.le_refl _) _ (fun h=>absurd h (Nat.lt_irrefl 0))) (by simp)).mono ?_;rintro e w7 ⟨v7,rfl,hn7,hB7⟩;have hz7:=hB7.size;rw [show (w5.setCell ⟨w4.heap.size,2,none⟩ (.bool false)).heap.size=w5.heap.size by simp [World.setCell]] at hz7;have hC7:Below w.heap.size w w7:=(hC5.setCell (p:=⟨w4.heap.size,2,none⟩) hz4 (.bool false)).trans (hB7.mono (by simp [World.setCell];omega));have d2'':w7.heap[w.heap.size+1]?=some (.cells #[.string ByteArray.empty,.slice none 0 0,.bool false] 375):=by
                 rw [hB7.block _ (by simp [World.setCell];omega),Q0q _ rfl (by show w.heap.size+1≠w4.heap.size;omega)];exact HD5.out.1
                have d4':w7.heap[w4.heap.size]?=some (.cells #[.string tx,.slice none 0 0,.bool false] 375):=by
                 rw [hB7.block _ (by simp [World.setCell];omega)];exact Q0u (o:=2) (.bool false) HD5.out.2
                have e0:w7.cell? ⟨w.heap.size+1,0,none⟩=some (.string ByteArray.empty):=by rw [Lib.cell_of_heap d2''];rfl
                have e1:w7.cell? ⟨w.heap.size+1,1,none⟩=some (.slice none 0 0):=by rw [Lib.cell_of_heap d2''];rfl
                have e2:w7.cell? ⟨w.heap.size+1,2,none⟩=some (.bool false):=by rw [Lib.cell_of_heap d2''];rfl
                have f0:w7.frozen? ⟨w.heap.size+1,0,none⟩=false:=Lib.frozen_of_heap d2'' 0;have f1:w7.frozen? ⟨w.heap.size+1,1,none⟩=false:=Lib.frozen_of_heap d2'' 1;have f2:w7.frozen? ⟨w.heap.size+1,2,none⟩=false:=Lib.frozen_of_heap d2'' 2;have g0:w7.cell? ⟨w4.heap.size,0,none⟩=some (.string tx):=by rw [Lib.cell_of_heap d4'];rfl
                have g1:w7.cell? ⟨w4.heap.size,1,none⟩=some (.slice none 0 0):=by rw [Lib.cell_of_heap d4'];rfl
                have g2:w7.cell? ⟨w4.heap.size,2,none⟩=some (.bool false):=by rw [Lib.cell_of_heap d4'];rfl
                have gf1:w7.frozen? ⟨w4.heap.size,1,none⟩=false:=Lib.frozen_of_heap d4' 1;have hne1:¬w.heap.size+1=w4.heap.size:=by omega
                have hne2:¬w4.heap.size=w.heap.size+1:=by omega
                obtain ⟨a7,c7,rfl⟩:=hn7.form;clear hn7 hB7
                go_wp2
                go_region
                go_wp2
                refine bodyPost_ret (Q0i rfl _ _ (w.heap.size+1) 375 _ (0,0) _ rfl (set3 _ _ _ ((Q0q _ rfl (by show w.heap.size+1≠w4.heap.size;omega)).trans d2'') rfl) Tryz.underlying375 rfl Tryz.sizeRef) rfl ?_;refine ⟨⟨a7,(trimM ([]:List Vl)).length,c7,by rw [HF.out];rfl⟩,?_⟩;exact (below3 _ _ _ (hC7.setCell (p:=⟨w4.heap.size,1,none⟩) hz4 _) (Nat.le_succ _)).drew
               ·go_wp2_with fail
                refine (Q1o w.heap.size (.slice (some ⟨b6,o6+5,none⟩) q.length (c6 - 1)) q _ (by simp [World.setCell];omega) (HSUB.out false (c6 - 1) (by omega) _ (fun _=>by rw [Nat.one_mul])) (by omega)).mono ?_;rintro e w7 ⟨v7,rfl,hn7,hB7⟩;have hz7:=hB7.size;rw [show (w5.setCell ⟨w4.heap.size,2,none⟩ (.bool false)).heap.size=w5.heap.size by simp [World.setCell]] at hz7;have hC7:Below w.heap.size w w7:=(hC5.setCell (p:=⟨w4.heap.size,2,none⟩) hz4 (.bool false)).trans (hB7.mono (by simp [World.setCell];omega));have d2'':w7.heap[w.heap.size+1]?=some (.cells #[.string ByteArray.empty,.slice none 0 0,.bool false] 375):=by
                 rw [hB7.block _ (by simp [World.setCell];omega),Q0q _ rfl (by show w.heap.size+1≠w4.heap.size;omega)];exact HD5.out.1
                have d4':w7.heap[w4.heap.size]?=some (.cells #[.string tx,.slice none 0 0,.bool false] 375):=by
                 rw [hB7.block _ (by simp [World.setCell];omega)];exact Q0u (o:=2) (.bool false) HD5.out.2
                have e0:w7.cell? ⟨w.heap.size+1,0,none⟩=some (.string ByteArray.empty):=by rw [Lib.cell_of_heap d2''];rfl
                have e1:w7.cell? ⟨w.heap.size+1,1,none⟩=some (.slice none 0 0):=by rw [Lib.cell_of_heap d2''];rfl
                have e2:w7.cell? ⟨w.heap.size+1,2,none⟩=some (.bool false):=by rw [Lib.cell_of_heap d2''];rfl
                have f0:w7.frozen? ⟨w.heap.size+1,0,none⟩=false:=Lib.frozen_of_heap d2'' 0;have f1:w7.frozen? ⟨w.heap.size+1,1,none⟩=false:=Lib.frozen_of_heap d2'' 1;have f2:w7.frozen? ⟨w.heap.size+1,2,none⟩=false:=Lib.frozen_of_heap d2'' 2;have g0:w7.cell? ⟨w4.heap.size,0,none⟩=some (.string tx):=by rw [Lib.cell_of_heap d4'];rfl
                have g1:w7.cell? ⟨w4.heap.size,1,none⟩=some (.slice none 0 0):=by rw [Lib.cell_of_heap d4'];rfl
                have g2:w7.cell? ⟨w4.heap.size,2,none⟩=some (.bool false):=by rw [Lib.cell_of_heap d4'];rfl
                have gf1:w7.frozen? ⟨w4.heap.size,1,none⟩=false:=Lib.frozen_of_heap d4' 1;have hne1:¬w.heap.size+1=w4.heap.size:=by omega
                have hne2:¬w4.heap.size=w.heap.size+1:=by omega
                obtain ⟨a7,c7,rfl⟩:=hn7.form;clear hn7 hB7
                go_wp2
                go_region
                go_wp2
                refine bodyPost_ret (Q0i rfl _ _ (w.heap.size+1) 375 _ (0,0) _ rfl (set3 _ _ _ ((Q0q _ rfl (by show w.heap.size+1≠w4.heap.size;omega)).trans d2'') rfl) Tryz.underlying375 rfl Tryz.sizeRef) rfl ?_;refine ⟨⟨a7,(trimM q).length,c7,by rw [HF.out];rfl⟩,?_⟩;exact (below3 _ _ _ (hC7.setCell (p:=⟨w4.heap.size,1,none⟩) hz4 _) (Nat.le_succ _)).drew
             ·have hzs':(zs.toList==[44])=false:=by simpa using hzs
              have HF:Hid (f=⟨tx,trimM q,false,false⟩):=Lib.hid (by rw [HF2.out];simp [*]);clear HF2
              by_cases hc6:c6=1
              ·subst hc6
               obtain rfl:q=[]:=List.eq_nil_of_length_eq_zero (by omega)
               go_wp2_with fail
               refine (Q1o w.heap.size (.slice (some ⟨b6,o6,none⟩) 0 0) [] _ (by simp [World.setCell];omega) (HSUB.out false 0 (Nat.le_refl _) _ (fun h=>absurd h (Nat.lt_irrefl 0))) (by simp)).mono ?_;rintro e w7 ⟨v7,rfl,hn7,hB7⟩;have hz7:=hB7.size;rw [show (w5.setCell ⟨w4.heap.size,2,none⟩ (.bool false)).heap.size=w5.heap.size by simp [World.setCell]] at hz7;have hC7:Below w.heap.size w w7:=(hC5.setCell (p:=⟨w4.heap.size,2,none⟩) hz4 (.bool false)).trans (hB7.mono (by simp [World.setCell];omega));have d2'':w7.heap[w.heap.size+1]?=some (.cells #[.string ByteArray.empty,.slice none 0 0,.bool false] 375):=by
                rw [hB7.block _ (by simp [World.setCell];omega),Q0q _ rfl (by show w.heap.size+1≠w4.heap.size;omega)];exact HD5.out.1
               have d4':w7.heap[w4.heap.size]?=some (.cells #[.string tx,.slice none 0 0,.bool false] 375):=by
                rw [hB7.block _ (by simp [World.setCell];omega)];exact Q0u (o:=2) (.bool false) HD5.out.2
               have e0:w7.cell? ⟨w.heap.size+1,0,none⟩=some (.string ByteArray.empty):=by rw [Lib.cell_of_heap d2''];rfl
               have e1:w7.cell? ⟨w.heap.size+1,1,none⟩=some (.slice none 0 0):=by rw [Lib.cell_of_heap d2''];rfl
               have e2:w7.cell? ⟨w.heap.size+1,2,none⟩=some (.bool false):=by rw [Lib.cell_of_heap d2''];rfl
               have f0:w7.frozen? ⟨w.heap.size+1,0,none⟩=false:=Lib.frozen_of_heap d2'' 0;have f1:w7.frozen? ⟨w.heap.size+1,1,none⟩=false:=Lib.frozen_of_heap d2'' 1;have f2:w7.frozen? ⟨w.heap.size+1,2,none⟩=false:=Lib.frozen_of_heap d2'' 2;have g0:w7.cell? ⟨w4.heap.size,0,none⟩=some (.string tx):=by rw [Lib.cell_of_heap d4'];rfl
               have g1:w7.cell? ⟨w4.heap.size,1,none⟩=some (.slice none 0 0):=by rw [Lib.cell_of_heap d4'];rfl
               have g2:w7.cell? ⟨w4.heap.size,2,none⟩=some (.bool false):=by rw [Lib.cell_of_heap d4'];rfl
               have gf1:w7.frozen? ⟨w4.heap.size,1,none⟩=false:=Lib.frozen_of_heap d4' 1;have hne1:¬w.heap.size+1=w4.heap.size:=by omega
               have hne2:¬w4.heap.size=w.heap.size+1:=by omega
               obtain ⟨a7,c7,rfl⟩:=hn7.form;clear hn7 hB7
               go_wp2
               go_region
               go_wp2
               refine bodyPost_ret (Q0i rfl _ _ (w.heap.size+1) 375 _ (0,0) _ rfl (set3 _ _ _ ((Q0q _ rfl (by show w.heap.size+1≠w4.heap.size;omega)).trans d2'') rfl) Tryz.underlying375 rfl Tryz.sizeRef) rfl ?_;refine ⟨⟨a7,(trimM ([]:List Vl)).length,c7,by rw [HF.out];rfl⟩,?_⟩;exact (below3 _ _ _ (hC7.setCell (p:=⟨w4.heap.size,1,none⟩) hz4 _) (Nat.le_succ _)).drew
              ·go_wp2_with fail
               refine (Q1o w.heap.size (.slice (some ⟨b6,o6+5,none⟩) q.length (c6 - 1)) q _ (by simp [World.setCell];omega) (HSUB.out false (c6 - 1) (by omega) _ (fun _=>by rw [Nat.one_mul])) (by omega)).mono ?_;rintro e w7 ⟨v7,rfl,hn7,hB7⟩;have hz7:=hB7.size;rw [show (w5.setCell ⟨w4.heap.size,2,none⟩ (.bool false)).heap.size=w5.heap.size by simp [World.setCell]] at hz7;have hC7:Below w.heap.size w w7:=(hC5.setCell (p:=⟨w4.heap.size,2,none⟩) hz4 (.bool false)).trans (hB7.mono (by simp [World.setCell];omega));have d2'':w7.heap[w.heap.size+1]?=some (.cells #[.string ByteArray.empty,.slice none 0 0,.bool false] 375):=by
                rw [hB7.block _ (by simp [World.setCell];omega),Q0q _ rfl (by show w.heap.size+1≠w4.heap.size;omega)];exact HD5.out.1
               have d4':w7.heap[w4.heap.size]?=some (.cells #[.string tx,.slice none 0 0,.bool false] 375):=by
                rw [hB7.block _ (by simp [World.setCell];omega)];exact Q0u (o:=2) (.bool false) HD5.out.2
               have e0:w7.cell? ⟨w.heap.size+1,0,none⟩=some (.string ByteArray.empty):=by rw [Lib.cell_of_heap d2''];rfl
               have e1:w7.cell? ⟨w.heap.size+1,1,none⟩=some (.slice none 0 0):=by rw [Lib.cell_of_heap d2''];rfl
               have e2:w7.cell? ⟨w.heap.size+1,2,none⟩=some (.bool false):=by rw [Lib.cell_of_heap d2''];rfl
               have f0:w7.frozen? ⟨w.heap.size+1,0,none⟩=false:=Lib.frozen_of_heap d2'' 0;have f1:w7.frozen? ⟨w.heap.size+1,1,none⟩=false:=Lib.frozen_of_heap d2'' 1;have f2:w7.frozen? ⟨w.heap.size+1,2,none⟩=false:=Lib.frozen_of_heap d2'' 2;have g0:w7.cell? ⟨w4.heap.size,0,none⟩=some (.string tx):=by rw [Lib.cell_of_heap d4'];rfl
               have g1:w7.cell? ⟨w4.heap.size,1,none⟩=some (.slice none 0 0):=by rw [Lib.cell_of_heap d4'];rfl
               have g2:w7.cell? ⟨w4.heap.size,2,none⟩=some (.bool false):=by rw [Lib.cell_of_heap d4'];rfl
               have gf1:w7.frozen? ⟨w4.heap.size,1,none⟩=false:=Lib.frozen_of_heap d4' 1;have hne1:¬w.heap.size+1=w4.heap.size:=by omega
               have hne2:¬w4.heap.size=w.heap.size+1:=by omega
               obtain ⟨a7,c7,rfl⟩:=hn7.form;clear hn7 hB7
               go_wp2
               go_region
               go_wp2
               refine bodyPost_ret (Q0i rfl _ _ (w.heap.size+1) 375 _ (0,0) _ rfl (set3 _ _ _ ((Q0q _ rfl (by show w.heap.size+1≠w4.heap.size;omega)).trans d2'') rfl) Tryz.underlying375 rfl Tryz.sizeRef) rfl ?_;refine ⟨⟨a7,(trimM q).length,c7,by rw [HF.out];rfl⟩,?_⟩;exact (below3 _ _ _ (hC7.setCell (p:=⟨w4.heap.size,1,none⟩) hz4 _) (Nat.le_succ _)).drew
            ·have hzt':(zt==7)=false:=by simpa using hzt
             have HF:Hid (f=⟨tx,trimM q,false,false⟩):=Lib.hid (by rw [HF2.out];simp [*]);clear HF2
             by_cases hc6:c6=1
             ·subst hc6
              obtain rfl:q=[]:=List.eq_nil_of_length_eq_zero (by omega)
              go_wp2_with fail
              refine (Q1o w.heap.size (.slice (some ⟨b6,o6,none⟩) 0 0) [] _ (by simp [World.setCell];omega) (HSUB.out false 0 (Nat.le_refl _) _ (fun h=>absurd h (Nat.lt_irrefl 0))) (by simp)).mono ?_;rintro e w7 ⟨v7,rfl,hn7,hB7⟩;have hz7:=hB7.size;rw [show (w5.setCell ⟨w4.heap.size,2,none⟩ (.bool false)).heap.size=w5.heap.size by simp [World.setCell]] at hz7;have hC7:Below w.heap.size w w7:=(hC5.setCell (p:=⟨w4.heap.size,2,none⟩) hz4 (.bool false)).trans (hB7.mono (by simp [World.setCell];omega));have d2'':w7.heap[w.heap.size+1]?=some (.cells #[.string ByteArray.empty,.slice none 0 0,.bool false] 375):=by
               rw [hB7.block _ (by simp [World.setCell];omega),Q0q _ rfl (by show w.heap.size+1≠w4.heap.size;omega)];exact HD5.out.1
              have d4':w7.heap[w4.heap.size]?=some (.cells #[.string tx,.slice none 0 0,.bool false] 375):=by
               rw [hB7.block _ (by simp [World.setCell];omega)];exact Q0u (o:=2) (.bool false) HD5.out.2
              have e0:w7.cell? ⟨w.heap.size+1,0,none⟩=some (.string ByteArray.empty):=by rw [Lib.cell_of_heap d2''];rfl
              have e1:w7.cell? ⟨w.heap.size+1,1,none⟩=some (.slice none 0 0):=by rw [Lib.cell_of_heap d2''];rfl
              have e2:w7.cell? ⟨w.heap.size+1,2,none⟩=some (.bool false):=by rw [Lib.cell_of_heap d2''];rfl
              have f0:w7.frozen? ⟨w.heap.size+1,0,none⟩=false:=Lib.frozen_of_heap d2'' 0;have f1:w7.frozen? ⟨w.heap.size+1,1,none⟩=false:=Lib.frozen_of_heap d2'' 1;have f2:w7.frozen? ⟨w.heap.size+1,2,none⟩=false:=Lib.frozen_of_heap d2'' 2;have g0:w7.cell? ⟨w4.heap.size,0,none⟩=some (.string tx):=by rw [Lib.cell_of_heap d4'];rfl
              have g1:w7.cell? ⟨w4.heap.size,1,none⟩=some (.slice none 0 0):=by rw [Lib.cell_of_heap d4'];rfl
              have g2:w7.cell? ⟨w4.heap.size,2,none⟩=some (.bool false):=by rw [Lib.cell_of_heap d4'];rfl
              have gf1:w7.frozen? ⟨w4.heap.size,1,none⟩=false:=Lib.frozen_of_heap d4' 1;have hne1:¬w.heap.size+1=w4.heap.size:=by omega
              have hne2:¬w4.heap.size=w.heap.size+1:=by omega
              obtain ⟨a7,c7,rfl⟩:=hn7.form;clear hn7 hB7
              go_wp2
              go_region
              go_wp2
              refine bodyPost_ret (Q0i rfl _ _ (w.heap.size+1) 375 _ (0,0) _ rfl (set3 _ _ _ ((Q0q _ rfl (by show w.heap.size+1≠w4.heap.size;omega)).trans d2'') rfl) Tryz.underlying375 rfl Tryz.sizeRef) rfl ?_;refine ⟨⟨a7,(trimM ([]:List Vl)).length,c7,by rw [HF.out];rfl⟩,?_⟩;exact (below3 _ _ _ (hC7.setCell (p:=⟨w4.heap.size,1,none⟩) hz4 _) (Nat.le_succ _)).drew
             ·go_wp2_with fail
              refine (Q1o w.heap.size (.slice (some ⟨b6,o6+5,none⟩) q.length (c6 - 1)) q _ (by simp [World.setCell];omega) (HSUB.out false (c6 - 1) (by omega) _ (fun _=>by rw [Nat.one_mul])) (by omega)).mono ?_;rintro e w7 ⟨v7,rfl,hn7,hB7⟩;have hz7:=hB7.size;rw [show (w5.setCell ⟨w4.heap.size,2,none⟩ (.bool false)).heap.size=w5.heap.size by simp [World.setCell]] at hz7;have hC7:Below w.heap.size w w7:=(hC5.setCell (p:=⟨w4.heap.size,2,none⟩) hz4 (.bool false)).trans (hB7.mono (by simp [World.setCell];omega));have d2'':w7.heap[w.heap.size+1]?=some (.cells #[.string ByteArray.empty,.slice none 0 0,.bool false] 375):=by
               rw [hB7.block _ (by simp [World.setCell];omega),Q0q _ rfl (by show w.heap.size+1≠w4.heap.size;omega)];exact HD5.out.1
              have d4':w7.heap[w4.heap.size]?=some (.cells #[.string tx,.slice none 0 0,.bool false] 375):=by
               rw [hB7.block _ (by simp [World.setCell];omega)];exact Q0u (o:=2) (.bool false) HD5.out.2
              have e0:w7.cell? ⟨w.heap.size+1,0,none⟩=some (.string ByteArray.empty):=by rw [Lib.cell_of_heap d2''];rfl
              have e1:w7.cell? ⟨w.heap.size+1,1,none⟩=some (.slice none 0 0):=by rw [Lib.cell_of_heap d2''];rfl
              have e2:w7.cell? ⟨w.heap.size+1,2,none⟩=some (.bool false):=by rw [Lib.cell_of_heap d2''];rfl
              have f0:w7.frozen? ⟨w.heap.size+1,0,none⟩=false:=Lib.frozen_of_heap d2'' 0;have f1:w7.frozen? ⟨w.heap.size+1,1,none⟩=false:=Lib.frozen_of_heap d2'' 1;have f2:w7.frozen? ⟨w.heap.size+1,2,none⟩=false:=Lib.frozen_of_heap d2'' 2;have g0:w7.cell? ⟨w4.heap.size,0,none⟩=some (.string tx):=by rw [Lib.cell_of_heap d4'];rfl
              have g1:w7.cell? ⟨w4.heap.size,1,none⟩=some (.slice none 0 0):=by rw [Lib.cell_of_heap d4'];rfl
              have g2:w7.cell? ⟨w4.heap.size,2,none⟩=some (.bool false):=by rw [Lib.cell_of_heap d4'];rfl
              have gf1:w7.frozen? ⟨w4.heap.size,1,none⟩=false:=Lib.frozen_of_heap d4' 1;have hne1:¬w.heap.size+1=w4.heap.size:=by omega
              have hne2:¬w4.heap.size=w.heap.size+1:=by omega
              obtain ⟨a7,c7,rfl⟩:=hn7.form;clear hn7 hB7
              go_wp2
              go_region
              go_wp2
              refine bodyPost_ret (Q0i rfl _ _ (w.heap.size+1) 375 _ (0,0) _ rfl (set3 _ _ _ ((Q0q _ rfl (by show w.heap.size+1≠w4.heap.size;omega)).trans d2'') rfl) Tryz.underlying375 rfl Tryz.sizeRef) rfl ?_;refine ⟨⟨a7,(trimM q).length,c7,by rw [HF.out];rfl⟩,?_⟩;exact (below3 _ _ _ (hC7.setCell (p:=⟨w4.heap.size,1,none⟩) hz4 _) (Nat.le_succ _)).drew
           ·have hzk':(zk==1)=false:=by simpa using hzk
            have HF:Hid (f=⟨tx,trimM q,false,false⟩):=Lib.hid (by rw [HF2.out];simp [*]);clear HF2
            by_cases hc6:c6=1
            ·subst hc6
             obtain rfl:q=[]:=List.eq_nil_of_length_eq_zero (by omega)
             go_wp2_with fail
             refine (Q1o w.heap.size (.slice (some ⟨b6,o6,none⟩) 0 0) [] _ (by simp [World.setCell];omega) (HSUB.out false 0 (Nat.le_refl _) _ (fun h=>absurd h (Nat.lt_irrefl 0))) (by simp)).mono ?_;rintro e w7 ⟨v7,rfl,hn7,hB7⟩;have hz7:=hB7.size;rw [show (w5.setCell ⟨w4.heap.size,2,none⟩ (.bool false)).heap.size=w5.heap.size by simp [World.setCell]] at hz7;have hC7:Below w.heap.size w w7:=(hC5.setCell (p:=⟨w4.heap.size,2,none⟩) hz4 (.bool false)).trans (hB7.mono (by simp [World.setCell];omega));have d2'':w7.heap[w.heap.size+1]?=some (.cells #[.string ByteArray.empty,.slice none 0 0,.bool false] 375):=by
              rw [hB7.block _ (by simp [World.setCell];omega),Q0q _ rfl (by show w.heap.size+1≠w4.heap.size;omega)];exact HD5.out.1
             have d4':w7.heap[w4.heap.size]?=some (.cells #[.string tx,.slice none 0 0,.bool false] 375):=by
              rw [hB7.block _ (by simp [World.setCell];omega)];exact Q0u (o:=2) (.bool false) HD5.out.2
             have e0:w7.cell? ⟨w.heap.size+1,0,none⟩=some (.string ByteArray.empty):=by rw [Lib.cell_of_heap d2''];rfl
             have e1:w7.cell? ⟨w.heap.size+1,1,none⟩=some (.slice none 0 0):=by rw [Lib.cell_of_heap d2''];rfl
             have e2:w7.cell? ⟨w.heap.size+1,2,none⟩=some (.bool false):=by rw [Lib.cell_of_heap d2''];rfl
             have f0:w7.frozen? ⟨w.heap.size+1,0,none⟩=false:=Lib.frozen_of_heap d2'' 0;have f1:w7.frozen? ⟨w.heap.size+1,1,none⟩=false:=Lib.frozen_of_heap d2'' 1;have f2:w7.frozen? ⟨w.heap.size+1,2,none⟩=false:=Lib.frozen_of_heap d2'' 2;have g0:w7.cell? ⟨w4.heap.size,0,none⟩=some (.string tx):=by rw [Lib.cell_of_heap d4'];rfl
             have g1:w7.cell? ⟨w4.heap.size,1,none⟩=some (.slice none 0 0):=by rw [Lib.cell_of_heap d4'];rfl
             have g2:w7.cell? ⟨w4.heap.size,2,none⟩=some (.bool false):=by rw [Lib.cell_of_heap d4'];rfl
             have gf1:w7.frozen? ⟨w4.heap.size,1,none⟩=false:=Lib.frozen_of_heap d4' 1;have hne1:¬w.heap.size+1=w4.heap.size:=by omega
             have hne2:¬w4.heap.size=w.heap.size+1:=by omega
             obtain ⟨a7,c7,rfl⟩:=hn7.form;clear hn7 hB7
             go_wp2
             go_region
             go_wp2
             refine bodyPost_ret (Q0i rfl _ _ (w.heap.size+1) 375 _ (0,0) _ rfl (set3 _ _ _ ((Q0q _ rfl (by show w.heap.size+1≠w4.heap.size;omega)).trans d2'') rfl) Tryz.underlying375 rfl Tryz.sizeRef) rfl ?_;refine ⟨⟨a7,(trimM ([]:List Vl)).length,c7,by rw [HF.out];rfl⟩,?_⟩;exact (below3 _ _ _ (hC7.setCell (p:=⟨w4.heap.size,1,none⟩) hz4 _) (Nat.le_succ _)).drew
            ·go_wp2_with fail
             refine (Q1o w.heap.size (.slice (some ⟨b6,o6+5,none⟩) q.length (c6 - 1)) q _ (by simp [World.setCell];omega) (HSUB.out false (c6 - 1) (by omega) _ (fun _=>by rw [Nat.one_mul])) (by omega)).mono ?_;rintro e w7 ⟨v7,rfl,hn7,hB7⟩;have hz7:=hB7.size;rw [show (w5.setCell ⟨w4.heap.size,2,none⟩ (.bool false)).heap.size=w5.heap.size by simp [World.setCell]] at hz7;have hC7:Below w.heap.size w w7:=(hC5.setCell (p:=⟨w4.heap.size,2,none⟩) hz4 (.bool false)).trans (hB7.mono (by simp [World.setCell];omega));have d2'':w7.heap[w.heap.size+1]?=some (.cells #[.string ByteArray.empty,.slice none 0 0,.bool false] 375):=by
              rw [hB7.block _ (by simp [World.setCell];omega),Q0q _ rfl (by show w.heap.size+1≠w4.heap.size;omega)];exact HD5.out.1
             have d4':w7.heap[w4.heap.size]?=some (.cells #[.string tx,.slice none 0 0,.bool false] 375):=by
              rw [hB7.block _ (by simp [World.setCell];omega)];exact Q0u (o:=2) (.bool false) HD5.out.2
             have e0:w7.cell? ⟨w.heap.size+1,0,none⟩=some (.string ByteArray.empty):=by rw [Lib.cell_of_heap d2''];rfl
             have e1:w7.cell? ⟨w.heap.size+1,1,none⟩=some (.slice none 0 0):=by rw [Lib.cell_of_heap d2''];rfl
             have e2:w7.cell? ⟨w.heap.size+1,2,none⟩=some (.bool false):=by rw [Lib.cell_of_heap d2''];rfl
             have f0:w7.frozen? ⟨w.heap.size+1,0,none⟩=false:=Lib.frozen_of_heap d2'' 0;have f1:w7.frozen? ⟨w.heap.size+1,1,none⟩=false:=Lib.frozen_of_heap d2'' 1;have f2:w7.frozen? ⟨w.heap.size+1,2,none⟩=false:=Lib.frozen_of_heap d2'' 2;have g0:w7.cell? ⟨w4.heap.size,0,none⟩=some (.string tx):=by rw [Lib.cell_of_heap d4'];rfl
             have g1:w7.cell? ⟨w4.heap.size,1,none⟩=some (.slice none 0 0):=by rw [Lib.cell_of_heap d4'];rfl
             have g2:w7.cell? ⟨w4.heap.size,2,none⟩=some (.bool false):=by rw [Lib.cell_of_heap d4'];rfl
             have gf1:w7.frozen? ⟨w4.heap.size,1,none⟩=false:=Lib.frozen_of_heap d4' 1;have hne1:¬w.heap.size+1=w4.heap.size:=by omega
             have hne2:¬w4.heap.size=w.heap.size+1:=by omega
             obtain ⟨a7,c7,rfl⟩:=hn7.form;clear hn7 hB7
             go_wp2
             go_region
             go_wp2
             refine bodyPost_ret (Q0i rfl _ _ (w.heap.size+1) 375 _ (0,0) _ rfl (set3 _ _ _ ((Q0q _ rfl (by show w.heap.size+1≠w4.heap.size;omega)).trans d2'') rfl) Tryz.underlying375 rfl Tryz.sizeRef) rfl ?_;refine ⟨⟨a7,(trimM q).length,c7,by rw [HF.out];rfl⟩,?_⟩;exact (below3 _ _ _ (hC7.setCell (p:=⟨w4.heap.size,1,none⟩) hz4 _) (Nat.le_succ _)).drew
     ·have HF:Hid (f=⟨ByteArray.empty,[],false,false⟩):=Lib.hid (by rw [HY.out,if_neg (fun h=>ht h.2.1)])
      clear HY HSUB
      go_wp2
      refine bodyPost_ret (Q0i rfl _ _ (w.heap.size+1) 375 _ (0,0) _ rfl (set3 _ _ _ d2 rfl) Tryz.underlying375 rfl Tryz.sizeRef) rfl ?_;refine ⟨⟨none,0,0,by rw [HF.out];rfl⟩,below3 _ _ _ hC3 (Nat.le_succ _)⟩
    ·have HF:Hid (f=⟨ByteArray.empty,[],false,false⟩):=Lib.hid (by rw [HY.out,if_neg (fun h=>hk h.1)])
     clear HY HSUB
     go_wp2
     refine bodyPost_ret (Q0i rfl _ _ (w.heap.size+1) 375 _ (0,0) _ rfl (set3 _ _ _ d2 rfl) Tryz.underlying375 rfl Tryz.sizeRef) rfl ?_;refine ⟨⟨none,0,0,by rw [HF.out];rfl⟩,below3 _ _ _ hC3 (Nat.le_succ _)⟩
end Go.Proofs.YtabliahkhafddaaGreat
namespace Go.Proofs.YtabliahkhafddaaGreat
open Go.RowKit Go.Sort Go.Ev
attribute [local go_sem] Oper.semAt_some
theorem Tryz.infoS:(Tryz.prog.info? 9).map (fun i=>(i.zero,i.size,i.bytes))=some (some (.string ByteArray.empty),1,16):=by kernel_rfl
theorem of_iter (z:Nat) (κ:Int) (Bl Bk:Nat) (v:Value) (vs:List Vl) (w:World) (hcn:cntVs vs≤1000000) (hz:z≤w.heap.size) (hv:AtB z w (.sl vs.length 5 (vs.flatMap encV)) v)
 (hl:w.cell? ⟨Bl,0,none⟩=some v) (hk:w.cell? ⟨Bk,0,none⟩=some (.int .i64 κ)) (hlz:Bl<z) (hkz:Bk<z) :
 IterAll Tryz.prog 299 #[.pointer (some ⟨Bl,0,none⟩),.pointer (some ⟨Bk,0,none⟩)] (fun x:ByteArray=>#[.string x]) z (txVs κ vs).length (fun xs=>xs=txVs κ vs) w:=by
 intro n l Ow J W hW hOs hJ hO hY h0;have hWz:Below z w W:=hW.mono hz;have hl':=(hWz.cell (p:=⟨Bl,0,none⟩) hlz).trans hl;have hk':=(hWz.cell (p:=⟨Bk,0,none⟩) hkz).trans hk;have HT:=Lib.hid (texts_in l z W.heap.size (txVs κ vs).length κ Ow J hJ hO (Nat.le_trans hz hW.size) hY _ vs (Nat.le_refl _) hcn (n - 1) v [] W (by simp) (Nat.le_refl _) (hv.below hWz) h0 hOs);obtain ⟨ad,cap,rfl,-⟩:=AtB.sl_form hv;clear hv;refine callsIn_of_wp Tryz.func299 rfl trivial ?_ rfl;simp only [Tryz.ntmps299,List.size_toArray,List.length_cons,List.length_nil,Nat.reduceAdd,Nat.reduceSub,Array.replicate_succ,Array.replicate_zero,List.push_toArray,List.append_toArray,List.nil_append,List.cons_append]
 gi_wp2_with fail
 refine ⟨trivial,fun h=>(by cases h),HT.out.mono ?_⟩;rintro e B ⟨rfl,hj,hK⟩
 gi_wp2
 go_end0
 exact ⟨⟨_,rfl⟩,_,rfl,by simpa using hj,hK⟩
def AIb (B z:Nat) (w:World) (pre:List ByteArray) (W:World):Prop :=
 ∃ v,W.heap[z]?=some (.cells #[v] 46 (0,0))∧W.ownsRow B 9 1 v pre.length (pre.map Value.string)∧Below z w W
def OwB (z:Nat) (W:World) (k:Nat):Prop:=k=z∨∃ v,W.heap[z]?=some (.cells #[v] 46 (0,0))∧v.ownBlock=some k
theorem AIb.own {B z:Nat} {w W:World} {pre:List ByteArray} (h:AIb B z w pre W) {k:Nat} (hk:OwB z W k):k<W.heap.size∧(k=z∨B≤k):=by
 obtain ⟨v,h1,h2,-⟩:=h;rcases hk with rfl | ⟨v',h3,h4⟩
 ·exact ⟨(Array.getElem?_eq_some_iff.1 h1).1,.inl rfl⟩
 ·rw [h1] at h3
  simp only [Option.some.injEq,Obj.cells.injEq,Array.mk.injEq,List.cons.injEq,and_true] at h3;subst h3;have:=h2.lt k h4;exact ⟨this.2,.inr this.1⟩
theorem AIb.below {B z:Nat} {w W W':World} {pre:List ByteArray} (h:AIb B z w pre W) (hb:Below W.heap.size W W'):AIb B z w pre W':=by
 obtain ⟨v,h1,h2,h3⟩:=h;have hz:=(Array.getElem?_eq_some_iff.1 h1).1;exact ⟨v,(hb.block _ hz).trans h1,owns_below h2 hb,h3.trans (hb.mono (Nat.le_of_lt hz))⟩
theorem AIb.put {B z j:Nat} {w W:World} {pre:List ByteArray} (h:AIb B z w pre W) (hj:z<j) {r r':Loop} (hr:W.heap[j]?=some (.loop r)):AIb B z w pre (W.putObj j (.loop r')):=by
 obtain ⟨v,h1,h2,h3⟩:=h;refine ⟨v,(World.putObj_heap_other (by omega)).trans h1,ownsRow_putObj h2 _ hr rfl,h3.os,h3.tape,h3.output,?_,fun k hk=>?_⟩
 ·have:=h3.size
  show w.heap.size≤(W.putObj _ _).heap.size;simp;exact this
 ·rw [World.putObj_heap_other (by omega)]
  exact h3.block k hk
theorem box_eq {W:World} {z:Nat} {v v':Value} {t:TypeId} (h:W.heap[z]?=some (.cells #[v] t (0,0))) (h':W.heap[z]?=some (.cells #[v'] t (0,0))):v'=v:=by
 rw [h] at h';simpa using h'.symm
theorem aib_snoc {B z:Nat} (hzB:z<B) {w W w1:World} {pre:List ByteArray} {x:ByteArray} {v1 v2:Value} (h1:W.heap[z]?=some (.cells #[v1] 46 (0,0))) (h2:W.ownsRow B 9 1 v1 pre.length (pre.map Value.string)) (h3:Below z w W) (h4:B≤W.heap.size)
 (hgrow:(W.alloc (.cells #[.string x] 9)).grownBy w1 v1.ownBlock) (hown:w1.ownsRow B 9 1 v2 (pre.length+1) (pre.map Value.string++[.string x])) (hblk:v2.ownBlock=v1.ownBlock∨v2.ownBlock=some (W.alloc (.cells #[.string x] 9)).heap.size) :
 AIb B z w (pre++[x]) (w1.setCell ⟨z,0,none⟩ v2)∧KO (OwB z) z W (w1.setCell ⟨z,0,none⟩ v2):=by
 have hne:=row_ne_low h2 (b:=z) (by omega);have hb1:w1.heap[z]?=some (.cells #[v1] 46 (0,0)):=by
  rw [hgrow.block _ (by simp;omega) hne,Below.heap_alloc _ _ _ (by omega)];exact h1
 have hBg:Below z W w1:=((Below.refl _ W).alloc (by omega) _).grown hgrow (by simp;omega) fun k e=>by have:=(h2.lt k e).1;omega
 have hBs:=hBg.setCell (p:=⟨z,0,none⟩) (Nat.le_refl _) v2;have hbox:(w1.setCell ⟨z,0,none⟩ v2).heap[z]?=some (.cells #[v2] 46 (0,0)):=by
  have:=Q0u (o:=0) v2 hb1;simpa using this
 have hown2:(w1.setCell ⟨z,0,none⟩ v2).ownsRow B 9 1 v2 (pre.length+1) (pre.map Value.string++[.string x]):=ownsRow_setCell_below hown (a:=⟨z,0,none⟩) (by exact hzB) v2;refine ⟨⟨v2,hbox,by simpa using hown2,h3.trans hBs⟩,⟨fun k hk hn=>?_,fun k hk ho=>?_,fun k ho=>?_,hBs⟩⟩
 ·have hkz:k≠z:=fun h=>hn (.inl h)
  rw [Q0q v2 rfl hkz,hgrow.block k (by simp;omega) fun e=>hn (.inr ⟨v1,h1,e.symm⟩),Below.heap_alloc _ _ _ hk]
 ·rcases ho with h | ⟨v,h5,h6⟩
  ·exact .inl h
  ·obtain rfl:=box_eq hbox h5
   rcases hblk with h7 | h7
   ·exact .inr ⟨v1,h1,h7.symm.trans h6⟩
   ·rw [h6] at h7
    simp at h7;omega
 ·rcases ho with rfl | ⟨v,h5,h6⟩
  ·exact (Array.getElem?_eq_some_iff.1 hbox).1
  ·obtain rfl:=box_eq hbox h5
   exact (hown2.lt k h6).2
set_option maxRecDepth 100000 in
set_option maxHeartbeats 4000000 in
theorem appendall_any (gf:Nat) (heg:∀ args w,(callFunc gf args).run Tryz.prog w=.ok (.enter gf args) w) (lb:Array Value) (N:Nat) (hN:N≤1000000) (S:List ByteArray→Prop) (w:World)
 (hseq:∀ w',Below w.heap.size w w'→w.heap.size≤w'.heap.size→IterAll Tryz.prog gf lb (fun x:ByteArray=>#[.string x]) w.heap.size N S w') :
 Calls Tryz.prog 357 #[.slice none 0 0,.func (.func gf) #[] lb] w fun e w'=>∃ v xs,e=.returned v∧S xs∧w'.ownsRow w.heap.size 9 1 v xs.length (xs.map Value.string)∧Below w.heap.size w w':=by
 obtain ⟨i0,hi,hz0,hz1,hz2⟩:=info_parts Tryz.infoS;refine callsIn_wide (n:=7).1 (callsIn_of_wp_marks Tryz.func357 rfl trivial ?_ rfl);simp only [Tryz.ntmps357,List.size_toArray,List.length_cons,List.length_nil,Nat.reduceAdd,Nat.reduceSub,Array.replicate_succ,Array.replicate_zero,List.push_toArray,List.append_toArray,List.nil_append,List.cons_append]
 gi_wp2
 have hsz1:(w.alloc (.cells #[.slice none 0 0] 46)).heap.size=w.heap.size+1:=by simp
 refine range_all (α:=ByteArray) (gf:=gf) (lb:=lb) rfl heg (encs:=fun x:ByteArray=>#[.string x]) (fun _=>rfl) (z:=w.heap.size) (N:=N) (S:=S) (by rw [hsz1];omega)
  (AIb (w.heap.size+3) w.heap.size w) (OwB w.heap.size) ?start ?ia ?il ?ow ?oa ?ol ?od ?seq (fun x=>{ tmps:=#[.slice none 0 0,.func (.func gf) #[] lb,.pointer (some ⟨w.heap.size,0,none⟩),undef,.slice none 0 0,.string x,.func (.func gf) #[] lb,.string x,undef,undef,undef,undef,undef],defers:=[] }) ?assign ?body ?done
 case start=>exact ⟨_,by rw [heap_al_new],World.ownsRow_nil _ _ _ _,Q0h _ _⟩
 case ia=>exact fun s A B h hb=>h.below hb
 case il =>
  rw [hsz1];exact fun s A r r' h hr=>h.put (by omega) hr
 case ow =>
  intro k hk;exact (AIb.own (B:=w.heap.size+3) (w:=w) (pre:=[]) ⟨_,by rw [heap_al_new],World.ownsRow_nil _ _ _ _,Q0h _ _⟩ hk).1
 case oa =>
  intro A B k hA hb hk;rw [hsz1] at hA;rcases hk with h | ⟨v,h1,h2⟩
  ·exact .inl h
  ·exact .inr ⟨v,(hb.block _ (by omega)).symm.trans h1,h2⟩
 case ol =>
  rw [hsz1];intro A r r' k hr;have hz:∀ x,(A.putObj (w.heap.size+1+1) (.loop r')).heap[w.heap.size]?=some x↔A.heap[w.heap.size]?=some x:=fun x=>by rw [World.putObj_heap_other (by omega)]
  exact or_congr Iff.rfl (exists_congr fun v=>and_congr (hz _) Iff.rfl)
 case od =>
  rw [hsz1];intro s A h;exact ⟨fun hk=>by have:=(h.own hk).2;omega,fun hk=>by have:=(h.own hk).2;omega⟩
 case seq=>exact hseq _ (Q0h _ _) (by simp)
 case assign =>
  intro l x W m K hK
  gi_wp2
  exact hK
 case body =>
  rintro l pre x W m ⟨v1,h1,h2,h3⟩ hpl hWs;rw [hsz1] at hWs;have hc1:W.cell? ⟨w.heap.size,0,none⟩=some v1:=by rw [Lib.cell_of_heap h1];rfl
  have hf1:W.frozen? ⟨w.heap.size,0,none⟩=false:=Lib.frozen_of_heap h1 0
  gi_wp2_with (gi_at_builtin;refine wpListIn_append_own_at _ rfl _ _ 46 rfl (w.heap.size+3) 9 i0 (.string ByteArray.empty) 1 16 Tryz.underlying46 hi hz0 hz1 hz2 rfl (by decide) _ _ _ rfl (h2.alloc _) ⟨W.heap.size,0,none⟩ 1 1 [.string x] rfl rfl ?c1 ?c2 ?c3 ?c4 ?c5 ?_)
  case c1=>exact cell_one_new _ _ _
  case c2=>simp [Value.oneCell']
  case c3=>unfold maxLen;omega
  case c4=>omega
  case c5=>simp;omega
  intro v' w1 hown' hgrow _ hblk;obtain ⟨g',cap',rfl⟩:=ownsRow_succ hown';have HE:=Lib.hid (aib_snoc (by omega) h1 h2 h3 (by omega) hgrow hown' (by rw [World.size_alloc];exact hblk));have hb1:w1.heap[w.heap.size]?=some (.cells #[v1] 46 (0,0)):=by
   rw [hgrow.block _ (by simp;omega) (row_ne_low h2 (b:=w.heap.size) (by omega)),Below.heap_alloc _ _ _ (by omega)];exact h1
  clear hc1 hf1;have hc1:w1.cell? ⟨w.heap.size,0,none⟩=some v1:=by rw [Lib.cell_of_heap hb1];rfl
  have hf1:w1.frozen? ⟨w.heap.size,0,none⟩=false:=Lib.frozen_of_heap hb1 0;clear hb1 h1 h2 h3 hown' hblk
  gi_wp2
  exact HE.out
 case done =>
  rintro D xs W hD hxs ⟨v1,h1,h2,h3⟩ hbel hdef;have hc1:W.cell? ⟨w.heap.size,0,none⟩=some v1:=by rw [Lib.cell_of_heap h1];rfl
  gi_wp2
  refine ⟨by simp,.inl ⟨_,_,rfl,run_takeDeferred hdef,?_⟩⟩;refine ⟨_,results_tmp rfl _ _ _,v1,xs,rfl,hxs,owns_mono (ownsRow_putObj h2 _ hdef rfl) (by omega),?_⟩;exact h3.grown (grownBy_putObj' W D _) h3.size fun k e=>by cases e;simp at hD;omega
theorem map_sOf (xs:List ByteArray):xs.map Value.string=(xs.map sOf).map encStr:=by rw [List.map_map];rfl
def sortM (ss:List Str):List Str:=ss.mergeSort fun x y=>decide (x≤y)
theorem sortM_len (ss:List Str):(sortM ss).length=ss.length:=by simp [sortM]
theorem grow_nil (w:World):grow w #[]=w:=by
 unfold grow
 cases w
 simp
theorem ownsRow_compact {w:World} {base g cap n:Nat} {e:TypeId} {cur:Array Value} {zs:List Str} (hbase:base≤g) (hb:w.heap[g]?=some (.cells cur e (0,0)))
 (h1:zs.length≤cap) (h2:cap≤maxLen) (h3:cur.size=cap*1) :
 (putRow encStr (Sort.ahead w n) g 0 (Lib.compact zs++List.replicate (zs.length - (Lib.compact zs).length) []).toArray).ownsRow base e 1 (.slice (some ⟨g,0,none⟩) (Lib.compact zs).length cap) (Lib.compact zs).length ((Lib.compact zs).map encStr):=by
 have hle:=Lib.compact_length_le zs;have hl:(Lib.compact zs++List.replicate (zs.length - (Lib.compact zs).length) []).length=zs.length:=by simp;omega
 have h9:=(ownsRow_sorted (n:=n) (os:=#[]) hl hbase hb h1 h2 h3).2;have hg:grow (putRow encStr (Sort.ahead w n) g 0 (Lib.compact zs++List.replicate (zs.length - (Lib.compact zs).length) []).toArray) #[]=putRow encStr (Sort.ahead w n) g 0 (Lib.compact zs++List.replicate (zs.length - (Lib.compact zs).length) []).toArray:=by
  exact grow_nil _
 rw [hg] at h9;rcases h9 with ⟨h,-⟩ | ⟨g',cap',cur',hv,hg',hb',h4,h5,h6,h7⟩
 ·cases h
 ·cases hv
  refine ⟨by simp,.inr ⟨g,cap,cur',rfl,hbase,hb',by omega,h5,h6,?_⟩⟩;have h8:=congrArg (List.take (Lib.compact zs).length) h7;rw [List.take_take,Nat.min_eq_left (by omega),List.map_append,List.take_left' (by simp)] at h8;rw [Nat.mul_one];exact h8
theorem below_compact {w w1:World} {g n:Nat} (d:Array Str) (h:Below w.heap.size w w1) (hbase:w.heap.size≤g):Below w.heap.size w (putRow encStr (Sort.ahead w1 n) g 0 d):=by
 have hg:grow (putRow encStr (Sort.ahead w1 n) g 0 d) #[]=putRow encStr (Sort.ahead w1 n) g 0 d:=grow_nil _;have:=h.grown (grownBy_sorted (w:=w1) (g:=g) (n:=n) (os:=#[]) d) h.size fun k e=>by cases e;exact hbase
 rwa [hg] at this
section
variable (gf:Nat) (heg:∀ args w,(callFunc gf args).run Tryz.prog w=.ok (.enter gf args) w) (lb:Array Value) (N:Nat) (hN:N≤1000000) (S:List ByteArray→Prop) (w:World)
 (hseq:∀ w',Below w.heap.size w w'→w.heap.size≤w'.heap.size→IterAll Tryz.prog gf lb (fun x:ByteArray=>#[.string x]) w.heap.size N S w')
include heg hN hseq
set_option maxRecDepth 100000 in
set_option maxHeartbeats 1000000 in
theorem collectall_any :
 Calls Tryz.prog 335 #[.func (.func gf) #[] lb] w fun e w'=>∃ v xs,e=.returned v∧S xs∧w'.ownsRow w.heap.size 9 1 v xs.length (xs.map Value.string)∧Below w.heap.size w w':=by
 have H:=Lib.hid (appendall_any gf heg lb N hN S w hseq);clear hseq heg;generalize Value.func (.func gf) #[] lb=sv at *
 go_enter Tryz.func335,Tryz.ntmps335
 go_wp2_with fail
 refine H.out.mono ?_;rintro e w' ⟨v',xs,rfl,hs,ho,hB⟩
 go_wp2
 go_ret
 exact ⟨_,_,rfl,hs,ho,hB⟩
set_option maxRecDepth 100000 in
set_option maxHeartbeats 1000000 in
theorem sortedall_any (hS:∀ xs,S xs→xs.length≤1000000) :
 Calls Tryz.prog 302 #[.func (.func gf) #[] lb] w fun e w'=>∃ v xs,e=.returned v∧S xs∧w'.ownsRow w.heap.size 9 1 v xs.length ((sortM (xs.map sOf)).map encStr)∧Below w.heap.size w w':=by
 have H:=Lib.hid (collectall_any gf heg lb N hN S w hseq);clear hseq heg;generalize Value.func (.func gf) #[] lb=sv at *
 go_enter Tryz.func302,Tryz.ntmps302
 go_wp2_with fail
 refine H.out.mono ?_;rintro e w1 ⟨v',xs,rfl,hs,ho,hB⟩;have hlx:=hS xs hs;rw [map_sOf] at ho;have hle:xs.length=(xs.map sOf).length:=by simp
 obtain ⟨ss,hss⟩:∃ ss,ss=xs.map sOf:=⟨_,rfl⟩;rw [←hss] at hle ho;rw [hle] at ho hlx;have HL:=Lib.hid (And.intro hss hle);clear hss hle;rcases ho.2 with ⟨rfl,h0⟩ | ⟨g,cap,cur,rfl,hbase,hbk,h1,h2,h3,h4⟩
 ·obtain rfl:ss=[]:=List.eq_nil_of_length_eq_zero h0
  go_wp2_with fail
  refine (Tryz.slices_Sort_string_none _ _ _).mono ?_;rintro e w2 ⟨rfl,rfl⟩
  go_wp2
  go_ret
  have hs9:sortM []=[]:=by simp [sortM]
  exact ⟨_,_,rfl,hs,by rw [←HL.out.1,HL.out.2,hs9];exact World.ownsRow_nil _ _ _ _,hB⟩
 ·have hH:Holds encStr w1 g 0 ss.toArray:=holds_of_block hbk (by simpa using h4)
  go_wp2_with fail
  refine (Tryz.slices_Sort_string g 0 cap ss _ hH (Array.getElem?_eq_some_iff.1 hbk).1 (by omega)).mono ?_;rintro e w2 ⟨rfl,nd,os,rfl⟩;have ho2:=ownsRow_sorted (os:=os) (n:=nd) (ts:=sortM ss) (sortM_len _) hbase hbk h1 h2 h3;have hB2:Below w.heap.size w (grow (putRow encStr (Sort.ahead w1 nd) g 0 (sortM ss).toArray) os):=hB.grown (grownBy_sorted _) hB.size fun k e=>by cases e;exact hbase
  have HO:=Lib.hid ho2;clear ho2
  go_wp2
  go_ret
  exact ⟨_,xs,rfl,hs,by rw [←HL.out.1,HL.out.2];exact HO.out,hB2⟩
end
def ofM (κ:Int) (vs:List Vl):List Str:=Lib.compact (sortM ((txVs κ vs).map sOf))
mutual
theorem txV_cnt (κ:Int):∀ x:Vl,(txV κ x).length≤cntV x
 | .mk k t s n l=>by
   have:=txVs_cnt κ l;rw [txV,cntV,List.length_append]
   split <;> split <;> simp <;> omega
theorem txVs_cnt (κ:Int):∀ l:List Vl,(txVs κ l).length≤cntVs l
 | []=>by simp [txVs]
 | x::xs=>by
   have h1:=txV_cnt κ x;have h2:=txVs_cnt κ xs;rw [txVs,cntVs,List.length_append];omega
end
set_option maxRecDepth 100000 in
set_option maxHeartbeats 2000000 in
theorem of_any (κ:Int) (v:Value) (vs:List Vl) (w:World) (hcn:cntVs vs≤1000000) (hv:At w (.sl vs.length 5 (vs.flatMap encV)) v) :
 Calls Tryz.prog 249 #[v,.int .i64 κ] w fun e w'=>∃ v',e=.returned v'∧w'.ownsRow w.heap.size 9 1 v' (ofM κ vs).length ((ofM κ vs).map encStr)∧Below w.heap.size w w':=by
 have hlen:=txVs_cnt κ vs;have hw2:((w.alloc (.cells #[v] 63)).alloc (.cells #[.int .i64 κ] 3)).heap.size=w.heap.size+2:=by simp
 have hB2:Below w.heap.size w ((w.alloc (.cells #[v] 63)).alloc (.cells #[.int .i64 κ] 3)):=((Below.refl _ w).alloc (Nat.le_refl _) _).alloc (by simp) _;have hc1:((w.alloc (.cells #[v] 63)).alloc (.cells #[.int .i64 κ] 3)).cell? ⟨w.heap.size,0,none⟩=some v:=by
  rw [Lib.cell_of_heap ((Below.heap_alloc _ _ _ (by simp)).trans (World.alloc_heap_new w (.cells #[v] 63)))];rfl
 have hc2:((w.alloc (.cells #[v] 63)).alloc (.cells #[.int .i64 κ] 3)).cell? ⟨w.heap.size+1,0,none⟩=some (.int .i64 κ):=by
  have:=World.alloc_heap_new (w.alloc (.cells #[v] 63)) (.cells #[.int .i64 κ] 3);rw [World.size_alloc] at this;rw [Lib.cell_of_heap this];rfl
 have H:=Lib.hid (sortedall_any 299 (enters_of Tryz.func299 (by kernel_rfl) rfl) #[.pointer (some ⟨w.heap.size,0,none⟩),.pointer (some ⟨w.heap.size+1,0,none⟩)] (txVs κ vs).length (by omega) (fun xs=>xs=txVs κ vs)
  ((w.alloc (.cells #[v] 63)).alloc (.cells #[.int .i64 κ] 3)) (fun w' hw' hs'=>by
    have hb:Below w.heap.size w w':=hB2.trans (hw'.mono (by omega))
    exact of_iter _ κ w.heap.size (w.heap.size+1) v vs w' hcn hs' (AtB.mono (AtB.below (At.toB hv) hb) (by omega)) ((hw'.cell (p:=⟨w.heap.size,0,none⟩) (by rw [hw2];simp)).trans hc1) ((hw'.cell (p:=⟨w.heap.size+1,0,none⟩) (by rw [hw2];simp)).trans hc2) (by omega) (by omega))
  (by rintro xs rfl;omega))
 obtain ⟨ad,cap0,rfl,-⟩:=At.sl_form hv;have HB2:=Lib.hid hB2;clear hv hc1 hc2 hB2
 go_enter Tryz.func249,Tryz.ntmps249
 go_wp2_with fail
 refine H.out.mono ?_;rintro e w1 ⟨v',xs,rfl,rfl,ho,hB⟩;have hbz:Below w.heap.size w w1:=HB2.out.trans (hB.mono (by omega));have hzs:(sortM ((txVs κ vs).map sOf)).length=(txVs κ vs).length:=by rw [sortM_len,List.length_map]
 have hof:ofM κ vs=Lib.compact (sortM ((txVs κ vs).map sOf)):=rfl;rw [hw2,←hzs] at ho;rw [←hzs] at hlen;have HZ:=Lib.hid hzs;clear hzs;generalize sortM ((txVs κ vs).map sOf)=zs at *;have HOF:=Lib.hid hof;clear hof;rcases ho.2 with ⟨rfl,h0⟩ | ⟨g,cap,cur,rfl,hbase,hbk,h1,h2,h3,h4⟩
 ·obtain rfl:zs=[]:=List.eq_nil_of_length_eq_zero h0
  go_wp2_with fail
  refine (Tryz.slices_Compact_string_empty _ _ _).mono ?_;rintro e w2 ⟨rfl,rfl⟩
  go_wp2
  go_ret
  have hs9:Lib.compact ([]:List Str)=[]:=rfl;exact ⟨_,rfl,by rw [HOF.out,hs9];exact World.ownsRow_nil _ _ _ _,hbz⟩
 ·have hH:Holds encStr w1 g 0 zs.toArray:=holds_of_block hbk (by simpa using h4)
  have hb9:w.heap.size≤g:=by omega
  have HO:=Lib.hid fun q=>ownsRow_compact (n:=q) hb9 hbk h1 h2 h3;have HBB:=Lib.hid fun q=>below_compact (n:=q) (Lib.compact zs++List.replicate (zs.length - (Lib.compact zs).length) []).toArray hbz hb9;clear hbz
  go_wp2_with fail
  refine (Tryz.slices_Compact_string g 0 cap zs _ hH (by omega) (by omega)).mono ?_;rintro e w2 ⟨rfl,q,rfl⟩;have HO2:=Lib.hid (HO.out q);have HB9:=Lib.hid (HBB.out q);clear HO HBB
  go_wp2
  go_ret
  exact ⟨_,rfl,by rw [HOF.out];exact HO2.out,HB9.out⟩
end Go.Proofs.YtabliahkhafddaaGreat
end
