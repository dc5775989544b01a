/- DERIVED: THE SHELF's CONTRACTS AT THIS DUMP, IN PLAIN WORDS (tools/lay-plain.mjs out of 'TryzShelf.lean', which tools/lay-shelf.mjs wrote): THE SAME DECLARATIONS UNDER THE SAME NAMES: 'import', 'namespace', 'open', 'def', 'theorem' AND NOTHING ELSE: no command of the shelf's: FOR A HAND-IN. Each laying: the table of numbers ('.._ren') and one theorem, a field a fact of the dump's own or the kernel's comparison; each contract: ONE APPLICATION. -/
import Derived.Test.YtlnaihkombcbcaaGreatTc9
import Derived.Shelf.Small.Utf8
import Derived.Shelf.Small.Bits
import Derived.Shelf.Small.Strs
import Derived.Shelf.Strconv.Itoa0
import Derived.Shelf.Strings.Search1
import Derived.Shelf.Sort.Plain
import Derived.Shelf.Strings.Runes
import Derived.Shelf.Slices.Turned
import Derived.Shelf.Slices.Equal
import Derived.Ground.Names2Prog
import Derived.Shelf.Slices.ReverseS
import Derived.Shelf.Slices.Clone
import Derived.Shelf.Slices.CompactS
import Derived.Shelf.Slices.SearchI
import Derived.Shelf.Slices.Cells
import Derived.Shelf.Slices.In.SortNone
import Derived.Shelf.Slices.Empties2
import Derived.Ground.SlgnProg
import Derived.Shelf.SlicesE.Clone
import Derived.Test.YtlnaihkombcbcaaGreatProg
set_option linter.unusedSimpArgs false
noncomputable section
namespace Go.Proofs.YtlnaihkombcbcaaGreat
open Go.RowKit Go.Ev Go.Sort
def customB (s:ByteArray):Bool:=decide (2≤s.size)&&((s.extract 0 2).toList==[45,45])
set_option maxRecDepth 100000 in
theorem prefix_any (s:ByteArray) (w:World) :
 Calls Tryz.prog 266 #[.string s,.string ⟨#[45,45]⟩] w fun e w'=>e=.returned (.bool (customB s))∧w'=w:=by
 have h2:(⟨#[45,45]⟩:ByteArray).size=2:=rfl;have h3:(⟨#[45,45]⟩:ByteArray).toList=[45,45]:=by rw [ByteArray.toList_eq]
 generalize (⟨#[45,45]⟩:ByteArray)=p at *
 by_cases hs:2≤s.size
 ·go_enter Tryz.func266,Tryz.ntmps266
  go_wp2
  go_ret
  refine ⟨ret_bool ?_,rfl⟩;simp [customB,hs]
 ·go_enter Tryz.func266,Tryz.ntmps266
  go_wp2
  go_ret
  refine ⟨ret_bool ?_,rfl⟩;simp [customB,hs]
set_option maxRecDepth 100000 in
theorem prefix2_any (s:ByteArray) (w:World) :
 Calls Tryz.prog 209 #[.string s,.string ⟨#[45,45]⟩] w fun e w'=>e=.returned (.bool (customB s))∧w'=w:=by
 go_enter Tryz.func209,Tryz.ntmps209
 go_wp2_with fail
 refine (prefix_any s _).mono ?_;rintro e w' ⟨rfl,rfl⟩
 go_wp2
 go_ret
 exact ⟨rfl,rfl⟩
set_option maxRecDepth 100000 in
theorem custom_any (s:ByteArray) (w:World) :
 Calls Tryz.prog 143 #[.string s] w fun e w'=>e=.returned (.bool (customB s))∧w'=w:=by
 go_enter Tryz.func143,Tryz.ntmps143
 go_wp2_with fail
 refine (prefix2_any s _).mono ?_;rintro e w' ⟨rfl,rfl⟩
 go_wp2
 go_ret
 exact ⟨rfl,rfl⟩
def isVarK (k:Int) (s:ByteArray):Bool:=k==5&&lowS (sOf s)==[118,97,114]
set_option maxRecDepth 100000 in
theorem isVar_any (k t n:Int) (s:ByteArray) (lv:Value) (w:World) (hs:s.size≤1000000) :
 Calls Tryz.prog 131 #[.agg #[.int .i64 k,.int .i64 t,.string s,.int .i64 n,lv]] w fun e w'=>e=.returned (.bool (isVarK k s))∧Below w.heap.size w w':=by
 by_cases hk:k=5
 ·subst hk
  go_enter Tryz.func131,Tryz.ntmps131
  go_wp2_with fail
  refine (small_any s _ hs).mono ?_;rintro e w2 ⟨rfl,hB⟩;have hC:=bup (below_alloc w _) hB;have hbt:(bs (lowS (sOf s))).toList=lowS (sOf s):=bs_toList _
  go_wp2
  go_ret
  refine ⟨ret_bool ?_,hC⟩;simp [isVarK]
 ·have hb:(k==5)=false:=by simpa using hk
  go_enter Tryz.func131,Tryz.ntmps131
  go_wp2
  go_ret
  exact ⟨ret_bool (by simp [isVarK,hb]),below_alloc _ _⟩
structure Rf where
 name:ByteArray
 fb:List Vl
 falls:Bool
 is:Bool
def commaB (z:Vl):Bool:=z.kind==1&&(z.tk==7&&z.text.toList==[44]&&z.n==0)
def restM (name:ByteArray):List Vl→Rf
 | []=>⟨name,[],false,true⟩
 | z::q=>⟨name,trimM q,commaB z,commaB z⟩
def headM:List Vl→Rf
 | []=>⟨ByteArray.empty,[],false,false⟩
 | y::r=>if y.kind=1∧y.tk=1∧customB y.text=true then restM y.text (trimM r) else ⟨ByteArray.empty,[],false,false⟩
def readM (l:List Vl):Rf:=headM (trimM l)
def ReadPost (f:Rf) (e:Ending):Prop:=∃ a m c,e=.returned (.tuple #[.agg #[.string f.name,.slice a m c,.bool f.falls],.bool f.is])
theorem results_row_tmp {P:Program} {fn:Func} {p u:Tmp} {ty:TypeId} (h:fn.results=#[.cell p ty,.tmp u]) (tmps:Array Value) (w:World) (g:Nat) (t:TypeId) (cs:Array Value) (fr:Nat×Nat) (d:TypeDesc)
 (hp:tmps.getD p undef=.pointer (some ⟨g,0,none⟩)) (hg:w.heap[g]?=some (.cells cs t fr))
 (hu:P.underlying ty=some d) (hd:(match d with | .struct _ | .array _ _=>true | _=>false)=true) (hi:(P.info? ty).map (·.size)=some cs.size) :
 (results fn tmps).run P w=.ok (.tuple #[.agg cs,tmps.getD u undef]) w:=by
 have hp':tmps[p]?.getD undef=.pointer (some ⟨g,0,none⟩):=by simpa using hp
 simp [results,h,hp',asAddr,run_loadVar_row w g t ty cs fr d hg hu hd hi]
theorem set3 {W:World} {g:Nat} {t:TypeId} {cs:Array Value} (x y z:Value) (h:W.heap[g]?=some (.cells cs t (0,0))) (hs:cs.size=3) :
 (((W.setCell ⟨g,0,none⟩ x).setCell ⟨g,1,none⟩ y).setCell ⟨g,2,none⟩ z).heap[g]?=some (.cells #[x,y,z] t (0,0)):=by
 rw [put_same (o:=2) z (put_same (o:=1) y (put_same (o:=0) x h))];obtain ⟨l⟩:=cs
 match l,hs with
 | [a,b,c],_=>rfl
theorem below3 {w W:World} {g:Nat} (x y z:Value) (h:Below w.heap.size w W) (hg:w.heap.size≤g):Below w.heap.size w (((W.setCell ⟨g,0,none⟩ x).setCell ⟨g,1,none⟩ y).setCell ⟨g,2,none⟩ z) :=
 ((h.setCell hg _).setCell hg _).setCell hg _
theorem Tryz.sizeRef:(Tryz.prog.info? 278).map (·.size)=some 3:=by kernel_rfl
set_option maxRecDepth 100000 in
set_option maxHeartbeats 4000000 in
theorem read_any (k t n:Int) (s:ByteArray) (lv:Value) (l:List Vl) (w:World) (hv:At w (.sl l.length 5 (l.flatMap encV)) lv) (hl:l.length≤1000000) :
 Calls Tryz.prog 198 #[.agg #[.int .i64 k,.int .i64 t,.string s,.int .i64 n,lv]] w fun e w'=>ReadPost (readM l) e∧Below w.heap.size w w':=by
 have hB2:Below w.heap.size w ((w.alloc (.cells #[.int .i64 k,.int .i64 t,.string s,.int .i64 n,lv] 67)).alloc (.cells #[.string ByteArray.empty,.slice none 0 0,.bool false] 278)):=((Below.refl _ w).alloc (Nat.le_refl _) _).alloc (by simp) _;have HT:=Lib.hid (trim_any w.heap.size lv l _ hB2.size ((VlS.of_at hv).below (Nat.le_refl _) hB2) hl);have hlen:=trimM_len l;have HR:Hid (readM l=headM (trimM l)):=Lib.hid rfl;obtain ⟨ad,cap,rfl,-⟩:=At.sl_form hv;clear hv;generalize trimM l=l1 at *;generalize readM l=f at *
 go_enter Tryz.func198,Tryz.ntmps198
 go_wp2_with fail
 refine HT.out.mono ?_;rintro e w3 ⟨v1,rfl,hn1,hB3⟩;have hC3:=bup hB2 hB3;have hz3:w.heap.size+2≤w3.heap.size:=by have:=hB3.size;simpa using this
 have d2:w3.heap[w.heap.size+1]?=some (.cells #[.string ByteArray.empty,.slice none 0 0,.bool false] 278):=by
  rw [hB3.block _ (by simp)];have:=World.alloc_heap_new (w.alloc (.cells #[.int .i64 k,.int .i64 t,.string s,.int .i64 n,.slice ad l.length cap] 67)) (.cells #[.string ByteArray.empty,.slice none 0 0,.bool false] 278);rw [World.size_alloc] at this;exact this
 clear hB3;have e0:w3.cell? ⟨w.heap.size+1,0,none⟩=some (.string ByteArray.empty):=by rw [Lib.cell_of_heap d2];rfl
 have e1:w3.cell? ⟨w.heap.size+1,1,none⟩=some (.slice none 0 0):=by rw [Lib.cell_of_heap d2];rfl
 have e2:w3.cell? ⟨w.heap.size+1,2,none⟩=some (.bool false):=by rw [Lib.cell_of_heap d2];rfl
 have f0:w3.frozen? ⟨w.heap.size+1,0,none⟩=false:=Lib.frozen_of_heap d2 0;have f1:w3.frozen? ⟨w.heap.size+1,1,none⟩=false:=Lib.frozen_of_heap d2 1;have f2:w3.frozen? ⟨w.heap.size+1,2,none⟩=false:=Lib.frozen_of_heap d2 2
 cases l1 with
 | nil =>
   obtain ⟨a1,c1,rfl⟩:=hn1.form;have HF:Hid (f=⟨ByteArray.empty,[],false,false⟩):=HR
   go_wp2
   refine bodyPost_ret (results_row_tmp rfl _ _ (w.heap.size+1) 278 _ (0,0) _ rfl (set3 _ _ _ d2 rfl) Tryz.underlying278 rfl Tryz.sizeRef) rfl ?_;refine ⟨⟨none,0,0,by rw [HF.out];rfl⟩,below3 _ _ _ hC3 (Nat.le_succ _)⟩
 | cons y r =>
   have hs1:=hn1.vls;rcases hs1.form with ⟨h0,-⟩ | ⟨-,b,o,c1,rfl,hcap1,-⟩
   ·cases h0
   ·obtain ⟨c0, c1',c2,c3,ad1,cp1,c4,-⟩:=hs1.cells (k:=0) (by simp)
    simp only [List.getElem_cons_zero,Nat.zero_mul,Nat.add_zero] at c0 c1' c2 c3 c4;have HSUB:=Lib.hid fun a ha=>hs1.sub 1 r.length (c1 - 1) (by simp;omega) (by simp at hcap1;omega) a ha;simp only [List.drop_succ_cons,List.drop_zero,List.take_length] at HSUB;rw [List.length_cons] at hcap1 hlen ⊢;have HY:Hid (f=if y.kind=1∧y.tk=1∧customB y.text=true then restM y.text (trimM r) else ⟨ByteArray.empty,[],false,false⟩):=HR;clear hs1 hn1 HR;generalize y.kind=kd at *;generalize y.tk=tk at *;generalize y.text=tx at *;generalize y.n=nn at *;generalize y.l.length=ln at *
    by_cases hk:kd=1
    ·subst hk
     by_cases ht:tk=1
     ·subst ht
      go_wp2_with fail
      refine (custom_any tx _).mono ?_;rintro e w4 ⟨rfl,rfl⟩
      cases hcu:customB tx
      ·have HF:Hid (f=⟨ByteArray.empty,[],false,false⟩):=Lib.hid (by rw [HY.out,hcu];simp)
       clear HY HSUB
       go_wp2
       refine bodyPost_ret (results_row_tmp rfl _ _ (w.heap.size+1) 278 _ (0,0) _ rfl (set3 _ _ _ d2 rfl) Tryz.underlying278 rfl Tryz.sizeRef) rfl ?_;refine ⟨⟨none,0,0,by rw [HF.out];rfl⟩,below3 _ _ _ hC3 (Nat.le_succ _)⟩
      ·have HF : Hid (f=restM tx (trimM r)):=Lib.hid (by rw [HY.out,hcu];simp)
       clear HY;have hC4:Below w.heap.size w (w4.alloc (.cells #[.string tx,.slice none 0 0,.bool false] 278)):=hC3.alloc hC3.size _;have TR:=Lib.hid fun A hA=>trim_any w.heap.size (.slice A r.length (c1 - 1)) r _ hC4.size ((HSUB.out A hA).below hC3.size (below_alloc w4 (.cells #[.string tx,.slice none 0 0,.bool false] 278))) (by omega);have HD2:=Lib.hid d2;clear HSUB c0 c1' c3 c4 e0 e1 e2 f0 f1 f2 d2;have hl2:=trimM_len r
       by_cases hc1:c1=1
       ·subst hc1
        obtain rfl:r=[]:=List.eq_nil_of_length_eq_zero (by omega)
        go_wp2_with fail
        refine (TR.out (some ⟨b,o,none⟩) (fun h=>absurd h (Nat.lt_irrefl 0))).mono ?_;rintro e w5 ⟨v6,rfl,hn6,hB5⟩;have hC5:=bup hC4 hB5;have hz5:=hB5.size;rw [World.size_alloc] at hz5;have d2':w5.heap[w.heap.size+1]?=some (.cells #[.string ByteArray.empty,.slice none 0 0,.bool false] 278):=by
         rw [hB5.block _ (by simp;omega),Below.heap_alloc _ _ _ (by omega)];exact HD2.out
        have d4:w5.heap[w4.heap.size]?=some (.cells #[.string tx,.slice none 0 0,.bool false] 278):=by
         rw [hB5.block _ (by simp)];exact World.alloc_heap_new w4 _
        have e0:w5.cell? ⟨w.heap.size+1,0,none⟩=some (.string ByteArray.empty):=by rw [Lib.cell_of_heap d2'];rfl
        have e1:w5.cell? ⟨w.heap.size+1,1,none⟩=some (.slice none 0 0):=by rw [Lib.cell_of_heap d2'];rfl
        have e2:w5.cell? ⟨w.heap.size+1,2,none⟩=some (.bool false):=by rw [Lib.cell_of_heap d2'];rfl
        have f0:w5.frozen? ⟨w.heap.size+1,0,none⟩=false:=Lib.frozen_of_heap d2' 0;have f1:w5.frozen? ⟨w.heap.size+1,1,none⟩=false:=Lib.frozen_of_heap d2' 1;have f2:w5.frozen? ⟨w.heap.size+1,2,none⟩=false:=Lib.frozen_of_heap d2' 2;have g0:w5.cell? ⟨w4.heap.size,0,none⟩=some (.string tx):=by rw [Lib.cell_of_heap d4];rfl
        have g1:w5.cell? ⟨w4.heap.size,1,none⟩=some (.slice none 0 0):=by rw [Lib.cell_of_heap d4];rfl
        have g2:w5.cell? ⟨w4.heap.size,2,none⟩=some (.bool false):=by rw [Lib.cell_of_heap d4];rfl
        have gf2:w5.frozen? ⟨w4.heap.size,2,none⟩=false:=Lib.frozen_of_heap d4 2;obtain ⟨a6,c6,rfl⟩:=hn6.form
        go_wp2
        refine bodyPost_ret (results_row_tmp rfl _ _ (w.heap.size+1) 278 _ (0,0) _ rfl (set3 _ _ _ d2' rfl) Tryz.underlying278 rfl Tryz.sizeRef) rfl ?_;exact ⟨⟨none,0,0,by rw [HF.out];rfl⟩,below3 _ _ _ hC5 (Nat.le_succ _)⟩
       ·go_wp2_with fail
        refine (TR.out (some ⟨b,o+5,none⟩) (fun _=>rfl)).mono ?_;rintro e w5 ⟨v6,rfl,hn6,hB5⟩;have hC5:=bup hC4 hB5;have hz5:=hB5.size;rw [World.size_alloc] at hz5;have d2':w5.heap[w.heap.size+1]?=some (.cells #[.string ByteArray.empty,.slice none 0 0,.bool false] 278):=by
         rw [hB5.block _ (by simp;omega),Below.heap_alloc _ _ _ (by omega)];exact HD2.out
        have d4:w5.heap[w4.heap.size]?=some (.cells #[.string tx,.slice none 0 0,.bool false] 278):=by
         rw [hB5.block _ (by simp)];exact World.alloc_heap_new w4 _
        have e0:w5.cell? ⟨w.heap.size+1,0,none⟩=some (.string ByteArray.empty):=by rw [Lib.cell_of_heap d2'];rfl
        have e1:w5.cell? ⟨w.heap.size+1,1,none⟩=some (.slice none 0 0):=by rw [Lib.cell_of_heap d2'];rfl
        have e2:w5.cell? ⟨w.heap.size+1,2,none⟩=some (.bool false):=by rw [Lib.cell_of_heap d2'];rfl
        have f0:w5.frozen? ⟨w.heap.size+1,0,none⟩=false:=Lib.frozen_of_heap d2' 0;have f1:w5.frozen? ⟨w.heap.size+1,1,none⟩=false:=Lib.frozen_of_heap d2' 1;have f2:w5.frozen? ⟨w.heap.size+1,2,none⟩=false:=Lib.frozen_of_heap d2' 2;have g0:w5.cell? ⟨w4.heap.size,0,none⟩=some (.string tx):=by rw [Lib.cell_of_heap d4];rfl
        have g1:w5.cell? ⟨w4.heap.size,1,none⟩=some (.slice none 0 0):=by rw [Lib.cell_of_heap d4];rfl
        have g2:w5.cell? ⟨w4.heap.size,2,none⟩=some (.bool false):=by rw [Lib.cell_of_heap d4];rfl
        have gf2:w5.frozen? ⟨w4.heap.size,2,none⟩=false:=Lib.frozen_of_heap d4 2;generalize trimM r=l2 at *
        cases l2 with
        | nil =>
          obtain ⟨a6,c6,rfl⟩:=hn6.form
          go_wp2
          refine bodyPost_ret (results_row_tmp rfl _ _ (w.heap.size+1) 278 _ (0,0) _ rfl (set3 _ _ _ d2' rfl) Tryz.underlying278 rfl Tryz.sizeRef) rfl ?_;exact ⟨⟨none,0,0,by rw [HF.out];rfl⟩,below3 _ _ _ hC5 (Nat.le_succ _)⟩
        | cons z q =>
          have hz4:w.heap.size≤w4.heap.size:=hC3.size;have hs6:=fun B:Bool=>(hn6.set (p:=⟨w4.heap.size,2,none⟩) (.bool B) hz4 (by simp)).vls;have hs5:=hn6.vls;rcases hs5.form with ⟨h0,-⟩ | ⟨-,b6,o6,c6,rfl,hcap6,-⟩
          ·cases h0
          ·obtain ⟨zc0,zc1,zc2,zc3,ad6,cp6,zc4,-⟩:=hs5.cells (k:=0) (by simp)
           simp only [List.getElem_cons_zero,Nat.zero_mul,Nat.add_zero] at zc0 zc1 zc2 zc3 zc4
           have HSUB:=Lib.hid fun (B:Bool) (C:Nat) (hC:q.length≤C) A hA=>(show VlS w.heap.size (w5.setCell ⟨w4.heap.size,2,none⟩ (.bool B)) (.slice A q.length C) q by
            have:=(hs6 B).sub 1 q.length C (by simp;omega) hC A hA
            simpa using this)
           rw [List.length_cons] at hcap6 hl2 ⊢;have hcm:commaB z=(z.kind==1&&(z.tk==7&&z.text.toList==[44]&&z.n==0)):=rfl;have HF2:Hid (f=⟨tx,trimM q,commaB z,commaB z⟩):=HF;rw [hcm] at HF2;clear hs5 hs6 hn6 HF hcm;generalize z.kind=zk at *;generalize z.tk=zt at *;generalize z.text=zs at *;generalize z.n=zn at *;generalize z.l.length=zl at *;have HD5:=Lib.hid (And.intro d2' d4)
           by_cases hzk:zk=1
           ·subst hzk
            by_cases hzt:zt=7
            ·subst hzt
             by_cases hzs:zs.toList=[44]
             ·by_cases hzn:zn=0
              ·subst hzn
               have HF:Hid (f=⟨tx,trimM q,true,true⟩):=Lib.hid (by rw [HF2.out];simp [*]);clear HF2
               by_cases hc6:c6=1
               ·subst hc6
                obtain rfl:q=[]:=List.eq_nil_of_length_eq_zero (by omega)
                go_wp2_with fail
                refine (trim_any w.heap.size (.slice (some ⟨b6,o6,none⟩) 0 0) [] _ (by simp [World.setCell];omega) (HSUB.out true 0 (Nat.le_refl _) _ (fun h=>absurd h (Nat.lt_irrefl 0))) (by simp)).mono ?_;rintro e w7 ⟨v7,rfl,hn7,hB7⟩;have hz7:=hB7.size;rw [show (w5.setCell ⟨w4.heap.size,2,none⟩ (.bool true)).heap.size=w5.heap.size by simp [World.setCell]] at hz7;have hC7:Below w.heap.size w w7:=(hC5.setCell (p:=⟨w4.heap.size,2,none⟩) hz4 (.bool true)).trans (hB7.mono (by simp [World.setCell];omega));have d2'':w7.heap[w.heap.size+1]?=some (.cells #[.string ByteArray.empty,.slice none 0 0,.bool false] 278):=by
                 rw [hB7.block _ (by simp [World.setCell];omega),put_far _ rfl (by show w.heap.size+1≠w4.heap.size;omega)];exact HD5.out.1
                have d4':w7.heap[w4.heap.size]?=some (.cells #[.string tx,.slice none 0 0,.bool true] 278):=by
                 rw [hB7.block _ (by simp [World.setCell];omega)];exact put_same (o:=2) (.bool true) HD5.out.2
                have e0:w7.cell? ⟨w.heap.size+1,0,none⟩=some (.string ByteArray.empty):=by rw [Lib.cell_of_heap d2''];rfl
                have e1:w7.cell? ⟨w.heap.size+1,1,none⟩=some (.slice none 0 0):=by rw [Lib.cell_of_heap d2''];rfl
                have e2:w7.cell? ⟨w.heap.size+1,2,none⟩=some (.bool false):=by rw [Lib.cell_of_heap d2''];rfl
                have f0:w7.frozen? ⟨w.heap.size+1,0,none⟩=false:=Lib.frozen_of_heap d2'' 0;have f1:w7.frozen? ⟨w.heap.size+1,1,none⟩=false:=Lib.frozen_of_heap d2'' 1;have f2:w7.frozen? ⟨w.heap.size+1,2,none⟩=false:=Lib.frozen_of_heap d2'' 2;have g0:w7.cell? ⟨w4.heap.size,0,none⟩=some (.string tx):=by rw [Lib.cell_of_heap d4'];rfl
                have g1:w7.cell? ⟨w4.heap.size,1,none⟩=some (.slice none 0 0):=by rw [Lib.cell_of_heap d4'];rfl
                have g2:w7.cell? ⟨w4.heap.size,2,none⟩=some (.bool true):=by rw [Lib.cell_of_heap d4'];rfl
                have gf1:w7.frozen? ⟨w4.heap.size,1,none⟩=false:=Lib.frozen_of_heap d4' 1;have hne1:¬w.heap.size+1=w4.heap.size:=by omega
                have hne2:¬w4.heap.size=w.heap.size+1:=by omega
                obtain ⟨a7,c7,rfl⟩:=hn7.form;clear hn7 hB7
                go_wp2
                go_region
                go_wp2
                refine bodyPost_ret (results_row_tmp rfl _ _ (w.heap.size+1) 278 _ (0,0) _ rfl (set3 _ _ _ ((put_far _ rfl (by show w.heap.size+1≠w4.heap.size;omega)).trans d2'') rfl) Tryz.underlying278 rfl Tryz.sizeRef) rfl ?_;refine ⟨⟨a7,(trimM ([]:List Vl)).length,c7,by rw [HF.out];rfl⟩,?_⟩;exact (below3 _ _ _ (hC7.setCell (p:=⟨w4.heap.size,1,none⟩) hz4 _) (Nat.le_succ _)).drew
               ·go_wp2_with fail
                refine (trim_any w.heap.size (.slice (some ⟨b6,o6+5,none⟩) q.length (c6 - 1)) q _ (by simp [World.setCell];omega) (HSUB.out true (c6 - 1) (by omega) _ (fun _=>by rw [Nat.one_mul])) (by omega)).mono ?_;rintro e w7 ⟨v7,rfl,hn7,hB7⟩;have hz7:=hB7.size;rw [show (w5.setCell ⟨w4.heap.size,2,none⟩ (.bool true)).heap.size=w5.heap.size by simp [World.setCell]] at hz7;have hC7:Below w.heap.size w w7:=(hC5.setCell (p:=⟨w4.heap.size,2,none⟩) hz4 (.bool true)).trans (hB7.mono (by simp [World.setCell];omega));have d2'':w7.heap[w.heap.size+1]?=some (.cells #[.string ByteArray.empty,.slice none 0 0,.bool false] 278):=by
                 rw [hB7.block _ (by simp [World.setCell];omega),put_far _ rfl (by show w.heap.size+1≠w4.heap.size;omega)];exact HD5.out.1
                have d4':w7.heap[w4.heap.size]?=some (.cells #[.string tx,.slice none 0 0,.bool true] 278):=by
                 rw [hB7.block _ (by simp [World.setCell];omega)];exact put_same (o:=2) (.bool true) HD5.out.2
                have e0:w7.cell? ⟨w.heap.size+1,0,none⟩=some (.string ByteArray.empty):=by rw [Lib.cell_of_heap d2''];rfl
                have e1:w7.cell? ⟨w.heap.size+1,1,none⟩=some (.slice none 0 0):=by rw [Lib.cell_of_heap d2''];rfl
                have e2:w7.cell? ⟨w.heap.size+1,2,none⟩=some (.bool false):=by rw [Lib.cell_of_heap d2''];rfl
                have f0:w7.frozen? ⟨w.heap.size+1,0,none⟩=false:=Lib.frozen_of_heap d2'' 0;have f1:w7.frozen? ⟨w.heap.size+1,1,none⟩=false:=Lib.frozen_of_heap d2'' 1;have f2:w7.frozen? ⟨w.heap.size+1,2,none⟩=false:=Lib.frozen_of_heap d2'' 2;have g0:w7.cell? ⟨w4.heap.size,0,none⟩=some (.string tx):=by rw [Lib.cell_of_heap d4'];rfl
                have g1:w7.cell? ⟨w4.heap.size,1,none⟩=some (.slice none 0 0):=by rw [Lib.cell_of_heap d4'];rfl
                have g2:w7.cell? ⟨w4.heap.size,2,none⟩=some (.bool true):=by rw [Lib.cell_of_heap d4'];rfl
                have gf1:w7.frozen? ⟨w4.heap.size,1,none⟩=false:=Lib.frozen_of_heap d4' 1;have hne1:¬w.heap.size+1=w4.heap.size:=by omega
                have hne2:¬w4.heap.size=w.heap.size+1:=by omega
                obtain ⟨a7,c7,rfl⟩:=hn7.form;clear hn7 hB7
                go_wp2
                go_region
                go_wp2
                refine bodyPost_ret (results_row_tmp rfl _ _ (w.heap.size+1) 278 _ (0,0) _ rfl (set3 _ _ _ ((put_far _ rfl (by show w.heap.size+1≠w4.heap.size;omega)).trans d2'') rfl) Tryz.underlying278 rfl Tryz.sizeRef) rfl ?_;refine ⟨⟨a7,(trimM q).length,c7,by rw [HF.out];rfl⟩,?_⟩;exact (below3 _ _ _ (hC7.setCell (p:=⟨w4.heap.size,1,none⟩) hz4 _) (Nat.le_succ _)).drew
              ·have hzn':(zn==0)=false:=by simpa using hzn
               have HF:Hid (f=⟨tx,trimM q,false,false⟩):=Lib.hid (by rw [HF2.out];simp [*]);clear HF2
               by_cases hc6:c6=1
               ·subst hc6
                obtain rfl:q=[]:=List.eq_nil_of_length_eq_zero (by omega)
                go_wp2_with fail
                refine (trim_any w.heap.size (.slice (some ⟨b6,o6,none⟩) 0 0) [] _ (by simp [World.setCell];omega) (HSUB.out false 0 (Nat.le_refl _) _ (fun h=>absurd h (Nat.lt_irrefl 0))) (by simp)).mono ?_;rintro e w7 ⟨v7,rfl,hn7,hB7⟩;have hz7:=hB7.size;rw [show (w5.setCell ⟨w4.heap.size,2,none⟩ (.bool false)).heap.size=w5.heap.size by simp [World.setCell]] at hz7;have hC7:Below w.heap.size w w7:=(hC5.setCell (p:=⟨w4.heap.size,2,none⟩) hz4 (.bool false)).trans (hB7.mono (by simp [World.setCell];omega));have d2'':w7.heap[w.heap.size+1]?=some (.cells #[.string ByteArray.empty,.slice none 0 0,.bool false] 278):=by
                 rw [hB7.block _ (by simp [World.setCell];omega),put_far _ rfl (by show w.heap.size+1≠w4.heap.size;omega)];exact HD5.out.1
                have d4':w7.heap[w4.heap.size]?=some (.cells #[.string tx,.slice none 0 0,.bool false] 278):=by
                 rw [hB7.block _ (by simp [World.setCell];omega)];exact put_same (o:=2) (.bool false) HD5.out.2
                have e0:w7.cell? ⟨w.heap.size+1,0,none⟩=some (.string ByteArray.empty):=by rw [Lib.cell_of_heap d2''];rfl
                have e1:w7.cell? ⟨w.heap.size+1,1,none⟩=some (.slice none 0 0):=by rw [Lib.cell_of_heap d2''];rfl
                have e2:w7.cell? ⟨w.heap.size+1,2,none⟩=some (.bool false):=by rw [Lib.cell_of_heap d2''];rfl
                have f0:w7.frozen? ⟨w.heap.size+1,0,none⟩=false:=Lib.frozen_of_heap d2'' 0;have f1:w7.frozen? ⟨w.heap.size+1,1,none⟩=false:=Lib.frozen_of_heap d2'' 1;have f2:w7.frozen? ⟨w.heap.size+1,2,none⟩=false:=Lib.frozen_of_heap d2'' 2;have g0:w7.cell? ⟨w4.heap.size,0,none⟩=some (.string tx):=by rw [Lib.cell_of_heap d4'];rfl
                have g1:w7.cell? ⟨w4.heap.size,1,none⟩=some (.slice none 0 0):=by rw [Lib.cell_of_heap d4'];rfl
                have g2:w7.cell? ⟨w4.heap.size,2,none⟩=some (.bool false):=by rw [Lib.cell_of_heap d4'];rfl
                have gf1:w7.frozen? ⟨w4.heap.size,1,none⟩=false:=Lib.frozen_of_heap d4' 1;have hne1:¬w.heap.size+1=w4.heap.size:=by omega
                have hne2:¬w4.heap.size=w.heap.size+1:=by omega
                obtain ⟨a7,c7,rfl⟩:=hn7.form;clear hn7 hB7
                go_wp2
                go_region
                go_wp2
                refine bodyPost_ret (results_row_tmp rfl _ _ (w.heap.size+1) 278 _ (0,0) _ rfl (set3 _ _ _ ((put_far _ rfl (by show w.heap.size+1≠w4.heap.size;omega)).trans d2'') rfl) Tryz.underlying278 rfl Tryz.sizeRef) rfl ?_;refine ⟨⟨a7,(trimM ([]:List Vl)).length,c7,by rw [HF.out];rfl⟩,?_⟩;exact (below3 _ _ _ (hC7.setCell (p:=⟨w4.heap.size,1,none⟩) hz4 _) (Nat.le_succ _)).drew
               ·go_wp2_with fail
                refine (trim_any w.heap.size (.slice (some ⟨b6,o6+5,none⟩) q.length (c6 - 1)) q _ (by simp [World.setCell];omega) (HSUB.out false (c6 - 1) (by omega) _ (fun _=>by rw [Nat.one_mul])) (by omega)).mono ?_;rintro e w7 ⟨v7,rfl,hn7,hB7⟩;have hz7:=hB7.size;rw [show (w5.setCell ⟨w4.heap.size,2,none⟩ (.bool false)).heap.size=w5.heap.size by simp [World.setCell]] at hz7;have hC7:Below w.heap.size w w7:=(hC5.setCell (p:=⟨w4.heap.size,2,none⟩) hz4 (.bool false)).trans (hB7.mono (by simp [World.setCell];omega));have d2'':w7.heap[w.heap.size+1]?=some (.cells #[.string ByteArray.empty,.slice none 0 0,.bool false] 278):=by
                 rw [hB7.block _ (by simp [World.setCell];omega),put_far _ rfl (by show w.heap.size+1≠w4.heap.size;omega)];exact HD5.out.1
                have d4':w7.heap[w4.heap.size]?=some (.cells #[.string tx,.slice none 0 0,.bool false] 278):=by
                 rw [hB7.block _ (by simp [World.setCell];omega)];exact put_same (o:=2) (.bool false) HD5.out.2
                have e0:w7.cell? ⟨w.heap.size+1,0,none⟩=some (.string ByteArray.empty):=by rw [Lib.cell_of_heap d2''];rfl
                have e1:w7.cell? ⟨w.heap.size+1,1,none⟩=some (.slice none 0 0):=by rw [Lib.cell_of_heap d2''];rfl
                have e2:w7.cell? ⟨w.heap.size+1,2,none⟩=some (.bool false):=by rw [Lib.cell_of_heap d2''];rfl
                have f0:w7.frozen? ⟨w.heap.size+1,0,none⟩=false:=Lib.frozen_of_heap d2'' 0;have f1:w7.frozen? ⟨w.heap.size+1,1,none⟩=false:=Lib.frozen_of_heap d2'' 1;have f2:w7.frozen? ⟨w.heap.size+1,2,none⟩=false:=Lib.frozen_of_heap d2'' 2;have g0:w7.cell? ⟨w4.heap.size,0,none⟩=some (.string tx):=by rw [Lib.cell_of_heap d4'];rfl
                have g1:w7.cell? ⟨w4.heap.size,1,none⟩=some (.slice none 0 0):=by rw [Lib.cell_of_heap d4'];rfl
                have g2:w7.cell? ⟨w4.heap.size,2,none⟩=some (.bool false):=by rw [Lib.cell_of_heap d4'];rfl
                have gf1:w7.frozen? ⟨w4.heap.size,1,none⟩=false:=Lib.frozen_of_heap d4' 1;have hne1:¬w.heap.size+1=w4.heap.size:=by omega
                have hne2:¬w4.heap.size=w.heap.size+1:=by omega
                obtain ⟨a7,c7,rfl⟩:=hn7.form;clear hn7 hB7
                go_wp2
                go_region
                go_wp2
                refine bodyPost_ret (results_row_tmp rfl _ _ (w.heap.size+1) 278 _ (0,0) _ rfl (set3 _ _ _ ((put_far _ rfl (by show w.heap.size+1≠w4.heap.size;omega)).trans d2'') rfl) Tryz.underlying278 rfl Tryz.sizeRef) rfl ?_;refine ⟨⟨a7,(trimM q).length,c7,by rw [HF.out];rfl⟩,?_⟩;exact (below3 _ _ _ (hC7.setCell (p:=⟨w4.heap.size,1,none⟩) hz4 _) (Nat.le_succ _)).drew
             ·have hzs':(zs.toList==[44])=false:=by simpa using hzs
              have HF:Hid (f=⟨tx,trimM q,false,false⟩):=Lib.hid (by rw [HF2.out];simp [*]);clear HF2
              by_cases hc6:c6=1
              ·subst hc6
               obtain rfl:q=[]:=List.eq_nil_of_length_eq_zero (by omega)
               go_wp2_with fail
               refine (trim_any w.heap.size (.slice (some ⟨b6,o6,none⟩) 0 0) [] _ (by simp [World.setCell];omega) (HSUB.out false 0 (Nat.le_refl _) _ (fun h=>absurd h (Nat.lt_irrefl 0))) (by simp)).mono ?_;rintro e w7 ⟨v7,rfl,hn7,hB7⟩;have hz7:=hB7.size;rw [show (w5.setCell ⟨w4.heap.size,2,none⟩ (.bool false)).heap.size=w5.heap.size by simp [World.setCell]] at hz7;have hC7:Below w.heap.size w w7:=(hC5.setCell (p:=⟨w4.heap.size,2,none⟩) hz4 (.bool false)).trans (hB7.mono (by simp [World.setCell];omega));have d2'':w7.heap[w.heap.size+1]?=some (.cells #[.string ByteArray.empty,.slice none 0 0,.bool false] 278):=by
                rw [hB7.block _ (by simp [World.setCell];omega),put_far _ rfl (by show w.heap.size+1≠w4.heap.size;omega)];exact HD5.out.1
               have d4':w7.heap[w4.heap.size]?=some (.cells #[.string tx,.slice none 0 0,.bool false] 278):=by
                rw [hB7.block _ (by simp [World.setCell];omega)];exact put_same (o:=2) (.bool false) HD5.out.2
               have e0:w7.cell? ⟨w.heap.size+1,0,none⟩=some (.string ByteArray.empty):=by rw [Lib.cell_of_heap d2''];rfl
               have e1:w7.cell? ⟨w.heap.size+1,1,none⟩=some (.slice none 0 0):=by rw [Lib.cell_of_heap d2''];rfl
               have e2:w7.cell? ⟨w.heap.size+1,2,none⟩=some (.bool false):=by rw [Lib.cell_of_heap d2''];rfl
               have f0:w7.frozen? ⟨w.heap.size+1,0,none⟩=false:=Lib.frozen_of_heap d2'' 0;have f1:w7.frozen? ⟨w.heap.size+1,1,none⟩=false:=Lib.frozen_of_heap d2'' 1;have f2:w7.frozen? ⟨w.heap.size+1,2,none⟩=false:=Lib.frozen_of_heap d2'' 2;have g0:w7.cell? ⟨w4.heap.size,0,none⟩=some (.string tx):=by rw [Lib.cell_of_heap d4'];rfl
               have g1:w7.cell? ⟨w4.heap.size,1,none⟩=some (.slice none 0 0):=by rw [Lib.cell_of_heap d4'];rfl
               have g2:w7.cell? ⟨w4.heap.size,2,none⟩=some (.bool false):=by rw [Lib.cell_of_heap d4'];rfl
               have gf1:w7.frozen? ⟨w4.heap.size,1,none⟩=false:=Lib.frozen_of_heap d4' 1;have hne1:¬w.heap.size+1=w4.heap.size:=by omega
               have hne2:¬w4.heap.size=w.heap.size+1:=by omega
               obtain ⟨a7,c7,rfl⟩:=hn7.form;clear hn7 hB7
               go_wp2
               go_region
               go_wp2
               refine bodyPost_ret (results_row_tmp rfl _ _ (w.heap.size+1) 278 _ (0,0) _ rfl (set3 _ _ _ ((put_far _ rfl (by show w.heap.size+1≠w4.heap.size;omega)).trans d2'') rfl) Tryz.underlying278 rfl Tryz.sizeRef) rfl ?_;refine ⟨⟨a7,(trimM ([]:List Vl)).length,c7,by rw [HF.out];rfl⟩,?_⟩;exact (below3 _ _ _ (hC7.setCell (p:=⟨w4.heap.size,1,none⟩) hz4 _) (Nat.le_succ _)).drew
              ·go_wp2_with fail
               refine (trim_any w.heap.size (.slice (some ⟨b6,o6+5,none⟩) q.length (c6 - 1)) q _ (by simp [World.setCell];omega) (HSUB.out false (c6 - 1) (by omega) _ (fun _=>by rw [Nat.one_mul])) (by omega)).mono ?_;rintro e w7 ⟨v7,rfl,hn7,hB7⟩;have hz7:=hB7.size;rw [show (w5.setCell ⟨w4.heap.size,2,none⟩ (.bool false)).heap.size=w5.heap.size by simp [World.setCell]] at hz7;have hC7:Below w.heap.size w w7:=(hC5.setCell (p:=⟨w4.heap.size,2,none⟩) hz4 (.bool false)).trans (hB7.mono (by simp [World.setCell];omega));have d2'':w7.heap[w.heap.size+1]?=some (.cells #[.string ByteArray.empty,.slice none 0 0,.bool false] 278):=by
                rw [hB7.block _ (by simp [World.setCell];omega),put_far _ rfl (by show w.heap.size+1≠w4.heap.size;omega)];exact HD5.out.1
               have d4':w7.heap[w4.heap.size]?=some (.cells #[.string tx,.slice none 0 0,.bool false] 278):=by
                rw [hB7.block _ (by simp [World.setCell];omega)];exact put_same (o:=2) (.bool false) HD5.out.2
               have e0:w7.cell? ⟨w.heap.size+1,0,none⟩=some (.string ByteArray.empty):=by rw [Lib.cell_of_heap d2''];rfl
               have e1:w7.cell? ⟨w.heap.size+1,1,none⟩=some (.slice none 0 0):=by rw [Lib.cell_of_heap d2''];rfl
               have e2:w7.cell? ⟨w.heap.size+1,2,none⟩=some (.bool false):=by rw [Lib.cell_of_heap d2''];rfl
               have f0:w7.frozen? ⟨w.heap.size+1,0,none⟩=false:=Lib.frozen_of_heap d2'' 0;have f1:w7.frozen? ⟨w.heap.size+1,1,none⟩=false:=Lib.frozen_of_heap d2'' 1;have f2:w7.frozen? ⟨w.heap.size+1,2,none⟩=false:=Lib.frozen_of_heap d2'' 2;have g0:w7.cell? ⟨w4.heap.size,0,none⟩=some (.string tx):=by rw [Lib.cell_of_heap d4'];rfl
               have g1:w7.cell? ⟨w4.heap.size,1,none⟩=some (.slice none 0 0):=by rw [Lib.cell_of_heap d4'];rfl
               have g2:w7.cell? ⟨w4.heap.size,2,none⟩=some (.bool false):=by rw [Lib.cell_of_heap d4'];rfl
               have gf1:w7.frozen? ⟨w4.heap.size,1,none⟩=false:=Lib.frozen_of_heap d4' 1;have hne1:¬w.heap.size+1=w4.heap.size:=by omega
               have hne2:¬w4.heap.size=w.heap.size+1:=by omega
               obtain ⟨a7,c7,rfl⟩:=hn7.form;clear hn7 hB7
               go_wp2
               go_region
               go_wp2
               refine bodyPost_ret (results_row_tmp rfl _ _ (w.heap.size+1) 278 _ (0,0) _ rfl (set3 _ _ _ ((put_far _ rfl (by show w.heap.size+1≠w4.heap.size;omega)).trans d2'') rfl) Tryz.underlying278 rfl Tryz.sizeRef) rfl ?_;refine ⟨⟨a7,(trimM q).length,c7,by rw [HF.out];rfl⟩,?_⟩;exact (below3 _ _ _ (hC7.setCell (p:=⟨w4.heap.size,1,none⟩) hz4 _) (Nat.le_succ _)).drew
            ·have hzt':(zt==7)=false:=by simpa using hzt
             have HF:Hid (f=⟨tx,trimM q,false,false⟩):=Lib.hid (by rw [HF2.out];simp [*]);clear HF2
             by_cases hc6:c6=1
             ·subst hc6
              obtain rfl:q=[]:=List.eq_nil_of_length_eq_zero (by omega)
              go_wp2_with fail
              refine (trim_any w.heap.size (.slice (some ⟨b6,o6,none⟩) 0 0) [] _ (by simp [World.setCell];omega) (HSUB.out false 0 (Nat.le_refl _) _ (fun h=>absurd h (Nat.lt_irrefl 0))) (by simp)).mono ?_;rintro e w7 ⟨v7,rfl,hn7,hB7⟩;have hz7:=hB7.size;rw [show (w5.setCell ⟨w4.heap.size,2,none⟩ (.bool false)).heap.size=w5.heap.size by simp [World.setCell]] at hz7;have hC7:Below w.heap.size w w7:=(hC5.setCell (p:=⟨w4.heap.size,2,none⟩) hz4 (.bool false)).trans (hB7.mono (by simp [World.setCell];omega));have d2'':w7.heap[w.heap.size+1]?=some (.cells #[.string ByteArray.empty,.slice none 0 0,.bool false] 278):=by
               rw [hB7.block _ (by simp [World.setCell];omega),put_far _ rfl (by show w.heap.size+1≠w4.heap.size;omega)];exact HD5.out.1
              have d4':w7.heap[w4.heap.size]?=some (.cells #[.string tx,.slice none 0 0,.bool false] 278):=by
               rw [hB7.block _ (by simp [World.setCell];omega)];exact put_same (o:=2) (.bool false) HD5.out.2
              have e0:w7.cell? ⟨w.heap.size+1,0,none⟩=some (.string ByteArray.empty):=by rw [Lib.cell_of_heap d2''];rfl
              have e1:w7.cell? ⟨w.heap.size+1,1,none⟩=some (.slice none 0 0):=by rw [Lib.cell_of_heap d2''];rfl
              have e2:w7.cell? ⟨w.heap.size+1,2,none⟩=some (.bool false):=by rw [Lib.cell_of_heap d2''];rfl
              have f0:w7.frozen? ⟨w.heap.size+1,0,none⟩=false:=Lib.frozen_of_heap d2'' 0;have f1:w7.frozen? ⟨w.heap.size+1,1,none⟩=false:=Lib.frozen_of_heap d2'' 1;have f2:w7.frozen? ⟨w.heap.size+1,2,none⟩=false:=Lib.frozen_of_heap d2'' 2;have g0:w7.cell? ⟨w4.heap.size,0,none⟩=some (.string tx):=by rw [Lib.cell_of_heap d4'];rfl
              have g1:w7.cell? ⟨w4.heap.size,1,none⟩=some (.slice none 0 0):=by rw [Lib.cell_of_heap d4'];rfl
              have g2:w7.cell? ⟨w4.heap.size,2,none⟩=some (.bool false):=by rw [Lib.cell_of_heap d4'];rfl
              have gf1:w7.frozen? ⟨w4.heap.size,1,none⟩=false:=Lib.frozen_of_heap d4' 1;have hne1:¬w.heap.size+1=w4.heap.size:=by omega
              have hne2:¬w4.heap.size=w.heap.size+1:=by omega
              obtain ⟨a7,c7,rfl⟩:=hn7.form;clear hn7 hB7
              go_wp2
              go_region
              go_wp2
              refine bodyPost_ret (results_row_tmp rfl _ _ (w.heap.size+1) 278 _ (0,0) _ rfl (set3 _ _ _ ((put_far _ rfl (by show w.heap.size+1≠w4.heap.size;omega)).trans d2'') rfl) Tryz.underlying278 rfl Tryz.sizeRef) rfl ?_;refine ⟨⟨a7,(trimM ([]:List Vl)).length,c7,by rw [HF.out];rfl⟩,?_⟩;exact (below3 _ _ _ (hC7.setCell (p:=⟨w4.heap.size,1,none⟩) hz4 _) (Nat.le_succ _)).drew
             ·go_wp2_with fail
              refine (trim_any w.heap.size (.slice (some ⟨b6,o6+5,none⟩) q.length (c6 - 1)) q _ (by simp [World.setCell];omega) (HSUB.out false (c6 - 1) (by omega) _ (fun _=>by rw [Nat.one_mul])) (by omega)).mono ?_;rintro e w7 ⟨v7,rfl,hn7,hB7⟩;have hz7:=hB7.size;rw [show (w5.setCell ⟨w4.heap.size,2,none⟩ (.bool false)).heap.size=w5.heap.size by simp [World.setCell]] at hz7;have hC7:Below w.heap.size w w7:=(hC5.setCell (p:=⟨w4.heap.size,2,none⟩) hz4 (.bool false)).trans (hB7.mono (by simp [World.setCell];omega));have d2'':w7.heap[w.heap.size+1]?=some (.cells #[.string ByteArray.empty,.slice none 0 0,.bool false] 278):=by
               rw [hB7.block _ (by simp [World.setCell];omega),put_far _ rfl (by show w.heap.size+1≠w4.heap.size;omega)];exact HD5.out.1
              have d4':w7.heap[w4.heap.size]?=some (.cells #[.string tx,.slice none 0 0,.bool false] 278):=by
               rw [hB7.block _ (by simp [World.setCell];omega)];exact put_same (o:=2) (.bool false) HD5.out.2
              have e0:w7.cell? ⟨w.heap.size+1,0,none⟩=some (.string ByteArray.empty):=by rw [Lib.cell_of_heap d2''];rfl
              have e1:w7.cell? ⟨w.heap.size+1,1,none⟩=some (.slice none 0 0):=by rw [Lib.cell_of_heap d2''];rfl
              have e2:w7.cell? ⟨w.heap.size+1,2,none⟩=some (.bool false):=by rw [Lib.cell_of_heap d2''];rfl
              have f0:w7.frozen? ⟨w.heap.size+1,0,none⟩=false:=Lib.frozen_of_heap d2'' 0;have f1:w7.frozen? ⟨w.heap.size+1,1,none⟩=false:=Lib.frozen_of_heap d2'' 1;have f2:w7.frozen? ⟨w.heap.size+1,2,none⟩=false:=Lib.frozen_of_heap d2'' 2;have g0:w7.cell? ⟨w4.heap.size,0,none⟩=some (.string tx):=by rw [Lib.cell_of_heap d4'];rfl
              have g1:w7.cell? ⟨w4.heap.size,1,none⟩=some (.slice none 0 0):=by rw [Lib.cell_of_heap d4'];rfl
              have g2:w7.cell? ⟨w4.heap.size,2,none⟩=some (.bool false):=by rw [Lib.cell_of_heap d4'];rfl
              have gf1:w7.frozen? ⟨w4.heap.size,1,none⟩=false:=Lib.frozen_of_heap d4' 1;have hne1:¬w.heap.size+1=w4.heap.size:=by omega
              have hne2:¬w4.heap.size=w.heap.size+1:=by omega
              obtain ⟨a7,c7,rfl⟩:=hn7.form;clear hn7 hB7
              go_wp2
              go_region
              go_wp2
              refine bodyPost_ret (results_row_tmp rfl _ _ (w.heap.size+1) 278 _ (0,0) _ rfl (set3 _ _ _ ((put_far _ rfl (by show w.heap.size+1≠w4.heap.size;omega)).trans d2'') rfl) Tryz.underlying278 rfl Tryz.sizeRef) rfl ?_;refine ⟨⟨a7,(trimM q).length,c7,by rw [HF.out];rfl⟩,?_⟩;exact (below3 _ _ _ (hC7.setCell (p:=⟨w4.heap.size,1,none⟩) hz4 _) (Nat.le_succ _)).drew
           ·have hzk':(zk==1)=false:=by simpa using hzk
            have HF:Hid (f=⟨tx,trimM q,false,false⟩):=Lib.hid (by rw [HF2.out];simp [*]);clear HF2
            by_cases hc6:c6=1
            ·subst hc6
             obtain rfl:q=[]:=List.eq_nil_of_length_eq_zero (by omega)
             go_wp2_with fail
             refine (trim_any w.heap.size (.slice (some ⟨b6,o6,none⟩) 0 0) [] _ (by simp [World.setCell];omega) (HSUB.out false 0 (Nat.le_refl _) _ (fun h=>absurd h (Nat.lt_irrefl 0))) (by simp)).mono ?_;rintro e w7 ⟨v7,rfl,hn7,hB7⟩;have hz7:=hB7.size;rw [show (w5.setCell ⟨w4.heap.size,2,none⟩ (.bool false)).heap.size=w5.heap.size by simp [World.setCell]] at hz7;have hC7:Below w.heap.size w w7:=(hC5.setCell (p:=⟨w4.heap.size,2,none⟩) hz4 (.bool false)).trans (hB7.mono (by simp [World.setCell];omega));have d2'':w7.heap[w.heap.size+1]?=some (.cells #[.string ByteArray.empty,.slice none 0 0,.bool false] 278):=by
              rw [hB7.block _ (by simp [World.setCell];omega),put_far _ rfl (by show w.heap.size+1≠w4.heap.size;omega)];exact HD5.out.1
             have d4':w7.heap[w4.heap.size]?=some (.cells #[.string tx,.slice none 0 0,.bool false] 278):=by
              rw [hB7.block _ (by simp [World.setCell];omega)];exact put_same (o:=2) (.bool false) HD5.out.2
             have e0:w7.cell? ⟨w.heap.size+1,0,none⟩=some (.string ByteArray.empty):=by rw [Lib.cell_of_heap d2''];rfl
             have e1:w7.cell? ⟨w.heap.size+1,1,none⟩=some (.slice none 0 0):=by rw [Lib.cell_of_heap d2''];rfl
             have e2:w7.cell? ⟨w.heap.size+1,2,none⟩=some (.bool false):=by rw [Lib.cell_of_heap d2''];rfl
             have f0:w7.frozen? ⟨w.heap.size+1,0,none⟩=false:=Lib.frozen_of_heap d2'' 0;have f1:w7.frozen? ⟨w.heap.size+1,1,none⟩=false:=Lib.frozen_of_heap d2'' 1;have f2:w7.frozen? ⟨w.heap.size+1,2,none⟩=false:=Lib.frozen_of_heap d2'' 2;have g0:w7.cell? ⟨w4.heap.size,0,none⟩=some (.string tx):=by rw [Lib.cell_of_heap d4'];rfl
             have g1:w7.cell? ⟨w4.heap.size,1,none⟩=some (.slice none 0 0):=by rw [Lib.cell_of_heap d4'];rfl
             have g2:w7.cell? ⟨w4.heap.size,2,none⟩=some (.bool false):=by rw [Lib.cell_of_heap d4'];rfl
             have gf1:w7.frozen? ⟨w4.heap.size,1,none⟩=false:=Lib.frozen_of_heap d4' 1;have hne1:¬w.heap.size+1=w4.heap.size:=by omega
             have hne2:¬w4.heap.size=w.heap.size+1:=by omega
             obtain ⟨a7,c7,rfl⟩:=hn7.form;clear hn7 hB7
             go_wp2
             go_region
             go_wp2
             refine bodyPost_ret (results_row_tmp rfl _ _ (w.heap.size+1) 278 _ (0,0) _ rfl (set3 _ _ _ ((put_far _ rfl (by show w.heap.size+1≠w4.heap.size;omega)).trans d2'') rfl) Tryz.underlying278 rfl Tryz.sizeRef) rfl ?_;refine ⟨⟨a7,(trimM ([]:List Vl)).length,c7,by rw [HF.out];rfl⟩,?_⟩;exact (below3 _ _ _ (hC7.setCell (p:=⟨w4.heap.size,1,none⟩) hz4 _) (Nat.le_succ _)).drew
            ·go_wp2_with fail
             refine (trim_any w.heap.size (.slice (some ⟨b6,o6+5,none⟩) q.length (c6 - 1)) q _ (by simp [World.setCell];omega) (HSUB.out false (c6 - 1) (by omega) _ (fun _=>by rw [Nat.one_mul])) (by omega)).mono ?_;rintro e w7 ⟨v7,rfl,hn7,hB7⟩;have hz7:=hB7.size;rw [show (w5.setCell ⟨w4.heap.size,2,none⟩ (.bool false)).heap.size=w5.heap.size by simp [World.setCell]] at hz7;have hC7:Below w.heap.size w w7:=(hC5.setCell (p:=⟨w4.heap.size,2,none⟩) hz4 (.bool false)).trans (hB7.mono (by simp [World.setCell];omega));have d2'':w7.heap[w.heap.size+1]?=some (.cells #[.string ByteArray.empty,.slice none 0 0,.bool false] 278):=by
              rw [hB7.block _ (by simp [World.setCell];omega),put_far _ rfl (by show w.heap.size+1≠w4.heap.size;omega)];exact HD5.out.1
             have d4':w7.heap[w4.heap.size]?=some (.cells #[.string tx,.slice none 0 0,.bool false] 278):=by
              rw [hB7.block _ (by simp [World.setCell];omega)];exact put_same (o:=2) (.bool false) HD5.out.2
             have e0:w7.cell? ⟨w.heap.size+1,0,none⟩=some (.string ByteArray.empty):=by rw [Lib.cell_of_heap d2''];rfl
             have e1:w7.cell? ⟨w.heap.size+1,1,none⟩=some (.slice none 0 0):=by rw [Lib.cell_of_heap d2''];rfl
             have e2:w7.cell? ⟨w.heap.size+1,2,none⟩=some (.bool false):=by rw [Lib.cell_of_heap d2''];rfl
             have f0:w7.frozen? ⟨w.heap.size+1,0,none⟩=false:=Lib.frozen_of_heap d2'' 0;have f1:w7.frozen? ⟨w.heap.size+1,1,none⟩=false:=Lib.frozen_of_heap d2'' 1;have f2:w7.frozen? ⟨w.heap.size+1,2,none⟩=false:=Lib.frozen_of_heap d2'' 2;have g0:w7.cell? ⟨w4.heap.size,0,none⟩=some (.string tx):=by rw [Lib.cell_of_heap d4'];rfl
             have g1:w7.cell? ⟨w4.heap.size,1,none⟩=some (.slice none 0 0):=by rw [Lib.cell_of_heap d4'];rfl
             have g2:w7.cell? ⟨w4.heap.size,2,none⟩=some (.bool false):=by rw [Lib.cell_of_heap d4'];rfl
             have gf1:w7.frozen? ⟨w4.heap.size,1,none⟩=false:=Lib.frozen_of_heap d4' 1;have hne1:¬w.heap.size+1=w4.heap.size:=by omega
             have hne2:¬w4.heap.size=w.heap.size+1:=by omega
             obtain ⟨a7,c7,rfl⟩:=hn7.form;clear hn7 hB7
             go_wp2
             go_region
             go_wp2
             refine bodyPost_ret (results_row_tmp rfl _ _ (w.heap.size+1) 278 _ (0,0) _ rfl (set3 _ _ _ ((put_far _ rfl (by show w.heap.size+1≠w4.heap.size;omega)).trans d2'') rfl) Tryz.underlying278 rfl Tryz.sizeRef) rfl ?_;refine ⟨⟨a7,(trimM q).length,c7,by rw [HF.out];rfl⟩,?_⟩;exact (below3 _ _ _ (hC7.setCell (p:=⟨w4.heap.size,1,none⟩) hz4 _) (Nat.le_succ _)).drew
     ·have HF:Hid (f=⟨ByteArray.empty,[],false,false⟩):=Lib.hid (by rw [HY.out,if_neg (fun h=>ht h.2.1)])
      clear HY HSUB
      go_wp2
      refine bodyPost_ret (results_row_tmp rfl _ _ (w.heap.size+1) 278 _ (0,0) _ rfl (set3 _ _ _ d2 rfl) Tryz.underlying278 rfl Tryz.sizeRef) rfl ?_;refine ⟨⟨none,0,0,by rw [HF.out];rfl⟩,below3 _ _ _ hC3 (Nat.le_succ _)⟩
    ·have HF:Hid (f=⟨ByteArray.empty,[],false,false⟩):=Lib.hid (by rw [HY.out,if_neg (fun h=>hk h.1)])
     clear HY HSUB
     go_wp2
     refine bodyPost_ret (results_row_tmp rfl _ _ (w.heap.size+1) 278 _ (0,0) _ rfl (set3 _ _ _ d2 rfl) Tryz.underlying278 rfl Tryz.sizeRef) rfl ?_;refine ⟨⟨none,0,0,by rw [HF.out];rfl⟩,below3 _ _ _ hC3 (Nat.le_succ _)⟩
end Go.Proofs.YtlnaihkombcbcaaGreat
namespace Go.Proofs
open Go.Shelf
def Tryz.lays137_ren:Go.Shelf.Ren:=⟨fun | 137=>323 | 217=>352 | 266=>364 | n=>n,fun | 9=>9 | 5=>5 | 3=>3 | n=>n,fun | n=>n⟩
def Tryz.lays217_ren:Go.Shelf.Ren:=⟨fun | 217=>352 | 266=>364 | n=>n,fun | 9=>9 | 5=>5 | 3=>3 | n=>n,fun | n=>n⟩
theorem Tryz.lays217 : Go.Proofs.Lays.n217 Tryz.prog Tryz.lays217_ren := {
 mixed:=by kernel_rfl
 f217:=Tryz.func352.trans (congrArg some (by kernel_rfl))
 f266:=Tryz.func364.trans (congrArg some (by kernel_rfl))
 t3:=Tryz.underlying3
 a3:=Tryz.isAgg3
 z3:=Tryz.sizeOf3
 v3:=Tryz.zeroValue3
 t5:=Tryz.underlying5
 a5:=Tryz.isAgg5
 z5:=Tryz.sizeOf5
 v5:=Tryz.zeroValue5
 t9:=Tryz.underlying9
 a9:=Tryz.isAgg9
 z9:=Tryz.sizeOf9
 v9:=Tryz.zeroValue9 }
open Go.RowKit Go.Lib in
theorem Tryz.stringslite_IndexByte (s:ByteArray) (c:Int) (w:World) :
 Calls Tryz.prog 352 #[.string s,.int .u8 c] w fun e w'=>e=.returned (.int .i64 (Lib.indexByte s.data.toList c.toNat.toUInt8))∧w'=w:=Any.stringslite_IndexByte Tryz.lays217 s c w
def Tryz.lays190_ren:Go.Shelf.Ren:=⟨fun | 190=>174 | 125=>126 | 258=>231 | 128=>196 | 129=>197 | 302=>287 | 303=>288 | 304=>289 | 305=>290 | 306=>291 | 307=>292 | 308=>267 | 309=>293 | 310=>294 | 333=>327 | 329=>249 | 330=>250 | 334=>328 | 335=>329 | 336=>127 | 344=>353 | n=>n,fun | 31=>25 | 9=>9 | 3=>3 | 46=>197 | 0=>0 | 51=>275 | 53=>153 | 4=>4 | 183=>268 | 182=>267 | 131=>272 | 5=>5 | 218=>327 | 222=>331 | 228=>371 | 229=>372 | n=>n,fun | n=>n⟩
theorem Tryz.lays190 : Go.Proofs.Lays.n190 Tryz.prog Tryz.lays190_ren := {
 mixed:=by kernel_rfl
 f125:=Tryz.func126.trans (congrArg some (by kernel_rfl))
 f128:=Tryz.func196.trans (congrArg some (by kernel_rfl))
 f129:=Tryz.func197.trans (congrArg some (by kernel_rfl))
 f190:=Tryz.func174.trans (congrArg some (by kernel_rfl))
 f258:=Tryz.func231.trans (congrArg some (by kernel_rfl))
 f302:=Tryz.func287.trans (congrArg some (by kernel_rfl))
 f303:=Tryz.func288.trans (congrArg some (by kernel_rfl))
 f304:=Tryz.func289.trans (congrArg some (by kernel_rfl))
 f305:=Tryz.func290.trans (congrArg some (by kernel_rfl))
 f306:=Tryz.func291.trans (congrArg some (by kernel_rfl))
 f307:=Tryz.func292.trans (congrArg some (by kernel_rfl))
 f308:=Tryz.func267.trans (congrArg some (by kernel_rfl))
 f309:=Tryz.func293.trans (congrArg some (by kernel_rfl))
 f310:=Tryz.func294.trans (congrArg some (by kernel_rfl))
 f329:=Tryz.func249.trans (congrArg some (by kernel_rfl))
 f330:=Tryz.func250.trans (congrArg some (by kernel_rfl))
 f333:=Tryz.func327.trans (congrArg some (by kernel_rfl))
 f334:=Tryz.func328.trans (congrArg some (by kernel_rfl))
 f335:=Tryz.func329.trans (congrArg some (by kernel_rfl))
 f336:=Tryz.func127.trans (congrArg some (by kernel_rfl))
 f344:=Tryz.func353.trans (congrArg some (by kernel_rfl))
 t0:=Tryz.underlying0
 a0:=Tryz.isAgg0
 z0:=Tryz.sizeOf0
 v0:=Tryz.zeroValue0
 t3:=Tryz.underlying3
 a3:=Tryz.isAgg3
 z3:=Tryz.sizeOf3
 v3:=Tryz.zeroValue3
 t4:=Tryz.underlying4
 a4:=Tryz.isAgg4
 z4:=Tryz.sizeOf4
 v4:=Tryz.zeroValue4
 t5:=Tryz.underlying5
 a5:=Tryz.isAgg5
 z5:=Tryz.sizeOf5
 v5:=Tryz.zeroValue5
 t9:=Tryz.underlying9
 a9:=Tryz.isAgg9
 z9:=Tryz.sizeOf9
 v9:=Tryz.zeroValue9
 t31:=Tryz.underlying25
 a31:=Tryz.isAgg25
 z31:=Tryz.sizeOf25
 v31:=Tryz.zeroValue25
 t46:=Tryz.underlying197
 a46:=Tryz.isAgg197
 z46:=Tryz.sizeOf197
 v46:=Tryz.zeroValue197
 t51:=Tryz.underlying275
 a51:=Tryz.isAgg275
 z51:=Tryz.sizeOf275
 v51:=Tryz.zeroValue275
 t53:=Tryz.underlying153
 a53:=Tryz.isAgg153
 z53:=Tryz.sizeOf153
 v53:=Tryz.zeroValue153
 t131:=Tryz.underlying272
 a131:=Tryz.isAgg272
 z131:=Tryz.sizeOf272
 v131:=Tryz.zeroValue272
 t182:=Tryz.underlying267
 a182:=Tryz.isAgg267
 z182:=Tryz.sizeOf267
 v182:=Tryz.zeroValue267
 t183:=Tryz.underlying268
 a183:=Tryz.isAgg268
 z183:=Tryz.sizeOf268
 v183:=Tryz.zeroValue268
 t218:=Tryz.underlying327
 a218:=Tryz.isAgg327
 z218:=Tryz.sizeOf327
 v218:=Tryz.zeroValue327
 t222:=Tryz.underlying331
 a222:=Tryz.isAgg331
 z222:=Tryz.sizeOf331
 v222:=Tryz.zeroValue331
 t228:=Tryz.underlying371
 a228:=Tryz.isAgg371
 z228:=Tryz.sizeOf371
 v228:=Tryz.zeroValue371
 t229:=Tryz.underlying372
 a229:=Tryz.isAgg372
 z229:=Tryz.sizeOf372
 v229:=Tryz.zeroValue372 }
open Go.Sort Go.RowKit in
theorem Tryz.slices_Sort_string (blk off cap:Nat) (ss:List (List UInt8)) (w:World) (hH:Holds encStr w blk off ss.toArray) (hblk:blk<w.heap.size) (hsz:ss.length<4611686018427387904) :
 Calls Tryz.prog 174 #[.slice (some ⟨blk,off,none⟩) ss.length cap] w fun e w' =>
  e=.returned (.tuple #[])∧∃ n os,w'=grow (putRow encStr (Sort.ahead w n) blk off (ss.mergeSort fun x y=>decide (x≤y)).toArray) os:=Any.slices_Sort_string Tryz.lays190 blk off cap ss w hH hblk hsz
def Tryz.lays110_ren:Go.Shelf.Ren:=⟨fun | 110=>115 | 109=>184 | n=>n,fun | 31=>25 | 9=>9 | 4=>4 | 3=>3 | 0=>0 | n=>n,fun | n=>n⟩
theorem Tryz.lays110 : Go.Proofs.Lays.n110 Tryz.prog Tryz.lays110_ren := {
 mixed:=by kernel_rfl
 f109:=Tryz.func184.trans (congrArg some (by kernel_rfl))
 f110:=Tryz.func115.trans (congrArg some (by kernel_rfl))
 t0:=Tryz.underlying0
 a0:=Tryz.isAgg0
 z0:=Tryz.sizeOf0
 v0:=Tryz.zeroValue0
 t3:=Tryz.underlying3
 a3:=Tryz.isAgg3
 z3:=Tryz.sizeOf3
 v3:=Tryz.zeroValue3
 t4:=Tryz.underlying4
 a4:=Tryz.isAgg4
 z4:=Tryz.sizeOf4
 v4:=Tryz.zeroValue4
 t9:=Tryz.underlying9
 a9:=Tryz.isAgg9
 z9:=Tryz.sizeOf9
 v9:=Tryz.zeroValue9
 t31:=Tryz.underlying25
 a31:=Tryz.isAgg25
 z31:=Tryz.sizeOf25
 v31:=Tryz.zeroValue25 }
open Go.Lib in
theorem Tryz.slices_Contains_string (b off n c:Nat) (zs:List ByteArray) (x:ByteArray) (w:World) (hz:n≤zs.length) (hbig:n≤9223372036854775807) (hc:∀ j,j<zs.length→w.cell? ⟨b,off+j,none⟩=some (.string (zs.getD j ByteArray.empty))) :
 Calls Tryz.prog 115 #[.slice (some ⟨b,off,none⟩) n c,.string x] w fun e w'=>e=.returned (.bool (Lib.containsS (zs.take n) x))∧w'=w:=Any.slices_Contains_string Tryz.lays110 b off n c zs x w hz hbig hc
open Go.Lib in
theorem Tryz.slices_Contains_string_empty (a:Option Addr) (c:Nat) (x:ByteArray) (w:World) :
 Calls Tryz.prog 115 #[.slice a 0 c,.string x] w fun e w'=>e=.returned (.bool false)∧w'=w:=Any.slices_Contains_string_empty Tryz.lays110 a c x w
def Tryz.lays193_ren:Go.Shelf.Ren:=⟨fun | 193=>84 | n=>n,fun | 31=>25 | 9=>9 | 4=>4 | 3=>3 | 0=>0 | n=>n,fun | n=>n⟩
theorem Tryz.lays193 : Go.Proofs.Lays.n193 Tryz.prog Tryz.lays193_ren := {
 mixed:=by kernel_rfl
 f193:=Tryz.func84.trans (congrArg some (by kernel_rfl))
 t0:=Tryz.underlying0
 a0:=Tryz.isAgg0
 z0:=Tryz.sizeOf0
 v0:=Tryz.zeroValue0
 t3:=Tryz.underlying3
 a3:=Tryz.isAgg3
 z3:=Tryz.sizeOf3
 v3:=Tryz.zeroValue3
 t4:=Tryz.underlying4
 a4:=Tryz.isAgg4
 z4:=Tryz.sizeOf4
 v4:=Tryz.zeroValue4
 t9:=Tryz.underlying9
 a9:=Tryz.isAgg9
 z9:=Tryz.sizeOf9
 v9:=Tryz.zeroValue9
 t31:=Tryz.underlying25
 a31:=Tryz.isAgg25
 z31:=Tryz.sizeOf25
 v31:=Tryz.zeroValue25 }
open Go.RowKit Go.Lib in
theorem Tryz.slices_Equal_string (b1 o1 n c b2 o2 m d:Nat) (xs ys:List ByteArray) (w:World) (hx:n≤xs.length) (hy:m≤ys.length) (hbig:n≤9223372036854775807) (hbig2:m≤9223372036854775807) (hc1:∀ j,j<xs.length→w.cell? ⟨b1,o1+j,none⟩=some (.string (xs.getD j ByteArray.empty))) (hc2:∀ j,j<ys.length→w.cell? ⟨b2,o2+j,none⟩=some (.string (ys.getD j ByteArray.empty))) :
 Calls Tryz.prog 84 #[.slice (some ⟨b1,o1,none⟩) n c,.slice (some ⟨b2,o2,none⟩) m d] w fun e w'=>e=.returned (.bool (decide (xs.take n=ys.take m)))∧∃ q,w'=w.drewN q:=Any.slices_Equal_string Tryz.lays193 b1 o1 n c b2 o2 m d xs ys w hx hy hbig hbig2 hc1 hc2
open Go.RowKit Go.Lib in
theorem Tryz.slices_Equal_string_empty (a1 a2:Option Addr) (c m d:Nat) (w:World) (hbig2:m≤9223372036854775807) :
 Calls Tryz.prog 84 #[.slice a1 0 c,.slice a2 m d] w fun e w'=>e=.returned (.bool (decide (m=0)))∧w'=w:=Any.slices_Equal_string_empty Tryz.lays193 a1 a2 c m d w hbig2
def Tryz.lays194_ren:Go.Shelf.Ren:=⟨fun | 194=>154 | n=>n,fun | 31=>25 | 9=>9 | 3=>3 | 4=>4 | 0=>0 | n=>n,fun | n=>n⟩
theorem Tryz.lays194 : Go.Proofs.Lays.n194 Tryz.prog Tryz.lays194_ren := {
 mixed:=by kernel_rfl
 f194:=Tryz.func154.trans (congrArg some (by kernel_rfl))
 t0:=Tryz.underlying0
 a0:=Tryz.isAgg0
 z0:=Tryz.sizeOf0
 v0:=Tryz.zeroValue0
 t3:=Tryz.underlying3
 a3:=Tryz.isAgg3
 z3:=Tryz.sizeOf3
 v3:=Tryz.zeroValue3
 t4:=Tryz.underlying4
 a4:=Tryz.isAgg4
 z4:=Tryz.sizeOf4
 v4:=Tryz.zeroValue4
 t9:=Tryz.underlying9
 a9:=Tryz.isAgg9
 z9:=Tryz.sizeOf9
 v9:=Tryz.zeroValue9
 t31:=Tryz.underlying25
 a31:=Tryz.isAgg25
 z31:=Tryz.sizeOf25
 v31:=Tryz.zeroValue25 }
open Go.RowKit Go.Lib Go.Sort in
theorem Tryz.slices_Compact_string (blk off cap:Nat) (zs:List (List UInt8)) (w:World) (hH:Holds encStr w blk off zs.toArray) (hsz:zs.length≤9223372036854775807) (hcap:zs.length≤cap) :
 Calls Tryz.prog 154 #[.slice (some ⟨blk,off,none⟩) zs.length cap] w fun e w'=>e=.returned (.slice (some ⟨blk,off,none⟩) (Lib.compact zs).length cap)∧∃ q,w'=putRow encStr (Sort.ahead w q) blk off (Lib.compact zs++List.replicate (zs.length - (Lib.compact zs).length) []).toArray:=Any.slices_Compact_string Tryz.lays194 blk off cap zs w hH hsz hcap
open Go.RowKit Go.Lib Go.Sort in
theorem Tryz.slices_Compact_string_empty (a:Option Addr) (cap:Nat) (w:World) :
 Calls Tryz.prog 154 #[.slice a 0 cap] w fun e w'=>e=.returned (.slice a 0 cap)∧w'=w:=Any.slices_Compact_string_empty Tryz.lays194 a cap w
open Go.RowKit Go.Sort in
theorem Tryz.slices_Sort_string_none (p:Option Addr) (cap:Nat) (w:World) :
 Calls Tryz.prog 174 #[.slice p 0 cap] w fun e w'=>e=.returned (.tuple #[])∧w'=w:=Any.slices_Sort_string_none Tryz.lays190 p cap w
end Go.Proofs
end
