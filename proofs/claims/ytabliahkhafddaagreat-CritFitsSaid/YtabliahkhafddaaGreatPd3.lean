/- A range over a function whose iterator writes one cell of its own between two rounds; all its values come. -/
import Derived.Test.YtabliahkhafddaaGreatPd2
import Derived.Test.YtabliahkhafddaaGreatPc3
import Derived.Shelf.Spec.SearchS
import Derived.Test.YtabliahkhafddaaGreatPd0
import Derived.Test.YtabliahkhafddaaGreatPc4
import Derived.Test.YtabliahkhafddaaGreatPc9
import Derived.Test.YtabliahkhafddaaGreatProg
import Derived.KernelRfl
set_option linter.unusedSimpArgs false
noncomputable section
namespace Go.Proofs.YtabliahkhafddaaGreat
open Go.RowKit Go.Ev Go.Sort
def lays2_ren:Go.Shelf.Ren:=⟨fun | 17=>355 | 22=>246 | 29=>295 | 30=>296 | 36=>332 | 26=>245 | 33=>293 | 34=>294 | 38=>331 | n=>n,fun | 24=>46 | 40=>162 | 0=>0 | 3=>3 | 4=>4 | 9=>9 | n=>n,fun n=>n⟩
theorem lays22 : Go.Proofs.Lays2.n22 Tryz.prog lays2_ren := {
 mixed:=by kernel_rfl
 f17:=Tryz.func355.trans (congrArg some (by kernel_rfl))
 f22:=Tryz.func246.trans (congrArg some (by kernel_rfl))
 f29:=Tryz.func295.trans (congrArg some (by kernel_rfl))
 f30:=Tryz.func296.trans (congrArg some (by kernel_rfl))
 f36:=Tryz.func332.trans (congrArg some (by kernel_rfl))
 t0:=Tryz.underlying0
 a0:=Tryz.isAgg0
 z0:=Tryz.sizeOf0
 v0:=Tryz.zeroValue0
 t3:=Tryz.underlying3
 a3:=Tryz.isAgg3
 z3:=Tryz.sizeOf3
 v3:=Tryz.zeroValue3
 t4:=Tryz.underlying4
 a4:=Tryz.isAgg4
 z4:=Tryz.sizeOf4
 v4:=Tryz.zeroValue4
 t9:=Tryz.underlying9
 a9:=Tryz.isAgg9
 z9:=Tryz.sizeOf9
 v9:=Tryz.zeroValue9
 t24:=Tryz.underlying46
 a24:=Tryz.isAgg46
 z24:=Tryz.sizeOf46
 v24:=Tryz.zeroValue46
 i9:=by kernel_rfl }
theorem lays26 : Go.Proofs.Lays2.n26 Tryz.prog lays2_ren := {
 mixed:=by kernel_rfl
 f26:=Tryz.func245.trans (congrArg some (by kernel_rfl))
 f33:=Tryz.func293.trans (congrArg some (by kernel_rfl))
 f34:=Tryz.func294.trans (congrArg some (by kernel_rfl))
 f38:=Tryz.func331.trans (congrArg some (by kernel_rfl))
 t0:=Tryz.underlying0
 a0:=Tryz.isAgg0
 z0:=Tryz.sizeOf0
 v0:=Tryz.zeroValue0
 t3:=Tryz.underlying3
 a3:=Tryz.isAgg3
 z3:=Tryz.sizeOf3
 v3:=Tryz.zeroValue3
 t4:=Tryz.underlying4
 a4:=Tryz.isAgg4
 z4:=Tryz.sizeOf4
 v4:=Tryz.zeroValue4
 t9:=Tryz.underlying9
 a9:=Tryz.isAgg9
 z9:=Tryz.sizeOf9
 v9:=Tryz.zeroValue9
 t24:=Tryz.underlying46
 a24:=Tryz.isAgg46
 z24:=Tryz.sizeOf46
 v24:=Tryz.zeroValue46
 t40:=Tryz.underlying162
 a40:=Tryz.isAgg162
 z40:=Tryz.sizeOf162
 v40:=Tryz.zeroValue162 }
def posM (ss:List Str) (x:Str):Nat:=Lib.bsGo (fun t=>Op.bytesLess (ss.getD t []) x) ss.length 0 ss.length
def hasM (ss:List Str) (x:Str):Bool:=decide (posM ss x<ss.length∧ss.getD (posM ss x) []=x)
def putM (ss:List Str) (x:Str):List Str:=if hasM ss x=true then ss else ss.take (posM ss x)++[x]++ss.drop (posM ss x)
def addM (ss xs:List Str):List Str:=xs.foldl putM ss
theorem bsGo_le (less:Nat→Bool):∀ (f lo hi:Nat),lo≤hi→Lib.bsGo less f lo hi≤hi
 | 0,lo,hi,h=>by simpa [Lib.bsGo] using h
 | f+1,lo,hi,h=>by
   unfold Lib.bsGo
   by_cases hl:lo<hi
   ·rw [if_pos hl]
    by_cases hm:less ((lo+hi) / 2)=true
    ·rw [if_pos hm];exact bsGo_le less f _ _ (by omega)
    ·rw [if_neg hm];exact Nat.le_trans (bsGo_le less f _ _ (by omega)) (by omega)
   ·rw [if_neg hl];exact h
theorem posM_le (ss:List Str) (x:Str):posM ss x≤ss.length:=bsGo_le _ _ _ _ (Nat.zero_le _)
theorem putM_len (ss:List Str) (x:Str):(putM ss x).length=if hasM ss x=true then ss.length else ss.length+1:=by
 have:=posM_le ss x;unfold putM
 split <;> simp;omega
theorem addM_snoc (ss xs:List Str) (x:Str):addM ss (xs++[x])=putM (addM ss xs) x:=by rw [addM,List.foldl_append];rfl
theorem addM_len (ss:List Str):∀ xs:List Str,ss.length≤(addM ss xs).length∧(addM ss xs).length≤ss.length+xs.length:=by
 intro xs
 induction xs generalizing ss with
 | nil=>exact ⟨Nat.le_refl _,by simp [addM]⟩
 | cons x xs ih =>
   have h1:=ih (putM ss x);have h2:=putM_len ss x;have h3:addM ss (x::xs)=addM (putM ss x) xs:=rfl;rw [h3];simp only [List.length_cons]
   split at h2 <;> omega
def RowP (w:World) (v:Value) (ss:List Str):Prop :=
 (v=.slice none 0 0∧ss=[])∨∃ b o cap c e fr,v=.slice (some ⟨b,o,none⟩) ss.length cap∧0<ss.length∧ss.length≤cap∧cap≤9223372036854775807∧w.heap[b]?=some (Obj.cells c e fr)∧NoFr c fr∧o+cap≤c.size∧∀ j,j<ss.length→c[o+j]?=(ss.map encStr)[j]?
theorem RowP.keep {w w':World} {v:Value} {ss:List Str} (h:RowP w v ss) (hk:∀ b,v.ownBlock=some b→w'.heap[b]?=w.heap[b]?):RowP w' v ss:=by
 rcases h with h | ⟨b,o,cap,c,e,fr,rfl,h1,h2,h3,h4,h5⟩
 ·exact .inl h
 ·exact .inr ⟨b,o,cap,c,e,fr,rfl,h1,h2,h3,(hk b rfl).trans h4,h5⟩
structure SameW (w w':World):Prop where
 heap:w'.heap=w.heap
 os:w'.os=w.os
 tape:w'.tape=w.tape
 output:w'.output=w.output
theorem search_any {w:World} {v:Value} {ss:List Str} (h:RowP w v ss) (x:ByteArray) (hl:ss.length≤1000000) :
 Calls Tryz.prog 245 #[v,.string x] w fun e w'=>e=.returned (.tuple #[.int .i64 (posM ss (sOf x):Nat),.bool (hasM ss (sOf x))])∧SameW w w':=by
 rcases h with ⟨rfl,rfl⟩ | ⟨b,o,cap,c,e,fr,rfl,h1,h2,h3,h4,h5,h6,h7⟩
 ·refine (Any2.slices_BinarySearch_string_empty lays26 none 0 x w).mono ?_
  rintro e w' ⟨rfl,rfl⟩;exact ⟨rfl,rfl,rfl,rfl,rfl⟩
 ·refine (Any2.slices_BinarySearch_string lays26 b o ss.length cap (fun t=>bs (ss.getD t [])) x w (by omega) (fun j hj=>?_)).mono ?_
  ·rw [cell_of h4,h7 j hj]
   simp [hj]
   rfl
  ·rintro e w' ⟨rfl,q,rfl⟩
   refine ⟨?_,rfl,rfl,rfl,rfl⟩;have hx:x.toList=sOf x:=ByteArray.toList_eq _;have hp:Lib.bsGo (fun t=>Op.bytesLess (bs (ss.getD t [])).toList x.toList) ss.length 0 ss.length=posM ss (sOf x):=by
    rw [posM,hx]
    congr 1
    funext t
    rw [bs_toList]
   rw [hp];have hb:∀ y:Str,(bs y=x)↔(y=sOf x):=fun y=>⟨fun h=>by rw [←h];rfl,fun h=>by rw [h];rfl⟩;simp only [hb]
   rfl
structure AddFr (w w':World) (Bs so:Nat) (v0 v':Value):Prop where
 os:w'.os=w.os
 tape:w'.tape=w.tape
 output:w'.output=w.output
 size:w.heap.size≤w'.heap.size
 box:∀ c e fr,w.heap[Bs]?=some (Obj.cells c e fr)→w'.heap[Bs]?=some (Obj.cells (c.setIfInBounds so v') e fr)
 row:∀ b,v0.ownBlock=some b→∀ c e fr,w.heap[b]?=some (Obj.cells c e fr)→∃ c':Array Value,w'.heap[b]?=some (Obj.cells c' e fr)∧c'.size=c.size
 other:∀ k,k<w.heap.size→k≠Bs→v0.ownBlock≠some k→w'.heap[k]?=w.heap[k]?
 own:v'.ownBlock=v0.ownBlock∨∃ b,v'.ownBlock=some b∧w.heap.size≤b
theorem AddFr.refl {w:World} {Bs os:Nat} {v0:Value} (h:w.cell? ⟨Bs,os,none⟩=some v0):AddFr w w Bs os v0 v0 :=
 ⟨rfl,rfl,rfl,Nat.le_refl _,fun c e fr hc=>by
   rw [hc];rw [cell_of hc] at h
   congr 2
   apply Array.ext_getElem?;intro i;rw [Array.getElem?_setIfInBounds]
   split
   ·rename_i e
    subst e
    split
    ·exact h
    ·rename_i hn;rw [Array.getElem?_eq_none (by omega)]
   ·rfl,fun b _ c e fr hc=>⟨c,hc,rfl⟩,fun _ _ _ _=>rfl,.inl rfl⟩
theorem AddFr.trans {w w1 w2:World} {Bs os:Nat} {v0 v1 v2:Value} (h:AddFr w w1 Bs os v0 v1) (k:AddFr w1 w2 Bs os v1 v2) (h0:v0.ownBlock≠some Bs):AddFr w w2 Bs os v0 v2:=by
 have hne:∀ i,i<w.heap.size→v0.ownBlock≠some i→v1.ownBlock≠some i:=fun i hi hn e=>by
  rcases h.own with h1 | ⟨b,h1,h2⟩
  ·exact hn (by rw [←h1];exact e)
  ·rw [h1] at e;cases e;omega
 refine ⟨k.os.trans h.os,k.tape.trans h.tape,k.output.trans h.output,Nat.le_trans h.size k.size,fun c e fr hc=>?_,fun b hb c e fr hc=>?_,fun i hi hn hb=>?_,?_⟩
 ·have:=k.box _ _ _ (h.box _ _ _ hc)
  rw [this]
  congr 2
  apply Array.ext_getElem?;intro i;simp only [Array.getElem?_setIfInBounds,Array.size_setIfInBounds]
  by_cases hi:os=i
  ·subst hi;simp
  ·simp [hi]
 ·obtain ⟨c1,h1,h2⟩:=h.row b hb c e fr hc
  have hbl:=(Array.getElem?_eq_some_iff.1 hc).1;rcases h.own with h3 | ⟨b',h3,h4⟩
  ·obtain ⟨c2,h5,h6⟩:=k.row b (h3.trans hb) c1 e fr h1
   exact ⟨c2,h5,h6.trans h2⟩
  ·refine ⟨c1,(k.other b (Nat.lt_of_lt_of_le hbl h.size) (fun e=>h0 (by rw [←e];exact hb)) (fun e=>?_)).trans h1,h2⟩
   rw [h3] at e;cases e;omega
 ·exact (k.other i (Nat.lt_of_lt_of_le hi h.size) hn (hne i hi hb)).trans (h.other i hi hn hb)
 ·rcases k.own with h1 | ⟨b,h1,h2⟩
  ·rcases h.own with h3 | ⟨b',h3,h4⟩
   ·exact .inl (h1.trans h3)
   ·exact .inr ⟨b',h1.trans h3,h4⟩
  ·exact .inr ⟨b,h1,Nat.le_trans h.size h2⟩
theorem enc_one (l:List Str):∀ v∈l.map encStr,v.oneCell'=true:=by
 intro v hv;obtain ⟨x,-,rfl⟩:=List.mem_map.1 hv
 rfl
theorem ins_any {wr wq:World} {v:Value} {ss:List Str} (hq:SameW wr wq) (hrow:RowP wr v ss) (Bs os:Nat) (hbs:v.ownBlock≠some Bs) (hBs:Bs<wr.heap.size) (x:ByteArray) (hl:ss.length≤1000000) :
 Calls Tryz.prog 246 #[v,.int .i64 (posM ss (sOf x):Nat),.slice (some ⟨wr.heap.size,0,none⟩) 1 1] (wq.alloc (.cells #[.string x] 9)) fun e w'=>∃ a c,e=.returned (.slice (some a) (ss.length+1) c) ∧
  w'.heap[Bs]?=wr.heap[Bs]?∧RowP (w'.setCell ⟨Bs,os,none⟩ (.slice (some a) (ss.length+1) c)) (.slice (some a) (ss.length+1) c) (ss.take (posM ss (sOf x))++[sOf x]++ss.drop (posM ss (sOf x)))∧AddFr wr (w'.setCell ⟨Bs,os,none⟩ (.slice (some a) (ss.length+1) c)) Bs os v (.slice (some a) (ss.length+1) c):=by
 have hp:=posM_le ss (sOf x);generalize posM ss (sOf x)=i at *;have hrl:(ss.take i++[sOf x]++ss.drop i).length=ss.length+1:=by simp;omega
 have hrm:(ss.take i++[sOf x]++ss.drop i).map encStr=(ss.map encStr).take i++[.string x]++(ss.map encStr).drop i:=by
  rw [List.map_append,List.map_append,List.map_take,List.map_drop];rfl
 generalize hro:ss.take i++[sOf x]++ss.drop i=row at *;have hqs:wq.heap.size=wr.heap.size:=by rw [hq.heap]
 have hnew:(wq.alloc (.cells #[.string x] 9)).heap[wr.heap.size]?=some (.cells #[.string x] 9 (0,0)):=by
  rw [←hqs];exact World.alloc_heap_new wq _
 have hold:∀ k,k<wr.heap.size→(wq.alloc (.cells #[.string x] 9)).heap[k]?=wr.heap[k]?:=fun k hk=>by
  rw [Below.heap_alloc _ _ _ (by omega),hq.heap]
 have hsz:(wq.alloc (.cells #[.string x] 9)).heap.size=wr.heap.size+1:=by simp [hqs]
 have hvs:∀ j,j<1→(#[Value.string x]:Array Value)[0+j]?=[Value.string x][j]?:=fun j hj=>by
  obtain rfl:j=0:=by omega
  rfl
 have h1v:∀ u∈[Value.string x],u.oneCell'=true:=by simp [Value.oneCell']
 have key:∀ (rb o n cap:Nat) (c:Array Value) (e:TypeId) (fr:Nat×Nat) (en:Ending) (w':World),n=ss.length→(∀ b,v.ownBlock=some b→b=rb∧wr.heap[rb]?=some (Obj.cells c e fr)∧NoFr c fr∧o+cap≤c.size)→(cap≤9223372036854775807)→(n+1≤cap→v.ownBlock=some rb) →
  InsPost (wq.alloc (.cells #[.string x] 9)) rb o n cap c e fr 1 (row.map encStr) en w' →
  ∃ a c,en=.returned (.slice (some a) (ss.length+1) c)∧w'.heap[Bs]?=wr.heap[Bs]?∧RowP (w'.setCell ⟨Bs,os,none⟩ (.slice (some a) (ss.length+1) c)) (.slice (some a) (ss.length+1) c) row ∧
    AddFr wr (w'.setCell ⟨Bs,os,none⟩ (.slice (some a) (ss.length+1) c)) Bs os v (.slice (some a) (ss.length+1) c):=by
  rintro rb o n cap c e fr en w' rfl hv hcap hv2 (⟨c',rfl,g1,g2,g3,g4,g5⟩ | ⟨c',e',cap',rfl,g1,g2,g3,g4,g5,g6,g7,g8,g9,g10⟩)
  ·have hvb:=hv2 g1
   obtain ⟨-,hh,hnf,hoc⟩:=hv rb hvb;have hrb:=(Array.getElem?_eq_some_iff.1 hh).1;have hne:rb≠Bs:=fun e=>hbs (by rw [←e];exact hvb);have hbx:w'.heap[Bs]?=wr.heap[Bs]?:=(g4.other Bs (fun e=>hne e.symm)).trans (hold Bs hBs);have hrb2:(w'.setCell ⟨Bs,os,none⟩ (.slice (some ⟨rb,o,none⟩) (ss.length+1) cap)).heap[rb]?=some (Obj.cells c' e fr):=by
    rw [Q0q _ rfl hne];exact g5
   refine ⟨_,_,rfl,hbx,?_,?_⟩
   ·refine .inr ⟨rb,o,cap,c',e,fr,by rw [hrl],by omega,by omega,hcap,hrb2,hnf.size g2,by omega,fun j hj=>g3 j (by omega)⟩
   ·refine ⟨g4.os.trans hq.os,g4.tape.trans hq.tape,g4.output.trans hq.output,?_,fun c0 e0 fr0 h0=>?_,fun b hb c0 e0 fr0 h0=>?_,fun k hk hn hb=>?_,.inl (by rw [hvb];rfl)⟩
    ·have:=g4.size
     have h9:(w'.setCell ⟨Bs,os,none⟩ (.slice (some ⟨rb,o,none⟩) (ss.length+1) cap)).heap.size=w'.heap.size:=by simp [World.setCell]
     omega
    ·exact Q0u _ (hbx.trans h0)
    ·rw [hvb] at hb;cases hb
     rw [hh] at h0;cases h0;exact ⟨c',hrb2,g2⟩
    ·rw [Q0q _ rfl hn,g4.other k (fun e=>hb (by rw [e];exact hvb)),hold k hk]
  ·rw [hsz] at g8 g9 g10
   have hbx:w'.heap[Bs]?=wr.heap[Bs]?:=(g9 Bs (by omega)).trans (hold Bs hBs);have hnb:(w'.setCell ⟨Bs,os,none⟩ (.slice (some ⟨wr.heap.size+1,0,none⟩) (ss.length+1) cap')).heap[wr.heap.size+1]?=some (Obj.cells c' e' (0,0)):=by
    rw [Q0q _ rfl (show wr.heap.size+1≠Bs by omega)];exact g10
   rw [hsz];refine ⟨_,_,rfl,hbx,?_,?_⟩
   ·refine .inr ⟨_,0,cap',c',e',(0,0),by rw [hrl],by omega,by omega,by unfold maxLen at g2;omega,hnb,noFr0 c',by omega,fun j hj=>by rw [Nat.zero_add];exact g4 j (by omega)⟩
   ·refine ⟨g5.trans hq.os,g6.trans hq.tape,g7.trans hq.output,?_,fun c0 e0 fr0 h0=>?_,fun b hb c0 e0 fr0 h0=>?_,fun k hk hn hb=>?_,.inr ⟨_,rfl,Nat.le_succ _⟩⟩
    ·have h9:(w'.setCell ⟨Bs,os,none⟩ (.slice (some ⟨wr.heap.size+1,0,none⟩) (ss.length+1) cap')).heap.size=w'.heap.size:=by simp [World.setCell]
     omega
    ·exact Q0u _ (hbx.trans h0)
    ·have hbl:=(Array.getElem?_eq_some_iff.1 h0).1
     have hnb2:b≠Bs:=fun e=>hbs (by rw [←e];exact hb);exact ⟨c0,by rw [Q0q _ rfl hnb2,g9 b (by omega),hold b hbl];exact h0,rfl⟩
    ·rw [Q0q _ rfl hn,g9 k (by omega),hold k hk]
 rcases hrow with ⟨rfl,rfl⟩ | ⟨b,o,cap,c,e,fr,rfl,h1,h2,h3,h4,h5,h6,h7⟩
 ·obtain rfl:i=0:=by simpa using hp
  have hr1:row.map encStr=[.string x]:=by rw [hrm];simp
  refine (insert_nil lays22 (m:=1) (vb:=wr.heap.size) (vo:=0) (vc:=1) (vs:=[.string x]) (by omega) (by omega) hnew rfl hvs h1v 0 0 #[] 0 (0,0)).mono ?_;intro en w' hpost;have hpost:InsPost (wq.alloc (.cells #[.string x] 9)) 0 0 0 0 #[] 0 (0,0) 1 (row.map encStr) en w':=by rw [hr1];exact hpost
  exact key 0 0 0 0 #[] 0 (0,0) en w' rfl (fun b hb=>by simp [Value.ownBlock] at hb) (by omega) (fun h=>by omega) hpost
 ·have hbl:=(Array.getElem?_eq_some_iff.1 h4).1
  refine (insert_row lays22 (w:=wq.alloc (.cells #[.string x] 9)) (i:=i) (m:=1) (vb:=wr.heap.size) (vo:=0) (vc:=1) (cs:=ss.map encStr) (vs:=[.string x]) h1 (by omega) hp (by omega) h2 h3 (by omega) ((hold b hbl).trans h4) h5 h6 (by simp) h7 (enc_one ss) hnew (fun j _=>by simp only [World.frozen?,hnew];simp) (by simp) rfl hvs h1v).mono ?_;intro en w' hpost;rw [←hrm] at hpost
  exact key b o ss.length cap c e fr en w' rfl (fun b' hb=>by
   have:b=b':=by simpa [Value.ownBlock] using hb
   subst this
   exact ⟨rfl,h4,h5,h6⟩) h3 (fun _=>rfl) hpost
theorem SameW.cell {w w':World} (h:SameW w w') (a:Addr):w'.cell? a=w.cell? a:=by unfold World.cell?;rw [h.heap]
theorem SameW.frozen {w w':World} (h:SameW w w') (a:Addr):w'.frozen? a=w.frozen? a:=by unfold World.frozen?;rw [h.heap]
theorem AddFr.same {w w1 w2:World} {Bs so:Nat} {v0 v1:Value} (h:AddFr w w1 Bs so v0 v1) (k:SameW w1 w2):AddFr w w2 Bs so v0 v1 :=
 ⟨k.os.trans h.os,k.tape.trans h.tape,k.output.trans h.output,by rw [k.heap];exact h.size,by rw [k.heap];exact h.box,by rw [k.heap];exact h.row,by rw [k.heap];exact h.other,h.own⟩
def NamesAt (w:World) (Bs:Nat) (v0 nv:Value) (xs:List ByteArray):Prop :=
 (xs=[]∧∃ a c,nv=.slice a 0 c)∨∃ nb no nc,nv=.slice (some ⟨nb,no,none⟩) xs.length nc∧0<xs.length∧nb<w.heap.size∧nb≠Bs∧v0.ownBlock≠some nb∧∀ j (hj:j<xs.length),w.cell? ⟨nb,no+j,none⟩=some (.string xs[j])
def AddPost (w:World) (Bs so:Nat) (v0:Value) (ss:List Str) (xs:List ByteArray) (e:Ending) (w':World):Prop :=
 ∃ v',e=.returned (.bool (decide (ss.length<(addM ss (xs.map sOf)).length)))∧w'.cell? ⟨Bs,so,none⟩=some v'∧RowP w' v' (addM ss (xs.map sOf))∧AddFr w w' Bs so v0 v'
theorem RowP.form {w:World} {v:Value} {ss:List Str} (h:RowP w v ss):∃ a c,v=.slice a ss.length c:=by
 rcases h with ⟨rfl,rfl⟩ | ⟨b,o,cap,c,e,fr,rfl,-⟩
 ·exact ⟨_,_,rfl⟩
 ·exact ⟨_,_,rfl⟩
theorem addM_take {ss:List Str} {xs:List ByteArray} {k:Nat} (hk:k<xs.length):addM ss ((xs.take (k+1)).map sOf)=putM (addM ss ((xs.take k).map sOf)) (sOf xs[k]):=by
 rw [map_take_succ _ _ _ hk,addM_snoc]
set_option maxRecDepth 100000 in
set_option maxHeartbeats 4000000 in
theorem add_any (Bs so:Nat) (v0 nv:Value) (ss:List Str) (xs:List ByteArray) (w:World) (cB:Array Value) (eB:TypeId) (frB:Nat×Nat) (hbox:w.heap[Bs]?=some (Obj.cells cB eB frB)) (hcell:w.cell? ⟨Bs,so,none⟩=some v0) (hfz:w.frozen? ⟨Bs,so,none⟩=false)
 (hrow:RowP w v0 ss) (hown:v0.ownBlock≠some Bs) (hnm:NamesAt w Bs v0 nv xs) (hl:ss.length+xs.length≤1000000) :
 Calls Tryz.prog 178 #[.pointer (some ⟨Bs,so,none⟩),nv] w (AddPost w Bs so v0 ss xs):=by
 have hBs:=(Array.getElem?_eq_some_iff.1 hbox).1;have h0:AddFr w w Bs so v0 v0:=AddFr.refl hcell;rcases hnm with ⟨rfl,a,c,rfl⟩ | ⟨nb,no,nc,rfl,hpos,hnb,hne,hno,hns⟩
 ·have HP:Hid (AddPost w Bs so v0 ss [] (.returned (.bool false)) w):=Lib.hid ⟨v0,by simp [addM],hcell,hrow,h0⟩
  clear hrow h0 hfz hbox hown hcell
  go_enter Tryz.func178,Tryz.ntmps178
  go_wp2
  go_loopw [5,12] (fun g i wr=>g=.bool false∧i=.int .i64 0∧wr=w) (fun _ _ _=>0)
  case atStart=>exact ⟨rfl,rfl,rfl⟩
  case round =>
   obtain ⟨rfl,rfl,rfl⟩:=hrel
   go_wp2
   go_ret
   exact HP.out
 ·have HB:=Lib.hid (And.intro hbox hfz)
  have HN:=Lib.hid hns;have H0:=Lib.hid h0;have HR:=Lib.hid hrow;have HLN:=Lib.hid fun k=>addM_len ss ((xs.take k).map sOf);clear hbox hfz hns h0 hrow
  go_enter Tryz.func178,Tryz.ntmps178
  go_wp2
  go_loopw [5,12] (fun g i wr=>∃ (k:Nat) (v:Value),k≤xs.length∧i=.int .i64 k∧g=.bool (decide (ss.length<(addM ss ((xs.take k).map sOf)).length))∧wr.cell? ⟨Bs,so,none⟩=some v∧Hid (RowP wr v (addM ss ((xs.take k).map sOf)))∧Hid (AddFr w wr Bs so v0 v)) (fun _ i _=>xs.length - (intOf i).toNat)
  case atStart=>exact ⟨0,v0,Nat.zero_le _,rfl,by simp [addM],hcell,by simpa [addM] using HR,H0⟩
  case round =>
   obtain ⟨k,v,hk,rfl,rfl,hcv,hrw,hfr⟩:=hrel
   by_cases hlt:k<xs.length
   ·have hnbr:wr.heap[nb]?=w.heap[nb]?:=hfr.out.other nb hnb hne hno
    have hnc:wr.cell? ⟨nb,no+k,none⟩=some (.string xs[k]):=(World.cell?_of_block (w:=w) hnbr).trans (HN.out k hlt);have hlen:=HLN.out k;have htk:=addM_take (ss:=ss) hlt;have htl:((xs.take k).map sOf).length=k:=by simp;omega
    rw [htl] at hlen;have hvB:v.ownBlock≠some Bs:=fun e=>by
     rcases hfr.out.own with h | ⟨b',h,h'⟩
     ·exact hown (by rw [←h];exact e)
     ·rw [h] at e;cases e;omega
    have hwr:Bs<wr.heap.size:=Nat.lt_of_lt_of_le hBs hfr.out.size;have hwb:=hfr.out.box _ _ _ HB.out.1;have hfzr:wr.frozen? ⟨Bs,so,none⟩=false:=by
     have h1:=HB.out.2;simp only [World.frozen?,HB.out.1] at h1;simp only [World.frozen?,hwb];exact h1
    have hsr:=search_any hrw.out xs[k] (by omega);have hins:=fun wq (hq:SameW wr wq)=>ins_any hq hrw.out Bs so hvB hwr xs[k] (by omega);have hput:=putM_len (addM ss ((xs.take k).map sOf)) (sOf xs[k]);have hpd:putM (addM ss ((xs.take k).map sOf)) (sOf xs[k])=if hasM (addM ss ((xs.take k).map sOf)) (sOf xs[k])=true then addM ss ((xs.take k).map sOf) else (addM ss ((xs.take k).map sOf)).take (posM (addM ss ((xs.take k).map sOf)) (sOf xs[k]))++[sOf xs[k]]++(addM ss ((xs.take k).map sOf)).drop (posM (addM ss ((xs.take k).map sOf)) (sOf xs[k])):=rfl
    rw [←htk] at hput hpd;have hpl:=posM_le (addM ss ((xs.take k).map sOf)) (sOf xs[k]);have HSR:=Lib.hid hsr;have HINS:=Lib.hid hins;have HPT:=Lib.hid (And.intro hput hpd);clear hsr hins hput hpd htk hnbr hvB hwb;obtain ⟨va,vc,rfl⟩:=hrw.out.form;generalize xs[k]=x at *;generalize hA:addM ss ((xs.take k).map sOf)=sk at *;generalize posM sk (sOf x)=ps at *
    go_wp2_with fail
    refine HSR.out.mono ?_;rintro e wq ⟨rfl,hsw⟩;have hcq:=(hsw.cell ⟨Bs,so,none⟩).trans hcv;have hfq:=(hsw.frozen ⟨Bs,so,none⟩).trans hfzr;have hqs:wq.heap.size=wr.heap.size:=by rw [hsw.heap]
    have HI:=Lib.hid (HINS.out wq hsw);have HSW:=Lib.hid hsw;clear HSR HINS hnc hsw
    cases hm:hasM sk (sOf x)
    ·have hadd:addM ss ((xs.take (k+1)).map sOf)=sk.take ps++[sOf x]++sk.drop ps:=by rw [HPT.out.2,hm];rfl
     have hal:ss.length<(addM ss ((xs.take (k+1)).map sOf)).length:=by
      have:=HPT.out.1;rw [hm] at this;simp only [Bool.false_eq_true,if_false] at this;omega
     have HAD:=Lib.hid (And.intro hadd hal);clear hadd hal HPT
     go_wp2_with fail
     refine HI.out.mono ?_;rintro e w5 ⟨a,c,rfl,hbx,hrow5,hfr5⟩;have hc5:w5.cell? ⟨Bs,so,none⟩=some (.slice va sk.length vc):=(World.cell?_of_block (w:=wr) hbx).trans hcv;have hf5:w5.frozen? ⟨Bs,so,none⟩=false:=by
      have:w5.frozen? ⟨Bs,so,none⟩=wr.frozen? ⟨Bs,so,none⟩:=by unfold World.frozen?;rw [hbx]
      rw [this];exact hfzr
     have hset:(w5.setCell ⟨Bs,so,none⟩ (.slice (some a) (sk.length+1) c)).cell? ⟨Bs,so,none⟩=some (.slice (some a) (sk.length+1) c):=by
      rw [cell_set_at so _ (by rw [hc5];rfl),if_pos rfl]
     have HE:=Lib.hid (And.intro hset (And.intro hrow5 (hfr.out.trans hfr5 hown)));clear hset hrow5 hfr5 hbx
     go_wp2
     go_roundw
     case rel =>
      refine ⟨k+1,.slice (some a) (sk.length+1) c,by omega,by go_num,by rw [decide_eq_true HAD.out.2],HE.out.1,?_,Lib.hid HE.out.2.2⟩;rw [HAD.out.1];exact Lib.hid HE.out.2.1
     case measure=>simp [intOf];omega
    ·have hadd:addM ss ((xs.take (k+1)).map sOf)=sk:=by rw [HPT.out.2,hm];rfl
     have HAD:=Lib.hid hadd;clear hadd HPT HI
     go_wp2
     go_roundw
     case rel=>exact ⟨k+1,_,by omega,by go_num,by rw [HAD.out],hcq,by rw [HAD.out];exact Lib.hid (hrw.out.keep fun b _=>by rw [HSW.out.heap]),Lib.hid (hfr.out.same HSW.out)⟩
     case measure=>simp [intOf];omega
   ·obtain rfl:k=xs.length:=by omega
    rw [List.take_length] at hrw
    go_wp2
    go_ret
    exact ⟨v,by rw [List.take_length];rfl,hcv,hrw.out,hfr.out⟩
def delO (m:Mem):Option Nat→Mem
 | none=>m
 | some b=>m.del b
section
variable {base:Nat} {GT:GTab} {F:Nat→Prop} {rd:List Mem} {cur:Mem} {nx:Nat} {w:World} {G:Gh}
theorem delO_get {m:Mem} {r:Option Nat} {c:Nat} {x:Blk} (h:(delO m r).get c=some x):r≠some c∧m.get c=some x:=by
 cases r with
 | none=>exact ⟨by simp,h⟩
 | some b =>
   rw [delO,Mem.get_del] at h
   by_cases hb:b=c
   ·rw [if_pos hb] at h;cases h
   ·rw [if_neg hb] at h;exact ⟨fun e=>hb (by cases e;rfl),h⟩
theorem delO_none {m:Mem} {r:Option Nat} {c:Nat} (h:(delO m r).get c=none):r=some c∨m.get c=none:=by
 cases r with
 | none=>exact .inr h
 | some b =>
   rw [delO,Mem.get_del] at h
   by_cases hb:b=c
   ·exact .inl (by rw [hb])
   ·rw [if_neg hb] at h;exact .inr h
theorem stp_add (hm:MR base GT F rd cur nx w G) (hF:F nx) {b o Bs rob:Nat} {cs:List AV} (hgb:cur.get b=some (.cells cs)) (hmb:G.μ b=some (Bs,rob)) (ho:o<cs.length) {v0 v':Value} {r:List Str} {w':World}
 (hrow:RowP w' v' r) (hr:r≠[]) (hfr:AddFr w w' Bs (rob+o) v0 v') (hown0:v0.ownBlock≠some Bs) (rbo:Option Nat)
 (hrb:(rbo=none∧v0.ownBlock=none)∨∃ rb rB ror rcs,rbo=some rb∧cur.get rb=some (.cells rcs)∧G.μ rb=some (rB,ror)∧v0.ownBlock=some rB∧rb≠b) :
 ∃ G',Stp base GT F rd cur nx w G (Mem.put (delO (cur.set b (.cells (putA cs o [.gs nx 0 r.length 1 r.length]))) rbo) nx (.cells (r.map fun s=>.g (.string (bs s))))) (nx+1) w' G':=by
 rcases hrow with ⟨rfl,h⟩ | ⟨b',o',cap,c,e,fr,rfl,h1,h2,h3,h4,h5,h6,h7⟩
 ·exact absurd h hr
 obtain ⟨Bs',rob',e1,hbB,hIB,cB,eB,frB,hcB,hnB,hcr⟩:=hm.blk b _ (Q0b hgb);rw [hmb] at e1;cases e1;have hBlt:=(Array.getElem?_eq_some_iff.1 hcB).1;have hbox:=hfr.box _ _ _ hcB;have hold:∀ c x,G.μ c=some x→c≠nx:=fun c x hc=>hm.ne hF hc;have hbn:=hold b _ hmb;have hb':(v0.ownBlock=some b'∨w.heap.size≤b'):=by
  rcases hfr.own with h | ⟨b2,h,h'⟩
  ·exact .inl h.symm
  ·have:b'=b2:=by simpa [Value.ownBlock] using h
   subst this;exact .inr h'
 have hb'B:b'≠Bs:=by
  rintro rfl;rcases hb' with h | h
  ·exact hown0 h
  ·omega
 have hoth:∀ c x rc ro,getR (cur::rd) c=some x→G.μ c=some (rc,ro)→c≠b→rbo≠some c→rc<w.heap.size∧rc≠Bs∧v0.ownBlock≠some rc∧w'.heap[rc]?=w.heap[rc]?:=by
  intro c x rc ro hc hmc hcb hcr2;obtain ⟨rc',ro',e2,-,-,hbl⟩:=hm.blk c x hc;rw [hmc] at e2;cases e2;have hlt:=hbl.lt;have h1:rc≠Bs:=fun e=>hcb (hm.inj c b x _ rc ro rob hc (Q0b hgb) hmc (by rw [e];exact hmb));have h2:v0.ownBlock≠some rc:=fun e=>by
   rcases hrb with ⟨-,h⟩ | ⟨rb,rB,ror,rcs,e3,e4,e5,e6,-⟩
   ·rw [h] at e;cases e
   ·rw [e6] at e;cases e
    exact hcr2 (by rw [e3,hm.inj c rb x _ rc ro ror hc (Q0b e4) hmc e5])
  exact ⟨hlt,h1,h2,hfr.other rc hlt h1 h2⟩
 have hI:∀ rc,G.I rc→w'.heap[rc]?=w.heap[rc]?:=fun rc hi=>by
  refine hfr.other rc (hm.imm rc hi) (fun e=>hIB (e▸hi)) fun e=>?_;rcases hrb with ⟨-,h⟩ | ⟨rb,rB,ror,rcs,e3,e4,e5,e6,-⟩
  ·rw [h] at e;cases e
  ·rw [e6] at e;cases e
   obtain ⟨rB',ror',e7,-,hni,-⟩:=hm.blk rb _ (Q0b e4);rw [e5] at e7;cases e7;exact hni hi
 have hx:Ext w w' G (G.add nx (b',o')):=by
  refine ⟨fun c x hc=>by rw [Gh.add_ne _ _ (hold c x hc)];exact hc,fun _ h=>h,hI,fun rc c0 e0 fr0 h0=>?_⟩
  by_cases hrc:rc=Bs
  ·subst hrc
   rw [hcB] at h0;cases h0;exact ⟨_,_,hbox,by simp⟩
  ·by_cases hro:v0.ownBlock=some rc
   ·obtain ⟨c1,g1,g2⟩:=hfr.row rc hro c0 e0 fr0 h0
    exact ⟨c1,_,g1,g2⟩
   ·exact ⟨c0,fr0,(hfr.other rc (Array.getElem?_eq_some_iff.1 h0).1 hrc hro).trans h0,rfl⟩
 have hvr:VR w' (G.add nx (b',o')) (.gs nx 0 r.length 1 r.length) (.slice (some ⟨b',o',none⟩) r.length cap) :=
  ⟨b',o',o',cap,c,e,fr,Gh.add_same _ _ _,rfl,.inl rfl,h2,h4,by omega,Nat.le_refl _,h2,h3⟩
 have hget:∀ c x,getR ((Mem.put (delO (cur.set b (.cells (putA cs o [.gs nx 0 r.length 1 r.length]))) rbo) nx (.cells (r.map fun s=>.g (.string (bs s)))))::rd) c=some x →
  (c=nx∧x=.cells (r.map fun s=>.g (.string (bs s))))∨(c=b∧x=.cells (putA cs o [.gs nx 0 r.length 1 r.length]))∨(c≠nx∧c≠b∧rbo≠some c∧getR (cur::rd) c=some x):=by
  intro c x hc;rw [Q0c,Mem.get_cons] at hc
  by_cases hcn:nx=c
  ·rw [if_pos hcn] at hc;exact .inl ⟨hcn.symm,by simpa using hc.symm⟩
  ·rw [if_neg hcn] at hc
   cases hd:(delO (cur.set b (.cells (putA cs o [.gs nx 0 r.length 1 r.length]))) rbo).get c with
   | some y =>
     rw [hd] at hc;obtain rfl:y=x:=by simpa using hc
     obtain ⟨h8,h9⟩:=delO_get hd;rw [Mem.get_set] at h9
     by_cases hbc:b=c
     ·subst hbc
      rw [if_pos rfl,hgb] at h9;exact .inr (.inl ⟨rfl,by simpa using h9.symm⟩)
     ·rw [if_neg hbc] at h9
      exact .inr (.inr ⟨Ne.symm hcn,Ne.symm hbc,h8,by rw [Q0c,h9];rfl⟩)
   | none =>
     rw [hd] at hc;have hrdc:getR rd c=some x:=by simpa using hc
     have hbc:c≠b:=fun e=>by
      subst e;rw [hm.dj c _ hgb] at hrdc;cases hrdc
     have hrc:rbo≠some c:=fun e=>by
      rcases hrb with ⟨h,-⟩ | ⟨rb,rB,ror,rcs,e3,e4,-,-,-⟩
      ·rw [h] at e;cases e
      ·rw [e3] at e;cases e
       rw [hm.dj _ _ e4] at hrdc;cases hrdc
     refine .inr (.inr ⟨Ne.symm hcn,hbc,hrc,?_⟩);rcases delO_none hd with h | h
     ·exact absurd h hrc
     ·rw [Mem.get_set,if_neg (Ne.symm hbc)] at h
      rw [Q0c,h];exact hrdc
 have hcur:∀ c x,(Mem.put (delO (cur.set b (.cells (putA cs o [.gs nx 0 r.length 1 r.length]))) rbo) nx (.cells (r.map fun s=>.g (.string (bs s))))).get c=some x→c=nx∨∃ x0,cur.get c=some x0:=by
  intro c x hc;rw [Mem.get_cons] at hc
  by_cases hcn:nx=c
  ·exact .inl hcn.symm
  ·rw [if_neg hcn] at hc
   obtain ⟨-,h9⟩:=delO_get hc;rw [Mem.get_set] at h9
   by_cases hbc:b=c
   ·subst hbc;exact .inr ⟨_,hgb⟩
   ·rw [if_neg hbc] at h9;exact .inr ⟨_,h9⟩
 have hprov:w.heap.size≤b'∨∃ b0 k0 ro0,cur.get b0=some k0∧G.μ b0=some (b',ro0):=by
  rcases hb' with h | h
  ·rcases hrb with ⟨-,h'⟩ | ⟨rb,rB,ror,rcs,e3,e4,e5,e6,-⟩
   ·rw [h'] at h;cases h
   ·rw [e6] at h;cases h
    exact .inr ⟨rb,_,ror,e4,e5⟩
  ·exact .inl h
 have hbI:¬G.I b':=fun hi=>by
  rcases hprov with h | ⟨b0,k0,ro0,h8,h9⟩
  ·have:=hm.imm b' hi;omega
  ·obtain ⟨rb0,ro0',e7,-,hni,-⟩:=hm.blk b0 _ (Q0b h8)
   rw [h9] at e7;cases e7;exact hni hi
 have hbb:base≤b':=by
  rcases hprov with h | ⟨b0,k0,ro0,h8,h9⟩
  ·exact Nat.le_trans hm.base h
  ·obtain ⟨rb0,ro0',e7,hb0,-,-⟩:=hm.blk b0 _ (Q0b h8)
   rw [h9] at e7;cases e7;exact hb0
 have hnoc:∀ c x rc ro,getR (cur::rd) c=some x→G.μ c=some (rc,ro)→c≠b→rbo≠some c→rc≠b':=fun c x rc ro hc hmc hcb hcr2 e=>by
  obtain ⟨g1,-,g3,-⟩:=hoth c x rc ro hc hmc hcb hcr2;rcases hb' with h | h
  ·exact g3 (by rw [e];exact h)
  ·omega
 refine ⟨G.add nx (b', o'), {
  mr := {
   fresh:=fun c hc hFc=>by rw [Gh.add_ne _ _ (by omega)];exact hm.fresh c (by omega) hFc
   blk:=fun c0 x hc=>?_
   inj:=fun c1 c2 x1 x2 rr r1 r2 g1 g2 g3 g4=>?_
   imm:=fun rc hi=>Nat.lt_of_lt_of_le (hm.imm rc hi) hfr.size
   base:=Nat.le_trans hm.base hfr.size
   gt:=fun g cs hg=>RowR.mono hx cs (hm.gt g cs hg)
   dj:=fun c x hc=>?_ }
  ext:=hx,os:=hfr.os,tape:=hfr.tape,output:=hfr.output,size:=hfr.size
  fr:=fun rc hlt hno=>hfr.other rc hlt (fun e=>hno b _ rob hgb (by rw [e];exact hmb)) (fun e=>?_)
  prov:=fun c x rc ro hc hmc=>?_
  impr:=fun _ h=>.inl h
  mus:=fun c x hc=>?_
  nx:=Nat.le_succ _ }⟩
 ·rcases hget c0 x hc with ⟨rfl,rfl⟩ | ⟨rfl,rfl⟩ | ⟨g1,g2,g3,g4⟩
  ·refine ⟨b',o',Gh.add_same _ _ _,hbb,hbI,c,e,fr,h4,h5,fun i a hi=>?_⟩
   rw [List.getElem?_map] at hi;obtain ⟨s,hs,rfl⟩:=Option.map_eq_some_iff.1 hi;have hlt:=(List.getElem?_eq_some_iff.1 hs).1;refine ⟨.string (bs s),?_,rfl⟩;rw [h7 i hlt,List.getElem?_map,hs];rfl
  ·refine ⟨Bs,rob,by rw [Gh.add_ne _ _ hbn];exact hmb,hbB,hIB,_,eB,frB,hbox,hnB.size (by simp),fun i a hi=>?_⟩
   have hle:o+[AV.gs nx 0 r.length 1 r.length].length≤cs.length:=by simp;omega
   rw [Q3e cs o _ (by omega)] at hi
   by_cases hio:i=o
   ·subst hio
    rw [if_neg (Nat.lt_irrefl _),if_pos (by simp),Nat.sub_self] at hi;obtain rfl:AV.gs nx 0 r.length 1 r.length=a:=by simpa using hi
    obtain ⟨u,hu,-⟩:=hcr i _ (List.getElem?_eq_getElem ho);have hsz:=(Array.getElem?_eq_some_iff.1 hu).1;exact ⟨_,by rw [Array.getElem?_setIfInBounds,if_pos rfl,if_pos hsz],hvr⟩
   ·have hi2:cs[i]?=some a:=by
     by_cases h8:i<o
     ·rw [if_pos h8] at hi;exact hi
     ·rw [if_neg h8,if_neg (by simp;omega)] at hi;exact hi
    obtain ⟨u,hu,hv⟩:=hcr i a hi2;exact ⟨u,by rw [Array.getElem?_setIfInBounds,if_neg (by omega)];exact hu,VR.mono hx a hv⟩
  ·obtain ⟨rc,ro',e1,e2,e3,e4⟩:=hm.blk c0 x g4
   exact ⟨rc,ro',by rw [Gh.add_ne _ _ g1];exact e1,e2,e3,e4.mono hx (hoth c0 x rc ro' g4 e1 g2 g3).2.2.2⟩
 ·rcases hget c1 x1 g1 with ⟨rfl,-⟩ | ⟨rfl,-⟩ | ⟨a1,a2,a3,a4⟩ <;> rcases hget c2 x2 g2 with ⟨rfl,-⟩ | ⟨rfl,-⟩ | ⟨d1,d2,d3,d4⟩
  ·rfl
  ·rw [Gh.add_same] at g3;cases g3
   rw [Gh.add_ne _ _ hbn,hmb] at g4;cases g4;exact absurd rfl hb'B
  ·rw [Gh.add_same] at g3;cases g3
   rw [Gh.add_ne _ _ d1] at g4;exact absurd rfl (hnoc c2 x2 _ _ d4 g4 d2 d3)
  ·rw [Gh.add_same] at g4;cases g4
   rw [Gh.add_ne _ _ hbn,hmb] at g3;cases g3;exact absurd rfl hb'B
  ·rfl
  ·rw [Gh.add_ne _ _ hbn,hmb] at g3;cases g3
   rw [Gh.add_ne _ _ d1] at g4;exact absurd rfl (hoth c2 x2 _ _ d4 g4 d2 d3).2.1
  ·rw [Gh.add_same] at g4;cases g4
   rw [Gh.add_ne _ _ a1] at g3;exact absurd rfl (hnoc c1 x1 _ _ a4 g3 a2 a3)
  ·rw [Gh.add_ne _ _ hbn,hmb] at g4;cases g4
   rw [Gh.add_ne _ _ a1] at g3;exact absurd rfl (hoth c1 x1 _ _ a4 g3 a2 a3).2.1
  ·rw [Gh.add_ne _ _ a1] at g3
   rw [Gh.add_ne _ _ d1] at g4;exact hm.inj c1 c2 x1 x2 rr r1 r2 a4 d4 g3 g4
 ·rcases hcur c x hc with rfl | ⟨x0,h0⟩
  ·exact hm.rd_new hF
  ·exact hm.dj c x0 h0
 ·rcases hrb with ⟨-,h⟩ | ⟨rb,rB,ror,rcs,e3,e4,e5,e6,-⟩
  ·rw [h] at e;cases e
  ·rw [e6] at e;cases e
   exact hno rb _ ror e4 e5
 ·rcases hcur c x hc with rfl | ⟨x0,h0⟩
  ·rw [Gh.add_same] at hmc;cases hmc
   exact hprov
  ·have hcn:c≠nx:=fun e=>by
    subst e;have:=hm.fresh c (Nat.le_refl _) hF;obtain ⟨rc0,ro0,e7,-⟩:=hm.blk c x0 (Q0b h0);rw [this] at e7;cases e7
   rw [Gh.add_ne _ _ hcn] at hmc;exact .inr ⟨c,x0,ro,h0,hmc⟩
 ·by_cases hcn:c=nx
  ·exact .inr (by omega)
  ·rw [Gh.add_ne _ _ hcn] at hc;exact .inl hc
def strL:List AV→Option (List ByteArray)
 | []=>some []
 | .g (.string s)::l=>match strL l with
   | some r=>some (s::r)
   | none=>none
 | _=>none
theorem strL_spec:∀ {l:List AV} {xs:List ByteArray},strL l=some xs→l=xs.map fun s=>AV.g (.string s)
 | [],xs,h=>by simp only [strL,Option.some.injEq] at h;subst h;rfl
 | a :: l,xs,h=>by
   unfold strL at h
   split at h
   ·rename_i he;cases he
   ·rename_i s l' he
    cases he
    split at h
    ·rename_i r hr
     cases h
     rw [strL_spec hr];rfl
    ·cases h
   ·cases h
def namesA (cur:Mem) (rd:List Mem) (b:Nat) (rb:Option Nat):AV→Option (List ByteArray)
 | .sl n 1 cs=>match strL cs with
   | some xs=>if xs.length=n then some xs else none
   | none=>none
 | .gs vb vo m 1 _=>match getR (cur::rd) vb with
   | some (.cells vcs)=>if vo+m≤vcs.length∧vb≠b∧rb≠some vb then strL ((vcs.drop vo).take m) else none
   | _=>none
 | .z0=>some []
 | .g (.slice none 0 0)=>some []
 | _=>none
def oldA (cur:Mem) (b:Nat):AV→Option (List ByteArray×Option Nat)
 | .g (.slice none 0 0)=>some ([],none)
 | .gs rb ro n 1 _=>match cur.get rb with
   | some (.cells rcs)=>if ro+n≤rcs.length∧0<n∧rb≠b then (strL ((rcs.drop ro).take n)).map fun xs=>(xs,some rb) else none
   | _=>none
 | _=>none
def addCH : CH:=fun f args rd cur nx=>match Nat.beq f 178,args with
 | true, [.ptr b o,nm]=>match cur.get b with
   | some (.cells cs)=>match cs[o]? with
     | some old=>match oldA cur b old with
       | some (ss,rbo)=>match namesA cur rd b rbo nm with
         | some xs=>if ss.length+xs.length≤1000000 then
            match addM (ss.map sOf) (xs.map sOf) with
            | []=>some (.ret (.g (.bool false)),cur,nx)
            | y::r=>some (.ret (.g (.bool (decide ((ss.map sOf).length<(y::r).length)))),Mem.put (delO (cur.set b (.cells (putA cs o [.gs nx 0 (y::r).length 1 (y::r).length]))) rbo) nx (.cells ((y::r).map fun s=>.g (.string (bs s)))),nx+1)
           else none
         | none=>none
       | none=>none
     | none=>none
   | _=>none
 | _,_=>none
theorem oldA_spec (hm:MR base GT F rd cur nx w G) {b Bs rob:Nat} {cs:List AV} (hgb:cur.get b=some (.cells cs)) (hmb:G.μ b=some (Bs,rob)) {a:AV} {ss:List ByteArray} {rbo:Option Nat} {v0:Value} (h:oldA cur b a=some (ss,rbo)) (hv:VR w G a v0) :
 RowP w v0 (ss.map sOf)∧v0.ownBlock≠some Bs∧((rbo=none∧v0.ownBlock=none)∨∃ rb rB ror rcs,rbo=some rb∧cur.get rb=some (.cells rcs)∧G.μ rb=some (rB,ror)∧v0.ownBlock=some rB∧rb≠b):=by
 unfold oldA at h
 split at h
 ·cases h
  obtain rfl:v0=_:=hv;exact ⟨.inl ⟨rfl,rfl⟩,by simp [Value.ownBlock],.inl ⟨rfl,rfl⟩⟩
 ·rename_i rb ro n k
  split at h
  ·rename_i rcs hrb
   split at h
   ·rename_i hc
    obtain ⟨c1,c2,c3⟩:=hc;obtain ⟨xs,hx,he⟩:=Option.map_eq_some_iff.1 h
    cases he
    obtain ⟨rB,ror,cap,c,e,fr,hmu,rfl,hnc,h63,hh,hnf,hsz,-,hvv⟩:=gs_cells hm (Q0b hrb) hv c2 c1;have hsx:=strL_spec hx;have hln:ss.length=n:=by
     have:=congrArg List.length hsx;simp at this;omega
    subst hln;refine ⟨.inr ⟨rB,ror+ro,cap,c,e,fr,by simp,by simpa using c2,by simpa using hnc,h63,hh,hnf,hsz,fun j hj=>?_⟩,fun e9=>?_,.inr ⟨rb,rB,ror,rcs,rfl,hrb,hmu,rfl,c3⟩⟩
    ·have hj2:j<ss.length:=by simpa using hj
     rw [Go.Ev.row_get hj2];have hjx:((rcs.drop ro).take ss.length)[j]?=some (.g (.string ss[j])):=by rw [hsx];simp [hj2]
     obtain ⟨u,g1,g2⟩:=VRs.get hvv hjx;obtain rfl:u=_:=g2;rw [g1];simp [hj2]
     rfl
    ·have:rB=Bs:=by simpa [Value.ownBlock] using e9
     subst this;exact c3 (hm.inj rb b _ _ _ _ _ (Q0b hrb) (Q0b hgb) hmu hmb)
   ·cases h
  ·cases h
 ·cases h
theorem namesA_spec (hm:MR base GT F rd cur nx w G) {b Bs rob:Nat} {cs:List AV} (hgb:cur.get b=some (.cells cs)) (hmb:G.μ b=some (Bs,rob)) {rbo:Option Nat} {v0:Value}
 (hrb:(rbo=none∧v0.ownBlock=none)∨∃ rb rB ror rcs,rbo=some rb∧cur.get rb=some (.cells rcs)∧G.μ rb=some (rB,ror)∧v0.ownBlock=some rB∧rb≠b)
 {a:AV} {xs:List ByteArray} {nv:Value} (h:namesA cur rd b rbo a=some xs) (hv:VR w G a nv):NamesAt w Bs v0 nv xs:=by
 have hIne:∀ rc,G.I rc→rc≠Bs∧v0.ownBlock≠some rc:=fun rc hi=>by
  refine ⟨fun e=>?_,fun e=>?_⟩
  ·obtain ⟨rB',ror',e7,-,hni,-⟩:=hm.blk b _ (Q0b hgb)
   rw [hmb] at e7;cases e7;exact hni (e▸hi)
  ·rcases hrb with ⟨-,h⟩ | ⟨rb,rB,ror,rcs,e3,e4,e5,e6,-⟩
   ·rw [h] at e;cases e
   ·rw [e6] at e;cases e
    obtain ⟨rB',ror',e7,-,hni,-⟩:=hm.blk rb _ (Q0b e4);rw [e5] at e7;cases e7;exact hni hi
 unfold namesA at h
 split at h
 ·rename_i n cs'
  split at h
  ·rename_i xs' hx
   split at h
   ·rename_i hn
    cases h
    subst hn;obtain ⟨ad,cap,rfl,hc,hrow⟩:=hv
    by_cases h0:xs.length=0
    ·exact .inl ⟨List.eq_nil_of_length_eq_zero h0,ad,cap,by rw [h0]⟩
    ·rcases hrow with h1 | ⟨rb,ro,rfl,hr⟩
     ·exact absurd h1 h0
     ·have hsx:=strL_spec hx
      have hcell:∀ j (hj:j<xs.length),G.I rb∧w.cell? ⟨rb,ro+j,none⟩=some (.string xs[j]):=fun j hj=>by
       have hjx:cs'[j]?=some (.g (.string xs[j])):=by rw [hsx];simp [hj]
       obtain ⟨g1,u,g2,g3⟩:=RowR.get hr hjx;obtain rfl:u=_:=g3;exact ⟨g1,g2⟩
      obtain ⟨hi,-⟩:=hcell 0 (by omega);exact .inr ⟨rb,ro,cap,rfl,by omega,hm.imm rb hi,(hIne rb hi).1,(hIne rb hi).2,fun j hj=>(hcell j hj).2⟩
   ·cases h
  ·cases h
 ·rename_i vb vo m k
  split at h
  ·rename_i vcs hvb
   split at h
   ·rename_i hc
    obtain ⟨c1,c2,c3⟩:=hc;have hsx:=strL_spec h;have hln:xs.length=m:=by
     have:=congrArg List.length hsx;simp at this;omega
    subst hln
    by_cases h0:xs.length=0
    ·obtain ⟨rb,ro,o',cap,c,e,fr,-,rfl,-⟩:=hv
     exact .inl ⟨List.eq_nil_of_length_eq_zero h0,_,cap,by rw [h0]⟩
    ·obtain ⟨rB,ror,cap,c,e,fr,hmu,rfl,hnc,h63,hh,hnf,hsz,-,hvv⟩:=gs_cells hm hvb hv (by omega) c1
     refine .inr ⟨rB,ror+vo,cap,rfl,by omega,(Array.getElem?_eq_some_iff.1 hh).1,fun e9=>?_,fun e9=>?_,fun j hj=>?_⟩
     ·subst e9
      exact c2 (hm.inj vb b _ _ _ _ _ hvb (Q0b hgb) hmu hmb)
     ·rcases hrb with ⟨-,h'⟩ | ⟨rb,rB',ror',rcs,e3,e4,e5,e6,-⟩
      ·rw [h'] at e9;cases e9
      ·rw [e6] at e9;cases e9
       exact c3 (by rw [e3,hm.inj vb rb _ _ _ _ _ hvb (Q0b e4) hmu e5])
     ·rw [cell_of hh,Go.Ev.row_get hj]
      have hjx:((vcs.drop vo).take xs.length)[j]?=some (.g (.string xs[j])):=by rw [hsx];simp [hj]
      obtain ⟨u,g1,g2⟩:=VRs.get hvv hjx;obtain rfl:u=_:=g2;exact g1
   ·cases h
  ·cases h
 ·cases h
  obtain ⟨ad,rfl⟩:=hv;exact .inl ⟨rfl,ad,0,rfl⟩
 ·cases h
  obtain rfl:nv=_:=hv;exact .inl ⟨rfl,none,0,rfl⟩
 ·cases h
theorem addCH_ok {GT:GTab}:ChOk Tryz.prog GT addCH:=by
 have key:∀ {f args rd cur nx r},addCH f args rd cur nx=some r→f=178∧∃ b o nm cs old ss rbo xs,args=[.ptr b o,nm]∧cur.get b=some (.cells cs)∧cs[o]?=some old∧oldA cur b old=some (ss,rbo)∧namesA cur rd b rbo nm=some xs∧ss.length+xs.length≤1000000 ∧
  ((addM (ss.map sOf) (xs.map sOf)=[]∧r=(.ret (.g (.bool false)),cur,nx))∨(addM (ss.map sOf) (xs.map sOf)≠[]∧r=(.ret (.g (.bool (decide ((ss.map sOf).length<(addM (ss.map sOf) (xs.map sOf)).length)))),Mem.put (delO (cur.set b (.cells (putA cs o [.gs nx 0 (addM (ss.map sOf) (xs.map sOf)).length 1 (addM (ss.map sOf) (xs.map sOf)).length]))) rbo) nx (.cells ((addM (ss.map sOf) (xs.map sOf)).map fun s=>.g (.string (bs s)))),nx+1))):=by
  intro f args rd cur nx r h;unfold addCH at h
  split at h
  ·rename_i b o nm hf
   split at h
   ·rename_i cs hg
    split at h
    ·rename_i old ho
     split at h
     ·rename_i ss rbo hs
      split at h
      ·rename_i xs hx
       split at h
       ·rename_i hle
        refine ⟨Nat.eq_of_beq_eq_true hf,b,o,nm,cs,old,ss,rbo,xs,rfl,hg,ho,hs,hx,hle,?_⟩
        split at h
        ·rename_i he
         cases h
         exact .inl ⟨he,rfl⟩
        ·rename_i y l he
         cases h
         exact .inr ⟨by rw [he];simp,by rw [he]⟩
       ·cases h
      ·cases h
     ·cases h
    ·cases h
   ·cases h
  ·cases h
 refine ⟨fun {f args rd cur nx out cur' nx'} h=>?_,fun h=>?_,fun h=>?_⟩
 ·obtain ⟨rfl,b,o,nm,cs,old,ss,rbo,xs,rfl,hgb,ho,hs,hx,hle,hres⟩:=key h
  intro base F w G rargs hm ha hF;obtain ⟨r0,t0,e0,v0,ha1⟩:=ha;obtain ⟨r1,t1,rfl,v1,ha2⟩:=ha1;obtain rfl:t1=[]:=ha2;obtain ⟨Bs,rob,hmb,rfl⟩:=v0;have hra:rargs=#[.pointer (some ⟨Bs,rob+o,none⟩),r1]:=by cases rargs;simp_all
  rw [hra];obtain ⟨Bs',rob',e1,hbB,hIB,cB,eB,frB,hcB,hnB,hcr⟩:=hm.blk b _ (Q0b hgb);rw [hmb] at e1;cases e1;obtain ⟨vold,hvo,hvr⟩:=hcr o old ho;obtain ⟨hrow,hown,hrb⟩:=oldA_spec hm hgb hmb hs hvr;have hnm:=namesA_spec hm hgb hmb hrb hx v1;have hcell:w.cell? ⟨Bs,rob+o,none⟩=some vold:=by rw [cell_of hcB];exact hvo
  have hfz:w.frozen? ⟨Bs,rob+o,none⟩=false:=by
   simp only [World.frozen?,hcB];exact hnB _ (Array.getElem?_eq_some_iff.1 hvo).1
  refine (add_any Bs (rob+o) vold r1 (ss.map sOf) xs w cB eB frB hcB hcell hfz hrow hown hnm (by simpa using hle)).mono ?_;rintro e w' ⟨v',rfl,hc',hrow',hfr⟩;rcases hres with ⟨he,hr⟩ | ⟨he,hr⟩
  ·cases hr
   have hlen:=addM_len (ss.map sOf) (xs.map sOf);rw [he] at hrow' hlen ⊢;have hss:ss.map sOf=[]:=List.eq_nil_of_length_eq_zero (by have:=hlen.1;simpa using this);rw [hss] at hrow ⊢;have hnil:∀ {W:World} {u:Value},RowP W u []→u=.slice none 0 0:=fun h=>by
    rcases h with ⟨h,-⟩ | ⟨b,o,cap,c,e,fr,-,h1,-⟩
    ·exact h
    ·simp at h1
   obtain rfl:=hnil hrow;obtain rfl:=hnil hrow';have hsame:∀ k,k<w.heap.size→w'.heap[k]?=w.heap[k]?:=fun k hk=>by
    by_cases hkb:k=Bs
    ·subst hkb
     rw [hfr.box _ _ _ hcB,hcB]
     congr 2
     apply Array.ext_getElem?;intro i;rw [Array.getElem?_setIfInBounds]
     split
     ·rename_i e
      subst e;rw [if_pos (Array.getElem?_eq_some_iff.1 hvo).1,hvo]
     ·rfl
    ·exact hfr.other k hk hkb (by simp [Value.ownBlock])
   exact ⟨G,Stp.world hm hfr.os hfr.tape hfr.output hfr.size hsame,_,rfl,by simp [VR]⟩
  ·cases hr
   obtain ⟨G',hst⟩:=stp_add hm (hF nx (Nat.le_refl _) (Nat.lt_succ_self _)) hgb hmb (List.getElem?_eq_some_iff.1 ho).1 hrow' he hfr hown rbo hrb;exact ⟨G',hst,_,rfl,rfl⟩
 ·obtain ⟨-,b,o,nm,cs,old,ss,rbo,xs,-,-,-,-,-,-,hres⟩:=key h
  rcases hres with ⟨-,hr⟩ | ⟨-,hr⟩ <;> cases hr
  ·exact Nat.le_refl _
  ·exact Nat.le_succ _
 ·obtain ⟨rfl,-⟩:=key h
  exact ⟨_,Tryz.func178,by kernel_rfl,by kernel_rfl⟩
end
def insU (x:Str):List Str→List Str
 | []=>[x]
 | y :: r=>match Op.bytesLess x y with
   | true=>x::y::r
   | false=>match x==y with
     | true=>y::r
     | false=>y::insU x r
def ofF (κ:Int) (l:List Vl):List Str:=(txVs κ l).foldr (fun b r=>insU (sOf b) r) []
theorem mem_insU (x:Str):∀ (l:List Str) (z:Str),z∈insU x l↔z=x∨z∈l
 | [],z=>by simp [insU]
 | y :: r,z=>by
   unfold insU
   split
   ·simp
   ·split
    ·rename_i h
     have:x=y:=by simpa using h
     subst this;simp
    ·rw [List.mem_cons,mem_insU x r z,List.mem_cons]
     constructor
     ·rintro (h | h | h)
      ·exact .inr (.inl h)
      ·exact .inl h
      ·exact .inr (.inr h)
     ·rintro (h | h | h)
      ·exact .inr (.inl h)
      ·exact .inl h
      ·exact .inr (.inr h)
theorem insU_rises (x:Str):∀ {l:List Str},risesB l→risesB (insU x l)
 | [],_=>by simp [insU,risesB]
 | y :: r,h=>by
   obtain ⟨h1,h2⟩:=List.pairwise_cons.1 h;unfold insU
   split
   ·rename_i hb
    rw [bytesLess_eq] at hb;have hlt:=of_decide_eq_true hb
    exact List.pairwise_cons.2 ⟨fun z hz=>by
     rcases List.mem_cons.1 hz with rfl | hz
     ·exact hlt
     ·exact List.lt_trans hlt (h1 z hz),h⟩
   ·rename_i hb
    rw [bytesLess_eq] at hb;have hnl:¬x<y:=of_decide_eq_false hb
    split
    ·exact h
    ·rename_i he
     have hne:x≠y:=by simpa using he
     have hyx:y<x:=str_lt (List.not_lt.1 hnl) (fun e=>hne e.symm)
     exact List.pairwise_cons.2 ⟨fun z hz=>by
      rcases (mem_insU x r z).1 hz with rfl | hz
      ·exact hyx
      ·exact h1 z hz,insU_rises x h2⟩
theorem rises_unique:∀ {a b:List Str},risesB a→risesB b→(∀ x,x∈a↔x∈b)→a=b
 | [],[],_,_,_=>rfl
 | [],y::b,_,_,h=>absurd ((h y).2 List.mem_cons_self) (by simp)
 | x::a,[],_,_,h=>absurd ((h x).1 List.mem_cons_self) (by simp)
 | x :: a,y::b,ha,hb,h=>by
   obtain ⟨a1,a2⟩:=List.pairwise_cons.1 ha;obtain ⟨b1,b2⟩:=List.pairwise_cons.1 hb;have hxy:x=y:=by
    rcases List.mem_cons.1 ((h x).1 List.mem_cons_self) with e | hx
    ·exact e
    ·rcases List.mem_cons.1 ((h y).2 List.mem_cons_self) with e | hy
     ·exact e.symm
     ·exact absurd (List.lt_trans (a1 y hy) (b1 x hx)) (List.lt_irrefl x)
   subst hxy
   congr 1
   refine rises_unique a2 b2 fun z=>⟨fun hz=>?_,fun hz=>?_⟩
   ·rcases List.mem_cons.1 ((h z).1 (List.mem_cons_of_mem _ hz)) with e | hz'
    ·subst e;exact absurd (a1 _ hz) (List.lt_irrefl _)
    ·exact hz'
   ·rcases List.mem_cons.1 ((h z).2 (List.mem_cons_of_mem _ hz)) with e | hz'
    ·subst e;exact absurd (b1 _ hz) (List.lt_irrefl _)
    ·exact hz'
theorem ofF_eq (κ:Int) (l:List Vl):ofF κ l=ofM κ l:=by
 have h:∀ t:List ByteArray,risesB (t.foldr (fun b r=>insU (sOf b) r) [])∧∀ z,z∈t.foldr (fun b r=>insU (sOf b) r) []↔z∈t.map sOf:=by
  intro t
  induction t with
  | nil=>exact ⟨List.Pairwise.nil,fun z=>by simp⟩
  | cons b t ih =>
    refine ⟨insU_rises _ ih.1,fun z=>?_⟩;rw [List.foldr_cons,mem_insU,ih.2,List.map_cons,List.mem_cons]
 exact rises_unique (h _).1 (ofM_rises κ l) fun z=>by rw [ofF,(h _).2,mem_ofM]
def decDs:Nat→List AV→Option (List Dl)
 | 0,_=>none
 | _+1,[]=>some []
 | n+1,.g (.string s)::lv::.g (.bool b)::rest=>match decL n lv,decDs n rest with
   | some l,some r=>some (⟨s,l,b⟩::r)
   | _,_=>none
 | _+1,_=>none
def decD (n:Nat):AV→Option (List Dl)
 | .sl k 3 cs=>match decDs n cs with
   | some l=>if l.length=k then some l else none
   | none=>none
 | .z0=>some []
 | .g (.slice none 0 0)=>some []
 | _=>none
theorem decDs_spec:∀ (n:Nat) (cs:List AV) (l:List Dl),decDs n cs=some l→Rfns cs (l.flatMap encD)
 | 0,cs,l,h=>by simp [decDs] at h
 | n + 1,cs,l,h=>by
   unfold decDs at h
   split at h
   ·cases h
   ·cases h
    rw [List.flatMap_nil,Rfns]
    trivial
   ·rename_i n0 s lv b rest he
    obtain rfl:n0=n:=by omega
    split at h
    ·rename_i l' r h1 h2
     cases h
     rw [List.flatMap_cons,encD];exact ⟨.refl _,(dec_spec n0).2 _ _ h1,.refl _,decDs_spec n0 _ _ h2⟩
    ·cases h
   ·cases h
theorem decD_spec (n:Nat) (a:AV) (l:List Dl) (h:decD n a=some l):Rfn a (.sl l.length 3 (l.flatMap encD)):=by
 unfold decD at h
 split at h
 ·rename_i k cs
  split at h
  ·rename_i l' h1
   split at h
   ·rename_i hl
    cases h
    subst hl;exact rfn_sl (decDs_spec _ _ _ h1)
   ·cases h
  ·cases h
 ·cases h;exact rfn_z0 3
 ·cases h;exact rfn_nil 3
 ·cases h
def isSl:AV→Bool
 | .sl _ _ _=>true
 | .z0=>true
 | .g (.slice _ _ _)=>true
 | _=>false
theorem isSl_spec {a:AV} {w:World} {G:Gh} {v:Value} (h:isSl a=true) (hv:VR w G a v):∃ x n c,v=.slice x n c:=by
 unfold isSl at h
 split at h
 ·obtain ⟨x,c,rfl,-⟩:=hv;exact ⟨_,_,_,rfl⟩
 ·obtain ⟨x,rfl⟩:=hv;exact ⟨_,_,_,rfl⟩
 ·obtain rfl:v=_:=hv;exact ⟨_,_,_,rfl⟩
 ·cases h
def shortD:List Dl→Bool
 | []=>true
 | d::r=>Nat.ble d.l.length 1000000&&shortD r
theorem shortD_all:∀ {l:List Dl},shortD l=true→∀ d∈l,d.l.length≤1000000
 | [],_,d,hd=>by simp at hd
 | x::l,h,d,hd=>by
   rw [shortD,Bool.and_eq_true] at h;rcases List.mem_cons.1 hd with rfl | hd
   ·exact Nat.le_of_ble_eq_true h.1
   ·exact shortD_all h.2 d hd
def pick18:FuncId→Bool:=fun f=>Nat.beq f 179||(Nat.beq f 249||Nat.beq f 188)
def refsO (a:AV):Option AV:=match decL 1000 a with
 | some l=>match okVs l&&Nat.ble (cntVs l) 1000000 with
   | true=>some (strsAV ((dd (rfVs l)).map sOf))
   | false=>none
 | none=>none
def ofO (a:AV) (κ:Int):Option AV:=match decL 1000 a with
 | some l=>match Nat.ble (cntVs l) 1000000 with
   | true=>some (strsAV (ofF κ l))
   | false=>none
 | none=>none
def famO (kind mn mx:Int) (a1 a2 a3 a6 a7:AV):Option AV:=match decD 1000 a2 with
 | some ds=>match isSl a1&&(isSl a3&&(isSl a6&&(isSl a7&&(shortD ds&&(Nat.ble ds.length 1000000&&(mn==mn&&mx==mx)))))) with
   | true=>some (.tup [.g (.string (famM kind ds).1),.g (.bool (famM kind ds).2)])
   | false=>none
 | none=>none
def known18:FuncId→List AV→Option AV:=fun f args=>match Nat.beq f 179 with
 | true=>match args with
   | [a]=>refsO a
   | _=>none
 | false=>match Nat.beq f 249 with
   | true=>match args with
     | [a,.g (.int .i64 κ)]=>ofO a κ
     | _=>none
   | false=>match Nat.beq f 188 with
     | true=>match args with
       | [.agg [.g (.int .i64 kind),a1,a2,a3,.g (.int .i64 mn),.g (.int .i64 mx),a6,a7]]=>famO kind mn mx a1 a2 a3 a6 a7
       | _=>none
     | false=>none
theorem refsO_ok {a r:AV} (h:refsO a=some r):Shut Tryz.prog 179 [a] r:=by
 unfold refsO at h
 split at h
 ·rename_i l hl
  split at h
  ·rename_i hc
   cases h
   rw [Bool.and_eq_true] at hc;intro w rargs ha;obtain ⟨v,vs,e,hv,hvs⟩:=ha;obtain rfl:vs=[]:=hvs;have hra:rargs=#[v]:=by cases rargs;simp_all
   rw [hra];refine (refs_any v l w (Nat.le_of_ble_eq_true hc.2) hc.1 ((dec_spec 1000).2 a l hl _ _ _ hv)).mono ?_;rintro e w' ⟨v',rfl,ho,hB⟩;exact ⟨v',rfl,new_owns (by rw [←map_sOf];exact ho),hB⟩
  ·cases h
 ·cases h
theorem ofO_ok {a r:AV} {κ:Int} (h:ofO a κ=some r):Shut Tryz.prog 249 [a,.g (.int .i64 κ)] r:=by
 unfold ofO at h
 split at h
 ·rename_i l hl
  split at h
  ·rename_i hc
   cases h
   intro w rargs ha;obtain ⟨v,vs,e,hv,v1,vs1,rfl,hv1,hvs⟩:=ha;obtain rfl:vs1=[]:=hvs;obtain rfl:v1=_:=hv1;have hra:rargs=#[v,.int .i64 κ]:=by cases rargs;simp_all
   rw [hra];refine (of_any κ v l w (Nat.le_of_ble_eq_true hc) ((dec_spec 1000).2 a l hl _ _ _ hv)).mono ?_;rintro e w' ⟨v',rfl,ho,hB⟩;exact ⟨v',rfl,by rw [ofF_eq];exact new_owns ho,hB⟩
  ·cases h
 ·cases h
theorem famO_ok {kind mn mx:Int} {a1 a2 a3 a6 a7 r:AV} (h:famO kind mn mx a1 a2 a3 a6 a7=some r):Shut Tryz.prog 188 [.agg [.g (.int .i64 kind),a1,a2,a3,.g (.int .i64 mn),.g (.int .i64 mx),a6,a7]] r:=by
 unfold famO at h
 split at h
 ·rename_i ds hds
  split at h
  ·rename_i hc
   cases h
   simp only [Bool.and_eq_true] at hc;obtain ⟨c1,c3,c6,c7,cd,cl,-⟩:=hc;intro w rargs ha;obtain ⟨v,vs,e,⟨rc,rfl,hv⟩,hvs⟩:=ha;obtain rfl:vs=[]:=hvs;have hra:rargs=#[.agg rc]:=by cases rargs;simp_all
   rw [hra];obtain ⟨x0,t0,e0,y0,x1,t1,rfl,y1,x2,t2,rfl,y2,x3,t3,rfl,y3,x4,t4,rfl,y4,x5,t5,rfl,y5,x6,t6,rfl,y6,x7,t7,rfl,y7,yy⟩:=hv;obtain rfl:t7=[]:=yy;obtain rfl:x0=_:=y0;obtain rfl:x4=_:=y4;obtain rfl:x5=_:=y5;obtain ⟨s1,n1,q1,rfl⟩:=isSl_spec c1 y1;obtain ⟨s3,n3,q3,rfl⟩:=isSl_spec c3 y3;obtain ⟨s6,n6,q6,rfl⟩:=isSl_spec c6 y6;obtain ⟨s7,n7,q7,rfl⟩:=isSl_spec c7 y7;have hd:=decD_spec 1000 a2 ds hds _ _ _ y2;obtain ⟨ad,cap,rfl,-⟩:=At.sl_form hd;have hrc:rc=#[.int .i64 kind,.slice s1 n1 q1,.slice ad ds.length cap,.slice s3 n3 q3,.int .i64 mn,.int .i64 mx,.slice s6 n6 q6,.slice s7 n7 q7]:=by cases rc;simp_all
   rw [hrc];refine (callsIn_wide (n:=9).1 (family_in 9 (by omega) kind mn mx s1 s3 s6 s7 ad n1 q1 n3 q3 n6 q6 n7 q7 cap ds w hd (Nat.le_of_ble_eq_true cl) (shortD_all cd))).mono ?_;rintro e w' ⟨rfl,hB⟩;refine ⟨_,rfl,⟨_,rfl,?_⟩,hB⟩;exact VRs.cons_mk rfl (VRs.cons_mk rfl (by rw [VRs]))
  ·cases h
 ·cases h
theorem known18_ok {GT:GTab}:ChOk Tryz.prog GT (shutCH pick18 1000 known18):=by
 refine shutCH_ok fun f args a _ h=>?_;unfold known18 at h
 split at h
 ·rename_i hf
  obtain rfl:f=179:=Nat.eq_of_beq_eq_true hf
  split at h
  ·exact ⟨refsO_ok h,_,Tryz.func179,by kernel_rfl,by kernel_rfl⟩
  ·cases h
 ·split at h
  ·rename_i hf
   obtain rfl:f=249:=Nat.eq_of_beq_eq_true hf
   split at h
   ·exact ⟨ofO_ok h,_,Tryz.func249,by kernel_rfl,by kernel_rfl⟩
   ·cases h
  ·split at h
   ·rename_i hf
    obtain rfl:f=188:=Nat.eq_of_beq_eq_true hf
    split at h
    ·exact ⟨famO_ok h,_,Tryz.func188,by kernel_rfl,by kernel_rfl⟩
    ·cases h
   ·cases h
end Go.Proofs.YtabliahkhafddaaGreat
namespace Go.Proofs.YtabliahkhafddaaGreat
open Go.RowKit Go.Ev
def orCH (A B:CH):CH:=fun f args rd cur nx=>match A f args rd cur nx with
 | some r=>some r
 | none=>B f args rd cur nx
theorem orCH_cases {A B:CH} {f:FuncId} {args:List AV} {rd:List Mem} {cur:Mem} {nx:Nat} {r:AO×Mem×Nat} (h:orCH A B f args rd cur nx=some r):A f args rd cur nx=some r∨B f args rd cur nx=some r:=by
 unfold orCH at h
 split at h
 ·rename_i r' hr;cases h;exact .inl hr
 ·exact .inr h
theorem orCH_ok {P:Program} {GT:GTab} {A B:CH} (hA:ChOk P GT A) (hB:ChOk P GT B):ChOk P GT (orCH A B) :=
 ⟨fun h=>(orCH_cases h).elim hA.tri hB.tri,fun h=>(orCH_cases h).elim hA.nx hB.nx,fun h=>(orCH_cases h).elim hA.fn hB.fn⟩
theorem PStep.refl {w:World} {I:Nat→Prop} (h:∀ rb,I rb→rb<w.heap.size):PStep w I w I:=⟨fun _ h=>h,fun _ h=>.inl h,h,rfl,rfl,rfl,Nat.le_refl _,fun _ _=>rfl⟩
def idxO:FuncId→List AV→Option AV:=fun f args=>match Nat.beq f 410,args with
 | true,[.g (.string s),.g (.int .u8 c)]=>some (.g (.int .i64 (Lib.indexByte s.data.toList c.toNat.toUInt8)))
 | _,_=>none
theorem idxO_ok {GT:GTab}:ChOk Tryz.prog GT (tabCH idxO):=by
 refine tabCH_ok fun f args a h=>?_;unfold idxO at h
 split at h
 ·rename_i s c hf
  cases h
  obtain rfl:f=410:=Nat.eq_of_beq_eq_true hf;refine ⟨fun w I rargs hI hgt ha=>?_,_,Tryz.func410,by kernel_rfl,by kernel_rfl⟩;obtain ⟨v0,vs,e0,h0,v1,vs1,rfl,h1,h2⟩:=ha;rw [VRs] at h2;subst h2;obtain rfl:rargs=#[v0,v1]:=by rw [←Array.toList_inj];exact e0
  obtain rfl:v0=.string s:=h0;obtain rfl:v1=.int .u8 c:=h1;refine (Tryz.stringslite_IndexByte s c w).mono ?_;rintro e w' ⟨rfl,rfl⟩;exact ⟨I,PStep.refl hI,_,rfl,rfl⟩
 ·cases h
theorem prOk:PrOk Tryz.prog:=PrOk.of_all (by kernel_rfl) (by kernel_rfl)
def pol18:FuncId→Bool:=fun f=>!(Nat.beq f 184||Nat.beq f 306)
end Go.Proofs.YtabliahkhafddaaGreat
namespace Go.Proofs.YtabliahkhafddaaGreat
open Go.RowKit
def IterS {α:Type} (P:Program) (g:Nat) (lb:Array Value) (encs:α→Array Value) (nb pb z N:Nat) (S:List α→Prop) (w:World):Prop :=
 ∀ (n l:Nat) (Ow:World→Nat→Prop) (J:List α→World→Prop) (W:World),Below w.heap.size w W→(∀ k,Ow W k→k<W.heap.size)→¬Ow W nb→¬Ow W pb→(∀ s A B,J s A→Below A.heap.size A B→J s B) →
   (∀ s A u,J s A→J s (A.setCell ⟨nb,0,none⟩ u))→(∀ A B k,W.heap.size≤A.heap.size→Below A.heap.size A B→Ow B k→Ow A k)→(∀ A u k,Ow (A.setCell ⟨nb,0,none⟩ u) k↔Ow A k) →
   (∀ m pre x A,J pre A→pre.length<N→W.heap.size≤A.heap.size→YieldAt Fence.wide m P l (encs x) A fun e B=>e=.returned (.bool true)∧J (pre++[x]) B∧KO Ow z A B) →
   J [] W→CallsIn Fence.wide n P g (#[.func (.yield l) #[] #[]]++lb) W fun e B=>(∃ v,e=.returned v)∧∃ xs,S xs∧J xs B∧KO (fun W k=>k=nb∨Ow W k) z W B
section
variable {n:Nat} {P:Program} {α:Type}
theorem range_allS {g:Operand} {ps:Array Tmp} {assign body:Code} {Q:Exit→Act→World→Prop} {a:Act} {w:World}
 {gf:Nat} {lb:Array Value} (hg:a.eval g=.func (.func gf) #[] lb) (eg:∀ args w,(callFunc gf args).run P w=.ok (.enter gf args) w)
 {encs:α→Array Value} (hps:∀ x,(encs x).size=ps.size) {nb pb z N:Nat} {S:List α→Prop} (hzw:z≤w.heap.size) (hnw:nb<w.heap.size) (hpw:pb<w.heap.size)
 (I:List α→World→Prop) (Ow:World→Nat→Prop) (h0:I [] w) (hIa:∀ s A B,I s A→Below A.heap.size A B→I s B)
 (hIL:∀ s A r r',I s A→A.heap[w.heap.size+1]?=some (.loop r)→I s (A.putObj (w.heap.size+1) (.loop r')))
 (hOw:∀ k,Ow w k→k<w.heap.size) (hOa:∀ A B k,w.heap.size≤A.heap.size→Below A.heap.size A B→Ow B k→Ow A k) (hOL:∀ A r r' k,A.heap[w.heap.size+1]?=some (.loop r)→(Ow (A.putObj (w.heap.size+1) (.loop r')) k↔Ow A k))
 (hOD:∀ s A,I s A→¬Ow A w.heap.size∧¬Ow A (w.heap.size+1))
 (hIs:∀ s A u,I s A→I s (A.setCell ⟨nb,0,none⟩ u)) (hOn:¬Ow w nb) (hOp:¬Ow w pb) (hOs:∀ A u k,Ow (A.setCell ⟨nb,0,none⟩ u) k↔Ow A k)
 (hseq:IterS P gf lb encs nb pb z N S w) (a₁:α→Act)
 (hassign:∀ (l:Nat) (x:α) (W:World) (m:Nat) (K:Act→World→Prop),K (a₁ x) W →
   assign.wpIn (Fence.wide.inRound l) m P (Exit.then K (fun _ _ _=>False)) { tmps:=(ps.zip (encs x)).foldl (fun t (p,v)=>t.setIfInBounds p v) a.tmps,defers:=[] } W)
 (hbody:∀ (l:Nat) (pre:List α) (x:α) (W:World) (m:Nat),I pre W→pre.length<N→w.heap.size+2≤W.heap.size→body.wpIn (Fence.wide.inRound l) m P (fun e _ B=>e=.normal∧I (pre++[x]) B∧KO Ow z W B) (a₁ x) W)
 (hdone:∀ (D:Nat) (xs:List α) (W:World),w.heap.size≤D→S xs→I xs W→Below z w W→W.heap[D]?=some (.deferred (some []))→Q .normal { a with defers:={ target:=.collected D,args:=#[] }::a.defers } W) :
 (Code.rangeFunc g ps assign body).wpIn Fence.wide n P Q a w:=by
 refine wpIn_rangeFunc fun fn hfn=>?_;rw [show Fence.wide.round=none from rfl];generalize hL:w.heap.size+1=L at *;generalize hD:w.heap.size=D at *;obtain ⟨mk,hmk⟩:∃ mk:LoopState→Option Code→Loop,mk=fun st pe=>{ state:=st,pending:=pe,fn,tmps:=a.tmps,params:=ps,assign,body,defers:=D }:=⟨_,rfl⟩;have e1:∀ pe st,(mk st pe).state=st:=fun pe st=>by rw [hmk]
 have e2:∀ pe st,(mk st pe).pending=pe:=fun pe st=>by rw [hmk]
 have e3:∀ pe st pe' st',{ mk st pe with state:=st',pending:=pe' }=mk st' pe':=fun pe st pe' st'=>by rw [hmk]
 have e4:∀ pe st st',{ mk st pe with state:=st' }=mk st' pe:=fun pe st st'=>by rw [hmk]
 have hne:D≠L:=by omega
 let W1:=(w.alloc (.deferred (some []))).alloc (.loop (mk .ready none))
 have hbook:Book L D (mk .ready none) W1:=by
  refine ⟨?_,?_⟩
  ·have:=World.alloc_heap_new (w.alloc (.deferred (some []))) (.loop (mk .ready none))
   rw [World.size_alloc,hD,hL] at this;exact this
  ·have:=World.alloc_heap_new w (.deferred (some []))
   rw [hD] at this;exact (Below.heap_alloc _ _ _ (by simp;omega)).trans this
 have hb1:Below w.heap.size w W1:=((Below.refl _ w).alloc (Nat.le_refl _) _).alloc (by simp) _;have hI1:I [] W1:=hIa _ _ _ h0 hb1;have hs1:W1.heap.size=D+2:=by show ((w.alloc _).alloc _).heap.size=_;simp;omega
 have hOw1:∀ k,Ow W1 k→k<W1.heap.size:=fun k hk=>by have:=hOw k (hOa _ _ _ (by omega) hb1 hk);omega
 refine ⟨L,[{ target:=.collected D,args:=#[] }],W1,{ target:=.fn (.func gf) lb,args:=#[.func (.yield L) #[] #[]] },W1,gf,#[.func (.yield L) #[] #[]]++lb,W1,?_,?_,fun f _=>trivial,?_,fun h=>(by cases h),?_⟩
 ·have:=run_enterLoop_outer (P:=P) (w:=w) fn a.tmps ps assign body
  rw [hD,hL] at this;rw [this];show _=Result.ok _ ((w.alloc _).alloc (.loop (mk .ready none)));rw [hmk]
 ·simp only [resolve,hg];simp [go_sem]
 ·simp [invoke,go_sem,eg]
 have hLsz:L<W1.heap.size:=by omega
 refine (hseq (n - 1) L (fun W k=>k=L∨Ow W k) (fun pre W=>I pre W∧Book L D (mk .ready none) W) W1 hb1 (fun k hk=>hk.elim (fun h=>by omega) (hOw1 k)) (fun hk=>hk.elim (fun h=>by omega) (fun h=>hOn (hOa _ _ _ (by omega) hb1 h))) (fun hk=>hk.elim (fun h=>by omega) (fun h=>hOp (hOa _ _ _ (by omega) hb1 h)))
  (fun s A B h hb=>⟨hIa _ _ _ h.1 hb,⟨(hb.block _ (Array.getElem?_eq_some_iff.1 h.2.1).1).trans h.2.1,(hb.block _ (Array.getElem?_eq_some_iff.1 h.2.2).1).trans h.2.2⟩⟩)
  (fun s A u h=>⟨hIs _ _ _ h.1,⟨(Below.heap_setCell A ⟨nb,0,none⟩ u L (by show L≠nb;omega)).trans h.2.1,(Below.heap_setCell A ⟨nb,0,none⟩ u D (by show D≠nb;omega)).trans h.2.2⟩⟩)
  (fun A B k hs hb hk=>hk.imp id (hOa _ _ _ (by omega) hb)) (fun A u k=>or_congr Iff.rfl (hOs A u k)) ?_ ⟨hI1,hbook⟩).mono ?_
 ·rintro m pre x A ⟨hi,hbk⟩ hpN hsz
  have hy:=run_yield (P:=P) (args:=encs x) hbk.1 (by rw [hmk];exact hps x);refine ⟨fn,(ps.zip (encs x)).foldl (fun t (p,v)=>t.setIfInBounds p v) a.tmps,assign,body,by rw [hy];rw [hmk],roundIn_of_wpIn hfn (hassign L x A m _ ⟨_,run_beginRound hbk.1 (e1 _ _),?_⟩)⟩;rw [e4];have hbk2:Book L D (mk .busy none) (A.putObj L (.loop (mk .busy none))):=hbk.put hne;have hi2:I pre (A.putObj L (.loop (mk .busy none))):=hIL _ _ _ _ hi hbk.1;have hOL2:∀ k,Ow (A.putObj L (.loop (mk .busy none))) k↔Ow A k:=fun k=>hOL _ _ _ _ hbk.1;have hsame2:∀ k,k≠L→(A.putObj L (.loop (mk .busy none))).heap[k]?=A.heap[k]?:=fun k hk=>World.putObj_heap_other hk;have hsz2:(A.putObj L (.loop (mk .busy none))).heap.size=A.heap.size:=by simp
  have hos2:(A.putObj L (.loop (mk .busy none))).os=A.os∧(A.putObj L (.loop (mk .busy none))).tape=A.tape∧(A.putObj L (.loop (mk .busy none))).output=A.output:=⟨rfl,rfl,rfl⟩;generalize A.putObj L (.loop (mk .busy none))=B at hbk2 hi2 hOL2 hsame2 hsz2 hos2;refine wpIn_mono (hbody L pre x B m hi2 hpN (by omega)) ?_;rintro e a3 C ⟨rfl,hi3,hk⟩;obtain ⟨hnD,hnL⟩:=hOD _ _ hi2;have hLB:L<B.heap.size:=(Array.getElem?_eq_some_iff.1 hbk2.1).1;have hDB:D<B.heap.size:=(Array.getElem?_eq_some_iff.1 hbk2.2).1;have hl:C.heap[L]?=some (.loop (mk .busy none)):=(hk.same L hLB hnL).trans hbk2.1;have hr:=run_endRound (P:=P) none hl;rw [e3] at hr;have hbC:Book L D (mk .ready none) (C.putObj L (.loop (mk .ready none))):=Book.put (r:=mk .busy none) ⟨hl,(hk.same D hDB hnD).trans hbk2.2⟩ hne;refine ⟨_,_,hr,rfl,⟨hIL _ _ _ _ hi3 hl,hbC⟩,?_,?_,?_,?_⟩
  ·intro k hkA hn
   have hn1:k≠L:=fun h=>hn (.inl h);have hn2:¬Ow A k:=fun h=>hn (.inr h);rw [World.putObj_heap_other hn1,hk.same k (by omega) (fun h=>hn2 ((hOL2 k).1 h)),hsame2 k hn1]
  ·intro k hkA ho
   exact ho.imp id fun ho=>(hOL2 k).1 (hk.own k (by omega) ((hOL _ _ _ _ hl).1 ho))
  ·intro k ho
   have hs:(C.putObj L (.loop (mk .ready none))).heap.size=C.heap.size:=by simp
   have hCB:=hk.below.size;show k<(C.putObj L (.loop (mk .ready none))).heap.size;rcases ho with h | h
   ·omega
   ·have:=hk.lt k ((hOL _ _ _ _ hl).1 h);omega
  ·have hb:=hk.below
   refine ⟨hb.os.trans hos2.1,hb.tape.trans hos2.2.1,hb.output.trans hos2.2.2,?_,fun k hkz=>?_⟩
   ·have hs:(C.putObj L (.loop (mk .ready none))).heap.size=C.heap.size:=by simp
    have:=hb.size;show A.heap.size≤(C.putObj L (.loop (mk .ready none))).heap.size;omega
   ·have hkL:k≠L:=by omega
    show (C.putObj L (.loop (mk .ready none))).heap[k]?=_;rw [World.putObj_heap_other hkL,hb.block k hkz,hsame2 k hkL]
 ·rintro e C ⟨⟨v,rfl⟩,xs,hS,⟨hi,hb⟩,hKO⟩
  have hr:=run_endLoop (P:=P) hb.1 (by rw [e1];simp);rw [e4,e2] at hr;have hB2:Below z w C:=(hb1.mono (by omega)).trans hKO.below;refine ⟨none,_,hr,hdone D xs _ (Nat.le_refl _) hS (hIL _ _ _ _ hi hb.1) ?_ ((World.putObj_heap_other hne).trans hb.2)⟩;refine ⟨hB2.os,hB2.tape,hB2.output,?_,fun k hkz=>?_⟩
  ·have hs:(C.putObj L (.loop (mk .exhausted none))).heap.size=C.heap.size:=by simp
   have:=hB2.size;omega
  ·rw [World.putObj_heap_other (by omega)]
   exact hB2.block k hkz
end
end Go.Proofs.YtabliahkhafddaaGreat
end
