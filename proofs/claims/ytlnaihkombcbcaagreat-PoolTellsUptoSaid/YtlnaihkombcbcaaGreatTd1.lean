/- A range over a function whose rounds begin with a variable of their own. Of no program. -/
import Derived.Test.YtlnaihkombcbcaaGreatTc8
import Derived.Test.YtlnaihkombcbcaaGreatTd0
import Derived.Sort.OwnSorted
import Derived.RangeFuncBox
import Derived.Maps.OwnIn
import Derived.Test.YtlnaihkombcbcaaGreatTc2
set_option linter.unusedSimpArgs false
noncomputable section
namespace Go.Proofs.YtlnaihkombcbcaaGreat
open Go.RowKit Go.Sort Go.Ev
attribute [local go_sem] Oper.semAt_some
theorem Tryz.infoS:(Tryz.prog.info? 9).map (fun i=>(i.zero,i.size,i.bytes))=some (some (.string ByteArray.empty),1,16):=by kernel_rfl
theorem of_iter (z:Nat) (κ:Int) (Bl Bk:Nat) (v:Value) (vs:List Vl) (w:World) (hcn:cntVs vs≤1000000) (hz:z≤w.heap.size) (hv:AtB z w (.sl vs.length 5 (vs.flatMap encV)) v)
 (hl:w.cell? ⟨Bl,0,none⟩=some v) (hk:w.cell? ⟨Bk,0,none⟩=some (.int .i64 κ)) (hlz:Bl<z) (hkz:Bk<z) :
 IterAll Tryz.prog 152 #[.pointer (some ⟨Bl,0,none⟩),.pointer (some ⟨Bk,0,none⟩)] (fun x:ByteArray=>#[.string x]) z (txVs κ vs).length (fun xs=>xs=txVs κ vs) w:=by
 intro n l Ow J W hW hOs hJ hO hY h0;have hWz:Below z w W:=hW.mono hz;have hl':=(hWz.cell (p:=⟨Bl,0,none⟩) hlz).trans hl;have hk':=(hWz.cell (p:=⟨Bk,0,none⟩) hkz).trans hk;have HT:=Lib.hid (texts_in l z W.heap.size (txVs κ vs).length κ Ow J hJ hO (Nat.le_trans hz hW.size) hY _ vs (Nat.le_refl _) hcn (n - 1) v [] W (by simp) (Nat.le_refl _) (hv.below hWz) h0 hOs);obtain ⟨ad,cap,rfl,-⟩:=AtB.sl_form hv;clear hv;refine callsIn_of_wp Tryz.func152 rfl trivial ?_ rfl;simp only [Tryz.ntmps152,List.size_toArray,List.length_cons,List.length_nil,Nat.reduceAdd,Nat.reduceSub,Array.replicate_succ,Array.replicate_zero,List.push_toArray,List.append_toArray,List.nil_append,List.cons_append]
 gi_wp2_with fail
 refine ⟨trivial,fun h=>(by cases h),HT.out.mono ?_⟩;rintro e B ⟨rfl,hj,hK⟩
 gi_wp2
 go_end0
 exact ⟨⟨_,rfl⟩,_,rfl,by simpa using hj,hK⟩
def AIb (B z:Nat) (w:World) (pre:List ByteArray) (W:World):Prop :=
 ∃ v,W.heap[z]?=some (.cells #[v] 25 (0,0))∧W.ownsRow B 9 1 v pre.length (pre.map Value.string)∧Below z w W
def OwB (z:Nat) (W:World) (k:Nat):Prop:=k=z∨∃ v,W.heap[z]?=some (.cells #[v] 25 (0,0))∧v.ownBlock=some k
theorem AIb.own {B z:Nat} {w W:World} {pre:List ByteArray} (h:AIb B z w pre W) {k:Nat} (hk:OwB z W k):k<W.heap.size∧(k=z∨B≤k):=by
 obtain ⟨v,h1,h2,-⟩:=h;rcases hk with rfl | ⟨v',h3,h4⟩
 ·exact ⟨(Array.getElem?_eq_some_iff.1 h1).1,.inl rfl⟩
 ·rw [h1] at h3
  simp only [Option.some.injEq,Obj.cells.injEq,Array.mk.injEq,List.cons.injEq,and_true] at h3;subst h3;have:=h2.lt k h4;exact ⟨this.2,.inr this.1⟩
theorem AIb.below {B z:Nat} {w W W':World} {pre:List ByteArray} (h:AIb B z w pre W) (hb:Below W.heap.size W W'):AIb B z w pre W':=by
 obtain ⟨v,h1,h2,h3⟩:=h;have hz:=(Array.getElem?_eq_some_iff.1 h1).1;exact ⟨v,(hb.block _ hz).trans h1,owns_below h2 hb,h3.trans (hb.mono (Nat.le_of_lt hz))⟩
theorem AIb.put {B z j:Nat} {w W:World} {pre:List ByteArray} (h:AIb B z w pre W) (hj:z<j) {r r':Loop} (hr:W.heap[j]?=some (.loop r)):AIb B z w pre (W.putObj j (.loop r')):=by
 obtain ⟨v,h1,h2,h3⟩:=h;refine ⟨v,(World.putObj_heap_other (by omega)).trans h1,ownsRow_putObj h2 _ hr rfl,h3.os,h3.tape,h3.output,?_,fun k hk=>?_⟩
 ·have:=h3.size
  show w.heap.size≤(W.putObj _ _).heap.size;simp;exact this
 ·rw [World.putObj_heap_other (by omega)]
  exact h3.block k hk
theorem box_eq {W:World} {z:Nat} {v v':Value} {t:TypeId} (h:W.heap[z]?=some (.cells #[v] t (0,0))) (h':W.heap[z]?=some (.cells #[v'] t (0,0))):v'=v:=by
 rw [h] at h';simpa using h'.symm
theorem aib_snoc {B z:Nat} (hzB:z<B) {w W w1:World} {pre:List ByteArray} {x:ByteArray} {v1 v2:Value} (h1:W.heap[z]?=some (.cells #[v1] 25 (0,0))) (h2:W.ownsRow B 9 1 v1 pre.length (pre.map Value.string)) (h3:Below z w W) (h4:B≤W.heap.size)
 (hgrow:(W.alloc (.cells #[.string x] 9)).grownBy w1 v1.ownBlock) (hown:w1.ownsRow B 9 1 v2 (pre.length+1) (pre.map Value.string++[.string x])) (hblk:v2.ownBlock=v1.ownBlock∨v2.ownBlock=some (W.alloc (.cells #[.string x] 9)).heap.size) :
 AIb B z w (pre++[x]) (w1.setCell ⟨z,0,none⟩ v2)∧KO (OwB z) z W (w1.setCell ⟨z,0,none⟩ v2):=by
 have hne:=row_ne_low h2 (b:=z) (by omega);have hb1:w1.heap[z]?=some (.cells #[v1] 25 (0,0)):=by
  rw [hgrow.block _ (by simp;omega) hne,Below.heap_alloc _ _ _ (by omega)];exact h1
 have hBg:Below z W w1:=((Below.refl _ W).alloc (by omega) _).grown hgrow (by simp;omega) fun k e=>by have:=(h2.lt k e).1;omega
 have hBs:=hBg.setCell (p:=⟨z,0,none⟩) (Nat.le_refl _) v2;have hbox:(w1.setCell ⟨z,0,none⟩ v2).heap[z]?=some (.cells #[v2] 25 (0,0)):=by
  have:=put_same (o:=0) v2 hb1;simpa using this
 have hown2:(w1.setCell ⟨z,0,none⟩ v2).ownsRow B 9 1 v2 (pre.length+1) (pre.map Value.string++[.string x]):=ownsRow_setCell_below hown (a:=⟨z,0,none⟩) (by exact hzB) v2;refine ⟨⟨v2,hbox,by simpa using hown2,h3.trans hBs⟩,⟨fun k hk hn=>?_,fun k hk ho=>?_,fun k ho=>?_,hBs⟩⟩
 ·have hkz:k≠z:=fun h=>hn (.inl h)
  rw [put_far v2 rfl hkz,hgrow.block k (by simp;omega) fun e=>hn (.inr ⟨v1,h1,e.symm⟩),Below.heap_alloc _ _ _ hk]
 ·rcases ho with h | ⟨v,h5,h6⟩
  ·exact .inl h
  ·obtain rfl:=box_eq hbox h5
   rcases hblk with h7 | h7
   ·exact .inr ⟨v1,h1,h7.symm.trans h6⟩
   ·rw [h6] at h7
    simp at h7;omega
 ·rcases ho with rfl | ⟨v,h5,h6⟩
  ·exact (Array.getElem?_eq_some_iff.1 hbox).1
  ·obtain rfl:=box_eq hbox h5
   exact (hown2.lt k h6).2
set_option maxRecDepth 100000 in
set_option maxHeartbeats 4000000 in
theorem appendall_any (gf:Nat) (heg:∀ args w,(callFunc gf args).run Tryz.prog w=.ok (.enter gf args) w) (lb:Array Value) (N:Nat) (hN:N≤1000000) (S:List ByteArray→Prop) (w:World)
 (hseq:∀ w',Below w.heap.size w w'→w.heap.size≤w'.heap.size→IterAll Tryz.prog gf lb (fun x:ByteArray=>#[.string x]) w.heap.size N S w') :
 Calls Tryz.prog 271 #[.slice none 0 0,.func (.func gf) #[] lb] w fun e w'=>∃ v xs,e=.returned v∧S xs∧w'.ownsRow w.heap.size 9 1 v xs.length (xs.map Value.string)∧Below w.heap.size w w':=by
 obtain ⟨i0,hi,hz0,hz1,hz2⟩:=info_parts Tryz.infoS;refine callsIn_wide (n:=7).1 (callsIn_of_wp_marks Tryz.func271 rfl trivial ?_ rfl);simp only [Tryz.ntmps271,List.size_toArray,List.length_cons,List.length_nil,Nat.reduceAdd,Nat.reduceSub,Array.replicate_succ,Array.replicate_zero,List.push_toArray,List.append_toArray,List.nil_append,List.cons_append]
 gi_wp2
 have hsz1:(w.alloc (.cells #[.slice none 0 0] 25)).heap.size=w.heap.size+1:=by simp
 refine range_all (α:=ByteArray) (gf:=gf) (lb:=lb) rfl heg (encs:=fun x:ByteArray=>#[.string x]) (fun _=>rfl) (z:=w.heap.size) (N:=N) (S:=S) (by rw [hsz1];omega)
  (AIb (w.heap.size+3) w.heap.size w) (OwB w.heap.size) ?start ?ia ?il ?ow ?oa ?ol ?od ?seq (fun x=>{ tmps:=#[.slice none 0 0,.func (.func gf) #[] lb,.pointer (some ⟨w.heap.size,0,none⟩),undef,.slice none 0 0,.string x,.func (.func gf) #[] lb,.string x,undef,undef,undef,undef,undef],defers:=[] }) ?assign ?body ?done
 case start=>exact ⟨_,by rw [heap_al_new],World.ownsRow_nil _ _ _ _,below_alloc _ _⟩
 case ia=>exact fun s A B h hb=>h.below hb
 case il =>
  rw [hsz1];exact fun s A r r' h hr=>h.put (by omega) hr
 case ow =>
  intro k hk;exact (AIb.own (B:=w.heap.size+3) (w:=w) (pre:=[]) ⟨_,by rw [heap_al_new],World.ownsRow_nil _ _ _ _,below_alloc _ _⟩ hk).1
 case oa =>
  intro A B k hA hb hk;rw [hsz1] at hA;rcases hk with h | ⟨v,h1,h2⟩
  ·exact .inl h
  ·exact .inr ⟨v,(hb.block _ (by omega)).symm.trans h1,h2⟩
 case ol =>
  rw [hsz1];intro A r r' k hr;have hz:∀ x,(A.putObj (w.heap.size+1+1) (.loop r')).heap[w.heap.size]?=some x↔A.heap[w.heap.size]?=some x:=fun x=>by rw [World.putObj_heap_other (by omega)]
  exact or_congr Iff.rfl (exists_congr fun v=>and_congr (hz _) Iff.rfl)
 case od =>
  rw [hsz1];intro s A h;exact ⟨fun hk=>by have:=(h.own hk).2;omega,fun hk=>by have:=(h.own hk).2;omega⟩
 case seq=>exact hseq _ (below_alloc _ _) (by simp)
 case assign =>
  intro l x W m K hK
  gi_wp2
  exact hK
 case body =>
  rintro l pre x W m ⟨v1,h1,h2,h3⟩ hpl hWs;rw [hsz1] at hWs;have hc1:W.cell? ⟨w.heap.size,0,none⟩=some v1:=by rw [Lib.cell_of_heap h1];rfl
  have hf1:W.frozen? ⟨w.heap.size,0,none⟩=false:=Lib.frozen_of_heap h1 0
  gi_wp2_with (gi_at_builtin;refine wpListIn_append_own_at _ rfl _ _ 25 rfl (w.heap.size+3) 9 i0 (.string ByteArray.empty) 1 16 Tryz.underlying25 hi hz0 hz1 hz2 rfl (by decide) _ _ _ rfl (h2.alloc _) ⟨W.heap.size,0,none⟩ 1 1 [.string x] rfl rfl ?c1 ?c2 ?c3 ?c4 ?c5 ?_)
  case c1=>exact cell_one_new _ _ _
  case c2=>simp [Value.oneCell']
  case c3=>unfold maxLen;omega
  case c4=>omega
  case c5=>simp;omega
  intro v' w1 hown' hgrow _ hblk;obtain ⟨g',cap',rfl⟩:=ownsRow_succ hown';have HE:=Lib.hid (aib_snoc (by omega) h1 h2 h3 (by omega) hgrow hown' (by rw [World.size_alloc];exact hblk));have hb1:w1.heap[w.heap.size]?=some (.cells #[v1] 25 (0,0)):=by
   rw [hgrow.block _ (by simp;omega) (row_ne_low h2 (b:=w.heap.size) (by omega)),Below.heap_alloc _ _ _ (by omega)];exact h1
  clear hc1 hf1;have hc1:w1.cell? ⟨w.heap.size,0,none⟩=some v1:=by rw [Lib.cell_of_heap hb1];rfl
  have hf1:w1.frozen? ⟨w.heap.size,0,none⟩=false:=Lib.frozen_of_heap hb1 0;clear hb1 h1 h2 h3 hown' hblk
  gi_wp2
  exact HE.out
 case done =>
  rintro D xs W hD hxs ⟨v1,h1,h2,h3⟩ hbel hdef;have hc1:W.cell? ⟨w.heap.size,0,none⟩=some v1:=by rw [Lib.cell_of_heap h1];rfl
  gi_wp2
  refine ⟨by simp,.inl ⟨_,_,rfl,run_takeDeferred hdef,?_⟩⟩;refine ⟨_,results_tmp rfl _ _ _,v1,xs,rfl,hxs,owns_mono (ownsRow_putObj h2 _ hdef rfl) (by omega),?_⟩;exact h3.grown (grownBy_putObj' W D _) h3.size fun k e=>by cases e;simp at hD;omega
theorem map_sOf (xs:List ByteArray):xs.map Value.string=(xs.map sOf).map encStr:=by rw [List.map_map];rfl
def sortM (ss:List Str):List Str:=ss.mergeSort fun x y=>decide (x≤y)
theorem sortM_len (ss:List Str):(sortM ss).length=ss.length:=by simp [sortM]
theorem grow_nil (w:World):grow w #[]=w:=by
 unfold grow
 cases w
 simp
theorem ownsRow_compact {w:World} {base g cap n:Nat} {e:TypeId} {cur:Array Value} {zs:List Str} (hbase:base≤g) (hb:w.heap[g]?=some (.cells cur e (0,0)))
 (h1:zs.length≤cap) (h2:cap≤maxLen) (h3:cur.size=cap*1) :
 (putRow encStr (Sort.ahead w n) g 0 (Lib.compact zs++List.replicate (zs.length - (Lib.compact zs).length) []).toArray).ownsRow base e 1 (.slice (some ⟨g,0,none⟩) (Lib.compact zs).length cap) (Lib.compact zs).length ((Lib.compact zs).map encStr):=by
 have hle:=Lib.compact_length_le zs;have hl:(Lib.compact zs++List.replicate (zs.length - (Lib.compact zs).length) []).length=zs.length:=by simp;omega
 have h9:=(ownsRow_sorted (n:=n) (os:=#[]) hl hbase hb h1 h2 h3).2;have hg:grow (putRow encStr (Sort.ahead w n) g 0 (Lib.compact zs++List.replicate (zs.length - (Lib.compact zs).length) []).toArray) #[]=putRow encStr (Sort.ahead w n) g 0 (Lib.compact zs++List.replicate (zs.length - (Lib.compact zs).length) []).toArray:=by
  exact grow_nil _
 rw [hg] at h9;rcases h9 with ⟨h,-⟩ | ⟨g',cap',cur',hv,hg',hb',h4,h5,h6,h7⟩
 ·cases h
 ·cases hv
  refine ⟨by simp,.inr ⟨g,cap,cur',rfl,hbase,hb',by omega,h5,h6,?_⟩⟩;have h8:=congrArg (List.take (Lib.compact zs).length) h7;rw [List.take_take,Nat.min_eq_left (by omega),List.map_append,List.take_left' (by simp)] at h8;rw [Nat.mul_one];exact h8
theorem below_compact {w w1:World} {g n:Nat} (d:Array Str) (h:Below w.heap.size w w1) (hbase:w.heap.size≤g):Below w.heap.size w (putRow encStr (Sort.ahead w1 n) g 0 d):=by
 have hg:grow (putRow encStr (Sort.ahead w1 n) g 0 d) #[]=putRow encStr (Sort.ahead w1 n) g 0 d:=grow_nil _;have:=h.grown (grownBy_sorted (w:=w1) (g:=g) (n:=n) (os:=#[]) d) h.size fun k e=>by cases e;exact hbase
 rwa [hg] at this
section
variable (gf:Nat) (heg:∀ args w,(callFunc gf args).run Tryz.prog w=.ok (.enter gf args) w) (lb:Array Value) (N:Nat) (hN:N≤1000000) (S:List ByteArray→Prop) (w:World)
 (hseq:∀ w',Below w.heap.size w w'→w.heap.size≤w'.heap.size→IterAll Tryz.prog gf lb (fun x:ByteArray=>#[.string x]) w.heap.size N S w')
include heg hN hseq
set_option maxRecDepth 100000 in
set_option maxHeartbeats 1000000 in
theorem collectall_any :
 Calls Tryz.prog 214 #[.func (.func gf) #[] lb] w fun e w'=>∃ v xs,e=.returned v∧S xs∧w'.ownsRow w.heap.size 9 1 v xs.length (xs.map Value.string)∧Below w.heap.size w w':=by
 have H:=Lib.hid (appendall_any gf heg lb N hN S w hseq);clear hseq heg;generalize Value.func (.func gf) #[] lb=sv at *
 go_enter Tryz.func214,Tryz.ntmps214
 go_wp2_with fail
 refine H.out.mono ?_;rintro e w' ⟨v',xs,rfl,hs,ho,hB⟩
 go_wp2
 go_ret
 exact ⟨_,_,rfl,hs,ho,hB⟩
set_option maxRecDepth 100000 in
set_option maxHeartbeats 1000000 in
theorem sortedall_any (hS:∀ xs,S xs→xs.length≤1000000) :
 Calls Tryz.prog 155 #[.func (.func gf) #[] lb] w fun e w'=>∃ v xs,e=.returned v∧S xs∧w'.ownsRow w.heap.size 9 1 v xs.length ((sortM (xs.map sOf)).map encStr)∧Below w.heap.size w w':=by
 have H:=Lib.hid (collectall_any gf heg lb N hN S w hseq);clear hseq heg;generalize Value.func (.func gf) #[] lb=sv at *
 go_enter Tryz.func155,Tryz.ntmps155
 go_wp2_with fail
 refine H.out.mono ?_;rintro e w1 ⟨v',xs,rfl,hs,ho,hB⟩;have hlx:=hS xs hs;rw [map_sOf] at ho;have hle:xs.length=(xs.map sOf).length:=by simp
 obtain ⟨ss,hss⟩:∃ ss,ss=xs.map sOf:=⟨_,rfl⟩;rw [←hss] at hle ho;rw [hle] at ho hlx;have HL:=Lib.hid (And.intro hss hle);clear hss hle;rcases ho.2 with ⟨rfl,h0⟩ | ⟨g,cap,cur,rfl,hbase,hbk,h1,h2,h3,h4⟩
 ·obtain rfl:ss=[]:=List.eq_nil_of_length_eq_zero h0
  go_wp2_with fail
  refine (Tryz.slices_Sort_string_none _ _ _).mono ?_;rintro e w2 ⟨rfl,rfl⟩
  go_wp2
  go_ret
  have hs9:sortM []=[]:=by simp [sortM]
  exact ⟨_,_,rfl,hs,by rw [←HL.out.1,HL.out.2,hs9];exact World.ownsRow_nil _ _ _ _,hB⟩
 ·have hH:Holds encStr w1 g 0 ss.toArray:=holds_of_block hbk (by simpa using h4)
  go_wp2_with fail
  refine (Tryz.slices_Sort_string g 0 cap ss _ hH (Array.getElem?_eq_some_iff.1 hbk).1 (by omega)).mono ?_;rintro e w2 ⟨rfl,nd,os,rfl⟩;have ho2:=ownsRow_sorted (os:=os) (n:=nd) (ts:=sortM ss) (sortM_len _) hbase hbk h1 h2 h3;have hB2:Below w.heap.size w (grow (putRow encStr (Sort.ahead w1 nd) g 0 (sortM ss).toArray) os):=hB.grown (grownBy_sorted _) hB.size fun k e=>by cases e;exact hbase
  have HO:=Lib.hid ho2;clear ho2
  go_wp2
  go_ret
  exact ⟨_,xs,rfl,hs,by rw [←HL.out.1,HL.out.2];exact HO.out,hB2⟩
end
def ofM (κ:Int) (vs:List Vl):List Str:=Lib.compact (sortM ((txVs κ vs).map sOf))
mutual
theorem txV_cnt (κ:Int):∀ x:Vl,(txV κ x).length≤cntV x
 | .mk k t s n l=>by
   have:=txVs_cnt κ l;rw [txV,cntV,List.length_append]
   split <;> split <;> simp <;> omega
theorem txVs_cnt (κ:Int):∀ l:List Vl,(txVs κ l).length≤cntVs l
 | []=>by simp [txVs]
 | x::xs=>by
   have h1:=txV_cnt κ x;have h2:=txVs_cnt κ xs;rw [txVs,cntVs,List.length_append];omega
end
set_option maxRecDepth 100000 in
set_option maxHeartbeats 2000000 in
theorem of_any (κ:Int) (v:Value) (vs:List Vl) (w:World) (hcn:cntVs vs≤1000000) (hv:At w (.sl vs.length 5 (vs.flatMap encV)) v) :
 Calls Tryz.prog 91 #[v,.int .i64 κ] w fun e w'=>∃ v',e=.returned v'∧w'.ownsRow w.heap.size 9 1 v' (ofM κ vs).length ((ofM κ vs).map encStr)∧Below w.heap.size w w':=by
 have hlen:=txVs_cnt κ vs;have hw2:((w.alloc (.cells #[v] 27)).alloc (.cells #[.int .i64 κ] 3)).heap.size=w.heap.size+2:=by simp
 have hB2:Below w.heap.size w ((w.alloc (.cells #[v] 27)).alloc (.cells #[.int .i64 κ] 3)):=((Below.refl _ w).alloc (Nat.le_refl _) _).alloc (by simp) _;have hc1:((w.alloc (.cells #[v] 27)).alloc (.cells #[.int .i64 κ] 3)).cell? ⟨w.heap.size,0,none⟩=some v:=by
  rw [Lib.cell_of_heap ((Below.heap_alloc _ _ _ (by simp)).trans (World.alloc_heap_new w (.cells #[v] 27)))];rfl
 have hc2:((w.alloc (.cells #[v] 27)).alloc (.cells #[.int .i64 κ] 3)).cell? ⟨w.heap.size+1,0,none⟩=some (.int .i64 κ):=by
  have:=World.alloc_heap_new (w.alloc (.cells #[v] 27)) (.cells #[.int .i64 κ] 3);rw [World.size_alloc] at this;rw [Lib.cell_of_heap this];rfl
 have H:=Lib.hid (sortedall_any 152 (enters_of Tryz.func152 (by kernel_rfl) rfl) #[.pointer (some ⟨w.heap.size,0,none⟩),.pointer (some ⟨w.heap.size+1,0,none⟩)] (txVs κ vs).length (by omega) (fun xs=>xs=txVs κ vs)
  ((w.alloc (.cells #[v] 27)).alloc (.cells #[.int .i64 κ] 3)) (fun w' hw' hs'=>by
    have hb:Below w.heap.size w w':=hB2.trans (hw'.mono (by omega))
    exact of_iter _ κ w.heap.size (w.heap.size+1) v vs w' hcn hs' (AtB.mono (AtB.below (At.toB hv) hb) (by omega)) ((hw'.cell (p:=⟨w.heap.size,0,none⟩) (by rw [hw2];simp)).trans hc1) ((hw'.cell (p:=⟨w.heap.size+1,0,none⟩) (by rw [hw2];simp)).trans hc2) (by omega) (by omega))
  (by rintro xs rfl;omega))
 obtain ⟨ad,cap0,rfl,-⟩:=At.sl_form hv;have HB2:=Lib.hid hB2;clear hv hc1 hc2 hB2
 go_enter Tryz.func91,Tryz.ntmps91
 go_wp2_with fail
 refine H.out.mono ?_;rintro e w1 ⟨v',xs,rfl,rfl,ho,hB⟩;have hbz:Below w.heap.size w w1:=HB2.out.trans (hB.mono (by omega));have hzs:(sortM ((txVs κ vs).map sOf)).length=(txVs κ vs).length:=by rw [sortM_len,List.length_map]
 have hof:ofM κ vs=Lib.compact (sortM ((txVs κ vs).map sOf)):=rfl;rw [hw2,←hzs] at ho;rw [←hzs] at hlen;have HZ:=Lib.hid hzs;clear hzs;generalize sortM ((txVs κ vs).map sOf)=zs at *;have HOF:=Lib.hid hof;clear hof;rcases ho.2 with ⟨rfl,h0⟩ | ⟨g,cap,cur,rfl,hbase,hbk,h1,h2,h3,h4⟩
 ·obtain rfl:zs=[]:=List.eq_nil_of_length_eq_zero h0
  go_wp2_with fail
  refine (Tryz.slices_Compact_string_empty _ _ _).mono ?_;rintro e w2 ⟨rfl,rfl⟩
  go_wp2
  go_ret
  have hs9:Lib.compact ([]:List Str)=[]:=rfl;exact ⟨_,rfl,by rw [HOF.out,hs9];exact World.ownsRow_nil _ _ _ _,hbz⟩
 ·have hH:Holds encStr w1 g 0 zs.toArray:=holds_of_block hbk (by simpa using h4)
  have hb9:w.heap.size≤g:=by omega
  have HO:=Lib.hid fun q=>ownsRow_compact (n:=q) hb9 hbk h1 h2 h3;have HBB:=Lib.hid fun q=>below_compact (n:=q) (Lib.compact zs++List.replicate (zs.length - (Lib.compact zs).length) []).toArray hbz hb9;clear hbz
  go_wp2_with fail
  refine (Tryz.slices_Compact_string g 0 cap zs _ hH (by omega) (by omega)).mono ?_;rintro e w2 ⟨rfl,q,rfl⟩;have HO2:=Lib.hid (HO.out q);have HB9:=Lib.hid (HBB.out q);clear HO HBB
  go_wp2
  go_ret
  exact ⟨_,rfl,by rw [HOF.out];exact HO2.out,HB9.out⟩
set_option maxRecDepth 100000 in
set_option maxHeartbeats 1000000 in
theorem idents_any (v:Value) (vs:List Vl) (w:World) (hcn:cntVs vs≤1000000) (hv:At w (.sl vs.length 5 (vs.flatMap encV)) v) :
 Calls Tryz.prog 36 #[v] w fun e w'=>∃ v',e=.returned v'∧w'.ownsRow w.heap.size 9 1 v' (ofM 1 vs).length ((ofM 1 vs).map encStr)∧Below w.heap.size w w':=by
 have H:=Lib.hid (of_any 1 v vs w hcn hv);obtain ⟨ad,cap0,rfl,-⟩:=At.sl_form hv;clear hv
 go_enter Tryz.func36,Tryz.ntmps36
 go_wp2_with fail
 refine H.out.mono ?_;rintro e w1 ⟨v',rfl,ho,hB⟩
 go_wp2
 go_ret
 exact ⟨_,rfl,ho,hB⟩
set_option maxRecDepth 100000 in
set_option maxHeartbeats 1000000 in
theorem strings_any (v:Value) (vs:List Vl) (w:World) (hcn:cntVs vs≤1000000) (hv:At w (.sl vs.length 5 (vs.flatMap encV)) v) :
 Calls Tryz.prog 38 #[v] w fun e w'=>∃ v',e=.returned v'∧w'.ownsRow w.heap.size 9 1 v' (ofM 6 vs).length ((ofM 6 vs).map encStr)∧Below w.heap.size w w':=by
 have H:=Lib.hid (of_any 6 v vs w hcn hv);obtain ⟨ad,cap0,rfl,-⟩:=At.sl_form hv;clear hv
 go_enter Tryz.func38,Tryz.ntmps38
 go_wp2_with fail
 refine H.out.mono ?_;rintro e w1 ⟨v',rfl,ho,hB⟩
 go_wp2
 go_ret
 exact ⟨_,rfl,ho,hB⟩
end Go.Proofs.YtlnaihkombcbcaaGreat
namespace Go.Proofs.YtlnaihkombcbcaaGreat
open Go.RowKit Go.Ev
attribute [local go_sem] Oper.semAt_some
mutual
def okV:Vl→Bool
 | .mk _ _ s _ l=>decide (s.size≤1000000)&&okVs l
def okVs:List Vl→Bool
 | []=>true
 | x::xs=>okV x&&okVs xs
end
theorem okV_eq (x:Vl):okV x=(decide (x.text.size≤1000000)&&okVs x.l):=by cases x;rw [okV];rfl
theorem okVs_at:∀ {l:List Vl},okVs l=true→∀ x∈l,x.text.size≤1000000∧okVs x.l=true
 | [],_,x,hx=>by simp at hx
 | y::l,h,x,hx=>by
   rw [okVs,Bool.and_eq_true,okV_eq,Bool.and_eq_true] at h;rcases List.mem_cons.1 hx with rfl | hx
   ·exact ⟨of_decide_eq_true h.1.1,h.1.2⟩
   ·exact okVs_at h.2 x hx
def ownR (k:Int) (s:ByteArray) (l:List Vl):List ByteArray:=if isVarK k s=true∧(readM l).is=true then [(readM l).name] else []
mutual
def rfV:Vl→List ByteArray
 | .mk k _ s _ l=>ownR k s l++(if 2≤k∧k≤5 then rfVs l else [])
def rfVs:List Vl→List ByteArray
 | []=>[]
 | x::xs=>rfV x++rfVs xs
end
theorem rfV_eq (x:Vl):rfV x=ownR x.kind x.text x.l++(if 2≤x.kind∧x.kind≤5 then rfVs x.l else []):=by cases x;rw [rfV];rfl
theorem rfVs_append:∀ (a b:List Vl),rfVs (a++b)=rfVs a++rfVs b
 | [],b=>by simp [rfVs]
 | x::a,b=>by simp only [List.cons_append,rfVs,rfVs_append a b,List.append_assoc]
theorem rfVs_snoc {l:List Vl} {k:Nat} (hk:k<l.length):rfVs (l.take (k+1))=rfVs (l.take k)++rfV l[k]:=by
 rw [List.take_succ_eq_append_getElem hk,rfVs_append];simp only [rfVs,List.append_nil]
theorem rfVs_le {l:List Vl} (k:Nat):(rfVs (l.take k)).length≤(rfVs l).length:=by
 have h:=rfVs_append (l.take k) (l.drop k);rw [List.take_append_drop] at h;rw [h,List.length_append];omega
theorem ownR_le (k:Int) (s:ByteArray) (l:List Vl):(ownR k s l).length≤1:=by unfold ownR;split <;> simp
mutual
theorem rfV_cnt:∀ x:Vl,(rfV x).length≤cntV x
 | .mk k t s n l=>by
   have:=rfVs_cnt l;have h2:=ownR_le k s l;rw [rfV,cntV,List.length_append]
   split <;> simp <;> omega
theorem rfVs_cnt:∀ l:List Vl,(rfVs l).length≤cntVs l
 | []=>by simp [rfVs]
 | x::xs=>by
   have h1:=rfV_cnt x;have h2:=rfVs_cnt xs;rw [rfVs,cntVs,List.length_append];omega
end
set_option maxRecDepth 100000 in
set_option maxHeartbeats 2000000 in
theorem refs_in (l z m0 Nb:Nat) (Ow:World→Nat→Prop) (J:List ByteArray→World→Prop) (hJ:∀ s A B,J s A→Below A.heap.size A B→J s B) (hO:∀ A B k,m0≤A.heap.size→Below A.heap.size A B→Ow B k→Ow A k) (hzm:z≤m0)
 (hY:∀ m pre x A,J pre A→pre.length<Nb→m0≤A.heap.size→YieldAt Fence.wide m Tryz.prog l #[.string x] A fun e B=>e=.returned (.bool true)∧J (pre++[x]) B∧KO Ow z A B) (N:Nat) :
 ∀ (vs:List Vl),SizeOf.sizeOf vs≤N→cntVs vs≤1000000→okVs vs=true→∀ (n:Nat) (v:Value) (pre:List ByteArray) (W:World),pre.length+(rfVs vs).length≤Nb→m0≤W.heap.size→AtB z W (.sl vs.length 5 (vs.flatMap encV)) v→J pre W→(∀ k,Ow W k→k<W.heap.size) →
   CallsIn Fence.wide n Tryz.prog 183 #[v,.func (.yield l) #[] #[]] W fun e B=>e=.returned (.bool true)∧J (pre++rfVs vs) B∧KO Ow z W B:=by
 induction N with
 | zero=>intro vs hl;cases vs <;> simp at hl <;> omega
 | succ N ih =>
   intro vs hl hcn hok n v pre W hNb hm hv hj hOW;have hlen:=cntVs_len vs;rcases slB_cells encV 5 encV_len (by decide) hv with ⟨rfl,ad,cap,rfl⟩ | ⟨b,o,cap,rfl,hcap,hpos,hbz,hc⟩
   ·refine callsIn_of_wp Tryz.func183 rfl trivial ?_ rfl
    simp only [Tryz.ntmps183,List.size_toArray,List.length_cons,List.length_nil,Nat.reduceAdd,Nat.reduceSub,Array.replicate_succ,Array.replicate_zero,List.push_toArray,List.append_toArray,List.nil_append,List.cons_append]
    gi_wp2
    gi_loopw [11] (fun i wr=>i=.int .i64 0∧J pre wr∧KO Ow z W wr) (fun _ _=>0)
    case atStart=>exact ⟨rfl,hj,KO.refl hOW⟩
    case round =>
     obtain ⟨rfl,hj2,hB⟩:=hrel
     gi_wp2
     go_ret
     exact ⟨rfl,by simpa [rfVs] using hj2,hB⟩
   ·have IH:=Lib.hid fun k (hk:k<vs.length)=>ih vs[k].l (by have:=vl_lt (List.getElem_mem hk);omega) (by have:=cntVs_at hk;omega) ((okVs_at hok _ (List.getElem_mem hk)).2)
    have HC:=Lib.hid fun k (hk:k<vs.length)=>vlB_cells hc hk;have HS:=Lib.hid fun k (hk:k<vs.length)=>rfVs_snoc hk;have HL:=Lib.hid fun k (hk:k<vs.length)=>And.intro (okVs_at hok _ (List.getElem_mem hk)).1 (Nat.le_trans (cntVs_len vs[k].l) (by have:=cntVs_at hk;omega):vs[k].l.length≤1000000);clear ih hc hl hv hok;refine callsIn_of_wp Tryz.func183 rfl trivial ?_ rfl;simp only [Tryz.ntmps183,List.size_toArray,List.length_cons,List.length_nil,Nat.reduceAdd,Nat.reduceSub,Array.replicate_succ,Array.replicate_zero,List.push_toArray,List.append_toArray,List.nil_append,List.cons_append]
    gi_wp2
    gi_loopw [11] (fun i wr=>∃ k:Nat,k≤vs.length∧i=.int .i64 k∧J (pre++rfVs (vs.take k)) wr∧KO Ow z W wr) (fun i _=>vs.length - (intOf i).toNat)
    case atStart=>exact ⟨0,Nat.zero_le _,rfl,by simpa [rfVs] using hj,KO.refl hOW⟩
    case round =>
     obtain ⟨k,hk,rfl,hj2,hK⟩:=hrel;have hB:=hK.below
     by_cases hlt:k<vs.length
     ·obtain ⟨c0,c1,c2,c3,ad,cp,c4,ha⟩:=HC.out k hlt
      have c0':=(hB.cell (p:=⟨b,o+k*5,none⟩) hbz).trans c0;have c1':=(hB.cell (p:=⟨b,o+k*5+1,none⟩) hbz).trans c1;have c2':=(hB.cell (p:=⟨b,o+k*5+2,none⟩) hbz).trans c2;have c3':=(hB.cell (p:=⟨b,o+k*5+3,none⟩) hbz).trans c3;have c4':=(hB.cell (p:=⟨b,o+k*5+4,none⟩) hbz).trans c4;have ha':=ha.below hB;have HSN:=HS.out k hlt;rw [rfV_eq] at HSN;obtain ⟨hts,hll⟩:=HL.out k hlt;have HREC:=Lib.hid (IH.out k hlt);have hle:=rfVs_le (l:=vs) (k+1);have hmr:m0≤wr.heap.size:=Nat.le_trans hm hB.size;have hzr:z≤wr.heap.size:=Nat.le_trans hzm hmr;have hOwr:=hK.lt;clear c0 c1 c2 c3 c4 ha IH HC HS HL;generalize vs[k].kind=kd at *;generalize vs[k].tk=tk at *;generalize vs[k].text=tx at *;generalize vs[k].n=nn at *;generalize vs[k].l=ll at *;obtain ⟨X,hX⟩:∃ X:Obj,X=.cells #[.int .i64 kd,.int .i64 tk,.string tx,.int .i64 nn,.slice ad ll.length cp] 67:=⟨_,rfl⟩;have hgr:∀ B,Below (wr.alloc X).heap.size (wr.alloc X) B→Below wr.heap.size wr B∧B.heap[wr.heap.size]?=some X∧J (pre++rfVs (vs.take k)) B∧KO Ow z wr B:=fun B hB2=>by
       have h1:=bup (below_alloc wr X) hB2;refine ⟨h1,(hB2.block _ (by simp)).trans (World.alloc_heap_new wr X),hJ _ _ _ hj2 h1,KO.grow h1 hzr (fun k hk=>hO _ _ _ hmr h1 hk) hOwr⟩
      have HGR:=Lib.hid hgr;clear hgr;subst hX;have hiv:=fun m=>(callsIn_wide (n:=m)).2 (isVar_any kd tk nn tx (.slice ad ll.length cp) (wr.alloc (.cells #[.int .i64 kd,.int .i64 tk,.string tx,.int .i64 nn,.slice ad ll.length cp] 67)) hts);have HIV:=Lib.hid hiv;clear hiv
      gi_wp2_with fail
      refine ⟨trivial,fun h=>(by cases h),(HIV.out _).mono ?_⟩;rintro e w2 ⟨rfl,hB2⟩;obtain ⟨hb2,hx2,hj3,hK3⟩:=HGR.out _ hB2;have hKW:=hK.trans hK3;have hz2:z≤w2.heap.size:=Nat.le_trans hzr hb2.size;have hm2:m0≤w2.heap.size:=Nat.le_trans hmr hb2.size;have d0:w2.cell? ⟨wr.heap.size,0,none⟩=some (.int .i64 kd):=by rw [Lib.cell_of_heap hx2];rfl
      have d1:w2.cell? ⟨wr.heap.size,1,none⟩=some (.int .i64 tk):=by rw [Lib.cell_of_heap hx2];rfl
      have d2:w2.cell? ⟨wr.heap.size,2,none⟩=some (.string tx):=by rw [Lib.cell_of_heap hx2];rfl
      have d3:w2.cell? ⟨wr.heap.size,3,none⟩=some (.int .i64 nn):=by rw [Lib.cell_of_heap hx2];rfl
      have d4:w2.cell? ⟨wr.heap.size,4,none⟩=some (.slice ad ll.length cp):=by rw [Lib.cell_of_heap hx2];rfl
      have ha2:=ha'.below (hb2.mono hzr);clear HGR HIV hB2 c0' c1' c2' c3' c4' ha'
      cases hiv:isVarK kd tx
      ·rw [ownR,if_neg (by rw [hiv];simp),List.nil_append] at HSN
       by_cases hkk:2≤kd∧kd≤5
       ·obtain ⟨hk2,hk5⟩:=hkk
        rw [if_pos ⟨hk2,hk5⟩] at HSN;have hpb:(pre++rfVs (vs.take k)).length+(rfVs ll).length≤Nb:=by
         have h9:=congrArg List.length HSN;simp only [List.length_append] at h9 ⊢;omega
        have HR:=Lib.hid (HREC.out (n - 1) (.slice ad ll.length cp) (pre++rfVs (vs.take k)) w2 hpb hm2 ha2 hj3 hKW.lt);clear HREC
        gi_wp2_with fail
        refine ⟨trivial,fun h=>(by cases h),HR.out.mono ?_⟩;rintro e W9 ⟨rfl,hj9,hK9⟩;have hKW9:=hKW.trans hK9;rw [List.append_assoc,←HSN] at hj9
        gi_wp2
        go_roundw
        case rel=>exact ⟨k+1,by omega,by go_num,hj9,hKW9⟩
        case measure=>simp [intOf];omega
       ·rw [if_neg hkk,List.append_nil] at HSN
        rw [←HSN] at hj3;clear HREC
        by_cases hk2:2≤kd
        ·have hk5:¬kd≤5:=fun h=>hkk ⟨hk2,h⟩
         gi_wp2
         refine ⟨trivial,?_⟩
         gi_wp2
         go_roundw
         case rel=>exact ⟨k+1,by omega,by go_num,hj3,hKW⟩
         case measure=>simp [intOf];omega
        ·gi_wp2
         refine ⟨trivial,?_⟩
         gi_wp2
         go_roundw
         case rel=>exact ⟨k+1,by omega,by go_num,hj3,hKW⟩
         case measure=>simp [intOf];omega
      ·have hk5:kd=5:=by
        rw [isVarK,Bool.and_eq_true,beq_iff_eq] at hiv;exact hiv.1
       subst hk5;have hown:ownR 5 tx ll=if (readM ll).is=true then [(readM ll).name] else []:=by simp [ownR,hiv]
       rw [hown,if_pos (by omega:(2:Int)≤5∧(5:Int)≤5)] at HSN;have HRD:=Lib.hid fun m=>(callsIn_wide (n:=m)).2 (read_any 5 tk nn tx (.slice ad ll.length cp) ll w2 (ha2.toAt hz2) hll);clear hown;generalize readM ll=f at *;obtain ⟨nm,fb,fl,is⟩:=f;simp only at HSN HRD
       gi_wp2_with fail
       refine ⟨trivial,fun h=>(by cases h),(HRD.out _).mono ?_⟩;rintro e w3 ⟨⟨fa,fn,fc,rfl⟩,hB3⟩;have hb4:Below w2.heap.size w2 (w3.alloc (.cells #[.string nm,.slice fa fn fc,.bool fl] 278)):=hB3.alloc hB3.size _;have hx4:=(hb4.block _ (Array.getElem?_eq_some_iff.1 hx2).1).trans hx2;have hj4:=hJ _ _ _ hj3 hb4;have hK4:KO Ow z w2 (w3.alloc (.cells #[.string nm,.slice fa fn fc,.bool fl] 278)):=KO.grow hb4 hz2 (fun k hk=>hO _ _ _ hm2 hb4 hk) hK3.lt;have hm4:m0≤(w3.alloc (.cells #[.string nm,.slice fa fn fc,.bool fl] 278)).heap.size:=Nat.le_trans hm2 hb4.size;have hno:¬Ow (w3.alloc (.cells #[.string nm,.slice fa fn fc,.bool fl] 278)) wr.heap.size:=fun h=>by
        have:=hOwr _ (hO wr _ _ hmr (bup hb2 hb4) h);omega
       have hwr4:wr.heap.size<(w3.alloc (.cells #[.string nm,.slice fa fn fc,.bool fl] 278)).heap.size:=Nat.lt_of_lt_of_le (Array.getElem?_eq_some_iff.1 hx2).1 hb4.size;have H4:=Lib.hid (And.intro hx4 (And.intro hj4 (And.intro hK4 (And.intro hm4 (And.intro hno hwr4)))));clear hx4 hj4 hK4 hm4 hno hwr4 HRD d0 d1 d2 d3 d4
       cases is
       ·simp only [Bool.false_eq_true,if_false,List.nil_append] at HSN
        have hpb:(pre++rfVs (vs.take k)).length+(rfVs ll).length≤Nb:=by
         have h9:=congrArg List.length HSN;simp only [List.length_append] at h9 ⊢;omega
        have HR:=Lib.hid (HREC.out (n - 1) (.slice ad ll.length cp) (pre++rfVs (vs.take k)) _ hpb H4.out.2.2.2.1 (ha2.below (hb4.mono hz2)) H4.out.2.1 H4.out.2.2.1.lt);have e0:(w3.alloc (.cells #[.string nm,.slice fa fn fc,.bool fl] 278)).cell? ⟨wr.heap.size,0,none⟩=some (.int .i64 5):=by rw [Lib.cell_of_heap H4.out.1];rfl
        have e4:(w3.alloc (.cells #[.string nm,.slice fa fn fc,.bool fl] 278)).cell? ⟨wr.heap.size,4,none⟩=some (.slice ad ll.length cp):=by rw [Lib.cell_of_heap H4.out.1];rfl
        clear HREC
        gi_wp2_with fail
        refine ⟨fun _ h=>(by cases h),?_⟩
        gi_wp2_with fail
        refine ⟨trivial,fun h=>(by cases h),HR.out.mono ?_⟩;rintro e W9 ⟨rfl,hj9,hK9⟩;have hKW9:=(hKW.trans H4.out.2.2.1).trans hK9;rw [List.append_assoc,←HSN] at hj9;clear e0 e4
        gi_wp2
        go_roundw
        case rel=>exact ⟨k+1,by omega,by go_num,hj9,hKW9⟩
        case measure=>simp [intOf];omega
       ·simp only [if_true] at HSN
        have hlen9:=congrArg List.length HSN;simp only [List.length_append,List.length_cons,List.length_nil] at hlen9
        gi_wp2_with fail
        refine upon_yield rfl (hY _ _ _ _ H4.out.2.1 (by simp only [List.length_append];omega) H4.out.2.2.2.1) ?_;rintro W5 ⟨hj5,hK5⟩;have hx5:=(hK5.same _ H4.out.2.2.2.2.2 H4.out.2.2.2.2.1).trans H4.out.1;have hKW5:=(hKW.trans H4.out.2.2.1).trans hK5;have e0:W5.cell? ⟨wr.heap.size,0,none⟩=some (.int .i64 5):=by rw [Lib.cell_of_heap hx5];rfl
        have e4:W5.cell? ⟨wr.heap.size,4,none⟩=some (.slice ad ll.length cp):=by rw [Lib.cell_of_heap hx5];rfl
        have HR:=Lib.hid (HREC.out (n - 1) (.slice ad ll.length cp) _ _ (by simp only [List.length_append,List.length_cons,List.length_nil];omega) (Nat.le_trans H4.out.2.2.2.1 hK5.below.size) ((ha2.below (hb4.mono hz2)).below hK5.below) hj5 hKW5.lt);clear HREC hj5 hx5
        gi_wp2_with fail
        refine ⟨trivial,fun h=>(by cases h),HR.out.mono ?_⟩;rintro e W9 ⟨rfl,hj9,hK9⟩;have hKW9:=hKW5.trans hK9;rw [List.append_assoc,List.append_assoc,←List.append_assoc (rfVs (vs.take k)),List.append_assoc (rfVs (vs.take k)),←HSN] at hj9;clear e0 e4
        gi_wp2
        go_roundw
        case rel=>exact ⟨k+1,by omega,by go_num,hj9,hKW9⟩
        case measure=>simp [intOf];omega
     ·obtain rfl:k=vs.length:=by omega
      rw [List.take_length] at hj2
      gi_wp2
      go_ret
      exact ⟨rfl,hj2,hK⟩
end Go.Proofs.YtlnaihkombcbcaaGreat
namespace Go.Proofs.YtlnaihkombcbcaaGreat
open Go.RowKit Go.Sort Go.Ev
attribute [local go_sem] Oper.semAt_some
theorem names_any (v:Value) (hv:∃ a n c,v=.slice a n c) (w:World) :
 Calls Tryz.prog 114 #[v] w fun e w'=>e=.returned (.func (.func 182) #[] #[.pointer (some ⟨w.heap.size,0,none⟩)])∧w'=w.alloc (.cells #[v] 27):=by
 obtain ⟨a,n,c,rfl⟩:=hv
 go_enter Tryz.func114,Tryz.ntmps114
 go_wp2
 go_ret
 exact ⟨rfl,rfl⟩
theorem names_iter (z:Nat) (Bl:Nat) (v:Value) (vs:List Vl) (w:World) (hcn:cntVs vs≤1000000) (hok:okVs vs=true) (hz:z≤w.heap.size) (hv:AtB z w (.sl vs.length 5 (vs.flatMap encV)) v)
 (hl:w.cell? ⟨Bl,0,none⟩=some v) (hlz:Bl<w.heap.size) :
 IterAll Tryz.prog 182 #[.pointer (some ⟨Bl,0,none⟩)] (fun x:ByteArray=>#[.string x]) z (rfVs vs).length (fun xs=>xs=rfVs vs) w:=by
 intro n l Ow J W hW hOs hJ hO hY h0;have hWz:Below z w W:=hW.mono hz;have hl':=(hW.cell (p:=⟨Bl,0,none⟩) hlz).trans hl;have HT:=Lib.hid (refs_in l z W.heap.size (rfVs vs).length Ow J hJ hO (Nat.le_trans hz hW.size) hY _ vs (Nat.le_refl _) hcn hok (n - 1) v [] W (by simp) (Nat.le_refl _) (hv.below hWz) h0 hOs);obtain ⟨ad,cap,rfl,-⟩:=AtB.sl_form hv;clear hv;refine callsIn_of_wp Tryz.func182 rfl trivial ?_ rfl;simp only [Tryz.ntmps182,List.size_toArray,List.length_cons,List.length_nil,Nat.reduceAdd,Nat.reduceSub,Array.replicate_succ,Array.replicate_zero,List.push_toArray,List.append_toArray,List.nil_append,List.cons_append]
 gi_wp2_with fail
 refine ⟨trivial,fun h=>(by cases h),HT.out.mono ?_⟩;rintro e B ⟨rfl,hj,hK⟩
 gi_wp2
 go_end0
 exact ⟨⟨_,rfl⟩,_,rfl,by simpa using hj,hK⟩
def ddS (a:List ByteArray) (x:ByteArray):List ByteArray:=if Lib.containsS a x=true then a else a++[x]
def dd (l:List ByteArray):List ByteArray:=l.foldl ddS []
theorem dd_snoc (l:List ByteArray) (x:ByteArray):dd (l++[x])=ddS (dd l) x:=by rw [dd,List.foldl_append];rfl
theorem ddS_len (a:List ByteArray) (x:ByteArray):(ddS a x).length≤a.length+1:=by unfold ddS;split <;> simp
theorem foldl_dd_len:∀ (l a:List ByteArray),(l.foldl ddS a).length≤a.length+l.length
 | [],a=>by simp
 | x::l,a=>by
   have h1:=foldl_dd_len l (ddS a x);have h2:=ddS_len a x;simp only [List.foldl_cons,List.length_cons];omega
theorem dd_len (l:List ByteArray):(dd l).length≤l.length:=by have:=foldl_dd_len l [];simpa [dd] using this
theorem contains_owns {w:World} {z e:Nat} {v:Value} {zs:List ByteArray} (h:w.ownsRow z e 1 v zs.length (zs.map Value.string)) (x:ByteArray) (hl:zs.length≤1000000) :
 Calls Tryz.prog 115 #[v,.string x] w fun e w'=>e=.returned (.bool (Lib.containsS zs x))∧w'=w:=by
 rcases h.2 with ⟨rfl,h0⟩ | ⟨g,cap,cur,rfl,hg,hb,hc,-,-,ht⟩
 ·obtain rfl:zs=[]:=List.eq_nil_of_length_eq_zero h0
  refine (Tryz.slices_Contains_string_empty none 0 x w).mono ?_;rintro e w' ⟨rfl,rfl⟩;exact ⟨rfl,rfl⟩
 ·have hcell:∀ j,j<zs.length→w.cell? ⟨g,0+j,none⟩=some (.string (zs.getD j ByteArray.empty)):=fun j hj=>by
   rw [Nat.zero_add,h.cellAt j (by omega)];simp [hj]
  refine (Tryz.slices_Contains_string g 0 zs.length cap zs x w (Nat.le_refl _) (by omega) hcell).mono ?_;rintro e w' ⟨rfl,rfl⟩;exact ⟨by rw [List.take_length],rfl⟩
set_option maxRecDepth 100000 in
set_option maxHeartbeats 4000000 in
theorem refs_any (v:Value) (vs:List Vl) (w:World) (hcn:cntVs vs≤1000000) (hok:okVs vs=true) (hv:At w (.sl vs.length 5 (vs.flatMap encV)) v) :
 Calls Tryz.prog 58 #[v] w fun e w'=>∃ v',e=.returned v'∧w'.ownsRow w.heap.size 9 1 v' (dd (rfVs vs)).length ((dd (rfVs vs)).map Value.string)∧Below w.heap.size w w':=by
 obtain ⟨i0,hi,hz0,hz1,hz2⟩:=info_parts Tryz.infoS;have hNle:=rfVs_cnt vs;have hB1:=below_alloc w (.cells #[.slice none 0 0] 25);have hsz1:(w.alloc (.cells #[.slice none 0 0] 25)).heap.size=w.heap.size+1:=by simp
 have hB2:Below w.heap.size w ((w.alloc (.cells #[.slice none 0 0] 25)).alloc (.cells #[v] 27)):=hB1.alloc hB1.size _;have hsz2:((w.alloc (.cells #[.slice none 0 0] 25)).alloc (.cells #[v] 27)).heap.size=w.heap.size+2:=by simp
 have hc2:((w.alloc (.cells #[.slice none 0 0] 25)).alloc (.cells #[v] 27)).cell? ⟨w.heap.size+1,0,none⟩=some v:=by
  have:=World.alloc_heap_new (w.alloc (.cells #[.slice none 0 0] 25)) (.cells #[v] 27);rw [hsz1] at this;rw [Lib.cell_of_heap this];rfl
 have hbx:((w.alloc (.cells #[.slice none 0 0] 25)).alloc (.cells #[v] 27)).heap[w.heap.size]?=some (.cells #[.slice none 0 0] 25 (0,0)):=by
  rw [Below.heap_alloc _ _ _ (by omega)];exact World.alloc_heap_new w _
 have HSEQ:=Lib.hid (names_iter w.heap.size (w.heap.size+1) v vs _ hcn hok (by omega) (AtB.below (At.toB hv) hB2) hc2 (by omega));have hform:∃ a n c,v=.slice a n c:=by
  obtain ⟨ad,cap,rfl,-⟩:=At.sl_form hv;exact ⟨_,_,_,rfl⟩
 have HNM:=Lib.hid (names_any v hform (w.alloc (.cells #[.slice none 0 0] 25)));rw [hsz1] at HNM;obtain ⟨ad,an,ac,rfl⟩:=hform;have hst:AIb (w.heap.size+4) w.heap.size w (dd []) ((w.alloc (.cells #[.slice none 0 0] 25)).alloc (.cells #[.slice ad an ac] 27)):=⟨_,hbx,World.ownsRow_nil _ _ _ _,hB2⟩;have HST:=Lib.hid hst;clear hv hc2 hbx hst hB1;refine callsIn_wide (n:=7).1 (callsIn_of_wp_marks Tryz.func58 rfl trivial ?_ rfl);simp only [Tryz.ntmps58,List.size_toArray,List.length_cons,List.length_nil,Nat.reduceAdd,Nat.reduceSub,Array.replicate_succ,Array.replicate_zero,List.push_toArray,List.append_toArray,List.nil_append,List.cons_append]
 gi_wp2_with fail
 refine ⟨trivial,((callsIn_wide (n:=_)).2 HNM.out).mono ?_⟩;rintro e w2 ⟨rfl,rfl⟩
 gi_wp2
 refine range_all (α:=ByteArray) (gf:=182) (lb:=#[.pointer (some ⟨w.heap.size+1,0,none⟩)]) rfl (enters_of Tryz.func182 (by kernel_rfl) rfl) (encs:=fun x:ByteArray=>#[.string x]) (fun _=>rfl) (z:=w.heap.size) (N:=(rfVs vs).length) (S:=fun xs=>xs=rfVs vs) (by rw [hsz2];omega)
  (fun pre W=>AIb (w.heap.size+4) w.heap.size w (dd pre) W) (OwB w.heap.size) HST.out ?ia ?il ?ow ?oa ?ol ?od ?seq (fun x=>{ tmps:=#[.slice ad an ac,undef,.slice none 0 0,.pointer (some ⟨w.heap.size,0,none⟩),.string x,.slice ad an ac,.func (.func 182) #[] #[.pointer (some ⟨w.heap.size+1,0,none⟩)],.string x,undef,undef,undef,undef,undef,undef,undef,undef,undef],defers:=[] }) ?assign ?body ?done
 case ia=>exact fun s A B h hb=>h.below hb
 case il =>
  rw [hsz2];exact fun s A r r' h hr=>h.put (by omega) hr
 case ow=>exact fun k hk=>(HST.out.own hk).1
 case oa =>
  intro A B k hA hb hk;rw [hsz2] at hA;rcases hk with h | ⟨v,h1,h2⟩
  ·exact .inl h
  ·exact .inr ⟨v,(hb.block _ (by omega)).symm.trans h1,h2⟩
 case ol =>
  rw [hsz2];intro A r r' k hr;have hz:∀ x,(A.putObj (w.heap.size+2+1) (.loop r')).heap[w.heap.size]?=some x↔A.heap[w.heap.size]?=some x:=fun x=>by rw [World.putObj_heap_other (by omega)]
  exact or_congr Iff.rfl (exists_congr fun v=>and_congr (hz _) Iff.rfl)
 case od =>
  rw [hsz2];intro s A h;exact ⟨fun hk=>by have:=(h.own hk).2;omega,fun hk=>by have:=(h.own hk).2;omega⟩
 case seq=>exact HSEQ.out
 case assign =>
  intro l x W m K hK
  gi_wp2
  exact hK
 case body =>
  rintro l pre x W m ⟨v1,h1,h2,h3⟩ hpl hWs;rw [hsz2] at hWs;have hddl:=dd_len pre;have hc1:W.cell? ⟨w.heap.size,0,none⟩=some v1:=by rw [Lib.cell_of_heap h1];rfl
  have hf1:W.frozen? ⟨w.heap.size,0,none⟩=false:=Lib.frozen_of_heap h1 0
  gi_wp2_with fail
  refine ⟨trivial,fun h=>(by cases h),(((callsIn_wide (n:=_)).2 (contains_owns h2 x (by omega))).inRound l).mono ?_⟩;rintro e w' ⟨rfl,rfl⟩
  cases hcx:Lib.containsS (dd pre) x
  ·have hdd:dd (pre++[x])=dd pre++[x]:=by rw [dd_snoc,ddS,hcx];rfl
   gi_wp2_with (gi_at_builtin;refine wpListIn_append_own_at _ rfl _ _ 25 rfl (w.heap.size+4) 9 i0 (.string ByteArray.empty) 1 16 Tryz.underlying25 hi hz0 hz1 hz2 rfl (by decide) _ _ _ rfl (h2.alloc _) ⟨w'.heap.size,0,none⟩ 1 1 [.string x] rfl rfl ?c1 ?c2 ?c3 ?c4 ?c5 ?_)
   case c1=>exact cell_one_new _ _ _
   case c2=>simp [Value.oneCell']
   case c3=>unfold maxLen;omega
   case c4=>omega
   case c5=>simp;omega
   intro v' w1 hown' hgrow _ hblk;obtain ⟨g',cap',rfl⟩:=ownsRow_succ hown';have HE:=Lib.hid (aib_snoc (by omega) h1 h2 h3 (by omega) hgrow hown' (by rw [World.size_alloc];exact hblk));have hb1:w1.heap[w.heap.size]?=some (.cells #[v1] 25 (0,0)):=by
    rw [hgrow.block _ (by simp;omega) (row_ne_low h2 (b:=w.heap.size) (by omega)),Below.heap_alloc _ _ _ (by omega)];exact h1
   clear hc1 hf1;have hc1:w1.cell? ⟨w.heap.size,0,none⟩=some v1:=by rw [Lib.cell_of_heap hb1];rfl
   have hf1:w1.frozen? ⟨w.heap.size,0,none⟩=false:=Lib.frozen_of_heap hb1 0;have HDD:=Lib.hid hdd;clear hb1 h1 h2 h3 hown' hblk hdd
   gi_wp2
   rw [HDD.out];exact HE.out
  ·have hdd:dd (pre++[x])=dd pre:=by rw [dd_snoc,ddS,hcx];rfl
   have HE:Hid (AIb (w.heap.size+4) w.heap.size w (dd pre) w'):=Lib.hid ⟨v1,h1,h2,h3⟩;have HDD:=Lib.hid hdd;clear h1 h2 h3 hdd
   gi_wp2
   rw [HDD.out];exact ⟨HE.out,KO.refl fun k hk=>(HE.out.own hk).1⟩
 case done =>
  rintro D xs W hD rfl ⟨v1,h1,h2,h3⟩ hbel hdef;have hc1:W.cell? ⟨w.heap.size,0,none⟩=some v1:=by rw [Lib.cell_of_heap h1];rfl
  gi_wp2
  refine ⟨by simp,.inl ⟨_,_,rfl,run_takeDeferred hdef,?_⟩⟩;refine ⟨_,results_tmp rfl _ _ _,v1,rfl,owns_mono (ownsRow_putObj h2 _ hdef rfl) (by omega),?_⟩;exact h3.grown (grownBy_putObj' W D _) h3.size fun k e=>by cases e;simp at hD;omega
end Go.Proofs.YtlnaihkombcbcaaGreat
namespace Go.Proofs.YtlnaihkombcbcaaGreat
open Go.RowKit
section
variable {F:Fence} {n:Nat} {P:Program} {α:Type}
theorem range_over_al {g:Operand} {ps:Array Tmp} {assign body:Code} {Q:Exit→Act→World→Prop} {a:Act} {w:World}
 (hro:F.round=none) (hF:∀ f,F.fn f) (h1:1≤n) {gf:Nat} {lb:Array Value} (hg:a.eval g=.func (.func gf) #[] lb) (eg:∀ args w,(callFunc gf args).run P w=.ok (.enter gf args) w)
 {encs:α→Array Value} (hps:∀ x,(encs x).size=ps.size) (Wr Kp:World→World→Prop) {S Sp:List α→Prop} {G:List α→α→Prop}
 (I:List α→World→Prop) (Ix:Code→List α→World→Prop) (hI:OwnFrom w.heap.size I) (hIx:∀ c,OwnFrom w.heap.size (Ix c)) (h0:I [] w)
 (hWI:∀ s A B,I s A→Wr A B→I s B) (hWx:∀ c s A B,Ix c s A→Wr A B→Ix c s B) (hWb:∀ A B,Wr A B→∀ (k:Nat) (o:Obj),A.heap[k]?=some o→o.isCells=false→B.heap[k]?=some o)
 (hKt:∀ {A B C:World},Kp A B→Kp B C→Kp A C) (hKb:∀ (W:World) (l:Nat) (o:Obj),w.heap.size≤l→Kp W (W.putObj l o)) (hKa:∀ (W:World) (o:Obj),w.heap.size≤W.heap.size→Kp W (W.alloc o)) (ob:α→Obj)
 (hseq:IterTo F (n - 1) P gf lb encs Wr Kp S Sp G w) (a₁:α→World→Act)
 (hassign:∀ (l:Nat) (x:α) (W:World) (K:Act→World→Prop),K (a₁ x W) (W.alloc (ob x)) →
   assign.wpIn (F.inRound l) (n - 1 - 1) P (Exit.then K (fun _ _ _=>False)) { tmps:=(ps.zip (encs x)).foldl (fun t (p,v)=>t.setIfInBounds p v) a.tmps,defers:=[] } W)
 (hbody:∀ (l:Nat) (pre:List α) (x:α) (A W:World),I pre W→G pre x→w.heap.size+2≤A.heap.size→A.heap.size<W.heap.size→W.heap[A.heap.size]?=some (ob x)→body.wpIn (F.inRound l) (n - 1 - 1) P (ownPostG w.heap.size Kp I Ix (pre++[x]) W) (a₁ x A) W)
 (hdone:∀ (D:Nat) (xs:List α) (W:World),w.heap.size≤D→S xs→I xs W→W.heap[D]?=some (.deferred (some []))→Q .normal { a with defers:={ target:=.collected D,args:=#[] }::a.defers } W)
 (hstop:∀ (D:Nat) (c:Code) (pre:List α) (W:World),w.heap.size≤D→Sp pre→Ix c pre W→W.heap[D]?=some (.deferred (some []))→c.wpIn F n P Q { a with defers:={ target:=.collected D,args:=#[] }::a.defers } W) :
 (Code.rangeFunc g ps assign body).wpIn F n P Q a w:=by
 refine wpIn_rangeFunc fun fn hfn=>?_;rw [hro];generalize hL:w.heap.size+1=L;generalize hD:w.heap.size=D at *;obtain ⟨mk,hmk⟩:∃ mk:LoopState→Option Code→Loop,mk=fun st pe=>{ state:=st,pending:=pe,fn,tmps:=a.tmps,params:=ps,assign,body,defers:=D }:=⟨_,rfl⟩;have e1:∀ pe st,(mk st pe).state=st:=fun pe st=>by rw [hmk]
 have e2:∀ pe st,(mk st pe).pending=pe:=fun pe st=>by rw [hmk]
 have e3:∀ pe st pe' st',{ mk st pe with state:=st',pending:=pe' }=mk st' pe':=fun pe st pe' st'=>by rw [hmk]
 have e4:∀ pe st st',{ mk st pe with state:=st' }=mk st' pe:=fun pe st st'=>by rw [hmk]
 have hne:D≠L:=by omega
 let W1:=(w.alloc (.deferred (some []))).alloc (.loop (mk .ready none))
 have hbook:Book L D (mk .ready none) W1:=by
  refine ⟨?_,?_⟩
  ·have:=World.alloc_heap_new (w.alloc (.deferred (some []))) (.loop (mk .ready none))
   rw [World.size_alloc,hD,hL] at this;exact this
  ·have:=World.alloc_heap_new w (.deferred (some []))
   rw [hD] at this;exact (Below.heap_alloc _ _ _ (by simp;omega)).trans this
 have hI1:I [] W1:=hI.alloc _ (hI.alloc _ h0);have hb1:Below w.heap.size w W1:=((Below.refl _ w).alloc (Nat.le_refl _) _).alloc (by simp) _;refine ⟨L,[{ target:=.collected D,args:=#[] }],W1,{ target:=.fn (.func gf) lb,args:=#[.func (.yield L) #[] #[]] },W1,gf,#[.func (.yield L) #[] #[]]++lb,W1,?_,?_,fun f _=>hF f,?_,fun _=>h1,?_⟩
 ·have:=run_enterLoop_outer (P:=P) (w:=w) fn a.tmps ps assign body
  rw [hD,hL] at this;rw [this];show _=Result.ok _ ((w.alloc _).alloc (.loop (mk .ready none)));rw [hmk]
 ·simp only [resolve,hg];simp [go_sem]
 ·simp [invoke,go_sem,eg]
 refine (hseq L (fun pre W=>I pre W∧Book L D (mk .ready none) W) (fun pre W=>∃ c,Ix c pre W∧Book L D (mk .done (some c)) W) W1 hb1
  (fun s A B h hw=>⟨hWI s A B h.1 hw,h.2.step (hWb A B hw)⟩) (fun s A B ⟨c,h,hk⟩ hw=>⟨c,hWx c s A B h hw,hk.step (hWb A B hw)⟩) ?_ ⟨hI1,hbook⟩).mono ?_
 ·rintro pre x A ⟨hi,hbk⟩ hlen
  have hy:=run_yield (P:=P) (args:=encs x) hbk.1 (by rw [hmk];exact hps x);have hLA:L<A.heap.size:=(Array.getElem?_eq_some_iff.1 hbk.1).1;have hDA:D<A.heap.size:=(Array.getElem?_eq_some_iff.1 hbk.2).1;have hbk1:Book L D (mk .ready none) (A.alloc (ob x)):=⟨(Below.heap_alloc _ _ _ hLA).trans hbk.1,(Below.heap_alloc _ _ _ hDA).trans hbk.2⟩;have hi1:I pre (A.alloc (ob x)):=hI.alloc _ hi;refine ⟨fn,(ps.zip (encs x)).foldl (fun t (p,v)=>t.setIfInBounds p v) a.tmps,assign,body,by rw [hy];rw [hmk],roundIn_of_wpIn hfn (hassign L x A _ ⟨_,run_beginRound hbk1.1 (e1 _ _),?_⟩)⟩;rw [e4];have hbk2:Book L D (mk .busy none) ((A.alloc (ob x)).putObj L (.loop (mk .busy none))):=hbk1.put hne;have hi2:I pre ((A.alloc (ob x)).putObj L (.loop (mk .busy none))):=hI.putObj _ hi1 (by omega) hbk1.1 rfl;have hk2:Kp A ((A.alloc (ob x)).putObj L (.loop (mk .busy none))):=hKt (hKa _ _ (by omega)) (hKb _ _ _ (by omega));have hnew:((A.alloc (ob x)).putObj L (.loop (mk .busy none))).heap[A.heap.size]?=some (ob x):=(World.putObj_heap_other (by omega)).trans (World.alloc_heap_new A _);have hszB:A.heap.size<((A.alloc (ob x)).putObj L (.loop (mk .busy none))).heap.size:=by simp
  generalize (A.alloc (ob x)).putObj L (.loop (mk .busy none))=B at hbk2 hi2 hk2 hnew hszB;have fin:∀ (j:Option Code) (C:World),KeepsFrom D B C→(Instr.endRound L j).run P C=.ok (.bool j.isNone) (C.putObj L (.loop (mk (if j.isNone then .ready else .done) j)))∧C.heap[L]?=some (.loop (mk .busy none))∧Book L D (mk (if j.isNone then .ready else .done) j) (C.putObj L (.loop (mk (if j.isNone then .ready else .done) j))):=by
   intro j C hk;have hl:C.heap[L]?=some (.loop (mk .busy none)):=hk.same _ _ (by omega) hbk2.1 rfl;have hr:=run_endRound (P:=P) j hl;rw [e3] at hr;exact ⟨hr,hl,Book.put (r:=mk .busy none) ⟨hl,hk.same _ _ (Nat.le_refl _) hbk2.2 rfl⟩ hne⟩
  refine wpIn_mono (hbody L pre x A B hi2 hlen (by omega) hszB hnew) ?_
  have leave:∀ (c:Code) (C:World),KeepsFrom D B C∧Ix c (pre++[x]) C→∃ v C',(Instr.endRound L (some c)).run P C=.ok v C' ∧
   (((Ending.returned v=.returned (.bool true)∧(I (pre++[x]) C'∧Book L D (mk .ready none) C')∧Kp A C'))∨(Ending.returned v=.returned (.bool false)∧∃ c,Ix c (pre++[x]) C'∧Book L D (mk .done (some c)) C')):=by
   rintro c C ⟨hk,hx⟩;obtain ⟨hr,hl,hb⟩:=fin (some c) C hk;exact ⟨_,_,hr,.inr ⟨rfl,c,(hIx c).putObj _ hx (by omega) hl rfl,hb⟩⟩
  intro e a3 C hp
  cases e with
  | normal =>
    obtain ⟨hk,hkp,hi3⟩:=hp;obtain ⟨hr,hl,hb⟩:=fin none C hk;exact ⟨_,_,hr,.inl ⟨rfl,⟨hI.putObj _ hi3 (by omega) hl rfl,hb⟩,hKt (hKt hk2 hkp) (hKb _ _ _ (by omega))⟩⟩
  | ret=>exact leave .ret C hp
  | exit id=>exact leave (.exit id) C hp
  | goto t=>exact leave (.goto t) C hp
  | panic ch=>exact hp.elim
  | outgrown=>exact hp.elim
 ·rintro e C ⟨⟨v,rfl⟩,(⟨xs,hS,hi,hb⟩ | ⟨pre,hSp,c,hx,hb⟩)⟩
  ·have hr:=run_endLoop (P:=P) hb.1 (by rw [e1];simp)
   rw [e4,e2] at hr;exact ⟨none,_,hr,hdone D xs _ (Nat.le_refl _) hS (hI.putObj _ hi (by omega) hb.1 rfl) ((World.putObj_heap_other hne).trans hb.2)⟩
  ·have hr:=run_endLoop (P:=P) hb.1 (by rw [e1];simp)
   rw [e4,e2] at hr;exact ⟨some c,_,hr,hstop D c pre _ (Nat.le_refl _) hSp ((hIx c).putObj _ hx (by omega) hb.1 rfl) ((World.putObj_heap_other hne).trans hb.2)⟩
end
end Go.Proofs.YtlnaihkombcbcaaGreat
end
