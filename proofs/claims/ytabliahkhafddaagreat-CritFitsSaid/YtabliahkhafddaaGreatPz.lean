/- The law CritFits is true of every input: the statement of the first form. -/
import Derived.Test.YtabliahkhafddaaGreatPe0
import Derived.Test.YtabliahkhafddaaGreatPd1
import Derived.Test.YtabliahkhafddaaGreatPd7
import Derived.Sort.OwnSortedInts
import Derived.Test.YtabliahkhafddaaGreatPd9
import Derived.Test.YtabliahkhafddaaGreatPd3
import Derived.Test.YtabliahkhafddaaGreatPd4
set_option linter.unusedSimpArgs false
noncomputable section
namespace Go.Proofs.YtabliahkhafddaaGreat
open Go.RowKit Go.Ev
open Go.Ev.AV renaming any→aN
attribute [local go_sem] Oper.semAt_some
theorem Tryz.infoI:(Tryz.prog.info? 3).map (fun i=>(i.zero,i.size,i.bytes))=some (some (.int .i64 0),1,8):=by kernel_rfl
theorem owns_set {w:World} {base:Nat} {e:TypeId} {size:Nat} {v:Value} {n:Nat} {xs:List Value} (h:w.ownsRow base e size v n xs) {a:Addr} (ha:v.ownBlock≠some a.block) (u:Value):(w.setCell a u).ownsRow base e size v n xs:=by
 obtain ⟨h1,h2⟩:=h;refine ⟨h1,?_⟩;rcases h2 with h2 | ⟨g,cap,cur,rfl,hg,hh,r⟩
 ·exact .inl h2
 ·exact .inr ⟨g,cap,cur,rfl,hg,by rw [Below.heap_setCell _ _ _ _ (fun e=>ha (by rw [←e];rfl))];exact hh,r⟩
def Fre (z nb pb k:Nat):Prop:=(k<z∧k≠nb∧k≠pb)∨z+3≤k
def AIc (B z nb pb:Nat) (xs0:List Int) (w:World) (pre:List Int) (W:World):Prop :=
 ∃ v,W.heap[z]?=some (.cells #[v] 27 (0,0))∧W.ownsRow B 3 1 v (xs0++pre).length ((xs0++pre).map (Value.int .i64))∧(∀ k,v.ownBlock=some k→Fre z nb pb k)∧Below B w W
def OwC (z:Nat) (W:World) (k:Nat):Prop:=k=z∨∃ v,W.heap[z]?=some (.cells #[v] 27 (0,0))∧v.ownBlock=some k
theorem box_eqI {W:World} {z:Nat} {v v':Value} {t:TypeId} (h:W.heap[z]?=some (.cells #[v] t (0,0))) (h':W.heap[z]?=some (.cells #[v'] t (0,0))):v'=v:=by
 rw [h] at h';simpa using h'.symm
theorem AIc.own {B z nb pb:Nat} {xs0 pre:List Int} {w W:World} (h:AIc B z nb pb xs0 w pre W) {k:Nat} (hk:OwC z W k):k<W.heap.size∧(k=z∨Fre z nb pb k):=by
 obtain ⟨v,h1,h2,h3,-⟩:=h;rcases hk with rfl | ⟨v',h4,h5⟩
 ·exact ⟨(Array.getElem?_eq_some_iff.1 h1).1,.inl rfl⟩
 ·obtain rfl:=box_eqI h1 h4
  exact ⟨(h2.lt k h5).2,.inr (h3 k h5)⟩
theorem AIc.below {B z nb pb:Nat} {xs0 pre:List Int} {w W W':World} (hBz:B≤w.heap.size) (h:AIc B z nb pb xs0 w pre W) (hb:Below W.heap.size W W'):AIc B z nb pb xs0 w pre W':=by
 obtain ⟨v,h1,h2,h3,h4⟩:=h;have hz:=(Array.getElem?_eq_some_iff.1 h1).1;exact ⟨v,(hb.block _ hz).trans h1,owns_below h2 hb,h3,h4.trans (hb.mono (Nat.le_trans hBz h4.size))⟩
theorem AIc.set {B z nb pb:Nat} {xs0 pre:List Int} {w W:World} (hBn:B≤nb) (hnz:nb<z) (h:AIc B z nb pb xs0 w pre W) (u:Value):AIc B z nb pb xs0 w pre (W.setCell ⟨nb,0,none⟩ u):=by
 obtain ⟨v,h1,h2,h3,h4⟩:=h;refine ⟨v,?_,owns_set h2 (fun e=>?_) u,h3,h4.setCell (p:=⟨nb,0,none⟩) hBn u⟩
 ·rw [Below.heap_setCell W ⟨nb,0,none⟩ u z (by show z≠nb;omega)];exact h1
 ·rcases h3 _ e with h | h
  ·exact h.2.1 rfl
  ·simp only at h;omega
theorem AIc.put {B z nb pb j:Nat} {xs0 pre:List Int} {w W:World} (h:AIc B z nb pb xs0 w pre W) (hj:z<j) (hBj:B≤j) {r r':Loop} (hr:W.heap[j]?=some (.loop r)):AIc B z nb pb xs0 w pre (W.putObj j (.loop r')):=by
 obtain ⟨v,h1,h2,h5,h3⟩:=h;refine ⟨v,(World.putObj_heap_other (by omega)).trans h1,ownsRow_putObj h2 _ hr rfl,h5,h3.os,h3.tape,h3.output,?_,fun k hk=>?_⟩
 ·have:=h3.size
  show w.heap.size≤(W.putObj _ _).heap.size;simp;exact this
 ·rw [World.putObj_heap_other (by omega)]
  exact h3.block k hk
theorem aic_snoc {B z nb pb:Nat} (hBz:B≤z) {xs0 pre:List Int} {w W w1:World} {x:Int} {v1 v2:Value} (h1:W.heap[z]?=some (.cells #[v1] 27 (0,0))) (h2:W.ownsRow B 3 1 v1 (xs0++pre).length ((xs0++pre).map (Value.int .i64))) (h5:∀ k,v1.ownBlock=some k→Fre z nb pb k) (h3:Below B w W) (h4:z+3≤W.heap.size)
 (hgrow:(W.alloc (.cells #[.int .i64 x] 3)).grownBy w1 v1.ownBlock) (hown:w1.ownsRow B 3 1 v2 ((xs0++pre).length+1) ((xs0++pre).map (Value.int .i64)++[.int .i64 x])) (hblk:v2.ownBlock=v1.ownBlock∨v2.ownBlock=some (W.alloc (.cells #[.int .i64 x] 3)).heap.size) :
 AIc B z nb pb xs0 w (pre++[x]) (w1.setCell ⟨z,0,none⟩ v2)∧KO (OwC z) B W (w1.setCell ⟨z,0,none⟩ v2):=by
 have hne:some z≠v1.ownBlock:=fun e=>by
  rcases h5 z e.symm with h | h <;> omega
 have hb1:w1.heap[z]?=some (.cells #[v1] 27 (0,0)):=by
  rw [hgrow.block _ (by simp;omega) hne,Below.heap_alloc _ _ _ (by omega)];exact h1
 have hBg:Below B W w1:=((Below.refl _ W).alloc (by omega) _).grown hgrow (by simp;omega) fun k e=>(h2.lt k e).1;have hBs:=hBg.setCell (p:=⟨z,0,none⟩) hBz v2;have hbox:(w1.setCell ⟨z,0,none⟩ v2).heap[z]?=some (.cells #[v2] 27 (0,0)):=by
  have:=Q0u (o:=0) v2 hb1;simpa using this
 have hf2:∀ k,v2.ownBlock=some k→Fre z nb pb k:=fun k hk=>by
  rcases hblk with h7 | h7
  ·exact h5 k (h7.symm.trans hk)
  ·rw [hk] at h7
   simp at h7;exact .inr (by omega)
 have hne2:v2.ownBlock≠some z:=fun e=>by
  rcases hf2 z e with h | h <;> omega
 have hown2:(w1.setCell ⟨z,0,none⟩ v2).ownsRow B 3 1 v2 ((xs0++pre).length+1) ((xs0++pre).map (Value.int .i64)++[.int .i64 x]):=owns_set hown (a:=⟨z,0,none⟩) hne2 v2;refine ⟨⟨v2,hbox,?_,hf2,h3.trans hBs⟩,⟨fun k hk hn=>?_,fun k hk ho=>?_,fun k ho=>?_,hBs⟩⟩
 ·rw [←List.append_assoc,List.map_append,List.length_append]
  exact hown2
 ·have hkz:k≠z:=fun h=>hn (.inl h)
  rw [Q0q v2 rfl hkz,hgrow.block k (by simp;omega) fun e=>hn (.inr ⟨v1,h1,e.symm⟩),Below.heap_alloc _ _ _ hk]
 ·rcases ho with h | ⟨v,h5,h6⟩
  ·exact .inl h
  ·obtain rfl:=box_eqI hbox h5
   rcases hblk with h7 | h7
   ·exact .inr ⟨v1,h1,h7.symm.trans h6⟩
   ·rw [h6] at h7
    simp at h7;omega
 ·rcases ho with rfl | ⟨v,h5,h6⟩
  ·exact (Array.getElem?_eq_some_iff.1 hbox).1
  ·obtain rfl:=box_eqI hbox h5
   exact (hown2.lt k h6).2
theorem above_lenC (p:List Nod):∀ n:Nat,0<n→(aboveM p n).length+1≤n:=by
 intro n
 induction n using Nat.strongRecOn with
 | ind n ih =>
   intro hn;rw [Q1t]
   split
   ·rename_i h
    have:=ih (ndAt p n).up.toNat (by omega) (by omega);simp only [List.length_cons];omega
   ·simp;omega
theorem upL_len (p:List Nod) (n:Nat):(upL p n).length≤n:=by
 unfold upL
 split
 ·rename_i h
  rw [List.length_map];refine Nat.le_trans (List.length_filter_le _ _) ?_;rw [List.length_cons];exact above_lenC p n h
 ·simp
set_option maxRecDepth 100000 in
set_option maxHeartbeats 4000000 in
theorem appendC_any (B z0 nb pb:Nat) (xs0:List Int) (v0 vp:Value) (p:List Nod) (n0:Nat) (w:World) (hp:OkPg p) (hT:TreeP p) (hn:n0<p.length) (hz0:z0≤B) (hBn:B≤nb) (hpn:pb≠nb) (hx0:xs0.length≤1000000000000)
 (hv:AtB z0 w (.sl p.length 5 (p.flatMap encNd)) vp) (hl:w.heap[pb]?=some (.cells #[vp] 23 (0,0))) (hk:w.heap[nb]?=some (.cells #[.int .i64 (n0:Int)] 3 (0,0)))
 (h0:w.ownsRow B 3 1 v0 xs0.length (xs0.map (Value.int .i64))) (hf:∀ k,v0.ownBlock=some k→k≠nb∧k≠pb) :
 Calls Tryz.prog 45 #[v0,.func (.func 90) #[] #[.pointer (some ⟨nb,0,none⟩),.pointer (some ⟨pb,0,none⟩)]] w fun e w'=>∃ v,e=.returned v∧w'.ownsRow B 3 1 v (xs0++upL p n0).length ((xs0++upL p n0).map (Value.int .i64))∧Below B w w':=by
 obtain ⟨i0,hi,hi0,hi1,hi2⟩:=info_parts Tryz.infoI;have hpb:=(Array.getElem?_eq_some_iff.1 hl).1;have hnb:=(Array.getElem?_eq_some_iff.1 hk).1;have hlen:p.length≤1000000:=hp.len;have hul:=upL_len p n0;have heg:∀ args w,(callFunc 90 args).run Tryz.prog w=.ok (.enter 90 args) w:=fun args w=>by rfl
 refine callsIn_wide (n:=7).1 (callsIn_of_wp_marks Tryz.func45 rfl trivial ?_ rfl);simp only [Tryz.ntmps45,List.size_toArray,List.length_cons,List.length_nil,Nat.reduceAdd,Nat.reduceSub,Array.replicate_succ,Array.replicate_zero,List.push_toArray,List.append_toArray,List.nil_append,List.cons_append];obtain ⟨a0,c0,rfl⟩:∃ a c,v0=.slice a xs0.length c:=by
  rcases h0.2 with ⟨rfl,h⟩ | ⟨g,cap,cur,rfl,-⟩
  ·exact ⟨_,_,by rw [h]⟩
  ·exact ⟨_,_,rfl⟩
 generalize hlb:(#[.pointer (some ⟨nb,0,none⟩),.pointer (some ⟨pb,0,none⟩)]:Array Value)=lb
 gi_wp2
 subst hlb;have hsz1:(w.alloc (.cells #[.slice a0 xs0.length c0] 27)).heap.size=w.heap.size+1:=by simp
 have hb0:Below B w (w.alloc (.cells #[.slice a0 xs0.length c0] 27)):=(Q0h w _).mono (by omega);have hbn:∀ x,w.heap[nb]?=some x→(w.alloc (.cells #[.slice a0 xs0.length c0] 27)).heap[nb]?=some x:=fun x h=>by rw [Below.heap_alloc _ _ _ hnb];exact h
 have hIa0:AIc B w.heap.size nb pb xs0 w [] (w.alloc (.cells #[.slice a0 xs0.length c0] 27)):=⟨_,by rw [heap_al_new],by rw [List.append_nil];exact h0.alloc _,fun k hk=>.inl ⟨(h0.lt k hk).2,hf k hk⟩,hb0⟩
 refine range_allS (α:=Int) (gf:=90) (lb:=#[.pointer (some ⟨nb,0,none⟩),.pointer (some ⟨pb,0,none⟩)]) rfl heg (encs:=fun x:Int=>#[.int .i64 x]) (fun _=>rfl) (nb:=nb) (pb:=pb) (z:=B) (N:=(upL p n0).length) (S:=fun xs=>xs=upL p n0) (by rw [hsz1];omega) (by rw [hsz1];omega) (by rw [hsz1];omega)
  (AIc B w.heap.size nb pb xs0 w) (OwC w.heap.size) ?start ?ia ?il ?ow ?oa ?ol ?od ?is ?on ?op ?os ?seq (fun x=>{ tmps:=#[.slice a0 xs0.length c0,.func (.func 90) #[] #[.pointer (some ⟨nb,0,none⟩),.pointer (some ⟨pb,0,none⟩)],.pointer (some ⟨w.heap.size,0,none⟩),undef,.slice none 0 0,.int .i64 x,.func (.func 90) #[] #[.pointer (some ⟨nb,0,none⟩),.pointer (some ⟨pb,0,none⟩)],.int .i64 x,undef,undef,undef,undef,undef],defers:=[] }) ?assign ?body ?done
 case start=>exact hIa0
 case ia=>exact fun s A B h hb=>h.below (by omega) hb
 case il =>
  rw [hsz1];exact fun s A r r' h hr=>h.put (by omega) (by omega) hr
 case ow=>exact fun k hk=>(hIa0.own hk).1
 case oa =>
  intro A B k hA hb hk;rw [hsz1] at hA;rcases hk with h | ⟨v,h1,h2⟩
  ·exact .inl h
  ·exact .inr ⟨v,(hb.block _ (by omega)).symm.trans h1,h2⟩
 case ol =>
  rw [hsz1];intro A r r' k hr;have hz:∀ x,(A.putObj (w.heap.size+1+1) (.loop r')).heap[w.heap.size]?=some x↔A.heap[w.heap.size]?=some x:=fun x=>by rw [World.putObj_heap_other (by omega)]
  exact or_congr Iff.rfl (exists_congr fun v=>and_congr (hz _) Iff.rfl)
 case od =>
  rw [hsz1];intro s A h;refine ⟨fun hk=>?_,fun hk=>?_⟩ <;> (rcases (h.own hk).2 with h | h | h <;> omega)
 case is=>exact fun s A u h=>h.set hBn hnb u
 case on =>
  intro h;rcases (hIa0.own h).2 with h | h | h
  ·omega
  ·exact h.2.1 rfl
  ·omega
 case op =>
  intro h;rcases (hIa0.own h).2 with h | h | h
  ·omega
  ·exact h.2.2 rfl
  ·omega
 case os =>
  intro A u k;have hz:∀ x,(A.setCell ⟨nb,0,none⟩ u).heap[w.heap.size]?=some x↔A.heap[w.heap.size]?=some x:=fun x=>by rw [Below.heap_setCell A ⟨nb,0,none⟩ u w.heap.size (by show w.heap.size≠nb;omega)]
  exact or_congr Iff.rfl (exists_congr fun v=>and_congr (hz _) Iff.rfl)
 case seq =>
  exact above_iter z0 B nb pb (upL p n0).length vp p n0 _ hp hT hn (Nat.le_refl _) hz0 (by rw [hsz1];omega) hBn hpn (hv.below (hb0.mono hz0)) (by rw [Below.heap_alloc _ _ _ hpb];exact hl) (hbn _ hk)
 case assign =>
  intro l x W m K hK
  gi_wp2
  exact hK
 case body =>
  rintro l pre x W m ⟨v1,h1,h2,h5,h3⟩ hpl hWs;rw [hsz1] at hWs;have hc1:W.cell? ⟨w.heap.size,0,none⟩=some v1:=by rw [Lib.cell_of_heap h1];rfl
  have hf1:W.frozen? ⟨w.heap.size,0,none⟩=false:=Lib.frozen_of_heap h1 0;have hlx:(xs0++pre).length≤1000001000000:=by rw [List.length_append];omega
  gi_wp2_with (gi_at_builtin;refine wpListIn_append_own_at _ rfl _ _ 27 rfl B 3 i0 (.int .i64 0) 1 8 Tryz.underlying27 hi hi0 hi1 hi2 rfl (by decide) _ _ _ rfl (h2.alloc _) ⟨W.heap.size,0,none⟩ 1 1 [.int .i64 x] rfl rfl ?c1 ?c2 ?c3 ?c4 ?c5 ?_)
  case c1=>exact cell_one_new _ _ _
  case c2=>simp [Value.oneCell']
  case c3=>unfold maxLen;omega
  case c4=>omega
  case c5=>simp;omega
  intro v' w1 hown' hgrow _ hblk;obtain ⟨g',cap',rfl⟩:=ownsRow_succ hown';have HE:=Lib.hid (aic_snoc (by omega) h1 h2 h5 h3 (by omega) hgrow (by rw [List.length_append,List.map_append,List.append_assoc];exact hown') (by rw [World.size_alloc];exact hblk));have hne:some w.heap.size≠v1.ownBlock:=fun e=>by
   rcases h5 _ e.symm with h | h <;> omega
  have hb1:w1.heap[w.heap.size]?=some (.cells #[v1] 27 (0,0)):=by
   rw [hgrow.block _ (by simp;omega) hne,Below.heap_alloc _ _ _ (by omega)];exact h1
  clear hc1 hf1;have hc1:w1.cell? ⟨w.heap.size,0,none⟩=some v1:=by rw [Lib.cell_of_heap hb1];rfl
  have hf1:w1.frozen? ⟨w.heap.size,0,none⟩=false:=Lib.frozen_of_heap hb1 0;clear hb1 h1 h2 h3 hown' hblk
  gi_wp2
  exact HE.out
 case done =>
  rintro D xs W hD rfl ⟨v1,h1,h2,h5,h3⟩ hbel hdef;have hc1:W.cell? ⟨w.heap.size,0,none⟩=some v1:=by rw [Lib.cell_of_heap h1];rfl
  gi_wp2
  refine ⟨by simp,.inl ⟨_,_,rfl,run_takeDeferred hdef,?_⟩⟩;refine ⟨_,results_tmp rfl _ _ _,v1,rfl,ownsRow_putObj h2 _ hdef rfl,?_⟩;exact h3.grown (grownBy_putObj' W D _) (by have:=h3.size;omega) fun k e=>by cases e;simp at hD;omega
end Go.Proofs.YtabliahkhafddaaGreat
namespace Go.Proofs.YtabliahkhafddaaGreat
open Go.RowKit Go.Ev Go.Sort
open Go.Ev.AV renaming any→aN
attribute [local go_sem] Oper.semAt_some
theorem PureN.of_callsR {P:Program} {GT:GTab} {f:FuncId} {args:List AV} {a:AV} (hid:noIdsL args=true) (hfn:∃ fn,P.funcs[f]?=some fn∧(fn.name == "runtime.NumGoroutine")=false∧fn.body.isNone=false)
 (h:∀ (w:World) (rargs:Array Value),Ats w args rargs.toList→Calls P f rargs w fun e w'=>∃ r,e=.returned r∧VR w' ⟨fun _=>none,fun b=>w.heap.size≤b∧b<w'.heap.size⟩ a r∧Below w.heap.size w w'):PureN P GT f args a:=by
 refine ⟨fun w I rargs hI _ ha=>?_,hid,hfn⟩;have ha':Ats w args rargs.toList:=Q2p (I:=I) (I':=fun b=>b<w.heap.size) (fun rb hr=>hI rb hr) (fun _ _=>rfl) _ ha;refine (h w rargs ha').mono ?_;rintro e w' ⟨r,rfl,hv,hB⟩;exact ⟨fun b=>I b∨(w.heap.size≤b∧b<w'.heap.size),⟨fun _ h=>.inl h,fun _ h=>h.imp id fun h=>h.1,fun rb h=>h.elim (fun h=>Nat.lt_of_lt_of_le (hI rb h) hB.size) fun h=>h.2,hB.os,hB.tape,hB.output,hB.size,hB.block⟩,r,rfl,VR_keep (fun _ h=>.inr h) (fun _ _=>rfl) _ hv⟩
theorem keeps_iffI {zs:List Int} {j:Nat} (hj:j<zs.length):Lib.keeps zs.toArray j=true↔∀ h:0<j,zs[j]≠zs[j - 1]:=by
 by_cases h0:0<j
 ·have e1:zs.toArray[j]! = zs[j]:=by simp [hj]
  have e2:zs.toArray[j - 1]! = zs[j - 1]:=by simp [show j - 1<zs.length by omega]
  by_cases e:zs[j]=zs[j - 1]
  ·rw [Lib.keeps_neg h0 (by rw [e1,e2,e])]
   simp [h0,e]
  ·rw [Lib.keeps_pos (by rw [e1,e2];exact e)]
   simp [e]
 ·rw [Lib.keeps_lt_one _ j (by omega)]
  simp [show ¬0<j by omega]
theorem compact_mapI (zs:List Int):Lib.compact zs=((List.range zs.length).filter (Lib.keeps zs.toArray)).map fun j=>zs.toArray[j]! := by
 unfold Lib.compact Lib.compactUpTo;simp
theorem mem_compactI (zs:List Int) (x:Int):x∈Lib.compact zs↔x∈zs:=by
 rw [compact_mapI]
 constructor
 ·intro h
  obtain ⟨j,hj,rfl⟩:=List.mem_map.1 h;have hj2:=List.mem_range.1 (List.mem_filter.1 hj).1;simp [hj2]
 ·intro h
  obtain ⟨n,hn,rfl⟩:=List.getElem_of_mem h;have key:∀ n (hn:n<zs.length),∃ j,∃ hj:j<zs.length,Lib.keeps zs.toArray j=true∧zs[j]=zs[n]:=by
   intro n
   induction n with
   | zero=>exact fun hn=>⟨0,hn,(keeps_iffI hn).2 fun h=>absurd h (by omega),rfl⟩
   | succ n ih =>
     intro hn
     by_cases e:zs[n+1]=zs[n]
     ·obtain ⟨j,hj,h1,h2⟩:=ih (by omega)
      exact ⟨j,hj,h1,by rw [h2,e]⟩
     ·exact ⟨n+1,hn,(keeps_iffI hn).2 fun _=>e,rfl⟩
  obtain ⟨j,hj,h1,h2⟩:=key n hn;refine List.mem_map.2 ⟨j,List.mem_filter.2 ⟨List.mem_range.2 hj,h1⟩,?_⟩;rw [←h2];simp [hj]
theorem compact_lt {zs:List Int} (h:zs.Pairwise (·≤·)):(Lib.compact zs).Pairwise (·<·):=by
 rw [compact_mapI];refine List.pairwise_map.2 (List.Pairwise.imp_of_mem (R:=fun a b=>a<b) ?_ ((List.pairwise_lt_range).filter _));intro i j hi hj hij;have hj1:=List.mem_filter.1 hj;have hi2:=List.mem_range.1 (List.mem_filter.1 hi).1;have hj2:=List.mem_range.1 hj1.1;have hk:=(keeps_iffI hj2).1 hj1.2 (by omega);have e1:zs.toArray[i]! = zs[i]:=by simp [hi2]
 have e2:zs.toArray[j]! = zs[j]:=by simp [hj2]
 rw [e1,e2];have h1:zs[i]≤zs[j - 1]:=by
  by_cases e:i=j - 1
  ·subst e;exact Int.le_refl _
  ·exact List.pairwise_iff_getElem.1 h i (j - 1) hi2 (by omega) (by omega)
 have h2:zs[j - 1]≤zs[j]:=List.pairwise_iff_getElem.1 h (j - 1) j (by omega) hj2 (by omega);omega
theorem eq_of_lt:∀ {a b:List Int},a.Pairwise (·<·)→b.Pairwise (·<·)→(∀ x,x∈a↔x∈b)→a=b
 | [],[],_,_,_=>rfl
 | [],y::_,_,_,h=>by have:=(h y).2 List.mem_cons_self;simp at this
 | x::_,[],_,_,h=>by have:=(h x).1 List.mem_cons_self;simp at this
 | x :: xs,y::ys,ha,hb,h=>by
   rw [List.pairwise_cons] at ha hb;have e:x=y:=by
    rcases List.mem_cons.1 ((h x).1 List.mem_cons_self) with e | h1
    ·exact e
    ·rcases List.mem_cons.1 ((h y).2 List.mem_cons_self) with e | h2
     ·exact e.symm
     ·have:=hb.1 x h1
      have:=ha.1 y h2;omega
   subst e;rw [eq_of_lt ha.2 hb.2 fun z=>⟨fun hz=>?_,fun hz=>?_⟩]
   ·rcases List.mem_cons.1 ((h z).1 (List.mem_cons_of_mem _ hz)) with e | h1
    ·have:=ha.1 z hz;omega
    ·exact h1
   ·rcases List.mem_cons.1 ((h z).2 (List.mem_cons_of_mem _ hz)) with e | h1
    ·have:=hb.1 z hz;omega
    ·exact h1
def accC (p:List Nod) (k:Nat):List Int:=(List.range k).flatMap fun n=>if hasC p n=true then upL p n else []
theorem accC_succ (p:List Nod) (k:Nat):accC p (k+1)=accC p k++if hasC p k=true then upL p k else []:=by
 unfold accC;rw [List.range_succ,List.flatMap_append];simp
theorem accC_len (p:List Nod) (k N:Nat) (hk:k≤N):(accC p k).length≤k*N:=by
 induction k with
 | zero=>simp [accC]
 | succ k ih =>
   rw [accC_succ,List.length_append,Nat.succ_mul];have:=ih (by omega);have h2:(if hasC p k=true then upL p k else []).length≤N:=by
    split
    ·have:=upL_len p k;omega
    ·simp
   omega
theorem mem_upL {p:List Nod} {n:Nat} {x:Int}:x∈upL p n↔0<n∧∃ m:Nat,x=(m:Int)∧(m=n∨m∈aboveM p n)∧elemB p (m:Int)=true:=by
 unfold upL
 split
 ·rename_i h
  rw [List.mem_map]
  constructor
  ·rintro ⟨m,hm,rfl⟩
   obtain ⟨h1,h2⟩:=List.mem_filter.1 hm;exact ⟨h,m,rfl,List.mem_cons.1 h1,h2⟩
  ·rintro ⟨-,m,rfl,h1,h2⟩
   exact ⟨m,List.mem_filter.2 ⟨List.mem_cons.2 h1,h2⟩,rfl⟩
 ·rename_i h
  simp [h]
theorem hasC_pos {p:List Nod} (hT:TreeP p) {n:Nat} (h:hasC p n=true):0<n∧n<p.length:=by
 obtain ⟨h1,h2⟩:=elem_at.1 (hasC_elem h);refine ⟨?_,h1⟩
 cases n with
 | zero =>
   have h0:=hT.root (by intro e;subst e;simp at h1);rw [show (0:Int)=((0:Nat):Int) from rfl,Q0o h1] at h0;exact absurd h0 h2
 | succ n=>omega
theorem mem_accC {p:List Nod} (hT:TreeP p) (x:Int):x∈accC p p.length↔∃ m:Nat,x=(m:Int)∧critB p m=true:=by
 unfold accC;rw [List.mem_flatMap]
 constructor
 ·rintro ⟨n,-,h⟩
  split at h
  ·rename_i hc
   obtain ⟨-,m,rfl,h1,h2⟩:=mem_upL.1 h;exact ⟨m,rfl,critB_iff.2 ⟨h2,n,hc,h1.imp Eq.symm id⟩⟩
  ·simp at h
 ·rintro ⟨m,rfl,h⟩
  obtain ⟨h1,c,hc,h2⟩:=critB_iff.1 h;obtain ⟨c0,c1⟩:=hasC_pos hT hc;refine ⟨c,List.mem_range.2 c1,?_⟩;rw [if_pos hc];exact mem_upL.2 ⟨c0,m,rfl,h2.imp Eq.symm id,h1⟩
theorem sortI_sorted (l:List Int):(l.mergeSort fun x y=>decide (x≤y)).Pairwise (·≤·):=by
 have h:=List.pairwise_mergeSort (le:=fun (x y:Int)=>decide (x≤y)) (by intro a b c h k;simp at *;omega) (by intro a b;simp;omega) l;exact h.imp fun h=>of_decide_eq_true h
theorem accC_nodes {p:List Nod} (ht:treeB p=true):Lib.compact ((accC p p.length).mergeSort fun x y=>decide (x≤y))=nodesM p:=by
 refine eq_of_lt (compact_lt (sortI_sorted _)) (nodesM_sorted p) fun x=>?_;rw [mem_compactI,(List.mergeSort_perm _ _).mem_iff,mem_accC (tree_P ht)]
 constructor
 ·rintro ⟨m,rfl,h⟩
  exact (mem_nodesM ht).2 h
 ·intro h
  exact (nodesM_nat h).2
theorem above_call (a:Option Addr) (m c:Nat) (k:Int) (w:World):Calls Tryz.prog 46 #[.slice a m c,.int .i64 k] w fun e w'=>e=.returned (.func (.func 90) #[] #[.pointer (some ⟨w.heap.size+1,0,none⟩),.pointer (some ⟨w.heap.size,0,none⟩)])∧w'=(w.alloc (.cells #[.slice a m c] 23)).alloc (.cells #[.int .i64 k] 3):=by
 go_enter Tryz.func46,Tryz.ntmps46
 go_wp2
 go_ret
 exact ⟨by simp,rfl⟩
theorem owns_vr {w':World} {B:Nat} {v:Value} {l:List Int} (h:w'.ownsRow B 3 1 v l.length (l.map (Value.int .i64))):VR w' ⟨fun _=>none,fun b=>B≤b∧b<w'.heap.size⟩ (.sl l.length 1 (l.flatMap encZ)) v:=by
 rcases h.2 with ⟨rfl,h0⟩ | ⟨g,cap,cur,rfl,hb,hh,h1,h2,h3,h4⟩
 ·exact ⟨none,0,by rw [h0],by omega,.inl h0⟩
 ·refine ⟨_,cap,rfl,h1,.inr ⟨g,0,rfl,RowR.mk (show B≤g∧g<w'.heap.size from ⟨hb,(Array.getElem?_eq_some_iff.1 hh).1⟩) fun i a ha=>?_⟩⟩
  rw [mapZ,List.getElem?_map] at ha;obtain ⟨x,hx,rfl⟩:=Option.map_eq_some_iff.1 ha;refine ⟨.int .i64 x,?_,rfl⟩;have:=h.cells (g:=g) rfl i (.int .i64 x) (by rw [List.getElem?_map,hx];rfl);rw [Nat.zero_add];unfold Addr.add at this
  split at this
  ·rename_i h9;subst h9;exact this
  ·simpa using this
theorem ownsRow_compactI {w:World} {base g cap n:Nat} {e:TypeId} {cur:Array Value} {zs:List Int} (hbase:base≤g) (hb:w.heap[g]?=some (.cells cur e (0,0)))
 (h1:zs.length≤cap) (h2:cap≤maxLen) (h3:cur.size=cap*1) :
 (putRow (Value.int .i64) (Sort.ahead w n) g 0 (Lib.compact zs++List.replicate (zs.length - (Lib.compact zs).length) 0).toArray).ownsRow base e 1 (.slice (some ⟨g,0,none⟩) (Lib.compact zs).length cap) (Lib.compact zs).length ((Lib.compact zs).map (Value.int .i64)):=by
 have hle:=Lib.compact_length_le zs;have hl:(Lib.compact zs++List.replicate (zs.length - (Lib.compact zs).length) 0).length=zs.length:=by simp;omega
 have h9:=(ownsRow_sortedI (n:=n) (os:=#[]) hl hbase hb h1 h2 h3).2;have hg:grow (putRow (Value.int .i64) (Sort.ahead w n) g 0 (Lib.compact zs++List.replicate (zs.length - (Lib.compact zs).length) 0).toArray) #[]=putRow (Value.int .i64) (Sort.ahead w n) g 0 (Lib.compact zs++List.replicate (zs.length - (Lib.compact zs).length) 0).toArray:=by
  exact grow_nil _
 rw [hg] at h9;rcases h9 with ⟨h,-⟩ | ⟨g',cap',cur',hv,hg',hb',h4,h5,h6,h7⟩
 ·cases h
 ·cases hv
  refine ⟨by simp,.inr ⟨g,cap,cur',rfl,hbase,hb',by omega,h5,h6,?_⟩⟩;have h8:=congrArg (List.take (Lib.compact zs).length) h7;rw [List.take_take,Nat.min_eq_left (by omega),List.map_append,List.take_left' (by simp)] at h8;rw [Nat.mul_one];exact h8
theorem below_compactI {w w1:World} {g n:Nat} (d:Array Int) (h:Below w.heap.size w w1) (hbase:w.heap.size≤g):Below w.heap.size w (putRow (Value.int .i64) (Sort.ahead w1 n) g 0 d):=by
 have hg:grow (putRow (Value.int .i64) (Sort.ahead w1 n) g 0 d) #[]=putRow (Value.int .i64) (Sort.ahead w1 n) g 0 d:=grow_nil _;have:=h.grown (grownBy_sortedI (w:=w1) (g:=g) (n:=n) (os:=#[]) d) h.size fun k e=>by cases e;exact hbase
 rwa [hg] at this
set_option maxRecDepth 100000 in
set_option maxHeartbeats 4000000 in
theorem nodes_any (p:List Nod) (hp:OkPg p) (v:Value) (w:World) (hv:At w (.sl p.length 5 (p.flatMap encNd)) v) :
 Calls Tryz.prog 13 #[v] w fun e w'=>∃ r,e=.returned r∧VR w' ⟨fun _=>none,fun b=>w.heap.size≤b∧b<w'.heap.size⟩ (.sl (nodesM p).length 1 ((nodesM p).flatMap encZ)) r∧Below w.heap.size w w':=by
 have HT:=Lib.hid ((tree_p p hp).pure.at w #[v] (fun _ _ h=>by cases h) (VRs.cons_mk hv (by rw [VRs])));obtain ⟨ad,cp,rfl,-⟩:=At.sl_form hv
 go_enter Tryz.func13,Tryz.ntmps13
 go_wp2_with fail
 refine HT.out.mono ?_;rintro e w1 ⟨r,rfl,hr,hB1⟩;obtain rfl:r=.bool (treeB p):=hr
 cases ht:treeB p with
 | false =>
   have hn:nodesM p=[]:=by unfold nodesM;rw [ht,if_neg (by decide)]
   go_wp2
   go_ret
   refine ⟨_,rfl,?_,hB1⟩;rw [hn];exact ⟨none,0,rfl,Nat.zero_le _,.inl rfl⟩
 | true =>
   have hlen:=hp.len;have hB1s:=hB1.size
   go_wp2
   go_loopw [3,12] (fun sv i wr=>∃ k:Nat,k≤p.length∧i=.int .i64 k∧wr.ownsRow w.heap.size 3 1 sv (accC p k).length ((accC p k).map (Value.int .i64))∧Below w.heap.size w wr) (fun _ i _=>p.length - (intOf i).toNat)
   case atStart=>exact ⟨0,Nat.zero_le _,rfl,World.ownsRow_nil _ _ _ _,hB1⟩
   case round =>
    obtain ⟨k,hk,rfl,hown,hB⟩:=hrel
    by_cases hlt:k<p.length
    ·have hBs:=hB.size
     have hvr:At wr (.sl p.length 5 (p.flatMap encNd)) (.slice ad p.length cp):=((At.toB hv).below hB).toAt hBs;have HA:=Lib.hid ((attr_p p (k:Int) critS hp.attrs).pure.at wr #[.slice ad p.length cp,.int .i64 (k:Int),.string critS] (fun _ _ h=>by cases h) (VRs.cons_mk hvr (VRs.cons_mk rfl (VRs.cons_mk rfl (by rw [VRs])))))
     go_wp2_with fail
     refine HA.out.mono ?_;rintro e w2 ⟨r,rfl,⟨rc,rfl,hr⟩,hB2⟩;obtain ⟨x0,r0,e0,hx0,hr⟩:=hr;obtain ⟨x1,r1,rfl,hx1,hr⟩:=hr;have hr4:r1=[]:=hr;subst hr4;obtain rfl:x0=_:=hx0;obtain rfl:x1=.bool (hasC p k):=hx1;obtain rfl:rc=#[.string ((atM p (k:Int) critS).getD ⟨#[]⟩),.bool (hasC p k)]:=Array.toList_inj.1 e0;generalize (atM p (k:Int) critS).getD ⟨#[]⟩=sx;have hown2:=owns_below hown hB2;have hB3:=hB.trans (hB2.mono hBs);have hB2s:=hB2.size
     cases hc:hasC p k with
     | false =>
       go_wp2
       go_roundw
       case rel=>exact ⟨k+1,by omega,by go_num,by rw [accC_succ,hc,if_neg (by decide),List.append_nil];exact hown2,hB3⟩
       case measure=>simp [intOf];omega
     | true =>
       have hal:(accC p k).length≤1000000000000:=Nat.le_trans (accC_len p k p.length hk) (by
        have:=Nat.mul_le_mul (Nat.le_trans hk hlen) hlen
        omega)
       go_wp2_with fail
       refine (above_call ad p.length cp (k:Int) w2).mono ?_;rintro e w3 ⟨rfl,rfl⟩
       have HP:=Lib.hid (appendC_any w.heap.size w.heap.size (w2.heap.size+1) w2.heap.size (accC p k) u3 (.slice ad p.length cp) p k ((w2.alloc (.cells #[.slice ad p.length cp] 23)).alloc (.cells #[.int .i64 (k:Int)] 3)) hp (tree_P ht) hlt (Nat.le_refl _) (by omega) (by omega) hal
        ((At.toB hv).below ((hB3.alloc (by omega) _).alloc (by simp;omega) _)) (by rw [Below.heap_alloc _ _ _ (by simp),World.alloc_heap_new]) (by rw [show w2.heap.size+1=(w2.alloc (.cells #[.slice ad p.length cp] 23)).heap.size by simp,World.alloc_heap_new]) ((hown2.alloc _).alloc _)
        (fun j hj=>by have:=(hown.lt j hj).2;omega))
       have hB5:Below w.heap.size w ((w2.alloc (.cells #[.slice ad p.length cp] 23)).alloc (.cells #[.int .i64 (k:Int)] 3)):=(hB3.alloc (by omega) _).alloc (by simp;omega) _;generalize ((w2.alloc (.cells #[.slice ad p.length cp] 23)).alloc (.cells #[.int .i64 (k:Int)] 3))=w5 at *
       go_wp2_with fail
       refine HP.out.mono ?_;rintro e w6 ⟨v6,rfl,hown6,hB6⟩;have hB7:=hB5.trans hB6
       go_wp2
       go_roundw
       case rel=>exact ⟨k+1,by omega,by go_num,by rw [accC_succ,hc,if_pos rfl];exact hown6,hB7⟩
       case measure=>simp [intOf];omega
    ·obtain rfl:k=p.length:=by omega
     have HN:=Lib.hid (accC_nodes ht)
     have hal:(accC p p.length).length≤1000000000000:=Nat.le_trans (accC_len p p.length p.length hk) (by
      have:=Nat.mul_le_mul hlen hlen
      omega)
     generalize accC p p.length=acc at *;rcases hown.2 with ⟨rfl,h0⟩ | ⟨g,cap,cur,rfl,hbase,hbk,h1,h2,h3,h4⟩
     ·obtain rfl:acc=[]:=List.eq_nil_of_length_eq_zero h0
      go_wp2_with fail
      refine (Tryz.slices_Sort_int_none _ _ _).mono ?_;rintro e w2 ⟨rfl,rfl⟩
      go_wp2_with fail
      refine (Tryz.slices_Compact_int_empty _ _ _).mono ?_;rintro e w2 ⟨rfl,rfl⟩
      go_wp2
      go_ret
      refine ⟨_,rfl,?_,hB⟩;rw [←HN.out,show (([]:List Int).mergeSort fun x y=>decide (x≤y))=[] by simp];exact ⟨none,0,rfl,Nat.le_refl _,.inl rfl⟩
     ·have hH:Holds (Value.int .i64) wr g 0 acc.toArray:=holds_of_blockI hbk (by simpa using h4)
      obtain ⟨zs,hzs⟩:∃ zs,zs=acc.mergeSort fun x y=>decide (x≤y):=⟨_,rfl⟩;have hzl:zs.length=acc.length:=by rw [hzs];exact List.length_mergeSort _
      have HS:=Lib.hid (Tryz.slices_Sort_int g 0 cap acc wr hH (Array.getElem?_eq_some_iff.1 hbk).1 (by omega));rw [←hzs] at HS HN;have HO:=fun (n:Nat) (os:Array Obj)=>ownsRow_sortedI (n:=n) (os:=os) (ts:=zs) hzl hbase hbk h1 h2 h3;have HB:=fun (n:Nat) (os:Array Obj)=>hB.grown (grownBy_sortedI (w:=wr) (g:=g) (n:=n) (os:=os) zs.toArray) hB.size fun k e=>by cases e;exact hbase
      have HO2:=Lib.hid HO;have HB2:=Lib.hid HB;clear HO HB hH hown hbk h4 hzs
      go_wp2_with fail
      refine HS.out.mono ?_;rintro e w2 ⟨rfl,n2,os2,rfl⟩;have ho2:=HO2.out n2 os2;have hb2:=HB2.out n2 os2;clear HO2 HB2 HS;generalize grow (putRow (Value.int .i64) (Sort.ahead wr n2) g 0 zs.toArray) os2=w3 at *;rcases ho2.2 with ⟨h,-⟩ | ⟨g',cap',cur',hv',hg',hb',h4',h5',h6',h7'⟩
      ·cases h
      cases hv'
      have hH:Holds (Value.int .i64) w3 g 0 zs.toArray:=holds_of_blockI hb' (by rw [hzl];simpa using h7');have HC:=Tryz.slices_Compact_int g 0 cap zs w3 hH (by omega) (by omega);rw [hzl] at HC;have HC2:=Lib.hid HC;clear HC
      go_wp2_with fail
      refine HC2.out.mono ?_;rintro e w4 ⟨rfl,q,rfl⟩;have ho4:=ownsRow_compactI (n:=q) (zs:=zs) hbase hb' (by omega) h2 h6';have hb4:=below_compactI (n:=q) (Lib.compact zs++List.replicate (zs.length - (Lib.compact zs).length) 0).toArray hb2 hbase;rw [hzl] at ho4 hb4;rw [HN.out] at ho4 hb4 ⊢;have HO4:=Lib.hid ho4;have HB4:=Lib.hid hb4;clear ho4 hb4
      go_wp2
      go_ret
      exact ⟨_,rfl,owns_vr HO4.out,HB4.out⟩
theorem nodes_p (p:List Nod) (hp:OkPg p):PureN Tryz.prog gt0 13 [.sl p.length 5 (p.flatMap encNd)] (.sl (nodesM p).length 1 ((nodesM p).flatMap encZ)):=by
 refine PureN.of_callsR rfl ⟨_,Tryz.func13,rfl,by kernel_rfl⟩ fun w rargs ha=>?_;obtain ⟨v,vs,hr,hv,hvs⟩:=ha;obtain rfl:vs=[]:=hvs;obtain rfl:rargs=#[v]:=Array.toList_inj.1 hr;exact nodes_any p hp v w hv
end Go.Proofs.YtabliahkhafddaaGreat
namespace Go.Proofs.YtabliahkhafddaaGreat
open Go.RowKit Go.Ev
open Go.Ev.AV renaming any→aN
attribute [local go_sem] eq_self false_and and_false Bool.false_eq_true List.set_cons_succ List.set_cons_zero List.getD_cons_succ List.getD_cons_zero List.getElem?_cons_succ List.getElem?_cons_zero true_and and_true and_self Bool.not_true Bool.not_false Nat.add_zero Nat.zero_add Nat.mul_one Int.toNat_natCast Int.natCast_nonneg Int.ofNat_lt Option.bind_some Option.map_some List.map_cons List.map_nil decide_true decide_false BEq.rfl Bool.and_self Bool.and_true Bool.and_false beq_self_eq_true List.cons_append List.nil_append List.take_zero List.take_succ_cons List.take_nil List.drop_succ_cons List.drop_zero List.drop_nil List.append_nil List.length_cons List.length_nil List.all_cons List.all_nil Nat.le_refl Int.le_refl Option.map_none List.replicate_zero List.replicate_succ Nat.zero_mul Nat.sub_zero Nat.zero_le Nat.le_zero_eq Q2f Option.some_or Option.none_or Option.or_none Option.isSome_some Option.isSome_none Option.getD_some Option.getD_none Int.toNat_zero Int.natCast_zero Int.natCast_one Int.cast_ofNat_Int List.toList_toArray
attribute [go_sem] appL newsA isSlice
theorem fits_at {rd:List Mem} {S:Saf} {p:List Nod} {PT:List Part} {K K':K2} {x y v:Value} {b n:Nat} {m:ML} {f:FuncId} (h:CallM Tryz.prog gt0 [] [(0,blkK K)] 1 f [.agg (wldM S p PT),.g x,.g y] (.g v) [(0,blkK K')] 1) (hb:b<n) (hm:getL m b=some (blkK K)) :
 CallM Tryz.prog gt0 rd m n f [.agg [.sl S.cls.length 1 (S.cls.flatMap encN),.sl S.atts.length 1 (S.atts.flatMap encN),.sl p.length 5 (p.flatMap encNd),.sl PT.length 2 (PT.flatMap encP),.mp b],.g x,.g y] (.g v) ((b,blkK K')::m.filter fun p=>!Nat.beq b p.1) n:=by
 have e0:fnm [(0,b)] 1 n 0=b:=by simp [fnm,lk]
 have:=CallM.at (rd:=rd) (m:=m) (n:=n) (q:=[(0,b)]) h rfl (by simp [ltL,ltA,wldM]) (by simp only [inM,e0,reB_K,hm,and_true];exact ⟨⟨Nat.zero_lt_one,hb⟩,ltB_K _ _⟩) (by simp [injM]) (by simp [subM]);simp only [reFL,reF,wldM,e0,afterL,List.map_cons,List.map_nil,reB_K,List.any_cons,List.any_nil,Bool.or_false,Nat.sub_self,Nat.add_zero] at this;exact this
set_option maxRecDepth 100000 in
set_option maxHeartbeats 4000000 in
theorem of_p (S:Saf) (p:List Nod) (n:Int) (PT:List Part) (s:ByteArray) (hp:OkPg p) (hS:OkSf S) (hPT:okPT PT) (hN:∀ pt∈PT,∀ x∈pt.l,okN x):PureN Tryz.prog gt0 97 [.agg (safA S),.sl p.length 5 (p.flatMap encNd),.g (.int .i64 n),.agg [.sl PT.length 2 (PT.flatMap encP),.g (.string s)]] (.g (.int .i64 (ofQ S p n ⟨PT,s⟩))):=by
 have HW:=fun m n=>newWorld_at (rd:=[]) S p PT hp m n;have HE:=Q3s (pageM p) n;refine PureN.of_w (c:=_) Tryz.func97 rfl (by kernel_rfl) rfl ?_;simp only [Tryz.f97,List.replicate,List.length_cons,List.length_nil,Nat.reduceAdd,Nat.reduceSub,List.cons_append,List.nil_append,safA] at HW ⊢;obtain ⟨hP,hT⟩:=page_ok hp;have hof:ofQ S p n ⟨PT,s⟩=if elemB (pageM p) n=true then fitsQ S (pageM p) PT.reverse n.toNat else 0:=by
  unfold ofQ pageM
  by_cases ht:treeB p=true
  ·rw [if_pos ht]
   by_cases he:elemB p n=true
   ·rw [if_pos ⟨ht,he⟩,if_pos he]
   ·rw [if_neg (fun h=>he h.2),if_neg he]
  ·rw [if_neg (fun h=>ht h.1),if_neg ht]
   have:elemB [] n=false:=by unfold elemB;simp;intro a b;omega
   rw [this,if_neg (by decide)]
 rw [hof];generalize pageM p=P at *;have hlen:=hPT.1;have hPl:=hP.len
 (repeat ((try with_reducible refine W.step (b:=false) ?_);simp (decide:=true) only [go_sem,↓reduceIte,Nat.reduceAdd,Nat.reduceSub]))
 refine AtCall.mem (HW _ _) ?_
 (repeat ((try with_reducible refine W.step (b:=false) ?_);simp (decide:=true) only [go_sem,↓reduceIte,Nat.reduceAdd,Nat.reduceSub]))
 refine AtCall.mk HE ?_
 cases hel:elemB P n with
 | false =>
   rw [if_neg (by decide)]
   (repeat ((try with_reducible refine W.step (b:=false) ?_);simp (decide:=true) only [go_sem,↓reduceIte,Nat.reduceAdd,Nat.reduceSub]))
   exact Q0a _ (.inr rfl) rfl (.plain rfl)
 | true =>
   rw [if_pos rfl]
   by_cases h0:PT.length=0
   ·have f0:((PT.length:Int)=0)=True:=eq_true (by omega)
    obtain rfl:PT=[]:=List.eq_nil_of_length_eq_zero h0
    (repeat ((try with_reducible refine W.step (b:=false) ?_);simp (decide:=true) only [go_sem,↓reduceIte,Nat.reduceAdd,Nat.reduceSub,f0]))
    exact Q0a _ (.inr rfl) rfl (.plain rfl)
   ·obtain ⟨q,hq⟩:∃ q,PT.length=q+1:=⟨PT.length - 1,by omega⟩
    obtain ⟨k,rfl⟩:∃ k:Nat,n=(k:Int):=by
     unfold elemB at hel;simp only [Bool.and_eq_true,decide_eq_true_eq] at hel;exact ⟨n.toNat,by omega⟩
    obtain ⟨hkl,-⟩:=elem_at.1 hel;have hr:rightQ S P PT q k=fitsQ S P PT.reverse k:=by unfold rightQ;rw [List.take_of_length_le (by omega)]
    have HC:=fitsQ_m S P PT hP hT hS hPT hN q (by omega) [] k hkl (fun _ _ _=>.inl (by simp [getK]));rw [Int.toNat_natCast,←hr];have f0:((PT.length:Int)=0)=False:=eq_false (by omega);have f0':(PT.length=0)=False:=eq_false (by omega);have fw:IntKind.i64.wrap ((PT.length:Int) - 1)=(q:Int):=by rw [IntWalk.i64_in _ (by omega)];omega
    (repeat ((try with_reducible refine W.step (b:=false) ?_);simp (decide:=true) only [go_sem,↓reduceIte,Nat.reduceAdd,Nat.reduceSub,f0,f0',fw]))
    refine AtCall.mem (fits_at (b:=3) HC (by decide) rfl) ?_
    (repeat ((try with_reducible refine W.step (b:=false) ?_);simp (decide:=true) only [go_sem,↓reduceIte,Nat.reduceAdd,Nat.reduceSub]))
    exact Q0a _ (.inr rfl) rfl (.plain rfl)
set_option maxRecDepth 100000 in
set_option maxHeartbeats 4000000 in
theorem idxFZ_m (l:List Int) (hl:l.length≤1000000) (pr:Int→Bool) (g:Nat) (caps:List AV) (m:ML) (n:Nat)
 (hc:∀ x∈l,CallM Tryz.prog gt0 [] m n g (.g (.int .i64 x)::caps) (.g (.bool (pr x))) m n) :
 CallM Tryz.prog gt0 [] m n 165 [.sl l.length 1 (l.flatMap encZ),.fn (.func g) [] caps] (.g (.int .i64 (idxL pr l))) m n:=by
 refine Q0m (c:=_) Tryz.func165 rfl (by kernel_rfl) ?_;simp only [Tryz.f165,List.replicate,List.length_cons,List.length_nil,Nat.reduceAdd,Nat.reduceSub,List.cons_append,List.nil_append]
 (repeat ((try with_reducible refine W.step (b:=false) ?_);simp (decide:=true) only [go_sem,↓reduceIte,Nat.reduceAdd,Nat.reduceSub]))
 refine W.loop (s1:=stL [(.sl l.length 1 (l.flatMap encZ)),(.fn (.func g) [] caps),aN,aN,aN,aN,aN,(.g (.int .i64 (l.length:Int))),(.g (.int .i64 ((0:Nat):Int))),aN,aN,aN,aN,aN,aN,aN,aN,aN,aN] m n)
  (fun (k:Nat) t=>k≤l.length∧(∀ x∈l.take k,pr x=false)∧t=stL [(.sl l.length 1 (l.flatMap encZ)),(.fn (.func g) [] caps),aN,aN,aN,aN,aN,(.g (.int .i64 (l.length:Int))),(.g (.int .i64 (k:Int))),aN,aN,aN,aN,aN,aN,aN,aN,aN,aN] m n) (fun k=>l.length - k) 0 ⟨Nat.zero_le _,by simp,rfl⟩ (VS.tm (by simp [leL])) ?_
 rintro k t ⟨hk,he,rfl⟩
 by_cases hlt:k<l.length
 ·have r:=rowZ hlt
  (repeat ((try with_reducible refine W.step (b:=false) ?_);simp (decide:=true) only [go_sem,↓reduceIte,Nat.reduceAdd,Nat.reduceSub,hlt,r]))
  refine AtCall.mem (hc _ (List.getElem_mem hlt)) ?_
  cases hx:pr l[k] with
  | true =>
    (repeat ((try with_reducible refine W.step (b:=false) ?_);simp (decide:=true) only [go_sem,↓reduceIte,Nat.reduceAdd,Nat.reduceSub]))
    rw [Q3i hlt he hx];exact ⟨.inr rfl,[aN,aN,aN,aN,(.g (.int .i64 (k:Int))),aN,aN,aN,aN,aN,aN,aN,aN,aN,aN,aN,aN,aN,aN],VS.tm (by simp [leL]),rfl⟩
  | false =>
    (repeat ((try with_reducible refine W.step (b:=false) ?_);simp (decide:=true) only [go_sem,↓reduceIte,Nat.reduceAdd,Nat.reduceSub]))
    refine ⟨k+1,_,⟨by omega,Q1e hlt he hx,rfl⟩,by show l.length - (k+1)<l.length - k;omega,VS.tm ?_⟩;rw [up1 (by omega)];simp [leL]
 ·(repeat ((try with_reducible refine W.step (b:=false) ?_);simp (decide:=true) only [go_sem,↓reduceIte,Nat.reduceAdd,Nat.reduceSub,hlt]))
  rw [Q2v (fun x hx=>he x (by rw [List.take_of_length_le (by omega)];exact hx))];exact ⟨.inr rfl,[aN,aN,aN,aN,(.g (.int .i64 (-1))),aN,aN,aN,aN,aN,aN,aN,aN,aN,aN,aN,aN,aN,aN],VS.tm (by simp [leL]),rfl⟩
theorem conFZ_m (l:List Int) (hl:l.length≤1000000) (pr:Int→Bool) (g:Nat) (caps:List AV) (m:ML) (n:Nat)
 (hc:∀ x∈l,CallM Tryz.prog gt0 [] m n g (.g (.int .i64 x)::caps) (.g (.bool (pr x))) m n) :
 CallM Tryz.prog gt0 [] m n 95 [.sl l.length 1 (l.flatMap encZ),.fn (.func g) [] caps] (.g (.bool (l.any pr))) m n:=by
 refine Q0m (c:=_) Tryz.func95 rfl (by kernel_rfl) ?_;simp only [Tryz.f95,List.replicate,List.length_cons,List.length_nil,Nat.reduceAdd,Nat.reduceSub,List.cons_append,List.nil_append]
 (repeat ((try with_reducible refine W.step (b:=false) ?_);simp (decide:=true) only [go_sem,↓reduceIte,Nat.reduceAdd,Nat.reduceSub]))
 refine AtCall.mem (idxFZ_m l hl pr g caps m n hc) ?_
 (repeat ((try with_reducible refine W.step (b:=false) ?_);simp (decide:=true) only [go_sem,↓reduceIte,Nat.reduceAdd,Nat.reduceSub]))
 rw [idx_ge];exact ⟨.inr rfl,[aN,aN,aN,aN,(.g (.bool (l.any pr))),aN,aN,aN,aN],VS.tm (by simp [leL]),rfl⟩
theorem ag_cprt:aggO Tryz.prog 113=some (true,2):=by kernel_rfl
theorem sz_cprt:szO Tryz.prog 113=some 2:=by kernel_rfl
theorem fl_cprt0:fldO Tryz.prog 113 0=some (0,23):=by kernel_rfl
theorem fl_cprt1:fldO Tryz.prog 113 1=some (1,27):=by kernel_rfl
theorem bl_cprt (parts:List (Nat×AV)):evBuild Tryz.prog 113 parts=aggM (fillL [(0,1),(1,1)] [.g (.slice none 0 0),.g (.slice none 0 0)] parts):=Q1d (by kernel_rfl) parts
theorem ze_cprt:zeroO Tryz.prog 113=some [.g (.slice none 0 0),.g (.slice none 0 0)]:=by kernel_rfl
theorem bl_safeT (parts:List (Nat×AV)):evBuild Tryz.prog 48 parts=aggM (fillL [(0,1),(1,1)] [.g (.slice none 0 0),.g (.slice none 0 0)] parts):=Q1d (by kernel_rfl) parts
attribute [go_sem] ag_cprt sz_cprt fl_cprt0 fl_cprt1 bl_cprt ze_cprt bl_safeT
def prtA (p:List Nod) (l:List Int):List AV:=[.sl p.length 5 (p.flatMap encNd),.sl l.length 1 (l.flatMap encZ)]
set_option maxRecDepth 100000 in
set_option maxHeartbeats 4000000 in
theorem newPart_p (p:List Nod) (hp:OkPg p):PureN Tryz.prog gt0 51 [.sl p.length 5 (p.flatMap encNd)] (.agg (prtA p (nodesM p))):=by
 have HN:=nodes_p p hp;refine PureN.of_w2 (c:=_) Tryz.func51 rfl (by kernel_rfl) rfl ?_;simp only [Tryz.f51,List.replicate,List.length_cons,List.length_nil,Nat.reduceAdd,Nat.reduceSub,List.cons_append,List.nil_append,prtA]
 (repeat ((try with_reducible refine W.step (b:=false) ?_);simp (decide:=true) only [go_sem,↓reduceIte,Nat.reduceAdd,Nat.reduceSub]))
 refine AtCall.mk HN ?_
 (repeat ((try with_reducible refine W.step (b:=false) ?_);simp (decide:=true) only [go_sem,↓reduceIte,Nat.reduceAdd,Nat.reduceSub]))
 exact postV.of (Q0a _ (.inr rfl) (by unfold resV;simp only [go_sem,↓reduceIte,Nat.reduceAdd,Nat.reduceSub,Nat.reduceMul,Nat.reduceEqDiff,Nat.reduceLeDiff,Nat.reduceLT,Int.reduceLE,Int.reduceLT,Int.reduceToNat,Int.reduceEq]) (.agg (by simp [plainA])))
def keepsB (p:List Nod) (c:Cx):Bool:=(nodesM p).any fun n=>!decide (ofQ none0 p n c=0)
theorem wkA.aggT {a' a:List AV} (h:wkL a' a):wkA (.agg a') (.agg a):=fun w G v hv=>by
 obtain ⟨rc,rfl,h1⟩:=hv;refine ⟨rc,rfl,?_⟩;have up:∀ (xs bs:List AV) (vs:List Value),wkL xs bs→VRs w G bs vs→VRs w G xs vs:=by
  intro xs
  induction xs with
  | nil=>intro bs vs h1 h2;obtain rfl:bs=[]:=h1;exact h2
  | cons x xs ih =>
    intro bs vs h1 h2;obtain ⟨y,ys,rfl,h3,h4⟩:=h1;obtain ⟨v,us,rfl,h5,h6⟩:=h2;exact ⟨v,us,rfl,h3 _ _ _ h5,ih _ _ h4 h6⟩
 exact up _ _ _ h h1
theorem PureN.weakT {P:Program} {GT:GTab} {f:FuncId} {args args':List AV} {a:AV} (h:PureN P GT f args' a) (hw:wkL args' args) (hn:noIdsL args=true) (hp:plainA a=true):PureN P GT f args a :=
 CallM.pureN (CallM.weakQ (PureN.callM h) hw) hn (.plain hp)
theorem ofN_p (p:List Nod) (n:Int) (c:Cx) (hp:OkPg p) (hc:OkC c):PureN Tryz.prog gt0 97 [.agg [.g (.slice none 0 0),.g (.slice none 0 0)],.sl p.length 5 (p.flatMap encNd),.g (.int .i64 n),.agg [.sl c.parts.length 2 (c.parts.flatMap encP),.g (.string c.pseudo)]] (.g (.int .i64 (ofQ none0 p n c))) :=
 PureN.weakT (of_p none0 p n c.parts c.pseudo hp ⟨by simp [none0],by simp [none0],by simp [none0]⟩ hc.parts hc.names) ⟨_,_,rfl,wkA.aggT ⟨_,_,rfl,wkA.nil 1,_,_,rfl,wkA.nil 1,rfl⟩,_,_,rfl,wkA.refl _,_,_,rfl,wkA.refl _,_,_,rfl,wkA.refl _,rfl⟩ rfl rfl
set_option maxRecDepth 100000 in
set_option maxHeartbeats 4000000 in
theorem keepsCl_m (p:List Nod) (n:Int) (c:Cx) (nl:List Int) (hp:OkPg p) (hc:OkC c) :
 CallM Tryz.prog gt0 [] [(1,.cells (encC c)),(0,.cells (prtA p nl))] 2 96 [.g (.int .i64 n),.ptr 0 0,.ptr 1 0] (.g (.bool (!decide (ofQ none0 p n c=0)))) [(1,.cells (encC c)),(0,.cells (prtA p nl))] 2:=by
 have HO:=ofN_p p n c hp hc;refine Q0m (c:=_) Tryz.func96 rfl (by kernel_rfl) ?_;simp only [Tryz.f96,List.replicate,List.length_cons,List.length_nil,Nat.reduceAdd,Nat.reduceSub,List.cons_append,List.nil_append,prtA,encC]
 (repeat ((try with_reducible refine W.step (b:=false) ?_);simp (decide:=true) only [go_sem,↓reduceIte,Nat.reduceAdd,Nat.reduceSub]))
 refine AtCall.mk HO ?_
 (repeat ((try with_reducible refine W.step (b:=false) ?_);simp (decide:=true) only [go_sem,↓reduceIte,Nat.reduceAdd,Nat.reduceSub]))
 exact ⟨.inr rfl,[aN,aN,aN,aN,(.g (.bool (!decide (ofQ none0 p n c=0)))),aN,aN,aN,aN,aN,aN,aN],VS.tm (by simp [leL]),rfl⟩
set_option maxRecDepth 100000 in
set_option maxHeartbeats 4000000 in
theorem keeps_p (p:List Nod) (c:Cx) (hp:OkPg p) (hc:OkC c):PureN Tryz.prog gt0 52 [.agg (prtA p (nodesM p)),.agg (encC c)] (.g (.bool (keepsB p c))):=by
 have hl:(nodesM p).length≤1000000:=by
  unfold nodesM nodesM.tellC
  split
  ·rw [List.length_map]
   refine Nat.le_trans (List.length_filter_le _ _) ?_;rw [List.length_range];exact hp.len
  ·simp
 have HC:=fun m n hcl=>conFZ_m (nodesM p) hl (fun n=>!decide (ofQ none0 p n c=0)) 96 [.ptr 0 0,.ptr 1 0] m n hcl;refine PureN.of_w (c:=_) Tryz.func52 rfl (by kernel_rfl) rfl ?_;unfold keepsB;simp only [Tryz.f52,List.replicate,List.length_cons,List.length_nil,Nat.reduceAdd,Nat.reduceSub,List.cons_append,List.nil_append,prtA,encC] at HC ⊢
 (repeat ((try with_reducible refine W.step (b:=false) ?_);simp (decide:=true) only [go_sem,↓reduceIte,Nat.reduceAdd,Nat.reduceSub]))
 refine AtCall.mem (HC _ _ fun x _=>keepsCl_m p x c (nodesM p) hp hc) ?_
 (repeat ((try with_reducible refine W.step (b:=false) ?_);simp (decide:=true) only [go_sem,↓reduceIte,Nat.reduceAdd,Nat.reduceSub]))
 exact Q0a _ (.inr rfl) rfl (.plain rfl)
set_option maxRecDepth 100000 in
set_option maxHeartbeats 4000000 in
theorem keepsO_p (p:List Nod) (c:Cx) (hp:OkPg p) (hc:OkC c):PureN Tryz.prog gt0 21 [.sl p.length 5 (p.flatMap encNd),.agg (encC c)] (.g (.bool (keepsB p c))):=by
 have HN:=newPart_p p hp;have HK:=keeps_p p c hp hc;refine PureN.of_w (c:=_) Tryz.func21 rfl (by kernel_rfl) rfl ?_;simp only [Tryz.f21,List.replicate,List.length_cons,List.length_nil,Nat.reduceAdd,Nat.reduceSub,List.cons_append,List.nil_append,encC,prtA] at HN HK ⊢
 (repeat ((try with_reducible refine W.step (b:=false) ?_);simp (decide:=true) only [go_sem,↓reduceIte,Nat.reduceAdd,Nat.reduceSub];try with_reducible refine drawn hmix (by kernel_rfl) ?_))
 refine AtCallQ.mk HN ?_
 (repeat ((try with_reducible refine W.step (b:=false) ?_);simp (decide:=true) only [go_sem,↓reduceIte,Nat.reduceAdd,Nat.reduceSub];try with_reducible refine drawn hmix (by kernel_rfl) ?_))
 refine AtCallQ.mk HK ?_
 (repeat ((try with_reducible refine W.step (b:=false) ?_);simp (decide:=true) only [go_sem,↓reduceIte,Nat.reduceAdd,Nat.reduceSub];try with_reducible refine drawn hmix (by kernel_rfl) ?_))
 exact Q0a _ (.inr rfl) rfl (.plain rfl)
attribute [go_sem] appL newsA isSlice
def inZ (l:List Int) (x:Int):Bool:=l.any fun y=>decide (y=x)
set_option maxRecDepth 100000 in
set_option maxHeartbeats 4000000 in
theorem in21_p (l:List Int) (x:Int) (hl:l.length≤1000000):PureN Tryz.prog gt0 15 [.sl l.length 1 (l.flatMap encZ),.g (.int .i64 x)] (.g (.bool (inZ l x))):=by
 refine PureN.of_w (c:=_) Tryz.func15 rfl (by kernel_rfl) rfl ?_;simp only [Tryz.f15,List.replicate,List.length_cons,List.length_nil,Nat.reduceAdd,Nat.reduceSub,List.cons_append,List.nil_append];unfold inZ
 (repeat ((try with_reducible refine W.step (b:=false) ?_);simp (decide:=true) only [go_sem,↓reduceIte,Nat.reduceAdd,Nat.reduceSub]))
 refine W.loop (s1:=stL [(.sl l.length 1 (l.flatMap encZ)),(.g (.int .i64 x)),aN,aN,(.g (.bool false)),(.g (.int .i64 ((0:Nat):Int))),aN,aN,aN,aN,aN,aN,aN,aN,aN,aN,aN,aN] [] 0)
  (fun (k:Nat) t=>k≤l.length∧(∀ y∈l.take k,decide (y=x)=false)∧t=stL [(.sl l.length 1 (l.flatMap encZ)),(.g (.int .i64 x)),aN,aN,(.g (.bool false)),(.g (.int .i64 (k:Int))),aN,aN,aN,aN,aN,aN,aN,aN,aN,aN,aN,aN] [] 0) (fun k=>l.length - k) 0 ⟨Nat.zero_le _,by simp,rfl⟩ (VS.tm (by simp [leL])) ?_
 rintro k t ⟨hk,he,rfl⟩
 by_cases hlt:k<l.length
 ·have r:=rowZ hlt
  by_cases hx:l[k]=x
  ·have fx:=eq_true hx
   rw [List.any_eq_true.2 ⟨l[k],List.getElem_mem hlt,decide_eq_true hx⟩]
   (repeat ((try with_reducible refine W.step (b:=false) ?_);simp (decide:=true) only [go_sem,↓reduceIte,Nat.reduceAdd,Nat.reduceSub,hlt,r,fx]))
   exact Q0a _ (.inr rfl) rfl (.plain rfl)
  ·have fx:=eq_false hx
   (repeat ((try with_reducible refine W.step (b:=false) ?_);simp (decide:=true) only [go_sem,↓reduceIte,Nat.reduceAdd,Nat.reduceSub,hlt,r,fx]))
   refine ⟨k+1,_,⟨by omega,Q1e (pr:=fun y=>decide (y=x)) hlt he (decide_eq_false hx),rfl⟩,by show l.length - (k+1)<l.length - k;omega,VS.tm ?_⟩;rw [up1 (by omega)];simp [leL]
 ·have:(l.any fun y=>decide (y=x))=false:=List.any_eq_false.2 fun y hy=>by
   have:=he y (by rw [List.take_of_length_le (by omega)];exact hy);simpa using this
  rw [this]
  (repeat ((try with_reducible refine W.step (b:=false) ?_);simp (decide:=true) only [go_sem,↓reduceIte,Nat.reduceAdd,Nat.reduceSub,hlt]))
  exact Q0a _ (.inr rfl) rfl (.plain rfl)
theorem nodesM_len {p:List Nod} (hp:OkPg p):(nodesM p).length≤1000000:=by
 unfold nodesM nodesM.tellC
 split
 ·rw [List.length_map]
  refine Nat.le_trans (List.length_filter_le _ _) ?_;rw [List.length_range];exact hp.len
 ·simp
theorem allR_lenT {p:List Nod} (hp:OkPg p) (st:List Stt) (c:Cx):(allR p st c).length≤1000000:=by
 unfold allR;rw [List.length_map];refine Nat.le_trans (List.length_filter_le _ _) ?_;rw [List.length_range];exact hp.len
theorem fits_keeps {p:List Nod} {st:List Stt} {c:Cx} {x:Int} (hx:x∈nodesM p) (h:inZ (allR p st c) x=true):keepsB p c=true:=by
 unfold inZ at h;obtain ⟨y,hy,e⟩:=List.any_eq_true.1 h;rw [of_decide_eq_true e] at hy;have:=of_sound (mem_allR.1 hy);unfold keepsB;refine List.any_eq_true.2 ⟨x,hx,?_⟩;rw [Bool.not_eq_true',decide_eq_false_iff_not];omega
set_option maxRecDepth 100000 in
set_option maxHeartbeats 4000000 in
theorem critFits_p (HF:PureN Tryz.prog gt0 10 [] (.g (.bool true))) (p:List Nod) (st:List Stt) (c:Cx) (hg:c.parts.length≤140737488351232) :
 PureN Tryz.prog gt0 4 [.sl p.length 5 (p.flatMap encNd),.sl st.length 2 (st.flatMap encSt),.agg (encC c)] (.g (.bool true)):=by
 have H4:=small4_p [c] 30 (by decide) (fun x hx=>by rw [List.mem_singleton.1 hx];exact hg);have HS:=small10_p p 40 (by decide);have HW:=few_p st;refine PureN.of_w2 (c:=_) Tryz.func4 rfl (by kernel_rfl) rfl ?_;have e4:([c]:List Cx).flatMap encC=[.sl c.parts.length 2 (c.parts.flatMap encP),.g (.string c.pseudo)]:=rfl;simp only [Tryz.f4,List.replicate,List.length_cons,List.length_nil,Nat.reduceAdd,Nat.reduceSub,List.cons_append,List.nil_append,encC,e4] at H4 ⊢
 (repeat ((try with_reducible refine W.step (b:=false) ?_);simp (decide:=true) only [go_sem,↓reduceIte,Nat.reduceAdd,Nat.reduceSub]))
 refine AtCall.mk HF ?_
 (repeat ((try with_reducible refine W.step (b:=false) ?_);simp (decide:=true) only [go_sem,↓reduceIte,Nat.reduceAdd,Nat.reduceSub]))
 refine AtCall.mk HS ?_
 cases hs:pgSm 40 p with
 | false =>
   (repeat ((try with_reducible refine W.step (b:=false) ?_);simp (decide:=true) only [go_sem,↓reduceIte,Nat.reduceAdd,Nat.reduceSub]))
   refine AtCall.mk HF ?_
   (repeat ((try with_reducible refine W.step (b:=false) ?_);simp (decide:=true) only [go_sem,↓reduceIte,Nat.reduceAdd,Nat.reduceSub]))
   exact postV.of (Q0a _ (.inr rfl) rfl (.plain rfl))
 | true =>
   (repeat ((try with_reducible refine W.step (b:=false) ?_);simp (decide:=true) only [go_sem,↓reduceIte,Nat.reduceAdd,Nat.reduceSub]))
   refine AtCall.mk HW ?_
   cases hw:fewM st with
   | false =>
     (repeat ((try with_reducible refine W.step (b:=false) ?_);simp (decide:=true) only [go_sem,↓reduceIte,Nat.reduceAdd,Nat.reduceSub]))
     refine AtCall.mk HF ?_
     (repeat ((try with_reducible refine W.step (b:=false) ?_);simp (decide:=true) only [go_sem,↓reduceIte,Nat.reduceAdd,Nat.reduceSub]))
     exact postV.of (Q0a _ (.inr rfl) rfl (.plain rfl))
   | true =>
     (repeat ((try with_reducible refine W.step (b:=false) ?_);simp (decide:=true) only [go_sem,↓reduceIte,Nat.reduceAdd,Nat.reduceSub]))
     refine AtCall.mem (PureN.read H4 (CloseTo.gs (b:=1) (o:=0) (k:=1) (sz:=2) (cs:=[.sl c.parts.length 2 (c.parts.flatMap encP),.g (.string c.pseudo)]) rfl (Nat.le_refl _) (by simp [plainC]) (CloseTo.plain rfl CloseTo.nil))) ?_
     cases h4:smC 30 [c] [c].length with
     | false =>
       (repeat ((try with_reducible refine W.step (b:=false) ?_);simp (decide:=true) only [go_sem,↓reduceIte,Nat.reduceAdd,Nat.reduceSub]))
       refine AtCall.mk HF ?_
       (repeat ((try with_reducible refine W.step (b:=false) ?_);simp (decide:=true) only [go_sem,↓reduceIte,Nat.reduceAdd,Nat.reduceSub]))
       exact postV.of (Q0a _ (.inr rfl) rfl (.plain rfl))
     | true =>
       have hok:OkC c:=smCx_okA (m:=30) (by decide) ((smC_spec (by decide) _ _ h4).2 c (by simp));have hpg:OkPg p:=pgSm_ok (m:=40) (by decide) hs;have hst:st.length≤1000000:=by
        unfold fewM at hw;have:=of_decide_eq_true (Bool.and_eq_true_iff.1 hw).1;omega
       have HA:=all12_p p st c hpg hst hok.parts;have HN:=nodes_p p hpg;have HK:=keepsO_p p c hpg hok;have hal:=allR_lenT hpg st c;have hnl:=nodesM_len hpg;have hfk:=fun x hx=>fits_keeps (p:=p) (st:=st) (c:=c) (x:=x) hx;have hnk:nodesM p=[]→keepsB p c=false:=fun h=>by unfold keepsB;rw [h];rfl
       simp only [encC] at HA HK;generalize allR p st c=fl at *;generalize nodesM p=nl at *;generalize keepsB p c=kb at *
       (repeat ((try with_reducible refine W.step (b:=false) ?_);simp (decide:=true) only [go_sem,↓reduceIte,Nat.reduceAdd,Nat.reduceSub]))
       refine AtCall.mk HA ?_
       (repeat ((try with_reducible refine W.step (b:=false) ?_);simp (decide:=true) only [go_sem,↓reduceIte,Nat.reduceAdd,Nat.reduceSub]))
       refine AtCall.mk HN ?_
       (repeat ((try with_reducible refine W.step (b:=false) ?_);simp (decide:=true) only [go_sem,↓reduceIte,Nat.reduceAdd,Nat.reduceSub]))
       refine AtCall.mk HK ?_
       (repeat ((try with_reducible refine W.step (b:=false) ?_);simp (decide:=true) only [go_sem,↓reduceIte,Nat.reduceAdd,Nat.reduceSub]))
       refine W.loop (s1:=stL [aN,aN,aN,aN,aN,aN,aN,(.sl fl.length 1 (fl.flatMap encZ)),(.sl nl.length 1 (nl.flatMap encZ)),(.g (.bool kb)),(.g (.int .i64 ((0:Nat):Int))),aN,aN,aN,aN,aN,aN,aN,aN,aN,aN,aN,aN,aN,aN,aN,aN,aN,aN,aN,aN,aN,aN,aN,aN,aN,aN,aN,aN,aN,aN,aN,aN,aN,aN,aN,aN,aN,aN,aN,aN,aN,aN,aN,aN,aN,aN,aN,aN,aN,aN,aN] [] 0)
        (fun (k:Nat) t=>k≤nl.length∧t=stL [aN,aN,aN,aN,aN,aN,aN,(.sl fl.length 1 (fl.flatMap encZ)),(.sl nl.length 1 (nl.flatMap encZ)),(.g (.bool kb)),(.g (.int .i64 (k:Int))),aN,aN,aN,aN,aN,aN,aN,aN,aN,aN,aN,aN,aN,aN,aN,aN,aN,aN,aN,aN,aN,aN,aN,aN,aN,aN,aN,aN,aN,aN,aN,aN,aN,aN,aN,aN,aN,aN,aN,aN,aN,aN,aN,aN,aN,aN,aN,aN,aN,aN,aN] [] 0) (fun k=>nl.length - k) 0 ⟨Nat.zero_le _,rfl⟩ ?_ ?_
       ·exact VSkeep (Nat.zero_le _) (fun r hr=>by simp at hr) (by simp [Q0e,Q0g,ltA])
       rintro k t ⟨hk,rfl⟩
       by_cases hlt:k<nl.length
       ·have r:=rowZ hlt
        have HI:=in21_p fl nl[k] hal;have hq:=hfk nl[k] (List.getElem_mem hlt)
        (repeat ((try with_reducible refine W.step (b:=false) ?_);simp (decide:=true) only [go_sem,↓reduceIte,Nat.reduceAdd,Nat.reduceSub,hlt,r]))
        refine AtCall.mk HI ?_
        cases hb:inZ fl nl[k] with
        | true =>
          rw [hq hb]
          (repeat ((try with_reducible refine W.step (b:=false) ?_);simp (decide:=true) only [go_sem,↓reduceIte,Nat.reduceAdd,Nat.reduceSub]))
          refine ⟨k+1,_,⟨by omega,rfl⟩,by show nl.length - (k+1)<nl.length - k;omega,VS.tm ?_⟩;rw [up1 (by omega)];simp [leL]
        | false =>
          (repeat ((try with_reducible refine W.step (b:=false) ?_);simp (decide:=true) only [go_sem,↓reduceIte,Nat.reduceAdd,Nat.reduceSub]))
          refine ⟨k+1,_,⟨by omega,rfl⟩,by show nl.length - (k+1)<nl.length - k;omega,VS.tm ?_⟩;rw [up1 (by omega)];simp [leL]
       ·(repeat ((try with_reducible refine W.step (b:=false) ?_);simp (decide:=true) only [go_sem,↓reduceIte,Nat.reduceAdd,Nat.reduceSub,hlt]))
        by_cases h0:nl=[]
        ·subst h0
         rw [hnk rfl]
         (repeat ((try with_reducible refine W.step (b:=false) ?_);simp (decide:=true) only [go_sem,↓reduceIte,Nat.reduceAdd,Nat.reduceSub]))
         exact postV.of (Q0a _ (.inr rfl) rfl (.plain rfl))
        ·have f0:(0<nl.length)=True:=eq_true (List.length_pos_iff.2 h0)
         have f0':((0:Int)<(nl.length:Int))=True:=eq_true (by have:=List.length_pos_iff.2 h0;omega)
         (repeat ((try with_reducible refine W.step (b:=false) ?_);simp (decide:=true) only [go_sem,↓reduceIte,Nat.reduceAdd,Nat.reduceSub,f0,f0']))
         exact postV.of (Q0a _ (.inr rfl) rfl (.plain rfl))
end Go.Proofs.YtabliahkhafddaaGreat
namespace Go.Proofs.YtabliahkhafddaaGreat
open Go.RowKit Go.Ev
open Go.Ev.AV renaming any→aN
def cpol:FuncId→Bool:=fun f=>pol18 f&&!(Nat.beq f 148||Nat.beq f 248||Nat.beq f 146||Nat.beq f 345||Nat.beq f 117)
def cpage:List Nod:=[⟨⟨#[]⟩,[],⟨#[]⟩,-1,[1,2,4]⟩,
 ⟨⟨#[108,105,110,107]⟩,[⟨⟨#[104,114,101,102]⟩,⟨#[97]⟩⟩],⟨#[]⟩,0,[]⟩,
 ⟨⟨#[100,105,118]⟩,[],⟨#[]⟩,0,[3]⟩,
 ⟨⟨#[112]⟩,[⟨⟨#[99,114,105,116,105,99,97,108]⟩,⟨#[]⟩⟩],⟨#[]⟩,2,[]⟩,
 ⟨⟨#[113]⟩,[],⟨#[]⟩,0,[]⟩]
def cpg:AV:=(.sl 5 5 [(.g (.string ⟨#[]⟩)),(.g (.slice none 0 0)),(.g (.string ⟨#[]⟩)),(.g (.int .i64 (-1))),(.sl 3 1 [(.g (.int .i64 (1))),(.g (.int .i64 (2))),
 (.g (.int .i64 (4)))]),(.g (.string ⟨#[108,105,110,107]⟩)),(.sl 1 2 [(.g (.string ⟨#[104,114,101,102]⟩)),(.g (.string ⟨#[97]⟩))]),(.g (.string ⟨#[]⟩)),
 (.g (.int .i64 (0))),(.g (.slice none 0 0)),(.g (.string ⟨#[100,105,118]⟩)),(.g (.slice none 0 0)),(.g (.string ⟨#[]⟩)),(.g (.int .i64 (0))),(.sl 1 1 [(.g (.int .i64 (3)))]),
 (.g (.string ⟨#[112]⟩)),(.sl 1 2 [(.g (.string ⟨#[99,114,105,116,105,99,97,108]⟩)),(.g (.string ⟨#[]⟩))]),(.g (.string ⟨#[]⟩)),(.g (.int .i64 (2))),
 (.g (.slice none 0 0)),(.g (.string ⟨#[113]⟩)),(.g (.slice none 0 0)),(.g (.string ⟨#[]⟩)),(.g (.int .i64 (0))),(.g (.slice none 0 0))])
theorem wkA.slT {n sz:Nat} {a' a:List AV} (h:wkL a' a):wkA (.sl n sz a') (.sl n sz a):=fun w G v hv=>by
 obtain ⟨ad,cap,rfl,hc,h1⟩:=hv;refine ⟨ad,cap,rfl,hc,h1.imp id fun ⟨rb,ro,h2,h3⟩=>⟨rb,ro,h2,?_⟩⟩;have up:∀ (xs bs:List AV) (o:Nat),wkL xs bs→RowR w G rb o bs→RowR w G rb o xs:=by
  intro xs
  induction xs with
  | nil=>intro bs o h1 h2;trivial
  | cons x xs ih =>
    intro bs o h1 h2;obtain ⟨y,ys,rfl,h3,h4⟩:=h1;obtain ⟨h5,⟨u,h6,h7⟩,h8⟩:=h2;exact ⟨h5,⟨u,h6,h3 _ _ _ h7⟩,ih _ _ h4 h8⟩
 exact up _ _ _ h h3
theorem cpage_ok:OkPg cpage:=⟨by decide +kernel,by decide +kernel,by decide +kernel,by decide +kernel,by decide +kernel⟩
theorem cabove:aboveM cpage 3=[2]:=by
 rw [Q1t,if_pos (by decide),show (ndAt cpage ((3:Nat):Int)).up.toNat=2 from rfl,Q1t,if_neg (by decide)]
theorem cnodes:nodesM cpage=[2,3]:=by
 have hc:∀ m,critB cpage m=(elemB cpage (m:Int)&&(decide (3=m)||decide (m∈[2]))):=fun m=>by
  unfold critB;rw [show (List.range cpage.length)=[0,1,2,3,4] from rfl,List.any_cons,List.any_cons,List.any_cons,List.any_cons,List.any_cons,List.any_nil,show hasC cpage 0=false from rfl,show hasC cpage 1=false from rfl,show hasC cpage 2=false from rfl,show hasC cpage 3=true from rfl,show hasC cpage 4=false from rfl,cabove];simp
 unfold nodesM nodesM.tellC;rw [if_pos (by kernel_rfl),show critB cpage=fun m:Nat=>(elemB cpage (m:Int)&&(decide (3=m)||decide (m∈[2]))) from funext hc]
 rfl
def cans:AV:=(.sl 2 1 [(.g (.int .i64 (2))),(.g (.int .i64 (3)))])
theorem cnodes_pure:Pure Tryz.prog (fun _=>none) 13 [cpg] (.ret cans):=by
 have h:=nodes_p cpage cpage_ok;rw [cnodes] at h
 exact (PureN.weakT h ⟨_,_,rfl,wkA.slT (by
  unfold cpage
  (repeat (first | refine ⟨_,_,rfl,wkA.refl _,?_⟩ | refine ⟨_,_,rfl,wkA.nil _,?_⟩));rfl),rfl⟩ rfl rfl).pure
def cOB:FuncId→List AV→Option AV:=oneO 40 cargB ctextB
theorem cOB_ok {GT:GTab}:ChOk Tryz.prog GT (shutCH (fun f=>Nat.beq f 40) 1000 cOB):=by
 refine shutCH_ok fun f args a _ h=>?_;obtain ⟨rfl,rfl,rfl⟩:=oneO_spec h;refine ⟨fun w rargs ha=>?_,_,Tryz.func40,by kernel_rfl,by kernel_rfl⟩;refine (ctextB_pure.at w rargs (fun g cs h=>by cases h) ha).mono ?_;rintro e w' ⟨r,rfl,hr,hB⟩;exact ⟨r,rfl,hr,hB⟩
def cch:CH:=orCH addCH (orCH (shutCH pick18 1000 known18) (orCH (tabCH (oneO 13 cpg cans)) (orCH (tabCH (oneO 79 cargA cparse)) (orCH (shutCH (fun f=>Nat.beq f 40) 1000 cOB) (tabCH idxO)))))
theorem cch_ok:ChOk Tryz.prog (fun _=>none) cch:=orCH_ok addCH_ok (orCH_ok known18_ok (orCH_ok (oneO_ok cnodes_pure ⟨_,Tryz.func13,by kernel_rfl,by kernel_rfl⟩) (orCH_ok (oneO_ok cparse_pure ⟨_,Tryz.func79,by kernel_rfl,by kernel_rfl⟩) (orCH_ok cOB_ok idxO_ok))))
theorem fixed21_ev:evF Tryz.prog (fun _=>none) cch cpol 100000 300 10 [] [] .e 0=some (.ret (.g (.bool true)),.e,0):=by kernel_rfl
theorem fixed21_any (w:World):Calls Tryz.prog 10 #[] w fun e w'=>e=.returned (.bool true)∧Below w.heap.size w w':=by
 have hp:Pure Tryz.prog (fun _=>none) 10 [] (.ret (.g (.bool true))):=evF_pure prOk cch_ok fixed21_ev rfl;refine (hp.at w #[] (fun g cs h=>by cases h) (by rw [Ats,VRs])).mono ?_;rintro e w' ⟨r,rfl,hr,hB⟩;obtain rfl:r=.bool true:=hr;exact ⟨rfl,hB⟩
theorem fixed21_p:PureN Tryz.prog gt0 10 [] (.g (.bool true)):=by
 refine PureN.ofC rfl ⟨_,Tryz.func10,rfl,by kernel_rfl⟩ fun w rargs ha=>?_;have hr:rargs.toList=[]:=ha;have hra:rargs=#[]:=Array.toList_inj.1 hr;rw [hra];exact fixed21_any w
end Go.Proofs.YtabliahkhafddaaGreat
namespace Go.Proofs.YtabliahkhafddaaGreat
open Go.ChangeShapes Go.WideShapes Go.ChangeAt Go.RowKit Go.Ev
open Go.Ev.AV renaming any→aN
namespace critFits
set_option maxRecDepth 1000000 in
theorem contract (H:Type) (enc:TypeId×Value→H) (W:World) (base:Nat) (args:Array Value) (ds gs:List (DataW H)) (before:List MemPlace)
 (hval:∀ (j:Nat) t v,Tryz.f4.params[j]?=some t→args[j]?=some v→Value.okWide Tryz.prog W .any base t v)
 (hW:DataW.Whole enc Tryz.prog Tryz.f4.params.toList Rows.critFitsSpec.vars false W args.toList ds gs before)
 (hw:(DataW.weightsEach Tryz.prog (Tryz.f4.params.toList++Rows.critFitsSpec.plain.varTypes Tryz.prog) (ds++gs)).all (·≤reachBytes)=true) :
 Calls Tryz.prog 4 args W fun e W'=>∃ v,e=.returned v∧Rows.critFitsSpec.post enc Tryz.prog Tryz.f4 false true false false W args v W':=by
 have hW':=hW;obtain ⟨p,q,hA0,hV,rfl,hfz,hnd⟩:=hW;have hA:DataW.TrodAll enc Tryz.prog W 0 (fun _=>true) true Tryz.f4.params.toList args.toList ds p:=hA0;rw [show Tryz.f4.params=#[23,36,39] by kernel_rfl] at hA hval hw;obtain ⟨v0,vs0,d0,ds0,p0,q0,hargs,rfl,rfl,h0,r0⟩:=trodAll_cons hA;obtain ⟨v1,vs1,d1,ds1,p1,q1,rfl,rfl,rfl,h1,r1⟩:=trodAll_cons r0;obtain ⟨v2,vs2,d2,ds2,p2,q2,rfl,rfl,rfl,h2,r2⟩:=trodAll_cons r1;obtain ⟨rfl,rfl,rfl⟩:=trodAll_nil r2;obtain rfl:args=#[v0,v1,v2]:=by cases args;simp_all
 obtain ⟨rfl,rfl⟩:=trodVars_none hV;have hw':=List.all_eq_true.1 hw;have fit0:Fits Tryz.prog 23 d0:=fun x hx=>by
  simpa using hw' x (Q1m (i:=0) rfl rfl x hx)
 have fit1:Fits Tryz.prog 36 d1:=fun x hx=>by
  simpa using hw' x (Q1m (i:=1) rfl rfl x hx)
 have fit2:Fits Tryz.prog 39 d2:=fun x hx=>by
  simpa using hw' x (Q1m (i:=2) rfl rfl x hx)
 obtain ⟨pg,hpg⟩:=open_pg1 (hval 0 23 v0 (by simp) (by simp)) h0 fit0;obtain ⟨st,hst⟩:=open_stts (hval 1 36 v1 (by simp) (by simp)) h1 fit1;obtain ⟨a,ha,ga⟩:=open_cx1 (hval 2 39 v2 (by simp) (by simp)) h2 fit2;clear hA0;have hlt0:∀ x∈p0,x.block<W.heap.size:=fun x hx=>by simpa using hW'.lt x (by simp [hx])
 have hlt1:∀ x∈p1,x.block<W.heap.size:=fun x hx=>by simpa using hW'.lt x (by simp [hx])
 have hlt2:∀ x∈p2,x.block<W.heap.size:=fun x hx=>by simpa using hW'.lt x (by simp [hx])
 refine ((critFits_p fixed21_p pg st a ga).pure.at W #[v0,v1,v2] (fun g cs h=>by cases h) (VRs.cons_mk hpg (VRs.cons_mk hst (VRs.cons_mk ha (by rw [VRs]))))).mono ?_;rintro e W' ⟨r,rfl,hr,hB⟩;obtain rfl:r=.bool true:=hr
 exact ⟨_,rfl,postB_of (pa:=p0++(p1++(p2++[]))) (pv:=[]) hW' (fun _ _ _=>trodAll_cons_mk (shut_bool Tryz.underlying4 _) trodAll_mk0)
  (fun sp hsp=>trodAll_cons_mk (WideElems.Trod_stays f_laid rdPg itPg h0 (fun x hx=>hB.same (hlt0 x hx)) (fun x hx=>hsp x (by simp [hx])))
    (trodAll_cons_mk (WideElems.Trod_stays f_laid rdSts itSts h1 (fun x hx=>hB.same (hlt1 x hx)) (fun x hx=>hsp x (by simp [hx])))
      (trodAll_cons_mk (WideElems.Trod_stays f_laid rdCx itCx h2 (fun x hx=>hB.same (hlt2 x hx)) (fun x hx=>hsp x (by simp [hx]))) trodAll_mk0)))
  (fun _ _=>rfl) rfl hB (ok_one (by kernel_rfl) rfl (okWide_bool_mk Tryz.underlying4 _))⟩
set_option maxRecDepth 100000 in
theorem lifted (os:Os) (started:os.Started) (H:Type) (enc:TypeId×Value→H) :
 ReturnsInHanded {} Tryz.checked os 4 .any (Rows.critFitsSpec.pre6 enc Tryz.prog Tryz.f4 Rows.critFitsRow.domain false) (Rows.critFitsSpec.post enc Tryz.prog Tryz.f4 false true false false):=by
 refine returnsInHanded_of_change_sized (C:=Tryz.checked) ownB started (by kernel_rfl) Tryz.func4
  (ChangeSpec.witness6 (enc:=enc) (C:=Tryz.checked) false ⟨#[],#[.slice none 0 0,.slice none 0 0,.agg #[.slice none 0 0,.string ⟨#[]⟩]],[]⟩ 8 (by kernel_rfl) (by kernel_rfl) (by kernel_rfl) (by kernel_rfl)) ?_
 intro W base args ds gs before hval hW _ hw _;exact contract H enc W base args ds gs before hval hW hw
theorem said:Rows.CritFitsSaid :=
 OpenClaim.holds_of_wide 4 Tryz.f4 rfl rfl rfl rfl rfl rfl rfl ⟨rfl,rfl,rfl,rfl,rfl⟩ rfl rfl rfl rfl rfl row_named Tryz.func4 closed
  (of_decide_eq_true (by kernel_rfl)) row_wrapper
  (fun os started H enc _=>lifted os started H enc)
end critFits
end Go.Proofs.YtabliahkhafddaaGreat
end
