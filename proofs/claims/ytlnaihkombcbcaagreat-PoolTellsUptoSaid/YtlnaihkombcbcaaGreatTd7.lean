/- winnowinglaw18.PoolGrows, walked. -/
import Derived.Test.YtlnaihkombcbcaaGreatTd6
import Derived.RegionTactic
import Derived.ChangeAlike
import Derived.BigRegion
import Derived.Maps.AppendAt
import Derived.Test.YtlnaihkombcbcaaGreatTd5
import Derived.Test.YtlnaihkombcbcaaGreatTd3
import Derived.Test.YtlnaihkombcbcaaGreatTd4
import Derived.Laws.OwnMore
import Derived.Deep.RegionHeld3
import Derived.Deep.RegionLaw
set_option linter.unusedSimpArgs false
noncomputable section
namespace Go.Proofs.YtlnaihkombcbcaaGreat
open Go.RowKit Go.Sort Go.Ev
theorem RowP.sat {w:World} {v:Value} {ss:List Str} (h:RowP w v ss):SAt w v ss:=by
 rcases h with ⟨rfl,rfl⟩ | ⟨b,o,cap,c,e,fr,rfl,h1,h2,h3,h4,h5,h6,h7⟩
 ·exact .inl ⟨rfl,_,_,rfl⟩
 ·refine .inr ⟨b,o,cap,by simp,by simpa using h2,by simpa using h1,fun j hj=>?_⟩
  have hj':j<ss.length:=by simpa using hj
  rw [cell_of h4,h7 j hj'];simp [hj']
  rfl
def PlAt (w:World) (v:Value) (s:S3):Prop:=∃ va vb vc,v=.agg #[va,vb,vc]∧SAt w va s.c∧SAt w vb s.f∧SAt w vc s.g
theorem PlAt.below {w w':World} {v:Value} {s:S3} (h:PlAt w v s) (hb:Below w.heap.size w w'):PlAt w' v s:=by
 obtain ⟨va,vb,vc,rfl,h1,h2,h3⟩:=h;exact ⟨va,vb,vc,rfl,h1.below hb,h2.below hb,h3.below hb⟩
theorem RowP.set3 {wr:World} {b:Nat} {u:Value} {ss:List Str} (h:RowP wr u ss) (x y z:Value) (hk:∀ k,u.ownBlock=some k→k≠b) :
 RowP (((wr.setCell ⟨b,0,none⟩ x).setCell ⟨b,1,none⟩ y).setCell ⟨b,2,none⟩ z) u ss :=
 h.keep fun k e=>(put_far _ rfl (hk k e)).trans ((put_far _ rfl (hk k e)).trans (put_far _ rfl (hk k e)))
section
variable {z Bu Bg:Nat} {s:S3} {g:Bool} {W W':World}
theorem PcAt.below {v:Value} {ps:List Pc} {size:Nat} (h:PcAt W v ps size) (hb:Below W.heap.size W W'):PcAt W' v ps size:=by
 refine ⟨h.1.imp id ?_,fun p hp=>(h.2 p hp).below hb⟩;rintro ⟨b,o,cap,h1,h2,h3⟩;exact ⟨b,o,cap,h1,h2,fun k hk=>cell_up (h3 k hk) hb⟩
theorem rd_owns {B:Nat} {v:Value} {l:List Itm} {news:List Value} (ho:W.ownsRow B 53 8 v l.length news) (hb:Below W.heap.size W W') (ha:VRs W' ⟨fun _=>none,fun b=>b<z⟩ (l.flatMap encI) news) (hn:∀ b,B≤b→b<W.heap.size→¬OwG Bu Bg W' b):RdI Bu Bg z W' l v:=by
 by_cases hl:l=[]
 ·subst hl
  obtain ⟨a,c,rfl⟩:=owns_slice ho;exact .inl ⟨rfl,a,c,rfl⟩
 ·have hpos:0<l.length:=List.length_pos_iff.2 hl
  rcases ho.2 with ⟨rfl,h0⟩ | ⟨g,cap,cur,rfl,hgB,hg,hc,-,-,ht⟩
  ·omega
  ·have hgl:=(Array.getElem?_eq_some_iff.1 hg).1
   refine .inr ⟨g,0,cap,rfl,hc,hpos,Nat.lt_of_lt_of_le hgl hb.size,hn g hgB hgl,fun k hk j a hj=>?_⟩;have hjs:j<8:=by have:=(List.getElem?_eq_some_iff.1 hj).1;rw [encI_len] at this;exact this
   have hfl:=flat_get encI 8 encI_len l k hk j hjs;rw [hj] at hfl;obtain ⟨v,h1,h2⟩:=VRs.get ha hfl;refine ⟨v,?_,h2⟩;rw [Nat.zero_add,Lib.cell_of_heap ((hb.block g hgl).trans hg)];have hlt:k*8+j<l.length*8:=by omega
   rw [←ht,List.getElem?_take,if_pos hlt] at h1;simpa using h1
theorem RdI.ko {l:List Itm} {v:Value} (h:RdI Bu Bg z W l v) (hk:KO (OwG Bu Bg) z W W'):RdI Bu Bg z W' l v:=by
 rcases h with h | ⟨b,o,cap,rfl,h1,h2,h3,h4,h5⟩
 ·exact .inl h
 ·exact .inr ⟨b,o,cap,rfl,h1,h2,Nat.lt_of_lt_of_le h3 hk.below.size,fun ho=>h4 (hk.own b h3 ho),rd_ko h3 h4 h5 hk⟩
theorem RdI.next {l:List Itm} {v:Value} (h:RdI Bu Bg z W l v) (hs:StG z Bu Bg s g W) (o:Obj) (hz:z≤W.heap.size):RdI Bu W.heap.size z (W.alloc o) l v:=by
 have hb:=below_alloc W o;rcases h with h | ⟨b,o',cap,rfl,h1,h2,h3,h4,h5⟩
 ·exact .inl h
 ·refine .inr ⟨b,o',cap,rfl,h1,h2,Nat.lt_of_lt_of_le h3 hb.size,fun ho=>?_,fun k hk j a hj=>?_⟩
  ·rcases ho with ho | ho
   ·omega
   ·exact h4 (.inr (OwU_below hs.u.lt hb b ho))
  ·obtain ⟨x,e1,e2⟩:=h5 k hk j a hj
   exact ⟨x,(hb.cell (p:=⟨b,o'+(k*8+j),none⟩) h3).trans e1,e2.below (hb.mono hz)⟩
theorem StG.next (hs:StG z Bu Bg s g W) (g':Bool) (hz:z≤W.heap.size):StG z Bu W.heap.size s g' (W.alloc (gO g')) :=
 ⟨hs.u.below (below_alloc _ _),World.alloc_heap_new W _,hz,fun ho=>by have:=(hs.u.own (OwU_below hs.u.lt (below_alloc _ _) _ ho)).2;omega⟩
structure OfSt (z Bu Bg:Nat) (R:List Ru) (l:List Itm) (v:Value) (s:S3) (g:Bool) (W0 W:World):Prop where
 st:StG z Bu Bg s g W
 inu:InU R s
 fix:g=false→passM s l=s
 rd:RdI Bu Bg z W l v
 below:Below z W0 W
 size:z≤W.heap.size
theorem uO_cells {va vb vc:Value} (h:W.heap[Bu]?=some (UO va vb vc)):W.cell? ⟨Bu,0,none⟩=some va∧W.cell? ⟨Bu,1,none⟩=some vb∧W.cell? ⟨Bu,2,none⟩=some vc:=by
 unfold UO at h;refine ⟨?_,?_,?_⟩ <;> (rw [Lib.cell_of_heap h];rfl)
end
theorem pass_in {L:List (List Itm)} {s:S3} (h:InU (rulesOf L.flatten) s):InU (rulesOf L.flatten) (passM s L.flatten):=by
 rw [pass_rules];exact inU_fold _ (fun r hr=>hr) h
theorem pass_fin {L:List (List Itm)} {s:S3} (h:InU (rulesOf L.flatten) s) (hf:passM s L.flatten=s):FinU (rulesOf L.flatten) s:=by
 rw [pass_rules] at hf;exact fin_of h (fold_fix _ _ hf)
theorem tot_small {L:List (List Itm)} (h:∀ l∈L,okSh l) (h4:L.length≤4) {s:S3} (hs:InU (rulesOf L.flatten) s):totM s≤720000:=by
 have h0:s.c.length≤240000:=small_len h h4 hs 0;have h1:s.f.length≤240000:=small_len h h4 hs 1;have h2:s.g.length≤240000:=small_len h h4 hs 2;unfold totM;omega
def twoG (s:S3) (g:Bool):Nat:=2*(720001 - totM s)+if g=true then 1 else 0
theorem two_less {L:List (List Itm)} (h:∀ l∈L,okSh l) (h4:L.length≤4) {s:S3} (hs:InU (rulesOf L.flatten) s):twoG (passM s L.flatten) (grewB s (passM s L.flatten))<twoG s true:=by
 have h1:=tot_small h h4 hs;have h2:=tot_small h h4 (pass_in hs);have hu:=up_pass s L.flatten;unfold twoG
 cases hg:grewB s (passM s L.flatten)
 ·rw [grew_false hu hg];simp
 ·have:=grew_true hu hg
  simp;omega
theorem Tryz.sizePool:(Tryz.prog.info? 41).map (·.size)=some 3:=by kernel_rfl
set_option maxRecDepth 100000 in
set_option maxHeartbeats 8000000 in
theorem of18_any (L:List (List Itm)) (v:Value) (w:World) (hv:At w (.sl L.length 1 (L.flatMap encSh)) v) (hok:∀ l∈L,okSh l) (h4:L.length≤4) :
 Calls Tryz.prog 33 #[v] w fun e w'=>∃ pv s,e=.returned pv∧PlAt w' pv s∧FinU (rulesOf L.flatten) s∧Below w.heap.size w w':=by
 obtain ⟨ps,hp,hpl,hsum,hats⟩:=pcs_of hv;obtain ⟨h5,h6⟩:=okIs_flatten L hok;have hlen:=cntIs_len L.flatten;have hb1:=below_alloc w (.cells #[.slice none 0 0,.slice none 0 0,.slice none 0 0] 41);have hs1:(w.alloc (.cells #[.slice none 0 0,.slice none 0 0,.slice none 0 0] 41)).heap.size=w.heap.size+1:=by simp
 obtain ⟨w1,hw1⟩:∃ w1,w1=w.alloc (.cells #[.slice none 0 0,.slice none 0 0,.slice none 0 0] 41):=⟨_,rfl⟩;rw [←hw1] at hb1 hs1;have hn1:w1.heap[w.heap.size]?=some (.cells #[.slice none 0 0,.slice none 0 0,.slice none 0 0] 41):=by rw [hw1];exact World.alloc_heap_new _ _
 have hb2:=below_alloc w1 (UO (.slice none 0 0) (.slice none 0 0) (.slice none 0 0));have hs2:(w1.alloc (UO (.slice none 0 0) (.slice none 0 0) (.slice none 0 0))).heap.size=w.heap.size+2:=by simp [hs1]
 have hU:UAt (w.heap.size+1) (w.heap.size+1) ⟨[],[],[]⟩ (w1.alloc (UO (.slice none 0 0) (.slice none 0 0) (.slice none 0 0))):=by
  have hnew:=World.alloc_heap_new w1 (UO (.slice none 0 0) (.slice none 0 0) (.slice none 0 0));rw [hs1] at hnew;refine ⟨_,_,_,hnew,.inl ⟨rfl,rfl⟩,.inl ⟨rfl,rfl⟩,.inl ⟨rfl,rfl⟩,Nat.le_refl _,fun k hk=>?_,fun k hk=>?_,fun k hk=>?_⟩
  ·rcases hk with hk | hk | hk <;> simp [Value.ownBlock] at hk
  ·simp [Value.ownBlock] at hk
  ·simp [Value.ownBlock] at hk
 obtain ⟨w2,hw2⟩:∃ w2,w2=w1.alloc (UO (.slice none 0 0) (.slice none 0 0) (.slice none 0 0)):=⟨_,rfl⟩;have hU0:w2.heap[w.heap.size+1]?=some (UO (.slice none 0 0) (.slice none 0 0) (.slice none 0 0)):=by rw [hw2,←hs1];exact World.alloc_heap_new _ _
 rw [←hw2] at hb2 hs2 hU;have hb12:Below w.heap.size w w2:=bup hb1 hb2;have HCC:=Lib.hid (concatI_any ps v w2 (hp.below hb12) (by omega) (by omega));have hrow:∀ (w3:World) (v':Value),w3.ownsRow w2.heap.size 53 8 v' (sumM ps) (allN ps)→Below w2.heap.size w2 w3→OfSt (w.heap.size+1) (w.heap.size+1) w3.heap.size (rulesOf L.flatten) L.flatten v' ⟨[],[],[]⟩ true w1 (w3.alloc (gO true)):=by
  intro w3 v' ho hb3;have hu3:=hU.below hb3;have hs3:=hb3.size;have hz3:w.heap.size+1≤w3.heap.size:=by omega
  have hb4:=below_alloc w3 (gO true)
  have hst:StG (w.heap.size+1) (w.heap.size+1) w3.heap.size ⟨[],[],[]⟩ true (w3.alloc (gO true)) :=
   ⟨hu3.below hb4,World.alloc_heap_new _ _,hz3,fun hq=>by have:=(hu3.own (OwU_below hu3.lt hb4 _ hq)).2;omega⟩
  have hB13:Below w.heap.size w w3:=bup hb12 hb3;have hB14:Below w.heap.size w (w3.alloc (gO true)):=bup hB13 hb4;refine ⟨hst,inU_nil _,fun h=>Bool.noConfusion h,?_,?_,Nat.le_trans hz3 hb4.size⟩
  ·rw [hsum] at ho
   refine rd_owns ho hb4 ?_ fun b h1 h2 hq=>?_
   ·exact VRs_keep (I:=fun b=>b<w.heap.size) (fun rb h=>Nat.lt_succ_of_lt h) (fun rb h=>hB14.block rb h) _ hats
   ·rcases hq with hq | hq
    ·omega
    ·rcases (OwU_iff (hb4.block _ (by omega) |>.trans (hb3.block _ (by omega) |>.trans hU0)) b).1 hq with hq | hq
     ·omega
     ·rcases hq with hq | hq | hq <;> simp [Value.ownBlock] at hq
  ·exact (by rw [←hs1];exact (hb2.trans (hb3.mono (by omega))).trans (hb4.mono (by omega)))
 have HRow:=Lib.hid hrow;have HCN:Hid (cntIs L.flatten≤1000000):=Lib.hid (by omega);have HSM:=Lib.hid fun s (h:InU (rulesOf L.flatten) s)=>sz_of hok h4 h;have HIT:=Lib.hid (itok_of hok);have HLE:=Lib.hid fun s (h:InU (rulesOf L.flatten) s)=>two_less hok h4 h;have HPI:=Lib.hid fun s (h:InU (rulesOf L.flatten) s)=>pass_in h;have HPF:=Lib.hid fun s (h:InU (rulesOf L.flatten) s) (hf:passM s L.flatten=s)=>pass_fin h hf;have HN1:=Lib.hid hn1;have HB1:=Lib.hid hb1;obtain ⟨av,nv,cv,rfl⟩:∃ a n c,v=.slice a n c:=by obtain ⟨ad,cap,rfl,-⟩:=At.sl_form hv;exact ⟨_,_,_,rfl⟩
 have HW1:=Lib.hid hw1;have HS1:=Lib.hid hs1;clear hrow hv hp hats hok h4 h5 h6 hlen hn1 hb1 hb2 hU hU0 hb12 hsum hpl;generalize hR:rulesOf L.flatten=R at *;generalize hI:L.flatten=items at *;clear hR hI
 go_enter Tryz.func33,Tryz.ntmps33
 go_wp2_with fail
 rw [←HW1.out];subst hw2;unfold UO at HCC HRow;refine HCC.out.mono ?_;rintro e w3 ⟨v',rfl,ho,hb3⟩;have S0:=Lib.hid (HRow.out w3 v' ho hb3);obtain ⟨a3,c3,rfl⟩:=owns_slice ho;clear ho hb3 HCC HRow hs1;have hst0:Hid (OfSt (w.heap.size+1) (w.heap.size+1) w3.heap.size R items (.slice a3 (sumM ps) c3) ⟨[],[],[]⟩ true w1 (w3.alloc (.cells #[.bool true] 4))):=S0;clear S0;generalize sumM ps=n3 at *
 go_wp2_with fail
 go_loopg [5] 2000000 (fun gg v5 wr=>∃ (Bg:Nat) (s:S3) (g:Bool),v5=.pointer (some ⟨Bg,0,none⟩)∧Hid (twoG s g≤gg)∧Hid (OfSt (w.heap.size+1) (w.heap.size+1) Bg R items (.slice a3 n3 c3) s g w1 wr))
 case atStart=>exact ⟨_,_,_,rfl,Lib.hid (by decide),hst0⟩
 case round =>
  clear hst0;obtain ⟨Bg,s,g,rfl,hgg,S⟩:=hrel;obtain ⟨g1,g2⟩:=gO_cell S.out.st.g
  cases g
  ·obtain ⟨va,vb,vc,hu1,hr1,hr2,hr3,-,hu6,-⟩:=S.out.st.u
   obtain ⟨u0,u1,u2⟩:=uO_cells hu1;have hp0:=(S.out.below.block w.heap.size (Nat.lt_succ_self _)).trans HN1.out;have p0:wr.cell? ⟨w.heap.size,0,none⟩=some (.slice none 0 0):=by rw [Lib.cell_of_heap hp0];rfl
   have p1:wr.cell? ⟨w.heap.size,1,none⟩=some (.slice none 0 0):=by rw [Lib.cell_of_heap hp0];rfl
   have p2:wr.cell? ⟨w.heap.size,2,none⟩=some (.slice none 0 0):=by rw [Lib.cell_of_heap hp0];rfl
   have f0:=Lib.frozen_of_heap hp0;obtain ⟨xa,ya,rfl⟩:=hr1.form;obtain ⟨xb,yb,rfl⟩:=hr2.form;obtain ⟨xc,yc,rfl⟩:=hr3.form;have HE:Hid (FinU R s):=Lib.hid (HPF.out s S.out.inu (S.out.fix rfl));have hne:∀ k,OwV (.slice xa s.c.length ya) (.slice xb s.f.length yb) (.slice xc s.g.length yc) k→k≠w.heap.size:=fun k hk=>by have:=(hu6 k hk).1;omega
   have HP:=Lib.hid fun x y z=>And.intro (hr1.set3 x y z fun k hk=>hne k (.inl hk)) (And.intro (hr2.set3 x y z fun k hk=>hne k (.inr (.inl hk))) (hr3.set3 x y z fun k hk=>hne k (.inr (.inr hk))));have HH:=Lib.hid (S.out.below);have HSZ:=Lib.hid S.out.size;have HP0:=Lib.hid hp0;clear hu1 hr1 hr2 hr3 hp0 S hu6 hne
   go_wp2
   refine bodyPost_ret (results_cell_row rfl _ _ w.heap.size 41 _ (0,0) _ rfl (set3 _ _ _ HP0.out rfl) Tryz.underlying41 rfl Tryz.sizePool) rfl ?_;have hB:Below w.heap.size w wr:=HB1.out.trans (HH.out.mono (Nat.le_succ _));obtain ⟨k1,k2,k3⟩:=HP.out (.slice xa s.c.length ya) (.slice xb s.f.length yb) (.slice xc s.g.length yc);exact ⟨_,s,rfl,⟨_,_,_,rfl,k1.sat,k2.sat,k3.sat⟩,HE.out,below3 _ _ _ hB (Nat.le_refl _)⟩
  ·have hz:=S.out.size
   obtain ⟨S1,K1⟩:=S.out.st.put false;have HR1:=S.out.rd.ko K1;have HI:=Lib.hid (inner_any HSM.out _ items (Nat.le_refl _) HCN.out HIT.out _ s false _ HR1 S1 (Nat.le_trans hz K1.below.size) S.out.inu);have HK1:=Lib.hid K1;unfold cloV at HI;have HRD1:=Lib.hid HR1;clear S1 K1 HR1
   go_wp2_with fail
   refine HI.out.mono ?_;rintro e w4 ⟨rfl,hS4,hK4⟩;rw [Bool.or_false] at hS4;obtain ⟨g3,g4⟩:=gO_cell hS4.g;have hz4:w.heap.size+1≤w4.heap.size:=Nat.le_trans hz (Nat.le_trans HK1.out.below.size hK4.below.size)
   have hOf:OfSt (w.heap.size+1) (w.heap.size+1) w4.heap.size R items (.slice a3 n3 c3) (passM s items) (grewB s (passM s items)) w1 (w4.alloc (gO (grewB s (passM s items)))) :=
    { st:=hS4.next _ hz4
      inu:=HPI.out s S.out.inu
      fix:=fun h=>by rw [grew_false (up_pass s items) h,grew_false (up_pass s items) h]
      rd:=(HRD1.out.ko hK4).next hS4 _ hz4
      below:=(S.out.below.trans (HK1.out.below.trans hK4.below)).trans ((below_alloc _ _).mono hz4)
      size:=Nat.le_trans hz4 (below_alloc _ _).size }
   have HOF:=Lib.hid hOf;have HLT:=Lib.hid (Nat.lt_of_lt_of_le (HLE.out s S.out.inu) hgg.out);clear hOf hS4 hK4 hz4 hz HRD1 HK1 HI S hgg g1 g2;unfold gO at HOF;generalize passM s items=s' at *;generalize grewB s s'=q at *
   go_wp2_with fail
   go_roundg (twoG s' q)
   case measure=>exact HLT.out
   case rel=>exact ⟨_,_,_,rfl,Lib.hid (Nat.le_refl _),HOF⟩
def gNw (z B:Nat) (W:World):Gh:=⟨fun _=>none,fun b=>(b<z∨B≤b)∧b<W.heap.size⟩
theorem vr_old {z B:Nat} {w W:World} {a:AV} {v:Value} (h:AtB z w a v) (hb:Below z w W) (hz:z≤W.heap.size):VR W (gNw z B W) a v :=
 VR_keep (fun _ hr=>⟨.inl hr,Nat.lt_of_lt_of_le hr hz⟩) (fun rb hr=>hb.block rb hr) a h
theorem tri_vr {z B g:Nat} {W:World} (xs:List Dc) (cap:Nat) (hz:z≤W.heap.size) (hg:B≤g) (hgl:g<W.heap.size) (hcap:xs.length≤cap) (ht:∀ t (ht:t<xs.length),Tri W g t xs[t]) (hi:∀ x∈xs,AtB z W (.sl x.d.l.length 5 (x.d.l.flatMap encV)) (.slice x.ad x.d.l.length x.cp)) :
 VR W (gNw z B W) (.sl xs.length 3 ((xs.map (·.d)).flatMap encD)) (.slice (some ⟨g,0,none⟩) xs.length cap):=by
 have hI:(gNw z B W).I g:=⟨.inr hg,hgl⟩;refine ⟨_,cap,rfl,hcap,.inr ⟨g,0,rfl,RowR.mk hI fun i a hia=>?_⟩⟩;have hlt:i<xs.length*3:=by have:=(List.getElem?_eq_some_iff.1 hia).1;rw [len_flatD,List.length_map] at this;exact this
 obtain ⟨q,r,hr,rfl⟩:∃ q r,r<3∧i=q*3+r:=⟨i / 3,i % 3,by omega,by omega⟩;have hq:q<xs.length:=by omega
 rw [flat_get encD 3 encD_len _ q (by rw [List.length_map];exact hq) r hr] at hia;simp only [List.getElem_map] at hia;obtain ⟨e0,e1,e2⟩:=ht _ hq;have h3:r=0∨r=1∨r=2:=by omega
 rw [Nat.zero_add];rcases h3 with rfl | rfl | rfl
 ·obtain rfl:AV.g (.string xs[q].d.name)=a:=by simpa [encD] using hia
  exact ⟨_,e0,rfl⟩
 ·obtain rfl:AV.sl xs[q].d.l.length 5 (xs[q].d.l.flatMap encV)=a:=by simpa [encD] using hia
  exact ⟨_,e1,vr_old (hi _ (List.getElem_mem hq)) (Below.refl _ _) hz⟩
 ·obtain rfl:AV.g (.bool xs[q].d.imp)=a:=by simpa [encD] using hia
  exact ⟨_,e2,rfl⟩
def KeepPost (p:S3) (x:Itm) (z:Nat) (w:World) (e:Ending) (w':World):Prop :=
 ∃ kd a1 n1 c1 a2 n2 c2 a3 n3 c3 mn mx a6 n6 c6 a7 n7 c7,e=.returned (.tuple #[itV kd a1 n1 c1 a2 n2 c2 a3 n3 c3 mn mx a6 n6 c6 a7 n7 c7,.bool (keepI p x).isSome]) ∧
   Hid (∀ y,keepI p x=some y→VRs w' (gNw z w.heap.size w') (encI y) [.int .i64 kd,.slice a1 n1 c1,.slice a2 n2 c2,.slice a3 n3 c3,.int .i64 mn,.int .i64 mx,.slice a6 n6 c6,.slice a7 n7 c7])∧Below w.heap.size w w'
theorem vrs_item {W:World} {G:Gh} {x:Itm} {a1 a2 a3 a6 a7:Option Addr} {c1 c2 c3 c6 c7:Nat} (h1:VR W G (.sl x.sels.length 2 (x.sels.flatMap encC)) (.slice a1 x.sels.length c1)) (h2:VR W G (.sl x.decls.length 3 (x.decls.flatMap encD)) (.slice a2 x.decls.length c2))
 (h3:VR W G (.sl x.names.length 1 (x.names.flatMap encN)) (.slice a3 x.names.length c3)) (h6:VR W G (.sl x.vals.length 5 (x.vals.flatMap encV)) (.slice a6 x.vals.length c6)) (h7:VR W G (.sl x.l.length 8 (x.l.flatMap encI)) (.slice a7 x.l.length c7)) :
 VRs W G (encI x) [.int .i64 x.kind,.slice a1 x.sels.length c1,.slice a2 x.decls.length c2,.slice a3 x.names.length c3,.int .i64 x.mn,.int .i64 x.mx,.slice a6 x.vals.length c6,.slice a7 x.l.length c7]:=by
 cases x
 rw [encI,encIs_flat];exact VRs.cons_mk rfl (VRs.cons_mk h1 (VRs.cons_mk h2 (VRs.cons_mk h3 (VRs.cons_mk rfl (VRs.cons_mk rfl (VRs.cons_mk h6 (VRs.cons_mk h7 (by rw [VRs]))))))))
theorem set8 {W:World} {g:Nat} {t:TypeId} {cs:Array Value} (x0 x1 x2 x3 x4 x5 x6 x7:Value) (h:W.heap[g]?=some (.cells cs t (0,0))) (hs:cs.size=8) :
 ((((((((W.setCell ⟨g,0,none⟩ x0).setCell ⟨g,1,none⟩ x1).setCell ⟨g,2,none⟩ x2).setCell ⟨g,3,none⟩ x3).setCell ⟨g,4,none⟩ x4).setCell ⟨g,5,none⟩ x5).setCell ⟨g,6,none⟩ x6).setCell ⟨g,7,none⟩ x7).heap[g]?=some (.cells #[x0,x1,x2,x3,x4,x5,x6,x7] t (0,0)):=by
 have h0:=put_same (o:=0) x0 h;have h1:=put_same (o:=1) x1 h0;have h2:=put_same (o:=2) x2 h1;have h3:=put_same (o:=3) x3 h2;have h4:=put_same (o:=4) x4 h3;have h5:=put_same (o:=5) x5 h4;have h6:=put_same (o:=6) x6 h5;have h7:=put_same (o:=7) x7 h6;refine h7.trans ?_;clear h h0 h1 h2 h3 h4 h5 h6 h7;obtain ⟨l⟩:=cs
 match l,hs with
 | [a,b,c,d,e,f,g,i],_=>simp
theorem below8 {z:Nat} {w W:World} {g:Nat} (x0 x1 x2 x3 x4 x5 x6 x7:Value) (h:Below z w W) (hg:z≤g) :
 Below z w ((((((((W.setCell ⟨g,0,none⟩ x0).setCell ⟨g,1,none⟩ x1).setCell ⟨g,2,none⟩ x2).setCell ⟨g,3,none⟩ x3).setCell ⟨g,4,none⟩ x4).setCell ⟨g,5,none⟩ x5).setCell ⟨g,6,none⟩ x6).setCell ⟨g,7,none⟩ x7) :=
 (((((((h.setCell hg _).setCell hg _).setCell hg _).setCell hg _).setCell hg _).setCell hg _).setCell hg _).setCell hg _
theorem far8 {W:World} {g k:Nat} (x0 x1 x2 x3 x4 x5 x6 x7:Value) (h:k≠g) :
 ((((((((W.setCell ⟨g,0,none⟩ x0).setCell ⟨g,1,none⟩ x1).setCell ⟨g,2,none⟩ x2).setCell ⟨g,3,none⟩ x3).setCell ⟨g,4,none⟩ x4).setCell ⟨g,5,none⟩ x5).setCell ⟨g,6,none⟩ x6).setCell ⟨g,7,none⟩ x7).heap[k]?=W.heap[k]?:=by
 rw [put_far _ rfl h,put_far _ rfl h,put_far _ rfl h,put_far _ rfl h,put_far _ rfl h,put_far _ rfl h,put_far _ rfl h,put_far _ rfl h]
theorem Tryz.sizeItem:(Tryz.prog.info? 53).map (·.size)=some 8:=by kernel_rfl
def zO:Obj:=.cells #[.int .i64 0,.slice none 0 0,.slice none 0 0,.slice none 0 0,.int .i64 0,.int .i64 0,.slice none 0 0,.slice none 0 0] 53
def plO (va vb vc:Value):Obj:=.cells #[va,vb,vc] 127
structure KSt (B:Nat) (va vb vc:Value) (o:Obj) (w W:World):Prop where
 below:Below B w W
 p:W.heap[B]?=some (plO va vb vc)
 x:W.heap[B+1]?=some o
 r:W.heap[B+2]?=some zO
 size:B+3≤W.heap.size
theorem KSt.step {B:Nat} {va vb vc:Value} {o:Obj} {w W W':World} (h:KSt B va vb vc o w W) (hb:Below (B+3) W W'):KSt B va vb vc o w W' :=
 ⟨h.below.trans (hb.mono (by omega)),(hb.block _ (by omega)).trans h.p,(hb.block _ (by omega)).trans h.x,(hb.block _ (by omega)).trans h.r,Nat.le_trans h.size hb.size⟩
theorem KSt.new (w:World) (va vb vc:Value) (o:Obj):KSt w.heap.size va vb vc o w (((w.alloc (plO va vb vc)).alloc o).alloc zO):=by
 have s1:(w.alloc (plO va vb vc)).heap.size=w.heap.size+1:=by simp
 have s2:((w.alloc (plO va vb vc)).alloc o).heap.size=w.heap.size+2:=by simp
 refine ⟨((((Below.refl _ w).alloc (Nat.le_refl _) _).alloc (by omega) _).alloc (by omega) _),?_,?_,?_,by simp⟩
 ·rw [Below.heap_alloc _ _ _ (by omega),Below.heap_alloc _ _ _ (by omega)];exact World.alloc_heap_new _ _
 ·rw [Below.heap_alloc _ _ _ (by omega)]
  have:=World.alloc_heap_new (w.alloc (plO va vb vc)) o
  rwa [s1] at this
 ·have:=World.alloc_heap_new ((w.alloc (plO va vb vc)).alloc o) zO
  rwa [s2] at this
theorem plO_cells {W:World} {B:Nat} {va vb vc:Value} (h:W.heap[B]?=some (plO va vb vc)):W.cell? ⟨B,0,none⟩=some va∧W.cell? ⟨B,1,none⟩=some vb∧W.cell? ⟨B,2,none⟩=some vc:=by
 unfold plO at h;refine ⟨?_,?_,?_⟩ <;> (rw [Lib.cell_of_heap h];rfl)
theorem zO_cells {W:World} {B:Nat} (h:W.heap[B]?=some zO):W.cell? ⟨B,0,none⟩=some (.int .i64 0)∧W.cell? ⟨B,1,none⟩=some (.slice none 0 0)∧W.cell? ⟨B,2,none⟩=some (.slice none 0 0)∧W.cell? ⟨B,3,none⟩=some (.slice none 0 0) ∧
 W.cell? ⟨B,4,none⟩=some (.int .i64 0)∧W.cell? ⟨B,5,none⟩=some (.int .i64 0)∧W.cell? ⟨B,6,none⟩=some (.slice none 0 0)∧W.cell? ⟨B,7,none⟩=some (.slice none 0 0)∧∀ o,W.frozen? ⟨B,o,none⟩=false:=by
 unfold zO at h;refine ⟨?_,?_,?_,?_,?_,?_,?_,?_,fun o=>Lib.frozen_of_heap h o⟩ <;> (rw [Lib.cell_of_heap h];rfl)
theorem KSt.putD {B:Nat} {va vb vc:Value} {w W:World} {kd mn mx:Int} {a1 a2 a3 a6 a7:Option Addr} {n1 c1 n2 c2 n3 c3 n6 c6 n7 c7:Nat} (h:KSt B va vb vc (itmO kd a1 n1 c1 a2 n2 c2 a3 n3 c3 mn mx a6 n6 c6 a7 n7 c7) w W) (a:Option Addr) (n c:Nat) :
 KSt B va vb vc (itmO kd a1 n1 c1 a n c a3 n3 c3 mn mx a6 n6 c6 a7 n7 c7) w (W.setCell ⟨B+1,2,none⟩ (.slice a n c)):=by
 refine ⟨h.below.setCell (Nat.le_succ _) _,(put_far _ rfl (by omega)).trans h.p,?_,(put_far _ rfl (by omega)).trans h.r,by simp [World.setCell];exact h.size⟩;have:=put_same (o:=2) (.slice a n c) h.x;rw [this];rfl
theorem KSt.putL {B:Nat} {va vb vc:Value} {w W:World} {kd mn mx:Int} {a1 a2 a3 a6 a7:Option Addr} {n1 c1 n2 c2 n3 c3 n6 c6 n7 c7:Nat} (h:KSt B va vb vc (itmO kd a1 n1 c1 a2 n2 c2 a3 n3 c3 mn mx a6 n6 c6 a7 n7 c7) w W) (a:Option Addr) (n c:Nat) :
 KSt B va vb vc (itmO kd a1 n1 c1 a2 n2 c2 a3 n3 c3 mn mx a6 n6 c6 a n c) w (W.setCell ⟨B+1,7,none⟩ (.slice a n c)):=by
 refine ⟨h.below.setCell (Nat.le_succ _) _,(put_far _ rfl (by omega)).trans h.p,?_,(put_far _ rfl (by omega)).trans h.r,by simp [World.setCell];exact h.size⟩;have:=put_same (o:=7) (.slice a n c) h.x;rw [this];rfl
theorem keep_end {p:S3} {x:Itm} {z:Nat} {va vb vc:Value} {o:Obj} {w W:World} {b:Bool} {kd mn mx:Int} {a1 a2 a3 a6 a7:Option Addr} {n1 c1 n2 c2 n3 c3 n6 c6 n7 c7:Nat} (h:KSt w.heap.size va vb vc o w W) (hz:z≤w.heap.size) (hb:b=(keepI p x).isSome)
 (hV:∀ y,keepI p x=some y→VRs W (gNw z (w.heap.size+3) W) (encI y) [.int .i64 kd,.slice a1 n1 c1,.slice a2 n2 c2,.slice a3 n3 c3,.int .i64 mn,.int .i64 mx,.slice a6 n6 c6,.slice a7 n7 c7]) :
 KeepPost p x z w (.returned (.tuple #[.agg #[.int .i64 kd,.slice a1 n1 c1,.slice a2 n2 c2,.slice a3 n3 c3,.int .i64 mn,.int .i64 mx,.slice a6 n6 c6,.slice a7 n7 c7],.bool b]))
  ((((((((W.setCell ⟨w.heap.size+1+1,0,none⟩ (.int .i64 kd)).setCell ⟨w.heap.size+1+1,1,none⟩ (.slice a1 n1 c1)).setCell ⟨w.heap.size+1+1,2,none⟩ (.slice a2 n2 c2)).setCell ⟨w.heap.size+1+1,3,none⟩ (.slice a3 n3 c3)).setCell ⟨w.heap.size+1+1,4,none⟩ (.int .i64 mn)).setCell ⟨w.heap.size+1+1,5,none⟩ (.int .i64 mx)).setCell ⟨w.heap.size+1+1,6,none⟩ (.slice a6 n6 c6)).setCell ⟨w.heap.size+1+1,7,none⟩ (.slice a7 n7 c7)):=by
 refine ⟨kd,a1,n1,c1,a2,n2,c2,a3,n3,c3,mn,mx,a6,n6,c6,a7,n7,c7,by rw [hb];rfl,Lib.hid fun y hy=>?_,below8 _ _ _ _ _ _ _ _ h.below (by omega)⟩;have hs:=(below8 (z:=w.heap.size) (.int .i64 kd) (.slice a1 n1 c1) (.slice a2 n2 c2) (.slice a3 n3 c3) (.int .i64 mn) (.int .i64 mx) (.slice a6 n6 c6) (.slice a7 n7 c7) (Below.refl w.heap.size W) (show w.heap.size≤w.heap.size+1+1 by omega)).size;exact VRs_keep (I:=(gNw z (w.heap.size+3) W).I) (I':=(gNw z w.heap.size _).I) (fun _ hr=>⟨hr.1.imp id fun h=>by omega,Nat.lt_of_lt_of_le hr.2 hs⟩) (fun rb hr=>far8 _ _ _ _ _ _ _ _ (by rcases hr.1 with h | h <;> omega)) _ (hV y hy)
theorem prAt_of {c:List Str} {va vb vc:Value} {o:Obj} {w W:World} (hs:SAt w va c) (h:KSt w.heap.size va vb vc o w W):PrAt c w.heap.size (w.heap.size+3) W :=
 ⟨va,fun _ hb=>⟨(plO_cells (h.step hb).p).1,hs.below (h.step hb).below⟩⟩
theorem heapDrew (W:World) (g:Nat):W.drew.heap[g]?=W.heap[g]?:=rfl
theorem set8d {W:World} {g:Nat} {t:TypeId} {cs:Array Value} (x0 x1 x2 x3 x4 x5 x6 x7:Value) (h:W.heap[g]?=some (.cells cs t (0,0))) (hs:cs.size=8) :
 ((((((((W.setCell ⟨g,0,none⟩ x0).setCell ⟨g,1,none⟩ x1).setCell ⟨g,2,none⟩ x2).setCell ⟨g,3,none⟩ x3).setCell ⟨g,4,none⟩ x4).setCell ⟨g,5,none⟩ x5).setCell ⟨g,6,none⟩ x6).setCell ⟨g,7,none⟩ x7).drew.heap[g]?=some (.cells #[x0,x1,x2,x3,x4,x5,x6,x7] t (0,0)) :=
 (heapDrew _ g).trans (set8 x0 x1 x2 x3 x4 x5 x6 x7 h hs)
theorem KeepPost.drew {p:S3} {x:Itm} {z:Nat} {w:World} {e:Ending} {W:World} (h:KeepPost p x z w e W):KeepPost p x z w e W.drew:=by
 obtain ⟨kd,a1,n1,c1,a2,n2,c2,a3,n3,c3,mn,mx,a6,n6,c6,a7,n7,c7,he,hv,hb⟩:=h;exact ⟨kd,a1,n1,c1,a2,n2,c2,a3,n3,c3,mn,mx,a6,n6,c6,a7,n7,c7,he,Lib.hid fun y hy=>VRs_keep (w:=W) (w':=W.drew) (I:=(gNw z w.heap.size W).I) (I':=(gNw z w.heap.size W.drew).I) (fun _ h=>h) (fun _ _=>rfl) _ (hv.out y hy),hb.trans (Below.refl _ _).drew⟩
theorem vr_new {z B C:Nat} {W W':World} {a:AV} {v:Value} (h:VR W (gNw z C W) a v) (hC:B≤C) (hs:∀ rb,rb<z∨C≤rb→rb<W.heap.size→W'.heap[rb]?=W.heap[rb]?) (hz:W.heap.size≤W'.heap.size):VR W' (gNw z B W') a v :=
 VR_keep (fun _ hr=>⟨hr.1.imp id fun h=>Nat.le_trans hC h,Nat.lt_of_lt_of_le hr.2 hz⟩) (fun rb hr=>hs rb hr.1 hr.2) a h
theorem map_filter_dc (c:List Str) (xs:List Dc):(xs.filter (prF c)).map (·.d)=(xs.map (·.d)).filter (kpD c):=by
 rw [List.filter_map];rfl
set_option maxRecDepth 100000 in
set_option maxHeartbeats 1000000 in
theorem del_empty (a:Option Addr) (cp Bp:Nat) (w:World) :
 Calls Tryz.prog 140 #[.slice a 0 cp,prV Bp] w fun e w'=>e=.returned (.slice a 0 cp)∧w'=w:=by
 have HI:Calls Tryz.prog 208 #[.slice a 0 cp,.func (.func 142) #[] #[.pointer (some ⟨Bp,0,none⟩)]] w fun e w'=>e=.returned (.int .i64 (-1))∧w'=w:=by
  go_enter Tryz.func208,Tryz.ntmps208
  go_wp2
  go_loop [5,8] (fun _ i=>i=.int .i64 0) (fun _ _=>0)
  case atStart=>rfl
  case round =>
   subst hrel
   go_wp2
   go_ret
   exact ⟨rfl,rfl⟩
 have HH:=Lib.hid HI;clear HI;unfold prV
 go_enter Tryz.func140,Tryz.ntmps140
 go_wp2_with fail
 refine HH.out.mono ?_;rintro e w1 ⟨rfl,rfl⟩
 go_wp2
 go_ret
 exact ⟨rfl,rfl⟩
theorem cdel_any {c:List Str} {Bp z0 z:Nat} {w:World} (v:Value) (ds:List Dl) (h:PrAt c Bp z0 w) (hl:c.length≤1000000) (hz:z≤z0) (hz0:z0≤w.heap.size) (hrow:RowC z z0 w v ds) (hn:ds.length≤1000000) :
 Calls Tryz.prog 140 #[v,prV Bp] w fun e w'=>∃ a cp,e=.returned (.slice a (ds.filter (kpD c)).length cp)∧VR w' (gNw z z0 w') (.sl (ds.filter (kpD c)).length 3 ((ds.filter (kpD c)).flatMap encD)) (.slice a (ds.filter (kpD c)).length cp)∧Below z0 w w':=by
 rcases hrow with ⟨rfl,a,cp,rfl⟩ | ⟨g,cap,xs,rfl,hpos,hcap,hg,hgl,rfl,ht,hi,hfr⟩
 ·refine (del_empty a cp Bp w).mono ?_
  rintro e w' ⟨rfl,rfl⟩;exact ⟨a,cp,rfl,⟨a,cp,rfl,Nat.zero_le _,.inl rfl⟩,Below.refl _ _⟩
 ·rw [List.length_map] at hcap hn hfr hpos ⊢
  refine (delfunc_any (xs:=xs) cap h hl hg hgl hn hcap ht hfr).mono ?_;rintro e w' ⟨rfl,hB,hgl',htri⟩;rw [←map_filter_dc,List.length_map];have hle:(xs.filter (prF c)).length≤xs.length:=List.length_filter_le _ _;refine ⟨_,cap,rfl,tri_vr _ cap (Nat.le_trans (Nat.le_trans hz hz0) hB.size) hg hgl' (by omega) htri fun x hx=>?_,hB⟩;exact (hi x (List.mem_filter.1 hx).1).below (hB.mono hz)
section
variable {p:S3} {x:Itm} {z:Nat} {va vb vc:Value} {a1 a2 a3 a6 a7:Option Addr} {c1 c2 c3 c6 c7:Nat} {w:World}
set_option maxRecDepth 100000 in
set_option maxHeartbeats 8000000 in
theorem keep_rule (hp:SAt w va p.c) (fb:∃ a n c,vb=.slice a n c) (fc:∃ a n c,vc=.slice a n c) (hpc:p.c.length≤1000000) (hz:z≤w.heap.size) (hk1:x.kind=1) (hn:x.decls.length≤1000000)
 (h1:AtB z w (.sl x.sels.length 2 (x.sels.flatMap encC)) (.slice a1 x.sels.length c1)) (h2:AtB z w (.sl x.decls.length 3 (x.decls.flatMap encD)) (.slice a2 x.decls.length c2)) (h3:AtB z w (.sl x.names.length 1 (x.names.flatMap encN)) (.slice a3 x.names.length c3))
 (h6:AtB z w (.sl x.vals.length 5 (x.vals.flatMap encV)) (.slice a6 x.vals.length c6)) (h7:AtB z w (.sl x.l.length 8 (x.l.flatMap encI)) (.slice a7 x.l.length c7)) :
 Calls Tryz.prog 80 #[.agg #[va,vb,vc],itV x.kind a1 x.sels.length c1 a2 x.decls.length c2 a3 x.names.length c3 x.mn x.mx a6 x.vals.length c6 a7 x.l.length c7] w (KeepPost p x z w):=by
 obtain ⟨W3,hW3⟩:∃ W3,W3=((w.alloc (plO va vb vc)).alloc (itmO x.kind a1 x.sels.length c1 a2 x.decls.length c2 a3 x.names.length c3 x.mn x.mx a6 x.vals.length c6 a7 x.l.length c7)).alloc zO:=⟨_,rfl⟩;have K0:KSt w.heap.size va vb vc (itmO x.kind a1 x.sels.length c1 a2 x.decls.length c2 a3 x.names.length c3 x.mn x.mx a6 x.vals.length c6 a7 x.l.length c7) w W3:=by rw [hW3];exact KSt.new w va vb vc _
 have s0:W3.heap.size=w.heap.size+3:=by rw [hW3];simp
 have HCL:=cloneD_any z x.decls (.slice a2 x.decls.length c2) W3 (Nat.le_trans hz K0.below.size) (h2.below (K0.below.mono hz)) hn;rw [s0] at HCL;obtain ⟨x0,-,x2,-,-,-,-,-⟩:=itmO_cells K0.x;rw [hW3] at x0 x2;have HC:=Lib.hid HCL
 have HD:=Lib.hid fun (W:World) (va' vb' vc':Value) (o:Obj) (v:Value) (hk:KSt w.heap.size va' vb' vc' o w W) (hs:SAt w va' p.c) (hr:RowC z (w.heap.size+3) W v x.decls) =>
  cdel_any v x.decls (prAt_of hs hk) hpc (by omega) hk.size hr hn
 have HV:=Lib.hid fun (W:World) (hb:Below w.heap.size w W)=>And.intro (vr_old (B:=w.heap.size+3) h1 (hb.mono hz) (Nat.le_trans hz hb.size)) (And.intro (vr_old (B:=w.heap.size+3) h3 (hb.mono hz) (Nat.le_trans hz hb.size)) (And.intro (vr_old (B:=w.heap.size+3) h6 (hb.mono hz) (Nat.le_trans hz hb.size)) (vr_old (B:=w.heap.size+3) h7 (hb.mono hz) (Nat.le_trans hz hb.size))));have HP:=Lib.hid hp;have HZ:=Lib.hid hz;obtain ⟨va1,va2,va3,rfl⟩:=hp.form;obtain ⟨vb1,vb2,vb3,rfl⟩:=fb;obtain ⟨vc1,vc2,vc3,rfl⟩:=fc;have HKI:=Lib.hid (keepI_eq p x);have HK1:=Lib.hid hk1;have HK0:=Lib.hid K0;have HW3:=Lib.hid hW3;clear hp hz h1 h2 h3 h6 h7 K0 s0 HCL hW3;rw [hk1] at x0 x2 HW3 HK0 ⊢;clear hk1;unfold itV;unfold itmO plO zO at x0 x2 HW3
 go_enter Tryz.func80,Tryz.ntmps80
 go_wp2_with fail
 rw [←HW3.out];refine HC.out.mono ?_;rintro e w4 ⟨v4,rfl,hr4,hB4⟩;have K4:=HK0.out.step hB4;have HDL:=HD.out w4 _ _ _ _ v4 K4 HP.out hr4;have hf4:∃ a n c,v4=.slice a n c:=by
  rcases hr4 with ⟨-,a,c,rfl⟩ | ⟨g,cap,xs,rfl,-⟩
  ·exact ⟨_,_,_,rfl⟩
  ·exact ⟨_,_,_,rfl⟩
 obtain ⟨a4,n4,c4,rfl⟩:=hf4;have HDL:=Lib.hid HDL;have HK4:=Lib.hid K4;unfold prV at HDL;clear x0 x2 HC HD HW3 K4 hr4 hB4 HK0
 go_wp2_with fail
 refine HDL.out.mono ?_;rintro e w5 ⟨a5,c5,rfl,hv5,hB5⟩;have K5:=HK4.out.step hB5;have K6:=K5.putD a5 (x.decls.filter (kpD p.c)).length c5;have hX5:=itmO_cells K5.x;have f52:=Lib.frozen_of_heap (show w5.heap[w.heap.size+1]?=some (.cells _ _ (0,0)) from K5.x) 2;obtain ⟨-,-,y2,-,-,-,-,-⟩:=hX5;have HV6:=Lib.hid hv5;have HK6:=Lib.hid K6;clear HDL HK4 K5 K6 hv5 hB5;generalize hm:(x.decls.filter (kpD p.c)).length=m at *
 go_wp2_with fail
 have HX6:=itmO_cells HK6.out.x;have HR6:=zO_cells (B:=w.heap.size+1+1) HK6.out.r;have HK6':=HK6;have HW6:=Lib.hid (show w5.heap.size≤(w5.setCell ⟨w.heap.size+1,2,none⟩ (.slice a5 m c5)).heap.size from by simp [World.setCell]);have HW6b:=Lib.hid fun rb (h:rb≠w.heap.size+1)=>(put_far (W:=w5) (b:=w.heap.size+1) (o:=2) (.slice a5 m c5) rfl h);clear HK6 y2 f52;generalize w5.setCell ⟨w.heap.size+1,2,none⟩ (.slice a5 m c5)=w6 at *;obtain ⟨x0,x1,x2,x3,x4,x5,x6,x7⟩:=HX6;obtain ⟨r0,r1,r2,r3,r4,r5,r6,r7,rf⟩:=HR6;have HRS:=Lib.hid (show w6.heap[w.heap.size+1+1]?=some (.cells #[.int .i64 0,.slice none 0 0,.slice none 0 0,.slice none 0 0,.int .i64 0,.int .i64 0,.slice none 0 0,.slice none 0 0] 53 (0,0)) from HK6'.out.r);have HE:=Lib.hid fun (b:Bool) (hb:b=(keepI p x).isSome)=>keep_end (p:=p) (x:=x) (z:=z) (kd:=1) (a1:=a1) (n1:=x.sels.length) (c1:=c1) (a2:=a5) (n2:=m) (c2:=c5) (a3:=a3) (n3:=x.names.length) (c3:=c3) (mn:=x.mn) (mx:=x.mx) (a6:=a6) (n6:=x.vals.length) (c6:=c6) (a7:=a7) (n7:=x.l.length) (c7:=c7) (b:=b) HK6'.out HZ.out hb fun y hy=>by
  have hV:=HV.out w6 HK6'.out.below;have hI:=HKI.out;rw [if_pos HK1.out] at hI
  by_cases hm0:m=0
  ·rw [if_pos hm0] at hI
   rw [hI] at hy;cases hy
  ·rw [if_neg hm0] at hI
   rw [hI] at hy
   cases hy
   have hm':(x.decls.filter (kpD p.c)).length=m:=hm;have hd:VR w6 (gNw z (w.heap.size+3) w6) (.sl (x.decls.filter (kpD p.c)).length 3 ((x.decls.filter (kpD p.c)).flatMap encD)) (.slice a5 (x.decls.filter (kpD p.c)).length c5):=by
    rw [hm'];exact vr_new HV6.out (Nat.le_refl _) (fun rb h _=>HW6b.out rb (by have:=HZ.out;omega)) HW6.out
   have h9:=vrs_item (x:=.mk x.kind x.sels (x.decls.filter (kpD p.c)) x.names x.mn x.mx x.vals x.l) hV.1 hd hV.2.1 hV.2.2.1 hV.2.2.2;have e1:(1:Int)=x.kind:=HK1.out.symm;rw [e1,←hm'];exact h9
 have HM:Hid ((keepI p x).isSome=decide (m≠0)):=Lib.hid (by
  rw [HKI.out,if_pos HK1.out]
  by_cases hm0:m=0
  ·rw [if_pos hm0];simp [hm0]
  ·rw [if_neg hm0];simp [hm0])
 clear hm;rcases Nat.eq_zero_or_pos m with hm0 | hm0
 ·subst hm0
  have HM0:Hid (false=(keepI p x).isSome):=Lib.hid (by rw [HM.out];rfl)
  go_region
  all_goals
   go_wp2
   refine bodyPost_ret (results_row_tmp rfl _ _ (w.heap.size+1+1) 53 _ (0,0) _ rfl (set8d _ _ _ _ _ _ _ _ HRS.out rfl) Tryz.underlying53 rfl Tryz.sizeItem) rfl ?_;exact (HE.out false HM0.out).drew
 ·have HM0:Hid (true=(keepI p x).isSome):=Lib.hid (by rw [HM.out];simp;omega)
  go_region
  all_goals
   go_wp2
   refine bodyPost_ret (results_row_tmp rfl _ _ (w.heap.size+1+1) 53 _ (0,0) _ rfl (set8d _ _ _ _ _ _ _ _ HRS.out rfl) Tryz.underlying53 rfl Tryz.sizeItem) rfl ?_;exact (HE.out true HM0.out).drew
end
structure ItB (z:Nat) (w:World) (x:Itm) (a1:Option Addr) (c1:Nat) (a2:Option Addr) (c2:Nat) (a3:Option Addr) (c3:Nat) (a6:Option Addr) (c6:Nat) (a7:Option Addr) (c7:Nat):Prop where
 s:AtB z w (.sl x.sels.length 2 (x.sels.flatMap encC)) (.slice a1 x.sels.length c1)
 d:AtB z w (.sl x.decls.length 3 (x.decls.flatMap encD)) (.slice a2 x.decls.length c2)
 n:AtB z w (.sl x.names.length 1 (x.names.flatMap encN)) (.slice a3 x.names.length c3)
 v:AtB z w (.sl x.vals.length 5 (x.vals.flatMap encV)) (.slice a6 x.vals.length c6)
 l:AtB z w (.sl x.l.length 8 (x.l.flatMap encI)) (.slice a7 x.l.length c7)
section
variable {p:S3} {x:Itm} {z:Nat} {va vb vc:Value} {a1 a2 a3 a6 a7:Option Addr} {c1 c2 c3 c6 c7:Nat} {w:World}
theorem ItB.vrs {W:World} (h:ItB z w x a1 c1 a2 c2 a3 c3 a6 c6 a7 c7) (hz:z≤w.heap.size) (hb:Below w.heap.size w W) (C:Nat) :
 VRs W (gNw z C W) (encI x) [.int .i64 x.kind,.slice a1 x.sels.length c1,.slice a2 x.decls.length c2,.slice a3 x.names.length c3,.int .i64 x.mn,.int .i64 x.mx,.slice a6 x.vals.length c6,.slice a7 x.l.length c7] :=
 vrs_item (vr_old h.s (hb.mono hz) (Nat.le_trans hz hb.size)) (vr_old h.d (hb.mono hz) (Nat.le_trans hz hb.size)) (vr_old h.n (hb.mono hz) (Nat.le_trans hz hb.size)) (vr_old h.v (hb.mono hz) (Nat.le_trans hz hb.size)) (vr_old h.l (hb.mono hz) (Nat.le_trans hz hb.size))
theorem ItB.below {W:World} (h:ItB z w x a1 c1 a2 c2 a3 c3 a6 c6 a7 c7) (hb:Below z w W):ItB z W x a1 c1 a2 c2 a3 c3 a6 c6 a7 c7:=⟨h.s.below hb,h.d.below hb,h.n.below hb,h.v.below hb,h.l.below hb⟩
theorem keep_same {o:Obj} {W:World} {b:Bool} (hi:ItB z w x a1 c1 a2 c2 a3 c3 a6 c6 a7 c7) (h:KSt w.heap.size va vb vc o w W) (hz:z≤w.heap.size) (hk:keepI p x=if b=true then some x else none) :
 KeepPost p x z w (.returned (.tuple #[.agg #[.int .i64 x.kind,.slice a1 x.sels.length c1,.slice a2 x.decls.length c2,.slice a3 x.names.length c3,.int .i64 x.mn,.int .i64 x.mx,.slice a6 x.vals.length c6,.slice a7 x.l.length c7],.bool b]))
  ((((((((W.setCell ⟨w.heap.size+1+1,0,none⟩ (.int .i64 x.kind)).setCell ⟨w.heap.size+1+1,1,none⟩ (.slice a1 x.sels.length c1)).setCell ⟨w.heap.size+1+1,2,none⟩ (.slice a2 x.decls.length c2)).setCell ⟨w.heap.size+1+1,3,none⟩ (.slice a3 x.names.length c3)).setCell ⟨w.heap.size+1+1,4,none⟩ (.int .i64 x.mn)).setCell ⟨w.heap.size+1+1,5,none⟩ (.int .i64 x.mx)).setCell ⟨w.heap.size+1+1,6,none⟩ (.slice a6 x.vals.length c6)).setCell ⟨w.heap.size+1+1,7,none⟩ (.slice a7 x.l.length c7)):=by
 refine keep_end h hz (by rw [hk];cases b <;> rfl) fun y hy=>?_
 rw [hk] at hy
 cases b
 ·cases hy
 ·cases hy
  exact hi.vrs hz h.below _
theorem keepI_other (h1:x.kind≠1) (h2:x.kind≠2) (h3:x.kind≠3) (h5:x.kind≠5) (h6:x.kind≠6):keepI p x=if true=true then some x else none:=by
 rw [keepI_eq,if_neg h1,if_neg h2,if_neg h3,if_neg h5,if_neg h6];rfl
theorem keep_alloc (o1 o2 o3:Obj) (hi:ItB z w x a1 c1 a2 c2 a3 c3 a6 c6 a7 c7) (hz:z≤w.heap.size) (hk:keepI p x=some x) :
 KeepPost p x z w (.returned (.tuple #[.agg #[.int .i64 x.kind,.slice a1 x.sels.length c1,.slice a2 x.decls.length c2,.slice a3 x.names.length c3,.int .i64 x.mn,.int .i64 x.mx,.slice a6 x.vals.length c6,.slice a7 x.l.length c7],.bool true])) (((w.alloc o1).alloc o2).alloc o3):=by
 have hb:Below w.heap.size w (((w.alloc o1).alloc o2).alloc o3):=(((Below.refl _ w).alloc (Nat.le_refl _) _).alloc (by simp) _).alloc (by simp;omega) _;refine ⟨_,_,_,_,_,_,_,_,_,_,_,_,_,_,_,_,_,_,by rw [hk];rfl,Lib.hid fun y hy=>?_,hb⟩;rw [hk] at hy;cases hy;exact hi.vrs hz hb _
theorem third_heap (w:World) (o1 o2 o3:Obj):(((w.alloc o1).alloc o2).alloc o3).heap[w.heap.size+1+1]?=some o3:=by
 have:=World.alloc_heap_new ((w.alloc o1).alloc o2) o3;simpa using this
set_option maxRecDepth 100000 in
set_option maxHeartbeats 4000000 in
theorem keep_other (fa:∃ a n c,va=.slice a n c) (fb:∃ a n c,vb=.slice a n c) (fc:∃ a n c,vc=.slice a n c) (hz:z≤w.heap.size) (h1:x.kind≠1) (h2:x.kind≠2) (h3:x.kind≠3) (h5:x.kind≠5) (h6:x.kind≠6)
 (hi:ItB z w x a1 c1 a2 c2 a3 c3 a6 c6 a7 c7) :
 Calls Tryz.prog 80 #[.agg #[va,vb,vc],itV x.kind a1 x.sels.length c1 a2 x.decls.length c2 a3 x.names.length c3 x.mn x.mx a6 x.vals.length c6 a7 x.l.length c7] w (KeepPost p x z w):=by
 have HE:=Lib.hid fun o1 o2 o3=>keep_alloc (p:=p) o1 o2 o3 hi hz (keepI_other h1 h2 h3 h5 h6);obtain ⟨va1,va2,va3,rfl⟩:=fa;obtain ⟨vb1,vb2,vb3,rfl⟩:=fb;obtain ⟨vc1,vc2,vc3,rfl⟩:=fc;clear hi hz;unfold itV
 go_enter Tryz.func80,Tryz.ntmps80
 go_wp2
 refine bodyPost_ret (results_row_tmp rfl _ _ (w.heap.size+1+1) 53 _ (0,0) _ rfl (third_heap _ _ _ _) Tryz.underlying53 rfl Tryz.sizeItem) rfl ?_;exact HE.out _ _ _
theorem keepI_frames (h5:x.kind=5):keepI p x=if kpF p.f x.names=true then some x else none:=by
 rw [keepI_eq,if_neg (by omega),if_neg (by omega),if_neg (by omega),if_pos h5]
set_option maxRecDepth 100000 in
set_option maxHeartbeats 4000000 in
theorem keep_frames0 (fa:∃ a n c,va=.slice a n c) (fb:∃ a n c,vb=.slice a n c) (fc:∃ a n c,vc=.slice a n c) (hz:z≤w.heap.size) (h5:x.kind=5) (hn:x.names.length≠1)
 (hi:ItB z w x a1 c1 a2 c2 a3 c3 a6 c6 a7 c7) :
 Calls Tryz.prog 80 #[.agg #[va,vb,vc],itV x.kind a1 x.sels.length c1 a2 x.decls.length c2 a3 x.names.length c3 x.mn x.mx a6 x.vals.length c6 a7 x.l.length c7] w (KeepPost p x z w):=by
 obtain ⟨W3,hW3⟩:∃ W3,W3=((w.alloc (plO va vb vc)).alloc (itmO x.kind a1 x.sels.length c1 a2 x.decls.length c2 a3 x.names.length c3 x.mn x.mx a6 x.vals.length c6 a7 x.l.length c7)).alloc zO:=⟨_,rfl⟩;have K0:KSt w.heap.size va vb vc (itmO x.kind a1 x.sels.length c1 a2 x.decls.length c2 a3 x.names.length c3 x.mn x.mx a6 x.vals.length c6 a7 x.l.length c7) w W3:=by rw [hW3];exact KSt.new w va vb vc _
 have hke:keepI p x=if true=true then some x else none:=by
  rw [keepI_frames h5];have:kpF p.f x.names=true:=by
   unfold kpF
   split
   ·rename_i n e;rw [e] at hn;simp at hn
   ·rfl
  rw [this]
 obtain ⟨x0,x1,x2,x3,x4,x5,x6,x7⟩:=itmO_cells K0.x;obtain ⟨r0,r1,r2,r3,r4,r5,r6,r7,rf⟩:=zO_cells (B:=w.heap.size+1+1) K0.r;have HRS:=Lib.hid (show W3.heap[w.heap.size+1+1]?=some (.cells #[.int .i64 0,.slice none 0 0,.slice none 0 0,.slice none 0 0,.int .i64 0,.int .i64 0,.slice none 0 0,.slice none 0 0] 53 (0,0)) from K0.r);have HE:=Lib.hid (keep_same (p:=p) hi K0 hz hke);have HW3:=Lib.hid hW3;obtain ⟨va1,va2,va3,rfl⟩:=fa;obtain ⟨vb1,vb2,vb3,rfl⟩:=fb;obtain ⟨vc1,vc2,vc3,rfl⟩:=fc;have x0':=x0;rw [hW3] at x0';have hd:((x.names.length:Int)==1)=false:=beq_eq_false_iff_ne.2 (by omega);have hd2:((x.names.length:Int) != 1)=true:=by simp;omega
 clear hi hz K0 hW3 hke;rw [h5] at HE HW3 x0 x0' ⊢;clear h5;unfold itV;unfold itmO plO zO at x0' HW3
 go_enter Tryz.func80,Tryz.ntmps80
 go_wp2_with fail
 rw [←HW3.out];clear x0' HW3
 go_region
 all_goals
  go_wp2
  refine bodyPost_ret (results_row_tmp rfl _ _ (w.heap.size+1+1) 53 _ (0,0) _ rfl (set8d _ _ _ _ _ _ _ _ HRS.out rfl) Tryz.underlying53 rfl Tryz.sizeItem) rfl ?_;exact HE.out.drew
end
section
variable {p:S3} {x:Itm} {z:Nat} {va vb vc:Value} {a1 a2 a3 a6 a7:Option Addr} {c1 c2 c3 c6 c7:Nat} {w:World}
set_option maxRecDepth 100000 in
set_option maxHeartbeats 4000000 in
theorem keep_frames1 (fa:∃ a n c,va=.slice a n c) (hp:SAt w vb p.f) (hpc:p.f.length≤1000000) (fc:∃ a n c,vc=.slice a n c) (hz:z≤w.heap.size) (h5:x.kind=5) {nm:ByteArray} (hn:x.names=[nm])
 (hi:ItB z w x a1 c1 a2 c2 a3 c3 a6 c6 a7 c7) :
 Calls Tryz.prog 80 #[.agg #[va,vb,vc],itV x.kind a1 x.sels.length c1 a2 x.decls.length c2 a3 x.names.length c3 x.mn x.mx a6 x.vals.length c6 a7 x.l.length c7] w (KeepPost p x z w):=by
 obtain ⟨b,o,e,hbz,hcell⟩:∃ b o,a3=some ⟨b,o,none⟩∧b<z∧w.cell? ⟨b,o,none⟩=some (.string nm):=by
  rcases slB_cells encN 1 (fun _=>rfl) (by decide) hi.n with ⟨h0,-⟩ | ⟨b,o,cap,e,-,-,hbz,hc⟩
  ·rw [hn] at h0;cases h0
  ·cases e
   refine ⟨b,o,rfl,hbz,?_⟩;obtain ⟨u,e0,v0⟩:=hc 0 (by rw [hn];simp) 0 _ rfl;obtain rfl:u=_:=v0;simp only [Nat.zero_mul,Nat.add_zero] at e0;rw [e0];simp [hn]
 subst e;have hn1:x.names.length=1:=by rw [hn];rfl
 obtain ⟨W3,hW3⟩:∃ W3,W3=((w.alloc (plO va vb vc)).alloc (itmO x.kind a1 x.sels.length c1 a2 x.decls.length c2 (some ⟨b,o,none⟩) x.names.length c3 x.mn x.mx a6 x.vals.length c6 a7 x.l.length c7)).alloc zO:=⟨_,rfl⟩;have K0:KSt w.heap.size va vb vc (itmO x.kind a1 x.sels.length c1 a2 x.decls.length c2 (some ⟨b,o,none⟩) x.names.length c3 x.mn x.mx a6 x.vals.length c6 a7 x.l.length c7) w W3:=by rw [hW3];exact KSt.new w va vb vc _
 have hke:keepI p x=if (p.f.contains (sOf nm))=true then some x else none:=by
  rw [keepI_frames h5,hn];rfl
 obtain ⟨x0,x1,x2,x3,x4,x5,x6,x7⟩:=itmO_cells K0.x;obtain ⟨p0,p1,p2⟩:=plO_cells K0.p;obtain ⟨r0,r1,r2,r3,r4,r5,r6,r7,rf⟩:=zO_cells (B:=w.heap.size+1+1) K0.r;have hcell':=((K0.below.mono hz).cell (p:=⟨b,o,none⟩) hbz).trans hcell;have HC:=Lib.hid fun (W:World) (h:Below w.heap.size w W)=>contains_sat (hp.below h) nm hpc;have HB3:=Lib.hid K0.below;have HRS:=Lib.hid (show W3.heap[w.heap.size+1+1]?=some (.cells #[.int .i64 0,.slice none 0 0,.slice none 0 0,.slice none 0 0,.int .i64 0,.int .i64 0,.slice none 0 0,.slice none 0 0] 53 (0,0)) from K0.r);have HE:=Lib.hid (keep_same (p:=p) hi K0 hz hke);have HW3:=Lib.hid hW3;obtain ⟨va1,va2,va3,rfl⟩:=fa;obtain ⟨vb1,vb2,vb3,rfl⟩:=hp.form;obtain ⟨vc1,vc2,vc3,rfl⟩:=fc;have x0':=x0;rw [hW3] at x0';clear hi hz K0 hW3 hke hcell hp hn hbz;rw [hn1] at HE HW3 x3 x0' ⊢;rw [h5] at HE HW3 x0 x0' ⊢;clear h5 hn1;generalize p.f.contains (sOf nm)=q at *;unfold itV;unfold itmO plO zO at x0' HW3
 go_enter Tryz.func80,Tryz.ntmps80
 go_wp2_with fail
 rw [←HW3.out];clear x0' HW3
 go_region_with ((go_at_call 115;refine (HC.out _ (by first | exact HB3.out | exact HB3.out.trans (Below.refl _ _).drew | exact below8 _ _ _ _ _ _ _ _ HB3.out (by omega) | exact (below8 _ _ _ _ _ _ _ _ HB3.out (by omega)).trans (Below.refl _ _).drew)).mono ?_;rintro e w' ⟨rfl,rfl⟩))
 all_goals
  go_wp2
  refine bodyPost_ret (results_row_tmp rfl _ _ (w.heap.size+1+1) 53 _ (0,0) _ rfl (set8d _ _ _ _ _ _ _ _ HRS.out rfl) Tryz.underlying53 rfl Tryz.sizeItem) rfl ?_;exact HE.out.drew
theorem keepI_font (h6:x.kind=6):keepI p x=if kpG p.g x.kind x.decls=true then some x else none:=by
 rw [keepI_eq,if_neg (by omega),if_neg (by omega),if_neg (by omega),if_neg (by omega),if_pos h6]
set_option maxRecDepth 100000 in
set_option maxHeartbeats 4000000 in
theorem keep_font (fa:∃ a n c,va=.slice a n c) (fb:∃ a n c,vb=.slice a n c) (hp:SAt w vc p.g) (hpc:p.g.length≤1000000) (hz:z≤w.heap.size) (h6:x.kind=6) (hn:x.decls.length≤1000000) (hnl:∀ d∈x.decls,d.l.length≤1000000)
 (hi:ItB z w x a1 c1 a2 c2 a3 c3 a6 c6 a7 c7) :
 Calls Tryz.prog 80 #[.agg #[va,vb,vc],itV x.kind a1 x.sels.length c1 a2 x.decls.length c2 a3 x.names.length c3 x.mn x.mx a6 x.vals.length c6 a7 x.l.length c7] w (KeepPost p x z w):=by
 obtain ⟨W3,hW3⟩:∃ W3,W3=((w.alloc (plO va vb vc)).alloc (itmO x.kind a1 x.sels.length c1 a2 x.decls.length c2 a3 x.names.length c3 x.mn x.mx a6 x.vals.length c6 a7 x.l.length c7)).alloc zO:=⟨_,rfl⟩;have K0:KSt w.heap.size va vb vc (itmO x.kind a1 x.sels.length c1 a2 x.decls.length c2 a3 x.names.length c3 x.mn x.mx a6 x.vals.length c6 a7 x.l.length c7) w W3:=by rw [hW3];exact KSt.new w va vb vc _
 have s0:W3.heap.size=w.heap.size+3:=by rw [hW3];simp
 have HFM:=(callsIn_wide (n:=7)).1 (family_in 7 (Nat.le_refl 7) x.kind x.mn x.mx a1 a3 a6 a7 a2 x.sels.length c1 x.names.length c3 x.vals.length c6 x.l.length c7 c2 x.decls W3 ((hi.d.below (K0.below.mono hz)).toAt (Nat.le_trans hz K0.below.size)) hn hnl);have HKI:=Lib.hid (keepI_font (p:=p) h6);obtain ⟨x0,x1,x2,x3,x4,x5,x6,x7⟩:=itmO_cells K0.x;rw [hW3] at x0 x1 x2 x3 x4 x5 x6 x7;have HC:=Lib.hid fun (W:World) (h:Below w.heap.size w W) nm=>contains_sat (hp.below h) nm hpc;have HS:=Lib.hid fun (W:World) (b:Bool) (h:KSt w.heap.size va vb vc (itmO x.kind a1 x.sels.length c1 a2 x.decls.length c2 a3 x.names.length c3 x.mn x.mx a6 x.vals.length c6 a7 x.l.length c7) w W) (hk:keepI p x=if b=true then some x else none)=>keep_same (p:=p) hi h hz hk;have HK0:=Lib.hid K0;have HW3:=Lib.hid hW3;have HS0:=Lib.hid s0;have HKG:Hid (kpG p.g x.kind x.decls=((famM x.kind x.decls).2&&p.g.contains (sOf (famM x.kind x.decls).1))):=Lib.hid rfl;generalize hfm:famM x.kind x.decls=fm at *;obtain ⟨fn,fi⟩:=fm;have HF:=Lib.hid HFM;obtain ⟨va1,va2,va3,rfl⟩:=fa;obtain ⟨vb1,vb2,vb3,rfl⟩:=fb;obtain ⟨vc1,vc2,vc3,rfl⟩:=hp.form;clear hi hz K0 hW3 hp HFM hfm hn hnl s0;rw [h6] at x0 HF HW3 HS HK0 ⊢;clear h6;unfold itV;unfold itmO plO zO at x0 x1 x2 x3 x4 x5 x6 x7 HW3
 go_enter Tryz.func80,Tryz.ntmps80
 go_wp2_with fail
 rw [←HW3.out];refine HF.out.mono ?_;rintro e w4 ⟨rfl,hB4⟩;have K4:=HK0.out.step (by rw [←HS0.out];exact hB4);clear x0 x1 x2 x3 x4 x5 x6 x7 HF HW3 HK0 HS0 hB4;obtain ⟨x0,x1,x2,x3,x4,x5,x6,x7⟩:=itmO_cells K4.x;obtain ⟨p0,p1,p2⟩:=plO_cells K4.p;obtain ⟨r0,r1,r2,r3,r4,r5,r6,r7,rf⟩:=zO_cells (B:=w.heap.size+1+1) K4.r;have HRS:=Lib.hid (show w4.heap[w.heap.size+1+1]?=some (.cells #[.int .i64 0,.slice none 0 0,.slice none 0 0,.slice none 0 0,.int .i64 0,.int .i64 0,.slice none 0 0,.slice none 0 0] 53 (0,0)) from K4.r);have HB4:=Lib.hid K4.below;have HK4:=Lib.hid K4;clear K4
 cases fi
 ·have HE:=Lib.hid (HS.out w4 false HK4.out (by rw [HKI.out,HKG.out];rfl))
  clear HS HKI HKG HC
  go_wp2_with fail
  go_region
  all_goals
   go_wp2
   refine bodyPost_ret (results_row_tmp rfl _ _ (w.heap.size+1+1) 53 _ (0,0) _ rfl (set8d _ _ _ _ _ _ _ _ HRS.out rfl) Tryz.underlying53 rfl Tryz.sizeItem) rfl ?_;exact HE.out.drew
 ·have HE:=Lib.hid (HS.out w4 (p.g.contains (sOf fn)) HK4.out (by rw [HKI.out,HKG.out];rfl))
  have HCF:=Lib.hid fun (W:World) (h:Below w.heap.size w W)=>HC.out W h fn;clear HS HKI HKG HC;generalize p.g.contains (sOf fn)=q at *
  go_wp2_with fail
  go_region_with ((go_at_call 115;refine (HCF.out _ (by first | exact HB4.out | exact HB4.out.trans (Below.refl _ _).drew | exact below8 _ _ _ _ _ _ _ _ HB4.out (by omega) | exact (below8 _ _ _ _ _ _ _ _ HB4.out (by omega)).trans (Below.refl _ _).drew)).mono ?_;rintro e w' ⟨rfl,rfl⟩))
  all_goals
   go_wp2
   refine bodyPost_ret (results_row_tmp rfl _ _ (w.heap.size+1+1) 53 _ (0,0) _ rfl (set8d _ _ _ _ _ _ _ _ HRS.out rfl) Tryz.underlying53 rfl Tryz.sizeItem) rfl ?_;exact HE.out.drew
end
def DropPost (p:S3) (l:List Itm) (z:Nat) (w:World) (e:Ending) (w':World):Prop :=
 ∃ a c,e=.returned (.slice a (dropIs p l).length c)∧VR w' (gNw z w.heap.size w') (.sl (dropIs p l).length 8 ((dropIs p l).flatMap encI)) (.slice a (dropIs p l).length c)∧Below w.heap.size w w'
theorem KSt.putI {B:Nat} {va vb vc:Value} {o:Obj} {w W:World} (h:KSt B va vb vc o w W) {cs:Array Value} (ho:o=.cells cs 53 (0,0)) (hs:cs.size=8) (x0 x1 x2 x3 x4 x5 x6 x7:Value) :
 KSt B va vb vc (.cells #[x0,x1,x2,x3,x4,x5,x6,x7] 53) w ((((((((W.setCell ⟨B+1,0,none⟩ x0).setCell ⟨B+1,1,none⟩ x1).setCell ⟨B+1,2,none⟩ x2).setCell ⟨B+1,3,none⟩ x3).setCell ⟨B+1,4,none⟩ x4).setCell ⟨B+1,5,none⟩ x5).setCell ⟨B+1,6,none⟩ x6).setCell ⟨B+1,7,none⟩ x7):=by
 subst ho;refine ⟨below8 _ _ _ _ _ _ _ _ h.below (Nat.le_succ _),?_,set8 _ _ _ _ _ _ _ _ h.x hs,?_,?_⟩
 ·rw [far8 _ _ _ _ _ _ _ _ (by omega)];exact h.p
 ·rw [far8 _ _ _ _ _ _ _ _ (by omega)];exact h.r
 ·have:=(below8 (z:=0) x0 x1 x2 x3 x4 x5 x6 x7 (Below.refl 0 W) (Nat.zero_le (B+1))).size
  exact Nat.le_trans h.size this
section
variable {p:S3} {x:Itm} {z:Nat} {va vb vc:Value} {a1 a2 a3 a6 a7:Option Addr} {c1 c2 c3 c6 c7:Nat} {w:World}
theorem keepI_media (h2:x.kind=2):keepI p x=if (dropIs p x.l).length=0 then none else some (.mk x.kind x.sels x.decls x.names x.mn x.mx x.vals (dropIs p x.l)):=by
 rw [keepI_eq,if_neg (by omega),if_pos h2]
theorem keepI_layer (h3:x.kind=3):keepI p x=if (dropIs p x.l).length=0 then some (.mk 4 [] [] x.names 0 0 [] []) else some (.mk x.kind x.sels x.decls x.names x.mn x.mx x.vals (dropIs p x.l)):=by
 rw [keepI_eq,if_neg (by omega),if_neg (by omega),if_pos h3]
theorem vrs_block {W:World} {a5:Option Addr} {c5:Nat} (hi:ItB z w x a1 c1 a2 c2 a3 c3 a6 c6 a7 c7) (hz:z≤w.heap.size) (hb:Below w.heap.size w W) (hv:VR W (gNw z (w.heap.size+3) W) (.sl (dropIs p x.l).length 8 ((dropIs p x.l).flatMap encI)) (.slice a5 (dropIs p x.l).length c5)) :
 VRs W (gNw z (w.heap.size+3) W) (encI (.mk x.kind x.sels x.decls x.names x.mn x.mx x.vals (dropIs p x.l))) [.int .i64 x.kind,.slice a1 x.sels.length c1,.slice a2 x.decls.length c2,.slice a3 x.names.length c3,.int .i64 x.mn,.int .i64 x.mx,.slice a6 x.vals.length c6,.slice a5 (dropIs p x.l).length c5] :=
 vrs_item (x:=.mk x.kind x.sels x.decls x.names x.mn x.mx x.vals (dropIs p x.l)) (vr_old hi.s (hb.mono hz) (Nat.le_trans hz hb.size)) (vr_old hi.d (hb.mono hz) (Nat.le_trans hz hb.size)) (vr_old hi.n (hb.mono hz) (Nat.le_trans hz hb.size)) (vr_old hi.v (hb.mono hz) (Nat.le_trans hz hb.size)) hv
theorem vrs_layer {W:World} (hi:ItB z w x a1 c1 a2 c2 a3 c3 a6 c6 a7 c7) (hz:z≤w.heap.size) (hb:Below w.heap.size w W) (C:Nat) :
 VRs W (gNw z C W) (encI (.mk 4 [] [] x.names 0 0 [] [])) [.int .i64 4,.slice none 0 0,.slice none 0 0,.slice a3 x.names.length c3,.int .i64 0,.int .i64 0,.slice none 0 0,.slice none 0 0] :=
 vrs_item (x:=.mk 4 [] [] x.names 0 0 [] []) ⟨none,0,rfl,Nat.le_refl _,.inl rfl⟩ ⟨none,0,rfl,Nat.le_refl _,.inl rfl⟩ (vr_old hi.n (hb.mono hz) (Nat.le_trans hz hb.size)) ⟨none,0,rfl,Nat.le_refl _,.inl rfl⟩ ⟨none,0,rfl,Nat.le_refl _,.inl rfl⟩
set_option maxRecDepth 100000 in
set_option maxHeartbeats 8000000 in
theorem keep_media (fa:∃ a n c,va=.slice a n c) (fb:∃ a n c,vb=.slice a n c) (fc:∃ a n c,vc=.slice a n c) (hz:z≤w.heap.size) (hk:x.kind=2)
 (hi:ItB z w x a1 c1 a2 c2 a3 c3 a6 c6 a7 c7) (hrec:∀ W,Below w.heap.size w W→Calls Tryz.prog 28 #[.agg #[va,vb,vc],.slice a7 x.l.length c7] W (DropPost p x.l z W)) :
 Calls Tryz.prog 80 #[.agg #[va,vb,vc],itV x.kind a1 x.sels.length c1 a2 x.decls.length c2 a3 x.names.length c3 x.mn x.mx a6 x.vals.length c6 a7 x.l.length c7] w (KeepPost p x z w):=by
 obtain ⟨W3,hW3⟩:∃ W3,W3=((w.alloc (plO va vb vc)).alloc (itmO x.kind a1 x.sels.length c1 a2 x.decls.length c2 a3 x.names.length c3 x.mn x.mx a6 x.vals.length c6 a7 x.l.length c7)).alloc zO:=⟨_,rfl⟩;have K0:KSt w.heap.size va vb vc (itmO x.kind a1 x.sels.length c1 a2 x.decls.length c2 a3 x.names.length c3 x.mn x.mx a6 x.vals.length c6 a7 x.l.length c7) w W3:=by rw [hW3];exact KSt.new w va vb vc _
 have s0:W3.heap.size=w.heap.size+3:=by rw [hW3];simp
 have HR:=Lib.hid (hrec W3 K0.below);obtain ⟨x0,-,-,-,-,-,-,x7⟩:=itmO_cells K0.x;obtain ⟨p0,p1,p2⟩:=plO_cells K0.p;rw [hW3] at x0 x7 p0 p1 p2;have HKI:=Lib.hid (keepI_media (p:=p) hk);have HVB:=Lib.hid fun (W:World) (a5:Option Addr) (c5:Nat) (hb:Below w.heap.size w W) hv=>vrs_block (p:=p) (a5:=a5) (c5:=c5) hi hz hb hv;have HVL:=Lib.hid fun (W:World) (hb:Below w.heap.size w W)=>vrs_layer hi hz hb (w.heap.size+3);have HZ:=Lib.hid hz;obtain ⟨va1,va2,va3,rfl⟩:=fa;obtain ⟨vb1,vb2,vb3,rfl⟩:=fb;obtain ⟨vc1,vc2,vc3,rfl⟩:=fc;have HK0:=Lib.hid K0;have HW3:=Lib.hid hW3;have HS0:=Lib.hid s0;clear hrec hi hz K0 hW3 s0;rw [hk] at x0 HW3 HK0 HVB HKI ⊢;clear hk;unfold itV;unfold itmO plO zO at x0 x7 p0 p1 p2 HW3
 go_enter Tryz.func80,Tryz.ntmps80
 go_wp2_with fail
 rw [←HW3.out];refine HR.out.mono ?_;rintro e w5 ⟨a5,c5,rfl,hv5,hB5⟩;rw [HS0.out] at hv5 hB5;have K5:=HK0.out.step hB5;have K6:=K5.putL a5 (dropIs p x.l).length c5;have hX5:=itmO_cells K5.x;have f57:=Lib.frozen_of_heap (show w5.heap[w.heap.size+1]?=some (.cells _ _ (0,0)) from K5.x) 7;obtain ⟨-,-,-,-,-,-,-,y7⟩:=hX5;have HV5:=Lib.hid hv5;have HK6:=Lib.hid K6;have HWS:=Lib.hid (show w5.heap.size≤(w5.setCell ⟨w.heap.size+1,7,none⟩ (.slice a5 (dropIs p x.l).length c5)).heap.size from by simp [World.setCell]);have HWB:=Lib.hid fun rb (h:rb≠w.heap.size+1)=>(put_far (W:=w5) (b:=w.heap.size+1) (o:=7) (.slice a5 (dropIs p x.l).length c5) rfl h)
 have HV6:Hid (VR (w5.setCell ⟨w.heap.size+1,7,none⟩ (.slice a5 (dropIs p x.l).length c5)) (gNw z (w.heap.size+3) (w5.setCell ⟨w.heap.size+1,7,none⟩ (.slice a5 (dropIs p x.l).length c5))) (.sl (dropIs p x.l).length 8 ((dropIs p x.l).flatMap encI)) (.slice a5 (dropIs p x.l).length c5)) :=
  Lib.hid (vr_new HV5.out (Nat.le_refl _) (fun rb h _=>HWB.out rb (by have:=HZ.out;omega)) HWS.out)
 clear x0 x7 p0 p1 p2 HR HW3 HS0 HK0 K5 K6 hv5 hB5 HV5 HWS HWB
 have HE:=Lib.hid fun (b:Bool) (hb:b=(keepI p x).isSome) =>
  keep_end (p:=p) (x:=x) (z:=z) (kd:=2) (a1:=a1) (n1:=x.sels.length) (c1:=c1) (a2:=a2) (n2:=x.decls.length) (c2:=c2) (a3:=a3) (n3:=x.names.length) (c3:=c3) (mn:=x.mn) (mx:=x.mx) (a6:=a6) (n6:=x.vals.length) (c6:=c6) (a7:=a5) (n7:=(dropIs p x.l).length) (c7:=c5) (b:=b) HK6.out HZ.out hb fun y hy=>by
   have hI:=HKI.out
   by_cases hm0:(dropIs p x.l).length=0
   ·rw [if_pos hm0] at hI
    rw [hI] at hy;cases hy
   ·rw [if_neg hm0] at hI
    rw [hI] at hy
    cases hy
    exact HVB.out _ a5 c5 HK6.out.below HV6.out
 have HM:Hid ((keepI p x).isSome=decide ((dropIs p x.l).length≠0)):=Lib.hid (by
  rw [HKI.out]
  by_cases hm0:(dropIs p x.l).length=0
  ·rw [if_pos hm0];simp [hm0]
  ·rw [if_neg hm0];simp [hm0])
 clear HKI HVB HVL HV6;generalize (dropIs p x.l).length=m at *
 go_wp2_with fail
 obtain ⟨x0,x1,x2,x3,x4,x5,x6,x7⟩:=itmO_cells HK6.out.x;obtain ⟨r0,r1,r2,r3,r4,r5,r6,r7,rf⟩:=zO_cells (B:=w.heap.size+1+1) HK6.out.r;have HRS:=Lib.hid (show (w5.setCell ⟨w.heap.size+1,7,none⟩ (.slice a5 m c5)).heap[w.heap.size+1+1]?=some (.cells #[.int .i64 0,.slice none 0 0,.slice none 0 0,.slice none 0 0,.int .i64 0,.int .i64 0,.slice none 0 0,.slice none 0 0] 53 (0,0)) from HK6.out.r);clear HK6 y7 f57;generalize w5.setCell ⟨w.heap.size+1,7,none⟩ (.slice a5 m c5)=w6 at *;rcases Nat.eq_zero_or_pos m with hm0 | hm0
 ·subst hm0
  have HM0:Hid (false=(keepI p x).isSome):=Lib.hid (by rw [HM.out];rfl)
  go_region
  all_goals
   go_wp2
   refine bodyPost_ret (results_row_tmp rfl _ _ (w.heap.size+1+1) 53 _ (0,0) _ rfl (set8d _ _ _ _ _ _ _ _ HRS.out rfl) Tryz.underlying53 rfl Tryz.sizeItem) rfl ?_;exact (HE.out false HM0.out).drew
 ·have HM0:Hid (true=(keepI p x).isSome):=Lib.hid (by rw [HM.out];simp;omega)
  go_region
  all_goals
   go_wp2
   refine bodyPost_ret (results_row_tmp rfl _ _ (w.heap.size+1+1) 53 _ (0,0) _ rfl (set8d _ _ _ _ _ _ _ _ HRS.out rfl) Tryz.underlying53 rfl Tryz.sizeItem) rfl ?_;exact (HE.out true HM0.out).drew
end
section
variable {p:S3} {x:Itm} {z:Nat} {va vb vc:Value} {a1 a2 a3 a6 a7:Option Addr} {c1 c2 c3 c6 c7:Nat} {w:World}
set_option maxRecDepth 100000 in
set_option maxHeartbeats 8000000 in
theorem keep_layer (fa:∃ a n c,va=.slice a n c) (fb:∃ a n c,vb=.slice a n c) (fc:∃ a n c,vc=.slice a n c) (hz:z≤w.heap.size) (hk:x.kind=3)
 (hi:ItB z w x a1 c1 a2 c2 a3 c3 a6 c6 a7 c7) (hrec:∀ W,Below w.heap.size w W→Calls Tryz.prog 28 #[.agg #[va,vb,vc],.slice a7 x.l.length c7] W (DropPost p x.l z W)) :
 Calls Tryz.prog 80 #[.agg #[va,vb,vc],itV x.kind a1 x.sels.length c1 a2 x.decls.length c2 a3 x.names.length c3 x.mn x.mx a6 x.vals.length c6 a7 x.l.length c7] w (KeepPost p x z w):=by
 obtain ⟨W3,hW3⟩:∃ W3,W3=((w.alloc (plO va vb vc)).alloc (itmO x.kind a1 x.sels.length c1 a2 x.decls.length c2 a3 x.names.length c3 x.mn x.mx a6 x.vals.length c6 a7 x.l.length c7)).alloc zO:=⟨_,rfl⟩;have K0:KSt w.heap.size va vb vc (itmO x.kind a1 x.sels.length c1 a2 x.decls.length c2 a3 x.names.length c3 x.mn x.mx a6 x.vals.length c6 a7 x.l.length c7) w W3:=by rw [hW3];exact KSt.new w va vb vc _
 have s0:W3.heap.size=w.heap.size+3:=by rw [hW3];simp
 have HR:=Lib.hid (hrec W3 K0.below);obtain ⟨x0,-,-,-,-,-,-,x7⟩:=itmO_cells K0.x;obtain ⟨p0,p1,p2⟩:=plO_cells K0.p;rw [hW3] at x0 x7 p0 p1 p2;have HKI:=Lib.hid (keepI_layer (p:=p) hk);have HVB:=Lib.hid fun (W:World) (a5:Option Addr) (c5:Nat) (hb:Below w.heap.size w W) hv=>vrs_block (p:=p) (a5:=a5) (c5:=c5) hi hz hb hv;have HVL:=Lib.hid fun (W:World) (hb:Below w.heap.size w W)=>vrs_layer hi hz hb (w.heap.size+3);have HZ:=Lib.hid hz;obtain ⟨va1,va2,va3,rfl⟩:=fa;obtain ⟨vb1,vb2,vb3,rfl⟩:=fb;obtain ⟨vc1,vc2,vc3,rfl⟩:=fc;have HK0:=Lib.hid K0;have HW3:=Lib.hid hW3;have HS0:=Lib.hid s0;clear hrec hi hz K0 hW3 s0;rw [hk] at x0 HW3 HK0 HVB HKI ⊢;clear hk;unfold itV;unfold itmO plO zO at x0 x7 p0 p1 p2 HW3
 go_enter Tryz.func80,Tryz.ntmps80
 go_wp2_with fail
 rw [←HW3.out];refine HR.out.mono ?_;rintro e w5 ⟨a5,c5,rfl,hv5,hB5⟩;rw [HS0.out] at hv5 hB5;have K5:=HK0.out.step hB5;have K6:=K5.putL a5 (dropIs p x.l).length c5;have hX5:=itmO_cells K5.x;have f57:=Lib.frozen_of_heap (show w5.heap[w.heap.size+1]?=some (.cells _ _ (0,0)) from K5.x) 7;obtain ⟨-,-,-,-,-,-,-,y7⟩:=hX5;have HV5:=Lib.hid hv5;have HK6:=Lib.hid K6;have HWS:=Lib.hid (show w5.heap.size≤(w5.setCell ⟨w.heap.size+1,7,none⟩ (.slice a5 (dropIs p x.l).length c5)).heap.size from by simp [World.setCell]);have HWB:=Lib.hid fun rb (h:rb≠w.heap.size+1)=>(put_far (W:=w5) (b:=w.heap.size+1) (o:=7) (.slice a5 (dropIs p x.l).length c5) rfl h)
 have HV6:Hid (VR (w5.setCell ⟨w.heap.size+1,7,none⟩ (.slice a5 (dropIs p x.l).length c5)) (gNw z (w.heap.size+3) (w5.setCell ⟨w.heap.size+1,7,none⟩ (.slice a5 (dropIs p x.l).length c5))) (.sl (dropIs p x.l).length 8 ((dropIs p x.l).flatMap encI)) (.slice a5 (dropIs p x.l).length c5)) :=
  Lib.hid (vr_new HV5.out (Nat.le_refl _) (fun rb h _=>HWB.out rb (by have:=HZ.out;omega)) HWS.out)
 clear x0 x7 p0 p1 p2 HR HW3 HS0 HK0 K5 K6 hv5 hB5 HV5 HWS HWB
 have HE1:=Lib.hid fun (hm0:(dropIs p x.l).length≠0) =>
  keep_end (p:=p) (x:=x) (z:=z) (kd:=3) (a1:=a1) (n1:=x.sels.length) (c1:=c1) (a2:=a2) (n2:=x.decls.length) (c2:=c2) (a3:=a3) (n3:=x.names.length) (c3:=c3) (mn:=x.mn) (mx:=x.mx) (a6:=a6) (n6:=x.vals.length) (c6:=c6) (a7:=a5) (n7:=(dropIs p x.l).length) (c7:=c5) (b:=true) HK6.out HZ.out (by rw [HKI.out,if_neg hm0];rfl) fun y hy=>by
   rw [HKI.out,if_neg hm0] at hy
   cases hy
   exact HVB.out _ a5 c5 HK6.out.below HV6.out
 have HE0:=Lib.hid fun (hm0:(dropIs p x.l).length=0) (W:World) (o:Obj) (K7:KSt w.heap.size (.slice va1 va2 va3) (.slice vb1 vb2 vb3) (.slice vc1 vc2 vc3) o w W) =>
  keep_end (p:=p) (x:=x) (z:=z) (b:=true) (kd:=4) (a1:=none) (n1:=0) (c1:=0) (a2:=none) (n2:=0) (c2:=0) (a3:=a3) (n3:=x.names.length) (c3:=c3) (mn:=0) (mx:=0) (a6:=none) (n6:=0) (c6:=0) (a7:=none) (n7:=0) (c7:=0) K7 HZ.out (by rw [HKI.out,if_pos hm0];rfl) fun y hy=>by
   rw [HKI.out,if_pos hm0] at hy;cases hy;exact HVL.out _ K7.below
 clear HKI HVB HVL HV6;generalize (dropIs p x.l).length=m at *
 go_upto_region 15 with fail
 obtain ⟨x0,x1,x2,x3,x4,x5,x6,x7⟩:=itmO_cells HK6.out.x;obtain ⟨r0,r1,r2,r3,r4,r5,r6,r7,rf⟩:=zO_cells (B:=w.heap.size+1+1) HK6.out.r;have fx:=Lib.frozen_of_heap (show (w5.setCell ⟨w.heap.size+1,7,none⟩ (.slice a5 m c5)).heap[w.heap.size+1]?=some (.cells _ _ (0,0)) from HK6.out.x);have HRS:=Lib.hid (show (w5.setCell ⟨w.heap.size+1,7,none⟩ (.slice a5 m c5)).heap[w.heap.size+1+1]?=some (.cells #[.int .i64 0,.slice none 0 0,.slice none 0 0,.slice none 0 0,.int .i64 0,.int .i64 0,.slice none 0 0,.slice none 0 0] 53 (0,0)) from HK6.out.r);clear y7 f57;generalize w5.setCell ⟨w.heap.size+1,7,none⟩ (.slice a5 m c5)=w6 at *;rcases Nat.eq_zero_or_pos m with hm0 | hm0
 ·subst hm0
  clear HE1
  go_upto_region 17 with fail
  have K7:=HK6.out.putI rfl rfl (.int .i64 4) (.slice none 0 0) (.slice none 0 0) (.slice a3 x.names.length c3) (.int .i64 0) (.int .i64 0) (.slice none 0 0) (.slice none 0 0);have HE:=Lib.hid (HE0.out rfl _ _ K7);have HX7:=K7.x;have HR7:=K7.r;clear HE0 HRS K7 HK6 x0 x1 x2 x3 x4 x5 x6 x7 r0 r1 r2 r3 r4 r5 r6 r7 rf fx;generalize ((((((((w6.setCell ⟨w.heap.size+1,0,none⟩ (.int .i64 4)).setCell ⟨w.heap.size+1,1,none⟩ (.slice none 0 0)).setCell ⟨w.heap.size+1,2,none⟩ (.slice none 0 0)).setCell ⟨w.heap.size+1,3,none⟩ (.slice a3 x.names.length c3)).setCell ⟨w.heap.size+1,4,none⟩ (.int .i64 0)).setCell ⟨w.heap.size+1,5,none⟩ (.int .i64 0)).setCell ⟨w.heap.size+1,6,none⟩ (.slice none 0 0)).setCell ⟨w.heap.size+1,7,none⟩ (.slice none 0 0))=w7 at *;obtain ⟨x0,x1,x2,x3,x4,x5,x6,x7⟩:=itmO_cells (a1:=none) (n1:=0) (c1:=0) (a2:=none) (n2:=0) (c2:=0) (a6:=none) (n6:=0) (c6:=0) (a7:=none) (n7:=0) (c7:=0) HX7;obtain ⟨r0,r1,r2,r3,r4,r5,r6,r7,rf⟩:=zO_cells (B:=w.heap.size+1+1) HR7;have HRS:=Lib.hid (show w7.heap[w.heap.size+1+1]?=some (.cells #[.int .i64 0,.slice none 0 0,.slice none 0 0,.slice none 0 0,.int .i64 0,.int .i64 0,.slice none 0 0,.slice none 0 0] 53 (0,0)) from HR7);clear HX7 HR7
  go_wp2
  refine bodyPost_ret (results_row_tmp rfl _ _ (w.heap.size+1+1) 53 _ (0,0) _ rfl (set8 _ _ _ _ _ _ _ _ HRS.out rfl) Tryz.underlying53 rfl Tryz.sizeItem) rfl ?_;exact HE.out
 ·clear HE0
  go_wp2
  refine bodyPost_ret (results_row_tmp rfl _ _ (w.heap.size+1+1) 53 _ (0,0) _ rfl (set8 _ _ _ _ _ _ _ _ HRS.out rfl) Tryz.underlying53 rfl Tryz.sizeItem) rfl ?_;exact HE1.out (by omega)
end
def smallP (s:S3):Prop:=s.c.length≤1000000∧s.f.length≤1000000∧s.g.length≤1000000
section
variable {p:S3} {x:Itm} {z:Nat} {pv:Value} {a1 a2 a3 a6 a7:Option Addr} {c1 c2 c3 c6 c7:Nat} {w:World}
theorem keep_any (hp:PlAt w pv p) (hs:smallP p) (hz:z≤w.heap.size) (hx:okI x) (hi:ItB z w x a1 c1 a2 c2 a3 c3 a6 c6 a7 c7)
 (hrec:∀ W,Below w.heap.size w W→Calls Tryz.prog 28 #[pv,.slice a7 x.l.length c7] W (DropPost p x.l z W)) :
 Calls Tryz.prog 80 #[pv,itV x.kind a1 x.sels.length c1 a2 x.decls.length c2 a3 x.names.length c3 x.mn x.mx a6 x.vals.length c6 a7 x.l.length c7] w (KeepPost p x z w):=by
 obtain ⟨va,vb,vc,rfl,p1,p2,p3⟩:=hp;obtain ⟨s1,s2,s3⟩:=hs;obtain ⟨⟨hd1,hd2⟩,-⟩:=(okI_eq x).1 hx;have hn:x.decls.length≤1000000:=by omega
 have hnl:∀ d∈x.decls,d.l.length≤1000000:=fun d hd=>by
  have:=(hd2 d hd).1;have h2:=cntVs_len d.l;omega
 by_cases h1:x.kind=1
 ·exact keep_rule p1 p2.form p3.form s1 hz h1 hn hi.s hi.d hi.n hi.v hi.l
 by_cases h2:x.kind=2
 ·exact keep_media p1.form p2.form p3.form hz h2 hi hrec
 by_cases h3:x.kind=3
 ·exact keep_layer p1.form p2.form p3.form hz h3 hi hrec
 by_cases h5:x.kind=5
 ·by_cases h51:x.names.length=1
  ·obtain ⟨n,hn⟩:=List.length_eq_one_iff.1 h51
   exact keep_frames1 p1.form p2 s2 p3.form hz h5 hn hi
  ·exact keep_frames0 p1.form p2.form p3.form hz h5 h51 hi
 by_cases h6:x.kind=6
 ·exact keep_font p1.form p2.form p3 s3 hz h6 hn hnl hi
 ·exact keep_other p1.form p2.form p3.form hz h1 h2 h3 h5 h6 hi
end
structure DrSt (z B:Nat) (o:Obj) (w:World) (l:List Itm) (v:Value) (W:World):Prop where
 below:Below B w W
 box:W.heap[B]?=some o
 row:∃ news,W.ownsRow (B+1) 53 8 v l.length news∧VRs W ⟨fun _=>none,fun b=>(b<z∨B+1≤b)∧b<W.heap.size∧v.ownBlock≠some b⟩ (l.flatMap encI) news
 size:B+1≤W.heap.size
section
variable {z B:Nat} {o:Obj} {w W W':World} {l:List Itm} {v:Value}
theorem DrSt.step (h:DrSt z B o w l v W) (hb:Below W.heap.size W W'):DrSt z B o w l v W':=by
 obtain ⟨news,h1,h2⟩:=h.row;refine ⟨h.below.trans (hb.mono (Nat.le_trans (Nat.le_succ _) h.size)),(hb.block _ (Nat.lt_of_lt_of_le (Nat.lt_succ_self _) h.size)).trans h.box,⟨news,owns_below h1 hb,?_⟩,Nat.le_trans h.size hb.size⟩;exact VRs_keep (I:=fun b=>(b<z∨B+1≤b)∧b<W.heap.size∧v.ownBlock≠some b) (I':=fun b=>(b<z∨B+1≤b)∧b<W'.heap.size∧v.ownBlock≠some b) (fun _ hr=>⟨hr.1,Nat.lt_of_lt_of_le hr.2.1 hb.size,hr.2.2⟩) (fun rb hr=>hb.block rb hr.2.1) _ h2
theorem DrSt.new (w:World) (o:Obj):DrSt z w.heap.size o w [] (.slice none 0 0) (w.alloc o) :=
 ⟨below_alloc _ _,World.alloc_heap_new _ _,⟨[],World.ownsRow_nil _ _ _ _,by rw [List.flatMap_nil,VRs]⟩,by simp⟩
theorem own_lt {C e sz n:Nat} {xs:List Value} (h:W.ownsRow C e sz v n xs) {g:Nat} (hg:v.ownBlock=some g):C≤g∧g<W.heap.size:=h.lt g hg
theorem DrSt.app {y:Itm} {vs news:List Value} {v':Value} (h:DrSt z B o w l v W) (h0:W.ownsRow (B+1) 53 8 v l.length news) (hv0:VRs W ⟨fun _=>none,fun b=>(b<z∨B+1≤b)∧b<W.heap.size∧v.ownBlock≠some b⟩ (l.flatMap encI) news)
 (hy:VRs W ⟨fun _=>none,fun b=>(b<z∨B+1≤b)∧b<W.heap.size∧v.ownBlock≠some b⟩ (encI y) vs)
 (hown:W'.ownsRow (B+1) 53 8 v' (l.length+1) (news++vs)) (hg:W.grownBy W' v.ownBlock) (hblk:v'.ownBlock=v.ownBlock∨v'.ownBlock=some W.heap.size):DrSt z B o w (l++[y]) v' W':=by
 have hb:Below (B+1) W W':=(Below.refl (B+1) W).grown hg h.size (fun g e=>(own_lt h0 e).1);have hsame:∀ rb,rb<W.heap.size→v.ownBlock≠some rb→W'.heap[rb]?=W.heap[rb]?:=fun rb h1 h2=>hg.block rb h1 fun e=>h2 e.symm;have hI:∀ rb,(rb<z∨B+1≤rb)∧rb<W.heap.size∧v.ownBlock≠some rb→(rb<z∨B+1≤rb)∧rb<W'.heap.size∧v'.ownBlock≠some rb:=fun rb hr=>by
  refine ⟨hr.1,Nat.lt_of_lt_of_le hr.2.1 hb.size,fun e=>?_⟩;rcases hblk with h9 | h9
  ·exact hr.2.2 (h9▸e)
  ·rw [h9] at e
   have:W.heap.size=rb:=by simpa using e
   omega
 refine ⟨h.below.trans (hb.mono (Nat.le_succ _)),(hb.block _ (Nat.lt_succ_self _)).trans h.box,⟨news++vs,by rw [List.length_append];exact hown,?_⟩,Nat.le_trans h.size hb.size⟩;rw [List.flatMap_append,List.flatMap_cons,List.flatMap_nil,List.append_nil];exact (VRs_keep (I':=fun b=>(b<z∨B+1≤b)∧b<W'.heap.size∧v'.ownBlock≠some b) hI (fun rb hr=>hsame rb hr.2.1 hr.2.2) _ hv0).append (VRs_keep (I':=fun b=>(b<z∨B+1≤b)∧b<W'.heap.size∧v'.ownBlock≠some b) hI (fun rb hr=>hsame rb hr.2.1 hr.2.2) _ hy)
theorem DrSt.new_item {y:Itm} {vs:List Value} {w2 W4:World} {C:Nat} (h:DrSt z B o w l v W) (hz:z≤B) (hC:W.heap.size≤C) (hv:VRs w2 (gNw z C w2) (encI y) vs) (hb:Below w2.heap.size w2 W4) :
 VRs W4 ⟨fun _=>none,fun b=>(b<z∨B+1≤b)∧b<W4.heap.size∧v.ownBlock≠some b⟩ (encI y) vs:=by
 obtain ⟨news,h1,-⟩:=h.row;have hs:=h.size;refine VRs_keep (I:=(gNw z C w2).I) (I':=fun b=>(b<z∨B+1≤b)∧b<W4.heap.size∧v.ownBlock≠some b) (fun rb hr=>⟨hr.1.imp id fun h=>by omega,Nat.lt_of_lt_of_le hr.2 hb.size,fun e=>?_⟩) (fun rb hr=>hb.block rb hr.2) _ hv;have:=own_lt h1 e;rcases hr.1 with h | h <;> omega
theorem DrSt.done (h:DrSt z w.heap.size o w l v W):∃ a c,v=.slice a l.length c∧VR W (gNw z w.heap.size W) (.sl l.length 8 (l.flatMap encI)) (.slice a l.length c)∧Below w.heap.size w W:=by
 obtain ⟨news,h1,h2⟩:=h.row;rcases h1.2 with ⟨rfl,h0⟩ | ⟨g,cap,cur,rfl,hgB,hg,hc,-,-,ht⟩
 ·refine ⟨none,0,by rw [h0],⟨none,0,rfl,by omega,.inl h0⟩,h.below⟩
 ·have hgl:=(Array.getElem?_eq_some_iff.1 hg).1
  have hI:(gNw z w.heap.size W).I g:=⟨.inr (by omega),hgl⟩;refine ⟨_,cap,rfl,⟨_,cap,rfl,hc,.inr ⟨g,0,rfl,RowR.mk hI fun i a hi=>?_⟩⟩,h.below⟩;obtain ⟨u,e1,e2⟩:=VRs.get h2 hi;refine ⟨u,?_,VR_keep (I':=(gNw z w.heap.size W).I) (fun _ hr=>⟨hr.1.imp id fun h=>by omega,hr.2.1⟩) (fun _ _=>rfl) a e2⟩;rw [Nat.zero_add,Lib.cell_of_heap hg];have hlt:i<l.length*8:=by rw [←len_flatI];exact (List.getElem?_eq_some_iff.1 hi).1
  rw [←ht,List.getElem?_take,if_pos hlt] at e1;simpa using e1
end
theorem plW_cells {W:World} {B:Nat} {va vb vc:Value} (h:W.heap[B]?=some (.cells #[va,vb,vc] 41)):W.cell? ⟨B,0,none⟩=some va∧W.cell? ⟨B,1,none⟩=some vb∧W.cell? ⟨B,2,none⟩=some vc:=by
 refine ⟨?_,?_,?_⟩ <;> (rw [Lib.cell_of_heap h];rfl)
theorem item8_cells {W:World} {B:Nat} {t:TypeId} {x0 x1 x2 x3 x4 x5 x6 x7:Value} (h:W.heap[B]?=some (.cells #[x0,x1,x2,x3,x4,x5,x6,x7] t)) :
 W.cell? ⟨B,0,none⟩=some x0∧W.cell? ⟨B,1,none⟩=some x1∧W.cell? ⟨B,2,none⟩=some x2∧W.cell? ⟨B,3,none⟩=some x3∧W.cell? ⟨B,4,none⟩=some x4∧W.cell? ⟨B,5,none⟩=some x5∧W.cell? ⟨B,6,none⟩=some x6∧W.cell? ⟨B,7,none⟩=some x7:=by
 refine ⟨?_,?_,?_,?_,?_,?_,?_,?_⟩ <;> (rw [Lib.cell_of_heap h];rfl)
theorem list8_cells {W:World} {B:Nat} {t:TypeId} {x0 x1 x2 x3 x4 x5 x6 x7:Value} (h:W.heap[B]?=some (.cells #[x0,x1,x2,x3,x4,x5,x6,x7] t)):∀ j u,[x0,x1,x2,x3,x4,x5,x6,x7][j]?=some u→W.cell? ((⟨B,0,none⟩:Addr).add j)=some u:=by
 intro j u hj;rw [Addr.add_lit,Nat.zero_add,Lib.cell_of_heap h];simpa using hj
set_option maxRecDepth 100000 in
set_option maxHeartbeats 8000000 in
theorem drop_any (p:S3) (hs:smallP p) (z:Nat) (N:Nat):∀ (l:List Itm),SizeOf.sizeOf l≤N→okIs l→cntIs l≤1000→∀ (v pv:Value) (w:World),AtB z w (.sl l.length 8 (l.flatMap encI)) v→z≤w.heap.size→PlAt w pv p →
 Calls Tryz.prog 28 #[pv,v] w (DropPost p l z w):=by
 induction N with
 | zero=>intro l hl;cases l <;> simp at hl <;> omega
 | succ N ih =>
   intro l hl hok hcn v pv w hv hz hp;obtain ⟨i0,hi,hz0,hz1,hz2⟩:=info_parts Tryz.infoItem;have hlen:l.length≤1000:=Nat.le_trans (cntIs_len l) hcn;have hp':=hp;obtain ⟨va,vb,vc,rfl,p1,p2,p3⟩:=hp;have D0:DrSt z w.heap.size (.cells #[va,vb,vc] 41) w [] (.slice none 0 0) (w.alloc (.cells #[va,vb,vc] 41)):=DrSt.new w _;obtain ⟨va1,va2,va3,rfl⟩:=p1.form;obtain ⟨vb1,vb2,vb3,rfl⟩:=p2.form;obtain ⟨vc1,vc2,vc3,rfl⟩:=p3.form;have D0H:=Lib.hid D0;rcases slB_cells encI 8 encI_len (by decide) hv with ⟨rfl,ad,cap,rfl⟩ | ⟨b,o,cap,rfl,hcap,hpos,hbz,hc⟩
   ·clear ih hl hok hcn hv hz hp' p1 p2 p3 D0
    go_enter Tryz.func28,Tryz.ntmps28
    go_wp2
    go_loopw [5,7,8,9,12] (fun v5 _ _ _ i wr=>i=.int .i64 0∧v5=.slice none 0 0∧wr=(w.alloc (.cells #[.slice va1 va2 va3,.slice vb1 vb2 vb3,.slice vc1 vc2 vc3] 41))) (fun _ _ _ _ _ _=>0)
    case atStart=>exact ⟨rfl,rfl,rfl⟩
    case round =>
     obtain ⟨rfl,rfl,rfl⟩:=hrel
     go_wp2
     go_ret
     refine ⟨none,0,by rw [dropIs_nil];rfl,?_,D0H.out.below⟩;rw [dropIs_nil];exact ⟨none,0,rfl,Nat.le_refl _,.inl rfl⟩
   ·have IH:=Lib.hid fun k (hk:k<l.length)=>ih l[k].l (by have:=itm_lt (List.getElem_mem hk);omega) ((okI_eq _).1 (okIs_at hok _ (List.getElem_mem hk))).2.2.2.2 (by have:=cntIs_at hk;omega)
    have HOK:=Lib.hid fun k (hk:k<l.length)=>okIs_at hok _ (List.getElem_mem hk);have HC:=Lib.hid fun k (hk:k<l.length)=>itB_cells hc hk;have HSN:=Lib.hid fun k (hk:k<l.length)=>dropIs_snoc (p:=p) hk;have HLE:=Lib.hid fun k=>dropIs_len p (l.take k);have HP:=Lib.hid hp';have HZ:=Lib.hid hz;have HS:=Lib.hid hs;clear ih hl hok hcn hv hz hp' p1 p2 p3 D0 hc
    go_enter Tryz.func28,Tryz.ntmps28
    go_wp2
    go_loopw [5,7,8,9,12] (fun v5 _ _ _ i wr=>∃ (k:Nat) (oa:Option Addr) (oc:Nat),k≤l.length∧i=.int .i64 k∧v5=.slice oa (dropIs p (l.take k)).length oc∧Hid (DrSt z w.heap.size (.cells #[.slice va1 va2 va3,.slice vb1 vb2 vb3,.slice vc1 vc2 vc3] 41) w (dropIs p (l.take k)) (.slice oa (dropIs p (l.take k)).length oc) wr)) (fun _ _ _ _ i _=>l.length - (intOf i).toNat)
    case atStart=>exact ⟨0,none,0,Nat.zero_le _,rfl,by rw [List.take_zero,dropIs_nil];rfl,by rw [List.take_zero,dropIs_nil];exact D0H⟩
    case round =>
     clear D0H;obtain ⟨k,oa,oc,hk,rfl,rfl,D⟩:=hrel
     by_cases hlt:k<l.length
     ·obtain ⟨a1,c1,a2,c2,a3,c3,a6,c6,a7,c7,y0,y1,y2,y3,y4,y5,y6,y7,g1,g2,g3,g6,g7⟩:=HC.out k hlt
      have hB:=D.out.below;have hBz:Below z w wr:=hB.mono HZ.out;have y0':=(hBz.cell (p:=⟨b,o+k*8,none⟩) hbz).trans y0;have y1':=(hBz.cell (p:=⟨b,o+k*8+1,none⟩) hbz).trans y1;have y2':=(hBz.cell (p:=⟨b,o+k*8+2,none⟩) hbz).trans y2;have y3':=(hBz.cell (p:=⟨b,o+k*8+3,none⟩) hbz).trans y3;have y4':=(hBz.cell (p:=⟨b,o+k*8+4,none⟩) hbz).trans y4;have y5':=(hBz.cell (p:=⟨b,o+k*8+5,none⟩) hbz).trans y5;have y6':=(hBz.cell (p:=⟨b,o+k*8+6,none⟩) hbz).trans y6;have y7':=(hBz.cell (p:=⟨b,o+k*8+7,none⟩) hbz).trans y7;clear y0 y1 y2 y3 y4 y5 y6 y7;have hba:=below_alloc wr (itmO l[k].kind a1 l[k].sels.length c1 a2 l[k].decls.length c2 a3 l[k].names.length c3 l[k].mn l[k].mx a6 l[k].vals.length c6 a7 l[k].l.length c7);have D1:=D.out.step hba;have hnew:=World.alloc_heap_new wr (itmO l[k].kind a1 l[k].sels.length c1 a2 l[k].decls.length c2 a3 l[k].names.length c3 l[k].mn l[k].mx a6 l[k].vals.length c6 a7 l[k].l.length c7);have hz1':z≤(wr.alloc (itmO l[k].kind a1 l[k].sels.length c1 a2 l[k].decls.length c2 a3 l[k].names.length c3 l[k].mn l[k].mx a6 l[k].vals.length c6 a7 l[k].l.length c7)).heap.size:=Nat.le_trans HZ.out D1.below.size
      have hIt:ItB z (wr.alloc (itmO l[k].kind a1 l[k].sels.length c1 a2 l[k].decls.length c2 a3 l[k].names.length c3 l[k].mn l[k].mx a6 l[k].vals.length c6 a7 l[k].l.length c7)) l[k] a1 c1 a2 c2 a3 c3 a6 c6 a7 c7 :=
       ItB.below ⟨g1,g2,g3,g6,g7⟩ (D1.below.mono HZ.out)
      have HKP:=Lib.hid (keep_any (HP.out.below D1.below) HS.out hz1' (HOK.out k hlt) hIt fun W hW=>IH.out k hlt _ _ W (g7.below ((D1.below.mono HZ.out).trans (hW.mono hz1'))) (Nat.le_trans hz1' hW.size) (HP.out.below (D1.below.trans (hW.mono D1.below.size))));obtain ⟨x0,x1,x2,x3,x4,x5,x6,x7⟩:=itmO_cells hnew;obtain ⟨b0,b1,b2⟩:=plW_cells D1.box;have HD1:=Lib.hid D1;have HSN':=Lib.hid (HSN.out k hlt);clear g1 g2 g3 g6 g7 hB hBz hnew hIt hz1' D1 hba;unfold itmO at HKP HD1 x0 x1 x2 x3 x4 x5 x6 x7 b0 b1 b2;unfold itV at HKP;have HZ1:=Lib.hid (Nat.le_trans (Nat.le_refl wr.heap.size) (by simp:wr.heap.size≤(wr.alloc (.cells #[.int .i64 l[k].kind,.slice a1 l[k].sels.length c1,.slice a2 l[k].decls.length c2,.slice a3 l[k].names.length c3,.int .i64 l[k].mn,.int .i64 l[k].mx,.slice a6 l[k].vals.length c6,.slice a7 l[k].l.length c7] 53)).heap.size));have HLk:=Lib.hid (show (dropIs p (l.take k)).length≤1000 from by have:=HLE.out k;rw [List.length_take] at this;omega)
      go_wp2_with fail
      refine HKP.out.mono ?_;rintro e w2 ⟨kd',a1',n1',c1',a2',n2',c2',a3',n3',c3',mn',mx',a6',n6',c6',a7',n7',c7',rfl,hv2,hB2⟩;unfold itV;have hb3:=below_alloc w2 (.cells #[.int .i64 kd',.slice a1' n1' c1',.slice a2' n2' c2',.slice a3' n3' c3',.int .i64 mn',.int .i64 mx',.slice a6' n6' c6',.slice a7' n7' c7'] 53);have hY:=World.alloc_heap_new w2 (.cells #[.int .i64 kd',.slice a1' n1' c1',.slice a2' n2' c2',.slice a3' n3' c3',.int .i64 mn',.int .i64 mx',.slice a6' n6' c6',.slice a7' n7' c7'] 53);have D3:=(HD1.out.step hB2).step hb3;obtain ⟨t0,t1,t2,t3,t4,t5,t6,t7⟩:=item8_cells hY
      cases hky:keepI p l[k] with
      | none =>
        have HSE:Hid (dropIs p (l.take (k+1))=dropIs p (l.take k)):=Lib.hid (by rw [HSN'.out,hky];simp);have HD3:=Lib.hid D3;clear x0 x1 x2 x3 x4 x5 x6 x7 b0 b1 b2 y0' y1' y2' y3' y4' y5' y6' y7' D3 hv2 hB2 hb3 hY hky HKP HD1 HSN';simp only [Option.isSome_none]
        go_wp2
        go_roundw
        case rel=>exact ⟨k+1,oa,oc,by omega,by go_num,by rw [HSE.out],by rw [HSE.out];exact HD3.out⟩
        case measure=>simp [intOf];omega
      | some y =>
        have HSE:Hid (dropIs p (l.take (k+1))=dropIs p (l.take k)++[y]):=Lib.hid (by rw [HSN'.out,hky];rfl);have hy4:=D.out.new_item HZ.out HZ1.out (hv2.out y hky) (hb3.trans ((below_alloc (w2.alloc (.cells #[.int .i64 kd',.slice a1' n1' c1',.slice a2' n2' c2',.slice a3' n3' c3',.int .i64 mn',.int .i64 mx',.slice a6' n6' c6',.slice a7' n7' c7'] 53)) (.cells #[.int .i64 kd',.slice a1' n1' c1',.slice a2' n2' c2',.slice a3' n3' c3',.int .i64 mn',.int .i64 mx',.slice a6' n6' c6',.slice a7' n7' c7'] 53)).mono hb3.size));have hb4:=below_alloc (w2.alloc (.cells #[.int .i64 kd',.slice a1' n1' c1',.slice a2' n2' c2',.slice a3' n3' c3',.int .i64 mn',.int .i64 mx',.slice a6' n6' c6',.slice a7' n7' c7'] 53)) (.cells #[.int .i64 kd',.slice a1' n1' c1',.slice a2' n2' c2',.slice a3' n3' c3',.int .i64 mn',.int .i64 mx',.slice a6' n6' c6',.slice a7' n7' c7'] 53);have hn4:=World.alloc_heap_new (w2.alloc (.cells #[.int .i64 kd',.slice a1' n1' c1',.slice a2' n2' c2',.slice a3' n3' c3',.int .i64 mn',.int .i64 mx',.slice a6' n6' c6',.slice a7' n7' c7'] 53)) (.cells #[.int .i64 kd',.slice a1' n1' c1',.slice a2' n2' c2',.slice a3' n3' c3',.int .i64 mn',.int .i64 mx',.slice a6' n6' c6',.slice a7' n7' c7'] 53);rw [World.size_alloc] at hn4;have D4:=D3.step hb4;have hs4:=D4.size;obtain ⟨news,hr4,hv4⟩:=D4.row;have HAPP:=Lib.hid fun v' W' h1 h2 h3=>D4.app (W':=W') (v':=v') hr4 hv4 hy4 h1 h2 h3;clear x0 x1 x2 x3 x4 x5 x6 x7 b0 b1 b2 y0' y1' y2' y3' y4' y5' y6' y7' D3 hv2 hB2 hb3 hb4 hY hky HKP HD1 HSN' D4 hv4 hy4 D;simp only [Option.isSome_some];have hlk:=HLk.out
        go_wp2_with (at_builtin;refine wpList_append_own_at _ rfl _ _ 46 rfl (w.heap.size+1) 53 i0 _ 8 144 Tryz.underlying46 hi hz0 hz1 hz2 rfl (by decide) _ _ _ rfl hr4 ⟨w2.heap.size+1,0,none⟩ 1 1 [.int .i64 kd',.slice a1' n1' c1',.slice a2' n2' c2',.slice a3' n3' c3',.int .i64 mn',.int .i64 mx',.slice a6' n6' c6',.slice a7' n7' c7'] rfl rfl ?c1 ?c2 ?c3 ?c4 ?c5 ?_)
        case c1=>exact list8_cells hn4
        case c2=>simp [Value.oneCell']
        case c3=>unfold maxLen;omega
        case c4=>omega
        case c5=>exact hs4
        intro v' w5 hown' hgrow _ hblk;have D5:=HAPP.out v' w5 hown' hgrow (by rw [World.size_alloc,World.size_alloc];exact hblk);obtain ⟨oa',oc',e5⟩:=owns_slice hown';subst e5;have HD5:=Lib.hid D5;clear hown' hgrow hblk D5 hr4 HAPP hn4 t0 t1 t2 t3 t4 t5 t6 t7
        go_wp2
        go_roundw
        case rel=>exact ⟨k+1,oa',oc',by omega,by go_num,by rw [HSE.out,List.length_append];rfl,by rw [HSE.out,List.length_append];exact HD5⟩
        case measure=>simp [intOf];omega
     ·obtain rfl:k=l.length:=by omega
      have hD:=D.out;rw [List.take_length] at hD;have HE:=Lib.hid hD.done;clear D hD;rw [List.take_length]
      go_wp2
      go_ret
      obtain ⟨a,c,e,hv,hb⟩:=HE.out;exact ⟨a,c,congrArg Ending.returned e,hv,hb⟩
def gZ (z:Nat):Gh:=⟨fun _=>none,fun b=>b<z⟩
theorem vrsB_item {z:Nat} {W:World} {x:Itm} {a1 a2 a3 a6 a7:Option Addr} {c1 c2 c3 c6 c7:Nat} (h:ItB z W x a1 c1 a2 c2 a3 c3 a6 c6 a7 c7) :
 VRs W (gZ z) (encI x) [.int .i64 x.kind,.slice a1 x.sels.length c1,.slice a2 x.decls.length c2,.slice a3 x.names.length c3,.int .i64 x.mn,.int .i64 x.mx,.slice a6 x.vals.length c6,.slice a7 x.l.length c7]:=vrs_item h.s h.d h.n h.v h.l
def usedP (p:S3) (x:Itm):Prop:=(x.kind=1→∀ d∈x.decls,kpD p.c d=true)∧(x.kind=5→kpF p.f x.names=true)∧(x.kind=6→kpG p.g x.kind x.decls=true)
theorem kp_used {p:S3} {x y:Itm} (h:Kp p x y):usedP p y:=by
 cases h with
 | same h1 h2 h3 h5 h6=>exact ⟨fun e=>absurd e h1,h5,h6⟩
 | rule h1 hne =>
   refine ⟨fun _ d hd=>(List.mem_filter.1 hd).2,fun e=>?_,fun e=>?_⟩
   ·exact absurd (show x.kind=5 from e) (by omega)
   ·exact absurd (show x.kind=6 from e) (by omega)
 | block hk hne =>
   refine ⟨fun e=>?_,fun e=>?_,fun e=>?_⟩
   ·exact absurd (show x.kind=1 from e) (by omega)
   ·exact absurd (show x.kind=5 from e) (by omega)
   ·exact absurd (show x.kind=6 from e) (by omega)
 | layer hk he =>
   refine ⟨fun e=>?_,fun e=>?_,fun e=>?_⟩
   ·exact absurd (show (4:Int)=1 from e) (by omega)
   ·exact absurd (show (4:Int)=5 from e) (by omega)
   ·exact absurd (show (4:Int)=6 from e) (by omega)
theorem drop_used (p:S3) (N:Nat):∀ (l:List Itm),SizeOf.sizeOf l≤N→∀ x∈flatIs (dropIs p l),usedP p x:=by
 induction N with
 | zero=>intro l hl;cases l <;> simp at hl <;> omega
 | succ N ihN =>
   intro l hl;have key : ∀ (a:List Itm),(∀ x∈a,SizeOf.sizeOf x.l≤N)→∀ x∈flatIs (dropIs p a),usedP p x:=by
    intro a ha
    induction a with
    | nil=>intro x hx;rw [dropIs_nil,flatIs] at hx;simp at hx
    | cons y a ih =>
      intro x hx;have h2:=ih fun z hz=>ha z (List.mem_cons_of_mem _ hz)
      cases h:keepI p y with
      | none=>rw [dropIs_none h] at hx;exact h2 x hx
      | some y' =>
        rw [dropIs_some h,flatIs] at hx;rcases List.mem_append.1 hx with hx | hx
        ·have hk:=kp_of h
         rw [flatI_eq] at hx;rcases List.mem_cons.1 hx with rfl | hx
         ·exact kp_used hk
         ·have h9:=ihN _ (ha y List.mem_cons_self)
          cases hk with
          | same h1 h2 h3 h5 h6=>rw [if_neg (by omega)] at hx;simp at hx
          | rule h1 hne =>
            have hx:x∈(if y.kind=2∨y.kind=3 then flatIs y.l else []):=hx;rw [if_neg (by omega)] at hx;simp at hx
          | block hk hne =>
            have hx:x∈(if y.kind=2∨y.kind=3 then flatIs (dropIs p y.l) else []):=hx;rw [if_pos hk] at hx;exact h9 x hx
          | layer hk he =>
            have hx:x∈(if (4:Int)=2∨(4:Int)=3 then flatIs [] else []):=hx;rw [if_neg (by omega)] at hx;simp at hx
        ·exact h2 x hx
   exact key l fun x hx=>by have:=itm_lt hx;omega
theorem okDs_filter {l:List Dl} {f:Dl→Bool} (h:okDs l):okDs (l.filter f) :=
 ⟨Nat.le_trans (List.length_filter_le _ _) h.1,fun d hd=>h.2 d (List.mem_filter.1 hd).1⟩
theorem drop_ok (p:S3) (N:Nat):∀ (l:List Itm),SizeOf.sizeOf l≤N→okIs l→okIs (dropIs p l)∧cntIs (dropIs p l)≤cntIs l:=by
 induction N with
 | zero=>intro l hl;cases l <;> simp at hl <;> omega
 | succ N ihN =>
   intro l hl hok;have key:∀ (a:List Itm),(∀ x∈a,SizeOf.sizeOf x.l≤N)→okIs a→okIs (dropIs p a)∧cntIs (dropIs p a)≤cntIs a:=by
    intro a ha hoa
    induction a with
    | nil=>rw [dropIs_nil];exact ⟨hoa,Nat.le_refl _⟩
    | cons y a ih =>
      have hy:okI y:=okIs_at hoa y List.mem_cons_self;have hoa2:okIs a:=((okIs_append [y] a).1 hoa).2;obtain ⟨h2,h3⟩:=ih (fun z hz=>ha z (List.mem_cons_of_mem _ hz)) hoa2
      cases h:keepI p y with
      | none=>rw [dropIs_none h,cntIs];exact ⟨h2,by omega⟩
      | some y' =>
        have hk:=kp_of h;obtain ⟨g1,g2,g3,g4,g5⟩:=(okI_eq y).1 hy;obtain ⟨g6,g7⟩:=ihN _ (ha y List.mem_cons_self) g5;have key2:okI y'∧cntI y'≤cntI y:=by
         cases hk with
         | same=>exact ⟨hy,Nat.le_refl _⟩
         | rule h1 hne=>exact ⟨(okI_eq _).2 ⟨okDs_filter g1,g2,g3,g4,g5⟩,by rw [cntI_eq,cntI_eq];exact Nat.le_refl _⟩
         | block hk hne=>exact ⟨(okI_eq _).2 ⟨g1,g2,g3,g4,g6⟩,by rw [cntI_eq,cntI_eq];exact Nat.add_le_add_left g7 1⟩
         | layer hk he =>
           refine ⟨(okI_eq _).2 ⟨⟨by simp [Itm.decls],by simp [Itm.decls]⟩,g2,by simp [Itm.vals,cntVs],rfl,trivial⟩,?_⟩;rw [cntI_eq,cntI_eq];show 1+cntIs []≤_;rw [cntIs];omega
        rw [dropIs_some h];refine ⟨(okIs_append [y'] _).2 ⟨?_,h2⟩,?_⟩
        ·rw [okIs];exact ⟨key2.1,by rw [okIs];trivial⟩
        ·rw [cntIs,cntIs];exact Nat.add_le_add key2.2 h3
   exact key l (fun x hx=>by have:=itm_lt hx;omega) hok
theorem left_ok (p:S3) {l:List Itm} (h:okIs l):okIs (dropIs p l)∧cntIs (dropIs p l)≤cntIs l:=drop_ok p _ l (Nat.le_refl _) h
section
variable {p:S3} {x:Itm} {z:Nat} {va vb vc:Value} {a1 a2 a3 a6 a7:Option Addr} {n1 n2 n3 n6 n7 c1 c2 c3 c6 c7:Nat} {w:World}
structure USt (B:Nat) (o1 o2:Obj) (w W:World):Prop where
 below:Below B w W
 p:W.heap[B]?=some o1
 x:W.heap[B+1]?=some o2
 size:B+2≤W.heap.size
end
theorem equal_sat {w:World} {v1 v2:Value} {ss:List Str} (h1:SAt w v1 ss) (h2:SAt w v2 ss) (hl:ss.length≤1000000) :
 Calls Tryz.prog 84 #[v1,v2] w fun e w'=>e=.returned (.bool true)∧∃ q,w'=w.drewN q:=by
 rcases h1 with ⟨h0,a,c,rfl⟩ | ⟨b,off,cap,rfl,g1,g2,g3⟩
 ·rcases h2 with ⟨-,a',c',rfl⟩ | ⟨b',off',cap',rfl,g1',g2',g3'⟩
  ·refine (Tryz.slices_Equal_string_empty a a' c 0 c' w (by decide)).mono ?_
   rintro e w' ⟨rfl,rfl⟩;exact ⟨rfl,0,rfl⟩
  ·rw [h0] at g2';simp at g2'
 ·rcases h2 with ⟨h0,a',c',rfl⟩ | ⟨b',off',cap',rfl,g1',g2',g3'⟩
  ·rw [h0] at g2;simp at g2
  ·have hln:(ss.map bs).length≤9223372036854775807:=by rw [List.length_map];omega
   have hc:∀ (b off:Nat) (_:∀ j (hj:j<(ss.map bs).length),w.cell? ⟨b,off+j,none⟩=some (.string (ss.map bs)[j])) j,j<(ss.map bs).length→w.cell? ⟨b,off+j,none⟩=some (.string ((ss.map bs).getD j ByteArray.empty)):=fun b off h j hj=>by
    rw [h j hj,List.getD_eq_getElem?_getD,List.getElem?_eq_getElem hj];rfl
   refine (Tryz.slices_Equal_string b off (ss.map bs).length cap b' off' (ss.map bs).length cap' (ss.map bs) (ss.map bs) w (Nat.le_refl _) (Nat.le_refl _) hln hln (hc _ _ g3) (hc _ _ g3')).mono ?_;rintro e w' ⟨rfl,q,rfl⟩;exact ⟨by simp,q,rfl⟩
def smallS (s:S3):Prop:=s.c.length≤1000000∧s.f.length≤1000000∧s.g.length≤1000000
theorem plBox_cells {W:World} {B:Nat} {va vb vc:Value} (h:W.heap[B]?=some (.cells #[va,vb,vc] 41)):W.cell? ⟨B,0,none⟩=some va∧W.cell? ⟨B,1,none⟩=some vb∧W.cell? ⟨B,2,none⟩=some vc:=by
 refine ⟨?_,?_,?_⟩ <;> (rw [Lib.cell_of_heap h];rfl)
set_option maxRecDepth 100000 in
set_option maxHeartbeats 2000000 in
theorem psame_any {s:S3} {v1 v2:Value} {w:World} (h1:PlAt w v1 s) (h2:PlAt w v2 s) (hs:smallS s) :
 Calls Tryz.prog 32 #[v1,v2] w fun e w'=>e=.returned (.bool true)∧Below w.heap.size w w':=by
 obtain ⟨ua,ub,uc,rfl,g1,g2,g3⟩:=h1;obtain ⟨va,vb,vc,rfl,k1,k2,k3⟩:=h2;obtain ⟨s1,s2,s3⟩:=hs;obtain ⟨W2,hW2⟩:∃ W2,W2=(w.alloc (.cells #[ua,ub,uc] 41)).alloc (.cells #[va,vb,vc] 41):=⟨_,rfl⟩;have hB:Below w.heap.size w W2:=by rw [hW2];exact ((Below.refl _ w).alloc (Nat.le_refl _) _).alloc (by simp) _
 have hx:W2.heap[w.heap.size]?=some (.cells #[ua,ub,uc] 41):=by
  rw [hW2,Below.heap_alloc _ _ _ (by simp)];exact World.alloc_heap_new _ _
 have hy:W2.heap[w.heap.size+1]?=some (.cells #[va,vb,vc] 41):=by
  have:=World.alloc_heap_new (w.alloc (.cells #[ua,ub,uc] 41)) (.cells #[va,vb,vc] 41);rw [hW2];simpa using this
 have HX:=Lib.hid fun (W:World) (h:∃ q,W=W2.drewN q)=>show W.heap[w.heap.size]?=some (.cells #[ua,ub,uc] 41)∧W.heap[w.heap.size+1]?=some (.cells #[va,vb,vc] 41) from by
  obtain ⟨q,rfl⟩:=h;exact ⟨hx,hy⟩
 have HB:=Lib.hid fun (W:World) (h:∃ q,W=W2.drewN q)=>show Below w.heap.size w W from by
  obtain ⟨q,rfl⟩:=h;exact below_drewN hB q
 have C1:=Lib.hid (equal_sat (g1.below hB) (k1.below hB) s1);have C2:=Lib.hid fun (W:World) (h:∃ q,W=W2.drewN q)=>equal_sat (g2.below (HB.out W h)) (k2.below (HB.out W h)) s2;have C3:=Lib.hid fun (W:World) (h:∃ q,W=W2.drewN q)=>equal_sat (g3.below (HB.out W h)) (k3.below (HB.out W h)) s3;obtain ⟨p0,p1,p2⟩:=plBox_cells hx;obtain ⟨q0,q1,q2⟩:=plBox_cells hy;obtain ⟨ua1,ua2,ua3,rfl⟩:=g1.form;obtain ⟨ub1,ub2,ub3,rfl⟩:=g2.form;obtain ⟨uc1,uc2,uc3,rfl⟩:=g3.form;obtain ⟨va1,va2,va3,rfl⟩:=k1.form;obtain ⟨vb1,vb2,vb3,rfl⟩:=k2.form;obtain ⟨vc1,vc2,vc3,rfl⟩:=k3.form;rw [hW2] at p0 q0;have HW:=Lib.hid hW2;clear g1 g2 g3 k1 k2 k3 s1 s2 s3 hB hx hy hW2
 go_enter Tryz.func32,Tryz.ntmps32
 go_wp2_with fail
 rw [←HW.out];refine C1.out.mono ?_;rintro e w1 ⟨rfl,hq1⟩;obtain ⟨b1,b2⟩:=HX.out w1 hq1;obtain ⟨-,p1',p2'⟩:=plBox_cells b1;obtain ⟨-,q1',q2'⟩:=plBox_cells b2;have C2':=Lib.hid (C2.out w1 hq1);clear p0 p1 p2 q0 q1 q2 b1 b2
 go_wp2_with fail
 refine C2'.out.mono ?_;rintro e w2 ⟨rfl,hq2⟩;have hq3:∃ q,w2=W2.drewN q:=by
  obtain ⟨a,rfl⟩:=hq1;obtain ⟨b,rfl⟩:=hq2;exact ⟨a+b,by rw [World.drewN_drewN]⟩
 obtain ⟨b1,b2⟩:=HX.out w2 hq3;obtain ⟨-,p1'',p2''⟩:=plBox_cells b1;obtain ⟨-,q1'',q2''⟩:=plBox_cells b2;have C3':=Lib.hid (C3.out w2 hq3);have HB3:=Lib.hid (HB.out w2 hq3);clear p1' p2' q1' q2' b1 b2 hq1 hq2
 go_wp2_with fail
 refine C3'.out.mono ?_;rintro e w3 ⟨rfl,q,rfl⟩
 go_wp2
 go_ret
 exact ⟨rfl,below_drewN HB3.out q⟩
end Go.Proofs.YtlnaihkombcbcaaGreat
namespace Go.Proofs.YtlnaihkombcbcaaGreat
open Go.RowKit
theorem step_append_sat {P:Program} {ops:Array Oper} {o:Oper} {a:Act} {w:World} {K:Act→World→Prop} {Q:Exit→Act→World→Prop} {E:Prop}
 (hg:o.guard=none) (s x:Operand) (t:TypeId) (hop:o.op=Op.call { callee:=Callee.builtin Builtin.append,args:=#[s,x],argTypes:=#[t,t] })
 (base:Nat) (e:TypeId) (i:TypeInfo) (z:Value) (bytes:Nat) (ht:P.underlying t=some (.slice e)) (hi:P.info? e=some i) (hz:i.zero=some z) (hsize:i.size=1) (hby:i.bytes=bytes) (hzs:z.cells.size=1)
 (v:Value) (n:Nat) (xs:List Value) (hs:a.eval s=v) (hown:w.ownsRow base e 1 v n xs)
 (y:Value) (ss:List Str) (hx:a.eval x=y) (hy:SAt w y ss) (hf:y=.slice none 0 0∨∃ a n c,y=.slice (some a) n c)
 (h63:n+ss.length≤maxLen) (hbytes:(n+ss.length)*bytes≤140737488355328) (hbase:base≤w.heap.size)
 (hK:∀ v' w',w'.ownsRow base e 1 v' (n+ss.length) (xs++(ss.map bs).map Value.string)→w.grownBy w' v.ownBlock→K (a.put o.dst v') w') :
 if Region.wanted o (yielded ops a.tmps)=true then Oper.wp P o a w K Q else E:=by
 have hw:Region.wanted o (yielded ops a.tmps)=true:=by simp [Region.wanted,hg]
 rw [if_pos hw];have key:∃ v' w',(Builtin.append_ #[t,t] o.type #[v,y]).run P w=.ok v' w'∧w'.ownsRow base e 1 v' (n+ss.length) (xs++(ss.map bs).map Value.string)∧w.grownBy w' v.ownBlock:=by
  rcases hf with rfl | ⟨ad,m,c,rfl⟩
  ·have h0:ss=[]:=by
    rcases hy with ⟨h,-⟩ | ⟨b,off,cap,h,-⟩
    ·simpa using h
    ·cases h
   subst h0;exact ⟨v,w,run_append_owned_none w base t o.type e i 1 ht hi v n xs hown,by simpa using hown,⟨rfl,rfl,rfl,Nat.le_refl _,fun _ _ _=>rfl⟩⟩
  ·have hm:m=ss.length∧∀ j u,((ss.map bs).map Value.string)[j]?=some u→w.cell? (ad.add j)=some u:=by
    rcases hy with ⟨h,a',c',h2⟩ | ⟨b,off,cap,h2,-,-,h3⟩
    ·obtain rfl:ss=[]:=by simpa using h
     cases h2
     exact ⟨rfl,fun j u hj=>by simp at hj⟩
    ·cases h2
     refine ⟨by simp,fun j u hj=>?_⟩;obtain ⟨hj',rfl⟩:=List.getElem?_eq_some_iff.1 hj;rw [List.getElem_map];have:=h3 j (by simpa using hj');rw [show (⟨b,off,none⟩:Addr).add j=⟨b,off+j,none⟩ by simp [Addr.add]];exact this
   obtain ⟨rfl,hc⟩:=hm;obtain ⟨v',w',h1,h2,h3,-⟩:=run_append_own (P:=P) (w:=w) base t o.type e i z 1 bytes ht hi hz hsize hby hzs (by decide) v n xs hown ad ss.length c ((ss.map bs).map Value.string) (by simp) hc (by simp [Value.oneCell']) h63 hbytes hbase;exact ⟨v',w',h1,h2,h3⟩
 obtain ⟨v',w',hrun,r1,r2⟩:=key;unfold Oper.wp;simp [execOp,hop,resolve,invoke,builtin,hs,hx,hrun,Result.andThen];exact hK v' w' r1 r2
def Fw3 (B:Nat) (v1 v2 v3:Value) (w w':World):Prop:=w'.cell? ⟨B,0,none⟩=some v1∧w'.cell? ⟨B,1,none⟩=some v2∧w'.cell? ⟨B,2,none⟩=some v3∧Below B w w'∧B<w'.heap.size
theorem fw_start (w:World) (v1 v2 v3:Value) (t:TypeId):Fw3 w.heap.size v1 v2 v3 w (w.alloc (.cells #[v1,v2,v3] t)) :=
 ⟨by simp,by simp,by simp,below_alloc _ _,by simp⟩
theorem fw_step {B:Nat} {w w0 w1:World} {v1 v2 v3:Value} (h:Fw3 B v1 v2 v3 w w0) (hb:Below (B+1) w0 w1):Fw3 B v1 v2 v3 w w1 :=
 ⟨by rw [hb.cell (by simp)];exact h.1,by rw [hb.cell (by simp)];exact h.2.1,by rw [hb.cell (by simp)];exact h.2.2.1,h.2.2.2.1.trans (hb.mono (Nat.le_succ _)),Nat.lt_of_lt_of_le h.2.2.2.2 hb.size⟩
theorem owns_grown {B:Nat} {e:TypeId} {v:Value} {n:Nat} {xs:List Value} {w0 w1:World} (h:w0.ownsRow B e 1 v n xs) (hg:w0.grownBy w1 v.ownBlock) (hB:B≤w0.heap.size):Below B w0 w1 :=
 (Below.refl B w0).grown hg hB (fun g e=>(h.lt g e).1)
def smallB (l:List Str):Bool:=decide (l.length≤60)&&l.all fun x=>decide (x.length≤100)
set_option maxRecDepth 100000 in
set_option maxHeartbeats 2000000 in
theorem few18_any (v1 v2 v3:Value) (cls att fam:List Str) (w:World) (h1:SAt w v1 cls) (h2:SAt w v2 att) (h3:SAt w v3 fam) (f1:v1=.slice none 0 0∨∃ a n c,v1=.slice (some a) n c) (f2:v2=.slice none 0 0∨∃ a n c,v2=.slice (some a) n c) (f3:v3=.slice none 0 0∨∃ a n c,v3=.slice (some a) n c)
 (hl:cls.length+att.length+fam.length≤2000000) :
 Calls Tryz.prog 24 #[.agg #[v1,v2,v3]] w fun e w'=>e=.returned (.bool (smallB (cls++att++fam)))∧Below w.heap.size w w':=by
 obtain ⟨i0,hi,hz0,hz1,hz2⟩:=info_parts Tryz.infoS;obtain ⟨ll,hll⟩:∃ ll,cls++att++fam=ll:=⟨_,rfl⟩;rw [hll]
 go_enter Tryz.func24,Tryz.ntmps24
 have hO:(((w.alloc (.cells #[v1,v2,v3] 41)).alloc (.cells #[] 9)).drew).ownsRow (w.heap.size+1) 9 1 (.slice (some ⟨w.heap.size+1,0,none⟩) 0 0) 0 []:=by
  have:=World.ownsRow_lit (base:=w.heap.size+1) (e:=9) (size:=1) (w.alloc (.cells #[v1,v2,v3] 41)) #[] 0 (by simp) (by decide) rfl;rw [World.size_alloc] at this;exact this
 have hS1:SAt (((w.alloc (.cells #[v1,v2,v3] 41)).alloc (.cells #[] 9)).drew) v1 cls:=h1.below (Below.drew (Below.alloc (below_alloc _ _) (by simp) _));have hz:w.heap.size+1≤(((w.alloc (.cells #[v1,v2,v3] 41)).alloc (.cells #[] 9)).drew).heap.size:=by
  show w.heap.size+1≤((w.alloc _).alloc _).heap.size;simp
 have l1:0+cls.length≤maxLen:=by unfold maxLen;omega
 have l2:0+cls.length+att.length≤maxLen:=by unfold maxLen;omega
 have l3:(0+cls.length)*16≤140737488355328:=by omega
 have l4:(0+cls.length+att.length)*16≤140737488355328:=by omega
 have l5:0+cls.length+att.length+fam.length≤maxLen:=by unfold maxLen;omega
 have l6:(0+cls.length+att.length+fam.length)*16≤140737488355328:=by omega
 have hfin:∀ w',Below (w.heap.size+1) (((w.alloc (.cells #[v1,v2,v3] 41)).alloc (.cells #[] 9)).drew) w'→Below w.heap.size w w':=fun w' h=>(Below.drew (Below.alloc (below_alloc _ _) (by simp) _)).trans (h.mono (Nat.le_succ _));have HF:=Lib.hid hfin;clear hfin
 go_upto_region 1 with fail
 go_region_held3 (fun w'=>w'.cell? ⟨w.heap.size,0,none⟩=some v1∧w'.cell? ⟨w.heap.size,1,none⟩=some v2∧w'.cell? ⟨w.heap.size,2,none⟩=some v3∧Below w.heap.size w w'∧w.heap.size<w'.heap.size)
  (first | exact fw_start _ _ _ _ _ | exact fw_step (fw_start _ _ _ _ _) (Below.drew (Below.refl _ _)) | exact fw_step (fw_start _ _ _ _ _) (Below.drew (Below.alloc (Below.refl _ _) (by simp) _)) | exact fw_step (fw_step (fw_start _ _ _ _ _) (Below.drew (Below.alloc (Below.refl _ _) (by simp) _))) hBg | exact fw_step (fw_step (fw_start _ _ _ _ _) (Below.drew (Below.alloc (Below.refl _ _) (by simp) _))) (hBg.trans hBg2) | exact fw_step (fw_step (fw_start _ _ _ _ _) (Below.drew (Below.alloc (Below.refl _ _) (by simp) _))) ((hBg.trans hBg2).trans hBg3) | (trace_state;fail "keep"))
  ((first
    | (refine step_append_sat rfl (.tmp 5) (.tmp 7) 25 rfl (w.heap.size+1) 9 i0 (.string ByteArray.empty) 16 Tryz.underlying25 hi hz0 hz1 hz2 rfl _ 0 [] rfl hO v1 cls rfl hS1 f1 l1 l3 hz ?_
       intro v' w1 hown hgrow
       have hBg:=owns_grown hO hgrow hz)
    | (refine step_append_sat rfl (.tmp 8) (.tmp 10) 25 rfl (w.heap.size+1) 9 i0 (.string ByteArray.empty) 16 Tryz.underlying25 hi hz0 hz1 hz2 rfl _ _ _ rfl hown v2 att rfl (h2.below (HF.out _ hBg)) f2 l2 l4 (Nat.le_trans hz hBg.size) ?_
       intro v'' w2 hown2 hgrow2
       have hBg2:=owns_grown hown hgrow2 (Nat.le_trans hz hBg.size))
    | (refine step_append_sat rfl (.tmp 11) (.tmp 13) 25 rfl (w.heap.size+1) 9 i0 (.string ByteArray.empty) 16 Tryz.underlying25 hi hz0 hz1 hz2 rfl _ _ _ rfl hown2 v3 fam rfl (h3.below (HF.out _ (hBg.trans hBg2))) f3 l5 l6 (Nat.le_trans hz (hBg.trans hBg2).size) ?_
       intro v3' w3 hown3 hgrow3
       have hBg3:=owns_grown hown2 hgrow3 (Nat.le_trans hz (hBg.trans hBg2).size))
    | (trace_state;fail "tac")))
 rename_i hh;obtain ⟨-,-,-,hBw,-⟩:=hh;have hs:SAt w3 v3' (cls++att++fam):=owns_at (by simpa using hown3);have hsz:(cls++att++fam).length≤2000000:=by rw [List.length_append,List.length_append];exact hl
 rw [hll] at hs hsz;clear hgrow hgrow2 hgrow3 hown hown2 hown3 hBg hBg2 hBg3 HF hS1 hO hz h1 h2 h3 f1 f2 f3 l1 l2 l3 l4 l5 l6 hl hll;rcases hs with ⟨hnil,a,c,rfl⟩ | ⟨b,off,cap,rfl,hcap,hpos,hc⟩
 ·obtain rfl:ll=[]:=by simpa using hnil
  go_wp2
  go_loop [4] (fun i=>i=.int .i64 0) (fun i=>0)
  case atStart=>rfl
  case round =>
   subst hrel
   go_wp2
   go_ret
   exact ⟨ret_bool (by simp [smallB]),hBw⟩
 ·simp only [List.length_map] at hcap hpos ⊢
  have hcs:∀ j (hj:j<ll.length),w3.cell? ⟨b,off+j,none⟩=some (.string (bs ll[j])):=fun j hj=>by have:=hc j (by simpa using hj);simpa using this
  have HC:=Lib.hid hcs;clear hc hcs
  by_cases h60:ll.length≤60
  ·go_wp2
   go_loopw [2,4] (fun _ i wr=>∃ k:Nat,k≤ll.length∧i=.int .i64 k∧Hid ((ll.take k).all (fun x=>decide (x.length≤100))=true)∧wr=w3) (fun _ i _=>ll.length - (intOf i).toNat)
   case atStart=>exact ⟨0,Nat.zero_le _,rfl,Lib.hid (by simp),rfl⟩
   case round =>
    obtain ⟨k,hk,rfl,hall,rfl⟩:=hrel
    by_cases hlt:k<ll.length
    ·have hck:=HC.out k hlt
     have hsk:(bs ll[k]).size=ll[k].length:=bs_size _;have HALL:=Lib.hid (all_take_succ' (fun x:Str=>decide (x.length≤100)) ll k hlt);have HFALSE:=Lib.hid (all_false_at' (fun x:Str=>decide (x.length≤100)) ll k hlt);generalize bs ll[k]=sk at hck hsk
     by_cases h100:sk.size≤100
     ·go_wp2
      go_roundw
      case rel=>exact ⟨k+1,by omega,by go_num,Lib.hid (by rw [HALL.out,hall.out];simp;omega),trivial⟩
      case measure=>simp [intOf];omega
     ·go_wp2
      go_ret
      exact ⟨ret_bool (by rw [smallB,HFALSE.out (by simp;omega)];simp),hBw⟩
    ·have h9:=hall.out
     rw [List.take_of_length_le (by omega)] at h9;have H9:=Lib.hid h9;clear h9 hall
     go_wp2
     go_ret
     exact ⟨ret_bool (by rw [smallB,H9.out,Bool.and_true];exact decide_eq_decide.2 (by omega)),hBw⟩
  ·go_wp2
   go_loopw [2,4] (fun _ i wr=>i=.int .i64 0∧wr=w3) (fun _ i _=>0)
   case atStart=>exact ⟨rfl,rfl⟩
   case round =>
    obtain ⟨rfl,rfl⟩:=hrel
    go_wp2
    go_ret
    exact ⟨ret_bool (by rw [smallB,show decide (ll.length≤60)=false by simpa using h60,Bool.false_and];simp;omega),hBw⟩
theorem smallB_iff (l:List Str):smallB l=true↔l.length≤60∧∀ x∈l,x.length≤100:=by simp [smallB]
end Go.Proofs.YtlnaihkombcbcaaGreat
namespace Go.Proofs.YtlnaihkombcbcaaGreat
open Go.RowKit Go.Sort Go.Ev
theorem fin_small {L:List (List Itm)} (h:∀ l∈L,okSh l) (h4:L.length≤4) {s:S3} (hs:FinU (rulesOf L.flatten) s):smallS s:=by
 have hi:InU (rulesOf L.flatten) s:=⟨hs.1,fun i x hx=>(hs.2 i x).1 hx⟩;have h0:s.c.length≤240000:=small_len h h4 hi 0;have h1:s.f.length≤240000:=small_len h h4 hi 1;have h2:s.g.length≤240000:=small_len h h4 hi 2;exact ⟨by omega,by omega,by omega⟩
end Go.Proofs.YtlnaihkombcbcaaGreat
end
