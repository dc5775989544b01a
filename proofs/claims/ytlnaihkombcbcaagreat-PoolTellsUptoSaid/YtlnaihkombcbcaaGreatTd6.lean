/- pool.inner with Of's own function: all items are noted, and those within. -/
import Derived.Test.YtlnaihkombcbcaaGreatTd5
import Derived.Lib.SliceRun
import Derived.Deep.RegionHeld3
import Derived.BigQuiet
import Derived.Deep.CutRange
set_option linter.unusedSimpArgs false
noncomputable section
namespace Go.Proofs.YtlnaihkombcbcaaGreat
open Go.RowKit Go.Sort Go.Ev
theorem bsGo_in (less:Nat→Bool) (k n:Nat) (h1:∀ t,t<k→less t=true) (h2:∀ t,k≤t→t<n→less t=false):∀ (f lo hi:Nat),hi - lo≤f→lo≤k→k≤hi→hi≤n→Lib.bsGo less f lo hi=k
 | 0,lo,hi,hf,a,b,_=>by simp [Lib.bsGo];omega
 | f+1,lo,hi,hf,a,b,c=>by
   unfold Lib.bsGo
   by_cases h:lo<hi
   ·rw [if_pos h]
    by_cases hm:(lo+hi) / 2<k
    ·rw [h1 _ hm,if_pos rfl];exact bsGo_in less k n h1 h2 f _ _ (by omega) (by omega) b c
    ·rw [h2 _ (by omega) (by omega)];exact bsGo_in less k n h1 h2 f _ _ (by omega) a (by omega) (by omega)
   ·rw [if_neg h];omega
theorem posM_split {a b:List Str} {x:Str} (ha:∀ y∈a,y<x) (hb:∀ y∈b,¬y<x):posM (a++b) x=a.length:=by
 unfold posM;refine bsGo_in _ a.length (a++b).length (fun t ht=>?_) (fun t h1 h2=>?_) _ 0 _ (Nat.le_refl _) (Nat.zero_le _) (by simp) (Nat.le_refl _)
 ·rw [Proofs.bytesLess_eq,List.getD_eq_getElem?_getD,List.getElem?_append_left ht,List.getElem?_eq_getElem ht]
  exact decide_eq_true (ha _ (List.getElem_mem ht))
 ·have ht:t - a.length<b.length:=by simp at h2;omega
  rw [Proofs.bytesLess_eq,List.getD_eq_getElem?_getD,List.getElem?_append_right h1,List.getElem?_eq_getElem ht];exact decide_eq_false (hb _ (List.getElem_mem ht))
theorem split_rise (x:Str):∀ {ss:List Str},risesB ss→∃ a b,ss=a++b∧(∀ y∈a,y<x)∧∀ y∈b,¬y<x
 | [],_=>⟨[],[],rfl,by simp,by simp⟩
 | y :: r,h=>by
   obtain ⟨h1,h2⟩:=List.pairwise_cons.1 h
   by_cases hy:y<x
   ·obtain ⟨a,b,rfl,ha,hb⟩:=split_rise x h2
    exact ⟨y::a,b,rfl,fun z hz=>by
     rcases List.mem_cons.1 hz with rfl | hz
     ·exact hy
     ·exact ha z hz,hb⟩
   ·refine ⟨[],y::r,rfl,by simp,fun z hz=>?_⟩
    rcases List.mem_cons.1 hz with rfl | hz
    ·exact hy
    ·exact fun hzx=>hy (List.lt_trans (h1 z hz) hzx)
theorem put_rises {ss:List Str} (x:Str) (h:risesB ss):(hasM ss x=true↔x∈ss)∧(∀ y,y∈putM ss x↔y=x∨y∈ss)∧risesB (putM ss x):=by
 obtain ⟨a,b,rfl,ha,hb⟩:=split_rise x h;have hp:=posM_split ha hb;have hxa:x∉a:=fun e=>List.lt_irrefl _ (ha x e);have hx:hasM (a++b) x=true↔x∈a++b:=by
  unfold hasM;rw [hp,decide_eq_true_iff]
  cases b with
  | nil=>simp [hxa]
  | cons z b =>
    have hz:(a++z::b).getD a.length []=z:=by simp
    rw [hz]
    constructor
    ·rintro ⟨-,rfl⟩;simp
    ·intro hm
     rcases List.mem_append.1 hm with e | e
     ·exact absurd e hxa
     ·refine ⟨by simp,?_⟩
      rcases List.mem_cons.1 e with e | e
      ·exact e.symm
      ·exact absurd ((List.pairwise_cons.1 (List.pairwise_append.1 h).2.1).1 x e) (hb z List.mem_cons_self)
 refine ⟨hx,?_⟩;unfold putM
 by_cases hh:hasM (a++b) x=true
 ·rw [if_pos hh]
  exact ⟨fun y=>⟨.inr,fun e=>e.elim (fun e=>e▸hx.1 hh) id⟩,h⟩
 ·rw [if_neg hh,hp,List.take_left' rfl,List.drop_left' rfl]
  refine ⟨fun y=>?_,?_⟩
  ·simp only [List.mem_append,List.mem_singleton]
   constructor
   ·rintro ((h | h) | h)
    ·exact .inr (.inl h)
    ·exact .inl h
    ·exact .inr (.inr h)
   ·rintro (h | h | h)
    ·exact .inl (.inr h)
    ·exact .inl (.inl h)
    ·exact .inr h
  ·obtain ⟨h1,h2,h3⟩:=List.pairwise_append.1 h
   refine List.pairwise_append.2 ⟨List.pairwise_append.2 ⟨h1,List.pairwise_singleton _ _,fun y hy z hz=>?_⟩,h2,fun y hy z hz=>?_⟩
   ·rw [List.mem_singleton.1 hz];exact ha y hy
   ·rcases List.mem_append.1 hy with hy | hy
    ·exact h3 y hy z hz
    ·obtain rfl:=List.mem_singleton.1 hy
     exact str_lt (List.not_lt.1 (hb z hz)) (fun e=>hh (hx.2 (List.mem_append.2 (.inr (e▸hz)))))
theorem has_rises {ss:List Str} (x:Str) (h:risesB ss):hasM ss x=true↔x∈ss:=(put_rises x h).1
theorem add_rises:∀ (xs:List Str) {ss:List Str},risesB ss→risesB (addM ss xs)∧∀ y,y∈addM ss xs↔y∈ss∨y∈xs
 | [],ss,h=>⟨h,fun y=>by simp [addM]⟩
 | x::xs,ss,h=>by
   obtain ⟨-,h2,h3⟩:=put_rises x h;obtain ⟨h4,h5⟩:=add_rises xs h3;refine ⟨h4,fun y=>?_⟩;rw [show addM ss (x::xs)=addM (putM ss x) xs from rfl,h5,h2,List.mem_cons]
   constructor
   ·rintro ((h | h) | h)
    ·exact .inr (.inl h)
    ·exact .inl h
    ·exact .inr (.inr h)
   ·rintro (h | h | h)
    ·exact .inl (.inr h)
    ·exact .inl (.inl h)
    ·exact .inr h
theorem addM_stay:∀ (xs ss:List Str),(addM ss xs).length≤ss.length→addM ss xs=ss
 | [],_,_=>rfl
 | x::xs,ss,h=>by
   have h1:=putM_len ss x;have h2:=addM_len (putM ss x) xs;rw [show addM ss (x::xs)=addM (putM ss x) xs from rfl] at h ⊢
   by_cases hh:hasM ss x=true
   ·have e:putM ss x=ss:=by unfold putM;rw [if_pos hh]
    rw [e] at h ⊢;exact addM_stay xs ss h
   ·rw [if_neg hh] at h1;omega
structure Ru where
 gd:Option (Nat×Str)
 c:List Str
 f:List Str
 g:List Str
def S3.at (s:S3):Nat→List Str
 | 0=>s.c
 | 1=>s.f
 | _=>s.g
def Ru.at (r:Ru):Nat→List Str
 | 0=>r.c
 | 1=>r.f
 | _=>r.g
def gdB (s:S3) (r:Ru):Bool:=match r.gd with
 | none=>true
 | some (k,y)=>hasM (s.at k) y
def stepR (s:S3) (r:Ru):S3:=if gdB s r=true then ⟨addM s.c r.c,addM s.f r.f,addM s.g r.g⟩ else s
theorem step_at (s:S3) (r:Ru) (i:Nat):(stepR s r).at i=if gdB s r=true then addM (s.at i) (r.at i) else s.at i:=by
 unfold stepR
 split
 ·match i with
  | 0=>rfl
  | 1=>rfl
  | _+2=>rfl
 ·rfl
theorem S3.ext_at {s t:S3} (h:∀ i,s.at i=t.at i):s=t:=by
 obtain ⟨a,b,c⟩:=s;obtain ⟨x,y,z⟩:=t;have h0:a=x:=h 0;have h1:b=y:=h 1;have h2:c=z:=h 2;rw [h0,h1,h2]
def ruD (n:ByteArray) (l:List Vl):Ru:=⟨if customB n=true then some (0,sOf n) else none,rfN l,if frB n=true then ofM 1 l else [],if faB n=true then vN l else []⟩
theorem declM_step (s:S3) (n:ByteArray) (l:List Vl):declM s n l=stepR s (ruD n l):=by
 have h1:addM s.f (if frB n=true then ofM 1 l else [])=if frB n=true then addM s.f (ofM 1 l) else s.f:=by split <;> rfl
 have h2:addM s.g (if faB n=true then vN l else [])=if faB n=true then addM s.g (vN l) else s.g:=by split <;> rfl
 unfold declM stepR ruD gdB;dsimp only;rw [h1,h2]
 cases hc:customB n
 ·simp
 ·simp only [if_true]
  show _=if hasM s.c (sOf n)=true then _ else _
  cases hh:hasM s.c (sOf n) <;> simp
def ruF (n:ByteArray) (l:List Vl):Ru:=⟨some (1,sOf n),rfN l,[],vN l⟩
def ruN (l:List Vl):List ByteArray→List Ru
 | [n]=>[ruF n l]
 | _=>[]
def ruI (x:Itm):List Ru:=if x.kind=1 then x.decls.map (fun d=>ruD d.name d.l) else if x.kind=5 then ruN x.vals x.names else []
def itemM (s:S3) (x:Itm):S3:=(ruI x).foldl stepR s
mutual
def flatI:Itm→List Itm
 | .mk k s d n mn mx v l=>.mk k s d n mn mx v l::(if k=2∨k=3 then flatIs l else [])
def flatIs:List Itm→List Itm
 | []=>[]
 | x::xs=>flatI x++flatIs xs
end
theorem flatI_eq (x:Itm):flatI x=x::(if x.kind=2∨x.kind=3 then flatIs x.l else []):=by cases x;rw [flatI];rfl
theorem flatIs_append:∀ (a b:List Itm),flatIs (a++b)=flatIs a++flatIs b
 | [],b=>by rw [List.nil_append,show flatIs []=[] by rw [flatIs],List.nil_append]
 | x::a,b=>by rw [List.cons_append,flatIs,flatIs,flatIs_append a b,List.append_assoc]
theorem flatIs_snoc {l:List Itm} {k:Nat} (hk:k<l.length):flatIs (l.take (k+1))=flatIs (l.take k)++flatI l[k]:=by
 rw [List.take_succ_eq_append_getElem hk,flatIs_append]
 congr 1
 rw [flatIs,show flatIs []=[] by rw [flatIs],List.append_nil]
def rulesOf (l:List Itm):List Ru:=(flatIs l).flatMap ruI
def passM (s:S3) (l:List Itm):S3:=(flatIs l).foldl itemM s
theorem pass_rules (s:S3) (l:List Itm):passM s l=(rulesOf l).foldl stepR s:=by
 rw [passM,rulesOf,List.foldl_flatMap]
 rfl
def Up (s t:S3):Prop:=(∀ i,(s.at i).length≤(t.at i).length)∧((∀ i,(t.at i).length≤(s.at i).length)→t=s)
theorem Up.refl (s:S3):Up s s:=⟨fun _=>Nat.le_refl _,fun _=>rfl⟩
theorem Up.trans {s t u:S3} (h:Up s t) (k:Up t u):Up s u:=by
 refine ⟨fun i=>Nat.le_trans (h.1 i) (k.1 i),fun hu=>?_⟩;have e1:t=s:=h.2 fun i=>Nat.le_trans (k.1 i) (hu i);subst e1;exact k.2 hu
theorem up_step (s:S3) (r:Ru):Up s (stepR s r):=by
 refine ⟨fun i=>?_,fun h=>S3.ext_at fun i=>?_⟩
 ·rw [step_at];split
  ·exact (addM_len _ _).1
  ·exact Nat.le_refl _
 ·have hi:=h i
  rw [step_at] at hi ⊢
  split
  ·rename_i hg
   rw [if_pos hg] at hi;exact addM_stay _ _ hi
  ·rfl
theorem up_fold:∀ (R:List Ru) (s:S3),Up s (R.foldl stepR s)
 | [],s=>Up.refl s
 | r::R,s=>(up_step s r).trans (up_fold R _)
theorem fold_fix:∀ (R:List Ru) (s:S3),R.foldl stepR s=s→∀ r∈R,stepR s r=s
 | [],_,_,r,hr=>by simp at hr
 | r0::R,s,h,r,hr=>by
   have e:stepR s r0=s:=(up_step s r0).2 fun i=>by
    have:=(up_fold R (stepR s r0)).1 i;rw [List.foldl_cons] at h;rw [h] at this;exact this
   rcases List.mem_cons.1 hr with rfl | hr
   ·exact e
   ·rw [List.foldl_cons,e] at h
    exact fold_fix R s h r hr
theorem grew_false {s t:S3} (hu:Up s t) (h:grewB s t=false):t=s:=hu.2 fun i=>by
 simp only [grewB,Bool.or_eq_false_iff,decide_eq_false_iff_not,Nat.not_lt] at h
 match i with
 | 0=>exact h.1.1
 | 1=>exact h.1.2
 | _+2=>exact h.2
def totM (s:S3):Nat:=s.c.length+s.f.length+s.g.length
theorem grew_true {s t:S3} (hu:Up s t) (h:grewB s t=true):totM s<totM t:=by
 have h0:s.c.length≤t.c.length:=hu.1 0;have h1:s.f.length≤t.f.length:=hu.1 1;have h2:s.g.length≤t.g.length:=hu.1 2;simp only [grewB,Bool.or_eq_true,decide_eq_true_eq] at h;unfold totM;omega
theorem grew_or {s t u:S3} (h:Up s t) (k:Up t u):grewB s u=(grewB t u||grewB s t):=by
 have h0:s.c.length≤t.c.length:=h.1 0;have h1:s.f.length≤t.f.length:=h.1 1;have h2:s.g.length≤t.g.length:=h.1 2;have k0:t.c.length≤u.c.length:=k.1 0;have k1:t.f.length≤u.f.length:=k.1 1;have k2:t.g.length≤u.g.length:=k.1 2;rw [Bool.eq_iff_iff];simp only [grewB,Bool.or_eq_true,decide_eq_true_eq];omega
inductive Us (R:List Ru):Nat→Str→Prop where
 | free (r:Ru) (hr:r∈R) (hg:r.gd=none) (i:Nat) (x:Str) (hx:x∈r.at i):Us R i x
 | held (r:Ru) (hr:r∈R) (k:Nat) (y:Str) (hg:r.gd=some (k,y)) (hy:Us R k y) (i:Nat) (x:Str) (hx:x∈r.at i):Us R i x
theorem us_mono {R R':List Ru} (h:∀ r∈R,r∈R') {i:Nat} {x:Str} (hx:Us R i x):Us R' i x:=by
 induction hx with
 | free r hr hg i x hx=>exact .free r (h r hr) hg i x hx
 | held r hr k y hg _ i x hx ih=>exact .held r (h r hr) k y hg ih i x hx
theorem us_out {R:List Ru} {i:Nat} {x:Str} (h:Us R i x):x∈R.flatMap fun r=>r.at i:=by
 cases h with
 | free r hr hg _ _ hx=>exact List.mem_flatMap.2 ⟨r,hr,hx⟩
 | held r hr k y hg _ _ _ hx=>exact List.mem_flatMap.2 ⟨r,hr,hx⟩
def InU (R:List Ru) (s:S3):Prop:=(∀ i,risesB (s.at i))∧∀ i x,x∈s.at i→Us R i x
theorem inU_nil (R:List Ru):InU R ⟨[],[],[]⟩:=by
 have h:∀ i,(S3.mk [] [] []).at i=[]:=fun i=>match i with
  | 0=>rfl
  | 1=>rfl
  | _+2=>rfl
 exact ⟨fun i=>by rw [h];exact List.Pairwise.nil,fun i x hx=>by rw [h] at hx;simp at hx⟩
theorem inU_step {R:List Ru} {r:Ru} (hr:r∈R) {s:S3} (h:InU R s):InU R (stepR s r):=by
 refine ⟨fun i=>?_,fun i x hx=>?_⟩
 ·rw [step_at];split
  ·exact (add_rises _ (h.1 i)).1
  ·exact h.1 i
 ·rw [step_at] at hx
  split at hx
  ·rename_i hg
   rcases ((add_rises _ (h.1 i)).2 x).1 hx with hx | hx
   ·exact h.2 i x hx
   ·unfold gdB at hg
    split at hg
    ·rename_i e;exact .free r hr e i x hx
    ·rename_i k y e;exact .held r hr k y e (h.2 k y ((has_rises y (h.1 k)).1 hg)) i x hx
  ·exact h.2 i x hx
theorem inU_fold {R:List Ru}:∀ (Q:List Ru) {s:S3},(∀ r∈Q,r∈R)→InU R s→InU R (Q.foldl stepR s)
 | [],_,_,h=>h
 | r::Q,_,hq,h=>inU_fold Q (fun r hr=>hq r (List.mem_cons_of_mem _ hr)) (inU_step (hq r List.mem_cons_self) h)
theorem inU_len {R:List Ru} {s:S3} (h:InU R s) (i:Nat):(s.at i).length≤(R.flatMap fun r=>r.at i).length :=
 nodup_sub_len (rises_nodup (h.1 i)) fun x hx=>us_out (h.2 i x hx)
def FinU (R:List Ru) (s:S3):Prop:=(∀ i,risesB (s.at i))∧∀ i x,x∈s.at i↔Us R i x
theorem fin_of {R:List Ru} {s:S3} (h:InU R s) (hf:∀ r∈R,stepR s r=s):FinU R s:=by
 refine ⟨h.1,fun i x=>⟨h.2 i x,fun hx=>?_⟩⟩;have key:∀ r∈R,gdB s r=true→∀ i x,x∈r.at i→x∈s.at i:=fun r hr hg i x hx=>by
  have e:(stepR s r).at i=s.at i:=congrArg (fun t=>S3.at t i) (hf r hr);rw [step_at,if_pos hg] at e;rw [←e];exact ((add_rises _ (h.1 i)).2 x).2 (.inr hx)
 induction hx with
 | free r hr hg i x hx=>exact key r hr (by rw [gdB,hg]) i x hx
 | held r hr k y hg _ i x hx ih=>exact key r hr (by rw [gdB,hg];exact (has_rises y (h.1 k)).2 ih) i x hx
theorem fin_same {R R':List Ru} {s s':S3} (h:FinU R s) (h':FinU R' s') (he:∀ r,r∈R↔r∈R'):s=s' :=
 S3.ext_at fun i=>rises_unique (h.1 i) (h'.1 i) fun x=>by
  rw [h.2,h'.2];exact ⟨us_mono fun r hr=>(he r).1 hr,us_mono fun r hr=>(he r).2 hr⟩
section
variable {w:World}
theorem src_gen {cs:List AV} {n sz:Nat} {v:Value} (hcell:cs.all isCell=true) (hlen:cs.length=n*sz) (hv:At w (.sl n sz cs) v):∃ news,Ats w cs news∧SrcN w v n sz news:=by
 obtain ⟨ad,cap,rfl,-,h⟩:=hv
 by_cases h0:n=0
 ·subst h0
  obtain rfl:cs=[]:=List.eq_nil_of_length_eq_zero (by omega);refine ⟨[],by rw [Ats,VRs],?_⟩
  cases ad with
  | none=>exact .inl ⟨_,rfl,rfl,rfl⟩
  | some a=>exact .inr ⟨_,_,rfl,by simp,by simp,by simp⟩
 ·rcases h with h | ⟨rb,ro,rfl,hr⟩
  ·exact absurd h h0
  ·obtain ⟨vs,h1,h2⟩:=row_vals hr
   refine ⟨vs,h2,.inr ⟨_,_,rfl,by rw [VRs.len h2,hlen],fun j u hj=>?_,VRs.oneCells h2 hcell⟩⟩;rw [Addr.add_lit];exact h1 j u hj
end
theorem cells_encI (x:Itm):(encI x).all isCell=true:=by cases x;rw [encI];rfl
theorem cells_flatI:∀ (l:List Itm),(l.flatMap encI).all isCell=true
 | []=>rfl
 | x::l=>by rw [List.flatMap_cons,List.all_append,cells_encI,cells_flatI l];rfl
theorem len_flatI:∀ (l:List Itm),(l.flatMap encI).length=l.length*8
 | []=>rfl
 | x::l=>by rw [List.flatMap_cons,List.length_append,encI_len,len_flatI l,List.length_cons];omega
theorem pcs_sum {w:World}:∀ (L:List (List Itm)) (ps:List Pc),ps.length=L.length→(∀ k (hk:k<L.length) (hp:k<ps.length),ps[k].m=L[k].length∧Ats w (L[k].flatMap encI) ps[k].news)→sumM ps=L.flatten.length∧Ats w (L.flatten.flatMap encI) (allN ps)
 | [],[],_,_=>⟨rfl,by show VRs w _ [] [];rw [VRs]⟩
 | [],_::_,h,_=>by simp at h
 | _::_,[],h,_=>by simp at h
 | l::L,p::ps,h,hk=>by
   obtain ⟨h1,h2⟩:=pcs_sum L ps (by simpa using h) fun k hk1 hk2=>by
    have:=hk (k+1) (by simpa using hk1) (by simpa using hk2);simpa using this
   obtain ⟨h3,h4⟩:=hk 0 (by simp) (by simp);have h3:p.m=l.length:=h3;have h4:Ats w (l.flatMap encI) p.news:=h4;refine ⟨?_,?_⟩
   ·simp only [sumM,List.map_cons,List.sum_cons,List.flatten_cons,List.length_append] at h1 ⊢
    omega
   ·rw [List.flatten_cons,List.flatMap_append]
    exact h4.append h2
theorem pcs_of {w:World} {L:List (List Itm)} {v:Value} (hv:At w (.sl L.length 1 (L.flatMap encSh)) v):∃ ps,PcAt w v ps 8∧ps.length=L.length∧sumM ps=L.flatten.length∧Ats w (L.flatten.flatMap encI) (allN ps):=by
 rcases slB_cells encSh 1 (fun _=>rfl) (by decide) (At.toB hv) with ⟨rfl,ad,cap,rfl⟩ | ⟨b,o,cap,rfl,hcap,hpos,hbz,hc⟩
 ·exact ⟨[],⟨.inl ⟨rfl,_,_,rfl⟩,by simp⟩,rfl,rfl,by show VRs w _ [] [];rw [VRs]⟩
 ·have key:∀ k:Fin L.length,∃ p:Pc,w.cell? ⟨b,o+k.1,none⟩=some p.v∧SrcN w p.v p.m 8 p.news∧p.m=L[k.1].length∧Ats w (L[k.1].flatMap encI) p.news:=fun k=>by
   obtain ⟨x,e0,v0⟩:=hc k.1 k.2 0 _ rfl;simp only [Nat.add_zero,Nat.mul_one] at e0;obtain ⟨news,h1,h2⟩:=src_gen (cells_flatI _) (len_flatI _) (AtB.toAt v0 (Nat.le_refl _));exact ⟨⟨x,L[k.1].length,news⟩,e0,h2,rfl,h1⟩
  let ps:List Pc:=List.ofFn fun k:Fin L.length=>(key k).choose
  have hlen:ps.length=L.length:=by simp [ps]
  have hget:∀ k (hk:k<L.length) (hp:k<ps.length),ps[k]=(key ⟨k,hk⟩).choose:=fun k hk hp=>by simp [ps]
  have hsum:=pcs_sum L ps hlen fun k hk hp=>by
   rw [hget k hk hp];exact (key ⟨k,hk⟩).choose_spec.2.2
  refine ⟨ps,⟨.inr ⟨b,o,cap,by rw [hlen],by omega,fun k hp=>?_⟩,fun p hp=>?_⟩,hlen,hsum.1,hsum.2⟩
  ·have hk:k<L.length:=by omega
   rw [hget k hk hp];exact (key ⟨k,hk⟩).choose_spec.1
  ·obtain ⟨k,hk,rfl⟩:=List.getElem_of_mem hp
   have hk':k<L.length:=by omega
   rw [hget k hk' hk];exact (key ⟨k,hk'⟩).choose_spec.2.1
theorem contains_bs (c:List Str) (x:ByteArray):Lib.containsS (c.map bs) x=c.contains (sOf x):=by
 rw [Bool.eq_iff_iff,Lib.containsS_iff,List.contains_iff_mem,List.mem_map]
 constructor
 ·rintro ⟨y,hy,rfl⟩;exact hy
 ·exact fun h=>⟨_,h,rfl⟩
theorem contains_sat {w:World} {v:Value} {c:List Str} (h:SAt w v c) (x:ByteArray) (hl:c.length≤1000000) :
 Calls Tryz.prog 115 #[v,.string x] w fun e w'=>e=.returned (.bool (c.contains (sOf x)))∧w'=w:=by
 rcases h with ⟨h0,a,cc,rfl⟩ | ⟨b,off,cap,rfl,h1,h2,h3⟩
 ·obtain rfl:c=[]:=by simpa using h0
  refine (Tryz.slices_Contains_string_empty a cc x w).mono ?_;rintro e w' ⟨rfl,rfl⟩;exact ⟨rfl,rfl⟩
 ·have hc:∀ j,j<(c.map bs).length→w.cell? ⟨b,off+j,none⟩=some (.string ((c.map bs).getD j ByteArray.empty)):=fun j hj=>by
   rw [h3 j hj,List.getD_eq_getElem?_getD,List.getElem?_eq_getElem hj];rfl
  refine (Tryz.slices_Contains_string b off (c.map bs).length cap (c.map bs) x w (Nat.le_refl _) (by rw [List.length_map];omega) hc).mono ?_;rintro e w' ⟨rfl,rfl⟩;exact ⟨by rw [List.take_length,contains_bs],rfl⟩
def kpD (c:List Str) (d:Dl):Bool:=!(customB d.name&&!c.contains (sOf d.name))
structure Dc where
 d:Dl
 ad:Option Addr
 cp:Nat
def Dc.v (x:Dc):Value:=.agg #[.string x.d.name,.slice x.ad x.d.l.length x.cp,.bool x.d.imp]
def Dc.vs (x:Dc):List Value:=[.string x.d.name,.slice x.ad x.d.l.length x.cp,.bool x.d.imp]
def Tri (W:World) (g t:Nat) (x:Dc):Prop:=W.cell? ⟨g,t*3,none⟩=some (.string x.d.name)∧W.cell? ⟨g,t*3+1,none⟩=some (.slice x.ad x.d.l.length x.cp)∧W.cell? ⟨g,t*3+2,none⟩=some (.bool x.d.imp)
theorem Tri.below {W W':World} {g t:Nat} {x:Dc} (h:Tri W g t x) (hb:Below W.heap.size W W'):Tri W' g t x:=⟨cell_up h.1 hb,cell_up h.2.1 hb,cell_up h.2.2 hb⟩
def PrAt (c:List Str) (Bp z0:Nat) (w:World):Prop:=∃ va,∀ W,Below z0 w W→W.cell? ⟨Bp,0,none⟩=some va∧SAt W va c
theorem PrAt.step {c:List Str} {Bp z0:Nat} {w w':World} (h:PrAt c Bp z0 w) (hb:Below z0 w w'):PrAt c Bp z0 w':=by
 obtain ⟨va,h⟩:=h;exact ⟨va,fun W hW=>h W (hb.trans hW)⟩
set_option maxRecDepth 100000 in
theorem pred_any {c:List Str} {Bp z0:Nat} {w:World} (h:PrAt c Bp z0 w) (hl:c.length≤1000000) (hz:z0≤w.heap.size) (x:Dc) :
 Calls Tryz.prog 142 #[x.v,.pointer (some ⟨Bp,0,none⟩)] w fun e w'=>e=.returned (.bool (!kpD c x.d))∧Below w.heap.size w w':=by
 obtain ⟨va,h⟩:=h;unfold Dc.v;have hb:=below_alloc w (.cells #[.string x.d.name,.slice x.ad x.d.l.length x.cp,.bool x.d.imp] 134);obtain ⟨hva,hsa⟩:=h _ (hb.mono hz);have HC:=Lib.hid (contains_sat hsa x.d.name hl);have HB:=Lib.hid hb;obtain ⟨va0,va1,va2,rfl⟩:=hsa.form;have HK:Hid ((!kpD c x.d)=(customB x.d.name&&!c.contains (sOf x.d.name))):=Lib.hid (by rw [kpD,Bool.not_not]);clear h hb hsa;generalize (!kpD c x.d)=r at *;generalize x.d.name=nm at *;generalize x.d.l.length=n at *;generalize x.d.imp=im at *
 cases hcu:customB nm
 ·have HR:Hid (r=false):=Lib.hid (by rw [HK.out,hcu];rfl)
  clear HK
  go_enter Tryz.func142,Tryz.ntmps142
  go_wp2_with fail
  refine (custom_any nm _).mono ?_;rintro e w1 ⟨rfl,rfl⟩;rw [hcu]
  go_wp2
  go_ret
  exact ⟨by rw [HR.out];rfl,HB.out⟩
 ·have HR:Hid (r=!c.contains (sOf nm)):=Lib.hid (by rw [HK.out,hcu];rfl)
  clear HK;generalize c.contains (sOf nm)=q at *
  go_enter Tryz.func142,Tryz.ntmps142
  go_wp2_with fail
  refine (custom_any nm _).mono ?_;rintro e w1 ⟨rfl,rfl⟩;rw [hcu]
  go_wp2_with fail
  refine HC.out.mono ?_;rintro e w1 ⟨rfl,rfl⟩
  go_wp2
  go_ret
  exact ⟨by rw [HR.out];cases q <;> rfl,HB.out⟩
def IdxPost (p:Dc→Bool) (ds:List Dc) (w:World) (e:Ending) (w':World):Prop :=
 ∃ i:Int,e=.returned (.int .i64 i)∧Hid ((i=-1∧∀ x∈ds,p x=true)∨∃ (k:Nat) (hk:k<ds.length),i=k∧p ds[k]=false∧∀ x∈ds.take k,p x=true)∧Below w.heap.size w w'
def prV (Bp:Nat):Value:=.func (.func 142) #[] #[.pointer (some ⟨Bp,0,none⟩)]
theorem all_take {p:Dc→Bool} {ds:List Dc} {k:Nat} (hk:k<ds.length) (h:∀ x∈ds.take k,p x=true) (hp:p ds[k]=true):∀ x∈ds.take (k+1),p x=true:=fun x hx=>by
 rw [List.take_succ_eq_append_getElem hk] at hx;rcases List.mem_append.1 hx with hx | hx
 ·exact h x hx
 ·rw [List.mem_singleton.1 hx];exact hp
set_option maxRecDepth 100000 in
set_option maxHeartbeats 1000000 in
theorem index_any {c:List Str} {Bp z0 g:Nat} {w:World} {ds:List Dc} (cap:Nat) (h:PrAt c Bp z0 w) (hl:c.length≤1000000) (hz:z0≤w.heap.size) (hn:ds.length≤1000000) (ht:∀ t (ht:t<ds.length),Tri w g t ds[t]) :
 Calls Tryz.prog 208 #[.slice (some ⟨g,0,none⟩) ds.length cap,prV Bp] w (IdxPost (fun x=>kpD c x.d) ds w):=by
 have HP:=Lib.hid fun (W:World) (hb:Below w.heap.size w W) x=>pred_any (h.step (hb.mono hz)) hl (Nat.le_trans hz hb.size) x;have HT:=Lib.hid fun (W:World) (hb:Below w.heap.size w W) t (h9:t<ds.length)=>(ht t h9).below hb;clear h ht hz;unfold prV
 go_enter Tryz.func208,Tryz.ntmps208
 go_wp2
 go_loopw [5,8] (fun _ i wr=>∃ k:Nat,k≤ds.length∧i=.int .i64 k∧Hid (Below w.heap.size w wr∧∀ x∈ds.take k,kpD c x.d=true)) (fun _ i _=>ds.length - (intOf i).toNat)
 case atStart=>exact ⟨0,Nat.zero_le _,rfl,Lib.hid ⟨Below.refl _ _,by simp⟩⟩
 case round =>
  obtain ⟨k,hk,rfl,HB⟩:=hrel
  by_cases hlt:k<ds.length
  ·obtain ⟨c0,c1,c2⟩:=HT.out wr HB.out.1 k hlt
   have HCL:=Lib.hid (HP.out wr HB.out.1 ds[k])
   cases hq:kpD c ds[k].d
   ·rw [hq] at HCL
    have HE:Hid (kpD c ds[k].d=false):=Lib.hid hq;clear hq;unfold Dc.v at HCL;generalize ds[k].d.name=nm at *;generalize ds[k].d.l.length=n at *;generalize ds[k].d.imp=im at *;generalize ds[k].ad=ad at *;generalize ds[k].cp=cp at *
    go_wp2_with fail
    refine HCL.out.mono ?_;rintro e w2 ⟨rfl,hB2⟩;clear c0 c1 c2
    go_wp2
    go_ret
    exact ⟨k,rfl,Lib.hid (.inr ⟨k,hlt,rfl,HE.out,HB.out.2⟩),bup HB.out.1 hB2⟩
   ·rw [hq] at HCL
    have HE:Hid (∀ x∈ds.take (k+1),kpD c x.d=true):=Lib.hid (all_take (p:=fun x:Dc=>kpD c x.d) hlt HB.out.2 hq);clear hq;unfold Dc.v at HCL;generalize ds[k].d.name=nm at *;generalize ds[k].d.l.length=n at *;generalize ds[k].d.imp=im at *;generalize ds[k].ad=ad at *;generalize ds[k].cp=cp at *
    go_wp2_with fail
    refine HCL.out.mono ?_;rintro e w2 ⟨rfl,hB2⟩;have HB2:=Lib.hid (bup HB.out.1 hB2);clear c0 c1 c2
    go_wp2
    go_roundw
    case rel=>exact ⟨k+1,by omega,by go_num,Lib.hid ⟨HB2.out,HE.out⟩⟩
    case measure=>simp [intOf];omega
  ·obtain rfl:k=ds.length:=by omega
   have hh:=HB.out;rw [List.take_length] at hh;have HH:=Lib.hid hh;clear hh
   go_wp2
   go_ret
   exact ⟨-1,rfl,Lib.hid (.inl ⟨rfl,HH.out.2⟩),HH.out.1⟩
theorem Tryz.infoDecl:(Tryz.prog.info? 134).map (fun i=>(i.zero,i.size,i.bytes))=some (some (.agg #[.string ByteArray.empty,.slice none 0 0,.bool false]),3,48):=by kernel_rfl
theorem cells_encD (x:Dl):(encD x).all isCell=true:=by cases x;rfl
theorem cells_flatD:∀ (l:List Dl),(l.flatMap encD).all isCell=true
 | []=>rfl
 | x::l=>by rw [List.flatMap_cons,List.all_append,cells_encD,cells_flatD l];rfl
theorem len_flatD:∀ (l:List Dl),(l.flatMap encD).length=l.length*3
 | []=>rfl
 | x::l=>by rw [List.flatMap_cons,List.length_append,encD_len,len_flatD l,List.length_cons];omega
theorem row_valsB {z:Nat} {w:World} {b:Nat}:∀ {cs:List AV} {o:Nat},RowR w ⟨fun _=>none,fun b=>b<z⟩ b o cs→∃ vs:List Value,(∀ j u,vs[j]?=some u→w.cell? ⟨b,o+j,none⟩=some u)∧VRs w ⟨fun _=>none,fun b=>b<z⟩ cs vs
 | [],o,_=>⟨[],by simp,by rw [VRs]⟩
 | a :: cs,o,h=>by
   obtain ⟨-,⟨v,h1,h2⟩,h3⟩:=h;obtain ⟨vs,h4,h5⟩:=row_valsB h3;refine ⟨v::vs,fun j u hj=>?_,VRs.cons_mk h2 h5⟩
   cases j with
   | zero=>simp at hj;subst hj;exact h1
   | succ j =>
     have:=h4 j u (by simpa using hj);rw [←this];congr 2;omega
theorem src_genB {z:Nat} {w:World} {cs:List AV} {n sz:Nat} {v:Value} (hcell:cs.all isCell=true) (hlen:cs.length=n*sz) (hv:AtB z w (.sl n sz cs) v):∃ news,VRs w ⟨fun _=>none,fun b=>b<z⟩ cs news∧SrcN w v n sz news:=by
 obtain ⟨ad,cap,rfl,-,h⟩:=hv
 by_cases h0:n=0
 ·subst h0
  obtain rfl:cs=[]:=List.eq_nil_of_length_eq_zero (by omega);refine ⟨[],by rw [VRs],?_⟩
  cases ad with
  | none=>exact .inl ⟨_,rfl,rfl,rfl⟩
  | some a=>exact .inr ⟨_,_,rfl,by simp,by simp,by simp⟩
 ·rcases h with h | ⟨rb,ro,rfl,hr⟩
  ·exact absurd h h0
  ·obtain ⟨vs,h1,h2⟩:=row_valsB hr
   refine ⟨vs,h2,.inr ⟨_,_,rfl,by rw [VRs.len h2,hlen],fun j u hj=>?_,VRs.oneCells h2 hcell⟩⟩;rw [Addr.add_lit];exact h1 j u hj
theorem dcs_of {z:Nat} {w:World}:∀ (ds:List Dl) (news:List Value),VRs w ⟨fun _=>none,fun b=>b<z⟩ (ds.flatMap encD) news →
 ∃ xs:List Dc,xs.map (·.d)=ds∧news=xs.flatMap Dc.vs∧∀ x∈xs,AtB z w (.sl x.d.l.length 5 (x.d.l.flatMap encV)) (.slice x.ad x.d.l.length x.cp)
 | [],news,h=>by
   rw [List.flatMap_nil,VRs] at h;exact ⟨[],rfl,h,by simp⟩
 | d::ds,news,h=>by
   rw [List.flatMap_cons] at h;obtain ⟨v0,r0,rfl,h0,v1,r1,rfl,h1,v2,r2,rfl,h2,h3⟩:=h;obtain rfl:v0=_:=h0;obtain rfl:v2=_:=h2;have h1':=h1;obtain ⟨ad,cp,rfl,-⟩:=AtB.sl_form h1;obtain ⟨xs,rfl,rfl,h4⟩:=dcs_of ds r2 h3;refine ⟨⟨d,ad,cp⟩::xs,rfl,rfl,fun x hx=>?_⟩;rcases List.mem_cons.1 hx with rfl | hx
   ·exact h1'
   ·exact h4 x hx
theorem flat_tri {xs:List Dc} {t:Nat} (ht:t<xs.length):(xs.flatMap Dc.vs)[t*3]?=some (.string xs[t].d.name)∧(xs.flatMap Dc.vs)[t*3+1]?=some (.slice xs[t].ad xs[t].d.l.length xs[t].cp)∧(xs.flatMap Dc.vs)[t*3+2]?=some (.bool xs[t].d.imp):=by
 induction xs generalizing t with
 | nil=>simp at ht
 | cons x xs ih =>
   cases t with
   | zero=>exact ⟨rfl,rfl,rfl⟩
   | succ t =>
     have:=ih (t:=t) (by simpa using ht);have e:∀ j,((x::xs).flatMap Dc.vs)[(t+1)*3+j]?=(xs.flatMap Dc.vs)[t*3+j]?:=fun j=>by
      rw [List.flatMap_cons,List.getElem?_append_right (by simp [Dc.vs];omega)]
      congr 1
      simp [Dc.vs];omega
     exact ⟨(e 0).trans this.1,(e 1).trans this.2.1,(e 2).trans this.2.2⟩
theorem flat_vs_len (xs:List Dc):(xs.flatMap Dc.vs).length=xs.length*3:=by
 induction xs with
 | nil=>rfl
 | cons x xs ih=>rw [List.flatMap_cons,List.length_append,ih,List.length_cons];simp [Dc.vs];omega
def RowC (z z0:Nat) (W:World) (v:Value) (ds:List Dl):Prop :=
 (ds=[]∧∃ a c,v=.slice a 0 c)∨∃ (g cap:Nat) (xs:List Dc),v=.slice (some ⟨g,0,none⟩) ds.length cap∧0<ds.length∧ds.length≤cap∧z0≤g∧g<W.heap.size∧xs.map (·.d)=ds∧(∀ t (ht:t<xs.length),Tri W g t xs[t]) ∧
   (∀ x∈xs,AtB z W (.sl x.d.l.length 5 (x.d.l.flatMap encV)) (.slice x.ad x.d.l.length x.cp))∧∀ o,o<ds.length*3→W.frozen? ⟨g,o,none⟩=false
set_option maxRecDepth 100000 in
set_option maxHeartbeats 1000000 in
theorem cloneD_any (z:Nat) (ds:List Dl) (v:Value) (w:World) (hz:z≤w.heap.size) (hv:AtB z w (.sl ds.length 3 (ds.flatMap encD)) v) (hl:ds.length≤1000000) :
 Calls Tryz.prog 141 #[v] w fun e w'=>∃ v',e=.returned v'∧RowC z w.heap.size w' v' ds∧Below w.heap.size w w':=by
 obtain ⟨i0,hi,hz0,hz1,hz2⟩:=info_parts Tryz.infoDecl;have q22:∀ (w:World) (a:Option Addr) (n c n' c':Nat),(binOp .eql 51 (.slice a n c) (.slice none n' c')).run Tryz.prog w=.ok (.bool a.isNone) w:=fun w a n c n' c'=>Lib.run_eql_slice_nil w _ _ a n c n' c' Tryz.underlying51;obtain ⟨na,hna,hsa⟩:=src_genB (cells_flatD ds) (len_flatD ds) hv;obtain ⟨ad,cap,rfl,hnc,h0⟩:=id hv
 cases ad with
 | none =>
   have hd:ds=[]:=by
    rcases h0 with h0 | ⟨rb,ro,h0,-⟩
    ·exact List.eq_nil_of_length_eq_zero h0
    ·cases h0
   subst hd;clear hv hna hsa
   go_enter Tryz.func141,Tryz.ntmps141
   go_wp2
   go_ret
   exact ⟨_,rfl,.inl ⟨rfl,_,_,rfl⟩,Below.refl _ _⟩
 | some a =>
   have HN:=Lib.hid hna;have hsz:=Nat.le_refl w.heap.size;have hsa2:=hsa.below ((Below.refl _ w).alloc hsz (.cells #[] 134));have hO:=World.ownsRow_lit (base:=w.heap.size) (e:=134) (size:=3) w #[] 0 hsz (by decide) rfl;clear hv hna hsa h0
   go_enter Tryz.func141,Tryz.ntmps141
   go_wp2_with (at_builtin;refine wpList_append_srcN rfl _ _ 51 rfl w.heap.size 134 i0 _ 3 48 Tryz.underlying51 hi hz0 hz1 hz2 rfl (by decide) (.slice (some ⟨w.heap.size,0,none⟩) 0 0) 0 _ rfl hO _ ds.length na rfl hsa2 (by unfold maxLen;omega) (by omega) (by simp) ?_)
   intro v4 w4 hown4 hgrow4;have hC4:Below w.heap.size w w4:=((Below.refl _ w).alloc hsz _).grown hgrow4 (by simp) (fun g e=>by cases e;exact hsz);have HO:=Lib.hid hown4;clear hown4 hgrow4 hO hsa2
   go_wp2
   go_ret
   refine ⟨_,rfl,?_,hC4⟩;have ho:w4.ownsRow w.heap.size 134 3 v4 ds.length na:=by simpa using HO.out
   obtain ⟨xs,h1,h2,h3⟩:=dcs_of ds na (VRs_keep (fun _ h=>h) (fun rb hr=>hC4.block rb (Nat.lt_of_lt_of_le hr hz)) _ HN.out)
   by_cases hd:ds=[]
   ·subst hd
    obtain ⟨a,c,rfl⟩:=owns_slice ho;exact .inl ⟨rfl,a,c,rfl⟩
   ·have hpos:0<ds.length:=List.length_pos_iff.2 hd
    rcases ho.2 with ⟨rfl,h0⟩ | ⟨g,cap,cur,rfl,hg,hh,hc,-,hfr,ht⟩
    ·omega
    ·have hxl:xs.length=ds.length:=by rw [←h1,List.length_map]
     have hgl:=(Array.getElem?_eq_some_iff.1 hh).1;have hcell:∀ i u,na[i]?=some u→w4.cell? ⟨g,i,none⟩=some u:=fun i u hu=>by
      rw [Lib.cell_of_heap hh];have hlt:i<ds.length*3:=by
       have:=(List.getElem?_eq_some_iff.1 hu).1;rw [h2,flat_vs_len] at this;omega
      rw [←ht,List.getElem?_take,if_pos hlt] at hu;simpa using hu
     refine .inr ⟨g,cap,xs,rfl,hpos,hc,hg,hgl,h1,fun t htl=>?_,h3,fun o _=>Lib.frozen_of_heap hh o⟩;obtain ⟨e0,e1,e2⟩:=flat_tri htl;rw [←h2] at e0 e1 e2;exact ⟨hcell _ _ e0,hcell _ _ e1,hcell _ _ e2⟩
section
variable {W:World} {g:Nat}
theorem set3_cell (o:Nat) (a b c:Value) (h0:(W.cell? ⟨g,o,none⟩).isSome=true) (h1:(W.cell? ⟨g,o+1,none⟩).isSome=true) (h2:(W.cell? ⟨g,o+2,none⟩).isSome=true) (j:Nat) :
 (((W.setCell ⟨g,o,none⟩ a).setCell ⟨g,o+1,none⟩ b).setCell ⟨g,o+2,none⟩ c).cell? ⟨g,j,none⟩=if j=o+2 then some c else if j=o+1 then some b else if j=o then some a else W.cell? ⟨g,j,none⟩:=by
 have e1:((W.setCell ⟨g,o,none⟩ a).cell? ⟨g,o+1,none⟩).isSome=true:=by rw [cell_set_at (o+1) a h0,if_neg (by omega)];exact h1
 have e2:(((W.setCell ⟨g,o,none⟩ a).setCell ⟨g,o+1,none⟩ b).cell? ⟨g,o+2,none⟩).isSome=true:=by
  rw [cell_set_at (o+2) b e1,if_neg (by omega),cell_set_at (o+2) a h0,if_neg (by omega)];exact h2
 rw [cell_set_at j c e2,cell_set_at j b e1,cell_set_at j a h0]
theorem below_setCellsB {z:Nat} {w0:World} (hg:z≤g):∀ (vs:List Value) (o:Nat) (w:World),Below z w0 w→Below z w0 (w.setCells g o vs)
 | [],_,_,h=>h
 | v::vs,o,_,h=>below_setCellsB hg vs (o+1) _ (h.setCell hg v)
theorem size_setCells:∀ (vs:List Value) (o:Nat) (w:World),(w.setCells g o vs).heap.size=w.heap.size
 | [],_,_=>rfl
 | v::vs,o,w=>by
   have:=size_setCells vs (o+1) (w.setCell ⟨g,o,none⟩ v);have h2:(w.setCell ⟨g,o,none⟩ v).heap.size=w.heap.size:=by simp [World.setCell]
   exact this.trans h2
end
theorem zero_one {a b c:Value} (ha:a.oneCell'=true) (hb:b.oneCell'=true) (hc:c.oneCell'=true) (n:Nat):∀ u∈(Builtin.zeroCells #[a,b,c] n).toList,u.oneCell'=true:=by
 intro u hu;simp only [Builtin.zeroCells,Array.toList_map,List.mem_map] at hu;obtain ⟨i,-,rfl⟩:=hu;have:i % 3=0∨i % 3=1∨i % 3=2:=by omega
 rcases this with h | h | h <;> (simp [h];assumption)
theorem run_clear_three {P:Program} (w:World) (t e ty:TypeId) (a b c:Value) (ht:P.underlying t=some (.slice e)) (hv:∀ w,(zeroValue e).run P w=.ok (.agg #[a,b,c]) w) (ha:a.oneCell'=true) (hb:b.oneCell'=true) (hc:c.oneCell'=true)
 (g o n cp:Nat) (hn:0<n) (hs:∀ j,j<n*3→(w.cell? ⟨g,o+j,none⟩).isSome=true) (hf:∀ j,j<n*3→w.frozen? ⟨g,o+j,none⟩=false) :
 (Builtin.clear_ #[t] ty #[.slice (some ⟨g,o,none⟩) n cp]).run P w=.ok (.tuple #[]) (w.setCells g o (Builtin.zeroCells #[a,b,c] n).toList):=by
 have hlen:(Builtin.zeroCells #[a,b,c] n).toList.length=n*3:=by simp [Builtin.zeroCells]
 have hst:=run_storeCells_cells (P:=P) g o (Builtin.zeroCells #[a,b,c] n).toList 0 w (by rw [hlen];simpa using hs) (by rw [hlen];simpa using hf) (zero_one ha hb hc n);simp only [Nat.add_zero] at hst;obtain ⟨m,rfl⟩:∃ m,n=m+1:=⟨n - 1,by omega⟩;have hcl:(Value.agg #[a,b,c]).cells=#[a,b,c]:=rfl;simp [Builtin.clear_,run_underlying ht,hv,hcl,hst]
def prF (c:List Str) (x:Dc):Bool:=kpD c x.d
structure DelSt (p:Dc→Bool) (xs:List Dc) (z0 g:Nat) (w:World) (j:Nat) (W:World):Prop where
 below:Below z0 w W
 lt:g<W.heap.size
 some:∀ o,o<xs.length*3→(W.cell? ⟨g,o,none⟩).isSome=true
 fr:∀ o,o<xs.length*3→W.frozen? ⟨g,o,none⟩=false
 done:∀ t (ht:t<((xs.take j).filter p).length),Tri W g t ((xs.take j).filter p)[t]
 rest:∀ t (ht:t<xs.length),j≤t→Tri W g t xs[t]
section
variable {p:Dc→Bool} {xs:List Dc} {z0 g j:Nat} {w W W':World}
theorem filter_succ (hj:j<xs.length):(xs.take (j+1)).filter p=(xs.take j).filter p++if p xs[j]=true then [xs[j]] else []:=by
 rw [List.take_succ_eq_append_getElem hj,List.filter_append]
 congr 1
 cases h:p xs[j] <;> simp [h]
theorem DelSt.grow (h:DelSt p xs z0 g w j W) (hb:Below W.heap.size W W') (hz:z0≤W.heap.size):DelSt p xs z0 g w j W' where
 below:=h.below.trans (hb.mono hz)
 lt:=Nat.lt_of_lt_of_le h.lt hb.size
 some o ho:=by rw [hb.cell (p:=⟨g,o,none⟩) h.lt];exact h.some o ho
 fr o ho:=by rw [hb.frozen (p:=⟨g,o,none⟩) h.lt];exact h.fr o ho
 done t ht:=(h.done t ht).below hb
 rest t ht hj:=(h.rest t ht hj).below hb
theorem DelSt.skip (h:DelSt p xs z0 g w j W) (hj:j<xs.length) (hp:p xs[j]=false):DelSt p xs z0 g w (j+1) W where
 below:=h.below
 lt:=h.lt
 some:=h.some
 fr:=h.fr
 done:=by
  have e:(xs.take (j+1)).filter p=(xs.take j).filter p:=by rw [filter_succ hj,hp];simp
  rw [e];exact h.done
 rest t ht hj:=h.rest t ht (by omega)
theorem DelSt.put (h:DelSt p xs z0 g w j W) (hj:j<xs.length) (hp:p xs[j]=true) (hlt:((xs.take j).filter p).length<j) (hg:z0≤g) {i:Nat} (hi:((xs.take j).filter p).length=i) :
 DelSt p xs z0 g w (j+1) (((W.setCell ⟨g,i*3,none⟩ (.string xs[j].d.name)).setCell ⟨g,i*3+1,none⟩ (.slice xs[j].ad xs[j].d.l.length xs[j].cp)).setCell ⟨g,i*3+2,none⟩ (.bool xs[j].d.imp)):=by
 have hc:=set3_cell (W:=W) (g:=g) (i*3) (.string xs[j].d.name) (.slice xs[j].ad xs[j].d.l.length xs[j].cp) (.bool xs[j].d.imp) (h.some _ (by omega)) (h.some _ (by omega)) (h.some _ (by omega));have hoth:∀ t x,t≠i→Tri W g t x→Tri (((W.setCell ⟨g,i*3,none⟩ (.string xs[j].d.name)).setCell ⟨g,i*3+1,none⟩ (.slice xs[j].ad xs[j].d.l.length xs[j].cp)).setCell ⟨g,i*3+2,none⟩ (.bool xs[j].d.imp)) g t x:=fun t x ht hx=>by
  refine ⟨?_,?_,?_⟩
  ·rw [hc,if_neg (by omega),if_neg (by omega),if_neg (by omega)];exact hx.1
  ·rw [hc,if_neg (by omega),if_neg (by omega),if_neg (by omega)];exact hx.2.1
  ·rw [hc,if_neg (by omega),if_neg (by omega),if_neg (by omega)];exact hx.2.2
 have e:(xs.take (j+1)).filter p=(xs.take j).filter p++[xs[j]]:=by rw [filter_succ hj,hp];simp
 refine ⟨((h.below.setCell hg _).setCell hg _).setCell hg _,by simp [World.setCell];exact h.lt,fun o ho=>?_,fun o ho=>?_,?_,fun t ht hjt=>hoth t _ (by omega) (h.rest t ht (by omega))⟩
 ·rw [hc]
  split
  ·rfl
  ·split
   ·rfl
   ·split
    ·rfl
    ·exact h.some o ho
 ·rw [frozen_set,frozen_set,frozen_set];exact h.fr o ho
 ·rw [e]
  intro t ht
  by_cases hti:t<i
  ·rw [List.getElem_append_left (by omega)]
   exact hoth t _ (by omega) (h.done t (by omega))
  ·have hte:t=i:=by rw [List.length_append] at ht;simp at ht;omega
   subst hte;rw [List.getElem_append_right (by omega)];simp only [hi,Nat.sub_self,List.getElem_singleton];refine ⟨?_,?_,?_⟩
   ·rw [hc,if_neg (by omega),if_neg (by omega),if_pos rfl]
   ·rw [hc,if_neg (by omega),if_pos rfl]
   ·rw [hc,if_pos rfl]
theorem DelSt.start (hb:Below z0 w W) (hlt:g<W.heap.size) (ht:∀ t (ht:t<xs.length),Tri W g t xs[t]) (hfr:∀ o,o<xs.length*3→W.frozen? ⟨g,o,none⟩=false):DelSt p xs z0 g w 0 W:=by
 refine ⟨hb,hlt,fun o ho=>?_,hfr,fun t h=>by simp at h,fun t h _=>ht t h⟩;have h1:o=o / 3*3∨o=o / 3*3+1∨o=o / 3*3+2:=by omega
 obtain ⟨e0,e1,e2⟩:=ht (o / 3) (by omega);rcases h1 with h | h | h <;> (rw [h];first | rw [e0] | rw [e1] | rw [e2]) <;> rfl
theorem filter_all (h:∀ x∈xs.take j,p x=true):(xs.take j).filter p=xs.take j:=List.filter_eq_self.2 h
theorem DelSt.first (hb:Below z0 w W) (hlt:g<W.heap.size) (ht:∀ t (ht:t<xs.length),Tri W g t xs[t]) (hfr:∀ o,o<xs.length*3→W.frozen? ⟨g,o,none⟩=false) (hj:j<xs.length) (hp:p xs[j]=false) (hall:∀ x∈xs.take j,p x=true) :
 DelSt p xs z0 g w (j+1) W∧((xs.take (j+1)).filter p).length=j:=by
 have e:(xs.take (j+1)).filter p=xs.take j:=by rw [filter_succ hj,hp,filter_all hall];simp
 have s0:=DelSt.start (p:=p) hb hlt ht hfr;refine ⟨⟨hb,hlt,s0.some,hfr,?_,fun t ht' _=>ht t ht'⟩,by rw [e,List.length_take];omega⟩;rw [e];intro t h;rw [List.getElem_take];exact ht t (by rw [List.length_take] at h;omega)
end
def DelPost (c:List Str) (xs:List Dc) (z0 g cap:Nat) (w:World) (e:Ending) (w':World):Prop :=
 e=.returned (.slice (some ⟨g,0,none⟩) (xs.filter (prF c)).length cap)∧Below z0 w w'∧g<w'.heap.size∧∀ t (ht:t<(xs.filter (prF c)).length),Tri w' g t (xs.filter (prF c))[t]
set_option maxRecDepth 100000 in
set_option maxHeartbeats 4000000 in
theorem delfunc_any {c:List Str} {Bp z0 g:Nat} {w:World} {xs:List Dc} (cap:Nat) (h:PrAt c Bp z0 w) (hl:c.length≤1000000) (hg:z0≤g) (hgl:g<w.heap.size) (hn:xs.length≤1000000) (hcap:xs.length≤cap)
 (ht:∀ t (ht:t<xs.length),Tri w g t xs[t]) (hfr:∀ o,o<xs.length*3→w.frozen? ⟨g,o,none⟩=false) :
 Calls Tryz.prog 140 #[.slice (some ⟨g,0,none⟩) xs.length cap,prV Bp] w (DelPost c xs z0 g cap w):=by
 have hz:z0≤w.heap.size:=by omega
 have HI:=Lib.hid (index_any cap h hl hz hn ht);have HP:=Lib.hid fun (W:World) (hb:Below z0 w W) x=>pred_any (h.step hb) hl (Nat.le_trans hz hb.size) x;have HF:=Lib.hid fun (W:World) (hb:Below w.heap.size w W) j (hj:j<xs.length) hp hall=>DelSt.first (p:=prF c) (z0:=z0) (w:=w) (j:=j) (hb.mono hz) (Nat.lt_of_lt_of_le hgl hb.size) (fun t h=>(ht t h).below hb) (fun o ho=>by rw [hb.frozen (p:=⟨g,o,none⟩) hgl];exact hfr o ho) hj hp hall;have HA:=Lib.hid fun (W:World) (hb:Below w.heap.size w W) (hall:∀ x∈xs,kpD c x.d=true)=>show DelPost c xs z0 g cap w (.returned (.slice (some ⟨g,0,none⟩) xs.length cap)) W from by
  have e:xs.filter (prF c)=xs:=List.filter_eq_self.2 hall;unfold DelPost;rw [e];exact ⟨rfl,hb.mono hz,Nat.lt_of_lt_of_le hgl hb.size,fun t h=>(ht t h).below hb⟩
 clear h ht hfr;have HZ:=Lib.hid hz;clear hz;unfold prV at HI ⊢
 go_enter Tryz.func140,Tryz.ntmps140
 go_wp2_with fail
 refine HI.out.mono ?_;rintro e w1 ⟨i,rfl,hi,hB1⟩;clear HI
 by_cases hneg:i=-1
 ·subst hneg
  have hall:∀ x∈xs,kpD c x.d=true:=by
   rcases hi.out with ⟨-,h⟩ | ⟨k,hk,h,-⟩
   ·exact h
   ·omega
  have HE:=Lib.hid (HA.out w1 hB1 hall);clear HA hi hall
  go_wp2
  go_ret
  exact HE.out
 ·obtain ⟨k,hk,rfl,hpk,hall⟩:∃ (k:Nat) (hk:k<xs.length),i=k∧kpD c xs[k].d=false∧∀ x∈xs.take k,kpD c x.d=true:=by
   rcases hi.out with ⟨h,-⟩ | h
   ·exact absurd h hneg
   ·exact h
  obtain ⟨s1,s2⟩:=HF.out w1 hB1 k hk hpk hall;have S0:=Lib.hid (And.intro s1 s2);clear HA HF hi hpk hall s1 s2;have hne:((k:Int)==-1)=false:=beq_eq_false_iff_ne.2 (by omega)
  go_wp2_with fail
  go_loopg [5,6,7] xs.length (fun gg v5 v6 _ wr=>∃ i j:Nat,v5=.int .i64 i∧v6=.int .i64 j∧i<j∧j≤xs.length∧xs.length - j≤gg∧Hid (DelSt (prF c) xs z0 g w j wr∧((xs.take j).filter (prF c)).length=i))
  case atStart=>exact ⟨k,k+1,rfl,by go_num,by omega,by omega,by omega,S0⟩
  case round =>
   clear S0 hne hneg;obtain ⟨i,j,rfl,rfl,hij,hjn,hgg,S⟩:=hrel
   by_cases hlt:j<xs.length
   ·have hzr:z0≤wr.heap.size:=by have:=S.out.1.lt;omega
    obtain ⟨c0,c1,c2⟩:=S.out.1.rest j hlt (Nat.le_refl _);have hba:=below_alloc wr (.cells #[.string xs[j].d.name,.slice xs[j].ad xs[j].d.l.length xs[j].cp,.bool xs[j].d.imp] 134);have S1:=S.out.1.grow hba hzr;have HCL:=Lib.hid (HP.out _ S1.below xs[j]);have hnew:=World.alloc_heap_new wr (.cells #[.string xs[j].d.name,.slice xs[j].ad xs[j].d.l.length xs[j].cp,.bool xs[j].d.imp] 134);have hnl:=(Array.getElem?_eq_some_iff.1 hnew).1
    have HBX:=Lib.hid fun (W:World) (hb:Below (wr.alloc (.cells #[.string xs[j].d.name,.slice xs[j].ad xs[j].d.l.length xs[j].cp,.bool xs[j].d.imp] 134)).heap.size (wr.alloc (.cells #[.string xs[j].d.name,.slice xs[j].ad xs[j].d.l.length xs[j].cp,.bool xs[j].d.imp] 134)) W) =>
     (hb.block _ hnl).trans hnew
    have HS1:=Lib.hid (And.intro S1 (Nat.le_trans hzr hba.size));clear S1 hnew hnl hba
    cases hq:kpD c xs[j].d
    ·have HSK:=Lib.hid fun (W:World) (h:DelSt (prF c) xs z0 g w j W)=>h.skip hlt hq
     have HFL:Hid (((xs.take (j+1)).filter (prF c)).length=i):=Lib.hid (by
      have e:prF c xs[j]=false:=hq
      rw [filter_succ hlt,e];simpa using S.out.2)
     rw [hq] at HCL;unfold Dc.v at HCL;clear hq;generalize xs[j].d.name=nm at *;generalize xs[j].d.l.length=n at *;generalize xs[j].d.imp=im at *;generalize xs[j].ad=ad at *;generalize xs[j].cp=cp at *
     go_wp2_with fail
     refine HCL.out.mono ?_;rintro e w2 ⟨rfl,hB2⟩;have S2:=Lib.hid (And.intro (HSK.out _ (HS1.out.1.grow hB2 HS1.out.2)) HFL.out);clear c0 c1 c2 HCL HBX HS1 HSK HFL S
     go_wp2
     go_roundg (xs.length - (j+1))
     case measure=>omega
     case rel=>exact ⟨i,j+1,rfl,by go_num,by omega,by omega,Nat.le_refl _,S2⟩
    ·have HPT:=Lib.hid fun (W:World) (h:DelSt (prF c) xs z0 g w j W)=>h.put (i:=i) hlt hq (by rw [S.out.2];exact hij) hg S.out.2
     have HFL:Hid (((xs.take (j+1)).filter (prF c)).length=i+1):=Lib.hid (by
      have e:prF c xs[j]=true:=hq
      rw [filter_succ hlt,e,List.length_append];simpa using S.out.2)
     rw [hq] at HCL;unfold Dc.v at HCL;clear hq;generalize xs[j].d.name=nm at *;generalize xs[j].d.l.length=n at *;generalize xs[j].d.imp=im at *;generalize xs[j].ad=ad at *;generalize xs[j].cp=cp at *
     go_wp2_with fail
     refine HCL.out.mono ?_;rintro e w2 ⟨rfl,hB2⟩;have hx:=HBX.out w2 hB2;have x0:w2.cell? ⟨wr.heap.size,0,none⟩=some (.string nm):=by rw [Lib.cell_of_heap hx];rfl
     have x1:w2.cell? ⟨wr.heap.size,1,none⟩=some (.slice ad n cp):=by rw [Lib.cell_of_heap hx];rfl
     have x2:w2.cell? ⟨wr.heap.size,2,none⟩=some (.bool im):=by rw [Lib.cell_of_heap hx];rfl
     have S1:=HS1.out.1.grow hB2 HS1.out.2;have f0:=S1.fr (i*3) (by omega);have f1:=S1.fr (i*3+1) (by omega);have f2:=S1.fr (i*3+2) (by omega);obtain ⟨u0,g0⟩:=Option.isSome_iff_exists.1 (S1.some (i*3) (by omega));obtain ⟨u1,g1⟩:=Option.isSome_iff_exists.1 (S1.some (i*3+1) (by omega));obtain ⟨u2,g2⟩:=Option.isSome_iff_exists.1 (S1.some (i*3+2) (by omega));have S2:=Lib.hid (And.intro (HPT.out _ S1) HFL.out);clear c0 c1 c2 HCL HBX HS1 HPT HFL S hx S1
     go_wp2
     go_roundg (xs.length - (j+1))
     case measure=>omega
     case rel=>exact ⟨i+1,j+1,by go_num,by go_num,by omega,by omega,Nat.le_refl _,S2⟩
   ·obtain rfl:j=xs.length:=by omega
    have hS:=S.out;rw [List.take_length] at hS
    have hcl:∀ ty,(Builtin.clear_ #[51] ty #[.slice (some ⟨g,i*3,none⟩) (xs.length - i) (cap - i)]).run Tryz.prog wr=.ok (.tuple #[]) (wr.setCells g (i*3) (Builtin.zeroCells #[.string ByteArray.empty,.slice none 0 0,.bool false] (xs.length - i)).toList) :=
     fun ty=>run_clear_three wr _ _ ty _ _ _ Tryz.underlying51 Tryz.zeroValue134 rfl rfl rfl g (i*3) _ _ (by omega) (fun j hj=>hS.1.some _ (by omega)) (fun j hj=>hS.1.fr _ (by omega))
    have HE:Hid (DelPost c xs z0 g cap w (.returned (.slice (some ⟨g,0,none⟩) i cap)) (wr.setCells g (i*3) (Builtin.zeroCells #[.string ByteArray.empty,.slice none 0 0,.bool false] (xs.length - i)).toList)):=Lib.hid (by
     refine ⟨by rw [hS.2],below_setCellsB hg _ _ _ hS.1.below,by rw [size_setCells];exact hS.1.lt,fun t h=>?_⟩;have hd:=S.out.1.done;rw [List.take_length] at hd;obtain ⟨e0,e1,e2⟩:=hd t h;rw [hS.2] at h;refine ⟨?_,?_,?_⟩
     ·rw [World.cell?_setCells_out g _ _ _ _ (fun _ _=>.inl (by show t*3<i*3;omega))];exact e0
     ·rw [World.cell?_setCells_out g _ _ _ _ (fun _ _=>.inl (by show t*3+1<i*3;omega))];exact e1
     ·rw [World.cell?_setCells_out g _ _ _ _ (fun _ _=>.inl (by show t*3+2<i*3;omega))];exact e2)
    have hic:i<cap:=by omega
    have hicz:(i:Int)≤(cap:Int):=by omega
    clear S hS HP;generalize Builtin.zeroCells #[.string ByteArray.empty,.slice none 0 0,.bool false] (xs.length - i)=zc at *
    go_wp2
    go_ret
    exact HE.out
def kpF (f:List Str):List ByteArray→Bool
 | [n]=>f.contains (sOf n)
 | _=>true
def kpG (g:List Str) (k:Int) (ds:List Dl):Bool:=(famM k ds).2&&g.contains (sOf (famM k ds).1)
mutual
def keepI (p:S3):Itm→Option Itm
 | .mk k s d n mn mx v l =>
   if k=1 then (if (d.filter (kpD p.c)).length=0 then none else some (.mk k s (d.filter (kpD p.c)) n mn mx v l))
   else if k=2 then (if (dropIs p l).length=0 then none else some (.mk k s d n mn mx v (dropIs p l)))
   else if k=3 then (if (dropIs p l).length=0 then some (.mk 4 [] [] n 0 0 [] []) else some (.mk k s d n mn mx v (dropIs p l)))
   else if k=5 then (if kpF p.f n=true then some (.mk k s d n mn mx v l) else none)
   else if k=6 then (if kpG p.g k d=true then some (.mk k s d n mn mx v l) else none)
   else some (.mk k s d n mn mx v l)
def dropIs (p:S3):List Itm→List Itm
 | []=>[]
 | x::xs=>match keepI p x with
   | some y=>y::dropIs p xs
   | none=>dropIs p xs
end
theorem keepI_eq (p:S3) (x:Itm):keepI p x=(if x.kind=1 then (if (x.decls.filter (kpD p.c)).length=0 then none else some (.mk x.kind x.sels (x.decls.filter (kpD p.c)) x.names x.mn x.mx x.vals x.l))
 else if x.kind=2 then (if (dropIs p x.l).length=0 then none else some (.mk x.kind x.sels x.decls x.names x.mn x.mx x.vals (dropIs p x.l)))
 else if x.kind=3 then (if (dropIs p x.l).length=0 then some (.mk 4 [] [] x.names 0 0 [] []) else some (.mk x.kind x.sels x.decls x.names x.mn x.mx x.vals (dropIs p x.l)))
 else if x.kind=5 then (if kpF p.f x.names=true then some x else none)
 else if x.kind=6 then (if kpG p.g x.kind x.decls=true then some x else none)
 else some x):=by cases x;rw [keepI];rfl
theorem dropIs_nil (p:S3):dropIs p []=[]:=by rw [dropIs]
theorem dropIs_some {p:S3} {x y:Itm} {xs:List Itm} (h:keepI p x=some y):dropIs p (x::xs)=y::dropIs p xs:=by rw [dropIs,h]
theorem dropIs_none {p:S3} {x:Itm} {xs:List Itm} (h:keepI p x=none):dropIs p (x::xs)=dropIs p xs:=by rw [dropIs,h]
theorem dropIs_append (p:S3):∀ (a b:List Itm),dropIs p (a++b)=dropIs p a++dropIs p b
 | [],b=>by rw [dropIs_nil];rfl
 | x::a,b=>by
   cases h:keepI p x with
   | none=>rw [List.cons_append,dropIs_none h,dropIs_none h,dropIs_append p a b]
   | some y=>rw [List.cons_append,dropIs_some h,dropIs_some h,dropIs_append p a b];rfl
theorem dropIs_snoc {p:S3} {l:List Itm} {k:Nat} (hk:k<l.length):dropIs p (l.take (k+1))=dropIs p (l.take k)++(keepI p l[k]).toList:=by
 rw [List.take_succ_eq_append_getElem hk,dropIs_append]
 congr 1
 cases h:keepI p l[k] with
 | none=>rw [dropIs_none h,dropIs_nil];rfl
 | some y=>rw [dropIs_some h,dropIs_nil];rfl
theorem dropIs_len (p:S3):∀ (l:List Itm),(dropIs p l).length≤l.length
 | []=>by rw [dropIs_nil];exact Nat.le_refl _
 | x::l=>by
   have h1:=dropIs_len p l
   cases h:keepI p x with
   | none=>rw [dropIs_none h,List.length_cons];omega
   | some y=>rw [dropIs_some h,List.length_cons,List.length_cons];omega
inductive Kp (p:S3) (x:Itm):Itm→Prop where
 | same (h:x.kind≠1) (h2:x.kind≠2) (h3:x.kind≠3) (h5:x.kind=5→kpF p.f x.names=true) (h6:x.kind=6→kpG p.g x.kind x.decls=true):Kp p x x
 | rule (h:x.kind=1) (hne:(x.decls.filter (kpD p.c)).length≠0):Kp p x (.mk x.kind x.sels (x.decls.filter (kpD p.c)) x.names x.mn x.mx x.vals x.l)
 | block (h:x.kind=2∨x.kind=3) (hne:(dropIs p x.l).length≠0):Kp p x (.mk x.kind x.sels x.decls x.names x.mn x.mx x.vals (dropIs p x.l))
 | layer (h:x.kind=3) (he:(dropIs p x.l).length=0):Kp p x (.mk 4 [] [] x.names 0 0 [] [])
theorem kp_of {p:S3} {x y:Itm} (h:keepI p x=some y):Kp p x y:=by
 rw [keepI_eq] at h
 by_cases h1:x.kind=1
 ·rw [if_pos h1] at h
  by_cases hn:(x.decls.filter (kpD p.c)).length=0
  ·rw [if_pos hn] at h;cases h
  ·rw [if_neg hn] at h;cases h;exact .rule h1 hn
 ·rw [if_neg h1] at h
  by_cases h2:x.kind=2
  ·rw [if_pos h2] at h
   by_cases hn:(dropIs p x.l).length=0
   ·rw [if_pos hn] at h;cases h
   ·rw [if_neg hn] at h;cases h;exact .block (.inl h2) hn
  ·rw [if_neg h2] at h
   by_cases h3:x.kind=3
   ·rw [if_pos h3] at h
    by_cases hn:(dropIs p x.l).length=0
    ·rw [if_pos hn] at h;cases h;exact .layer h3 hn
    ·rw [if_neg hn] at h;cases h;exact .block (.inr h3) hn
   ·rw [if_neg h3] at h
    by_cases h5:x.kind=5
    ·rw [if_pos h5] at h
     by_cases hn:kpF p.f x.names=true
     ·rw [if_pos hn] at h;cases h;exact .same h1 h2 h3 (fun _=>hn) (fun h6=>by omega)
     ·rw [if_neg hn] at h;cases h
    ·rw [if_neg h5] at h
     by_cases h6:x.kind=6
     ·rw [if_pos h6] at h
      by_cases hn:kpG p.g x.kind x.decls=true
      ·rw [if_pos hn] at h;cases h;exact .same h1 h2 h3 (fun h5'=>absurd h5' h5) (fun _=>hn)
      ·rw [if_neg hn] at h;cases h
     ·rw [if_neg h6] at h;cases h
      exact .same h1 h2 h3 (fun h5'=>absurd h5' h5) (fun h6'=>absurd h6' h6)
def okX (x:Itm):Prop:=okDs x.decls∧x.names.length≤20∧cntVs x.vals≤100∧okVs x.vals=true
mutual
theorem flatI_ok:∀ x:Itm,okI x→(flatI x).length≤cntI x∧∀ y∈flatI x,okX y
 | .mk k s d n mn mx v l=>fun h=>by
   obtain ⟨h1,h2,h3,h4,h5⟩:=(okI_eq _).1 h;obtain ⟨h6,h7⟩:=flatIs_ok l h5;rw [flatI,cntI]
   by_cases hk:k=2∨k=3
   ·rw [if_pos hk]
    refine ⟨by rw [List.length_cons];omega,fun y hy=>?_⟩;rcases List.mem_cons.1 hy with rfl | hy
    ·exact ⟨h1,h2,h3,h4⟩
    ·exact h7 y hy
   ·rw [if_neg hk]
    refine ⟨by rw [List.length_cons,List.length_nil];omega,fun y hy=>?_⟩;obtain rfl:=List.mem_singleton.1 hy;exact ⟨h1,h2,h3,h4⟩
theorem flatIs_ok:∀ l:List Itm,okIs l→(flatIs l).length≤cntIs l∧∀ y∈flatIs l,okX y
 | []=>fun _=>by rw [flatIs,cntIs];exact ⟨Nat.le_refl _,by simp⟩
 | x::xs=>fun h=>by
   have hx:okI x:=okIs_at h x List.mem_cons_self;have hxs:okIs xs:=by
    have:=(okIs_append [x] xs).1 h;exact this.2
   obtain ⟨h1,h2⟩:=flatI_ok x hx;obtain ⟨h3,h4⟩:=flatIs_ok xs hxs;rw [flatIs,cntIs];refine ⟨by rw [List.length_append];omega,fun y hy=>?_⟩;rcases List.mem_append.1 hy with hy | hy
   ·exact h2 y hy
   ·exact h4 y hy
end
theorem ruI_ok {x:Itm} (h:okX x):(ruI x).length≤20∧∀ r∈ruI x,∀ i,(r.at i).length≤200:=by
 obtain ⟨⟨h1,h2⟩,-,h3,h4⟩:=h;unfold ruI
 split
 ·refine ⟨by rw [List.length_map];exact h1,fun r hr i=>?_⟩
  obtain ⟨d,hd,rfl⟩:=List.mem_map.1 hr;have h5:=(h2 d hd).1;have h6:=rfN_le d.l;have h7:=ofM_le 1 d.l;have h8:=vN_le d.l
  match i with
  | 0=>show (rfN d.l).length≤200;omega
  | 1 =>
    show (if frB d.name=true then ofM 1 d.l else []).length≤200
    split
    ·omega
    ·simp
  | _+2 =>
    show (if faB d.name=true then vN d.l else []).length≤200
    split
    ·omega
    ·simp
 ·split
  ·have h6:=rfN_le x.vals
   have h8:=vN_le x.vals;unfold ruN
   split
   ·refine ⟨by simp,fun r hr i=>?_⟩
    obtain rfl:=List.mem_singleton.1 hr
    match i with
    | 0=>show (rfN x.vals).length≤200;omega
    | 1=>show ([]:List Str).length≤200;simp
    | _+2=>show (vN x.vals).length≤200;omega
   ·exact ⟨by simp,by simp⟩
  ·exact ⟨by simp,by simp⟩
theorem flatMap_le {α β:Type} (f:α→List β) (m:Nat):∀ (l:List α),(∀ x∈l,(f x).length≤m)→(l.flatMap f).length≤l.length*m
 | [],_=>by simp
 | x::l,h=>by
   have h1:=flatMap_le f m l fun y hy=>h y (List.mem_cons_of_mem _ hy);have h2:=h x List.mem_cons_self;rw [List.flatMap_cons,List.length_append,List.length_cons,Nat.add_mul];omega
theorem okIs_flatten:∀ (L:List (List Itm)),(∀ l∈L,okSh l)→okIs L.flatten∧cntIs L.flatten≤15*L.length
 | [],_=>⟨by rw [List.flatten_nil,okIs];trivial,by simp [cntIs]⟩
 | l::L,h=>by
   obtain ⟨h1,h2⟩:=okIs_flatten L fun x hx=>h x (List.mem_cons_of_mem _ hx);obtain ⟨h3,h4⟩:=h l List.mem_cons_self;rw [List.flatten_cons];exact ⟨(okIs_append l L.flatten).2 ⟨h4,h1⟩,by rw [cntIs_append,List.length_cons];omega⟩
theorem small_len {L:List (List Itm)} (h:∀ l∈L,okSh l) (h4:L.length≤4) {s:S3} (hs:InU (rulesOf L.flatten) s) (i:Nat):(s.at i).length≤240000:=by
 obtain ⟨h1,h2⟩:=okIs_flatten L h;obtain ⟨h3,h5⟩:=flatIs_ok _ h1;have a1:(rulesOf L.flatten).length≤(flatIs L.flatten).length*20:=flatMap_le ruI 20 _ fun x hx=>(ruI_ok (h5 x hx)).1;have a2:((rulesOf L.flatten).flatMap fun r=>r.at i).length≤(rulesOf L.flatten).length*200:=flatMap_le (fun r:Ru=>r.at i) 200 _ fun r hr=>by
  obtain ⟨x,hx,hr⟩:=List.mem_flatMap.1 hr;exact (ruI_ok (h5 x hx)).2 r hr i
 have a3:=inU_len hs i;omega
structure ItOk (G:S3→Prop) (x:Itm):Prop where
 ok:okX x
 g:∀ r∈ruI x,∀ s,G s→G (stepR s r)
def Sz (s:S3):Prop:=s.c.length≤500000∧s.f.length≤500000∧s.g.length≤500000
theorem sz_of {L:List (List Itm)} (h:∀ l∈L,okSh l) (h4:L.length≤4) {s:S3} (hs:InU (rulesOf L.flatten) s):Sz s:=by
 have h0:s.c.length≤240000:=small_len h h4 hs 0;have h1:s.f.length≤240000:=small_len h h4 hs 1;have h2:s.g.length≤240000:=small_len h h4 hs 2;exact ⟨by omega,by omega,by omega⟩
theorem itok_of {L:List (List Itm)} (h:∀ l∈L,okSh l):∀ x∈flatIs L.flatten,ItOk (InU (rulesOf L.flatten)) x:=fun x hx =>
 ⟨(flatIs_ok _ (okIs_flatten L h).1).2 x hx,fun _ hr _ hs=>inU_step (List.mem_flatMap.2 ⟨x,hx,hr⟩) hs⟩
theorem itok_fold {G:S3→Prop}:∀ (R:List Ru) {s:S3},(∀ r∈R,∀ s,G s→G (stepR s r))→G s→G (R.foldl stepR s)
 | [],_,_,h=>h
 | r::R,s,hg,h=>itok_fold R (fun r hr=>hg r (List.mem_cons_of_mem _ hr)) (hg r List.mem_cons_self s h)
def OwG (Bu Bg:Nat) (W:World) (k:Nat):Prop:=k=Bg∨OwU Bu W k
def gO (g:Bool):Obj:=.cells #[.bool g] 4
structure StG (z Bu Bg:Nat) (s:S3) (g:Bool) (W:World):Prop where
 u:UAt z Bu s W
 g:W.heap[Bg]?=some (gO g)
 zg:z≤Bg
 ng:¬OwU Bu W Bg
section
variable {z Bu Bg:Nat} {s:S3} {g:Bool} {W W':World}
theorem UAt.blocks (h:UAt z Bu s W) (hb:∀ k,OwU Bu W k→W'.heap[k]?=W.heap[k]?):UAt z Bu s W':=by
 obtain ⟨va,vb,vc,h1,h2,h3,h4,h5⟩:=h;have hO:=OwU_iff h1;exact ⟨va,vb,vc,(hb Bu (.inl rfl)).trans h1,h2.keep fun b e=>hb b ((hO b).2 (.inr (.inl e))),h3.keep fun b e=>hb b ((hO b).2 (.inr (.inr (.inl e)))),h4.keep fun b e=>hb b ((hO b).2 (.inr (.inr (.inr e)))),h5⟩
theorem OwU_blocks (hb:W'.heap[Bu]?=W.heap[Bu]?) (k:Nat) (h:OwU Bu W' k):OwU Bu W k:=by
 rcases h with h | ⟨a,b,c,h1,h2⟩
 ·exact .inl h
 ·exact .inr ⟨a,b,c,hb.symm.trans h1,h2⟩
theorem StG.ltg (h:StG z Bu Bg s g W):Bg<W.heap.size:=(Array.getElem?_eq_some_iff.1 h.g).1
theorem StG.own (h:StG z Bu Bg s g W) {k:Nat} (hk:OwG Bu Bg W k):z≤k∧k<W.heap.size:=by
 rcases hk with rfl | hk
 ·exact ⟨h.zg,h.ltg⟩
 ·exact h.u.own hk
theorem StG.below (h:StG z Bu Bg s g W) (hb:Below W.heap.size W W'):StG z Bu Bg s g W' :=
 ⟨h.u.below hb,(hb.block _ h.ltg).trans h.g,h.zg,fun ho=>h.ng (OwU_below h.u.lt hb _ ho)⟩
theorem StG.ko (h:StG z Bu Bg s g W) (hb:Below W.heap.size W W') (hz:z≤W.heap.size):KO (OwG Bu Bg) z W W' :=
 KO.grow hb hz (fun k hk=>hk.imp id (OwU_below h.u.lt hb k)) fun _ hk=>(h.own hk).2
theorem StG.turn {t:S3} (h:StG z Bu Bg s g W) (hu:UAt z Bu t W') (hk:KO (OwU Bu) z W W'):StG z Bu Bg t g W'∧KO (OwG Bu Bg) z W W':=by
 refine ⟨⟨hu,hk.blk h.g h.ng,h.zg,hk.not_own h.ltg h.ng⟩,fun k hk1 hn=>hk.same k hk1 fun ho=>hn (.inr ho),fun k hk1 ho=>ho.imp id (hk.own k hk1),fun k ho=>?_,hk.below⟩;rcases ho with rfl | ho
 ·have:=h.ltg;have:=hk.below.size;omega
 ·exact hk.lt k ho
theorem StG.put (h:StG z Bu Bg s g W) (g':Bool):StG z Bu Bg s g' (W.setCell ⟨Bg,0,none⟩ (.bool g'))∧KO (OwG Bu Bg) z W (W.setCell ⟨Bg,0,none⟩ (.bool g')):=by
 have hoth:∀ k,k≠Bg→(W.setCell ⟨Bg,0,none⟩ (.bool g')).heap[k]?=W.heap[k]?:=fun k hk=>put_far _ rfl hk;have hsz:(W.setCell ⟨Bg,0,none⟩ (.bool g')).heap.size=W.heap.size:=by simp [World.setCell]
 have hne:∀ k,OwU Bu W k→k≠Bg:=fun k hk e=>h.ng (e▸hk);have hBu:(W.setCell ⟨Bg,0,none⟩ (.bool g')).heap[Bu]?=W.heap[Bu]?:=hoth Bu (hne Bu (.inl rfl));have hcell:(W.setCell ⟨Bg,0,none⟩ (.bool g')).heap[Bg]?=some (gO g'):=by
  have:=put_same (o:=0) (.bool g') h.g;simpa [gO] using this
 refine ⟨⟨h.u.blocks fun k hk=>hoth k (hne k hk),hcell,h.zg,fun ho=>h.ng (OwU_blocks hBu _ ho)⟩,fun k _ hn=>hoth k fun e=>hn (.inl e),fun k _ ho=>ho.imp id (OwU_blocks hBu k),fun k ho=>?_,?_⟩
 ·rw [hsz]
  rcases ho with rfl | ho
  ·exact h.ltg
  ·exact (h.u.own (OwU_blocks hBu k ho)).2
 ·exact ⟨rfl,rfl,rfl,by rw [hsz];exact Nat.le_refl _,fun k hk=>hoth k (by have:=h.zg;omega)⟩
def RdI (Bu Bg z:Nat) (W:World) (l:List Itm) (v:Value):Prop :=
 (l=[]∧∃ ad cap,v=.slice ad 0 cap)∨∃ b o cap,v=.slice (some ⟨b,o,none⟩) l.length cap∧l.length≤cap∧0<l.length∧b<W.heap.size∧¬OwG Bu Bg W b ∧
   ∀ k (hk:k<l.length) j a,(encI l[k])[j]?=some a→∃ x,W.cell? ⟨b,o+(k*8+j),none⟩=some x∧AtB z W a x
theorem rd_ko {l:List Itm} {b o:Nat} (hb:b<W.heap.size) (hn:¬OwG Bu Bg W b) (hc:∀ k (hk:k<l.length) j a,(encI l[k])[j]?=some a→∃ x,W.cell? ⟨b,o+(k*8+j),none⟩=some x∧AtB z W a x) (h:KO (OwG Bu Bg) z W W') :
 ∀ k (hk:k<l.length) j a,(encI l[k])[j]?=some a→∃ x,W'.cell? ⟨b,o+(k*8+j),none⟩=some x∧AtB z W' a x:=fun k hk j a hj=>by
 obtain ⟨x,h1,h2⟩:=hc k hk j a hj;exact ⟨x,by rw [World.cell?_of_block (w:=W) (h.same b hb hn)];exact h1,h2.below h.below⟩
theorem rd_of {l:List Itm} {v:Value} (hs:StG z Bu Bg s g W) (hz:z≤W.heap.size) (h:AtB z W (.sl l.length 8 (l.flatMap encI)) v):RdI Bu Bg z W l v:=by
 rcases slB_cells encI 8 encI_len (by decide) h with ⟨rfl,ad,cap,rfl⟩ | ⟨b,o,cap,rfl,hcap,hpos,hbz,hc⟩
 ·exact .inl ⟨rfl,ad,cap,rfl⟩
 ·exact .inr ⟨b,o,cap,rfl,hcap,hpos,by omega,fun ho=>by have:=(hs.own ho).1;omega,hc⟩
end
theorem up_item (s:S3) (x:Itm):Up s (itemM s x):=up_fold _ _
theorem up_pass (s:S3) (l:List Itm):Up s (passM s l):=by rw [pass_rules];exact up_fold _ _
theorem pass_nil (s:S3):passM s []=s:=by rw [passM,flatIs];rfl
theorem pass_snoc {l:List Itm} {k:Nat} (hk:k<l.length) (s:S3):passM s (l.take (k+1))=if l[k].kind=2∨l[k].kind=3 then passM (itemM (passM s (l.take k)) l[k]) l[k].l else itemM (passM s (l.take k)) l[k]:=by
 unfold passM;rw [flatIs_snoc hk,List.foldl_append,flatI_eq,List.foldl_cons]
 split <;> rfl
theorem pass_ok {G:S3→Prop} {l:List Itm} {s:S3} (h:∀ x∈flatIs l,ItOk G x) (hs:G s):G (passM s l):=by
 rw [pass_rules];refine itok_fold _ (fun r hr=>?_) hs;obtain ⟨x,hx,hr⟩:=List.mem_flatMap.1 hr;exact (h x hx).g r hr
theorem item_ok {G:S3→Prop} {x:Itm} {s:S3} (h:ItOk G x) (hs:G s):G (itemM s x):=itok_fold _ h.g hs
theorem flat_take {l:List Itm} {k:Nat}:∀ x∈flatIs (l.take k),x∈flatIs l:=fun x hx=>by
 have h:=flatIs_append (l.take k) (l.drop k);rw [List.take_append_drop] at h;rw [h];exact List.mem_append_left _ hx
theorem flat_self:∀ {l:List Itm} {x:Itm},x∈l→x∈flatIs l∧(x.kind=2∨x.kind=3→∀ y∈flatIs x.l,y∈flatIs l)
 | [],x,h=>by simp at h
 | y::l,x,h=>by
   rw [flatIs];rcases List.mem_cons.1 h with rfl | h
   ·refine ⟨List.mem_append_left _ (by rw [flatI_eq];exact List.mem_cons_self),fun hk z hz=>List.mem_append_left _ ?_⟩
    rw [flatI_eq,if_pos hk];exact List.mem_cons_of_mem _ hz
   ·obtain ⟨h1,h2⟩:=flat_self h
    exact ⟨List.mem_append_right _ h1,fun hk z hz=>List.mem_append_right _ (h2 hk z hz)⟩
def itV (kd:Int) (a1:Option Addr) (n1 c1:Nat) (a2:Option Addr) (n2 c2:Nat) (a3:Option Addr) (n3 c3:Nat) (mn mx:Int) (a6:Option Addr) (n6 c6:Nat) (a7:Option Addr) (n7 c7:Nat):Value :=
 .agg #[.int .i64 kd,.slice a1 n1 c1,.slice a2 n2 c2,.slice a3 n3 c3,.int .i64 mn,.int .i64 mx,.slice a6 n6 c6,.slice a7 n7 c7]
def fK (s:S3) (ds:List Dl) (k:Nat):S3:=(ds.take k).foldl (fun s d=>declM s d.name d.l) s
theorem fK_succ (s:S3) {ds:List Dl} {k:Nat} (hk:k<ds.length):fK s ds (k+1)=declM (fK s ds k) ds[k].name ds[k].l:=by
 rw [fK,List.take_succ_eq_append_getElem hk,List.foldl_append];rfl
theorem fK_rules (s:S3) (ds:List Dl) (k:Nat):fK s ds k=((ds.take k).map fun d=>ruD d.name d.l).foldl stepR s:=by
 rw [fK,List.foldl_map]
 congr 1
 funext t d
 exact declM_step t d.name d.l
theorem fK_up (s:S3) (ds:List Dl) (k:Nat):Up s (fK s ds k):=by rw [fK_rules];exact up_fold _ _
theorem up_decl (s:S3) (n:ByteArray) (l:List Vl):Up s (declM s n l):=by rw [declM_step];exact up_step _ _
theorem item_rules {x:Itm} (h:x.kind=1) (s:S3):itemM s x=fK s x.decls x.decls.length:=by
 rw [itemM,ruI,if_pos h,fK_rules,List.take_length]
theorem item_none {x:Itm} (h:x.kind≠1) (h5:x.kind=5→x.names.length≠1) (s:S3):itemM s x=s:=by
 rw [itemM,ruI,if_neg h]
 split
 ·rename_i e
  have:=h5 e;unfold ruN
  split
  ·rename_i n hn;rw [hn] at this;simp at this
  ·rfl
 ·rfl
theorem fK_ok {G:S3→Prop} {x:Itm} (hx:ItOk G x) (h:x.kind=1) {s:S3} (hs:G s) (k:Nat):G (fK s x.decls k):=by
 rw [fK_rules];refine itok_fold _ (fun r hr=>hx.g r ?_) hs;rw [ruI,if_pos h];obtain ⟨d,hd,rfl⟩:=List.mem_map.1 hr;exact List.mem_map.2 ⟨d,List.mem_of_mem_take hd,rfl⟩
section
variable {z Bu:Nat} {G:S3→Prop} {s:S3} {a1 a2 a3 a6 a7:Option Addr} {n1 c1 c2 c3 c6 n7 c7:Nat} {w:World}
set_option maxRecDepth 100000 in
set_option maxHeartbeats 4000000 in
theorem item_rule (hG:∀ s,G s→Sz s) (x:Itm) (hu:UAt z Bu s w) (hz:z≤w.heap.size) (hx:ItOk G x) (hs:G s) (hk1:x.kind=1)
 (h2:AtB z w (.sl x.decls.length 3 (x.decls.flatMap encD)) (.slice a2 x.decls.length c2)) :
 Calls Tryz.prog 88 #[.pointer (some ⟨Bu,0,none⟩),itV x.kind a1 n1 c1 a2 x.decls.length c2 a3 x.names.length c3 x.mn x.mx a6 x.vals.length c6 a7 n7 c7] w (UPost z Bu s (itemM s x) w):=by
 rw [item_rules hk1,hk1];have D0:DSt z Bu w.heap.size (itmO 1 a1 n1 c1 a2 x.decls.length c2 a3 x.names.length c3 x.mn x.mx a6 x.vals.length c6 a7 n7 c7) w s (w.alloc (itmO 1 a1 n1 c1 a2 x.decls.length c2 a3 x.names.length c3 x.mn x.mx a6 x.vals.length c6 a7 n7 c7)):=DSt.new hu hz;have hlen:x.decls.length≤20:=hx.ok.1.1;have GK:=Lib.hid fun k=>hG _ (fK_ok hx hk1 hs k);have OK:=Lib.hid fun k (hk:k<x.decls.length)=>hx.ok.1.2 x.decls[k] (List.getElem_mem hk);have FSu:=Lib.hid fun k (hk:k<x.decls.length)=>fK_succ s hk;have FU:=Lib.hid fun k=>fK_up s x.decls k;have HZ:=Lib.hid hz;have F0:fK s x.decls 0=s:=rfl;generalize x.names.length=n3 at *;generalize x.vals.length=n6 at *;generalize x.mn=mn at *;generalize x.mx=mx at *;generalize x.decls=ds at *;clear hx hs hG hk1 hu;generalize hf:fK s ds=f at *;have HX:=Lib.hid fun (t:S3) (W:World) (h:DSt z Bu w.heap.size (itmO 1 a1 n1 c1 a2 ds.length c2 a3 n3 c3 mn mx a6 n6 c6 a7 n7 c7) w t W)=>itmO_cells h.x;have HDB:=Lib.hid fun (t:S3) (W W':World) (h:DSt z Bu w.heap.size (itmO 1 a1 n1 c1 a2 ds.length c2 a3 n3 c3 mn mx a6 n6 c6 a7 n7 c7) w t W) (hb:Below W.heap.size W W')=>h.below hb HZ.out;have D0H:=Lib.hid D0;obtain ⟨x0,-,x2,-,-,-,-,-⟩:=HX.out _ _ D0;unfold itmO at x0 x2;rcases slB_cells encD 3 encD_len (by decide) h2 with ⟨rfl,ad,cap,e⟩ | ⟨b,o,cap,e,hcap,hpos,hbz,hc⟩
 ·clear h2 hz D0 hf
  unfold itV
  go_enter Tryz.func88,Tryz.ntmps88
  go_wp2
  go_loopw [5,7,15] (fun v5 _ i wr=>i=.int .i64 0∧v5=.bool false∧Hid (DSt z Bu w.heap.size (itmO 1 a1 n1 c1 a2 0 c2 a3 n3 c3 mn mx a6 n6 c6 a7 n7 c7) w s wr)) (fun _ _ _ _=>0)
  case atStart=>exact ⟨rfl,rfl,D0H⟩
  case round =>
   obtain ⟨rfl,rfl,D⟩:=hrel
   go_wp2
   go_ret
   refine ⟨?_,?_,D.out.ko⟩
   ·rw [F0,grewB_self];rfl
   ·rw [F0];exact D.out.u
 ·cases e
  have HC:=Lib.hid fun k (hk:k<ds.length)=>dlB_cells hc hk;clear h2 hz D0 hc;unfold itV
  go_enter Tryz.func88,Tryz.ntmps88
  go_wp2
  go_loopw [5,7,15] (fun v5 _ i wr=>∃ k:Nat,k≤ds.length∧i=.int .i64 k∧v5=.bool (grewB s (f k))∧Hid (DSt z Bu w.heap.size (itmO 1 a1 n1 c1 (some ⟨b,o,none⟩) ds.length c2 a3 n3 c3 mn mx a6 n6 c6 a7 n7 c7) w (f k) wr)) (fun _ _ i _=>ds.length - (intOf i).toNat)
  case atStart=>exact ⟨0,Nat.zero_le _,rfl,by rw [F0,grewB_self],by rw [F0];exact D0H⟩
  case round =>
   obtain ⟨k,hk,rfl,rfl,D⟩:=hrel
   by_cases hlt:k<ds.length
   ·obtain ⟨d0,⟨ad,cp,d1,hl⟩,d2⟩:=HC.out k hlt
    have hB:=D.out.ko.below;have d0':=(hB.cell (p:=⟨b,o+k*3,none⟩) hbz).trans d0;have d1':=(hB.cell (p:=⟨b,o+k*3+1,none⟩) hbz).trans d1;have d2':=(hB.cell (p:=⟨b,o+k*3+2,none⟩) hbz).trans d2;obtain ⟨q1,q2,q3⟩:=OK.out k hlt;have hg:=GK.out k;have D1:=HDB.out _ _ _ D.out (below_alloc wr (dclO ds[k].name ad ds[k].l.length cp ds[k].imp));have hz1:z≤(wr.alloc (dclO ds[k].name ad ds[k].l.length cp ds[k].imp)).heap.size:=Nat.le_trans HZ.out D1.ko.below.size;have HCL:=Lib.hid (decl_any z Bu (f k) ds[k].name ad cp ds[k].imp ds[k].l _ D1.u hz1 (hl.below D1.ko.below) (by omega) q2 hg);have D1H:=Lib.hid D1;have hUp:=up_decl (f k) ds[k].name ds[k].l;have hU0:=FU.out k;have hgo:=grew_or hU0 hUp;have FSuk:=FSu.out k hlt;have HG:=Lib.hid hgo;have HF:=Lib.hid FSuk;clear d0 d1 d2 hl q1 q2 q3 hg D1 hz1 hUp hU0 hgo FSuk hB;generalize ds[k].name=nm at *;generalize ds[k].l=ll at *;generalize ds[k].imp=im at *;generalize hq:grewB (f k) (declM (f k) nm ll)=q at *;generalize hp:grewB s (f k)=p at *;have HQ:=Lib.hid hq;have HP:=Lib.hid hp;clear hq hp
    cases q
    all_goals
     go_wp2_with fail
     refine HCL.out.mono ?_;rintro e w2 ⟨rfl,hu2,hk2⟩;rw [HQ.out];have D2:=Lib.hid (D1H.out.add hu2 hk2);clear hu2 hk2 d0' d1' d2'
     go_wp2
     go_roundw
     case rel=>exact ⟨k+1,by omega,by go_num,by rw [HF.out,HG.out];rfl,by rw [HF.out];exact D2⟩
     case measure=>simp [intOf];omega
   ·obtain rfl:k=ds.length:=by omega
    go_wp2
    go_ret
    exact ⟨rfl,D.out.u,D.out.ko⟩
end
theorem frames_step (s:S3) (n:ByteArray) (l:List Vl):stepR s (ruF n l)=if hasM s.f (sOf n)=true then ⟨addM s.c (rfN l),s.f,addM s.g (vN l)⟩ else s:=rfl
theorem item_frm {x:Itm} (h:x.kind=5) {n:ByteArray} (hn:x.names=[n]) (s:S3):itemM s x=if hasM s.f (sOf n)=true then ⟨addM s.c (rfN x.vals),s.f,addM s.g (vN x.vals)⟩ else s:=by
 rw [itemM,ruI,if_neg (by omega),if_pos h,hn,ruN,←frames_step];rfl
section
variable {z Bu:Nat} {G:S3→Prop} {s:S3} {a1 a2 a3 a6 a7:Option Addr} {n1 n2 c1 c2 c3 c6 n7 c7:Nat} {w:World}
set_option maxRecDepth 100000 in
set_option maxHeartbeats 4000000 in
theorem item_other (x:Itm) (hu:UAt z Bu s w) (hz:z≤w.heap.size) (hk1:x.kind≠1) (hk5:x.kind=5→x.names.length≠1) :
 Calls Tryz.prog 88 #[.pointer (some ⟨Bu,0,none⟩),itV x.kind a1 n1 c1 a2 n2 c2 a3 x.names.length c3 x.mn x.mx a6 x.vals.length c6 a7 n7 c7] w (UPost z Bu s (itemM s x) w):=by
 rw [item_none hk1 hk5];have D0:DSt z Bu w.heap.size (itmO x.kind a1 n1 c1 a2 n2 c2 a3 x.names.length c3 x.mn x.mx a6 x.vals.length c6 a7 n7 c7) w s (w.alloc (itmO x.kind a1 n1 c1 a2 n2 c2 a3 x.names.length c3 x.mn x.mx a6 x.vals.length c6 a7 n7 c7)):=DSt.new hu hz;generalize x.names.length=n3 at *;generalize x.vals.length=n6 at *;generalize x.mn=mn at *;generalize x.mx=mx at *;generalize x.kind=kd at *;obtain ⟨x0,-,-,x3,-,-,-,-⟩:=itmO_cells D0.x;unfold itmO at x0 x3;have D0H:=Lib.hid D0;have HZ:=Lib.hid hz;clear D0 hu hz;have hend:∀ n,UPost z Bu s s w (.returned (.bool false)) ((w.alloc (itmO kd a1 n1 c1 a2 n2 c2 a3 n3 c3 mn mx a6 n6 c6 a7 n7 c7)).drewN n):=fun n=>by
  have D:=D0H.out.below (below_drewN (Below.refl _ _) n) HZ.out;exact ⟨by rw [grewB_self],D.u,D.ko⟩
 have HE:=Lib.hid hend;clear hend
 by_cases h5:kd=5
 ·subst h5
  have hne:=hk5 rfl;clear hk5 hk1;have hd:((n3:Int)==1)=false:=beq_eq_false_iff_ne.2 (by omega);unfold itV
  go_enter Tryz.func88,Tryz.ntmps88
  go_wp2_with fail
  go_quiet (fail)
  go_wp2
  go_ret
  exact HE.out _
 ·clear hk5
  unfold itV
  go_enter Tryz.func88,Tryz.ntmps88
  go_wp2
  go_ret
  exact HE.out 0
set_option maxRecDepth 100000 in
set_option maxHeartbeats 8000000 in
theorem item_frames (hG:∀ s,G s→Sz s) (x:Itm) (hu:UAt z Bu s w) (hz:z≤w.heap.size) (hx:ItOk G x) (hs:G s) (hk5:x.kind=5) {nm:ByteArray} (hnm:x.names=[nm])
 (h3:AtB z w (.sl x.names.length 1 (x.names.flatMap encN)) (.slice a3 x.names.length c3)) (h6:AtB z w (.sl x.vals.length 5 (x.vals.flatMap encV)) (.slice a6 x.vals.length c6)) :
 Calls Tryz.prog 88 #[.pointer (some ⟨Bu,0,none⟩),itV x.kind a1 n1 c1 a2 n2 c2 a3 x.names.length c3 x.mn x.mx a6 x.vals.length c6 a7 n7 c7] w (UPost z Bu s (itemM s x) w):=by
 rw [item_frm hk5 hnm,hk5]
 obtain ⟨b,o,cap,e,-,-,hbz,hc⟩:∃ b o cap,Value.slice a3 x.names.length c3=.slice (some ⟨b,o,none⟩) x.names.length cap∧x.names.length≤cap∧0<x.names.length∧b<z ∧
  ∀ k (hk:k<x.names.length) j a,(encN x.names[k])[j]?=some a→∃ u,w.cell? ⟨b,o+(k*1+j),none⟩=some u∧AtB z w a u:=by
  rcases slB_cells encN 1 (fun _=>rfl) (by decide) h3 with ⟨h0,-⟩ | h
  ·rw [hnm] at h0;cases h0
  ·exact h
 have hcell:w.cell? ⟨b,o,none⟩=some (.string nm):=by
  obtain ⟨u,e0,v0⟩:=hc 0 (by rw [hnm];simp) 0 _ rfl;obtain rfl:u=_:=v0;simp only [Nat.zero_mul,Nat.add_zero] at e0;rw [e0];simp [hnm]
 have hn3:x.names.length=1:=by rw [hnm];rfl
 rw [hn3] at e ⊢
 cases e
 have D0:DSt z Bu w.heap.size (itmO 5 a1 n1 c1 a2 n2 c2 (some ⟨b,o,none⟩) 1 c3 x.mn x.mx a6 x.vals.length c6 a7 n7 c7) w s (w.alloc (itmO 5 a1 n1 c1 a2 n2 c2 (some ⟨b,o,none⟩) 1 c3 x.mn x.mx a6 x.vals.length c6 a7 n7 c7)):=DSt.new hu hz;have hcn:cntVs x.vals≤1000:=by have:=hx.ok.2.2.1;omega
 have hok:=hx.ok.2.2.2;obtain ⟨hs1,hs2,hs3⟩:=hG s hs;generalize x.vals=l at *;generalize x.mn=mn at *;generalize x.mx=mx at *;clear h3 hc hx hs hG hk5 hnm hn3 hu;have HZ:=Lib.hid hz;have hAt:∀ W,Below z w W→At W (.sl l.length 5 (l.flatMap encV)) (.slice a6 l.length c6):=fun W h=>(h6.below h).toAt (Nat.le_trans hz h.size);have HR:=Lib.hid fun W (h:Below z w W)=>refsN_any _ l W hcn hok (hAt W h);have HI:=Lib.hid fun W (h:Below z w W)=>identsN_any _ l W hcn (hAt W h);have HT:=Lib.hid fun W (h:Below z w W)=>stringsN_any _ l W hcn (hAt W h);have hl1:=rfN_le l;have hl2:=ofM_le 1 l;have hl3:=vN_le l;have hl4:(ofM 1 l).length+(ofM 6 l).length≤2000:=by have:=vN_le l;rw [vN,List.length_append] at this;omega
 have HX:=Lib.hid fun (t:S3) (W:World) (h:DSt z Bu w.heap.size (itmO 5 a1 n1 c1 a2 n2 c2 (some ⟨b,o,none⟩) 1 c3 mn mx a6 l.length c6 a7 n7 c7) w t W)=>itmO_cells h.x;have HDB:=Lib.hid fun (t:S3) (W W':World) (h:DSt z Bu w.heap.size (itmO 5 a1 n1 c1 a2 n2 c2 (some ⟨b,o,none⟩) 1 c3 mn mx a6 l.length c6 a7 n7 c7) w t W) (hb:Below W.heap.size W W')=>h.below hb HZ.out;have D0H:=Lib.hid D0;obtain ⟨x0,-,-,x3,-,-,-,-⟩:=HX.out _ _ D0;have HH:=Lib.hid fun n=>has_f z Bu s nm _ ((D0.below (below_drewN (Below.refl _ _) n) HZ.out).u) (by omega);have hcell':=(D0.ko.below.cell (p:=⟨b,o,none⟩) hbz).trans hcell;have HE:=Lib.hid fun n=>show UPost z Bu s s w (.returned (.bool false)) ((w.alloc (itmO 5 a1 n1 c1 a2 n2 c2 (some ⟨b,o,none⟩) 1 c3 mn mx a6 l.length c6 a7 n7 c7)).drewN n) from by
  have D:=HDB.out _ _ _ D0H.out (below_drewN (Below.refl _ _) n);exact ⟨by rw [grewB_self],D.u,D.ko⟩
 unfold itmO at x0 x3 hcell';clear hAt h6 hz D0 hcell
 cases hq:hasM s.f (sOf nm)
 ·simp only [Bool.false_eq_true,if_false]
  rw [hq] at HH;unfold itV
  go_enter Tryz.func88,Tryz.ntmps88
  go_wp2_with fail
  go_quiet ((go_at_call 148;exact Calls.quiet_of (HH.out _)))
  go_wp2
  go_ret
  exact HE.out _
 ·simp only [if_true]
  rw [hq] at HH;unfold itV
  go_enter Tryz.func88,Tryz.ntmps88
  go_upto_region 10 with fail
  go_cut [3,5,41] from 28 to 41 (fun v3 v5 v41 wx=>v3=.pointer (some ⟨w.heap.size,0,none⟩)∧v5=.bool false∧v41=.bool true∧Hid (DSt z Bu w.heap.size (itmO 5 a1 n1 c1 a2 n2 c2 (some ⟨b,o,none⟩) 1 c3 mn mx a6 l.length c6 a7 n7 c7) w s wx))
  case first =>
   go_quiet ((go_at_call 148;exact Calls.quiet_of (HH.out _)))
   go_wp2_with fail
   go_meet
   exact ⟨rfl,rfl,rfl,Lib.hid (HDB.out _ _ _ D0H.out (below_drewN (Below.refl _ _) _))⟩
  case rest =>
  obtain ⟨rfl,rfl,rfl,D1H⟩:=hcut;clear HH D0H x0 x3 hcell'
  go_upto_region 11 with fail
  have D1:=D1H.out;obtain ⟨-,-,-,-,-,-,x6,-⟩:=HX.out _ _ D1;have D1d:DSt z Bu w.heap.size (itmO 5 a1 n1 c1 a2 n2 c2 (some ⟨b,o,none⟩) 1 c3 mn mx a6 l.length c6 a7 n7 c7) w s wc.drew:=HDB.out _ _ _ D1 (Below.refl _ _).drew;obtain ⟨-,-,-,-,-,-,x6d,-⟩:=HX.out _ _ D1d;have D1dH:=Lib.hid D1d;have R1:=Lib.hid (HR.out _ D1d.ko.below);clear D1 D1d
  go_cut [3,5] from 42 to 48 (fun v3 v5 wx=>v3=.pointer (some ⟨w.heap.size,0,none⟩)∧v5=.bool (decide (s.c.length<(addM s.c (rfN l)).length))∧Hid (DSt z Bu w.heap.size (itmO 5 a1 n1 c1 a2 n2 c2 (some ⟨b,o,none⟩) 1 c3 mn mx a6 l.length c6 a7 n7 c7) w ⟨addM s.c (rfN l),s.f,s.g⟩ wx))
  case first =>
   go_region_held3 (fun w'=>w'.cell? ⟨w.heap.size,6,none⟩=some (.slice a6 l.length c6))
    (first | exact x6 | exact x6d | exact x62 | exact x63)
    ((first
      | (go_at_call 58
         refine R1.out.mono ?_;rintro e w2 ⟨v2,rfl,ho2,hB2⟩;have D2:=HDB.out _ _ _ D1dH.out hB2;have A2:=addN_c z Bu _ s v2 (rfN l) w2 D2.u ho2 (D1dH.out.old hB2) (by omega)
         obtain ⟨-,-,-,-,-,-,x62,-⟩:=HX.out _ _ D2)
      | (go_at_call 149
         refine A2.mono ?_;rintro e w3 ⟨rfl,hu3,hk3⟩;have D3:=D2.add hu3 hk3
         obtain ⟨-,-,-,-,-,-,x63,-⟩:=HX.out _ _ D3)))
   go_wp2_with fail
   go_meet
   exact ⟨rfl,rfl,Lib.hid D3⟩
  case rest =>
  obtain ⟨rfl,rfl,D3⟩:=hcut;clear x6 x6d D1H D1dH R1
  go_upto_region 12 with fail
  generalize hq1:decide (s.c.length<(addM s.c (rfN l)).length)=q1;have D1:=D3.out;obtain ⟨-,-,-,-,-,-,x6,-⟩:=HX.out _ _ D1;have D1d:DSt z Bu w.heap.size (itmO 5 a1 n1 c1 a2 n2 c2 (some ⟨b,o,none⟩) 1 c3 mn mx a6 l.length c6 a7 n7 c7) w ⟨addM s.c (rfN l),s.f,s.g⟩ wc.drew:=HDB.out _ _ _ D1 (Below.refl _ _).drew;obtain ⟨-,-,-,-,-,-,x6d,-⟩:=HX.out _ _ D1d;have D1dH:=Lib.hid D1d;have R1:=Lib.hid (HI.out _ D1d.ko.below);clear D1 D1d D3;have HEQ:=Lib.hid fun q3 (h:decide (s.g.length<(addM s.g (vN l)).length)=q3)=>grewB_eq (s:=s) (t:=⟨addM s.c (rfN l),s.f,addM s.g (vN l)⟩) (g2:=false) hq1 (by simp) h
  cases hq3:decide (s.g.length<(addM s.g (vN l)).length)
  ·go_region_held3 (fun w'=>w'.cell? ⟨w.heap.size,6,none⟩=some (.slice a6 l.length c6))
    (first | exact x6 | exact x6d | exact x62 | exact x64 | exact x65 | exact x66 | exact x63)
    ((first
      | (go_at_call 36
         refine R1.out.mono ?_;rintro e w2 ⟨v2,rfl,ho2,hB2⟩;obtain ⟨a2,c2,rfl⟩:=owns_slice ho2;have D2:=HDB.out _ _ _ D1dH.out hB2
         obtain ⟨-,-,-,-,-,-,x62,-⟩:=HX.out _ _ D2)
      | (go_at_call 38
         refine (HT.out _ D2.ko.below).mono ?_;rintro e w4 ⟨v4,rfl,ho4,hB4⟩;obtain ⟨a4,c4,rfl⟩:=owns_slice ho4;have D4:=HDB.out _ _ _ D2 hB4;obtain ⟨-,-,-,-,-,-,x64,-⟩:=HX.out _ _ D4;have D5:=HDB.out _ _ _ D4 (below_alloc w4 (.cells #[.slice a2 (ofM 1 l).length c2,.slice a4 (ofM 6 l).length c4] 25));obtain ⟨-,-,-,-,-,-,x65,-⟩:=HX.out _ _ D5;have C4:=concat2_any (.slice a2 (ofM 1 l).length c2) (.slice a4 (ofM 6 l).length c4) (ofM 1 l) (ofM 6 l) w4 _ _ (ho2.below hB4) ho4 (by omega)
         clear ho2 ho4)
      | (go_at_call 150
         refine C4.mono ?_;rintro e w6 ⟨v6,rfl,ho6,hB6⟩;have D6:=HDB.out _ _ _ D4 hB6;obtain ⟨-,-,-,-,-,-,x66,-⟩:=HX.out _ _ D6;have A2:=addN_g z Bu _ ⟨addM s.c (rfN l),s.f,s.g⟩ v6 (vN l) w6 D6.u ho6 (D4.old hB6) (by show s.g.length+_≤_;omega);dsimp only at A2;rw [hq3] at A2
         clear ho6)
      | (go_at_call 149
         refine A2.mono ?_;rintro e w3 ⟨rfl,hu3,hk3⟩;have D3:=D6.add hu3 hk3
         obtain ⟨-,-,-,-,-,-,x63,-⟩:=HX.out _ _ D3)))
   go_wp2
   go_ret
   refine ⟨?_,D3.u,D3.ko⟩;rw [HEQ.out _ hq3]
   cases q1 <;> rfl
  ·first | (go_region_with ((first
    | (go_at_call 36
       refine R1.out.mono ?_;rintro e w2 ⟨v2,rfl,ho2,hB2⟩;obtain ⟨a2,c2,rfl⟩:=owns_slice ho2;have D2:=HDB.out _ _ _ D1dH.out hB2
       obtain ⟨-,-,-,-,-,-,x62,-⟩:=HX.out _ _ D2)
    | (go_at_call 38
       refine (HT.out _ D2.ko.below).mono ?_;rintro e w4 ⟨v4,rfl,ho4,hB4⟩;obtain ⟨a4,c4,rfl⟩:=owns_slice ho4;have D4:=HDB.out _ _ _ D2 hB4;obtain ⟨-,-,-,-,-,-,x64,-⟩:=HX.out _ _ D4;have D5:=HDB.out _ _ _ D4 (below_alloc w4 (.cells #[.slice a2 (ofM 1 l).length c2,.slice a4 (ofM 6 l).length c4] 25));obtain ⟨-,-,-,-,-,-,x65,-⟩:=HX.out _ _ D5;have C4:=concat2_any (.slice a2 (ofM 1 l).length c2) (.slice a4 (ofM 6 l).length c4) (ofM 1 l) (ofM 6 l) w4 _ _ (ho2.below hB4) ho4 (by omega)
       clear ho2 ho4)
    | (go_at_call 150
       refine C4.mono ?_;rintro e w6 ⟨v6,rfl,ho6,hB6⟩;have D6:=HDB.out _ _ _ D4 hB6;obtain ⟨-,-,-,-,-,-,x66,-⟩:=HX.out _ _ D6;have A2:=addN_g z Bu _ ⟨addM s.c (rfN l),s.f,s.g⟩ v6 (vN l) w6 D6.u ho6 (D4.old hB6) (by show s.g.length+_≤_;omega);dsimp only at A2;rw [hq3] at A2
       clear ho6)
    | (go_at_call 149
       refine A2.mono ?_;rintro e w3 ⟨rfl,hu3,hk3⟩;have D3:=D6.add hu3 hk3
       obtain ⟨-,-,-,-,-,-,x63,-⟩:=HX.out _ _ D3)))) | fail
   all_goals (
    go_wp2
    go_ret
    refine ⟨?_,D3.u,D3.ko⟩;rw [HEQ.out _ hq3]
    cases q1 <;> rfl)
theorem item_any (hG:∀ s,G s→Sz s) (x:Itm) (hu:UAt z Bu s w) (hz:z≤w.heap.size) (hx:ItOk G x) (hs:G s)
 (h2:AtB z w (.sl x.decls.length 3 (x.decls.flatMap encD)) (.slice a2 x.decls.length c2)) (h3:AtB z w (.sl x.names.length 1 (x.names.flatMap encN)) (.slice a3 x.names.length c3)) (h6:AtB z w (.sl x.vals.length 5 (x.vals.flatMap encV)) (.slice a6 x.vals.length c6)) :
 Calls Tryz.prog 88 #[.pointer (some ⟨Bu,0,none⟩),itV x.kind a1 n1 c1 a2 x.decls.length c2 a3 x.names.length c3 x.mn x.mx a6 x.vals.length c6 a7 n7 c7] w (UPost z Bu s (itemM s x) w):=by
 by_cases h1:x.kind=1
 ·exact item_rule hG x hu hz hx hs h1 h2
 ·by_cases h5:x.kind=5∧x.names.length=1
  ·obtain ⟨n,hn⟩:=List.length_eq_one_iff.1 h5.2
   exact item_frames hG x hu hz hx hs h5.1 hn h3 h6
  ·exact item_other x hu hz h1 fun e hn=>h5 ⟨e,hn⟩
end
def GPost (z Bu Bg:Nat) (t:S3) (g:Bool) (w:World) (e:Ending) (w':World):Prop:=e=.returned (.bool true)∧StG z Bu Bg t g w'∧KO (OwG Bu Bg) z w w'
def cloV (Bu Bg:Nat):Value:=.func (.func 87) #[] #[.pointer (some ⟨Bu,0,none⟩),.pointer (some ⟨Bg,0,none⟩)]
theorem gO_cell {W:World} {Bg:Nat} {g:Bool} (h:W.heap[Bg]?=some (gO g)):W.cell? ⟨Bg,0,none⟩=some (.bool g)∧W.frozen? ⟨Bg,0,none⟩=false:=by
 refine ⟨by rw [Lib.cell_of_heap h];rfl,Lib.frozen_of_heap h 0⟩
theorem cntIs_at {l:List Itm} {k:Nat} (hk:k<l.length):cntIs l[k].l<cntIs l:=by
 have h:=cntIs_snoc hk;have h2:=cntIs_append (l.take (k+1)) (l.drop (k+1));rw [List.take_append_drop] at h2;omega
section
variable {z Bu Bg:Nat} {G:S3→Prop} {s:S3} {g:Bool} {a1 a2 a3 a6 a7:Option Addr} {n1 c1 c2 c3 c6 n7 c7:Nat} {w:World}
set_option maxRecDepth 100000 in
set_option maxHeartbeats 4000000 in
theorem clo_any (hG:∀ s,G s→Sz s) (x:Itm) (hst:StG z Bu Bg s g w) (hz:z≤w.heap.size) (hx:ItOk G x) (hs:G s)
 (h2:AtB z w (.sl x.decls.length 3 (x.decls.flatMap encD)) (.slice a2 x.decls.length c2)) (h3:AtB z w (.sl x.names.length 1 (x.names.flatMap encN)) (.slice a3 x.names.length c3)) (h6:AtB z w (.sl x.vals.length 5 (x.vals.flatMap encV)) (.slice a6 x.vals.length c6)) :
 Calls Tryz.prog 87 #[itV x.kind a1 n1 c1 a2 x.decls.length c2 a3 x.names.length c3 x.mn x.mx a6 x.vals.length c6 a7 n7 c7,.pointer (some ⟨Bu,0,none⟩),.pointer (some ⟨Bg,0,none⟩)] w
  (GPost z Bu Bg (itemM s x) (grewB s (itemM s x)||g) w):=by
 have hb:=below_alloc w (itmO x.kind a1 n1 c1 a2 x.decls.length c2 a3 x.names.length c3 x.mn x.mx a6 x.vals.length c6 a7 n7 c7);have S1:=hst.below hb;have K1:=hst.ko hb hz;have HI:=Lib.hid (item_any (a1:=a1) (n1:=n1) (c1:=c1) (a7:=a7) (n7:=n7) (c7:=c7) hG x S1.u (Nat.le_trans hz hb.size) hx hs (h2.below (hb.mono hz)) (h3.below (hb.mono hz)) (h6.below (hb.mono hz)));have HX:=Lib.hid (itmO_cells (World.alloc_heap_new w (itmO x.kind a1 n1 c1 a2 x.decls.length c2 a3 x.names.length c3 x.mn x.mx a6 x.vals.length c6 a7 n7 c7)));have HS:=Lib.hid (And.intro S1 K1);clear hst hz hx hs h2 h3 h6 hb S1 K1 hG;generalize itemM s x=t at *;generalize x.names.length=n3 at *;generalize x.vals.length=n6 at *;generalize x.decls.length=n2 at *;generalize x.mn=mn at *;generalize x.mx=mx at *;generalize x.kind=kd at *;unfold itmO at HX HI HS;unfold itV at HI ⊢;obtain ⟨x0,x1,x2,x3,x4,x5,x6,x7⟩:=HX.out;generalize hq:grewB s t=q at *;have HQ:=Lib.hid hq;clear hq HX
 cases q
 ·go_enter Tryz.func87,Tryz.ntmps87
  go_wp2_with fail
  refine HI.out.mono ?_;rintro e w2 ⟨rfl,hu2,hk2⟩;rw [HQ.out];obtain ⟨S2,K2⟩:=HS.out.1.turn hu2 hk2;obtain ⟨g1,g2⟩:=gO_cell S2.g;obtain ⟨S3,K3⟩:=S2.put g;have HE:=Lib.hid (And.intro S3 ((HS.out.2.trans K2).trans K3));clear x0 x1 x2 x3 x4 x5 x6 x7 S2 K2 S3 K3 hu2 hk2
  go_wp2
  go_ret
  exact ⟨rfl,HE.out.1,HE.out.2⟩
 ·go_enter Tryz.func87,Tryz.ntmps87
  go_wp2_with fail
  refine HI.out.mono ?_;rintro e w2 ⟨rfl,hu2,hk2⟩;rw [HQ.out];obtain ⟨S2,K2⟩:=HS.out.1.turn hu2 hk2;obtain ⟨g1,g2⟩:=gO_cell S2.g;obtain ⟨S3,K3⟩:=S2.put true;have HE:=Lib.hid (And.intro S3 ((HS.out.2.trans K2).trans K3));clear x0 x1 x2 x3 x4 x5 x6 x7 S2 K2 S3 K3 hu2 hk2
  go_wp2
  go_ret
  exact ⟨rfl,HE.out.1,HE.out.2⟩
set_option maxRecDepth 100000 in
set_option maxHeartbeats 8000000 in
theorem inner_any (hG:∀ s,G s→Sz s) (N:Nat):∀ (l:List Itm),SizeOf.sizeOf l≤N→cntIs l≤1000000→(∀ x∈flatIs l,ItOk G x)→∀ (v:Value) (s:S3) (g:Bool) (w:World),RdI Bu Bg z w l v→StG z Bu Bg s g w→z≤w.heap.size→G s →
 Calls Tryz.prog 86 #[v,cloV Bu Bg] w (GPost z Bu Bg (passM s l) (grewB s (passM s l)||g) w):=by
 induction N with
 | zero=>intro l hl;cases l <;> simp at hl <;> omega
 | succ N ih =>
   intro l hl hcn hit v s g w hv hst hz hs;have hlen:l.length≤1000000:=Nat.le_trans (cntIs_len l) hcn;rcases hv with ⟨rfl,ad,cap,rfl⟩ | ⟨b,o,cap,rfl,hcap,hpos,hbs,hno,hc⟩
   ·have HS:=Lib.hid (And.intro hst (KO.refl (z:=z) fun k hk=>(hst.own hk).2))
    have HG:=Lib.hid (grewB_self s);clear ih hl hit hst hz hs hG;unfold cloV
    go_enter Tryz.func86,Tryz.ntmps86
    go_wp2
    go_loopw [6,9] (fun _ i wr=>i=.int .i64 0∧wr=w) (fun _ _ _=>0)
    case atStart=>exact ⟨rfl,rfl⟩
    case round =>
     obtain ⟨rfl,rfl⟩:=hrel
     go_wp2
     go_ret
     refine ⟨rfl,?_,HS.out.2⟩;rw [pass_nil,HG.out];exact HS.out.1
   ·have IH:=Lib.hid fun k (hk:k<l.length)=>ih l[k].l (by have:=itm_lt (List.getElem_mem hk);omega) (by have:=cntIs_at hk;omega)
    have HIT:=Lib.hid fun k (hk:k<l.length)=>hit l[k] (flat_self (List.getElem_mem hk)).1;have HIN:=Lib.hid fun k (hk:k<l.length) (h:l[k].kind=2∨l[k].kind=3) x (hx:x∈flatIs l[k].l)=>hit x ((flat_self (List.getElem_mem hk)).2 h x hx);have HP:=Lib.hid fun k (hk:k<l.length)=>pass_snoc hk s;have HGk:=Lib.hid fun k=>pass_ok (l:=l.take k) (fun x hx=>hit x (flat_take x hx)) hs;have HU:=Lib.hid fun k=>up_pass s (l.take k);have HC:=Lib.hid fun (W:World) (h:KO (OwG Bu Bg) z w W) k (hk:k<l.length)=>itB_cells (rd_ko hbs hno hc h) hk;have HS0:=Lib.hid (And.intro hst (KO.refl (z:=z) fun k hk=>(hst.own hk).2));have HZ:=Lib.hid hz;have HB:=Lib.hid (And.intro hbs hno);have HGG:=Lib.hid hG;have HG0:=Lib.hid (grewB_self s);clear ih hl hit hst hz hs hG hc hbs hno hcn;unfold cloV
    go_enter Tryz.func86,Tryz.ntmps86
    go_wp2
    go_loopw [6,9] (fun _ i wr=>∃ k:Nat,k≤l.length∧i=.int .i64 k∧Hid (StG z Bu Bg (passM s (l.take k)) (grewB s (passM s (l.take k))||g) wr∧KO (OwG Bu Bg) z w wr)) (fun _ i _=>l.length - (intOf i).toNat)
    case atStart=>exact ⟨0,Nat.zero_le _,rfl,Lib.hid (by rw [List.take_zero,pass_nil,HG0.out];exact HS0.out)⟩
    case round =>
     obtain ⟨k,hk,rfl,hSK⟩:=hrel
     by_cases hlt:k<l.length
     ·obtain ⟨a1,c1,a2,c2,a3,c3,a6,c6,a7,c7,y0,y1,y2,y3,y4,y5,y6,y7,v1,v2,v3,v6,v7⟩:=HC.out wr hSK.out.2 k hlt
      have hxok:=HIT.out k hlt;have hsz:=hSK.out.2.below.size;have hzr:z≤wr.heap.size:=Nat.le_trans HZ.out hsz;have hba:=below_alloc wr (itmO l[k].kind a1 l[k].sels.length c1 a2 l[k].decls.length c2 a3 l[k].names.length c3 l[k].mn l[k].mx a6 l[k].vals.length c6 a7 l[k].l.length c7);have S1:=hSK.out.1.below hba;have K1:=hSK.out.1.ko hba hzr;have HCL:=Lib.hid (clo_any (a1:=a1) (n1:=l[k].sels.length) (c1:=c1) (a7:=a7) (n7:=l[k].l.length) (c7:=c7) HGG.out l[k] S1 (Nat.le_trans hzr hba.size) hxok (HGk.out k) (v2.below (hba.mono hzr)) (v3.below (hba.mono hzr)) (v6.below (hba.mono hzr)));have hX:=World.alloc_heap_new wr (itmO l[k].kind a1 l[k].sels.length c1 a2 l[k].decls.length c2 a3 l[k].names.length c3 l[k].mn l[k].mx a6 l[k].vals.length c6 a7 l[k].l.length c7);have hXn:¬OwG Bu Bg (wr.alloc (itmO l[k].kind a1 l[k].sels.length c1 a2 l[k].decls.length c2 a3 l[k].names.length c3 l[k].mn l[k].mx a6 l[k].vals.length c6 a7 l[k].l.length c7)) wr.heap.size:=fun ho=>by
       rcases ho with ho | ho
       ·have:=hSK.out.1.ltg;omega
       ·have:=(hSK.out.1.u.own (OwU_below hSK.out.1.u.lt hba _ ho)).2;omega
      have HXB:=Lib.hid fun (W:World) (h:KO (OwG Bu Bg) z (wr.alloc (itmO l[k].kind a1 l[k].sels.length c1 a2 l[k].decls.length c2 a3 l[k].names.length c3 l[k].mn l[k].mx a6 l[k].vals.length c6 a7 l[k].l.length c7)) W) =>
       itmO_cells ((h.same _ (Array.getElem?_eq_some_iff.1 hX).1 hXn).trans hX)
      obtain ⟨x0,x1,x2,x3,x4,x5,x6,x7⟩:=itmO_cells hX;have HK1:=Lib.hid (hSK.out.2.trans K1);have HPk:=HP.out k hlt;have HREC:=Lib.hid (IH.out k hlt);have HINk:=Lib.hid (HIN.out k hlt);have hUp1:=up_item (passM s (l.take k)) l[k];have hUp2:=fun h:l[k].kind=2∨l[k].kind=3=>up_pass (itemM (passM s (l.take k)) l[k]) l[k].l;have HGI:=Lib.hid (item_ok hxok (HGk.out k));have hg1:=grew_or (HU.out k) hUp1;have hg2:=fun h=>grew_or ((HU.out k).trans hUp1) (hUp2 h);have HG1:=Lib.hid hg1;have HG2:=Lib.hid hg2;have V7:=Lib.hid v7;have HPk':=Lib.hid HPk;clear hxok v1 v2 v3 v6 v7 S1 K1 hX hXn hUp1 hUp2 hg1 hg2 HPk hba;unfold itmO at HCL HXB HK1 x0 x1 x2 x3 x4 x5 x6 x7;unfold itV at HCL;have y0':=y0;generalize passM s (l.take k)=sk at *;generalize hsk1:passM s (l.take (k+1))=sk1 at *;have HSK1:=Lib.hid hsk1;clear hsk1;generalize itemM sk l[k]=ti at *;generalize l[k].kind=kd at *;generalize l[k].sels.length=n1 at *;generalize l[k].decls.length=n2 at *;generalize l[k].names.length=n3 at *;generalize l[k].vals.length=n6 at *;generalize l[k].mn=mn at *;generalize l[k].mx=mx at *;generalize l[k].l=ll at *
      by_cases hkk:kd=2∨kd=3
      ·have HG2k:=Lib.hid (HG2.out hkk)
       have HPk2:Hid (sk1=passM ti ll):=Lib.hid (by rw [HPk'.out,if_pos hkk]);have HIN2:=Lib.hid (HINk.out hkk);clear HPk' HG2 HINk;rcases hkk with rfl | rfl
       all_goals
        go_wp2_with fail
        refine HCL.out.mono ?_;rintro e w2 ⟨rfl,hS2,hK2⟩;obtain ⟨x0',-,-,-,-,-,-,x7'⟩:=HXB.out w2 hK2;have hK02:=HK1.out.trans hK2;have hz2:z≤w2.heap.size:=Nat.le_trans HZ.out hK02.below.size;have HR:=Lib.hid (HREC.out HIN2.out _ ti _ w2 (rd_of hS2 hz2 ((V7.out.below (below_alloc wr _ |>.mono hzr)).below hK2.below)) hS2 hz2 HGI.out);have HK02:=Lib.hid hK02;clear x0 x1 x2 x3 x4 x5 x6 x7 y0 y1 y2 y3 y4 y5 y6 y7 hS2 hK2 hK02 HXB HCL;unfold cloV at HR
        go_wp2_with fail
        refine HR.out.mono ?_;rintro e w3 ⟨rfl,hS3,hK3⟩
        have HE:Hid (StG z Bu Bg sk1 (grewB s sk1||g) w3∧KO (OwG Bu Bg) z w w3):=Lib.hid ⟨by
         rw [HPk2.out,HG2k.out,HG1.out,Bool.or_assoc,Bool.or_assoc]
         exact hS3,HK02.out.trans hK3⟩
        clear hS3 hK3 x0' x7' HR HK02
        go_wp2
        go_roundw
        case rel=>exact ⟨k+1,by omega,by go_num,by rw [HSK1.out];exact HE⟩
        case measure=>simp [intOf];omega
      ·have HPk2:Hid (sk1=ti):=Lib.hid (by rw [HPk'.out,if_neg hkk])
       obtain ⟨hk2,hk3⟩:=not_or.1 hkk;clear HPk' HG2 HINk hkk HREC
       go_wp2_with fail
       refine HCL.out.mono ?_;rintro e w2 ⟨rfl,hS2,hK2⟩;obtain ⟨x0',-,-,-,-,-,-,x7'⟩:=HXB.out w2 hK2
       have HE:Hid (StG z Bu Bg sk1 (grewB s sk1||g) w2∧KO (OwG Bu Bg) z w w2):=Lib.hid ⟨by
        rw [HPk2.out,HG1.out,Bool.or_assoc]
        exact hS2,HK1.out.trans hK2⟩
       clear x0 x1 x2 x3 x4 x5 x6 x7 y0 y1 y2 y3 y4 y5 y6 y7 hS2 hK2 HXB HCL
       go_wp2
       go_roundw
       case rel=>exact ⟨k+1,by omega,by go_num,by rw [HSK1.out];exact HE⟩
       case measure=>simp [intOf];omega
     ·obtain rfl:k=l.length:=by omega
      have hSK':=hSK.out;rw [List.take_length] at hSK';have HE:=Lib.hid hSK';clear hSK hSK'
      go_wp2
      go_ret
      exact ⟨rfl,HE.out.1,HE.out.2⟩
end
end Go.Proofs.YtlnaihkombcbcaaGreat
end
