/- The evaluator's memory and the world: what is known, and steps that keep it. -/
import Derived.Test.YtabliahkhafddaaGreatPa1
set_option linter.unusedSimpArgs false
noncomputable section
namespace Go.Ev
open Go.RowKit
def EntR (w:World) (G:Gh):List (Nat×AV×AV)→List MapEntry→Prop
 | [],l=>l=[]
 | e::es,l=>∃ x xs,l=x::xs∧(x.born=e.1∧VR w G e.2.1 x.key∧VR w G e.2.2 x.val)∧EntR w G es xs
theorem EntR.mono {w w':World} {G G':Gh} (h:Ext w w' G G'):∀ {es:List (Nat×AV×AV)} {l:List MapEntry},EntR w G es l→EntR w' G' es l
 | [],_,hl=>hl
 | e::_,_,⟨x,xs,h1,h2,h3⟩=>⟨x,xs,h1,⟨h2.1,VR.mono h e.2.1 h2.2.1,VR.mono h e.2.2 h2.2.2⟩,EntR.mono h h3⟩
def CellsR (w:World) (G:Gh) (c:Array Value) (ro:Nat) (cs:List AV):Prop:=∀ (i:Nat) (a:AV),cs[i]?=some a→∃ v,c[ro+i]?=some v∧VR w G a v
theorem CellsR.mono {w w':World} {G G':Gh} (h:Ext w w' G G') {c:Array Value} {ro:Nat} {cs:List AV} (hc:CellsR w G c ro cs):CellsR w' G' c ro cs :=
 fun i a hi=>let ⟨v,h1,h2⟩:=hc i a hi;⟨v,h1,VR.mono h a h2⟩
theorem CellsR.le {w:World} {G:Gh} {c:Array Value} {ro:Nat} {cs:List AV} (hc:CellsR w G c ro cs):cs=[]∨ro+cs.length≤c.size:=by
 cases h:cs with
 | nil=>exact .inl rfl
 | cons a as =>
   refine .inr ?_;obtain ⟨v,h1,_⟩:=hc (cs.length - 1) (cs[cs.length - 1]'(by subst h;simp)) (by simp);have:=(Array.getElem?_eq_some_iff.1 h1).1;subst h;simp at this ⊢;omega
def NoFr (c:Array Value) (fr:Nat×Nat):Prop:=∀ o,o<c.size→(decide (fr.1≤o)&&decide (o<fr.2))=false
theorem noFr0 (c:Array Value):NoFr c (0,0):=fun o _=>by simp
theorem NoFr.size {c c':Array Value} {fr:Nat×Nat} (h:NoFr c fr) (hs:c'.size=c.size):NoFr c' fr:=fun o ho=>h o (by omega)
def BlkR (w:World) (G:Gh) (rb ro:Nat):Blk→Prop
 | .cells cs=>∃ (c:Array Value) (e:TypeId) (fr:Nat×Nat),w.heap[rb]?=some (Obj.cells c e fr)∧NoFr c fr∧CellsR w G c ro cs
 | .map es clock=>ro=0∧∃ l,w.heap[rb]?=some (Obj.map l clock)∧EntR w G es l.toList
 | .sit s pos=>ro=0∧w.heap[rb]?=some (Obj.stringIter s pos)
theorem BlkR.mono {w w':World} {G G':Gh} (h:Ext w w' G G') {rb ro:Nat} (hs:w'.heap[rb]?=w.heap[rb]?):∀ {k:Blk},BlkR w G rb ro k→BlkR w' G' rb ro k
 | .cells _,⟨c,e,fr,h1,h0,h2⟩=>⟨c,e,fr,hs.trans h1,h0,h2.mono h⟩
 | .map _ _,⟨h0,l,h1,h2⟩=>⟨h0,l,hs.trans h1,h2.mono h⟩
 | .sit _ _,⟨h0,h1⟩=>⟨h0,hs.trans h1⟩
abbrev GTab:=Nat→Option (List AV)
structure MR (base:Nat) (GT:GTab) (F:Nat→Prop) (rd:List Mem) (cur:Mem) (nx:Nat) (w:World) (G:Gh):Prop where
 fresh:∀ b,nx≤b→F b→G.μ b=none
 blk:∀ b k,getR (cur::rd) b=some k→∃ rb ro,G.μ b=some (rb,ro)∧base≤rb∧¬G.I rb∧BlkR w G rb ro k
 inj:∀ b b' k k' rb ro ro',getR (cur::rd) b=some k→getR (cur::rd) b'=some k'→G.μ b=some (rb,ro)→G.μ b'=some (rb,ro')→b=b'
 imm:∀ rb,G.I rb→rb<w.heap.size
 base:base≤w.heap.size
 gt:∀ g cs,GT g=some cs→RowR w G g 0 cs
 dj:∀ b k,cur.get b=some k→getR rd b=none
structure Stp (base:Nat) (GT:GTab) (F:Nat→Prop) (rd:List Mem) (cur:Mem) (nx:Nat) (w:World) (G:Gh) (cur':Mem) (nx':Nat) (w':World) (G':Gh):Prop where
 mr:MR base GT F rd cur' nx' w' G'
 ext:Ext w w' G G'
 os:w'.os=w.os
 tape:w'.tape=w.tape
 output:w'.output=w.output
 size:w.heap.size≤w'.heap.size
 fr:∀ rb,rb<w.heap.size→(∀ b k ro,cur.get b=some k→G.μ b≠some (rb,ro))→w'.heap[rb]?=w.heap[rb]?
 prov:∀ b k rb ro,cur'.get b=some k→G'.μ b=some (rb,ro)→w.heap.size≤rb∨∃ b0 k0 ro0,cur.get b0=some k0∧G.μ b0=some (rb,ro0)
 impr:∀ rb,G'.I rb→G.I rb∨w.heap.size≤rb∨∃ b0 k0 ro0,cur.get b0=some k0∧G.μ b0=some (rb,ro0)
 mus:∀ b x,G'.μ b=some x→G.μ b=some x∨nx≤b
 nx:nx≤nx'
section
variable {base:Nat} {GT:GTab} {F:Nat→Prop} {rd:List Mem}
theorem MR.ne {cur:Mem} {nx:Nat} {w:World} {G:Gh} (h:MR base GT F rd cur nx w G) (hF:F nx) {b:Nat} {x:Nat×Nat} (hb:G.μ b=some x):b≠nx:=by
 rintro rfl;rw [h.fresh b (Nat.le_refl _) hF] at hb;cases hb
theorem MR.rd_new {cur:Mem} {nx:Nat} {w:World} {G:Gh} (h:MR base GT F rd cur nx w G) (hF:F nx):getR rd nx=none:=by
 cases hc:cur.get nx with
 | some k =>
   exact h.dj nx k hc
 | none =>
   cases hr:getR rd nx with
   | none=>rfl
   | some k =>
     obtain ⟨rb,ro,h1,_⟩:=h.blk nx k (by rw [Q0c,hc,hr];rfl);exact absurd rfl (h.ne hF h1)
theorem BlkR.lt {w:World} {G:Gh} {rb ro:Nat} {k:Blk} (h:BlkR w G rb ro k):rb<w.heap.size:=by
 cases k with
 | cells cs=>obtain ⟨c,e,fr,h1,_⟩:=h;exact (Array.getElem?_eq_some_iff.1 h1).1
 | map es clk=>obtain ⟨_,l,h1,_⟩:=h;exact (Array.getElem?_eq_some_iff.1 h1).1
 | sit s pos=>exact (Array.getElem?_eq_some_iff.1 h.2).1
theorem Stp.trans {c1 c2 c3:Mem} {n1 n2 n3:Nat} {w1 w2 w3:World} {G1 G2 G3:Gh} (h:Stp base GT F rd c1 n1 w1 G1 c2 n2 w2 G2) (k:Stp base GT F rd c2 n2 w2 G2 c3 n3 w3 G3) :
 Stp base GT F rd c1 n1 w1 G1 c3 n3 w3 G3 where
 mr:=k.mr
 ext:=h.ext.trans k.ext
 os:=k.os.trans h.os
 tape:=k.tape.trans h.tape
 output:=k.output.trans h.output
 size:=Nat.le_trans h.size k.size
 fr:=fun rb hl ho=>by
  rw [k.fr rb (Nat.lt_of_lt_of_le hl h.size) ?_,h.fr rb hl ho];intro b x ro hb hm;rcases h.prov b x rb ro hb hm with h1 | ⟨b0,k0,ro0,h1,h2⟩
  ·omega
  ·exact ho b0 k0 ro0 h1 h2
 prov:=fun b x rb ro hb hm=>by
  rcases k.prov b x rb ro hb hm with h1 | ⟨b0,k0,ro0,h1,h2⟩
  ·exact .inl (Nat.le_trans h.size h1)
  ·exact h.prov b0 k0 rb ro0 h1 h2
 impr:=fun rb hi=>by
  rcases k.impr rb hi with h1 | h1 | ⟨b0,k0,ro0,h1,h2⟩
  ·exact h.impr rb h1
  ·exact .inr (.inl (Nat.le_trans h.size h1))
  ·exact .inr (h.prov b0 k0 rb ro0 h1 h2)
 mus:=fun b x hb=>by
  rcases k.mus b x hb with h1 | h1
  ·exact h.mus b x h1
  ·exact .inr (Nat.le_trans h.nx h1)
 nx:=Nat.le_trans h.nx k.nx
theorem Q0b {cur:Mem} {b:Nat} {k:Blk} (h:cur.get b=some k):getR (cur::rd) b=some k:=by rw [Q0c,h];rfl
theorem Stp.world {cur:Mem} {nx:Nat} {w w':World} {G:Gh} (h:MR base GT F rd cur nx w G) (hos:w'.os=w.os) (htape:w'.tape=w.tape) (hout:w'.output=w.output)
 (hsize:w.heap.size≤w'.heap.size) (hsame:∀ k,k<w.heap.size→w'.heap[k]?=w.heap[k]?):Stp base GT F rd cur nx w G cur nx w' G:=by
 have hx:Ext w w' G G:=⟨fun _ _ h=>h,fun _ h=>h,fun rb hr=>hsame rb (h.imm rb hr),fun rb c e fr hc=>⟨c,fr,(hsame rb (Array.getElem?_eq_some_iff.1 hc).1).trans hc,rfl⟩⟩
 exact { mr:=⟨h.fresh,fun b k hb=>by
  obtain ⟨rb,ro,h1,h2,h3,h4⟩:=h.blk b k hb;exact ⟨rb,ro,h1,h2,h3,h4.mono hx (hsame rb h4.lt)⟩,
  h.inj, fun rb hr=>Nat.lt_of_lt_of_le (h.imm rb hr) hsize,Nat.le_trans h.base hsize,fun g cs hg=>RowR.mono hx cs (h.gt g cs hg),h.dj⟩
         ext:=hx,os:=hos,tape:=htape,output:=hout,size:=hsize,fr:=fun rb hl _=>hsame rb hl
         prov:=fun b k rb ro hb hm=>.inr ⟨b,k,ro,hb,hm⟩,impr:=fun _ h=>.inl h,mus:=fun _ _ h=>.inl h,nx:=Nat.le_refl _ }
theorem Stp.refl {cur:Mem} {nx:Nat} {w:World} {G:Gh} (h:MR base GT F rd cur nx w G):Stp base GT F rd cur nx w G cur nx w G :=
 .world h rfl rfl rfl (Nat.le_refl _) fun _ _=>rfl
theorem Stp.forget {cur cur':Mem} {nx nx':Nat} {w:World} {G:Gh} (h:MR base GT F rd cur nx w G) (hs:∀ b k,getR (cur'::rd) b=some k→getR (cur::rd) b=some k)
 (hc:∀ b k,cur'.get b=some k→cur.get b=some k) (hn:nx≤nx'):Stp base GT F rd cur nx w G cur' nx' w G :=
 { mr:=⟨fun b hb hF=>h.fresh b (Nat.le_trans hn hb) hF,fun b k hb=>h.blk b k (hs b k hb),fun b b' k k' rb ro ro' h1 h2 h3 h4=>h.inj b b' k k' rb ro ro' (hs _ _ h1) (hs _ _ h2) h3 h4,h.imm,h.base,h.gt,fun b k hb=>h.dj b k (hc b k hb)⟩
   ext:=.refl w G,os:=rfl,tape:=rfl,output:=rfl,size:=Nat.le_refl _,fr:=fun _ _ _=>rfl
   prov:=fun b k _ ro hb hm=>.inr ⟨b,k,ro,hc b k hb,hm⟩,impr:=fun _ h=>.inl h,mus:=fun _ _ h=>.inl h,nx:=hn }
def Gh.add (G:Gh) (b:Nat) (x:Nat×Nat):Gh:=⟨fun c=>if c=b then some x else G.μ c,G.I⟩
theorem Gh.add_same (G:Gh) (b:Nat) (x:Nat×Nat):(G.add b x).μ b=some x:=by simp [Gh.add]
theorem Gh.add_ne (G:Gh) {b c:Nat} (x:Nat×Nat) (h:c≠b):(G.add b x).μ c=G.μ c:=by simp [Gh.add,h]
theorem heap_alloc_old (w:World) (o:Obj) {k:Nat} (h:k<w.heap.size):(w.alloc o).heap[k]?=w.heap[k]?:=Below.heap_alloc w o k h
theorem heap_alloc_new (w:World) (o:Obj):(w.alloc o).heap[w.heap.size]?=some o:=by
 show (w.heap.push o)[w.heap.size]?=_;simp
theorem size_alloc' (w:World) (o:Obj):(w.alloc o).heap.size=w.heap.size+1:=by
 show (w.heap.push o).size=_;simp
theorem Stp.alloc {cur:Mem} {nx:Nat} {w:World} {G:Gh} (h:MR base GT F rd cur nx w G) (hF:F nx) (o:Obj) (k:Blk)
 (hk:BlkR (w.alloc o) (G.add nx (w.heap.size,0)) w.heap.size 0 k) :
 Stp base GT F rd cur nx w G (Mem.put cur nx k) (nx+1) (w.alloc o) (G.add nx (w.heap.size,0)):=by
 have hold:∀ b x,G.μ b=some x→b≠nx:=fun b x hb=>h.ne hF hb
 have hx:Ext w (w.alloc o) G (G.add nx (w.heap.size,0)):=⟨fun b x hb=>by rw [Gh.add_ne _ _ (hold b x hb)];exact hb,fun _ h=>h,fun rb hr=>heap_alloc_old w o (h.imm rb hr),
  fun rb c e fr hc=>⟨c,fr,(heap_alloc_old w o (Array.getElem?_eq_some_iff.1 hc).1).trans hc,rfl⟩⟩
 have hget:∀ b x,getR ((Mem.put cur nx k)::rd) b=some x→(b=nx∧x=k)∨(b≠nx∧getR (cur::rd) b=some x):=by
  intro b x hb;rw [Q0c,Mem.get_cons] at hb
  by_cases hbn:nx=b
  ·rw [if_pos hbn] at hb;exact .inl ⟨hbn.symm,by simpa using hb.symm⟩
  ·rw [if_neg hbn] at hb;exact .inr ⟨Ne.symm hbn,by rw [Q0c];exact hb⟩
 have hlt:∀ b x,getR (cur::rd) b=some x→∀ rb ro,G.μ b=some (rb,ro)→rb<w.heap.size:=by
  intro b x hb rb ro hm;obtain ⟨rb',ro',h1,_,_,h4⟩:=h.blk b x hb;rw [h1] at hm;cases hm;exact h4.lt
 exact {
  mr := {
   fresh:=fun b hb hFb=>by rw [Gh.add_ne _ _ (by omega)];exact h.fresh b (by omega) hFb
   blk:=fun b x hb=>by
    rcases hget b x hb with ⟨rfl,rfl⟩ | ⟨hne,hb⟩
    ·exact ⟨w.heap.size,0,Gh.add_same _ _ _,h.base,fun hi=>by have:=h.imm _ hi;omega,hk⟩
    ·obtain ⟨rb,ro,h1,h2,h3,h4⟩:=h.blk b x hb
     exact ⟨rb,ro,by rw [Gh.add_ne _ _ hne];exact h1,h2,h3,h4.mono hx (heap_alloc_old w o h4.lt)⟩
   inj:=fun b b' x x' rb ro ro' h1 h2 h3 h4=>by
    rcases hget b x h1 with ⟨rfl,rfl⟩ | ⟨hne,hb⟩ <;> rcases hget b' x' h2 with ⟨rfl,rfl⟩ | ⟨hne',hb'⟩
    ·rfl
    ·rw [Gh.add_same] at h3;cases h3
     rw [Gh.add_ne _ _ hne'] at h4;have:=hlt b' x' hb' _ _ h4;omega
    ·rw [Gh.add_same] at h4;cases h4
     rw [Gh.add_ne _ _ hne] at h3;have:=hlt b x hb _ _ h3;omega
    ·rw [Gh.add_ne _ _ hne] at h3;rw [Gh.add_ne _ _ hne'] at h4
     exact h.inj b b' x x' rb ro ro' hb hb' h3 h4
   imm:=fun rb hr=>by rw [size_alloc'];have:=h.imm rb hr;omega
   base:=by rw [size_alloc'];have:=h.base;omega
   gt:=fun g cs hg=>RowR.mono hx cs (h.gt g cs hg)
   dj:=fun b x hb=>by
    rw [Mem.get_cons] at hb
    by_cases hbn:nx=b
    ·subst hbn;exact h.rd_new hF
    ·rw [if_neg hbn] at hb;exact h.dj b x hb }
  ext:=hx,os:=rfl,tape:=rfl,output:=rfl,size:=by rw [size_alloc'];omega
  fr:=fun rb hl _=>heap_alloc_old w o hl
  prov:=fun b x rb ro hb hm=>by
   rw [Mem.get_cons] at hb
   by_cases hbn:nx=b
   ·subst hbn;rw [Gh.add_same] at hm;cases hm;exact .inl (Nat.le_refl _)
   ·rw [if_neg hbn] at hb;rw [Gh.add_ne _ _ (Ne.symm hbn)] at hm;exact .inr ⟨b,x,ro,hb,hm⟩
  impr:=fun _ h=>.inl h
  mus:=fun b x hb=>by
   by_cases hbn:b=nx
   ·exact .inr (by omega)
   ·rw [Gh.add_ne _ _ hbn] at hb;exact .inl hb
  nx:=by omega }
def setBlk (w:World) (rb:Nat) (o:Obj):World:={ w with heap:=w.heap.setIfInBounds rb o }
theorem Q1k (w:World) {rb:Nat} (o:Obj) (h:rb<w.heap.size):(setBlk w rb o).heap[rb]?=some o:=by
 show (w.heap.setIfInBounds rb o)[rb]?=_;simp [h]
theorem setBlk_ne (w:World) {rb k:Nat} (o:Obj) (h:k≠rb):(setBlk w rb o).heap[k]?=w.heap[k]?:=by
 show (w.heap.setIfInBounds rb o)[k]?=_;rw [Array.getElem?_setIfInBounds_ne (Ne.symm h)]
theorem setBlk_size (w:World) (rb:Nat) (o:Obj):(setBlk w rb o).heap.size=w.heap.size:=by
 show (w.heap.setIfInBounds rb o).size=_;simp
theorem Stp.write {cur:Mem} {nx:Nat} {w:World} {G:Gh} (h:MR base GT F rd cur nx w G) {b rb ro:Nat} {k k':Blk} (o:Obj) (hb:cur.get b=some k) (hm:G.μ b=some (rb,ro))
 (hsh:∀ (c:Array Value) (e:TypeId) (fr:Nat×Nat),w.heap[rb]?=some (Obj.cells c e fr)→∃ (c':Array Value) (fr':Nat×Nat),o=Obj.cells c' e fr'∧c'.size=c.size)
 (hk:Ext w (setBlk w rb o) G G→BlkR (setBlk w rb o) G rb ro k') :
 Stp base GT F rd cur nx w G (cur.set b k') nx (setBlk w rb o) G:=by
 obtain ⟨rb',ro',e1,hbase,hni,hbl⟩:=h.blk b k (Q0b hb);rw [hm] at e1;cases e1;have hlt:=hbl.lt
 have hx:Ext w (setBlk w rb o) G G:=⟨fun _ _ h=>h,fun _ h=>h,fun r hr=>setBlk_ne w o (fun e=>hni (e▸hr)),
  fun r c e fr hc=>by
   by_cases hr:r=rb
   ·subst hr
    obtain ⟨c',fr',h1,h2⟩:=hsh c e fr hc;exact ⟨c',fr',by rw [Q1k w o hlt,h1],h2⟩
   ·exact ⟨c,fr,by rw [setBlk_ne w o hr];exact hc,rfl⟩⟩
 have hget:∀ c x,getR (cur.set b k'::rd) c=some x→(c=b∧x=k')∨(c≠b∧getR (cur::rd) c=some x):=by
  intro c x hc;rw [Q0c,Mem.get_set] at hc
  by_cases hcb:b=c
  ·subst hcb;rw [if_pos rfl,hb] at hc;exact .inl ⟨rfl,by simpa using hc.symm⟩
  ·rw [if_neg hcb] at hc;exact .inr ⟨Ne.symm hcb,by rw [Q0c];exact hc⟩
 have hcur:∀ c x,(cur.set b k').get c=some x→∃ x0,cur.get c=some x0:=by
  intro c x hc;rw [Mem.get_set] at hc
  by_cases hcb:b=c
  ·subst hcb;exact ⟨k,hb⟩
  ·rw [if_neg hcb] at hc;exact ⟨x,hc⟩
 have hwas:∀ c x,getR (cur.set b k'::rd) c=some x→∃ x0,getR (cur::rd) c=some x0:=by
  intro c x hc;rcases hget c x hc with ⟨rfl,_⟩ | ⟨_,hc⟩
  ·exact ⟨k,Q0b hb⟩
  ·exact ⟨x,hc⟩
 exact {
  mr := {
   fresh:=h.fresh
   blk:=fun c x hc=>by
    rcases hget c x hc with ⟨rfl,rfl⟩ | ⟨hne,hc⟩
    ·exact ⟨rb,ro,hm,hbase,hni,hk hx⟩
    ·obtain ⟨rc,ro',h1,h2,h3,h4⟩:=h.blk c x hc
     have:rc≠rb:=fun e=>hne (h.inj c b x k rb ro' ro hc (Q0b hb) (e▸h1) hm);exact ⟨rc,ro',h1,h2,h3,h4.mono hx (setBlk_ne w o this)⟩
   inj:=fun c c' x x' r ro ro' h1 h2 h3 h4=>by
    obtain ⟨y,hy⟩:=hwas c x h1;obtain ⟨y',hy'⟩:=hwas c' x' h2;exact h.inj c c' y y' r ro ro' hy hy' h3 h4
   imm:=fun r hr=>by rw [setBlk_size];exact h.imm r hr
   base:=by rw [setBlk_size];exact h.base
   gt:=fun g cs hg=>RowR.mono hx cs (h.gt g cs hg)
   dj:=fun c x hc=>by obtain ⟨x0,h0⟩:=hcur c x hc;exact h.dj c x0 h0 }
  ext:=hx,os:=rfl,tape:=rfl,output:=rfl,size:=by rw [setBlk_size];exact Nat.le_refl _
  fr:=fun r _ hno=>setBlk_ne w o fun e=>hno b k ro hb (e▸hm)
  prov:=fun c x r ro hc hm=>by
   obtain ⟨x0,h0⟩:=hcur c x hc;exact .inr ⟨c,x0,ro,h0,hm⟩
  impr:=fun _ h=>.inl h
  mus:=fun _ _ h=>.inl h
  nx:=Nat.le_refl _ }
theorem Stp.rename {cur:Mem} {nx:Nat} {w:World} {G:Gh} (h:MR base GT F rd cur nx w G) (hF:F nx) {b rb ro o:Nat} {cs:List AV} (hb:cur.get b=some (.cells cs)) (hnr:getR rd b=none) (hm:G.μ b=some (rb,ro)) :
 Stp base GT F rd cur nx w G (Mem.put (cur.del b) nx (.cells (cs.drop o))) (nx+1) w (G.add nx (rb,ro+o)):=by
 have hold:∀ c x,G.μ c=some x→c≠nx:=fun c x hc=>h.ne hF hc;have hbn:=hold b _ hm;obtain ⟨rb',ro',e1,hbase,hni,hbl⟩:=h.blk b _ (Q0b hb);rw [hm] at e1;cases e1;have hx:Ext w w G (G.add nx (rb,ro+o)):=⟨fun c x hc=>by rw [Gh.add_ne _ _ (hold c x hc)];exact hc,fun _ h=>h,fun _ _=>rfl,fun _ c _ fr hc=>⟨c,fr,hc,rfl⟩⟩;have hget:∀ c x,getR ((Mem.put (cur.del b) nx (Blk.cells (cs.drop o)))::rd) c=some x→(c=nx∧x=.cells (cs.drop o))∨(c≠nx∧c≠b∧getR (cur::rd) c=some x):=by
  intro c x hc;rw [Q0c,Mem.get_cons] at hc
  by_cases hcn:nx=c
  ·rw [if_pos hcn] at hc;exact .inl ⟨hcn.symm,by simpa using hc.symm⟩
  ·rw [if_neg hcn,Mem.get_del] at hc
   refine .inr ⟨Ne.symm hcn,?_,?_⟩
   ·rintro rfl;rw [if_pos rfl,hnr] at hc;cases hc
   ·by_cases hbc:b=c
    ·subst hbc;rw [if_pos rfl,hnr] at hc;cases hc
    ·rw [if_neg hbc] at hc;rw [Q0c];exact hc
 exact {
  mr := {
   fresh:=fun c hc hFc=>by rw [Gh.add_ne _ _ (by omega)];exact h.fresh c (by omega) hFc
   blk:=fun c x hc=>by
    rcases hget c x hc with ⟨rfl,rfl⟩ | ⟨hne,_,hc⟩
    ·refine ⟨rb,ro+o,Gh.add_same _ _ _,hbase,hni,?_⟩
     obtain ⟨cc,e,fr,h1,h0,h2⟩:=hbl;refine ⟨cc,e,fr,h1,h0,fun i a hi=>?_⟩;rw [List.getElem?_drop] at hi;obtain ⟨v,h3,h4⟩:=h2 _ a hi;exact ⟨v,by rw [Nat.add_assoc];exact h3,VR.mono hx a h4⟩
    ·obtain ⟨rc,ro',h1,h2,h3,h4⟩:=h.blk c x hc
     exact ⟨rc,ro',by rw [Gh.add_ne _ _ hne];exact h1,h2,h3,h4.mono hx rfl⟩
   inj:=fun c c' x x' r r1 r2 h1 h2 h3 h4=>by
    rcases hget c x h1 with ⟨rfl,rfl⟩ | ⟨hne,hnb,hc⟩ <;> rcases hget c' x' h2 with ⟨rfl,rfl⟩ | ⟨hne',hnb',hc'⟩
    ·rfl
    ·rw [Gh.add_same] at h3;cases h3
     rw [Gh.add_ne _ _ hne'] at h4;exact absurd (h.inj c' b x' _ rb r2 ro hc' (Q0b hb) h4 hm) hnb'
    ·rw [Gh.add_same] at h4;cases h4
     rw [Gh.add_ne _ _ hne] at h3;exact absurd (h.inj c b x _ rb r1 ro hc (Q0b hb) h3 hm) hnb
    ·rw [Gh.add_ne _ _ hne] at h3;rw [Gh.add_ne _ _ hne'] at h4
     exact h.inj c c' x x' r r1 r2 hc hc' h3 h4
   imm:=h.imm,base:=h.base
   gt:=fun g cs hg=>RowR.mono hx cs (h.gt g cs hg)
   dj:=fun c x hc=>by
    rw [Mem.get_cons] at hc
    by_cases hcn:nx=c
    ·subst hcn;exact h.rd_new hF
    ·rw [if_neg hcn,Mem.get_del] at hc
     by_cases hbc:b=c
     ·rw [if_pos hbc] at hc;cases hc
     ·rw [if_neg hbc] at hc;exact h.dj c x hc }
  ext:=hx,os:=rfl,tape:=rfl,output:=rfl,size:=Nat.le_refl _
  fr:=fun _ _ _=>rfl
  prov:=fun c x r r1 hc hm'=>by
   rw [Mem.get_cons] at hc
   by_cases hcn:nx=c
   ·subst hcn;rw [Gh.add_same] at hm';cases hm';exact .inr ⟨b,_,ro,hb,hm⟩
   ·rw [if_neg hcn,Mem.get_del] at hc
    rw [Gh.add_ne _ _ (Ne.symm hcn)] at hm'
    by_cases hbc:b=c
    ·rw [if_pos hbc] at hc;cases hc
    ·rw [if_neg hbc] at hc;exact .inr ⟨c,x,r1,hc,hm'⟩
  impr:=fun _ h=>.inl h
  mus:=fun c x hc=>by
   by_cases hcn:c=nx
   ·exact .inr (by omega)
   ·rw [Gh.add_ne _ _ hcn] at hc;exact .inl hc
  nx:=by omega }
end
end Go.Ev
end
