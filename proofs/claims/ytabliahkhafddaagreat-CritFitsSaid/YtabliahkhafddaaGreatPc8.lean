/- Walks over known shapes: names by a function; many blocks that are written no more. Of no program. -/
import Derived.Test.YtabliahkhafddaaGreatPc7
set_option linter.unusedSimpArgs false
noncomputable section
namespace Go.Ev
open Go.RowKit
section
variable {GT:GTab} {E:Beg} {l l':List AV} {m m':ML} {n n':Nat}
def reT (h:Nat→Nat) (n':Nat):List AV→List AV→Prop
 | [],l=>l=[]
 | a::as,l=>∃ b bs,l=b::bs∧(a=.any∨(b=reF h a∧ltA n' a))∧reT h n' as bs
theorem reT_get {h:Nat→Nat}:∀ {l' l:List AV},reT h n' l' l→∀ (t:Nat) (a:AV),l'[t]?=some a→∃ b,l[t]?=some b∧(a=.any∨(b=reF h a∧ltA n' a))
 | [],_,_,t,a,e=>by simp at e
 | a::as,_,e,t,x,hx=>by
   obtain ⟨b,bs,rfl,h1,h2⟩:=e
   cases t with
   | zero=>simp only [List.getElem?_cons_zero,Option.some.injEq] at hx;subst hx;exact ⟨b,rfl,h1⟩
   | succ t=>simp only [List.getElem?_cons_succ] at hx ⊢;exact reT_get h2 t x hx
theorem Q3d {h:Nat→Nat} {a b:AV} {as bs:List AV}:reT h n' (a::as) (b::bs)=((a=.any∨(b=reF h a∧ltA n' a))∧reT h n' as bs) :=
 propext ⟨fun ⟨_,_,e,h1,h2⟩=>by cases e;exact ⟨h1,h2⟩,fun ⟨h1,h2⟩=>⟨_,_,rfl,h1,h2⟩⟩
theorem reT_nil {h:Nat→Nat}:reT h n' [] []=True:=by rw [reT];simp
theorem VS.renF (h:Nat→Nat) (hlow:∀ c,c<E.nx→h c=c) (hhigh:∀ c,E.nx≤c→E.nx≤h c) (hn':E.nx≤n')
 (hinj:∀ c c' k k',getL m' c=some k→getL m' c'=some k'→h c=h c'→c=c')
 (hm:∀ c k,getL m' c=some k→c<n'∧ltB n' k∧getL m (h c)=some (reFB h k)) (hl:reT h n' l' l):VS GT E (stL l m n) (stL l' m' n'):=by
 intro base w1 G1 w G ts hm1 hs ht;have hI:G.I=(⟨fun c=>if c<n' then G.μ (h c) else none,G.I⟩:Gh).I:=rfl;have back:∀ c x,c<n'→G.μ (h c)=some x→(⟨fun c=>if c<n' then G.μ (h c) else none,G.I⟩:Gh).μ c=some x:=fun c x hc hx=>(if_pos hc).trans hx;have mu:∀ {c x},(⟨fun c=>if c<n' then G.μ (h c) else none,G.I⟩:Gh).μ c=some x→c<n'∧G.μ (h c)=some x:=by
  intro c x hx;have hx':(if c<n' then G.μ (h c) else none)=some x:=hx
  split at hx'
  ·exact ⟨by assumption,hx'⟩
  ·cases hx'
 have mu1:∀ c,c<E.nx→(⟨fun c=>if c<n' then G.μ (h c) else none,G.I⟩:Gh).μ c=G.μ c:=fun c hc=>by
  show (if c<n' then G.μ (h c) else none)=_;rw [if_pos (by omega),hlow c hc]
 generalize hG2:(⟨fun c=>if c<n' then G.μ (h c) else none,G.I⟩:Gh)=G2 at *;have hI2:G2.I=G.I:=hI.symm;have hbare:G2.bare=G.bare:=by rw [←hG2];rfl
 have low:∀ (b:Nat) (x:Nat×Nat),G1.μ b=some x→b<E.nx:=by
  intro b x hb;rcases Nat.lt_or_ge b E.nx with h | h
  ·exact h
  ·rw [hm1.fresh b h trivial] at hb;cases hb
 have rdlow:∀ c k,getR E.rd c=some k→E.cur.get c=none∧c<E.nx∧∃ rb ro,G1.μ c=some (rb,ro):=by
  intro c k hc;have hcn:E.cur.get c=none:=by
   cases hx:E.cur.get c with
   | none=>rfl
   | some y=>rw [hm1.dj c y hx] at hc;cases hc
  obtain ⟨rb,ro,e1,-⟩:=hm1.blk c k (by rw [Q0c,hcn];exact hc);exact ⟨hcn,low c _ e1,rb,ro,e1⟩
 have hext:Ext w1 w G1 G2:=⟨fun b x hb=>by rw [mu1 b (low b x hb)];exact hs.ext.mu b x hb,fun r hr=>by rw [hI2];exact hs.ext.im r hr,hs.ext.same,hs.ext.shape⟩;have hbl:∀ c k,(memL m').get c=some k→c<n'∧ltB n' k∧(memL m).get (h c)=some (reFB h k):=by
  intro c k hc;rw [Q0d] at hc;obtain ⟨g1,g2,g3⟩:=hm c k hc;exact ⟨g1,g2,(Q0d m _).trans g3⟩
 have hdj:∀ c k,(memL m').get c=some k→getR E.rd c=none:=by
  intro c k hc
  cases hr:getR E.rd c with
  | none=>rfl
  | some y =>
    obtain ⟨-,hlt,-⟩:=rdlow c y hr;obtain ⟨-,-,g3⟩:=hbl c k hc;rw [hlow c hlt] at g3;rw [hs.mr.dj c _ g3] at hr;cases hr
 have hrd:∀ c k,(memL m').get c=none→getR E.rd c=some k→c<E.nx∧getR (memL m::E.rd) c=some k:=by
  intro c k hcm hc;obtain ⟨-,hlt,-⟩:=rdlow c k hc;have hcn2:(memL m).get c=none:=by
   cases hx:(memL m).get c with
   | none=>rfl
   | some y=>rw [hs.mr.dj c y hx] at hc;cases hc
  exact ⟨hlt,by rw [Q0c,hcn2];exact hc⟩
 have hblk:∀ c k,getR (memL m'::E.rd) c=some k→∃ rb ro,G2.μ c=some (rb,ro)∧base≤rb∧¬G2.I rb∧BlkR w G2 rb ro k:=by
  intro c k hc;rw [Q0c] at hc
  cases hcm:(memL m').get c with
  | some y =>
    rw [hcm,Option.some_or] at hc;obtain rfl:y=k:=by simpa using hc
    obtain ⟨g1,g2,g3⟩:=hbl c y hcm;obtain ⟨rb,ro,e1,e2,e3,e4⟩:=hs.mr.blk (h c) _ (Q0b g3);exact ⟨rb,ro,back c _ g1 e1,e2,by rw [hI2];exact e3,reFB_in (g:=h) (n:=n') (G0:=G2) (G1:=G) hI back g2 e4⟩
  | none =>
    rw [hcm,Option.none_or] at hc;obtain ⟨hcn,hlt,-⟩:=rdlow c k hc;obtain ⟨rb,ro,e1,e2,e3,e4⟩:=hm1.blk c k (by rw [Q0c,hcn];exact hc);have hg:G.μ c=some (rb,ro):=hs.ext.mu c _ e1;obtain ⟨rb',ro',f1,f2,f3,-⟩:=hs.mr.blk c k (hrd c k hcm hc).2;rw [hg] at f1;cases f1;refine ⟨rb,ro,by rw [mu1 c hlt];exact hg,f2,by rw [hI2];exact f3,e4.mono hext (hs.fr rb e4.lt fun b k0 ro0 hb0 he0=>?_)⟩;have:=hm1.inj b c k0 k rb ro0 ro (Q0b hb0) (by rw [Q0c,hcn];exact hc) he0 e1;subst this;rw [hcn] at hb0;cases hb0
 refine ⟨G2,by rw [hbare];exact .refl w _,?_,fun t a ha=>?_⟩
 ·exact {
   mr := {
    fresh:=fun b hb _=>by
     have hb':n'≤b:=hb
     cases hq:G2.μ b with
     | none=>rfl
     | some c=>have:=(mu hq).1;omega
    blk:=hblk
    inj := fun c c' k k' rb ro ro' hc hc' e1 e2=>by
     have back2:∀ c k,getR (memL m'::E.rd) c=some k→(∃ x,getR (memL m::E.rd) (h c)=some x)∧((∃ y,getL m' c=some y)∨c<E.nx):=by
      intro c k hc;rw [Q0c] at hc
      cases hcm:(memL m').get c with
      | some y =>
        obtain ⟨-,-,g3⟩:=hbl c y hcm;exact ⟨⟨_,Q0b g3⟩,.inl ⟨y,by rw [←Q0d];exact hcm⟩⟩
      | none =>
        rw [hcm,Option.none_or] at hc;obtain ⟨hlt,hg⟩:=hrd c k hcm hc;exact ⟨⟨k,by rw [hlow c hlt];exact hg⟩,.inr hlt⟩
     obtain ⟨⟨x,g1⟩,q⟩:=back2 c k hc;obtain ⟨⟨x',g1'⟩,q'⟩:=back2 c' k' hc';have e:=hs.mr.inj (h c) (h c') x x' rb ro ro' g1 g1' (mu e1).2 (mu e2).2;rcases Nat.lt_or_ge c E.nx with a | a <;> rcases Nat.lt_or_ge c' E.nx with b | b
     ·rw [hlow c a,hlow c' b] at e;exact e
     ·have:=hhigh c' b;rw [hlow c a] at e;omega
     ·have:=hhigh c a;rw [hlow c' b] at e;omega
     ·rcases q with ⟨y,q⟩ | q
      ·rcases q' with ⟨y',q'⟩ | q'
       ·exact hinj c c' y y' q q' e
       ·omega
      ·omega
    imm:=fun r hr=>hs.mr.imm r (by rw [hI2] at hr;exact hr)
    base:=hs.mr.base
    gt:=fun g cs hg=>RowR.mono (Ext.unbare w G2) cs (show RowR w G2.bare g 0 cs from by rw [hbare];exact bareRow (G:=G) cs (hs.mr.gt g cs hg))
    dj:=hdj }
   ext:=hext
   os:=hs.os,tape:=hs.tape,output:=hs.output,size:=hs.size,fr:=hs.fr
   prov:=fun c k rb ro hc hx=>by
    obtain ⟨-,-,g3⟩:=hbl c k hc;exact hs.prov (h c) _ rb ro g3 (mu hx).2
   impr:=fun r hr=>hs.impr r (by rw [hI2] at hr;exact hr)
   mus:=fun b x hb=>by
    rcases Nat.lt_or_ge b E.nx with h5 | h5
    ·rw [mu1 b h5] at hb;exact hs.mus b x hb
    ·exact .inr h5
   nx:=hn' }
 ·rw [Q0l] at ha
  obtain ⟨b,g1,g2⟩:=reT_get hl t a ha;obtain ⟨v,g3,g4⟩:=ht t b (by rw [Q0l];exact g1);refine ⟨v,g3,?_⟩;rcases g2 with rfl | ⟨rfl,g5⟩
  ·trivial
  ·exact reF_in (g:=h) (n:=n') (G0:=G2) (G1:=G) hI back a g5 g4
def frAF (S:Nat→Option (List AV)) (a' a:AV):Prop:=a'=.any∨a'=a∨∃ b cs o n sz k,S b=some cs∧a=.gs b o n sz k∧a'=.sl n sz ((cs.drop o).take (n*sz))∧o+n*sz≤cs.length
def frLF (S:Nat→Option (List AV)):List AV→List AV→Prop
 | [],l=>l=[]
 | a::as,l=>∃ x xs,l=x::xs∧frAF S a x∧frLF S as xs
theorem frLF_get {S:Nat→Option (List AV)}:∀ {l' l:List AV},frLF S l' l→∀ (t:Nat) (a:AV),l'[t]?=some a→∃ x,l[t]?=some x∧frAF S a x
 | [],_,_,t,a,h=>by simp at h
 | a::as,_,h,t,x,hx=>by
   obtain ⟨y,ys,rfl,h1,h2⟩:=h
   cases t with
   | zero=>simp only [List.getElem?_cons_zero,Option.some.injEq] at hx;subst hx;exact ⟨y,rfl,h1⟩
   | succ t=>simp only [List.getElem?_cons_succ] at hx ⊢;exact frLF_get h2 t x hx
theorem frLF.of_get {S:Nat→Option (List AV)}:∀ {l' l:List AV},l'.length=l.length→(∀ (t:Nat) (a x:AV),l'[t]?=some a→l[t]?=some x→frAF S a x)→frLF S l' l
 | [],[],_,_=>rfl
 | [],_::_,h,_=>by simp at h
 | _::_,[],h,_=>by simp at h
 | a::as,x::xs,h,k=>⟨x,xs,rfl,k 0 a x rfl rfl,frLF.of_get (by simpa using h) fun t b y h1 h2=>k (t+1) b y (by simpa using h1) (by simpa using h2)⟩
theorem frLF_cons {S:Nat→Option (List AV)} {as as':List AV} {a a':AV}:frLF S (a'::as') (a::as)=(frAF S a' a∧frLF S as' as):=propext ⟨fun ⟨_,_,e,h1,h2⟩=>by cases e;exact ⟨h1,h2⟩,fun ⟨h1,h2⟩=>⟨_,_,rfl,h1,h2⟩⟩
theorem frLF_nil {S:Nat→Option (List AV)}:frLF S [] []=True:=by rw [frLF];simp
theorem frAF_any {S:Nat→Option (List AV)} {a:AV}:frAF S .any a=True:=by simp [frAF]
theorem frAF_self {S:Nat→Option (List AV)} {a:AV}:frAF S a a=True:=by simp [frAF]
def frEF (S:Nat→Option (List AV)):List (Nat×AV×AV)→List (Nat×AV×AV)→Prop
 | [],l=>l=[]
 | e::es,l=>∃ x xs,l=x::xs∧(e.1=x.1∧frAF S e.2.1 x.2.1∧frAF S e.2.2 x.2.2)∧frEF S es xs
theorem frEF.spec {S:Nat→Option (List AV)} {w:World} {G G':Gh} (hv:∀ {a' a:AV} {v:Value},frAF S a' a→VR w G a v→VR w G' a' v):∀ {es es':List (Nat×AV×AV)} {l:List MapEntry},frEF S es' es→EntR w G es l→EntR w G' es' l
 | es,[],_,h,hl=>by obtain rfl:es=[]:=h;exact hl
 | es,e::es',_,h,hl=>by
   obtain ⟨x,xs,rfl,⟨h1,h2,h3⟩,h4⟩:=h;obtain ⟨y,ys,rfl,⟨g1,g2,g3⟩,g4⟩:=hl;exact ⟨y,ys,rfl,⟨g1.trans h1.symm,hv h2 g2,hv h3 g3⟩,frEF.spec hv h4 g4⟩
def frBF (S:Nat→Option (List AV)):Blk→Blk→Prop
 | .cells x,k=>∃ y,k=.cells y∧frLF S x y
 | .map es clk,k=>∃ es',k=.map es' clk∧frEF S es es'
 | .sit _ _,_=>False
theorem VS.sealF (S:Nat→Option (List AV)) (hS:∀ b cs,S b=some cs→getL m b=some (.cells cs)∧∀ a∈cs,plainA a=true) (hl:frLF S l' l)
 (hm:∀ c k,getL m' c=some k→S c=none∧(getL m c=some k∨∃ k',getL m c=some k'∧frBF S k k')):VS GT E (stL l m n) (stL l' m' n):=by
 intro base w1 G1 w G ts hm1 hs ht;have plainIds:∀ {a:AV},plainA a=true→noIds a=true:=fun {a} h=>by cases a <;> first | rfl | (cases h;done)
 have hin:∀ {b cs},S b=some cs→∃ rb ro,G.μ b=some (rb,ro)∧∃ c e fr,w.heap[rb]?=some (Obj.cells c e fr)∧CellsR w G c ro cs:=by
  intro b cs hb;obtain ⟨rb,ro,e1,-,-,c,e,fr,e4,-,e6⟩:=hs.mr.blk b _ (Q0b ((Q0d m b).trans (hS b cs hb).1));exact ⟨rb,ro,e1,c,e,fr,e4,e6⟩
 have hx:Ext w w G ⟨G.μ,fun r=>G.I r∨∃ b cs ro,S b=some cs∧G.μ b=some (r,ro)⟩:=⟨fun _ _ h=>h,fun _ h=>.inl h,fun _ _=>rfl,fun _ c _ fr h=>⟨c,fr,h,rfl⟩⟩;have hv:∀ {a' a:AV} {v:Value},frAF S a' a→VR w G a v→VR w ⟨G.μ,fun r=>G.I r∨∃ b cs ro,S b=some cs∧G.μ b=some (r,ro)⟩ a' v:=by
  intro a' a v h hva;rcases h with rfl | rfl | ⟨b,cs,o,k,sz,kc,hb,rfl,rfl,hle⟩
  ·trivial
  ·exact VR.mono hx _ hva
  ·obtain ⟨rb,ro,e1,c,e,fr,e4,e6⟩:=hin hb
   obtain ⟨rb',ro',o',cap,c',e',fr',g1,rfl,g3,g4,-⟩:=hva;rw [e1] at g1;cases g1;refine ⟨_,cap,rfl,g4,?_⟩
   by_cases h0:k=0
   ·exact .inl h0
   ·refine .inr ⟨rb,ro+o,by rw [g3.resolve_right (by omega)],RowR.mk (G:=⟨G.μ,fun r=>G.I r∨∃ b cs ro,S b=some cs∧G.μ b=some (r,ro)⟩) (show G.I rb∨∃ b cs ro,S b=some cs∧G.μ b=some (rb,ro) from .inr ⟨b,cs,ro,hb,e1⟩) fun i a hi=>?_⟩
    rw [List.getElem?_take] at hi
    split at hi
    ·rw [List.getElem?_drop] at hi
     obtain ⟨u,g5,g6⟩:=e6 _ a hi;refine ⟨u,?_,VR.mono hx.bare a (Q2i a (plainIds ((hS b cs hb).2 a (List.mem_of_getElem? hi))) g6)⟩;rw [cell_of e4,Nat.add_assoc];exact g5
    ·cases hi
 have hback:∀ c k,getR (memL m'::E.rd) c=some k→S c=none∧((getR (memL m::E.rd) c=some k)∨∃ k',getR (memL m::E.rd) c=some k'∧frBF S k k'):=by
  intro c k hc;rw [Q0c] at hc
  cases hcm:(memL m').get c with
  | some y =>
    rw [hcm,Option.some_or] at hc;obtain rfl:y=k:=by simpa using hc
    rw [Q0d] at hcm;obtain ⟨g1,g2⟩:=hm c y hcm;refine ⟨g1,?_⟩;rcases g2 with g2 | ⟨z,g3,g4⟩
    ·exact .inl (getR_memL g2)
    ·exact .inr ⟨z,getR_memL g3,g4⟩
  | none =>
    rw [hcm,Option.none_or] at hc;have hcn:(memL m).get c=none:=by
     cases hy:(memL m).get c with
     | none=>rfl
     | some y=>rw [hs.mr.dj c y hy] at hc;cases hc
    refine ⟨?_,.inl (by rw [Q0c,hcn];exact hc)⟩
    cases hb:S c with
    | none=>rfl
    | some cs=>rw [Q0d,(hS c cs hb).1] at hcn;cases hcn
 have hold:∀ c k,getR (memL m'::E.rd) c=some k→S c=none∧∃ k',getR (memL m::E.rd) c=some k':=by
  intro c k hc;obtain ⟨g1,g2 | ⟨y,g3,-⟩⟩:=hback c k hc
  ·exact ⟨g1,k,g2⟩
  ·exact ⟨g1,_,g3⟩
 refine ⟨⟨G.μ,fun r=>G.I r∨∃ b cs ro,S b=some cs∧G.μ b=some (r,ro)⟩,hx.bare,?_,fun t a ha=>?_⟩
 ·exact {
   mr := {
    fresh:=hs.mr.fresh
    blk:=fun d k hd=>by
     obtain ⟨g1,g2⟩:=hback d k hd;obtain ⟨k',g3⟩:=(hold d k hd).2;obtain ⟨r,o,f1,f2,f3,f4⟩:=hs.mr.blk d k' g3;refine ⟨r,o,f1,f2,fun hi=>?_,?_⟩
     ·rcases hi with hi | ⟨b,cs,ro,hb,e1⟩
      ·exact f3 hi
      ·have:=hs.mr.inj d b k' _ r o ro g3 (Q0b ((Q0d m b).trans (hS b cs hb).1)) f1 e1
       subst this;rw [g1] at hb;cases hb
     ·rcases g2 with g2 | ⟨y,g4,g5⟩
      ·rw [g2] at g3;cases g3;exact f4.mono hx rfl
      ·rw [g4] at g3;cases g3
       cases k with
       | cells x =>
         obtain ⟨y,rfl,g5⟩:=g5;obtain ⟨c',e',fr',h1,h2,h3⟩:=f4;refine ⟨c',e',fr',h1,h2,fun i a hi=>?_⟩;obtain ⟨z,h4,h5⟩:=frLF_get g5 i a hi;obtain ⟨u,h6,h7⟩:=h3 i z h4;exact ⟨u,h6,hv h5 h7⟩
       | map es clk =>
         obtain ⟨es',rfl,g5⟩:=g5;obtain ⟨h0,l0,h1,h2⟩:=f4;exact ⟨h0,l0,h1,frEF.spec hv g5 h2⟩
       | sit s p=>exact g5.elim
    inj:=fun d d' k k' r o o' hd hd' f1 f2=>by
     obtain ⟨x,g1⟩:=(hold d k hd).2;obtain ⟨y,g2⟩:=(hold d' k' hd').2;exact hs.mr.inj d d' x y r o o' g1 g2 f1 f2
    imm:=fun r hi=>by
     rcases hi with hi | ⟨b,cs,ro,hb,e1⟩
     ·exact hs.mr.imm r hi
     ·obtain ⟨rb,ro',e2,c,e,fr,e4,-⟩:=hin hb
      rw [e1] at e2;cases e2;exact (Array.getElem?_eq_some_iff.1 e4).1
    base:=hs.mr.base
    gt:=fun g cs hg=>RowR.mono hx cs (hs.mr.gt g cs hg)
    dj:=fun d k hd=>by
     rw [Q0d] at hd;obtain ⟨g1,g2⟩:=hm d k hd;rcases g2 with g2 | ⟨y,g3,-⟩
     ·exact hs.mr.dj d k ((Q0d m d).trans g2)
     ·exact hs.mr.dj d _ ((Q0d m d).trans g3) }
   ext:=hs.ext.trans hx
   os:=hs.os,tape:=hs.tape,output:=hs.output,size:=hs.size,fr:=hs.fr
   prov:=fun d k r o hd f1=>by
    rw [Q0d] at hd;obtain ⟨g1,g2⟩:=hm d k hd;rcases g2 with g2 | ⟨y,g3,-⟩
    ·exact hs.prov d k r o ((Q0d m d).trans g2) f1
    ·exact hs.prov d _ r o ((Q0d m d).trans g3) f1
   impr:=fun r hi=>by
    rcases hi with hi | ⟨b,cs,ro,hb,e1⟩
    ·exact hs.impr r hi
    ·exact .inr (hs.prov b _ r ro ((Q0d m b).trans (hS b cs hb).1) e1)
   mus:=hs.mus,nx:=hs.nx }
 ·rw [Q0l] at ha
  obtain ⟨z,g1,g2⟩:=frLF_get hl t a ha;obtain ⟨v,g3,g4⟩:=ht t z (by rw [Q0l];exact g1);exact ⟨v,g3,hv g2 g4⟩
end
def rowsM {α:Type} (enc:α→List AV) (b0:Nat) (R:Nat→List α):Nat→ML
 | 0=>[]
 | N+1=>match R N with
   | []=>rowsM enc b0 R N
   | l=>(b0+N,.cells (l.flatMap enc))::rowsM enc b0 R N
def ownA {α:Type} (b0 sz:Nat) (j:Nat):List α→AV
 | []=>.g (.slice none 0 0)
 | _::l=>.gs (b0+j) 0 (l.length+1) sz (l.length+1)
section
variable {α:Type} {enc:α→List AV} {b0:Nat} {R:Nat→List α}
theorem ifc {β:Type} {p q:Prop} [Decidable p] [Decidable q] {a b:β} (h:p↔q):(if p then a else b)=if q then a else b:=by
 by_cases hp:p
 ·rw [if_pos hp,if_pos (h.1 hp)]
 ·rw [if_neg hp,if_neg (fun e=>hp (h.2 e))]
theorem Q2q (enc:α→List AV) (b0:Nat) (R:Nat→List α):∀ (N c:Nat),getL (rowsM enc b0 R N) c=if b0≤c∧c<b0+N∧R (c - b0)≠[] then some (.cells ((R (c - b0)).flatMap enc)) else none
 | 0,c=>by rw [if_neg (by omega)];rfl
 | N+1,c=>by
   have ih:=Q2q enc b0 R N c;rw [rowsM]
   by_cases hc:c=b0+N
   ·have e:c - b0=N:=by omega
    rw [e]
    cases hR:R N with
    | nil=>simp only;rw [ih,if_neg (by omega),if_neg (by simp)]
    | cons x l=>simp only;rw [getL,if_pos hc.symm,if_pos ⟨by omega,by omega,by simp⟩]
   ·cases hR:R N with
    | nil=>simp only;rw [ih];exact ifc ⟨fun h=>⟨h.1,by omega,h.2.2⟩,fun h=>⟨h.1,by omega,h.2.2⟩⟩
    | cons x l=>simp only;rw [getL,if_neg (fun e=>hc e.symm),ih];exact ifc ⟨fun h=>⟨h.1,by omega,h.2.2⟩,fun h=>⟨h.1,by omega,h.2.2⟩⟩
theorem rowsM_at {N j:Nat} (hj:j<N) (hR:R j≠[]):getL (rowsM enc b0 R N) (b0+j)=some (.cells ((R j).flatMap enc)):=by
 rw [Q2q,Nat.add_sub_cancel_left,if_pos ⟨by omega,by omega,hR⟩]
theorem Q3f {j sz:Nat} {l:List α} (h:l≠[]):ownA b0 sz j l=.gs (b0+j) 0 l.length sz l.length:=by
 cases l with
 | nil=>exact absurd rfl h
 | cons x l=>rfl
end
section
variable {P:Program} {GT:GTab} {rd:List Mem} {m:ML} {n:Nat}
theorem CallM.pureN {f:FuncId} {args:List AV} {a v:AV} {m':ML} {n':Nat} (h:CallM P GT [] [] 0 f args a m' n') (hi:noIdsL args=true) (hs:SealTo m' a v):PureN P GT f args v:=by
 obtain ⟨K,hsv⟩:=hs;refine ⟨fun w I rargs hI hgt ha=>?_,hi,h.2⟩
 have hm:MR w.heap.size GT allF [] (memL []) 0 w ⟨fun _=>none,I⟩ :=
  { fresh:=fun _ _ _=>rfl,blk:=fun b k hb=>by simp [memL,getR,Tri.get_e] at hb,inj:=fun b b' k k' rb ro ro' h1=>by simp [memL,getR,Tri.get_e] at h1
    imm:=hI,base:=Nat.le_refl _,gt:=hgt,dj:=fun b k hb=>by cases hb }
 refine (h.1 w.heap.size w ⟨fun _=>none,I⟩ rargs hm ha).mono ?_;rintro e w' ⟨r,G',rfl,hs,hr⟩;refine ⟨frz (memL m') G',{ im:=fun rb hi=>.inl (hs.ext.im rb hi),new:=fun rb hi=>?_,lt:=fun rb hi=>?_,os:=hs.os,tape:=hs.tape,output:=hs.output,size:=hs.size,same:=fun k hk=>hs.fr k hk fun b x ro hb=>by simp [memL,Tri.get_e] at hb },r,rfl,(sealV_spec hs.mr K).1 hsv hr⟩
 ·rcases hi with hi | ⟨b,k,ro,h1,h2⟩
  ·rcases hs.impr rb hi with h3 | h3 | ⟨b0,k0,ro0,h3,_⟩
   ·exact .inl h3
   ·exact .inr h3
   ·simp [memL,Tri.get_e] at h3
  ·rcases hs.prov b k rb ro h1 h2 with h3 | ⟨b0,k0,ro0,h3,_⟩
   ·exact .inr h3
   ·simp [memL,Tri.get_e] at h3
 ·rcases hi with hi | ⟨b,k,ro,h1,h2⟩
  ·exact hs.mr.imm rb hi
  ·obtain ⟨rb',ro',h3,_,_,h4⟩:=hs.mr.blk b k (Q0b h1)
   rw [h2] at h3;cases h3;exact h4.lt
mutual
theorem reF_id (g:Nat→Nat):∀ (a:AV),noIds a=true→reF g a=a
 | .ptr _ _,h=>by simp [noIds] at h
 | .gs _ _ _ _ _,h=>by simp [noIds] at h
 | .mp _,h=>by simp [noIds] at h
 | .fn f x y,h=>by simp only [noIds,Bool.and_eq_true] at h;rw [reF,Q2r g x h.1,Q2r g y h.2]
 | .agg x,h=>by simp only [noIds] at h;rw [reF,Q2r g x h]
 | .tup x,h=>by simp only [noIds] at h;rw [reF,Q2r g x h]
 | .ifc t x,h=>by simp only [noIds] at h;rw [reF,reF_id g x h]
 | .any,_=>by rw [reF]
 | .g v,_=>by rw [reF]
 | .ept cs o,_=>by rw [reF]
 | .sl n sz cs,_=>by rw [reF]
 | .z0,_=>by rw [reF]
theorem Q2r (g:Nat→Nat):∀ (as:List AV),noIdsL as=true→reFL g as=as
 | [],_=>by rw [reFL]
 | a::as,h=>by simp only [noIdsL,Bool.and_eq_true] at h;rw [reFL,reF_id g a h.1,Q2r g as h.2]
end
mutual
theorem ltA_id (n:Nat):∀ (a:AV),noIds a=true→ltA n a
 | .ptr _ _,h=>by simp [noIds] at h
 | .gs _ _ _ _ _,h=>by simp [noIds] at h
 | .mp _,h=>by simp [noIds] at h
 | .fn f x y,h=>by simp only [noIds,Bool.and_eq_true] at h;rw [ltA];exact ⟨ltL_id n x h.1,ltL_id n y h.2⟩
 | .agg x,h=>by simp only [noIds] at h;rw [ltA];exact ltL_id n x h
 | .tup x,h=>by simp only [noIds] at h;rw [ltA];exact ltL_id n x h
 | .ifc t x,h=>by simp only [noIds] at h;rw [ltA];exact ltA_id n x h
 | .any,_=>by simp [ltA]
 | .g v,_=>by simp [ltA]
 | .ept cs o,_=>by simp [ltA]
 | .sl n sz cs,_=>by simp [ltA]
 | .z0,_=>by simp [ltA]
theorem ltL_id (n:Nat):∀ (as:List AV),noIdsL as=true→ltL n as
 | [],_=>by rw [ltL];trivial
 | a::as,h=>by simp only [noIdsL,Bool.and_eq_true] at h;rw [ltL];exact ⟨ltA_id n a h.1,ltL_id n as h.2⟩
end
end
theorem fillA_nil (p:Nat→Option (Nat×Nat)) (c:List AV):fillA p c []=some c:=Eq.trans rfl rfl
theorem fillA_cons (p:Nat→Option (Nat×Nat)) (c:List AV) (i:Nat) (v:AV) (r:List (Nat×AV)):fillA p c ((i,v)::r)=(match p i,cellsA v with
 | some (off,size),some pc=>if pc.length=size∧off+pc.length≤c.length then fillA p (putA c off pc) r else none
 | _,_=>none):=Eq.trans rfl rfl
theorem getR_L {m:ML} {rd:List Mem} {b:Nat}:getR (memL m::rd) b=(getL m b).or (getR rd b):=by rw [Q0c,Q0d]
attribute [go_sem] fillA_nil fillA_cons getR_L
theorem okD_nil {B:List Nat} {j:Nat}:∀ {fps:List FP} {i:Nat},okD B j [] [] i fps=true
 | [],_=>rfl
 | q::qs,i=>by
   rw [okD,okD_nil];have:freeFP q [] []=true:=rfl;rw [this,Bool.or_true];rfl
theorem okD_end {B:List Nat} {j i:Nat} {W U:List Nat}:okD B j W U i []=true:=rfl
theorem freeFP_quiet {U U':List Nat} {n:Nat}:freeFP ⟨[],U',n,n⟩ [] U=true:=by
 unfold freeFP;rw [List.append_nil,List.all_nil,Bool.and_true,List.all_eq_true];intro b _;have:(Nat.ble n b&&Nat.blt b n)=false:=by
  rw [←Bool.not_eq_true,Bool.and_eq_true];intro h;have h1:=Nat.le_of_ble_eq_true h.1;have h2:b+1≤n:=Nat.le_of_ble_eq_true h.2;omega
 rw [this];rfl
theorem okD_quiet {B:List Nat} {j i:Nat} {U U':List Nat} {n:Nat} {qs:List FP}:okD B j [] U i (⟨[],U',n,n⟩::qs)=okD B j [] U (i+1) qs:=by
 rw [okD,freeFP_quiet,Bool.or_true,Bool.true_and]
theorem okD_free {B:List Nat} {j i:Nat} {W U:List Nat} {q:FP} {qs:List FP} (h:(∀ b∈U++W,b∉q.W∧(b<q.n∨q.n'≤b))∧∀ b∈W,b∉q.U++q.W):okD B j W U i (q::qs)=okD B j W U (i+1) qs:=by
 have:freeFP q W U=true:=by
  unfold freeFP;rw [Bool.and_eq_true,List.all_eq_true,List.all_eq_true];refine ⟨fun b hb=>?_,fun b hb=>by simpa using h.2 b hb⟩;obtain ⟨h1,h2⟩:=h.1 b hb;rw [Bool.and_eq_true];refine ⟨by simpa using h1,?_⟩;have:(Nat.ble q.n b&&Nat.blt b q.n')=false:=by
   rw [←Bool.not_eq_true,Bool.and_eq_true];intro h;have h1:=Nat.le_of_ble_eq_true h.1;have h2:b+1≤q.n':=Nat.le_of_ble_eq_true h.2;omega
  rw [this];rfl
 rw [okD,this,Bool.or_true,Bool.true_and]
theorem okD_bef {B:List Nat} {j i:Nat} {W U:List Nat} {q:FP} {qs:List FP} (h:bef B j i=true):okD B j W U i (q::qs)=okD B j W U (i+1) qs:=by
 rw [okD,h,Bool.true_or,Bool.true_and]
theorem lowD_eq {n:Nat} {W U:List Nat} (h:∀ b∈U++W,b<n):lowD n W U=true:=by
 unfold lowD;rw [List.all_eq_true];intro b hb;exact Nat.ble_eq_true_of_le (h b hb)
theorem andB {a b:Bool} (h:a=true) (k:b=true):(a&&b)=true:=by rw [h,k];rfl
theorem lowD_nil {n:Nat}:lowD n [] []=true:=rfl
mutual
theorem reF_same:∀ (a:AV),reF (fun c=>c) a=a
 | .ptr _ _=>by rw [reF]
 | .gs _ _ _ _ _=>by rw [reF]
 | .mp _=>by rw [reF]
 | .fn _ x y=>by rw [reF,Q3m x,Q3m y]
 | .agg x=>by rw [reF,Q3m x]
 | .tup x=>by rw [reF,Q3m x]
 | .ifc _ x=>by rw [reF,reF_same x]
 | .any=>by rw [reF]
 | .g _=>by rw [reF]
 | .ept _ _=>by rw [reF]
 | .sl _ _ _=>by rw [reF]
 | .z0=>by rw [reF]
theorem Q3m:∀ (as:List AV),reFL (fun c=>c) as=as
 | []=>by rw [reFL]
 | a::as=>by rw [reFL,reF_same a,Q3m as]
end
theorem reFE_same:∀ (es:List (Nat×AV×AV)),reFE (fun c=>c) es=es
 | []=>by rw [reFE]
 | e::es=>by rw [reFE,reF_same,reF_same,reFE_same es]
theorem reFB_same:∀ (k:Blk),reFB (fun c=>c) k=k
 | .cells cs=>by rw [reFB,Q3m]
 | .map es _=>by rw [reFB,reFE_same]
 | .sit _ _=>by rw [reFB]
def keepT (n:Nat):List AV→List AV→Prop
 | [],l=>l=[]
 | a::as,l=>∃ b bs,l=b::bs∧(a=.any∨(b=a∧ltA n a))∧keepT n as bs
theorem keepT_re {n:Nat}:∀ {l' l:List AV},keepT n l' l→reT (fun c=>c) n l' l
 | [],_,h=>h
 | a::as,_,h=>by
   obtain ⟨b,bs,rfl,h1,h2⟩:=h;exact ⟨b,bs,rfl,h1.imp id fun h=>⟨by rw [reF_same];exact h.1,h.2⟩,keepT_re h2⟩
theorem Q0e {n:Nat} {a b:AV} {as bs:List AV}:keepT n (a::as) (b::bs)=((a=.any∨(b=a∧ltA n a))∧keepT n as bs) :=
 propext ⟨fun ⟨_,_,e,h1,h2⟩=>by cases e;exact ⟨h1,h2⟩,fun ⟨h1,h2⟩=>⟨_,_,rfl,h1,h2⟩⟩
theorem Q0g {n:Nat}:keepT n [] []=True:=by rw [keepT];simp
theorem VS.drop {GT:GTab} {l l':List AV} {m m':ML} {n n':Nat} (hm:∀ c k,getL m' c=some k→c<n'∧ltB n' k∧getL m c=some k) (hl:keepT n' l' l):VS GT .none (stL l m n) (stL l' m' n') :=
 VS.renF (fun c=>c) (fun _ _=>rfl) (fun _ h=>h) (Nat.zero_le _) (fun _ _ _ _ _ _ h=>h) (fun c k h=>by rw [reFB_same];exact hm c k h) (keepT_re hl)
section
variable {α:Type} {enc:α→List AV} {b0:Nat} {GT:GTab} {E:Beg} {l l':List AV} {m m':ML} {n n':Nat}
theorem Q4a:∀ (x y:ML) (b:Nat),getL (x++y) b=(getL x b).or (getL y b):=getL_app
theorem VS.same (hn:n≤n') (hm:∀ c,getL m' c=getL m c) (hl:leL l l'):VS GT E (stL l m n) (stL l' m' n'):=by
 intro base w1 G1 w G ts _ hs ht;have h1:Stpd base GT E w1 G1 (stL l m' n) w G:=stp_mem hs fun b=>by
  show (memL m').get b=(memL m).get b;rw [Q0d,Q0d,hm]
 refine ⟨G,.refl w _,?_,fun t v hv=>?_⟩
 ·exact { mr:={ fresh:=fun b hb hF=>h1.mr.fresh b (Nat.le_trans hn hb) hF,blk:=h1.mr.blk,inj:=h1.mr.inj,imm:=h1.mr.imm,base:=h1.mr.base,gt:=h1.mr.gt,dj:=h1.mr.dj }
          ext:=h1.ext,os:=h1.os,tape:=h1.tape,output:=h1.output,size:=h1.size,fr:=h1.fr,prov:=h1.prov,impr:=h1.impr,mus:=h1.mus,nx:=Nat.le_trans h1.nx hn }
 ·rw [Q0l] at hv
  rcases leL_get hl t v hv with h2 | ⟨rfl,u,h2⟩
  ·exact ht t v (by rw [Q0l];exact h2)
  ·obtain ⟨r,h3,-⟩:=ht t u (by rw [Q0l];exact h2)
   exact ⟨r,h3,trivial⟩
def ownH (b0 j nn:Nat) (c:Nat):Nat:=if c=b0+j then nn else c
theorem ownH_low {b0 j nn c:Nat} (h:c<b0):ownH b0 j nn c=c:=by unfold ownH;rw [if_neg (by omega)]
theorem VS.own {R R':Nat→List α} {F:ML} {N j nn:Nat} (hj:j<N) (hnn:b0+N≤nn) (hR:∀ i,i<N→i≠j→R' i=R i) (hid:∀ x,noIdsL (enc x)=true)
 (hF:∀ c k,getL F c=some k→c<b0∧ltB (b0+N) k∧getL m c=some (reFB (ownH b0 j nn) k)) (h1:getL m nn=some (.cells ((R' j).flatMap enc)))
 (h2:∀ i,i<N→i≠j→R i≠[]→getL m (b0+i)=some (.cells ((R i).flatMap enc))) (hT:reT (ownH b0 j nn) (b0+N) l' l) :
 VS GT .none (stL l m n) (stL l' (F++rowsM enc b0 R' N) (b0+N)):=by
 have hids:∀ l:List α,noIdsL (l.flatMap enc)=true:=by
  intro l
  induction l with
  | nil=>rfl
  | cons x l ih =>
    rw [List.flatMap_cons];have:∀ a b:List AV,noIdsL a=true→noIdsL b=true→noIdsL (a++b)=true:=by
     intro a
     induction a with
     | nil=>intro b _ hb;exact hb
     | cons y a ih=>intro b ha hb;simp only [noIdsL,Bool.and_eq_true,List.cons_append] at ha ⊢;exact ⟨ha.1,ih b ha.2 hb⟩
    exact this _ _ (hid x) ih
 have hrow:∀ c k,getL (rowsM enc b0 R' N) c=some k→b0≤c∧c<b0+N∧k=.cells ((R' (c - b0)).flatMap enc)∧R' (c - b0)≠[]:=by
  intro c k hc;rw [Q2q] at hc
  split at hc
  ·rename_i h;cases hc;exact ⟨h.1,h.2.1,rfl,h.2.2⟩
  ·cases hc
 have hall:∀ c k,getL (F++rowsM enc b0 R' N) c=some k→c<b0+N∧ltB (b0+N) k∧getL m (ownH b0 j nn c)=some (reFB (ownH b0 j nn) k):=by
  intro c k hc;rw [Q4a] at hc
  cases hx:getL F c with
  | some y =>
    rw [hx,Option.some_or] at hc
    cases hc
    obtain ⟨g1,g2,g3⟩:=hF c _ hx;exact ⟨by omega,g2,by rw [ownH_low g1];exact g3⟩
  | none =>
    rw [hx,Option.none_or] at hc;obtain ⟨g1,g2,rfl,g4⟩:=hrow c k hc;refine ⟨g2,ltL_id _ _ (hids _),?_⟩;rw [reFB,Q2r _ _ (hids _)]
    by_cases he:c=b0+j
    ·unfold ownH
     rw [if_pos he,show c - b0=j by omega];exact h1
    ·unfold ownH
     rw [if_neg he];have hne:c - b0≠j:=by omega
     rw [hR _ (by omega) hne] at g4 ⊢;have:=h2 (c - b0) (by omega) hne g4
     rwa [show b0+(c - b0)=c by omega] at this
 refine VS.renF (ownH b0 j nn) (fun c hc=>absurd hc (Nat.not_lt_zero c)) (fun c _=>Nat.zero_le _) (Nat.zero_le _) (fun c c' k k' hc hc' he=>?_) hall hT;have g1:=(hall c k hc).1;have g2:=(hall c' k' hc').1;unfold ownH at he
 split at he <;> split at he <;> omega
theorem reF_own {j nn sz i:Nat} {r:List α} (h:i≠j):reF (ownH b0 j nn) (ownA b0 sz i r)=ownA b0 sz i r:=by
 cases r with
 | nil=>rfl
 | cons x r=>rw [ownA,reF];unfold ownH;rw [if_neg (by omega)]
theorem reF_own_at {j nn sz:Nat} {r:List α} (h:r≠[]):reF (ownH b0 j nn) (ownA b0 sz j r)=.gs nn 0 r.length sz r.length:=by
 rw [Q3f h,reF];unfold ownH;rw [if_pos rfl]
theorem ltA_own {sz i N:Nat} {r:List α} (h:i<N):ltA (b0+N) (ownA b0 sz i r):=by
 cases r with
 | nil=>simp [ownA,ltA]
 | cons x r=>rw [ownA,ltA];omega
theorem ltL_mem {n:Nat}:∀ {l:List AV},(∀ a∈l,ltA n a)→ltL n l
 | [],_=>by rw [ltL];trivial
 | a::l,h=>by rw [ltL];exact ⟨h a List.mem_cons_self,ltL_mem fun b hb=>h b (List.mem_cons_of_mem _ hb)⟩
theorem put_set {cs:List AV} {k:Nat} {v:AV} (hk:k<cs.length):cs.take k++v::cs.drop (k+1)=cs.set k v:=by
 rw [List.set_eq_take_append_cons_drop,if_pos hk]
def ownsA (b0 sz:Nat) (R:Nat→List α) (N:Nat):List AV:=(List.range N).map fun i=>ownA b0 sz i (R i)
theorem ownsA_lt {sz N:Nat} {R:Nat→List α}:ltL (b0+N) (ownsA b0 sz R N):=ltL_mem fun a ha=>by
 obtain ⟨i,hi,rfl⟩:=List.mem_map.1 ha;exact ltA_own (List.mem_range.1 hi)
theorem Q2s {sz N:Nat} {R:Nat→List α}:(ownsA b0 sz R N).length=N:=by simp [ownsA]
theorem ownsA_get {sz N j:Nat} {R:Nat→List α} (h:j<N):(ownsA b0 sz R N)[j]?=some (ownA b0 sz j (R j)):=by
 unfold ownsA;rw [List.getElem?_map,List.getElem?_range h];rfl
theorem ownsA_re {sz N j nn:Nat} {R R':Nat→List α} (hR:∀ i,i≠j→R' i=R i) (hr:R' j≠[]):reFL (ownH b0 j nn) (ownsA b0 sz R' N)=(ownsA b0 sz R N).set j (.gs nn 0 (R' j).length sz (R' j).length):=by
 refine List.ext_getElem? fun i=>?_;rw [reFL_get,List.getElem?_set,Q2s]
 by_cases hi:i<N
 ·rw [ownsA_get hi,Option.map_some]
  by_cases he:j=i
  ·subst he;rw [if_pos rfl,if_pos hi,reF_own_at hr]
  ·rw [if_neg he,ownsA_get hi,hR i (fun e=>he e.symm),reF_own (fun e=>he e.symm)]
 ·rw [List.getElem?_eq_none (by rw [Q2s];omega),Option.map_none]
  split
  ·rename_i he;rw [if_neg (by omega)]
  ·rw [List.getElem?_eq_none (by rw [Q2s];omega)]
def sealA (enc:α→List AV) (sz:Nat):List α→AV
 | []=>.g (.slice none 0 0)
 | x::r=>.sl (r.length+1) sz ((x::r).flatMap enc)
def rowsS (enc:α→List AV) (b0:Nat) (R:Nat→List α) (N:Nat) (c:Nat):Option (List AV):=if b0≤c∧c<b0+N∧R (c - b0)≠[] then some ((R (c - b0)).flatMap enc) else none
theorem Q1n {sz:Nat} (hsz:∀ x,(enc x).length=sz):∀ l:List α,(l.flatMap enc).length=l.length*sz
 | []=>by simp
 | x::l=>by rw [List.flatMap_cons,List.length_append,hsz,Q1n hsz l,List.length_cons,Nat.succ_mul,Nat.add_comm]
theorem frAF_own {sz N i:Nat} {R:Nat→List α} (hsz:∀ x,(enc x).length=sz) (hi:i<N):frAF (rowsS enc b0 R N) (sealA enc sz (R i)) (ownA b0 sz i (R i)):=by
 cases hr:R i with
 | nil=>exact .inr (.inl rfl)
 | cons x r =>
   refine .inr (.inr ⟨b0+i,(R i).flatMap enc,0,r.length+1,sz,r.length+1,?_,rfl,?_,?_⟩)
   ·unfold rowsS;rw [Nat.add_sub_cancel_left,if_pos ⟨by omega,by omega,by rw [hr];simp⟩]
   ·rw [hr,List.drop_zero,List.take_of_length_le (by rw [Q1n hsz,List.length_cons];exact Nat.le_refl _)];rfl
   ·rw [hr,Q1n hsz,List.length_cons];omega
theorem VS.rows {R:Nat→List α} {F F':ML} {N:Nat} (hp:∀ x,∀ a∈enc x,plainA a=true) (hlo:∀ c,c≥b0→getL F c=none) (hl:frLF (rowsS enc b0 R N) l' l)
 (hF:∀ c k,getL F' c=some k→c<b0∧(getL F c=some k∨∃ k',getL F c=some k'∧frBF (rowsS enc b0 R N) k k')) :
 VS GT E (stL l (F++rowsM enc b0 R N) n) (stL l' F' n):=by
 refine VS.sealF (rowsS enc b0 R N) (fun b cs hb=>?_) hl fun c k hc=>?_
 ·unfold rowsS at hb
  split at hb
  ·rename_i h
   cases hb
   refine ⟨by rw [Q4a,hlo b h.1,Option.none_or,Q2q,if_pos h],fun a ha=>?_⟩;obtain ⟨x,-,hx⟩:=List.mem_flatMap.1 ha;exact hp x a hx
  ·cases hb
 ·obtain ⟨g1,g2⟩:=hF c k hc
  refine ⟨by unfold rowsS;rw [if_neg (by omega)],?_⟩;rcases g2 with g2 | ⟨k',g2,g3⟩
  ·exact .inl (by rw [Q4a,g2];rfl)
  ·exact .inr ⟨k',by rw [Q4a,g2];rfl,g3⟩
end
theorem wkL.map {α:Type} {f g:α→AV}:∀ {l:List α},(∀ x∈l,wkA (f x) (g x))→wkL (l.map f) (l.map g)
 | [],_=>rfl
 | x::_,h=>⟨g x,_,rfl,h x List.mem_cons_self,wkL.map fun y hy=>h y (List.mem_cons_of_mem _ hy)⟩
theorem noIdsL_map {α:Type} {f:α→AV} (h:∀ x,noIds (f x)=true):∀ l:List α,noIdsL (l.map f)=true
 | []=>rfl
 | x::l=>by rw [List.map_cons,noIdsL,h x,noIdsL_map h l];rfl
theorem noIdsL_app:∀ {a b:List AV},noIdsL a=true→noIdsL b=true→noIdsL (a++b)=true
 | [],_,_,h=>h
 | _::_,_,h,k=>by simp only [noIdsL,Bool.and_eq_true,List.cons_append] at h ⊢;exact ⟨h.1,noIdsL_app h.2 k⟩
theorem Q0y {α:Type} {f:α→List AV} (h:∀ x,noIdsL (f x)=true):∀ l:List α,noIdsL (l.flatMap f)=true
 | []=>rfl
 | x::l=>by rw [List.flatMap_cons];exact noIdsL_app (h x) (Q0y h l)
theorem wkL.of_get:∀ {l' l:List AV},l'.length=l.length→(∀ (t:Nat) (a x:AV),l'[t]?=some a→l[t]?=some x→wkA a x)→wkL l' l
 | [],[],_,_=>rfl
 | [],_::_,h,_=>by simp at h
 | _::_,[],h,_=>by simp at h
 | _::_,x::xs,h,k=>⟨x,xs,rfl,k 0 _ x rfl rfl,wkL.of_get (by simpa using h) fun t b y h1 h2=>k (t+1) b y (by simpa using h1) (by simpa using h2)⟩
theorem postV_nil {P:Program} {GT:GTab} {l:List AV} {m:ML} {n t:Nat} (sz:Nat) (x:AX) (hx:x=.nrm∨x=.ret) (h:l[t]?=some (.g (.slice none 0 0))):postV P GT [.tmp t] (.sl 0 sz []) x (stL l m n):=by
 refine ⟨hx,stL (l.mapIdx fun i _=>if i=t then .sl 0 sz [] else .any) [] n,VS.weak (wkL.of_get (by simp) fun i a y h1 h2=>?_) trivial,Q0a _ hx (u:=.sl 0 sz []) ?_ (.plain rfl)⟩
 ·rw [List.getElem?_mapIdx,h2] at h1
  simp only [Option.map_some,Option.some.injEq] at h1;subst h1
  by_cases he:i=t
  ·subst he
   rw [h] at h2;cases h2;rw [if_pos rfl];exact wkA.nil sz
  ·rw [if_neg he];exact wkA.any _
 ·show some ((l.mapIdx fun i _=>if i=t then AV.sl 0 sz [] else .any).getD t .any)=_
  rw [List.getD_eq_getElem?_getD,List.getElem?_mapIdx,h];simp
theorem VS.sealOwn {α:Type} {enc:α→List AV} {GT:GTab} {E:Beg} {l l':List AV} {n b0 sz N:Nat} {R:Nat→List α} (hb:0<b0) (hp:∀ x,∀ a∈enc x,plainA a=true) (hsz:∀ x,(enc x).length=sz) (hl:frLF (rowsS enc b0 R N) l' l) :
 VS GT E (stL l ((0,.cells (ownsA b0 sz R N))::rowsM enc b0 R N) n) (stL l' [(0,.cells ((List.range N).map fun i=>.sl (R i).length sz ((R i).flatMap enc)))] n):=by
 refine VS.trans (VS.rows (F:=[(0,.cells (ownsA b0 sz R N))]) (F':=[(0,.cells ((List.range N).map fun i=>sealA enc sz (R i)))]) hp (fun c hc=>by rw [getL,if_neg (by omega)];rfl) hl fun c k hc=>?_) (VS.weak (wkL.refl _) ⟨.inr ⟨_,_,rfl,by rw [getL,if_pos rfl],wkL.map fun i _=>?_⟩,trivial⟩)
 ·rw [getL] at hc
  split at hc
  ·rename_i h
   subst h
   cases hc
   refine ⟨hb,.inr ⟨_,by rw [getL,if_pos rfl],_,rfl,frLF.of_get (by rw [Q2s];simp) fun t a x h1 h2=>?_⟩⟩;have ht:t<N:=by have:=(List.getElem?_eq_some_iff.1 h1).1;simpa using this
   rw [ownsA_get ht] at h2;rw [List.getElem?_map,List.getElem?_range ht] at h1
   cases h1;cases h2
   exact frAF_own hsz ht
  ·cases hc
 ·cases R i with
  | nil=>exact wkA.nil sz
  | cons x r=>exact wkA.refl _
section
variable {P:Program} {GT:GTab} {rd:List Mem} {m:ML} {n:Nat}
theorem CallM.new {f:FuncId} {args cs:List AV} {o N sz K:Nat} (h:CallM P GT [] [] 0 f args (.gs 0 o N sz K) [(0,.cells cs)] 1) (hi:noIdsL args=true) (hc:noIdsL cs=true) :
 CallM P GT rd m n f args (.gs n o N sz K) ((n,.cells cs)::m) (n+1):=by
 have e0:fnm [] 0 n 0=n:=by unfold fnm;rw [if_neg (Nat.not_lt_zero _)];rfl
 have:=CallM.at (rd:=rd) (m:=m) (n:=n) (q:=[]) h rfl (ltL_id 0 args hi) (by trivial) (by trivial) (by exact ⟨.inl (Nat.zero_le _),trivial⟩);rw [Q2r _ _ hi] at this;have e1:afterL (fnm [] 0 n) m [] [(0,.cells cs)]=(n,.cells cs)::m:=by
  unfold afterL;simp only [List.map_cons,List.map_nil,e0,reFB,Q2r _ _ hc,List.any_nil,Bool.not_false,List.cons_append,List.nil_append];rw [List.filter_eq_self.2 (fun _ _=>rfl)]
 rw [e1,reF,e0] at this;exact this
theorem CallD.new {f:FuncId} {args cs:List AV} {o N sz K:Nat} (h:CallM P GT [] [] 0 f args (.gs 0 o N sz K) [(0,.cells cs)] 1) (hi:noIdsL args=true) (hc:noIdsL cs=true) :
 CallD P GT rd m n f args [] (.gs n o N sz K) ((n,.cells cs)::m) (n+1):=by
 have e0:fnm [] 0 n 0=n:=by unfold fnm;rw [if_neg (Nat.not_lt_zero _)];rfl
 have:=CallM.atD (rd:=rd) (m:=m) (n:=n) (q:=[]) h rfl (ltL_id 0 args hi) (by trivial) (by trivial) (by exact ⟨.inl (Nat.zero_le _),trivial⟩) (Nat.zero_le _) (fun p hp=>by simp at hp;subst hp;exact Nat.zero_lt_one);rw [Q2r _ _ hi] at this;have e1:afterL (fnm [] 0 n) m [] [(0,.cells cs)]=(n,.cells cs)::m:=by
  unfold afterL;simp only [List.map_cons,List.map_nil,e0,reFB,Q2r _ _ hc,List.any_nil,Bool.not_false,List.cons_append,List.nil_append];rw [List.filter_eq_self.2 (fun _ _=>rfl)]
 rw [e1,reF,e0] at this;exact this
mutual
def nmA (S:Nat→Prop):AV→Prop
 | .ptr b _=>S b
 | .gs b _ _ _ _=>S b
 | .mp b=>S b
 | .fn _ x y=>nmL S x∧nmL S y
 | .agg x=>nmL S x
 | .tup x=>nmL S x
 | .ifc _ x=>nmA S x
 | _=>True
def nmL (S:Nat→Prop):List AV→Prop
 | []=>True
 | a::as=>nmA S a∧nmL S as
end
def nmE (S:Nat→Prop):List (Nat×AV×AV)→Prop
 | []=>True
 | e::es=>(nmA S e.2.1∧nmA S e.2.2)∧nmE S es
def nmB (S:Nat→Prop):Blk→Prop
 | .cells cs=>nmL S cs
 | .map es _=>nmE S es
 | .sit _ _=>True
mutual
theorem reF_nm {S:Nat→Prop} {g:Nat→Nat} {n:Nat} (h:∀ c,S c→g c=c∧c<n):∀ (a:AV),nmA S a→reF g a=a∧ltA n a
 | .ptr b _,k=>by rw [nmA] at k;rw [reF,(h b k).1,ltA];exact ⟨rfl,(h b k).2⟩
 | .gs b _ _ _ _,k=>by rw [nmA] at k;rw [reF,(h b k).1,ltA];exact ⟨rfl,(h b k).2⟩
 | .mp b,k=>by rw [nmA] at k;rw [reF,(h b k).1,ltA];exact ⟨rfl,(h b k).2⟩
 | .fn _ x y,k=>by rw [nmA] at k;rw [reF,(Q1u h x k.1).1,(Q1u h y k.2).1,ltA];exact ⟨rfl,(Q1u h x k.1).2,(Q1u h y k.2).2⟩
 | .agg x,k=>by rw [nmA] at k;rw [reF,(Q1u h x k).1,ltA];exact ⟨rfl,(Q1u h x k).2⟩
 | .tup x,k=>by rw [nmA] at k;rw [reF,(Q1u h x k).1,ltA];exact ⟨rfl,(Q1u h x k).2⟩
 | .ifc _ x,k=>by rw [nmA] at k;rw [reF,(reF_nm h x k).1,ltA];exact ⟨rfl,(reF_nm h x k).2⟩
 | .any,_=>by simp [reF,ltA]
 | .g _,_=>by simp [reF,ltA]
 | .ept _ _,_=>by simp [reF,ltA]
 | .sl _ _ _,_=>by simp [reF,ltA]
 | .z0,_=>by simp [reF,ltA]
theorem Q1u {S:Nat→Prop} {g:Nat→Nat} {n:Nat} (h:∀ c,S c→g c=c∧c<n):∀ (as:List AV),nmL S as→reFL g as=as∧ltL n as
 | [],_=>by simp [reFL,ltL]
 | a::as,k=>by rw [nmL] at k;rw [reFL,(reF_nm h a k.1).1,(Q1u h as k.2).1,ltL];exact ⟨rfl,(reF_nm h a k.1).2,(Q1u h as k.2).2⟩
end
theorem reFE_nm {S:Nat→Prop} {g:Nat→Nat} {n:Nat} (h:∀ c,S c→g c=c∧c<n):∀ (es:List (Nat×AV×AV)),nmE S es→reFE g es=es∧ltE n es
 | [],_=>by simp [reFE,ltE]
 | e::es,k=>by rw [nmE] at k;rw [reFE,(reF_nm h _ k.1.1).1,(reF_nm h _ k.1.2).1,(reFE_nm h es k.2).1,ltE];exact ⟨rfl,⟨(reF_nm h _ k.1.1).2,(reF_nm h _ k.1.2).2⟩,(reFE_nm h es k.2).2⟩
theorem reFB_nm {S:Nat→Prop} {g:Nat→Nat} {n:Nat} (h:∀ c,S c→g c=c∧c<n):∀ (k:Blk),nmB S k→reFB g k=k∧ltB n k
 | .cells cs,k=>by rw [reFB,(Q1u h cs k).1];exact ⟨rfl,(Q1u h cs k).2⟩
 | .map es _,k=>by rw [reFB,(reFE_nm h es k).1];exact ⟨rfl,(reFE_nm h es k).2⟩
 | .sit _ _,_=>⟨rfl,trivial⟩
theorem lk_same:∀ {l:List Nat} {c:Nat},c∈l→lk (l.map fun c=>(c,c)) c=some c
 | d::l,c,h=>by
   rw [List.map_cons,lk]
   by_cases hd:d=c
   ·rw [if_pos hd,hd]
   ·rw [if_neg hd]
    rcases List.mem_cons.1 h with h | h
    ·exact absurd h.symm hd
    ·exact lk_same h
structure SubOk (n0 n:Nat) (m m0 m1:ML) (args:List AV) (a:AV):Prop where
 le:n0≤n
 inm:∀ p∈m0,p.1<n0∧getL m p.1=some p.2∧nmB (·∈m0.map (·.1)) p.2
 args:nmL (·∈m0.map (·.1)) args
 out:∀ p∈m1,p.1∈m0.map (·.1)∧nmB (·∈m0.map (·.1)) p.2
 res:nmA (·∈m0.map (·.1)) a
 nodup:(m0.map (·.1)).Nodup
def restM (m0 m1 m:ML):ML:=m1++m.filter fun p=>!(m0.any fun r=>Nat.beq r.1 p.1)
section
variable {n0:Nat} {m0 m1:ML} {f:FuncId} {args:List AV} {a:AV}
theorem SubOk.facts (S:SubOk n0 n m m0 m1 args a):(∀ c,c∈m0.map (·.1)→fnm ((m0.map (·.1)).map fun c=>(c,c)) n0 n c=c∧c<n0)∧inM (fnm ((m0.map (·.1)).map fun c=>(c,c)) n0 n) n0 n m m0∧injM (fnm ((m0.map (·.1)).map fun c=>(c,c)) n0 n) m0∧subM n0 m0 m1 ∧
 afterL (fnm ((m0.map (·.1)).map fun c=>(c,c)) n0 n) m m0 m1=restM m0 m1 m:=by
 have hg0:∀ c,c∈m0.map (·.1)→fnm ((m0.map (·.1)).map fun c=>(c,c)) n0 n c=c∧c<n0:=by
  intro c hc;have hc':=hc;obtain ⟨p,hp,rfl⟩:=List.mem_map.1 hc';have:=(S.inm p hp).1;refine ⟨?_,this⟩;unfold fnm;rw [if_pos this,lk_same hc];rfl
 have hin:∀ r:ML,(∀ p∈r,p∈m0)→inM (fnm ((m0.map (·.1)).map fun c=>(c,c)) n0 n) n0 n m r:=by
  intro r
  induction r with
  | nil=>intro _;trivial
  | cons p r ih =>
    intro hr;obtain ⟨c,k⟩:=p;obtain ⟨g1,g2,g3⟩:=S.inm _ (hr _ List.mem_cons_self);obtain ⟨g4,g5⟩:=reFB_nm hg0 k g3;have g6:=(hg0 c (List.mem_map_of_mem (hr _ List.mem_cons_self))).1;have:=S.le;refine ⟨⟨⟨g1,by rw [g6];exact Nat.lt_of_lt_of_le g1 this⟩,g5,by rw [g6,g4];exact g2⟩,ih fun p hp=>hr p (List.mem_cons_of_mem _ hp)⟩
 have hinj:∀ r:ML,(∀ p∈r,p∈m0)→(r.map (·.1)).Nodup→injM (fnm ((m0.map (·.1)).map fun c=>(c,c)) n0 n) r:=by
  intro r
  induction r with
  | nil=>intro _ _;trivial
  | cons p r ih =>
    intro hr hn;rw [List.map_cons,List.nodup_cons] at hn;refine ⟨?_,ih (fun p hp=>hr p (List.mem_cons_of_mem _ hp)) hn.2⟩;rw [List.all_eq_true];intro x hx;rw [(hg0 p.1 (List.mem_map_of_mem (hr _ List.mem_cons_self))).1,(hg0 x.1 (List.mem_map_of_mem (hr _ (List.mem_cons_of_mem _ hx)))).1,nbeq_ne (fun e:p.1=x.1=>hn.1 (by rw [e];exact List.mem_map_of_mem hx))]
    rfl
 have hsub:∀ r:ML,(∀ p∈r,p∈m1)→subM n0 m0 r:=by
  intro r
  induction r with
  | nil=>intro _;trivial
  | cons p r ih =>
    intro hr;refine ⟨?_,ih fun p hp=>hr p (List.mem_cons_of_mem _ hp)⟩
    right
    obtain ⟨x,hx,he⟩:=List.mem_map.1 (S.out p (hr _ List.mem_cons_self)).1;rw [List.any_eq_true];exact ⟨x,hx,by rw [he];exact Nat.beq_refl _⟩
 refine ⟨hg0,hin m0 fun _ h=>h,hinj m0 (fun _ h=>h) S.nodup,hsub m1 fun _ h=>h,?_⟩;unfold afterL restM
 congr 1
 ·conv=>rhs;rw [←List.map_id m1]
  refine List.map_congr_left fun p hp=>?_;obtain ⟨g1,g3⟩:=S.out p hp;rw [(hg0 p.1 g1).1,(reFB_nm hg0 p.2 g3).1];rfl
 ·refine List.filter_congr fun p _=>?_
  congr 1
  rw [Bool.eq_iff_iff,List.any_eq_true,List.any_eq_true]
  constructor
  ·rintro ⟨x,hx,he⟩
   rw [(hg0 x.1 (List.mem_map_of_mem hx)).1] at he;exact ⟨x,hx,he⟩
  ·rintro ⟨x,hx,he⟩
   exact ⟨x,hx,by rw [(hg0 x.1 (List.mem_map_of_mem hx)).1];exact he⟩
theorem Q0p {S:Nat→Prop} {cs:List AV}:nmB S (.cells cs)=nmL S cs:=Eq.trans rfl rfl
theorem CallM.sub (h:CallM P GT [] m0 n0 f args a m1 n0) (S:SubOk n0 n m m0 m1 args a):CallM P GT rd m n f args a (restM m0 m1 m) n:=by
 obtain ⟨hg0,h1,h2,h3,h4⟩:=S.facts;have H:=CallM.at (rd:=rd) (m:=m) (n:=n) (q:=(m0.map (·.1)).map fun c=>(c,c)) h rfl (Q1u hg0 args S.args).2 h1 h2 h3;rw [(Q1u hg0 args S.args).1,(reF_nm hg0 a S.res).1,h4,Nat.sub_self,Nat.add_zero] at H;exact H
theorem CallM.subD (h:CallM P GT [] m0 n0 f args a m1 n0) (S:SubOk n0 n m m0 m1 args a):CallD P GT rd m n f args (m0.map (·.1)) a (restM m0 m1 m) n:=by
 obtain ⟨hg0,h1,h2,h3,h4⟩:=S.facts;have H:=CallM.atD (rd:=rd) (m:=m) (n:=n) (q:=(m0.map (·.1)).map fun c=>(c,c)) h rfl (Q1u hg0 args S.args).2 h1 h2 h3 (Nat.le_refl _) (fun p hp=>(hg0 p.1 (S.out p hp).1).2);rw [(Q1u hg0 args S.args).1,(reF_nm hg0 a S.res).1,h4,Nat.sub_self,Nat.add_zero] at H;have e1:(m0.map fun p=>fnm ((m0.map (·.1)).map fun c=>(c,c)) n0 n p.1)=m0.map (·.1):=List.map_congr_left fun p hp=>(hg0 p.1 (List.mem_map_of_mem hp)).1;rw [e1] at H;exact H
end
theorem own_nil {α:Type} {b0 sz:Nat}:ownA b0 sz 0 ([]:List α)=.g (.slice none 0 0):=Eq.trans rfl rfl
theorem rows_nil {α:Type} {enc:α→List AV} {b0:Nat}:rowsM enc b0 (fun _=>[]) 1=[]:=Eq.trans rfl rfl
theorem rows_one {α:Type} {enc:α→List AV} {b0:Nat} {acc:List α} (h:acc≠[]):rowsM enc b0 (fun _=>acc) 1=[(b0,.cells (acc.flatMap enc))]:=by
 cases acc with
 | nil=>exact absurd rfl h
 | cons x l=>rfl
theorem PureN.ofC {f:FuncId} {args:List AV} {v:Value} (hid:noIdsL args=true) (hfn:∃ fn,P.funcs[f]?=some fn∧(fn.name == "runtime.NumGoroutine")=false∧fn.body.isNone=false)
 (h:∀ (w:World) (rargs:Array Value),Ats w args rargs.toList→Calls P f rargs w fun e w'=>e=.returned v∧Below w.heap.size w w'):PureN P GT f args (.g v):=by
 refine ⟨fun w I rargs hI _ ha=>?_,hid,hfn⟩;have ha':Ats w args rargs.toList:=VRs.mono (G:=⟨fun _=>none,I⟩) ⟨fun _ _ e=>(by cases e),fun rb hr=>hI rb hr,fun _ _=>rfl,fun _ c _ fr h=>⟨c,fr,h,rfl⟩⟩ args ha;refine (h w rargs ha').mono ?_;rintro e w' ⟨rfl,hB⟩;exact ⟨I,⟨fun _ h=>h,fun _ h=>.inl h,fun rb h=>Nat.lt_of_lt_of_le (hI rb h) hB.size,hB.os,hB.tape,hB.output,hB.size,hB.block⟩,v,rfl,rfl⟩
theorem PureN.read {f:FuncId} {args as:List AV} {v:Value} (h:PureN P GT f as (.g v)) (hc:CloseTo rd m args as):CallM P GT rd m n f args (.g v) m n:=Pure.read h.pure h.fn hc
end
end Go.Ev
end
