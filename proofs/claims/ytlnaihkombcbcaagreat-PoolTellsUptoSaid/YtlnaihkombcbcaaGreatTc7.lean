/- Walks over known shapes: a call that takes a block over from its caller, and hands one on. Of no program. -/
import Derived.Test.YtlnaihkombcbcaaGreatTc6
set_option linter.unusedSimpArgs false
noncomputable section
namespace Go.Ev
open Go.RowKit
def postN (P:Program) (GT:GTab) (E:Beg) (rs:List ResultVar) (R:AV→ML→Nat→Prop):AX→St→Prop :=
 fun x s=>(x=.nrm∨x=.ret)∧∃ l1 m' n' a,R a m' n'∧VS GT E s (stL l1 m' n')∧resA P (memL m'::E.rd) (tmL l1) rs=some a
section
variable {P:Program} {GT:GTab} {rd:List Mem} {m:ML} {n:Nat}
theorem callN_of_w {c:Code} {f:FuncId} {fn:Func} {args:List AV} {R:AV→ML→Nat→Prop} (hf:P.funcs[f]?=some fn) (hb:fn.body=some c) (hnm:(fn.name == "runtime.NumGoroutine")=false)
 (h:W P GT ⟨rd,memL m,n⟩ c (stL (args++List.replicate (fn.ntmps - args.length) (.g undef)) m n) (postN P GT ⟨rd,memL m,n⟩ fn.results.toList R)):CallN P GT rd m n f args R:=by
 refine ⟨fun base w G rargs hm ha=>?_,fn,hf,hnm,by rw [hb];rfl⟩;refine calls_of_wp hf hb ?_;have hlen:=ha.len;have htm:TmR w G (putArgs args 0 (undefT fn.ntmps 0)) (rargs++Array.replicate (fn.ntmps - rargs.size) undef):=by
  intro t x hx;rw [putArgs_get,undefT_get] at hx;have hsz:rargs.size=args.length:=by simpa using hlen
  by_cases h:t<args.length
  ·have ha':args[t]?=some args[t]:=by simp [h]
   rw [if_pos ⟨Nat.zero_le _,by omega⟩,Nat.sub_zero,ha'] at hx
   cases hx
   obtain ⟨v,h1,h2⟩:=ha.get ha';refine ⟨v,?_,h2⟩;rw [Array.getElem?_append_left (by omega),←h1];simp
  ·rw [if_neg (by omega)] at hx
   split at hx
   ·rename_i ht'
    cases hx
    refine ⟨undef,?_,rfl⟩;rw [Array.getElem?_append_right (by omega),Array.getElem?_replicate,if_pos (by omega)]
   ·cases hx
 have hw:W P GT ⟨rd,memL m,n⟩ c ⟨putArgs args 0 (undefT fn.ntmps 0),memL m,n⟩ (postN P GT ⟨rd,memL m,n⟩ fn.results.toList R):=W.vs (VS.enter _ rfl rfl rfl) h;refine wp_mono (hw base [] w G w G { tmps:=rargs++Array.replicate (fn.ntmps - rargs.size) undef,defers:=[] } hm (Stp.refl hm) htm rfl) fun e a' w' h1=>?_;obtain ⟨x,s',G',he,hs,ht',hd,hx,l1,m',n',a,hR,hvs,hr⟩:=h1;have ht2:=ht' (fun u e=>by rcases hx with rfl | rfl <;> cases e)
 obtain ⟨G2,-,hs2,ht3⟩:=hvs base w G w' G' a'.tmps hm hs ht2;obtain ⟨rv,h2,h3⟩:=resA_run hs2.mr ht3 hr;rcases hx with rfl | rfl
 ·obtain rfl:e=.normal:=he
  exact ⟨hd,rv,h2,rv,G2,a,m',n',hR,rfl,hs2,h3⟩
 ·obtain rfl:e=.ret:=he
  exact ⟨hd,rv,h2,rv,G2,a,m',n',hR,rfl,hs2,h3⟩
def OwnN (P:Program) (GT:GTab) (f:FuncId) (args:List AV) (cs:List AV) (N sz:Nat) (cs':List AV):Prop :=
 CallN P GT [] [(0,.cells cs)] 1 f args fun a m' n'=>∃ k,k<n'∧a=.gs k 0 N sz N∧m'=[(k,.cells cs')]
theorem plain_to {w:World} {G G':Gh} (hI:G'.I=G.I) {a:AV} {v:Value} (hn:noIds a=true) (h:VR w G a v):VR w G' a v:=by
 have e:G'.bare=G.bare:=by unfold Gh.bare;rw [hI]
 exact VR.mono (Ext.unbare w G') a (by rw [e];exact noIds_spec a hn h)
theorem noIds_at:∀ {cs:List AV},noIdsL cs=true→∀ (i:Nat) (a:AV),cs[i]?=some a→noIds a=true
 | [],_,i,a,h=>by simp at h
 | x::xs,hn,i,a,h=>by
   simp only [noIdsL,Bool.and_eq_true] at hn
   cases i with
   | zero=>simp only [List.getElem?_cons_zero,Option.some.injEq] at h;rw [←h];exact hn.1
   | succ i=>exact noIds_at hn.2 i a (by simpa using h)
theorem blk_to {w:World} {G G':Gh} (hI:G'.I=G.I) {rb ro:Nat} {cs:List AV} (hn:noIdsL cs=true) (h:BlkR w G rb ro (.cells cs)):BlkR w G' rb ro (.cells cs):=by
 obtain ⟨c,e,fr,h1,h2,h3⟩:=h;refine ⟨c,e,fr,h1,h2,fun i a hi=>?_⟩;obtain ⟨v,h4,h5⟩:=h3 i a hi;exact ⟨v,h4,plain_to hI (noIds_at hn i a hi) h5⟩
theorem OwnN.callM {f:FuncId} {args args' cs cs':List AV} {N sz b:Nat} (h:OwnN P GT f args cs N sz cs') (hb:getL m b=some (.cells cs)) (hn:noIdsL cs=true) (hn':noIdsL cs'=true) (ha:reL 0 [(0,b)] args args') :
 CallM P GT rd m n f args' (.gs n 0 N sz N) ((n,.cells cs')::delL m b) (n+1):=by
 refine ⟨fun base w G rargs hm hv=>?_,h.2⟩;have hcb:(memL m).get b=some (.cells cs):=(memL_get m b).trans hb;obtain ⟨rb,ro,e1,e2,e3,e4⟩:=hm.blk b _ (getR_of_cur hcb);have hbn:b<n:=by
  rcases Nat.lt_or_ge b n with h | h
  ·exact h
  ·rw [hm.fresh b h trivial] at e1;cases e1
 have one:∀ {c:Nat} {k:Blk} {X:Blk} {d:Nat},(memL [(d,X)]).get c=some k→c=d∧k=X:=by
  intro c k X d hc;rw [memL_get,getL,getL] at hc
  split at hc
  ·rename_i hd;cases hc;exact ⟨hd.symm,rfl⟩
  ·cases hc
 have mu0:(renG 0 [(0,b)] G).μ 0=G.μ b:=by
  show (lkE 0 [(0,b)] 0).bind G.μ=_;rw [lkE_zero,lk_cons,if_pos rfl];rfl
 have hm0 : MR base GT allF [] (memL [(0, .cells cs)]) 1 w (renG 0 [(0, b)] G) := {
  fresh:=fun c hc _=>by
   show (lkE 0 [(0,b)] c).bind G.μ=none;rw [lkE_zero,lk_cons,if_neg (by omega)];rfl
  blk:=fun c k hc=>by
   have hc':(memL [(0,.cells cs)]).get c=some k:=by
    rw [getR_cons] at hc
    cases hx:(memL [(0,.cells cs)]).get c with
    | some y=>rw [hx] at hc;exact hc
    | none=>rw [hx] at hc;cases hc
   obtain ⟨rfl,rfl⟩:=one hc';exact ⟨rb,ro,mu0.trans e1,e2,e3,blk_to (G:=G) (G':=renG 0 [(0,b)] G) rfl hn e4⟩
  inj:=fun c c' k k' r o o' hc hc' _ _=>by
   have key:∀ {c:Nat} {k:Blk},getR [memL [(0,.cells cs)]] c=some k→c=0:=by
    intro c k hc;rw [getR_cons] at hc
    cases hx:(memL [(0,.cells cs)]).get c with
    | some y=>exact (one hx).1
    | none=>rw [hx] at hc;cases hc
   rw [key hc,key hc']
  imm:=hm.imm,base:=hm.base
  gt:=fun g cs hg=>RowR.mono (Ext.unbare w (renG 0 [(0,b)] G)) cs (show RowR w (renG 0 [(0,b)] G).bare g 0 cs from bareRow (G:=G) cs (hm.gt g cs hg))
  dj:=fun _ _ _=>rfl }
 refine (h.1 base w (renG 0 [(0,b)] G) rargs hm0 (reL_spec args ha hv)).mono ?_;rintro e w' ⟨r,G1,a,m1,n1,⟨k,hk,rfl,rfl⟩,rfl,hS,hr⟩;have hck:(memL [(k,.cells cs')]).get k=some (.cells cs'):=by rw [memL_get,getL,if_pos rfl]
 obtain ⟨rk,rok,f1,f2,f3,f4⟩:=hS.mr.blk k _ (getR_of_cur hck);have zero:∀ {r:Nat},(∃ b0 k0 ro0,(memL [(0,.cells cs)]).get b0=some k0∧(renG 0 [(0,b)] G).μ b0=some (r,ro0))→r=rb∧∃ ro0,G.μ b=some (r,ro0):=by
  rintro r ⟨b0,k0,ro0,g1,g2⟩;obtain ⟨rfl,rfl⟩:=one g1;rw [mu0] at g2;refine ⟨?_,ro0,g2⟩;rw [e1] at g2;cases g2;rfl
 have hrk:w.heap.size≤rk∨rk=rb:=(hS.prov k _ rk rok hck f1).imp id fun h=>(zero h).1;have hold:∀ {c:Nat} {x:Blk},c≠n→getR (memL ((n,.cells cs')::delL m b)::rd) c=some x→c≠b∧getR (memL m::rd) c=some x:=by
  intro c x hc hx;rw [getR_cons,memL_get,getL,if_neg (fun e=>hc e.symm),getL_del] at hx
  by_cases hcb':b=c
  ·subst hcb'
   rw [if_pos rfl,Option.none_or,hm.dj b _ hcb] at hx;cases hx
  ·rw [if_neg hcb'] at hx
   exact ⟨fun e=>hcb' e.symm,by rw [getR_cons,memL_get];exact hx⟩
 have holdc:∀ {c:Nat} {x:Blk},c≠n→(memL ((n,.cells cs')::delL m b)).get c=some x→c≠b∧(memL m).get c=some x:=by
  intro c x hc hx;rw [memL_get,getL,if_neg (fun e=>hc e.symm),getL_del] at hx
  split at hx
  ·cases hx
  ·rename_i h;exact ⟨fun e=>h e.symm,(memL_get m c).trans hx⟩
 have newc:∀ {x:Blk},getR (memL ((n,.cells cs')::delL m b)::rd) n=some x→x=.cells cs':=by
  intro x hx;rw [getR_cons,memL_get,getL,if_pos rfl] at hx
  cases hx;rfl
 have hn0:∀ {c:Nat} {x:Nat×Nat},G.μ c=some x→c≠n:=by
  rintro c x hx rfl;rw [hm.fresh c (Nat.le_refl _) trivial] at hx;cases hx
 have hmu:∀ {c:Nat},c≠n→(⟨fun c=>if c=n then G1.μ k else G.μ c,G1.I⟩:Gh).μ c=G.μ c:=fun hc=>if_neg hc;have hext:Ext w w' G ⟨fun c=>if c=n then G1.μ k else G.μ c,G1.I⟩:=⟨fun c x hx=>(hmu (hn0 hx)).trans hx,hS.ext.im,hS.ext.same,hS.ext.shape⟩;have hoth:∀ {c:Nat} {x:Blk},c≠b→getR (memL m::rd) c=some x→∃ rc roc,G.μ c=some (rc,roc)∧base≤rc∧¬G1.I rc∧rc<w.heap.size∧rc≠rb∧BlkR w' ⟨fun c=>if c=n then G1.μ k else G.μ c,G1.I⟩ rc roc x:=by
  intro c x hcb' hx;obtain ⟨rc,roc,g1,g2,g3,g4⟩:=hm.blk c x hx;have hne:rc≠rb:=fun e=>hcb' (hm.inj c b x _ rc roc ro hx (getR_of_cur hcb) g1 (e▸e1));refine ⟨rc,roc,g1,g2,fun hi=>?_,g4.lt,hne,g4.mono hext (hS.fr rc g4.lt fun b0 k0 ro0 h1 h2=>hne (zero ⟨b0,k0,ro0,h1,h2⟩).1)⟩;rcases hS.impr rc hi with h1 | h1 | h1
  ·exact g3 h1
  ·have:=g4.lt;omega
  ·exact hne (zero h1).1
 refine ⟨r,⟨fun c=>if c=n then G1.μ k else G.μ c,G1.I⟩,rfl,?_,?_⟩
 ·exact {
   mr := {
    fresh:=fun c hc _=>by rw [hmu (by omega)];exact hm.fresh c (by omega) trivial
    blk:=fun c x hx=>by
     by_cases hc:c=n
     ·subst hc
      obtain rfl:=newc hx;exact ⟨rk,rok,(if_pos rfl).trans f1,f2,f3,blk_to (G:=G1) (G':=⟨fun d=>if d=c then G1.μ k else G.μ d,G1.I⟩) rfl hn' f4⟩
     ·obtain ⟨g0,g1⟩:=hold hc hx
      obtain ⟨rc,roc,g2,g3,g4,-,-,g5⟩:=hoth g0 g1;exact ⟨rc,roc,(hmu hc).trans g2,g3,g4,g5⟩
    inj:=fun c c' x x' q o o' hx hx' h1 h2=>by
     have far:∀ {c:Nat} {x:Blk} {q o o':Nat},c≠n→getR (memL ((n,.cells cs')::delL m b)::rd) c=some x→(⟨fun c=>if c=n then G1.μ k else G.μ c,G1.I⟩:Gh).μ c=some (q,o)→(⟨fun c=>if c=n then G1.μ k else G.μ c,G1.I⟩:Gh).μ n=some (q,o')→False:=by
      intro c x q o o' hc hx h1 h2;obtain ⟨g0,g1⟩:=hold hc hx;obtain ⟨rc,roc,g2,-,-,g3,g4,-⟩:=hoth g0 g1;rw [hmu hc,g2] at h1;have h2':G1.μ k=some (q,o'):=(if_pos rfl).symm.trans h2;rw [f1] at h2'
      cases h1;cases h2'
      rcases hrk with h | h
      ·omega
      ·exact g4 h
     by_cases hc:c=n
     ·by_cases hc':c'=n
      ·rw [hc,hc']
      ·subst hc
       exact (far hc' hx' h2 h1).elim
     ·by_cases hc':c'=n
      ·subst hc'
       exact (far hc hx h1 h2).elim
      ·rw [hmu hc] at h1
       rw [hmu hc'] at h2;exact hm.inj c c' x x' q o o' (hold hc hx).2 (hold hc' hx').2 h1 h2
    imm:=hS.mr.imm,base:=hS.mr.base
    gt:=fun g cs hg=>RowR.mono (Ext.unbare w' ⟨fun c=>if c=n then G1.μ k else G.μ c,G1.I⟩) cs (show RowR w' G1.bare g 0 cs from bareRow (G:=G1) cs (hS.mr.gt g cs hg))
    dj:=fun c x hx=>by
     by_cases hc:c=n
     ·subst hc;exact hm.rd_new trivial
     ·exact hm.dj c x (holdc hc hx).2 }
   ext:=hext
   os:=hS.os,tape:=hS.tape,output:=hS.output,size:=hS.size
   fr:=fun q hq ho=>hS.fr q hq fun b0 k0 ro0 h1 h2=>by
    obtain ⟨-,ro1,h3⟩:=zero ⟨b0,k0,ro0,h1,h2⟩;exact ho b _ ro1 hcb h3
   prov:=fun c x q o hx h1=>by
    by_cases hc:c=n
    ·subst hc
     have h1':G1.μ k=some (q,o):=(if_pos rfl).symm.trans h1;rcases hS.prov k _ q o hck h1' with h2 | h2
     ·exact .inl h2
     ·obtain ⟨-,ro1,h3⟩:=zero h2
      exact .inr ⟨b,_,ro1,hcb,h3⟩
    ·rw [hmu hc] at h1
     exact .inr ⟨c,x,o,(holdc hc hx).2,h1⟩
   impr:=fun q hi=>by
    rcases hS.impr q hi with h1 | h1 | h1
    ·exact .inl h1
    ·exact .inr (.inl h1)
    ·obtain ⟨-,ro1,h3⟩:=zero h1
     exact .inr (.inr ⟨b,_,ro1,hcb,h3⟩)
   mus:=fun c x hx=>by
    by_cases hc:c=n
    ·exact .inr (Nat.le_of_eq hc.symm)
    ·rw [hmu hc] at hx;exact .inl hx
   nx:=Nat.le_succ n }
 ·obtain ⟨q,o,o',cap,c,e,fr,g1,g2⟩:=hr
  exact ⟨q,o,o',cap,c,e,fr,(if_pos rfl).trans g1,g2⟩
end
def wkA (a' a:AV):Prop:=∀ (w:World) (G:Gh) (v:Value),VR w G a v→VR w G a' v
theorem wkA.refl (a:AV):wkA a a:=fun _ _ _ h=>h
theorem wkA.nil (sz:Nat):wkA (.sl 0 sz []) (.g (.slice none 0 0)):=fun _ _ v h=>by
 obtain rfl:v=.slice none 0 0:=h;exact ⟨none,0,rfl,Nat.le_refl _,.inl rfl⟩
def wkL:List AV→List AV→Prop
 | [],l=>l=[]
 | a::as,l=>∃ x xs,l=x::xs∧wkA a x∧wkL as xs
theorem wkL.refl:∀ l:List AV,wkL l l
 | []=>rfl
 | a::as=>⟨a,as,rfl,wkA.refl a,wkL.refl as⟩
theorem wkL.cons {a a':AV} {l l':List AV} (h:wkA a' a) (k:wkL l' l):wkL (a'::l') (a::l):=⟨a,l,rfl,h,k⟩
theorem wkL_get:∀ {l' l:List AV},wkL l' l→∀ (t:Nat) (a:AV),l'[t]?=some a→∃ x,l[t]?=some x∧wkA a x
 | [],_,_,t,a,h=>by simp at h
 | a::as,_,h,t,x,hx=>by
   obtain ⟨y,ys,rfl,h1,h2⟩:=h
   cases t with
   | zero=>simp only [List.getElem?_cons_zero,Option.some.injEq] at hx;subst hx;exact ⟨y,rfl,h1⟩
   | succ t=>simp only [List.getElem?_cons_succ] at hx ⊢;exact wkL_get h2 t x hx
def wkM (m:ML):ML→Prop
 | []=>True
 | (c,k)::m'=>(getL m c=some k∨∃ x y,k=.cells x∧getL m c=some (.cells y)∧wkL x y)∧wkM m m'
theorem wkM_get {m:ML}:∀ {m':ML},wkM m m'→∀ (c:Nat) (k:Blk),getL m' c=some k→getL m c=some k∨∃ x y,k=.cells x∧getL m c=some (.cells y)∧wkL x y
 | [],_,c,k,h=>by simp [getL] at h
 | (d,x)::m',h,c,k,hc=>by
   rw [getL] at hc
   split at hc
   ·rename_i hd;subst hd;cases hc;exact h.1
   ·exact wkM_get h.2 c k hc
theorem VS.weak {GT:GTab} {E:Beg} {l l':List AV} {m m':ML} {n:Nat} (hl:wkL l' l) (hm:wkM m m'):VS GT E (stL l m n) (stL l' m' n):=by
 intro base w1 G1 w G ts hm1 hs ht;have cur:∀ c k,(memL m').get c=some k→∃ k',(memL m).get c=some k'∧∀ rb ro,BlkR w G rb ro k'→BlkR w G rb ro k:=by
  intro c k hc;rw [memL_get] at hc;rcases wkM_get hm c k hc with h | ⟨x,y,rfl,h,hxy⟩
  ·exact ⟨k,(memL_get m c).trans h,fun _ _ h=>h⟩
  ·refine ⟨_,(memL_get m c).trans h,fun rb ro hb=>?_⟩
   obtain ⟨c',e',fr',h1,h2,h3⟩:=hb;refine ⟨c',e',fr',h1,h2,fun i a hi=>?_⟩;obtain ⟨z,h4,h5⟩:=wkL_get hxy i a hi;obtain ⟨v,h6,h7⟩:=h3 i z h4;exact ⟨v,h6,h5 w G v h7⟩
 have back:∀ c k,getR (memL m'::E.rd) c=some k→∃ k',getR (memL m::E.rd) c=some k'∧∀ rb ro,BlkR w G rb ro k'→BlkR w G rb ro k:=by
  intro c k hc;rw [getR_cons] at hc
  cases hx:(memL m').get c with
  | some y =>
    rw [hx,Option.some_or] at hc;obtain rfl:y=k:=by simpa using hc
    obtain ⟨k',h1,h2⟩:=cur c y hx;exact ⟨k',getR_of_cur h1,h2⟩
  | none =>
    rw [hx,Option.none_or] at hc;have hn:(memL m).get c=none:=by
     cases hy:(memL m).get c with
     | none=>rfl
     | some y=>rw [hs.mr.dj c y hy] at hc;cases hc
    exact ⟨k,by rw [getR_cons,hn];exact hc,fun _ _ h=>h⟩
 refine ⟨G,.refl w _,?_,fun t a ha=>?_⟩
 ·exact {
   mr := {
    fresh:=hs.mr.fresh
    blk:=fun c k hc=>by
     obtain ⟨k',h1,h2⟩:=back c k hc;obtain ⟨rb,ro,g1,g2,g3,g4⟩:=hs.mr.blk c k' h1;exact ⟨rb,ro,g1,g2,g3,h2 rb ro g4⟩
    inj:=fun c c' k k' rb ro ro' h1 h2 h3 h4=>by
     obtain ⟨x,g1,-⟩:=back c k h1;obtain ⟨y,g2,-⟩:=back c' k' h2;exact hs.mr.inj c c' x y rb ro ro' g1 g2 h3 h4
    imm:=hs.mr.imm,base:=hs.mr.base,gt:=hs.mr.gt
    dj:=fun c k hc=>by
     obtain ⟨k',h1,-⟩:=cur c k hc
     exact hs.mr.dj c k' h1 }
   ext:=hs.ext,os:=hs.os,tape:=hs.tape,output:=hs.output,size:=hs.size,fr:=hs.fr
   prov:=fun c k rb ro hc h1=>by
    obtain ⟨k',h2,-⟩:=cur c k hc;exact hs.prov c k' rb ro h2 h1
   impr:=hs.impr,mus:=hs.mus,nx:=hs.nx }
 ·rw [tmL_get] at ha
  obtain ⟨x,h1,h2⟩:=wkL_get hl t a ha;obtain ⟨v,h3,h4⟩:=ht t x (by rw [tmL_get];exact h1);exact ⟨v,h3,h2 w G v h4⟩
theorem W.post {P:Program} {GT:GTab} {E:Beg} {c:Code} {s:St} {Q Q':AX→St→Prop} (h:W P GT E c s Q) (hq:∀ x s',Q x s'→(x=.nrm∨x=.ret)∧∃ s1,VS GT E s' s1∧Q' x s1):W P GT E c s Q':=by
 intro base D w1 G1 w G a hm1 hs ht hd;refine wp_mono (h base D w1 G1 w G a hm1 hs ht hd) fun e a' w' h1=>?_;obtain ⟨x,s',G',h2,h3,h4,h5,h6⟩:=h1;obtain ⟨hx,s1,hv,hq1⟩:=hq x s' h6;obtain ⟨G2,-,h7,h8⟩:=hv base w1 G1 w' G' a'.tmps hm1 h3 (h4 fun v e=>by rcases hx with rfl | rfl <;> cases e)
 refine ⟨x,s1,G2,?_,h7,fun _=>h8,h5,hq1⟩;rcases hx with rfl | rfl <;> exact h2
abbrev postV (P:Program) (GT:GTab) (rs:List ResultVar) (v:AV):AX→St→Prop:=fun x s=>(x=.nrm∨x=.ret)∧∃ s1,VS GT .none s s1∧postP P rs v x s1
theorem postV.of {P:Program} {GT:GTab} {rs:List ResultVar} {v:AV} {x:AX} {s:St} (h:postP P rs v x s):postV P GT rs v x s:=⟨h.1,s,VS.refl s,h⟩
theorem PureN.of_w2 {P:Program} {GT:GTab} {c:Code} {f:FuncId} {fn:Func} {args:List AV} {v:AV} (hf:P.funcs[f]?=some fn) (hb:fn.body=some c) (hn:(fn.name == "runtime.NumGoroutine")=false) (hi:noIdsL args=true)
 (h:W P GT .none c (stL (args++List.replicate (fn.ntmps - args.length) (.g undef)) [] 0) (postV P GT fn.results.toList v)):PureN P GT f args v:=PureN.of_w hf hb hn hi (W.post h fun _ _ h=>h)
theorem W.mid {P:Program} {GT:GTab} {E:Beg} {p q:Code} {s:St} {Q:AX→St→Prop} {ι:Type} (I:ι→Prop) (S:ι→St) (h1:W P GT E p s (fun x s'=>x=.nrm∧∃ i,I i∧VS GT E s' (S i))) (h2:∀ i,I i→W P GT E q (S i) Q):W P GT E (.seq p q) s Q:=by
 refine W.seq (W.mono h1 ?_);rintro x s' ⟨rfl,i,hi,hv⟩;exact W.vs hv (h2 i hi)
theorem postN_one {P:Program} {GT:GTab} {l:List AV} {m m0:ML} {n n0:Nat} {R:AV→ML→Nat→Prop} {r:ResultVar} {u:AV} (x:AX) (hx:x=.nrm∨x=.ret) (h:resV P l m r=some u) (hR:R u m n):postN P GT ⟨[],memL m0,n0⟩ [r] R x (stL l m n) :=
 ⟨hx,l,m,n,u,hR,VS.refl _,by simp only [resA,resL,resV_ok h]⟩
theorem frL_cons {b:Nat} {cs as as':List AV} {a a':AV}:frL b cs (a'::as') (a::as)=(frA b cs a' a∧frL b cs as' as):=propext ⟨fun ⟨_,_,e,h1,h2⟩=>by cases e;exact ⟨h1,h2⟩,fun ⟨h1,h2⟩=>⟨_,_,rfl,h1,h2⟩⟩
theorem frL_nil {b:Nat} {cs:List AV}:frL b cs [] []=True:=by simp [frL]
theorem frA_any {b:Nat} {cs:List AV} {a:AV}:frA b cs .any a=True:=by simp [frA]
theorem frA_self {b:Nat} {cs:List AV} {a:AV}:frA b cs a a=True:=by simp [frA]
end Go.Ev
end
