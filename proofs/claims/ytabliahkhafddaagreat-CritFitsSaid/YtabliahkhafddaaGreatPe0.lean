/- crit.above: the iterator, which writes its own number. -/
import Derived.Test.YtabliahkhafddaaGreatPd9
import Derived.Test.YtabliahkhafddaaGreatPd3
import Derived.Test.YtabliahkhafddaaGreatPd8
import Derived.Test.YtabliahkhafddaaGreatPc9
import Derived.JoinedOf
import Derived.WalkKit
import Derived.ProofKit
import Derived.OpenShut
import Derived.SizedLaws
import Derived.WideKeyArgs
import Derived.Test.YtabliahkhafddaaGreatRows
import Derived.Test.YtabliahkhafddaaGreatPd7
import Derived.Test.YtabliahkhafddaaGreatPd6
set_option linter.unusedSimpArgs false
noncomputable section
namespace Go.Proofs.YtabliahkhafddaaGreat
open Go.RowKit Go.Ev
open Go.Ev.AV renaming any→aN
attribute [local go_sem] eq_self false_and and_false Bool.false_eq_true List.set_cons_succ List.set_cons_zero List.getD_cons_succ List.getD_cons_zero List.getElem?_cons_succ List.getElem?_cons_zero true_and and_true and_self Bool.not_true Bool.not_false Nat.add_zero Nat.zero_add Nat.mul_one Int.toNat_natCast Int.natCast_nonneg Int.ofNat_lt Option.bind_some Option.map_some List.map_cons List.map_nil decide_true decide_false BEq.rfl Bool.and_self Bool.and_true Bool.and_false beq_self_eq_true List.cons_append List.nil_append List.take_zero List.take_succ_cons List.take_nil List.drop_succ_cons List.drop_zero List.drop_nil List.append_nil List.length_cons List.length_nil List.all_cons List.all_nil Nat.le_refl Int.le_refl Option.map_none List.replicate_zero List.replicate_succ Nat.zero_mul Nat.sub_zero Nat.zero_le Nat.le_zero_eq Q2f Option.some_or Option.none_or Option.or_none Option.isSome_some Option.isSome_none Option.getD_some Option.getD_none Int.toNat_zero Int.natCast_zero Int.natCast_one Int.cast_ofNat_Int List.toList_toArray
attribute [go_sem] appL newsA isSlice
def cntP (m:Nat):List Part→Nat→Nat
 | [],n=>n
 | x::xs,n=>if n≤m then cntP m xs (cntL m x.l n) else n
def smC (m:Nat):List Cx→Nat→Bool
 | [],n=>decide (n≤m)
 | c::cs,n=>if n≤m then (if c.pseudo.size≤100 then smC m cs (cntP m c.parts (n+c.parts.length)) else false) else false
theorem cntP_stop (m n:Nat) (l:List Part) (h:¬n≤m):cntP m l n=n:=by
 cases l with
 | nil=>rfl
 | cons x xs=>rw [cntP,if_neg h]
theorem cntP_spec {m:Nat} (hm:m≤1000):∀ (l:List Part) (n:Nat),n≤cntP m l n∧(cntP m l n≤m→n+simps l≤cntP m l n∧∀ x∈l,smS.smL x.l)
 | [],n=>⟨Nat.le_refl _,fun _=>⟨by simp [simps,cntP],fun x hx=>by simp at hx⟩⟩
 | x::xs,n=>by
   rw [cntP]
   by_cases h:n≤m
   ·rw [if_pos h]
    obtain ⟨i1,i2,i3⟩:=cnt_spec m hm _ x.l (Nat.le_refl _) n (by omega);obtain ⟨j1,j2⟩:=cntP_spec hm xs (cntL m x.l n);refine ⟨by omega,fun hc=>?_⟩;obtain ⟨k1,k2⟩:=j2 hc;obtain ⟨k3,k4⟩:=i3 (by omega);refine ⟨by simp only [simps,List.map_cons,List.sum_cons] at k1 ⊢;omega,fun y hy=>?_⟩;rcases List.mem_cons.1 hy with rfl | hy
    ·exact k4
    ·exact k2 y hy
   ·rw [if_neg h]
    exact ⟨Nat.le_refl _,fun h2=>absurd h2 h⟩
def smCx (m:Nat) (c:Cx):Prop:=c.parts.length+simps c.parts≤m∧c.pseudo.size≤100∧∀ x∈c.parts,smS.smL x.l
theorem smC_spec {m:Nat} (hm:m≤1000):∀ (l:List Cx) (n:Nat),smC m l n=true→n≤m∧∀ c∈l,smCx m c
 | [],n,h=>⟨of_decide_eq_true h,fun c hc=>by simp at hc⟩
 | c :: cs,n,h=>by
   rw [smC] at h
   by_cases hn:n≤m
   ·rw [if_pos hn] at h
    by_cases hp:c.pseudo.size≤100
    ·rw [if_pos hp] at h
     obtain ⟨h1,h2⟩:=smC_spec hm cs _ h;obtain ⟨j1,j2⟩:=cntP_spec hm c.parts (n+c.parts.length);obtain ⟨k1,k2⟩:=j2 h1;refine ⟨hn,fun y hy=>?_⟩;rcases List.mem_cons.1 hy with rfl | hy
     ·exact ⟨by omega,hp,k2⟩
     ·exact h2 y hy
    ·rw [if_neg hp] at h;cases h
   ·rw [if_neg hn] at h;cases h
theorem rowCs {l:List Cx} {k:Nat} (hk:k<l.length):(l.flatMap encC)[k*2]?=some (.sl l[k].parts.length 2 (l[k].parts.flatMap encP))∧(l.flatMap encC)[k*2+1]?=some (.g (.string l[k].pseudo)):=by
 have h:=flat_get encC 2 (fun _=>rfl) l k hk;exact ⟨h 0 (by decide),h 1 (by decide)⟩
set_option maxRecDepth 100000 in
set_option maxHeartbeats 4000000 in
theorem small4_p (l:List Cx) (m:Nat) (hm:m≤1000) (hg:∀ c∈l,c.parts.length≤140737488351232):PureN Tryz.prog gt0 19 [.sl l.length 2 (l.flatMap encC),.g (.int .i64 (m:Int))] (.g (.bool (smC m l l.length))):=by
 refine PureN.of_w (c:=_) Tryz.func19 rfl (by kernel_rfl) rfl ?_;simp only [Tryz.f19,List.replicate,List.length_cons,List.length_nil,Nat.reduceAdd,Nat.reduceSub,List.cons_append,List.nil_append];obtain ⟨R,hR⟩:∃ R,smC m l l.length=R:=⟨_,rfl⟩;rw [hR]
 (repeat ((try with_reducible refine W.step (b:=false) ?_);simp (decide:=true) only [go_sem,↓reduceIte,Nat.reduceAdd,Nat.reduceSub]))
 refine W.loop (s1:=stL [(.sl l.length 2 (l.flatMap encC)),(.g (.int .i64 (m:Int))),aN,aN,(.g (.bool false)),(.g (.int .i64 (l.length:Int))),(.g (.int .i64 ((0:Nat):Int))),aN,aN,aN,aN,aN,aN,aN,aN,aN,aN,aN,aN,aN,aN,aN,aN,aN,aN,aN,aN,aN,aN,aN,aN,aN,aN,aN,aN,aN,aN,aN,aN,aN,aN,aN,aN,aN,aN,aN,aN,aN,aN,aN,aN,aN,aN,aN,aN,aN,aN,aN,aN,aN,aN,aN,aN,aN,aN,aN] [] 0)
  (fun (z:Nat×Nat) t=>(z.1≤l.length∧l.length≤z.2∧R=smC m (l.drop z.1) z.2)∧t=stL [(.sl l.length 2 (l.flatMap encC)),(.g (.int .i64 (m:Int))),aN,aN,(.g (.bool false)),(.g (.int .i64 (z.2:Int))),(.g (.int .i64 (z.1:Int))),aN,aN,aN,aN,aN,aN,aN,aN,aN,aN,aN,aN,aN,aN,aN,aN,aN,aN,aN,aN,aN,aN,aN,aN,aN,aN,aN,aN,aN,aN,aN,aN,aN,aN,aN,aN,aN,aN,aN,aN,aN,aN,aN,aN,aN,aN,aN,aN,aN,aN,aN,aN,aN,aN,aN,aN,aN,aN,aN] [] 0) (fun z=>l.length - z.1) (0,l.length) ⟨⟨Nat.zero_le _,Nat.le_refl _,hR.symm⟩,rfl⟩ (VS.tm (by simp [leL])) ?_
 rintro ⟨i,n⟩ t ⟨⟨hi,hln,he⟩,rfl⟩;simp only at hi hln he
 by_cases hlt:i<l.length
 ·rw [List.drop_eq_getElem_cons hlt,smC] at he
  by_cases hnm:n≤m
  ·rw [if_pos hnm] at he
   have fn:((n:Int)≤(m:Int))=True:=eq_true (by omega);obtain ⟨r1,r2⟩:=rowCs hlt;have hgl:=hg _ (List.getElem_mem hlt);have fw:IntKind.i64.wrap ((n:Int)+(l[i].parts.length:Int))=((n+l[i].parts.length:Nat):Int):=by rw [IntWalk.i64_in _ (by omega)];omega
   (repeat ((try with_reducible refine W.step (b:=false) ?_);simp (decide:=true) only [go_sem,↓reduceIte,Nat.reduceAdd,Nat.reduceSub,hlt,fn,r1,fw]))
   refine W.loop (s1:=stL [(.sl l.length 2 (l.flatMap encC)),(.g (.int .i64 (m:Int))),aN,aN,(.g (.bool false)),(.g (.int .i64 ((n+l[i].parts.length:Nat):Int))),(.g (.int .i64 (i:Int))),(.g (.int .i64 ((0:Nat):Int))),aN,aN,aN,aN,aN,aN,aN,aN,aN,aN,aN,aN,aN,aN,aN,aN,aN,aN,aN,aN,aN,aN,aN,aN,aN,aN,aN,aN,aN,aN,aN,aN,aN,aN,aN,aN,aN,aN,aN,aN,aN,aN,aN,aN,aN,aN,aN,aN,aN,aN,aN,aN,aN,aN,aN,aN,aN,aN] [] 0)
    (fun (z:Nat×Nat) t=>(z.1≤l[i].parts.length∧l[i].parts.length≤z.2∧l.length≤z.2∧cntP m l[i].parts (n+l[i].parts.length)=cntP m (l[i].parts.drop z.1) z.2)∧t=stL [(.sl l.length 2 (l.flatMap encC)),(.g (.int .i64 (m:Int))),aN,aN,(.g (.bool false)),(.g (.int .i64 (z.2:Int))),(.g (.int .i64 (i:Int))),(.g (.int .i64 (z.1:Int))),aN,aN,aN,aN,aN,aN,aN,aN,aN,aN,aN,aN,aN,aN,aN,aN,aN,aN,aN,aN,aN,aN,aN,aN,aN,aN,aN,aN,aN,aN,aN,aN,aN,aN,aN,aN,aN,aN,aN,aN,aN,aN,aN,aN,aN,aN,aN,aN,aN,aN,aN,aN,aN,aN,aN,aN,aN,aN] [] 0) (fun z=>l[i].parts.length - z.1) (0,n+l[i].parts.length) ⟨⟨Nat.zero_le _,by simp only;omega,by simp only;omega,rfl⟩,rfl⟩ (VS.tm (by simp [leL])) ?_
   rintro ⟨k,c⟩ t ⟨⟨hk,hpc,hlc,hc⟩,rfl⟩;simp only at hk hpc hlc hc
   by_cases hlk:k<l[i].parts.length
   ·by_cases hcm:c≤m
    ·have fc:((c:Int)≤(m:Int))=True:=eq_true (by omega)
     rw [List.drop_eq_getElem_cons hlk,cntP,if_pos hcm] at hc;obtain ⟨-,q2⟩:=rowPq hlk;obtain ⟨s1,s2,-⟩:=cnt_spec m hm _ l[i].parts[k].l (Nat.le_refl _) c (by omega);have HC:=count_p m hm _ l[i].parts[k].l (Nat.le_refl _) c (by omega)
     (repeat ((try with_reducible refine W.step (b:=false) ?_);simp (decide:=true) only [go_sem,↓reduceIte,Nat.reduceAdd,Nat.reduceSub,hlt,r1,hlk,fc,q2]))
     refine AtCall.mk HC ?_
     (repeat ((try with_reducible refine W.step (b:=false) ?_);simp (decide:=true) only [go_sem,↓reduceIte,Nat.reduceAdd,Nat.reduceSub]))
     refine ⟨(k+1,cntL m l[i].parts[k].l c),_,⟨⟨hlk,by simp only;omega,by simp only;omega,hc⟩,rfl⟩,by show l[i].parts.length - (k+1)<l[i].parts.length - k;omega,?_⟩;rw [up1 (by omega)];exact VS.tm (by simp [leL])
    ·have fc:((c:Int)≤(m:Int))=False:=eq_false (by omega)
     rw [cntP_stop m c _ hcm] at hc;rw [hc] at he
     by_cases hps:l[i].pseudo.size≤100
     ·have fp:((100:Int)<(l[i].pseudo.size:Int))=False:=eq_false (by omega)
      rw [if_pos hps] at he
      (repeat ((try with_reducible refine W.step (b:=false) ?_);simp (decide:=true) only [go_sem,↓reduceIte,Nat.reduceAdd,Nat.reduceSub,hlt,r1,r2,hlk,fc,fp]))
      refine ⟨(i+1,c),_,⟨⟨hlt,hlc,he⟩,rfl⟩,by show l.length - (i+1)<l.length - i;omega,?_⟩;rw [up1 (by omega)];exact VS.tm (by simp [leL])
     ·have fp:((100:Int)<(l[i].pseudo.size:Int))=True:=eq_true (by omega)
      rw [if_neg hps] at he;rw [he]
      (repeat ((try with_reducible refine W.step (b:=false) ?_);simp (decide:=true) only [go_sem,↓reduceIte,Nat.reduceAdd,Nat.reduceSub,hlt,r1,r2,hlk,fc,fp]))
      exact Q0a _ (.inr rfl) rfl (.plain rfl)
   ·rw [List.drop_of_length_le (by omega),cntP] at hc
    rw [hc] at he
    by_cases hps:l[i].pseudo.size≤100
    ·have fp:((100:Int)<(l[i].pseudo.size:Int))=False:=eq_false (by omega)
     rw [if_pos hps] at he
     (repeat ((try with_reducible refine W.step (b:=false) ?_);simp (decide:=true) only [go_sem,↓reduceIte,Nat.reduceAdd,Nat.reduceSub,hlt,r1,r2,hlk,fp]))
     refine ⟨(i+1,c),_,⟨⟨hlt,hlc,he⟩,rfl⟩,by show l.length - (i+1)<l.length - i;omega,?_⟩;rw [up1 (by omega)];exact VS.tm (by simp [leL])
    ·have fp:((100:Int)<(l[i].pseudo.size:Int))=True:=eq_true (by omega)
     rw [if_neg hps] at he;rw [he]
     (repeat ((try with_reducible refine W.step (b:=false) ?_);simp (decide:=true) only [go_sem,↓reduceIte,Nat.reduceAdd,Nat.reduceSub,hlt,r1,r2,hlk,fp]))
     exact Q0a _ (.inr rfl) rfl (.plain rfl)
  ·rw [if_neg hnm] at he
   have fn:((n:Int)≤(m:Int))=False:=eq_false (by omega);rw [he]
   (repeat ((try with_reducible refine W.step (b:=false) ?_);simp (decide:=true) only [go_sem,↓reduceIte,Nat.reduceAdd,Nat.reduceSub,hlt,fn]))
   exact Q0a _ (.inr rfl) rfl (.plain rfl)
 ·rw [List.drop_of_length_le (by omega),smC] at he
  by_cases hnm:n≤m
  ·have fn:((n:Int)≤(m:Int))=True:=eq_true (by omega)
   rw [he,decide_eq_true hnm]
   (repeat ((try with_reducible refine W.step (b:=false) ?_);simp (decide:=true) only [go_sem,↓reduceIte,Nat.reduceAdd,Nat.reduceSub,hlt,fn]))
   exact Q0a _ (.inr rfl) rfl (.plain rfl)
  ·have fn:((n:Int)≤(m:Int))=False:=eq_false (by omega)
   rw [he,decide_eq_false hnm]
   (repeat ((try with_reducible refine W.step (b:=false) ?_);simp (decide:=true) only [go_sem,↓reduceIte,Nat.reduceAdd,Nat.reduceSub,hlt,fn]))
   exact Q0a _ (.inr rfl) rfl (.plain rfl)
attribute [go_sem] appL newsA isSlice
theorem smL_memA:∀ {l:List Simp},smS.smL l→∀ x∈l,smS x
 | x::xs,h,y,hy=>by
   rcases List.mem_cons.1 hy with rfl | hy
   ·exact h.1
   ·exact smL_memA h.2 y hy
theorem okNL_of:∀ {l:List Simp},(∀ x∈l,okN x)→okN.okNL l
 | [],_=>trivial
 | x::_,h=>⟨h x List.mem_cons_self,okNL_of fun y hy=>h y (List.mem_cons_of_mem _ hy)⟩
theorem okL_ofA:∀ {l:List Simp},(∀ x∈l,okS x)→okS.okL l
 | [],_=>trivial
 | x::_,h=>⟨h x List.mem_cons_self,okL_ofA fun y hy=>h y (List.mem_cons_of_mem _ hy)⟩
theorem smS_okA (N:Nat):∀ (x:Simp),SizeOf.sizeOf x≤N→smS x→okS x∧okN x:=by
 induction N with
 | zero=>intro x hl;cases x;simp at hl
 | succ N ih =>
   rintro ⟨kind,nm,v,a,b,l⟩ hl h;rw [Simp.mk.sizeOf_spec] at hl;obtain ⟨h1,h2,h3⟩:=h;exact ⟨⟨by omega,okL_ofA fun x hx=>(ih x (by have:=List.sizeOf_lt_of_mem hx;omega) (smL_memA h3 x hx)).1⟩,⟨by omega,okNL_of fun x hx=>(ih x (by have:=List.sizeOf_lt_of_mem hx;omega) (smL_memA h3 x hx)).2⟩⟩
theorem simps_memA {PT:List Part} {pt:Part} (h:pt∈PT):pt.l.length≤simps PT:=by
 unfold simps
 induction PT with
 | nil=>simp at h
 | cons x xs ih =>
   rw [List.map_cons,List.sum_cons];rcases List.mem_cons.1 h with rfl | h
   ·omega
   ·have:=ih h;omega
theorem smCx_okA {m:Nat} (hm:m≤1000) {c:Cx} (h:smCx m c):OkC c:=by
 obtain ⟨h1,-,h3⟩:=h;exact ⟨⟨by omega,fun pt hp=>⟨by have:=simps_memA hp;omega,fun x hx=>(smS_okA _ x (Nat.le_refl _) (smL_memA (h3 pt hp) x hx)).1⟩⟩,fun pt hp x hx=>(smS_okA _ x (Nat.le_refl _) (smL_memA (h3 pt hp) x hx)).2⟩
theorem pgSm_ok {m:Nat} (hm:m≤1000) {p:List Nod} (h:pgSm m p=true):OkPg p:=by
 unfold pgSm at h;obtain ⟨g1,g2⟩:=Bool.and_eq_true_iff.1 h;have g1:=of_decide_eq_true g1;have hnd:∀ x∈p,x.name.size≤100∧x.text.size≤300∧x.attrs.length≤20∧x.kids.length≤m∧∀ a∈x.attrs,a.value.size≤100:=by
  intro x hx;have:=List.all_eq_true.1 g2 x hx;unfold ndSm at this;simp only [Bool.and_eq_true,decide_eq_true_eq,List.all_eq_true] at this;exact ⟨this.1,this.2.1,this.2.2.1,this.2.2.2.1,fun a ha=>(this.2.2.2.2 a ha).2⟩
 exact ⟨by omega,fun x hx=>by have:=(hnd x hx).2.2.2.1;omega,fun x hx=>by have:=(hnd x hx).2.2.1;omega,fun x hx=>by have:=(hnd x hx).1;have:=(hnd x hx).2.1;omega,fun x hx a ha=>by have:=(hnd x hx).2.2.2.2 a ha;omega⟩
theorem ag_w19:aggO Tryz.prog 53=some (true,5):=by kernel_rfl
theorem sz_w19:szO Tryz.prog 53=some 5:=by kernel_rfl
theorem fl_w190:fldO Tryz.prog 53 0=some (0,48):=by kernel_rfl
theorem fl_w191:fldO Tryz.prog 53 1=some (2,49):=by kernel_rfl
theorem fl_w192:fldO Tryz.prog 53 2=some (3,50):=by kernel_rfl
theorem fl_w193:fldO Tryz.prog 53 3=some (4,51):=by kernel_rfl
theorem bl_w19 (parts:List (Nat×AV)):evBuild Tryz.prog 53 parts=aggM (fillL [(0,2),(2,1),(3,1),(4,1)] [.g (.slice none 0 0),.g (.slice none 0 0),.g (.slice none 0 0),.g (.slice none 0 0),.g (.slice none 0 0)] parts):=Q1d (by kernel_rfl) parts
theorem ze_w19:zeroO Tryz.prog 53=some [.g (.slice none 0 0),.g (.slice none 0 0),.g (.slice none 0 0),.g (.slice none 0 0),.g (.slice none 0 0)]:=by kernel_rfl
theorem ag_sheets2:aggO Tryz.prog 49=some (false,1):=by kernel_rfl
theorem ag_turns2:aggO Tryz.prog 50=some (false,1):=by kernel_rfl
theorem el_sheets2:elemO Tryz.prog 49=some 1:=by kernel_rfl
theorem el_turns2:elemO Tryz.prog 50=some 1:=by kernel_rfl
attribute [go_sem] el_sheets2 el_turns2 ag_w19 sz_w19 fl_w190 fl_w191 fl_w192 fl_w193 bl_w19 ze_w19 ag_sheets2 ag_turns2
attribute [go_sem] appL newsA isSlice
set_option maxRecDepth 100000 in
set_option maxHeartbeats 4000000 in
theorem nth6_p (a b i:Int):PureN Tryz.prog gt0 237 [.g (.int .i64 a),.g (.int .i64 b),.g (.int .i64 i)] (.g (.bool (nthM a b i))):=by
 refine PureN.of_w (c:=_) Tryz.func237 rfl (by kernel_rfl) rfl ?_;simp only [Tryz.f237,List.replicate,List.length_cons,List.length_nil,Nat.reduceAdd,Nat.reduceSub,List.cons_append,List.nil_append];have big:∀ n:Int,bigN n=(decide (n< -1000000000)||decide (1000000000<n)):=fun _=>rfl;have hbig:bigN a=true∨bigN b=true∨bigN i=true→nthM a b i=false:=fun h=>by
  unfold nthM;rcases h with h | h | h <;> rw [h] <;> simp
 by_cases a1:a< -1000000000
 ·have f1:=eq_true a1
  rw [hbig (.inl (by rw [big,decide_eq_true a1,Bool.true_or]))]
  (repeat ((try with_reducible refine W.step (b:=false) ?_);simp (decide:=true) only [go_sem,↓reduceIte,Nat.reduceAdd,Nat.reduceSub,f1]))
  exact Q0a _ (.inr rfl) rfl (.plain rfl)
 by_cases a2:1000000000<a
 ·have f2:=eq_true a2
  rw [hbig (.inl (by rw [big,decide_eq_true a2,Bool.or_true]))]
  (repeat ((try with_reducible refine W.step (b:=false) ?_);simp (decide:=true) only [go_sem,↓reduceIte,Nat.reduceAdd,Nat.reduceSub,a1,f2]))
  exact Q0a _ (.inr rfl) rfl (.plain rfl)
 by_cases b1:b< -1000000000
 ·have f1:=eq_true b1
  rw [hbig (.inr (.inl (by rw [big,decide_eq_true b1,Bool.true_or])))]
  (repeat ((try with_reducible refine W.step (b:=false) ?_);simp (decide:=true) only [go_sem,↓reduceIte,Nat.reduceAdd,Nat.reduceSub,a1,a2,f1]))
  exact Q0a _ (.inr rfl) rfl (.plain rfl)
 by_cases b2:1000000000<b
 ·have f2:=eq_true b2
  rw [hbig (.inr (.inl (by rw [big,decide_eq_true b2,Bool.or_true])))]
  (repeat ((try with_reducible refine W.step (b:=false) ?_);simp (decide:=true) only [go_sem,↓reduceIte,Nat.reduceAdd,Nat.reduceSub,a1,a2,b1,f2]))
  exact Q0a _ (.inr rfl) rfl (.plain rfl)
 by_cases i1:i< -1000000000
 ·have f1:=eq_true i1
  rw [hbig (.inr (.inr (by rw [big,decide_eq_true i1,Bool.true_or])))]
  (repeat ((try with_reducible refine W.step (b:=false) ?_);simp (decide:=true) only [go_sem,↓reduceIte,Nat.reduceAdd,Nat.reduceSub,a1,a2,b1,b2,f1]))
  exact Q0a _ (.inr rfl) rfl (.plain rfl)
 by_cases i2:1000000000<i
 ·have f2:=eq_true i2
  rw [hbig (.inr (.inr (by rw [big,decide_eq_true i2,Bool.or_true])))]
  (repeat ((try with_reducible refine W.step (b:=false) ?_);simp (decide:=true) only [go_sem,↓reduceIte,Nat.reduceAdd,Nat.reduceSub,a1,a2,b1,b2,i1,f2]))
  exact Q0a _ (.inr rfl) rfl (.plain rfl)
 have no:∀ x:Int,¬x< -1000000000→¬1000000000<x→bigN x=false:=fun x h1 h2=>by rw [big,decide_eq_false h1,decide_eq_false h2];rfl
 rw [nth_ref (no a a1 a2) (no b b1 b2) (no i i1 i2)]
 by_cases h0:a=0
 ·have f0:=eq_true h0
  rw [if_pos (.inl h0)]
  (repeat ((try with_reducible refine W.step (b:=false) ?_);simp (decide:=true) only [go_sem,↓reduceIte,Nat.reduceAdd,Nat.reduceSub,a1,a2,b1,b2,i1,i2,f0]))
  exact Q0a _ (.inr rfl) rfl (.plain rfl)
 by_cases he:i=b
 ·have fe:=eq_true he
  rw [if_pos (.inr he),decide_eq_true he]
  (repeat ((try with_reducible refine W.step (b:=false) ?_);simp (decide:=true) only [go_sem,↓reduceIte,Nat.reduceAdd,Nat.reduceSub,a1,a2,b1,b2,i1,i2,h0,fe]))
  exact Q0a _ (.inr rfl) rfl (.plain rfl)
 rw [if_neg (by omega)];have w1:IntKind.i64.wrap (i - b)=i - b:=IntWalk.i64_in _ (by omega);have w2:IntKind.i64.wrap (b - i)=b - i:=IntWalk.i64_in _ (by omega);have w3:IntKind.i64.wrap (0 - a)=-a:=(IntWalk.i64_in _ (by omega)).trans (by omega)
 by_cases hn:a<0
 ·have fn:=eq_true hn
  rw [if_pos hn]
  by_cases hl:i<b
  ·have fl:=eq_true hl
   have fz:(-a=0)=False:=eq_false (by omega);rw [decide_eq_true hl,Bool.true_and]
   (repeat ((try with_reducible refine W.step (b:=false) ?_);simp (decide:=true) only [go_sem,↓reduceIte,Nat.reduceAdd,Nat.reduceSub,a1,a2,b1,b2,i1,i2,h0,he,fn,fl,w1,w2,w3,fz]))
   exact Q0a _ (.inr rfl) rfl (.plain rfl)
  ·rw [decide_eq_false hl,Bool.false_and]
   (repeat ((try with_reducible refine W.step (b:=false) ?_);simp (decide:=true) only [go_sem,↓reduceIte,Nat.reduceAdd,Nat.reduceSub,a1,a2,b1,b2,i1,i2,h0,he,fn,hl]))
   exact Q0a _ (.inr rfl) rfl (.plain rfl)
 ·rw [if_neg hn]
  by_cases hl:b<i
  ·have fl:=eq_true hl
   rw [decide_eq_true hl,Bool.true_and]
   (repeat ((try with_reducible refine W.step (b:=false) ?_);simp (decide:=true) only [go_sem,↓reduceIte,Nat.reduceAdd,Nat.reduceSub,a1,a2,b1,b2,i1,i2,h0,he,hn,fl,w1,w2,w3]))
   exact Q0a _ (.inr rfl) rfl (.plain rfl)
  ·rw [decide_eq_false hl,Bool.false_and]
   (repeat ((try with_reducible refine W.step (b:=false) ?_);simp (decide:=true) only [go_sem,↓reduceIte,Nat.reduceAdd,Nat.reduceSub,a1,a2,b1,b2,i1,i2,h0,he,hn,hl]))
   exact Q0a _ (.inr rfl) rfl (.plain rfl)
theorem wordsL_le:∀ (l cur:List UInt8),(wordsL cur l).length≤l.length+if cur=[] then 0 else 1
 | [],cur=>by rw [wordsL];split <;> simp
 | c::l,cur=>by
   rw [wordsL];have h1:=wordsL_le l [];have h2:=wordsL_le l (cur++[c]);rw [if_pos rfl] at h1;rw [if_neg (by simp)] at h2;rw [List.length_cons]
   split
   ·split
    ·omega
    ·rw [List.length_cons];omega
   ·split <;> omega
theorem classes_le {p:List Nod} {n:Int} (hp:OkPg p):(classesM p n).length≤1000000:=by
 unfold classesM wordsB;rw [List.length_map];have h1:=wordsL_le ((atM p n clsB).getD ⟨#[]⟩).data.toList [];have h2:=at_size hp n clsB;rw [if_pos rfl,Array.length_toList] at h1;exact Nat.le_trans h1 h2
theorem fl_stw:fldO Tryz.prog 108 0=some (0,3):=by kernel_rfl
attribute [go_sem] fl_stw
theorem rowSt2 {l:List Stt} {k:Nat} (hk:k<l.length):(l.flatMap encSt)[k*2]?=some (.g (.int .i64 l[k].node))∧(l.flatMap encSt)[k*2+1]?=some (.g (.string l[k].name)):=by
 have h:=flat_get encSt 2 (fun _=>rfl) l k hk;exact ⟨h 0 (by decide),h 1 (by decide)⟩
set_option maxRecDepth 100000 in
set_option maxHeartbeats 4000000 in
theorem state12_p (l:List Stt) (n:Int) (s:ByteArray) (hl:l.length≤1000000):PureN Tryz.prog gt0 236 [.sl l.length 2 (l.flatMap encSt),.g (.int .i64 n),.g (.string s)] (.g (.bool (l.any fun x=>decide (x.node=n)&&decide (x.name=s)))):=by
 refine PureN.of_w (c:=_) Tryz.func236 rfl (by kernel_rfl) rfl ?_;simp only [Tryz.f236,List.replicate,List.length_cons,List.length_nil,Nat.reduceAdd,Nat.reduceSub,List.cons_append,List.nil_append]
 (repeat ((try with_reducible refine W.step (b:=false) ?_);simp (decide:=true) only [go_sem,↓reduceIte,Nat.reduceAdd,Nat.reduceSub]))
 refine W.loop (s1:=stL [(.sl l.length 2 (l.flatMap encSt)),(.g (.int .i64 n)),(.g (.string s)),aN,aN,aN,(.g (.bool false)),(.g (.int .i64 ((0:Nat):Int))),aN,aN,aN,aN,aN,aN,aN,aN,aN,aN,aN,aN,aN,aN,aN,aN,aN,aN,aN,aN,aN,aN] [] 0)
  (fun (k:Nat) t=>k≤l.length∧(∀ x∈l.take k,(decide (x.node=n)&&decide (x.name=s))=false)∧t=stL [(.sl l.length 2 (l.flatMap encSt)),(.g (.int .i64 n)),(.g (.string s)),aN,aN,aN,(.g (.bool false)),(.g (.int .i64 (k:Int))),aN,aN,aN,aN,aN,aN,aN,aN,aN,aN,aN,aN,aN,aN,aN,aN,aN,aN,aN,aN,aN,aN] [] 0) (fun k=>l.length - k) 0 ⟨Nat.zero_le _,by simp,rfl⟩ (VS.tm (by simp [leL])) ?_
 rintro k t ⟨hk,hno,rfl⟩
 by_cases hlt:k<l.length
 ·have r:=rowSt2 hlt
  have nxt:(decide (l[k].node=n)&&decide (l[k].name=s))=false→∀ x∈l.take (k+1),(decide (x.node=n)&&decide (x.name=s))=false:=fun h=>Q1e (pr:=fun x:Stt=>decide (x.node=n)&&decide (x.name=s)) hlt hno h
  by_cases h1:l[k].node=n
  ·have f1:=eq_true h1
   by_cases h2:l[k].name=s
   ·have f2:=eq_true h2
    have ha:(l.any fun x=>decide (x.node=n)&&decide (x.name=s))=true:=List.any_eq_true.2 ⟨l[k],List.getElem_mem hlt,by rw [decide_eq_true h1,decide_eq_true h2];rfl⟩;rw [ha]
    (repeat ((try with_reducible refine W.step (b:=false) ?_);simp (decide:=true) only [go_sem,↓reduceIte,Nat.reduceAdd,Nat.reduceSub,hlt,r,f1,f2]))
    exact Q0a _ (.inr rfl) rfl (.plain rfl)
   ·(repeat ((try with_reducible refine W.step (b:=false) ?_);simp (decide:=true) only [go_sem,↓reduceIte,Nat.reduceAdd,Nat.reduceSub,hlt,r,f1,h2]))
    refine ⟨k+1,_,⟨by omega,nxt (by rw [decide_eq_false h2,Bool.and_false]),rfl⟩,by show l.length - (k+1)<l.length - k;omega,VS.tm ?_⟩;rw [up1 (by omega)];simp [leL]
  ·(repeat ((try with_reducible refine W.step (b:=false) ?_);simp (decide:=true) only [go_sem,↓reduceIte,Nat.reduceAdd,Nat.reduceSub,hlt,r,h1]))
   refine ⟨k+1,_,⟨by omega,nxt (by rw [decide_eq_false h1,Bool.false_and]),rfl⟩,by show l.length - (k+1)<l.length - k;omega,VS.tm ?_⟩;rw [up1 (by omega)];simp [leL]
 ·have ha:(l.any fun x=>decide (x.node=n)&&decide (x.name=s))=false:=List.any_eq_false.2 (fun x hx=>by rw [hno x (by rw [List.take_of_length_le (by omega)];exact hx)];decide)
  rw [ha]
  (repeat ((try with_reducible refine W.step (b:=false) ?_);simp (decide:=true) only [go_sem,↓reduceIte,Nat.reduceAdd,Nat.reduceSub,hlt]))
  exact Q0a _ (.inr rfl) rfl (.plain rfl)
set_option maxRecDepth 100000 in
set_option maxHeartbeats 4000000 in
theorem Q3o (p:List Nod) (n:Int) (hp:OkPg p):PureN Tryz.prog gt0 238 [.sl p.length 5 (p.flatMap encNd),.g (.int .i64 n)] (.g (.int .i64 (placeM p n))):=by
 refine PureN.of_w (c:=_) Tryz.func238 rfl (by kernel_rfl) rfl ?_;simp only [Tryz.f238,List.replicate,List.length_cons,List.length_nil,Nat.reduceAdd,Nat.reduceSub,List.cons_append,List.nil_append]
 (repeat ((try with_reducible refine W.step (b:=false) ?_);simp (decide:=true) only [go_sem,↓reduceIte,Nat.reduceAdd,Nat.reduceSub]))
 refine AtCall.mk (kin10_p p n hp) ?_
 (repeat ((try with_reducible refine W.step (b:=false) ?_);simp (decide:=true) only [go_sem,↓reduceIte,Nat.reduceAdd,Nat.reduceSub]))
 unfold placeM;have hl:=kin_len (n:=n) hp;generalize kinM p n=l at hl ⊢
 refine W.loop (s1:=stL [aN,(.g (.int .i64 n)),aN,aN,(.g (.int .i64 0)),(.sl l.length 1 (l.flatMap encZ)),(.g (.int .i64 ((0:Nat):Int))),aN,aN,aN,aN,aN,aN,aN,aN,aN,aN,aN,aN,aN,aN,aN,aN,aN] [] 0)
  (fun (k:Nat) t=>k≤l.length∧(∀ x∈l.take k,decide (x=n)=false)∧t=stL [aN,(.g (.int .i64 n)),aN,aN,(.g (.int .i64 0)),(.sl l.length 1 (l.flatMap encZ)),(.g (.int .i64 (k:Int))),aN,aN,aN,aN,aN,aN,aN,aN,aN,aN,aN,aN,aN,aN,aN,aN,aN] [] 0) (fun k=>l.length - k) 0 ⟨Nat.zero_le _,by simp,rfl⟩ (VS.tm (by simp [leL])) ?_
 rintro k t ⟨hk,hno,rfl⟩
 by_cases hlt:k<l.length
 ·have r:=rowZ hlt
  have hfin:IntKind.i64.wrap ((k:Int)+1)=((k+1:Nat):Int):=up1 (by omega)
  by_cases hx:l[k]=n
  ·have fx:=eq_true hx
   rw [Q3i hlt hno (decide_eq_true hx),show 1+(k:Int)=((k+1:Nat):Int) by omega]
   (repeat ((try with_reducible refine W.step (b:=false) ?_);simp (decide:=true) only [go_sem,↓reduceIte,Nat.reduceAdd,Nat.reduceSub,hlt,r,fx,hfin]))
   exact Q0a _ (.inr rfl) rfl (.plain rfl)
  ·(repeat ((try with_reducible refine W.step (b:=false) ?_);simp (decide:=true) only [go_sem,↓reduceIte,Nat.reduceAdd,Nat.reduceSub,hlt,r,hx]))
   refine ⟨k+1,_,⟨by omega,Q1e (pr:=fun x:Int=>decide (x=n)) hlt hno (decide_eq_false hx),rfl⟩,by show l.length - (k+1)<l.length - k;omega,VS.tm ?_⟩;rw [hfin];simp [leL]
 ·rw [Q2v (fun x hx=>hno x (by rw [List.take_of_length_le (by omega)];exact hx))]
  (repeat ((try with_reducible refine W.step (b:=false) ?_);simp (decide:=true) only [go_sem,↓reduceIte,Nat.reduceAdd,Nat.reduceSub,hlt]))
  exact Q0a _ (.inr rfl) rfl (.plain rfl)
set_option maxRecDepth 100000 in
set_option maxHeartbeats 4000000 in
theorem holds12_p (p:List Nod) (st:List Stt) (n:Int) (hp:OkPg p) (hs:st.length≤1000000) (he:elemB p n=true) (N:Nat):∀ (x:Simp),SizeOf.sizeOf x≤N→okS x→PureN Tryz.prog gt0 163 [.sl p.length 5 (p.flatMap encNd),.sl st.length 2 (st.flatMap encSt),.g (.int .i64 n),.agg (encS x)] (.g (.bool (holdsS p st n x))):=by
 induction N with
 | zero=>intro x hl;cases x;simp at hl
 | succ N ih =>
   rintro ⟨kind,name,value,a,b,l⟩ hl hok;have IH:∀ y∈l,PureN Tryz.prog gt0 163 [.sl p.length 5 (p.flatMap encNd),.sl st.length 2 (st.flatMap encSt),.g (.int .i64 n),.agg (encS y)] (.g (.bool (holdsS p st n y))):=fun y hy=>by
    have h1:=List.sizeOf_lt_of_mem hy;have h2:=okL_mem hok.2 y hy;rw [Simp.mk.sizeOf_spec] at hl;exact ih y (by omega) h2
   refine PureN.of_w (c:=_) Tryz.func163 rfl (by kernel_rfl) (by simp [noIdsL,noIds,noIds_S]) ?_;simp only [Tryz.f163,List.replicate,List.length_cons,List.length_nil,Nat.reduceAdd,Nat.reduceSub,List.cons_append,List.nil_append,encS_m,holdsS];obtain ⟨k,rfl,hk,hnd⟩:=at_nat he;have r:=rowNd hk
   by_cases h1:kind=1
   ·have f1:=eq_true h1
    rw [if_pos h1]
    (repeat ((try with_reducible refine W.step (b:=false) ?_);simp (decide:=true) only [go_sem,↓reduceIte,Nat.reduceAdd,Nat.reduceSub,f1];try with_reducible refine drawn hmix (by kernel_rfl) ?_))
    exact Q0a _ (.inr rfl) rfl (.plain rfl)
   have f1:=eq_false h1;rw [if_neg h1]
   by_cases h2:kind=2
   ·have f2:=eq_true h2
    rw [if_pos h2,hnd]
    (repeat ((try with_reducible refine W.step (b:=false) ?_);simp (decide:=true) only [go_sem,↓reduceIte,Nat.reduceAdd,Nat.reduceSub,f1,f2,hk,r];try with_reducible refine drawn hmix (by kernel_rfl) ?_))
    exact Q0a _ (.inr rfl) rfl (.plain rfl)
   have f2:=eq_false h2;rw [if_neg h2]
   by_cases h3:kind=3
   ·have f3:=eq_true h3
    rw [if_pos h3,attr_one]
    (repeat ((try with_reducible refine W.step (b:=false) ?_);simp (decide:=true) only [go_sem,↓reduceIte,Nat.reduceAdd,Nat.reduceSub,f1,f2,f3];try with_reducible refine drawn hmix (by kernel_rfl) ?_))
    refine AtCall.mk (attr10_p p k idB hp) ?_
    cases hv:atM p k idB with
    | none =>
      (repeat ((try with_reducible refine W.step (b:=false) ?_);simp (decide:=true) only [go_sem,↓reduceIte,Nat.reduceAdd,Nat.reduceSub];try with_reducible refine drawn hmix (by kernel_rfl) ?_))
      exact Q0a _ (.inr rfl) rfl (.plain rfl)
    | some v =>
      (repeat ((try with_reducible refine W.step (b:=false) ?_);simp (decide:=true) only [go_sem,↓reduceIte,Nat.reduceAdd,Nat.reduceSub];try with_reducible refine drawn hmix (by kernel_rfl) ?_))
      exact Q0a _ (.inr rfl) rfl (.plain rfl)
   have f3:=eq_false h3;rw [if_neg h3]
   by_cases h4:kind=4
   ·have f4:=eq_true h4
    rw [if_pos h4]
    (repeat ((try with_reducible refine W.step (b:=false) ?_);simp (decide:=true) only [go_sem,↓reduceIte,Nat.reduceAdd,Nat.reduceSub,f1,f2,f3,f4];try with_reducible refine drawn hmix (by kernel_rfl) ?_))
    refine AtCallQ.mk (classes10_p p k hp) ?_
    (repeat ((try with_reducible refine W.step (b:=false) ?_);simp (decide:=true) only [go_sem,↓reduceIte,Nat.reduceAdd,Nat.reduceSub];try with_reducible refine drawn hmix (by kernel_rfl) ?_))
    refine AtCallQ.mk (in11w_p (classesM p k) name (classes_le hp)) ?_
    (repeat ((try with_reducible refine W.step (b:=false) ?_);simp (decide:=true) only [go_sem,↓reduceIte,Nat.reduceAdd,Nat.reduceSub];try with_reducible refine drawn hmix (by kernel_rfl) ?_))
    exact Q0a _ (.inr rfl) rfl (.plain rfl)
   have f4:=eq_false h4;rw [if_neg h4]
   by_cases h5:kind=5
   ·have f5:=eq_true h5
    rw [if_pos h5,attr_none]
    (repeat ((try with_reducible refine W.step (b:=false) ?_);simp (decide:=true) only [go_sem,↓reduceIte,Nat.reduceAdd,Nat.reduceSub,f1,f2,f3,f4,f5];try with_reducible refine drawn hmix (by kernel_rfl) ?_))
    refine AtCall.mk (attr10_p p k name hp) ?_
    (repeat ((try with_reducible refine W.step (b:=false) ?_);simp (decide:=true) only [go_sem,↓reduceIte,Nat.reduceAdd,Nat.reduceSub];try with_reducible refine drawn hmix (by kernel_rfl) ?_))
    exact Q0a _ (.inr rfl) rfl (.plain rfl)
   have f5:=eq_false h5;rw [if_neg h5]
   by_cases h6:kind=6
   ·have f6:=eq_true h6
    rw [if_pos h6,attr_one]
    (repeat ((try with_reducible refine W.step (b:=false) ?_);simp (decide:=true) only [go_sem,↓reduceIte,Nat.reduceAdd,Nat.reduceSub,f1,f2,f3,f4,f5,f6];try with_reducible refine drawn hmix (by kernel_rfl) ?_))
    refine AtCall.mk (attr10_p p k name hp) ?_
    cases hv:atM p k name with
    | none =>
      (repeat ((try with_reducible refine W.step (b:=false) ?_);simp (decide:=true) only [go_sem,↓reduceIte,Nat.reduceAdd,Nat.reduceSub];try with_reducible refine drawn hmix (by kernel_rfl) ?_))
      exact Q0a _ (.inr rfl) rfl (.plain rfl)
    | some v =>
      (repeat ((try with_reducible refine W.step (b:=false) ?_);simp (decide:=true) only [go_sem,↓reduceIte,Nat.reduceAdd,Nat.reduceSub];try with_reducible refine drawn hmix (by kernel_rfl) ?_))
      exact Q0a _ (.inr rfl) rfl (.plain rfl)
   have f6:=eq_false h6;rw [if_neg h6]
   by_cases h7:kind=7
   ·have f7:=eq_true h7
    rw [if_pos h7]
    (repeat ((try with_reducible refine W.step (b:=false) ?_);simp (decide:=true) only [go_sem,↓reduceIte,Nat.reduceAdd,Nat.reduceSub,f1,f2,f3,f4,f5,f6,f7];try with_reducible refine drawn hmix (by kernel_rfl) ?_))
    refine AtCall.mk (state12_p st k name hs) ?_
    (repeat ((try with_reducible refine W.step (b:=false) ?_);simp (decide:=true) only [go_sem,↓reduceIte,Nat.reduceAdd,Nat.reduceSub];try with_reducible refine drawn hmix (by kernel_rfl) ?_))
    exact Q0a _ (.inr rfl) rfl (.plain rfl)
   have f7:=eq_false h7;rw [if_neg h7]
   by_cases h8:kind=8
   ·have f8:=eq_true h8
    rw [if_pos h8]
    (repeat ((try with_reducible refine W.step (b:=false) ?_);simp (decide:=true) only [go_sem,↓reduceIte,Nat.reduceAdd,Nat.reduceSub,f1,f2,f3,f4,f5,f6,f7,f8];try with_reducible refine drawn hmix (by kernel_rfl) ?_))
    refine AtCallQ.mk (Q3o p k hp) ?_
    (repeat ((try with_reducible refine W.step (b:=false) ?_);simp (decide:=true) only [go_sem,↓reduceIte,Nat.reduceAdd,Nat.reduceSub];try with_reducible refine drawn hmix (by kernel_rfl) ?_))
    refine AtCallQ.mk (nth6_p a b (placeM p k)) ?_
    (repeat ((try with_reducible refine W.step (b:=false) ?_);simp (decide:=true) only [go_sem,↓reduceIte,Nat.reduceAdd,Nat.reduceSub];try with_reducible refine drawn hmix (by kernel_rfl) ?_))
    exact Q0a _ (.inr rfl) rfl (.plain rfl)
   have f8:=eq_false h8;rw [if_neg h8]
   by_cases h9:kind=9
   ·have f9:=eq_true h9
    rw [if_pos h9,hnd]
    by_cases hu:p[k].up=0
    ·have fu:=eq_true hu
     (repeat ((try with_reducible refine W.step (b:=false) ?_);simp (decide:=true) only [go_sem,↓reduceIte,Nat.reduceAdd,Nat.reduceSub,f1,f2,f3,f4,f5,f6,f7,f8,f9,fu,hk,r];try with_reducible refine drawn hmix (by kernel_rfl) ?_))
     refine AtCall.mk (Q3o p k hp) ?_
     (repeat ((try with_reducible refine W.step (b:=false) ?_);simp (decide:=true) only [go_sem,↓reduceIte,Nat.reduceAdd,Nat.reduceSub];try with_reducible refine drawn hmix (by kernel_rfl) ?_))
     exact Q0a _ (.inr rfl) rfl (.plain rfl)
    ·have fu:=eq_false hu
     (repeat ((try with_reducible refine W.step (b:=false) ?_);simp (decide:=true) only [go_sem,↓reduceIte,Nat.reduceAdd,Nat.reduceSub,f1,f2,f3,f4,f5,f6,f7,f8,f9,fu,hk,r];try with_reducible refine drawn hmix (by kernel_rfl) ?_))
     exact Q0a _ (.inr rfl) rfl (.plain rfl)
   have f9:=eq_false h9;rw [if_neg h9]
   by_cases h10:kind=10
   ·have f10:=eq_true h10
    rw [if_pos h10,hnd];have fz:(p[k].kids.length:Int)=0↔p[k].kids=[]:=by rw [←List.length_eq_zero_iff];omega
    have fz2:decide ((p[k].kids.length:Int)=0)=decide (p[k].kids=[]):=by rw [Bool.eq_iff_iff];simp only [decide_eq_true_eq];exact fz
    (repeat ((try with_reducible refine W.step (b:=false) ?_);simp (decide:=true) only [go_sem,↓reduceIte,Nat.reduceAdd,Nat.reduceSub,f1,f2,f3,f4,f5,f6,f7,f8,f9,f10,hk,r,fz2];try with_reducible refine drawn hmix (by kernel_rfl) ?_))
    exact Q0a _ (.inr rfl) rfl (.plain rfl)
   have f10:=eq_false h10;rw [if_neg h10]
   by_cases h11:kind=11
   ·have f11:=eq_true h11
    rw [if_pos h11,anyS_eq]
    (repeat ((try with_reducible refine W.step (b:=false) ?_);simp (decide:=true) only [go_sem,↓reduceIte,Nat.reduceAdd,Nat.reduceSub,f1,f2,f3,f4,f5,f6,f7,f8,f9,f10,f11];try with_reducible refine drawn hmix (by kernel_rfl) ?_))
    have hll:=hok.1
    refine W.loop (s1:=stL [(.sl p.length 5 (p.flatMap encNd)),(.sl st.length 2 (st.flatMap encSt)),(.g (.int .i64 (k:Int))),aN,aN,aN,aN,(.ptr 0 0),(.g (.bool false)),aN,aN,aN,aN,aN,aN,(.g (.int .i64 ((0:Nat):Int))),aN,aN,aN,aN,aN,aN,aN,aN,aN,aN,aN,aN,aN,aN,aN,aN,aN,aN,aN,aN,aN,aN,aN,aN,aN,aN,aN,aN,aN,aN,aN,aN,aN,aN,aN,aN,aN,aN,aN,aN,aN,aN,aN,aN,aN,aN,aN,aN,aN,aN,aN,aN,aN,aN,aN,aN,aN,aN,aN,aN,aN,aN,aN,aN,aN,aN,aN,aN,aN,aN,aN,aN,aN,aN,aN,aN,aN,aN,aN,aN,aN,aN,aN,aN,aN,aN,aN,aN,aN,aN,aN,aN,aN,aN,aN,aN,aN,aN,aN,aN,aN,aN,aN,aN,aN,aN,aN,aN,aN,aN,aN,aN,aN,aN,aN,aN,aN,aN,aN,aN,aN,aN,aN] [(0,.cells [.g (.int .i64 kind),.g (.string name),.g (.string value),.g (.int .i64 a),.g (.int .i64 b),.sl l.length 6 (l.flatMap encS)])] 1)
     (fun (i:Nat) t=>i≤l.length∧(∀ x∈l.take i,holdsS p st k x=false)∧t=stL [(.sl p.length 5 (p.flatMap encNd)),(.sl st.length 2 (st.flatMap encSt)),(.g (.int .i64 (k:Int))),aN,aN,aN,aN,(.ptr 0 0),(.g (.bool false)),aN,aN,aN,aN,aN,aN,(.g (.int .i64 (i:Int))),aN,aN,aN,aN,aN,aN,aN,aN,aN,aN,aN,aN,aN,aN,aN,aN,aN,aN,aN,aN,aN,aN,aN,aN,aN,aN,aN,aN,aN,aN,aN,aN,aN,aN,aN,aN,aN,aN,aN,aN,aN,aN,aN,aN,aN,aN,aN,aN,aN,aN,aN,aN,aN,aN,aN,aN,aN,aN,aN,aN,aN,aN,aN,aN,aN,aN,aN,aN,aN,aN,aN,aN,aN,aN,aN,aN,aN,aN,aN,aN,aN,aN,aN,aN,aN,aN,aN,aN,aN,aN,aN,aN,aN,aN,aN,aN,aN,aN,aN,aN,aN,aN,aN,aN,aN,aN,aN,aN,aN,aN,aN,aN,aN,aN,aN,aN,aN,aN,aN,aN,aN,aN,aN] [(0,.cells [.g (.int .i64 kind),.g (.string name),.g (.string value),.g (.int .i64 a),.g (.int .i64 b),.sl l.length 6 (l.flatMap encS)])] 1) (fun i=>l.length - i) 0 ⟨Nat.zero_le _,by simp,rfl⟩ (VS.tm (by simp [leL])) ?_
    rintro i t ⟨hi,hno,rfl⟩
    by_cases hlt:i<l.length
    ·obtain ⟨r1,r2⟩:=rowS6 hlt
     (repeat ((try with_reducible refine W.step (b:=false) ?_);simp (decide:=true) only [go_sem,↓reduceIte,Nat.reduceAdd,Nat.reduceSub,hlt,r1,r2];try with_reducible refine drawn hmix (by kernel_rfl) ?_))
     refine AtCall.mk (IH l[i] (List.getElem_mem hlt)) ?_
     cases hx:holdsS p st k l[i] with
     | true =>
       have ha:l.any (holdsS p st k)=true:=List.any_eq_true.2 ⟨l[i],List.getElem_mem hlt,hx⟩;rw [ha]
       (repeat ((try with_reducible refine W.step (b:=false) ?_);simp (decide:=true) only [go_sem,↓reduceIte,Nat.reduceAdd,Nat.reduceSub];try with_reducible refine drawn hmix (by kernel_rfl) ?_))
       exact Q0a _ (.inr rfl) rfl (.plain rfl)
     | false =>
       (repeat ((try with_reducible refine W.step (b:=false) ?_);simp (decide:=true) only [go_sem,↓reduceIte,Nat.reduceAdd,Nat.reduceSub];try with_reducible refine drawn hmix (by kernel_rfl) ?_))
       refine ⟨i+1,_,⟨by omega,Q1e hlt hno hx,rfl⟩,by show l.length - (i+1)<l.length - i;omega,VS.tm ?_⟩;rw [up1 (by omega)];simp [leL]
    ·have ha:l.any (holdsS p st k)=false:=List.any_eq_false.2 (fun x hx=>by rw [hno x (by rw [List.take_of_length_le (by omega)];exact hx)];decide)
     rw [ha]
     (repeat ((try with_reducible refine W.step (b:=false) ?_);simp (decide:=true) only [go_sem,↓reduceIte,Nat.reduceAdd,Nat.reduceSub,hlt];try with_reducible refine drawn hmix (by kernel_rfl) ?_))
     exact Q0a _ (.inr rfl) rfl (.plain rfl)
   have f11:=eq_false h11;rw [if_neg h11]
   (repeat ((try with_reducible refine W.step (b:=false) ?_);simp (decide:=true) only [go_sem,↓reduceIte,Nat.reduceAdd,Nat.reduceSub,f1,f2,f3,f4,f5,f6,f7,f8,f9,f10,f11];try with_reducible refine drawn hmix (by kernel_rfl) ?_))
   exact Q0a _ (.inr rfl) rfl (.plain rfl)
set_option maxRecDepth 100000 in
set_option maxHeartbeats 4000000 in
theorem each12_p (p:List Nod) (st:List Stt) (n:Int) (l:List Simp) (hp:OkPg p) (hs:st.length≤1000000) (he:elemB p n=true) (hl:l.length≤1000000) (hok:∀ x∈l,okS x):PureN Tryz.prog gt0 93 [.sl p.length 5 (p.flatMap encNd),.sl st.length 2 (st.flatMap encSt),.g (.int .i64 n),.sl l.length 6 (l.flatMap encS)] (.g (.bool (l.all (holdsS p st n)))):=by
 refine PureN.of_w (c:=_) Tryz.func93 rfl (by kernel_rfl) rfl ?_;simp only [Tryz.f93,List.replicate,List.length_cons,List.length_nil,Nat.reduceAdd,Nat.reduceSub,List.cons_append,List.nil_append]
 (repeat ((try with_reducible refine W.step (b:=false) ?_);simp (decide:=true) only [go_sem,↓reduceIte,Nat.reduceAdd,Nat.reduceSub]))
 refine W.loop (s1:=stL [(.sl p.length 5 (p.flatMap encNd)),(.sl st.length 2 (st.flatMap encSt)),(.g (.int .i64 n)),(.sl l.length 6 (l.flatMap encS)),aN,aN,aN,aN,(.g (.bool false)),(.g (.int .i64 ((0:Nat):Int))),aN,aN,aN,aN,aN,aN,aN,aN,aN,aN,aN,aN,aN,aN,aN] [] 0)
  (fun (i:Nat) t=>i≤l.length∧(∀ x∈l.take i,(!holdsS p st n x)=false)∧t=stL [(.sl p.length 5 (p.flatMap encNd)),(.sl st.length 2 (st.flatMap encSt)),(.g (.int .i64 n)),(.sl l.length 6 (l.flatMap encS)),aN,aN,aN,aN,(.g (.bool false)),(.g (.int .i64 (i:Int))),aN,aN,aN,aN,aN,aN,aN,aN,aN,aN,aN,aN,aN,aN,aN] [] 0) (fun i=>l.length - i) 0 ⟨Nat.zero_le _,by simp,rfl⟩ (VS.tm (by simp [leL])) ?_
 rintro i t ⟨hi,hno,rfl⟩
 by_cases hlt:i<l.length
 ·obtain ⟨r1,r2⟩:=rowS6 hlt
  (repeat ((try with_reducible refine W.step (b:=false) ?_);simp (decide:=true) only [go_sem,↓reduceIte,Nat.reduceAdd,Nat.reduceSub,hlt,r1,r2]))
  refine AtCall.mk (holds12_p p st n hp hs he _ l[i] (Nat.le_refl _) (hok _ (List.getElem_mem hlt))) ?_
  cases hx:holdsS p st n l[i] with
  | false =>
    have ha:l.all (holdsS p st n)=false:=List.all_eq_false.2 ⟨l[i],List.getElem_mem hlt,by rw [hx];decide⟩;rw [ha]
    (repeat ((try with_reducible refine W.step (b:=false) ?_);simp (decide:=true) only [go_sem,↓reduceIte,Nat.reduceAdd,Nat.reduceSub]))
    exact Q0a _ (.inr rfl) rfl (.plain rfl)
  | true =>
    (repeat ((try with_reducible refine W.step (b:=false) ?_);simp (decide:=true) only [go_sem,↓reduceIte,Nat.reduceAdd,Nat.reduceSub]))
    refine ⟨i+1,_,⟨by omega,Q1e (pr:=fun x=>!holdsS p st n x) hlt hno (by simp only [hx];rfl),rfl⟩,by show l.length - (i+1)<l.length - i;omega,VS.tm ?_⟩;rw [up1 (by omega)];simp [leL]
 ·have ha:l.all (holdsS p st n)=true:=List.all_eq_true.2 (fun x hx=>by have:=hno x (by rw [List.take_of_length_le (by omega)];exact hx);simpa using this)
  rw [ha]
  (repeat ((try with_reducible refine W.step (b:=false) ?_);simp (decide:=true) only [go_sem,↓reduceIte,Nat.reduceAdd,Nat.reduceSub,hlt]))
  exact Q0a _ (.inr rfl) rfl (.plain rfl)
set_option maxRecDepth 100000 in
set_option maxHeartbeats 4000000 in
theorem in12_p (p:List Nod) (n m:Nat) (hT:TreeP p) (hn:n<p.length) (hm:0<m):PureN Tryz.prog gt0 239 [.sl p.length 5 (p.flatMap encNd),.g (.int .i64 (n:Int)),.g (.int .i64 (m:Int))] (.g (.bool (decide (m∈aboveM p n)))):=by
 refine PureN.of_w (c:=_) Tryz.func239 rfl (by kernel_rfl) rfl ?_;simp only [Tryz.f239,List.replicate,List.length_cons,List.length_nil,Nat.reduceAdd,Nat.reduceSub,List.cons_append,List.nil_append]
 (repeat ((try with_reducible refine W.step (b:=false) ?_);simp (decide:=true) only [go_sem,↓reduceIte,Nat.reduceAdd,Nat.reduceSub]))
 refine W.loop (s1:=stL [(.sl p.length 5 (p.flatMap encNd)),(.g (.int .i64 (n:Int))),(.g (.int .i64 (m:Int))),aN,aN,aN,(.g (.bool false)),aN,aN,aN,aN,aN,aN,aN,aN,aN,aN] [] 0)
  (fun (u:Nat) t=>u<p.length∧(m∈aboveM p n↔m∈aboveM p u)∧t=stL [(.sl p.length 5 (p.flatMap encNd)),(.g (.int .i64 (u:Int))),(.g (.int .i64 (m:Int))),aN,aN,aN,(.g (.bool false)),aN,aN,aN,aN,aN,aN,aN,aN,aN,aN] [] 0) (fun u=>u) n ⟨hn,Iff.rfl,rfl⟩ (VS.tm (by simp [leL])) ?_
 rintro u t ⟨hu,hiff,rfl⟩
 by_cases h0:0<u
 ·have f0:((0:Int)<(u:Int))=True:=eq_true (by omega)
  have r:=rowNd hu;obtain ⟨g1,g2⟩:=hT.up u h0 hu;have hst:=Q1t (p:=p) u;rw [Q0o hu] at g1 g2 hst;obtain ⟨v,hv⟩:∃ v:Nat,p[u].up=v:=⟨p[u].up.toNat,by omega⟩;rw [hv] at r hst g2;rw [Int.toNat_natCast] at hst
  by_cases hx:v=m
  ·have fx:((v:Int)=(m:Int))=True:=eq_true (by omega)
   have ha:m∈aboveM p n:=hiff.2 (by rw [hst,if_pos ⟨by omega,by omega⟩,hx];exact List.mem_cons_self);rw [decide_eq_true ha]
   (repeat ((try with_reducible refine W.step (b:=false) ?_);simp (decide:=true) only [go_sem,↓reduceIte,Nat.reduceAdd,Nat.reduceSub,f0,h0,hu,r,fx,hx]))
   exact Q0a _ (.inr rfl) rfl (.plain rfl)
  ·have fx:((v:Int)=(m:Int))=False:=eq_false (by omega)
   (repeat ((try with_reducible refine W.step (b:=false) ?_);simp (decide:=true) only [go_sem,↓reduceIte,Nat.reduceAdd,Nat.reduceSub,f0,h0,hu,r,fx,hx]))
   refine ⟨v,_,⟨by omega,hiff.trans ?_,rfl⟩,by show v<u;omega,VS.tm (by simp [leL])⟩;rw [hst]
   by_cases hv0:0<v
   ·rw [if_pos ⟨by omega,by omega⟩,List.mem_cons]
    exact ⟨fun h=>h.resolve_left (fun e=>hx e.symm),.inr⟩
   ·rw [if_neg (by omega)]
    refine ⟨fun h=>by simp at h,fun h=>?_⟩;have:=above_lt v m h;omega
 ·have f0:((0:Int)<(u:Int))=False:=eq_false (by omega)
  have ha:¬m∈aboveM p n:=fun h=>by
   have:=above_lt u m (hiff.1 h);omega
  rw [decide_eq_false ha]
  (repeat ((try with_reducible refine W.step (b:=false) ?_);simp (decide:=true) only [go_sem,↓reduceIte,Nat.reduceAdd,Nat.reduceSub,f0,h0]))
  exact Q0a _ (.inr rfl) rfl (.plain rfl)
set_option maxRecDepth 100000 in
set_option maxHeartbeats 4000000 in
theorem stands12_p (p:List Nod) (n m:Nat) (comb:Int) (hp:OkPg p) (hT:TreeP p) (hn:n<p.length) (hm:m<p.length) (hm0:0<m):PureN Tryz.prog gt0 164 [.sl p.length 5 (p.flatMap encNd),.g (.int .i64 (n:Int)),.g (.int .i64 (m:Int)),.g (.int .i64 comb)] (.g (.bool (standsR p n m comb))):=by
 refine PureN.of_w (c:=_) Tryz.func164 rfl (by kernel_rfl) rfl ?_;simp only [Tryz.f164,List.replicate,List.length_cons,List.length_nil,Nat.reduceAdd,Nat.reduceSub,List.cons_append,List.nil_append];have rn:=rowNd hn;have rm:=rowNd hm
 have hw:IntKind.i64.wrap (placeM p n - 1)=placeM p n - 1:=IntWalk.i64_in _ (by
  have:=idx_bound (fun k=>decide (k=(n:Int))) (kinM p n) (kin_len hp);unfold placeM
  omega)
 unfold standsR;rw [Q0o hn,Q0o hm]
 by_cases c1:comb=1
 ·have g1:=eq_true c1
  rw [if_pos c1]
  (repeat ((try with_reducible refine W.step (b:=false) ?_);simp (decide:=true) only [go_sem,↓reduceIte,Nat.reduceAdd,Nat.reduceSub,hn,hm,rn,rm,g1];try with_reducible refine drawn hmix (by kernel_rfl) ?_))
  refine AtCall.mk (in12_p p n m hT hn hm0) ?_
  (repeat ((try with_reducible refine W.step (b:=false) ?_);simp (decide:=true) only [go_sem,↓reduceIte,Nat.reduceAdd,Nat.reduceSub];try with_reducible refine drawn hmix (by kernel_rfl) ?_))
  exact Q0a _ (.inr rfl) rfl (.plain rfl)
 have g1:=eq_false c1;rw [if_neg c1]
 by_cases c2:comb=2
 ·have g2:=eq_true c2
  rw [if_pos c2]
  (repeat ((try with_reducible refine W.step (b:=false) ?_);simp (decide:=true) only [go_sem,↓reduceIte,Nat.reduceAdd,Nat.reduceSub,hn,hm,rn,rm,g1,g2];try with_reducible refine drawn hmix (by kernel_rfl) ?_))
  exact Q0a _ (.inr rfl) rfl (.plain rfl)
 have g2:=eq_false c2;rw [if_neg c2]
 by_cases c3:comb=3
 ·have g3:=eq_true c3
  rw [if_pos c3]
  by_cases hk:p[n].up=p[m].up
  ·have fk:=eq_true hk
   (repeat ((try with_reducible refine W.step (b:=false) ?_);simp (decide:=true) only [go_sem,↓reduceIte,Nat.reduceAdd,Nat.reduceSub,hn,hm,rn,rm,g1,g2,g3,fk];try with_reducible refine drawn hmix (by kernel_rfl) ?_))
   refine AtCall.mk (Q3o p m hp) ?_
   (repeat ((try with_reducible refine W.step (b:=false) ?_);simp (decide:=true) only [go_sem,↓reduceIte,Nat.reduceAdd,Nat.reduceSub];try with_reducible refine drawn hmix (by kernel_rfl) ?_))
   refine AtCall.mk (Q3o p n hp) ?_
   (repeat ((try with_reducible refine W.step (b:=false) ?_);simp (decide:=true) only [go_sem,↓reduceIte,Nat.reduceAdd,Nat.reduceSub,hw];try with_reducible refine drawn hmix (by kernel_rfl) ?_))
   exact Q0a _ (.inr rfl) rfl (.plain rfl)
  ·(repeat ((try with_reducible refine W.step (b:=false) ?_);simp (decide:=true) only [go_sem,↓reduceIte,Nat.reduceAdd,Nat.reduceSub,hn,hm,rn,rm,g1,g2,g3,hk];try with_reducible refine drawn hmix (by kernel_rfl) ?_))
   exact Q0a _ (.inr rfl) rfl (.plain rfl)
 have g3:=eq_false c3;rw [if_neg c3]
 by_cases c4:comb=4
 ·have g4:=eq_true c4
  rw [if_pos c4]
  by_cases hk:p[n].up=p[m].up
  ·have fk:=eq_true hk
   (repeat ((try with_reducible refine W.step (b:=false) ?_);simp (decide:=true) only [go_sem,↓reduceIte,Nat.reduceAdd,Nat.reduceSub,hn,hm,rn,rm,g1,g2,g3,g4,fk];try with_reducible refine drawn hmix (by kernel_rfl) ?_))
   refine AtCall.mk (Q3o p m hp) ?_
   (repeat ((try with_reducible refine W.step (b:=false) ?_);simp (decide:=true) only [go_sem,↓reduceIte,Nat.reduceAdd,Nat.reduceSub];try with_reducible refine drawn hmix (by kernel_rfl) ?_))
   refine AtCall.mk (Q3o p n hp) ?_
   (repeat ((try with_reducible refine W.step (b:=false) ?_);simp (decide:=true) only [go_sem,↓reduceIte,Nat.reduceAdd,Nat.reduceSub];try with_reducible refine drawn hmix (by kernel_rfl) ?_))
   exact Q0a _ (.inr rfl) rfl (.plain rfl)
  ·(repeat ((try with_reducible refine W.step (b:=false) ?_);simp (decide:=true) only [go_sem,↓reduceIte,Nat.reduceAdd,Nat.reduceSub,hn,hm,rn,rm,g1,g2,g3,g4,hk];try with_reducible refine drawn hmix (by kernel_rfl) ?_))
   exact Q0a _ (.inr rfl) rfl (.plain rfl)
 ·have g4:=eq_false c4
  rw [if_neg c4]
  (repeat ((try with_reducible refine W.step (b:=false) ?_);simp (decide:=true) only [go_sem,↓reduceIte,Nat.reduceAdd,Nat.reduceSub,hn,hm,rn,rm,g1,g2,g3,g4];try with_reducible refine drawn hmix (by kernel_rfl) ?_))
  exact Q0a _ (.inr rfl) rfl (.plain rfl)
attribute [go_sem] appL newsA isSlice
theorem ag_bools:aggO Tryz.prog 110=some (false,1):=by kernel_rfl
theorem el_bools:elemO Tryz.prog 110=some 1:=by kernel_rfl
theorem ei_bools:elemI Tryz.prog 110=some (1,1,true):=by kernel_rfl
theorem ez_bools:elemZ Tryz.prog 110=[.bool false]:=by kernel_rfl
theorem un_bools:slOrStr (Tryz.prog.underlying 110)=true:=by kernel_rfl
attribute [go_sem] ag_bools el_bools ei_bools ez_bools un_bools
def bo (f:Nat→Bool) (N:Nat):List AV:=(List.range N).map fun n=>AV.g (.bool (f n))
theorem bo_len (f:Nat→Bool) (N:Nat):(bo f N).length=N:=by unfold bo;rw [List.length_map,List.length_range]
theorem bo_get {f:Nat→Bool} {N k:Nat} (h:k<N):(bo f N)[k]?=some (.g (.bool (f k))):=by unfold bo;rw [List.getElem?_map,List.getElem?_range h];rfl
theorem bo_at {f:Nat→Bool} {N k:Nat} (h:k<(bo f N).length):(bo f N)[k]=.g (.bool (f k)):=by
 have h1:k<N:=by rwa [bo_len] at h
 have h2:=bo_get (f:=f) h1;rw [List.getElem?_eq_getElem h] at h2;exact Option.some.inj h2
theorem bo_congr {f g:Nat→Bool} {N:Nat} (h:∀ j,j<N→f j=g j):bo f N=bo g N:=by
 unfold bo;exact List.map_congr_left fun j hj=>by rw [h j (List.mem_range.1 hj)]
theorem bo_set {f:Nat→Bool} {N i:Nat} (b:Bool) (h:i<N):(bo f N).take i++.g (.bool b)::(bo f N).drop (i+1)=bo (fun j=>if j=i then b else f j) N:=by
 rw [put_set (by rw [bo_len];exact h)];refine List.ext_getElem (by rw [List.length_set,bo_len,bo_len]) fun j h1 h2=>?_;rw [List.getElem_set,bo_at,bo_at]
 by_cases e:i=j
 ·subst e;simp
 ·rw [if_neg e,if_neg (fun h=>e h.symm)]
theorem bo_zero:∀ N,zerosA [.bool false] N=bo (fun _=>false) N:=by
 have h:∀ N,zerosA [.bool false] N=List.replicate N (AV.g (.bool false)):=by
  intro N
  induction N with
  | zero=>rfl
  | succ N ih=>rw [zerosA,ih];rfl
 intro N;rw [h];refine List.ext_getElem (by rw [List.length_replicate,bo_len]) fun j h1 h2=>?_;rw [List.getElem_replicate,bo_at]
theorem bo_plain (f:Nat→Bool) (N:Nat):∀ a∈bo f N,plainA a=true:=fun a ha=>by
 unfold bo at ha;obtain ⟨x,-,rfl⟩:=List.mem_map.1 ha
 rfl
theorem bo_ids (f:Nat→Bool) (N:Nat):noIdsL (bo f N)=true:=noIdsL_map (fun _=>rfl) _
theorem rowP2 {l:List Part} {k:Nat} (hk:k<l.length):(l.flatMap encP)[k*2]?=some (.g (.int .i64 l[k].comb))∧(l.flatMap encP)[k*2+1]?=some (.sl l[k].l.length 6 (l[k].l.flatMap encS)):=by
 have h:=flat_get encP 2 (fun _=>rfl) l k hk;exact ⟨h 0 (by decide),h 1 (by decide)⟩
set_option maxRecDepth 100000 in
set_option maxHeartbeats 4000000 in
theorem some12_p (p:List Nod) (f:Nat→Bool) (n:Nat) (comb:Int) (hp:OkPg p) (hT:TreeP p) (hn:elemB p n=true):PureN Tryz.prog gt0 94 [.sl p.length 5 (p.flatMap encNd),.sl p.length 1 (bo f p.length),.g (.int .i64 (n:Int)),.g (.int .i64 comb)] (.g (.bool (someR p f n comb))):=by
 refine PureN.of_w (c:=_) Tryz.func94 rfl (by kernel_rfl) rfl ?_;simp only [Tryz.f94,List.replicate,List.length_cons,List.length_nil,Nat.reduceAdd,Nat.reduceSub,List.cons_append,List.nil_append];obtain ⟨n0,n1⟩:=Q3k hT hn;have hlen:=hp.len
 (repeat ((try with_reducible refine W.step (b:=false) ?_);simp (decide:=true) only [go_sem,↓reduceIte,Nat.reduceAdd,Nat.reduceSub]))
 refine W.loop (s1:=stL [(.sl p.length 5 (p.flatMap encNd)),(.sl p.length 1 (bo f p.length)),(.g (.int .i64 (n:Int))),(.g (.int .i64 comb)),aN,aN,aN,aN,(.g (.bool false)),(.g (.int .i64 ((1:Nat):Int))),aN,aN,aN,aN,aN,aN,aN,aN,aN,aN,aN,aN,aN,aN,aN,aN,aN] [] 0)
  (fun (m:Nat) t=>m≤p.length∧0<m∧(∀ j,j<m→0<j→(f j&&standsR p n j comb)=false)∧t=stL [(.sl p.length 5 (p.flatMap encNd)),(.sl p.length 1 (bo f p.length)),(.g (.int .i64 (n:Int))),(.g (.int .i64 comb)),aN,aN,aN,aN,(.g (.bool false)),(.g (.int .i64 (m:Int))),aN,aN,aN,aN,aN,aN,aN,aN,aN,aN,aN,aN,aN,aN,aN,aN,aN] [] 0) (fun m=>p.length - m) 1 ⟨by omega,by decide,fun j h1 h2=>by omega,rfl⟩ (VS.tm (by simp [leL])) ?_
 rintro m t ⟨hm,hm0,hno,rfl⟩
 by_cases hlt:m<p.length
 ·have r:=bo_get (f:=f) hlt
  have nxt:(f m&&standsR p n m comb)=false→∀ j,j<m+1→0<j→(f j&&standsR p n j comb)=false:=fun h j h1 h2=>by
   rcases Nat.lt_or_ge j m with h3 | h3
   ·exact hno j h3 h2
   ·obtain rfl:j=m:=by omega
    exact h
  cases hfm:f m with
  | false =>
    rw [hfm] at r
    (repeat ((try with_reducible refine W.step (b:=false) ?_);simp (decide:=true) only [go_sem,↓reduceIte,Nat.reduceAdd,Nat.reduceSub,hlt,r]))
    refine ⟨m+1,_,⟨by omega,by omega,nxt (by rw [hfm];rfl),rfl⟩,by show p.length - (m+1)<p.length - m;omega,VS.tm ?_⟩;rw [up1 (by omega)];simp [leL]
  | true =>
    rw [hfm] at r
    (repeat ((try with_reducible refine W.step (b:=false) ?_);simp (decide:=true) only [go_sem,↓reduceIte,Nat.reduceAdd,Nat.reduceSub,hlt,r]))
    refine AtCall.mk (stands12_p p n m comb hp hT n1 hlt hm0) ?_
    cases hst:standsR p n m comb with
    | false =>
      (repeat ((try with_reducible refine W.step (b:=false) ?_);simp (decide:=true) only [go_sem,↓reduceIte,Nat.reduceAdd,Nat.reduceSub]))
      refine ⟨m+1,_,⟨by omega,by omega,nxt (by rw [hst,Bool.and_false]),rfl⟩,by show p.length - (m+1)<p.length - m;omega,VS.tm ?_⟩;rw [up1 (by omega)];simp [leL]
    | true =>
      have ha:someR p f n comb=true:=by
       unfold someR;exact List.any_eq_true.2 ⟨m,List.mem_range.2 hlt,by rw [decide_eq_true hm0,hfm,hst];rfl⟩
      rw [ha]
      (repeat ((try with_reducible refine W.step (b:=false) ?_);simp (decide:=true) only [go_sem,↓reduceIte,Nat.reduceAdd,Nat.reduceSub]))
      exact Q0a _ (.inr rfl) rfl (.plain rfl)
 ·have ha:someR p f n comb=false:=by
   unfold someR;refine List.any_eq_false.2 fun j hj=>?_;have h1:=List.mem_range.1 hj
   by_cases h2:0<j
   ·rw [hno j (by omega) h2,Bool.and_false];decide
   ·rw [decide_eq_false h2,Bool.false_and];decide
  rw [ha]
  (repeat ((try with_reducible refine W.step (b:=false) ?_);simp (decide:=true) only [go_sem,↓reduceIte,Nat.reduceAdd,Nat.reduceSub,hlt]))
  exact Q0a _ (.inr rfl) rfl (.plain rfl)
abbrev frontS (p:List Nod) (st:List Stt) (PT:List Part) (k:Nat):Nat→Bool:=fitsS p st (PT.take k).reverse
set_option maxRecDepth 100000 in
set_option maxHeartbeats 4000000 in
theorem fits12_p (p:List Nod) (st:List Stt) (PT:List Part) (s:ByteArray) (hp:OkPg p) (hT:TreeP p) (hp0:0<p.length) (hs:st.length≤1000000) (hPT:okPT PT):PureN Tryz.prog gt0 50 [.sl p.length 5 (p.flatMap encNd),.sl st.length 2 (st.flatMap encSt),.agg [.sl PT.length 2 (PT.flatMap encP),.g (.string s)]] (.sl p.length 1 (bo (fitsS p st PT.reverse) p.length)):=by
 refine PureN.of_w (c:=_) Tryz.func50 rfl (by kernel_rfl) rfl ?_;simp only [Tryz.f50,List.replicate,List.length_cons,List.length_nil,Nat.reduceAdd,Nat.reduceSub,List.cons_append,List.nil_append];have hlen:=hp.len;have hpt:=hPT.1;have fm:(p.length*(1+1)≤17179869184)=True:=eq_true (by omega);have fm2:(p.length*2≤17179869184)=True:=eq_true (by omega)
 (repeat ((try with_reducible refine W.step (b:=false) ?_);simp (decide:=true) only [go_sem,↓reduceIte,Nat.reduceAdd,Nat.reduceSub,fm,fm2]))
 refine W.loop (s1:=stL [(.sl p.length 5 (p.flatMap encNd)),(.sl st.length 2 (st.flatMap encSt)),aN,aN,aN,(.ptr 0 0),aN,(.sl p.length 1 (bo (frontS p st PT 0) p.length)),(.g (.int .i64 ((0:Nat):Int))),aN,aN,aN,aN,aN,aN,aN,aN,aN,aN,aN,aN,aN,aN,aN,aN,aN,aN,aN,aN,aN,aN,aN,aN,aN,aN,aN,aN,aN,aN,aN,aN,aN,aN,aN,aN,aN,aN,aN,aN,aN,aN,aN,aN,aN,aN,aN,aN,aN,aN,aN,aN,aN,aN,aN,aN,aN] [(0,.cells [.sl PT.length 2 (PT.flatMap encP),.g (.string s)])] 1)
  (fun (i:Nat) t=>i≤PT.length∧t=stL [(.sl p.length 5 (p.flatMap encNd)),(.sl st.length 2 (st.flatMap encSt)),aN,aN,aN,(.ptr 0 0),aN,(.sl p.length 1 (bo (frontS p st PT i) p.length)),(.g (.int .i64 (i:Int))),aN,aN,aN,aN,aN,aN,aN,aN,aN,aN,aN,aN,aN,aN,aN,aN,aN,aN,aN,aN,aN,aN,aN,aN,aN,aN,aN,aN,aN,aN,aN,aN,aN,aN,aN,aN,aN,aN,aN,aN,aN,aN,aN,aN,aN,aN,aN,aN,aN,aN,aN,aN,aN,aN,aN,aN,aN] [(0,.cells [.sl PT.length 2 (PT.flatMap encP),.g (.string s)])] 1) (fun i=>PT.length - i) 0 ⟨Nat.zero_le _,rfl⟩ ?_ ?_
 ·have hz:bo (frontS p st PT 0) p.length=bo (fun _=>false) p.length:=bo_congr fun j _=>by simp [frontS,fitsS]
  rw [hz,bo_zero];refine VS.trans (VS.sealT (m':=[(0,.cells [.sl PT.length 2 (PT.flatMap encP),.g (.string s)])]) (l':=[(.sl p.length 5 (p.flatMap encNd)),(.sl st.length 2 (st.flatMap encSt)),aN,aN,aN,(.ptr 0 0),aN,(.sl p.length 1 (bo (fun _=>false) p.length)),(.g (.int .i64 ((0:Nat):Int))),aN,aN,aN,aN,aN,aN,aN,aN,aN,aN,aN,aN,aN,aN,aN,aN,aN,aN,aN,aN,aN,aN,aN,aN,aN,aN,aN,aN,aN,aN,aN,aN,aN,aN,aN,aN,aN,aN,aN,aN,aN,aN,aN,aN,aN,aN,aN,aN,aN,aN,aN,aN,aN,aN,aN,aN,aN]) 1 (bo (fun _=>false) p.length) rfl (bo_plain _ _) ?_ ⟨⟨by decide,.inl rfl⟩,trivial⟩) (VS.ren [(0,0)] (by simp) (by simp) (by simp) (by simp only [go_sem,↓reduceIte,Nat.reduceAdd,Nat.reduceSub,Nat.reduceMul,Nat.reduceEqDiff,Nat.reduceLeDiff,Nat.reduceLT,Int.reduceLE,Int.reduceLT,Int.reduceToNat,Int.reduceEq]) ⟨⟨0,_,rfl,rfl,_,rfl,.inl ⟨rfl,rfl⟩⟩,trivial⟩);simp only [Q4b,frL_nil,frA_any,Q4c,and_true,true_and];exact ⟨.inr (.inr ⟨0,_,1,_,rfl,by rw [List.drop_zero,Nat.mul_one,List.take_of_length_le (by rw [bo_len];exact Nat.le_refl _)],by rw [bo_len];omega⟩),.inr (.inl rfl)⟩
 rintro i t ⟨hi,rfl⟩
 by_cases hlt:i<PT.length
 rotate_left
 ·obtain rfl:i=PT.length:=by omega
  have hfr:frontS p st PT PT.length=fitsS p st PT.reverse:=by unfold frontS;rw [List.take_length]
  rw [hfr]
  (repeat ((try with_reducible refine W.step (b:=false) ?_);simp (decide:=true) only [go_sem,↓reduceIte,Nat.reduceAdd,Nat.reduceSub,hlt]))
  exact Q0a _ (.inr rfl) rfl (.plain rfl)
 have rP:=rowP2 hlt;obtain ⟨q1,q2⟩:=hPT.2 _ (List.getElem_mem hlt)
 (repeat ((try with_reducible refine W.step (b:=false) ?_);simp (decide:=true) only [go_sem,↓reduceIte,Nat.reduceAdd,Nat.reduceSub,hlt,fm,fm2]))
 refine W.loop (s1:=stL [(.sl p.length 5 (p.flatMap encNd)),(.sl st.length 2 (st.flatMap encSt)),aN,aN,aN,(.ptr 0 0),aN,(.sl p.length 1 (bo (frontS p st PT i) p.length)),(.g (.int .i64 (i:Int))),(.gs 1 0 p.length 1 p.length),(.g (.int .i64 ((1:Nat):Int))),aN,aN,aN,aN,aN,aN,aN,aN,aN,aN,aN,aN,aN,aN,aN,aN,aN,aN,aN,aN,aN,aN,aN,aN,aN,aN,aN,aN,aN,aN,aN,aN,aN,aN,aN,aN,aN,aN,aN,aN,aN,aN,aN,aN,aN,aN,aN,aN,aN,aN,aN,aN,aN,aN,aN] [(0,.cells [.sl PT.length 2 (PT.flatMap encP),.g (.string s)]),(1,.cells (bo (fun j=>decide (j<1)&&frontS p st PT (i+1) j) p.length))] 2)
  (fun (n:Nat) t=>n≤p.length∧0<n∧t=stL [(.sl p.length 5 (p.flatMap encNd)),(.sl st.length 2 (st.flatMap encSt)),aN,aN,aN,(.ptr 0 0),aN,(.sl p.length 1 (bo (frontS p st PT i) p.length)),(.g (.int .i64 (i:Int))),(.gs 1 0 p.length 1 p.length),(.g (.int .i64 (n:Int))),aN,aN,aN,aN,aN,aN,aN,aN,aN,aN,aN,aN,aN,aN,aN,aN,aN,aN,aN,aN,aN,aN,aN,aN,aN,aN,aN,aN,aN,aN,aN,aN,aN,aN,aN,aN,aN,aN,aN,aN,aN,aN,aN,aN,aN,aN,aN,aN,aN,aN,aN,aN,aN,aN,aN] [(0,.cells [.sl PT.length 2 (PT.flatMap encP),.g (.string s)]),(1,.cells (bo (fun j=>decide (j<n)&&frontS p st PT (i+1) j) p.length))] 2) (fun n=>p.length - n) 1 ⟨by omega,by decide,rfl⟩ ?_ ?_
 ·have hz:bo (fun j=>decide (j<1)&&frontS p st PT (i+1) j) p.length=zerosA [.bool false] p.length:=by
   rw [bo_zero];refine bo_congr fun j _=>?_
   by_cases h1:j<1
   ·obtain rfl:j=0:=by omega
    cases hc:frontS p st PT (i+1) 0 with
    | false=>rfl
    | true=>exact absurd (Q3k hT (Q3r hc)).1 (by decide)
   ·rw [decide_eq_false h1,Bool.false_and]
  rw [hz];exact VS.ren [(0,0),(1,1)] (by simp) (by simp) (by simp) (by simp only [go_sem,↓reduceIte,Nat.reduceAdd,Nat.reduceSub,Nat.reduceMul,Nat.reduceEqDiff,Nat.reduceLeDiff,Nat.reduceLT,Int.reduceLE,Int.reduceLT,Int.reduceToNat,Int.reduceEq]) ⟨⟨0,_,rfl,rfl,_,rfl,.inl ⟨rfl,rfl⟩⟩,⟨1,_,rfl,rfl,_,rfl,.inl ⟨rfl,by rw [bo_zero];exact bo_ids _ _⟩⟩,trivial⟩
 rintro n t ⟨hn,hn0,rfl⟩
 by_cases hnl:n<p.length
 ·have hg:n+1≤(bo (fun j=>decide (j<n)&&frontS p st PT (i+1) j) p.length).length:=by rw [bo_len];exact hnl
  have hput:∀ b:Bool,b=frontS p st PT (i+1) n→(bo (fun j=>decide (j<n)&&frontS p st PT (i+1) j) p.length).take n++.g (.bool b)::(bo (fun j=>decide (j<n)&&frontS p st PT (i+1) j) p.length).drop (n+1)=bo (fun j=>decide (j<n+1)&&frontS p st PT (i+1) j) p.length:=fun b hb=>by
   rw [bo_set b hnl];refine bo_congr fun j _=>?_
   by_cases hj:j=n
   ·subst hj
    rw [if_pos rfl,hb,decide_eq_true (Nat.lt_succ_self _),Bool.true_and]
   ·rw [if_neg hj]
    congr 1
    exact decide_eq_decide.2 (by omega)
  have hstep:frontS p st PT (i+1) n=(elemB p n&&(PT[i].l.all (holdsS p st n)&&(decide (i=0)||someR p (frontS p st PT i) n PT[i].comb))):=row_step hT hlt;have fin:∀ m:ML,(getL m 0=some (.cells [.sl PT.length 2 (PT.flatMap encP),.g (.string s)]))→getL m 1=some (.cells (bo (fun j=>decide (j<n+1)&&frontS p st PT (i+1) j) p.length))→reM 0 [(0,0),(1,1)] m [(0,.cells [.sl PT.length 2 (PT.flatMap encP),.g (.string s)]),(1,.cells (bo (fun j=>decide (j<n+1)&&frontS p st PT (i+1) j) p.length))]:=fun m h0 h1=>⟨⟨0,_,rfl,h0,_,rfl,.inl ⟨rfl,rfl⟩⟩,⟨1,_,rfl,h1,_,rfl,.inl ⟨rfl,bo_ids _ _⟩⟩,trivial⟩;have hup:IntKind.i64.wrap ((n:Int)+1)=((n+1:Nat):Int):=up1 (by omega)
  (repeat ((try with_reducible refine W.step (b:=false) ?_);simp (decide:=true) only [go_sem,↓reduceIte,Nat.reduceAdd,Nat.reduceSub,hnl]))
  refine AtCall.mk (Q4g p n) ?_
  cases he:elemB p n with
  | false =>
    have hp2:=hput false (by rw [hstep,he];rfl)
    (repeat ((try with_reducible refine W.step (b:=false) ?_);simp (decide:=true) only [go_sem,↓reduceIte,Nat.reduceAdd,Nat.reduceSub,hnl,hg,hp2,hup]))
    exact ⟨n+1,_,⟨by omega,by omega,rfl⟩,by show p.length - (n+1)<p.length - n;omega,VS.ren [(0,0),(1,1)] (by simp) (by simp) (by simp) (by simp only [go_sem,↓reduceIte,Nat.reduceAdd,Nat.reduceSub,Nat.reduceMul,Nat.reduceEqDiff,Nat.reduceLeDiff,Nat.reduceLT,Int.reduceLE,Int.reduceLT,Int.reduceToNat,Int.reduceEq]) (fin _ rfl rfl)⟩
  | true =>
    (repeat ((try with_reducible refine W.step (b:=false) ?_);simp (decide:=true) only [go_sem,↓reduceIte,Nat.reduceAdd,Nat.reduceSub,hlt,rP]))
    refine AtCall.mk (each12_p p st n PT[i].l hp hs he q1 q2) ?_
    cases hal:PT[i].l.all (holdsS p st n) with
    | false =>
      have hp2:=hput false (by rw [hstep,he,hal];rfl)
      (repeat ((try with_reducible refine W.step (b:=false) ?_);simp (decide:=true) only [go_sem,↓reduceIte,Nat.reduceAdd,Nat.reduceSub,hnl,hg,hp2,hup]))
      exact ⟨n+1,_,⟨by omega,by omega,rfl⟩,by show p.length - (n+1)<p.length - n;omega,VS.ren [(0,0),(1,1)] (by simp) (by simp) (by simp) (by simp only [go_sem,↓reduceIte,Nat.reduceAdd,Nat.reduceSub,Nat.reduceMul,Nat.reduceEqDiff,Nat.reduceLeDiff,Nat.reduceLT,Int.reduceLE,Int.reduceLT,Int.reduceToNat,Int.reduceEq]) (fin _ rfl rfl)⟩
    | true =>
      by_cases hi0:i=0
      ·have f0:((i:Int)=0)=True:=eq_true (by omega)
       have hp2:=hput true (by rw [hstep,he,hal,decide_eq_true hi0];rfl)
       (repeat ((try with_reducible refine W.step (b:=false) ?_);simp (decide:=true) only [go_sem,↓reduceIte,Nat.reduceAdd,Nat.reduceSub,hnl,hg,hp2,hup,f0]))
       exact ⟨n+1,_,⟨by omega,by omega,rfl⟩,by show p.length - (n+1)<p.length - n;omega,VS.ren [(0,0),(1,1)] (by simp) (by simp) (by simp) (by simp only [go_sem,↓reduceIte,Nat.reduceAdd,Nat.reduceSub,Nat.reduceMul,Nat.reduceEqDiff,Nat.reduceLeDiff,Nat.reduceLT,Int.reduceLE,Int.reduceLT,Int.reduceToNat,Int.reduceEq]) (fin _ rfl rfl)⟩
      ·have f0:((i:Int)=0)=False:=eq_false (by omega)
       have hp2:=hput (someR p (frontS p st PT i) n PT[i].comb) (by rw [hstep,he,hal,decide_eq_false hi0];rfl)
       (repeat ((try with_reducible refine W.step (b:=false) ?_);simp (decide:=true) only [go_sem,↓reduceIte,Nat.reduceAdd,Nat.reduceSub,hlt,rP,f0]))
       refine AtCall.mk (some12_p p (frontS p st PT i) n PT[i].comb hp hT he) ?_
       (repeat ((try with_reducible refine W.step (b:=false) ?_);simp (decide:=true) only [go_sem,↓reduceIte,Nat.reduceAdd,Nat.reduceSub,hnl,hg,hp2,hup]))
       exact ⟨n+1,_,⟨by omega,by omega,rfl⟩,by show p.length - (n+1)<p.length - n;omega,VS.ren [(0,0),(1,1)] (by simp) (by simp) (by simp) (by simp only [go_sem,↓reduceIte,Nat.reduceAdd,Nat.reduceSub,Nat.reduceMul,Nat.reduceEqDiff,Nat.reduceLeDiff,Nat.reduceLT,Int.reduceLE,Int.reduceLT,Int.reduceToNat,Int.reduceEq]) (fin _ rfl rfl)⟩
 ·obtain rfl:n=p.length:=by omega
  have hz:bo (fun j=>decide (j<p.length)&&frontS p st PT (i+1) j) p.length=bo (frontS p st PT (i+1)) p.length:=bo_congr fun j hj=>by rw [decide_eq_true hj,Bool.true_and]
  rw [hz];refine W.vs (s1:=stL [(.sl p.length 5 (p.flatMap encNd)),(.sl st.length 2 (st.flatMap encSt)),aN,aN,aN,(.ptr 0 0),aN,aN,(.g (.int .i64 (i:Int))),(.sl p.length 1 (bo (frontS p st PT (i+1)) p.length)),(.g (.int .i64 (p.length:Int))),aN,aN,aN,aN,aN,aN,aN,aN,aN,aN,aN,aN,aN,aN,aN,aN,aN,aN,aN,aN,aN,aN,aN,aN,aN,aN,aN,aN,aN,aN,aN,aN,aN,aN,aN,aN,aN,aN,aN,aN,aN,aN,aN,aN,aN,aN,aN,aN,aN,aN,aN,aN,aN,aN,aN] [(0,.cells [.sl PT.length 2 (PT.flatMap encP),.g (.string s)])] 2) ?_ ?_
  ·refine VS.sealT 1 _ rfl (bo_plain _ _) ?_ ⟨⟨by decide,.inl rfl⟩,trivial⟩
   simp only [Q4b,frL_nil,frA_any,Q4c,and_true,true_and];exact .inr (.inr ⟨0,_,1,_,rfl,by rw [List.drop_zero,Nat.mul_one,List.take_of_length_le (by rw [bo_len];exact Nat.le_refl _)],by rw [bo_len];omega⟩)
  (repeat ((try with_reducible refine W.step (b:=false) ?_);simp (decide:=true) only [go_sem,↓reduceIte,Nat.reduceAdd,Nat.reduceSub,hnl]))
  refine ⟨i+1,_,⟨by omega,rfl⟩,by show PT.length - (i+1)<PT.length - i;omega,?_⟩;rw [up1 (by omega)];exact VS.ren [(0,0)] (by simp) (by simp) (by simp) (by simp only [go_sem,↓reduceIte,Nat.reduceAdd,Nat.reduceSub,Nat.reduceMul,Nat.reduceEqDiff,Nat.reduceLeDiff,Nat.reduceLT,Int.reduceLE,Int.reduceLT,Int.reduceToNat,Int.reduceEq]) ⟨⟨0,_,rfl,rfl,_,rfl,.inl ⟨rfl,rfl⟩⟩,trivial⟩
theorem tree_pos {p:List Nod} (h:treeB p=true):0<p.length:=by
 rcases Nat.eq_zero_or_pos p.length with h0 | h0
 ·unfold treeB at h
  rw [decide_eq_true h0] at h
  cases h
 ·exact h0
theorem allR_none {p:List Nod} {st:List Stt} {c:Cx} (h:∀ n:Nat,(treeB p&&isM p st c (n:Int))=false):allR p st c=[]:=by
 unfold allR;rw [List.filter_eq_nil_iff.2 (fun n _=>by rw [h n];decide)]
 rfl
def tellN (f:Nat→Bool) (n:Nat):List Int:=((List.range n).filter f).map fun n:Nat=>(n:Int)
theorem tellN_succ (f:Nat→Bool) (n:Nat):tellN f (n+1)=tellN f n++if f n=true then [(n:Int)] else []:=by
 unfold tellN;rw [List.range_succ,List.filter_append,List.map_append]
 congr 1
 cases h:f n <;> simp [h]
theorem tellN_len (f:Nat→Bool) (n:Nat):(tellN f n).length≤n:=by
 unfold tellN;rw [List.length_map];exact Nat.le_trans (List.length_filter_le _ _) (by simp)
set_option maxRecDepth 100000 in
set_option maxHeartbeats 4000000 in
theorem all12_p (p:List Nod) (st:List Stt) (c:Cx) (hp:OkPg p) (hs:st.length≤1000000) (hPT:okPT c.parts):PureN Tryz.prog gt0 20 [.sl p.length 5 (p.flatMap encNd),.sl st.length 2 (st.flatMap encSt),.agg (encC c)] (.sl (allR p st c).length 1 ((allR p st c).flatMap encZ)):=by
 obtain ⟨PT,s⟩:=c;simp only at hPT;refine PureN.of_w (c:=_) Tryz.func20 rfl (by kernel_rfl) rfl ?_;simp only [Tryz.f20,List.replicate,List.length_cons,List.length_nil,Nat.reduceAdd,Nat.reduceSub,List.cons_append,List.nil_append,encC];have hlen:=hp.len
 (repeat ((try with_reducible refine W.step (b:=false) ?_);simp (decide:=true) only [go_sem,↓reduceIte,Nat.reduceAdd,Nat.reduceSub]))
 refine AtCall.mk (tree10_p p hp) ?_
 cases ht:treeB p with
 | false =>
   rw [allR_none (fun n=>by rw [ht];rfl)]
   (repeat ((try with_reducible refine W.step (b:=false) ?_);simp (decide:=true) only [go_sem,↓reduceIte,Nat.reduceAdd,Nat.reduceSub]))
   exact Q0a _ (.inr rfl) rfl (seal_Z (l:=[]) rfl rfl)
 | true =>
   have hT:=tree_P ht
   by_cases h0:PT.length=0
   ·have f0:((PT.length:Int)=0)=True:=eq_true (by omega)
    have hno:∀ n:Nat,(treeB p&&isM p st ⟨PT,s⟩ (n:Int))=false:=fun n=>by
     rw [isM_row,List.eq_nil_of_length_eq_zero h0];simp [fitsS]
    rw [allR_none hno]
    (repeat ((try with_reducible refine W.step (b:=false) ?_);simp (decide:=true) only [go_sem,↓reduceIte,Nat.reduceAdd,Nat.reduceSub,f0]))
    exact Q0a _ (.inr rfl) rfl (seal_Z (l:=[]) rfl rfl)
   have f0:((PT.length:Int)=0)=False:=eq_false (by omega);have hall:allR p st ⟨PT,s⟩=tellN (fitsS p st PT.reverse) p.length:=by
    unfold allR tellN
    congr 1
    refine List.filter_congr fun n _=>?_;rw [ht,Bool.true_and,isM_row]
   rw [hall]
   (repeat ((try with_reducible refine W.step (b:=false) ?_);simp (decide:=true) only [go_sem,↓reduceIte,Nat.reduceAdd,Nat.reduceSub,f0]))
   refine AtCall.mk (fits12_p p st PT s hp hT (tree_pos ht) hs hPT) ?_
   (repeat ((try with_reducible refine W.step (b:=false) ?_);simp (decide:=true) only [go_sem,↓reduceIte,Nat.reduceAdd,Nat.reduceSub]))
   generalize fitsS p st PT.reverse=f
   refine W.loop (s1:=stL [aN,aN,aN,aN,aN,aN,aN,(.gs 1 0 0 1 0),(.sl p.length 1 (bo f p.length)),(.g (.int .i64 ((0:Nat):Int))),aN,aN,aN,aN,aN,aN,aN,aN,aN,aN,aN,aN,aN,aN,aN,aN,aN,aN,aN,aN,aN,aN,aN,aN,aN,aN,aN,aN,aN,aN] [(1,.cells [])] 2)
    (fun (n:Nat) t=>n≤p.length∧t=stL [aN,aN,aN,aN,aN,aN,aN,(.gs 1 0 (tellN f n).length 1 (tellN f n).length),(.sl p.length 1 (bo f p.length)),(.g (.int .i64 (n:Int))),aN,aN,aN,aN,aN,aN,aN,aN,aN,aN,aN,aN,aN,aN,aN,aN,aN,aN,aN,aN,aN,aN,aN,aN,aN,aN,aN,aN,aN,aN] [(1,.cells ((tellN f n).flatMap encZ))] 2) (fun n=>p.length - n) 0 ⟨Nat.zero_le _,rfl⟩ (VS.ren [(1,1)] (by simp) (by simp) (by simp) (by simp only [go_sem,↓reduceIte,Nat.reduceAdd,Nat.reduceSub,Nat.reduceMul,Nat.reduceEqDiff,Nat.reduceLeDiff,Nat.reduceLT,Int.reduceLE,Int.reduceLT,Int.reduceToNat,Int.reduceEq]) ⟨⟨1,_,rfl,rfl,_,rfl,.inl ⟨rfl,rfl⟩⟩,trivial⟩) ?_
   rintro n t ⟨hn,rfl⟩
   by_cases hlt:n<p.length
   ·have r:=bo_get (f:=f) hlt
    have hol:=tellN_len f n;have hts:=tellN_succ f n;generalize tellN f n=o at hol hts ⊢;have E1:(o.flatMap encZ).length=o.length:=lenZ o;have E2:¬(o.length+1≤o.length):=by omega
    have E3:(o.length+1)*9≤17179869184:=by omega
    have E6:∀ x,o.flatMap encZ++[AV.g (.int .i64 x)]=(o++[x]).flatMap encZ:=fun x=>by rw [List.flatMap_append];rfl
    cases hf:f n with
    | true =>
      rw [hf] at r hts;rw [if_pos rfl] at hts
      (repeat ((try with_reducible refine W.step (b:=false) ?_);simp (decide:=true) only [go_sem,↓reduceIte,Nat.reduceAdd,Nat.reduceSub,hlt,r,E1,E2,E3]))
      refine ⟨n+1,_,⟨by omega,rfl⟩,by show p.length - (n+1)<p.length - n;omega,VS.ren [(1,3)] (by simp) (by simp) (by simp) ?_ ?_⟩
      ·rw [up1 (by omega),hts]
       simp only [go_sem,↓reduceIte,Nat.reduceAdd,Nat.reduceSub,Nat.reduceMul,Nat.reduceEqDiff,Nat.reduceLeDiff,Nat.reduceLT,Int.reduceLE,Int.reduceLT,Int.reduceToNat,Int.reduceEq,List.length_append]
      ·rw [hts]
       exact reM_w rfl (by rw [←E6];rfl) (ids_Z _)
    | false =>
      rw [hf] at r hts;rw [if_neg (by decide),List.append_nil] at hts
      (repeat ((try with_reducible refine W.step (b:=false) ?_);simp (decide:=true) only [go_sem,↓reduceIte,Nat.reduceAdd,Nat.reduceSub,hlt,r]))
      refine ⟨n+1,_,⟨by omega,rfl⟩,by show p.length - (n+1)<p.length - n;omega,?_⟩;rw [up1 (by omega),hts];exact VS.tm (by simp [leL])
   ·obtain rfl:n=p.length:=by omega
    (repeat ((try with_reducible refine W.step (b:=false) ?_);simp (decide:=true) only [go_sem,↓reduceIte,Nat.reduceAdd,Nat.reduceSub,hlt]))
    exact Q0a _ (.inr rfl) rfl (seal_Z rfl rfl)
attribute [go_sem] appL newsA isSlice
theorem ei_declsX:elemI Tryz.prog 62=some (3,48,true):=by kernel_rfl
attribute [go_sem] ei_declsX
theorem bl_declX (parts:List (Nat×AV)):evBuild Tryz.prog 75 parts=aggM (fillL [(0,1),(1,1),(2,1)] [.g (.string ⟨#[]⟩),.g (.slice none 0 0),.g (.bool false)] parts):=Q1d (by kernel_rfl) parts
attribute [go_sem] bl_declX
theorem bl_safeX (parts:List (Nat×AV)):evBuild Tryz.prog 48 parts=aggM (fillL [(0,1),(1,1)] [.g (.slice none 0 0),.g (.slice none 0 0)] parts):=Q1d (by kernel_rfl) parts
attribute [go_sem] bl_safeX
end Go.Proofs.YtabliahkhafddaaGreat
namespace Go.Proofs.YtabliahkhafddaaGreat
open Go.ChangeShapes Go.WideShapes Go.RowKit Go.Ev
open Go.Ev.AV renaming any→aN
theorem c_ints:Tryz.prog.cellsOf 27=1:=by kernel_rfl
theorem c_attrs:Tryz.prog.cellsOf 32=1:=by kernel_rfl
theorem c_attr:Tryz.prog.cellsOf 100=2:=by kernel_rfl
theorem c_node:Tryz.prog.cellsOf 34=5:=by kernel_rfl
theorem c_page:Tryz.prog.cellsOf 23=1:=by kernel_rfl
section
variable {H:Type} {enc:TypeId×Value→H} {W:World} {sp:Nat→Bool} {held:Bool}
theorem open_z (fuel:Nat) (cs:List Value) (x:DataW H×List MemPlace) (h:DataW.trod enc Tryz.prog W 0 sp held fuel 3 cs=some x) (_:Fits Tryz.prog 3 x.1):∃ a:Int,Ats W (encZ a) cs∧True:=by
 obtain ⟨k,e0,-⟩:=DataW.trod_int Tryz.underlying3 h;subst e0;exact ⟨k,VRs.cons_mk rfl (by rw [VRs]),trivial⟩
set_option maxRecDepth 100000 in
theorem open_atr (fuel:Nat) (cs:List Value) (x:DataW H×List MemPlace) (h:DataW.trod enc Tryz.prog W 0 sp held fuel 100 cs=some x) (_:Fits Tryz.prog 100 x.1):∃ a:Atr,Ats W (encA a) cs∧True:=by
 obtain ⟨hl,n,rfl,hf⟩:=field_of Tryz.underlying100 h;rw [show Tryz.prog.cellsOf 100=2 by kernel_rfl] at hl;obtain ⟨c0,c1,rfl⟩:∃ c0 c1,cs=[c0,c1]:=by
  match cs,hl with
  | [a,b],_=>exact ⟨a,b,rfl⟩
 obtain ⟨y0,h0,f0⟩:∃ y,DataW.trod enc Tryz.prog W 0 sp held n 9 ((List.drop 0 [c0,c1]).take (Tryz.prog.cellsOf 9))=some y∧(Fits Tryz.prog 100 x.1→Fits Tryz.prog 9 y.1):=hf 0 _ rfl;obtain ⟨y1,h1,f1⟩:∃ y,DataW.trod enc Tryz.prog W 0 sp held n 9 ((List.drop 1 [c0,c1]).take (Tryz.prog.cellsOf 9))=some y∧(Fits Tryz.prog 100 x.1→Fits Tryz.prog 9 y.1):=hf 1 _ rfl;simp only [c_int,c_str,c_ints,c_attrs,c_page,List.drop,List.take] at h0 h1;obtain ⟨a,e0,-⟩:=DataW.trod_string Tryz.underlying9 h0;obtain ⟨b,e1,-⟩:=DataW.trod_string Tryz.underlying9 h1;simp only [List.cons.injEq,and_true] at e0 e1;subst e0 e1;exact ⟨⟨a,b⟩,VRs.cons_mk rfl (VRs.cons_mk rfl (by rw [VRs])),trivial⟩
set_option maxRecDepth 100000 in
theorem open_nod (fuel:Nat) (cs:List Value) (x:DataW H×List MemPlace) (h:DataW.trod enc Tryz.prog W 0 sp held fuel 34 cs=some x) (hfit:Fits Tryz.prog 34 x.1):∃ a:Nod,Ats W (encNd a) cs∧True:=by
 obtain ⟨hl,n,rfl,hf⟩:=field_of Tryz.underlying34 h;rw [show Tryz.prog.cellsOf 34=5 by kernel_rfl] at hl;obtain ⟨c0,c1,c2,c3,c4,rfl⟩:∃ c0 c1 c2 c3 c4,cs=[c0,c1,c2,c3,c4]:=by
  match cs,hl with
  | [a,b,c,d,e],_=>exact ⟨a,b,c,d,e,rfl⟩
 obtain ⟨y0,h0,f0⟩:∃ y,DataW.trod enc Tryz.prog W 0 sp held n 9 ((List.drop 0 [c0,c1,c2,c3,c4]).take (Tryz.prog.cellsOf 9))=some y∧(Fits Tryz.prog 34 x.1→Fits Tryz.prog 9 y.1):=hf 0 _ rfl;obtain ⟨y1,h1,f1⟩:∃ y,DataW.trod enc Tryz.prog W 0 sp held n 32 ((List.drop 1 [c0,c1,c2,c3,c4]).take (Tryz.prog.cellsOf 32))=some y∧(Fits Tryz.prog 34 x.1→Fits Tryz.prog 32 y.1):=hf 1 _ rfl;obtain ⟨y2,h2,f2⟩:∃ y,DataW.trod enc Tryz.prog W 0 sp held n 9 ((List.drop 2 [c0,c1,c2,c3,c4]).take (Tryz.prog.cellsOf 9))=some y∧(Fits Tryz.prog 34 x.1→Fits Tryz.prog 9 y.1):=hf 2 _ rfl;obtain ⟨y3,h3,f3⟩:∃ y,DataW.trod enc Tryz.prog W 0 sp held n 3 ((List.drop 3 [c0,c1,c2,c3,c4]).take (Tryz.prog.cellsOf 3))=some y∧(Fits Tryz.prog 34 x.1→Fits Tryz.prog 3 y.1):=hf 3 _ rfl;obtain ⟨y4,h4,f4⟩:∃ y,DataW.trod enc Tryz.prog W 0 sp held n 27 ((List.drop 4 [c0,c1,c2,c3,c4]).take (Tryz.prog.cellsOf 27))=some y∧(Fits Tryz.prog 34 x.1→Fits Tryz.prog 27 y.1):=hf 4 _ rfl;simp only [c_int,c_str,c_ints,c_attrs,c_page,List.drop,List.take] at h0 h1 h2 h3 h4;obtain ⟨nm,e0,-⟩:=DataW.trod_string Tryz.underlying9 h0;obtain ⟨l,v,e1,hv,-,-⟩:=open_sl (fun _=>True) encA 2 (fun _=>rfl) (by decide) Tryz.underlying32 c_attr (fun m _=>open_atr m) h1 (f1 hfit);obtain ⟨tx,e2,-⟩:=DataW.trod_string Tryz.underlying9 h2;obtain ⟨u,e3,-⟩:=DataW.trod_int Tryz.underlying3 h3;obtain ⟨ks,w,e4,hw,-,-⟩:=open_sl (fun _=>True) encZ 1 (fun _=>rfl) (by decide) Tryz.underlying27 c_int (fun m _=>open_z m) h4 (f4 hfit);simp only [List.cons.injEq,and_true] at e0 e1 e2 e3 e4;subst e0 e1 e2 e3 e4;exact ⟨⟨nm,l,tx,u,ks⟩,VRs.cons_mk rfl (VRs.cons_mk hv (VRs.cons_mk rfl (VRs.cons_mk rfl (VRs.cons_mk hw (by rw [VRs]))))),trivial⟩
set_option maxRecDepth 1000000 in
theorem open_cx1 {base:Nat} {v:Value} {d:DataW H} {ps:List MemPlace} (hval:Value.okWide Tryz.prog W .any base 39 v) (h:DataW.Trod enc Tryz.prog W 0 sp held 39 v d ps) (hfit:Fits Tryz.prog 39 d) :
 ∃ c:Cx,At W (.agg (encC c)) v∧c.parts.length≤reachBytes:=by
 obtain ⟨fuel,hv⟩:=h;obtain ⟨cells,rfl,-⟩:=okWide_struct Tryz.underlying39 hval;obtain ⟨c,h1,h2⟩:=open_cx fuel _ _ hv hfit;exact ⟨c,⟨cells,rfl,h1⟩,h2⟩
end
end Go.Proofs.YtabliahkhafddaaGreat
namespace Go.Proofs.YtabliahkhafddaaGreat
open Go.ChangeShapes Go.WideShapes Go.ChangeAt Go.RowKit Go.Ev
open Go.Ev.AV renaming any→aN
theorem c_state:Tryz.prog.cellsOf 108=2:=by kernel_rfl
section
variable {H:Type} {enc:TypeId×Value→H} {W:World} {sp:Nat→Bool} {held:Bool}
set_option maxRecDepth 100000 in
theorem open_stt (fuel:Nat) (cs:List Value) (x:DataW H×List MemPlace) (h:DataW.trod enc Tryz.prog W 0 sp held fuel 108 cs=some x) (_:Fits Tryz.prog 108 x.1):∃ a:Stt,Ats W (encSt a) cs∧True:=by
 obtain ⟨hl,n,rfl,hf⟩:=field_of Tryz.underlying108 h;rw [show Tryz.prog.cellsOf 108=2 by kernel_rfl] at hl;obtain ⟨c0,c1,rfl⟩:∃ c0 c1,cs=[c0,c1]:=by
  match cs,hl with
  | [a,b],_=>exact ⟨a,b,rfl⟩
 obtain ⟨y0,h0,f0⟩:∃ y,DataW.trod enc Tryz.prog W 0 sp held n 3 ((List.drop 0 [c0,c1]).take (Tryz.prog.cellsOf 3))=some y∧(Fits Tryz.prog 108 x.1→Fits Tryz.prog 3 y.1):=hf 0 _ rfl;obtain ⟨y1,h1,f1⟩:∃ y,DataW.trod enc Tryz.prog W 0 sp held n 9 ((List.drop 1 [c0,c1]).take (Tryz.prog.cellsOf 9))=some y∧(Fits Tryz.prog 108 x.1→Fits Tryz.prog 9 y.1):=hf 1 _ rfl;simp only [c_int,c_str,c_state,List.drop,List.take] at h0 h1;obtain ⟨a,e0,-⟩:=DataW.trod_int Tryz.underlying3 h0;obtain ⟨b,e1,-⟩:=DataW.trod_string Tryz.underlying9 h1;simp only [List.cons.injEq,and_true] at e0 e1;subst e0 e1;exact ⟨⟨a,b⟩,VRs.cons_mk rfl (VRs.cons_mk rfl (by rw [VRs])),trivial⟩
set_option maxRecDepth 1000000 in
theorem open_stts {base:Nat} {v:Value} {d:DataW H} {ps:List MemPlace} (hval:Value.okWide Tryz.prog W .any base 36 v) (h:DataW.Trod enc Tryz.prog W 0 sp held 36 v d ps) (hfit:Fits Tryz.prog 36 d) :
 ∃ l:List Stt,At W (.sl l.length 2 (l.flatMap encSt)) v:=by
 obtain ⟨fuel,hv⟩:=h;obtain ⟨a,n,c,rfl⟩:=okWide_slice Tryz.underlying36 hval;obtain ⟨l,v,e,hl,-,-⟩:=open_sl (fun _=>True) encSt 2 (fun _=>rfl) (by decide) Tryz.underlying36 c_state (fun m _=>open_stt m) hv hfit;simp only [Value.cells,List.cons.injEq,and_true] at e;subst e;exact ⟨l,hl⟩
set_option maxRecDepth 1000000 in
theorem open_pg1 {base:Nat} {v:Value} {d:DataW H} {ps:List MemPlace} (hval:Value.okWide Tryz.prog W .any base 23 v) (h:DataW.Trod enc Tryz.prog W 0 sp held 23 v d ps) (hfit:Fits Tryz.prog 23 d) :
 ∃ p:List Nod,At W (.sl p.length 5 (p.flatMap encNd)) v:=by
 obtain ⟨fuel,hv⟩:=h;obtain ⟨a,n,c,rfl⟩:=okWide_slice Tryz.underlying23 hval;obtain ⟨l,v,e,hl,-,-⟩:=open_sl (fun _=>True) encNd 5 (fun _=>rfl) (by decide) Tryz.underlying23 c_node (fun m _=>open_nod m) hv hfit;simp only [Value.cells,List.cons.injEq,and_true] at e;subst e;exact ⟨l,hl⟩
end
theorem Q0r {a b:Bool} (ha:a=true) (hb:b=true):(a&&b)=true:=by subst ha hb;rfl
theorem f_laid:laidOutB Tryz.prog=true:=by kernel_rfl
theorem f_rowed:mapsRowed Tryz.prog=true:=by kernel_rfl
theorem f_keys:Tryz.prog.plainKeys=false:=by kernel_rfl
theorem f_heard:Tryz.prog.stopsHeard=true:=by kernel_rfl
theorem f_enter:Tryz.prog.mayEnter=true:=by kernel_rfl
theorem ownB:ownKnob Tryz.prog.godebug=none:=by kernel_rfl
section
variable {H:Type} {enc:TypeId×Value→H} {P:Program}
theorem postB_of {f:Func} {s:ChangeSpec} {apart fresh handsOn again:Bool} {W W':World} {args:Array Value} {v:Value} {ds gs:List (DataW H)} {before pa pv:List MemPlace}
 (hW:DataW.Whole enc P f.params.toList s.vars apart W args.toList ds gs before)
 (hres:∀ (b:Nat) (sp:Nat→Bool) (hd:Bool),DataW.TrodAll enc P W' b sp hd f.resultTypes.toList (v.resultList f.resultTypes.size) (s.fn H (ds++gs)).results [])
 (hargs:∀ sp:Nat→Bool,(∀ p∈before,sp p.block=true)→DataW.TrodAll enc P W' 0 sp true f.params.toList args.toList (s.fn H (ds++gs)).args pa)
 (hvars:∀ sp:Nat→Bool,(∀ p∈before,sp p.block=true)→DataW.TrodVars enc P W' sp s.vars (s.fn H (ds++gs)).vars pv)
 (hps:before=pa++pv) (hB:Below W.heap.size W W')
 (hok:∀ (j:Nat) (t:TypeId) (r:Value),f.resultTypes[j]?=some t→(v.resultList f.resultTypes.size)[j]?=some r→Value.okWide P W' .any 0 t r) :
 s.post enc P f apart fresh handsOn again W args v W':=by
 have hold:∀ p∈before,(fun b=>decide (b<W.heap.size)) p.block=true:=fun p hp=>by simpa using hW.lt p hp
 have hlt:=fun p hp=>hW.lt p hp;refine ⟨ds,gs,before,[],pa,pv,hW,hres _ _ _,hargs _ hold,hvars _ hold,World.keptBut_mono (fun p hp=>⟨hp,?_⟩) (hB.frame (·∈before)),fun _=>?_⟩
 ·rw [hps,List.mem_append] at hp
  exact Or.inr hp
 ·obtain ⟨_,_,_,_,_,hz,hn⟩:=hW
  refine ⟨hok,_,_,([]++pa)++pv,⟨[]++pa,pv,trodAll_append (hargs _ (fun _ _=>rfl)) (hres _ _ _),hvars _ (fun _ _=>rfl),rfl,?_,?_⟩,?_⟩
  ·intro b off hp
   have hp':MemPlace.cell b off∈before:=by rw [hps];simpa using hp
   rw [hB.frozen (hlt _ hp')];exact hz b off hp'
  ·intro ha
   have:=hn ha;rw [hps] at this;simpa using this
  ·intro p hp _
   rw [hps];simpa using hp
end
theorem rdCx:Tryz.prog.readableRec 39=true:=by kernel_rfl
theorem itCx:39<Tryz.prog.types.size:=of_decide_eq_true (by kernel_rfl)
theorem rdPg:Tryz.prog.readableRec 23=true:=by kernel_rfl
theorem itPg:23<Tryz.prog.types.size:=of_decide_eq_true (by kernel_rfl)
theorem rdSts:Tryz.prog.readableRec 36=true:=by kernel_rfl
theorem itSts:36<Tryz.prog.types.size:=of_decide_eq_true (by kernel_rfl)
end Go.Proofs.YtabliahkhafddaaGreat
namespace Go.Proofs.YtabliahkhafddaaGreat
open Go.Ev.AV renaming any→aN
namespace critFits
theorem row_named:Tryz.prog.funcNamed Rows.critFitsRow.func=some 4:=by kernel_rfl
theorem row_inPlace:Rows.critFitsRow.inPlace=Tryz.prog.inPlace 4:=by kernel_rfl
theorem row_unfollowed:Rows.critFitsRow.unfollowed=Tryz.prog.unfollowed 4:=by kernel_rfl
theorem row_recurses:Rows.critFitsRow.recurses=Tryz.prog.recurses 4:=by kernel_rfl
theorem row_vars:Rows.critFitsRow.named=Tryz.prog.varsNamed 4:=by kernel_rfl
theorem row_wrapper:Tryz.f4.isWrapper Tryz.prog Rows.critFitsRow.wrapper Rows.critFitsRow.mainSum:=by
 unfold Func.isWrapper
 first | (rw [if_pos (by decide +kernel)];kernel_rfl) | (rw [if_neg (by decide +kernel)];exact ⟨rfl,rfl⟩)
theorem closed:joinedFacts Tryz.prog 4 Tryz.f4 Rows.critFitsSpec Rows.critFitsRow=true:=by
 unfold joinedFacts;exact Q0r (Q0r (Q0r (Q0r (Q0r (Q0r (Q0r (Q0r (Q0r (Q0r (Q0r (Q0r (Q0r (Q0r (Q0r (Q0r (Q0r (Q0r (Q0r (Q0r (Q0r (Q0r (Q0r (Q0r (Q0r (Q0r (Q0r (Q0r (Q0r (Q0r (Q0r (by kernel_rfl) f_laid) f_rowed) (by kernel_rfl)) (by kernel_rfl)) (by kernel_rfl)) (by kernel_rfl)) (by kernel_rfl)) (by kernel_rfl)) (beq_iff_eq.2 row_inPlace)) (beq_iff_eq.2 row_unfollowed)) (beq_iff_eq.2 row_recurses)) (beq_iff_eq.2 row_vars)) (by kernel_rfl)) (by kernel_rfl)) (by kernel_rfl)) (by kernel_rfl)) (by kernel_rfl)) (by kernel_rfl)) (by kernel_rfl)) (by kernel_rfl)) (by kernel_rfl)) (beq_iff_eq.2 f_keys.symm)) (by kernel_rfl)) f_heard) f_enter) (by kernel_rfl)) (by kernel_rfl)) (by kernel_rfl)) (by kernel_rfl)) (by kernel_rfl)) (by kernel_rfl)
end critFits
end Go.Proofs.YtabliahkhafddaaGreat
namespace Go.Proofs.YtabliahkhafddaaGreat
open Go.RowKit Go.Ev
open Go.Ev.AV renaming any→aN
attribute [local go_sem] Oper.semAt_some
def upL (p:List Nod) (k:Nat):List Int:=if 0<k then ((k::aboveM p k:List Nat).filter fun j:Nat=>elemB p (j:Int)).map fun j:Nat=>(j:Int) else []
theorem upL_step {p:List Nod} (hT:TreeP p) {k:Nat} (h0:0<k) (hk:k<p.length):upL p k=(if elemB p (k:Int)=true then [(k:Int)] else [])++upL p (ndAt p (k:Int)).up.toNat:=by
 have hu:=hT.up k h0 hk;unfold upL;rw [if_pos h0,Q1t]
 by_cases h1:0<(ndAt p (k:Int)).up
 ·rw [if_pos ⟨h1,hu.2⟩,if_pos (show 0<(ndAt p (k:Int)).up.toNat by omega),List.filter_cons]
  split <;> rfl
 ·rw [if_neg (fun h=>h1 h.1),if_neg (show ¬0<(ndAt p (k:Int)).up.toNat by omega),List.filter_cons]
  split <;> rfl
def intAt (c:Option Value):Nat:=match c with
 | some (.int _ k)=>k.toNat
 | _=>0
theorem ko_wk {Ow:World→Nat→Prop} {z nb:Nat} {A B:World} (h:KO Ow z A B) (hn:nb<A.heap.size):KO (fun W k=>k=nb∨Ow W k) z A B :=
 ⟨fun k hk hno=>h.same k hk fun ho=>hno (.inr ho),fun k hk ho=>ho.imp id (h.own k hk),fun k ho=>ho.elim (fun e=>by rw [e];exact Nat.lt_of_lt_of_le hn h.below.size) (h.lt k),h.below⟩
theorem ko_set {Ow:World→Nat→Prop} {z nb:Nat} {A:World} (v:Value) (hz:z≤nb) (hn:nb<A.heap.size) (hS:∀ k,Ow (A.setCell ⟨nb,0,none⟩ v) k↔Ow A k) (hl:∀ k,Ow A k→k<A.heap.size):KO (fun W k=>k=nb∨Ow W k) z A (A.setCell ⟨nb,0,none⟩ v) :=
 ⟨fun k _ hno=>Below.heap_setCell A ⟨nb,0,none⟩ v k fun e=>hno (.inl e),fun k _ ho=>ho.imp id (hS k).1,fun k ho=>by
   have hs:(A.setCell ⟨nb,0,none⟩ v).heap.size=A.heap.size:=by simp [World.setCell]
   rw [hs]
   exact ho.elim (fun e=>by rw [e];exact hn) fun h=>hl k ((hS k).1 h),(Below.refl z A).setCell (p:=⟨nb,0,none⟩) hz v⟩
set_option maxRecDepth 100000 in
set_option maxHeartbeats 2000000 in
theorem above_iter (z0 z nb pb N:Nat) (v:Value) (p:List Nod) (n0:Nat) (w:World) (hp:OkPg p) (hT:TreeP p) (hn:n0<p.length) (hN:(upL p n0).length≤N) (hz0:z0≤z) (hz:z≤w.heap.size) (hzn:z≤nb) (hpn:pb≠nb)
 (hv:AtB z0 w (.sl p.length 5 (p.flatMap encNd)) v) (hl:w.heap[pb]?=some (.cells #[v] 23 (0,0))) (hk:w.heap[nb]?=some (.cells #[.int .i64 (n0:Int)] 3 (0,0))) :
 IterS Tryz.prog 90 #[.pointer (some ⟨nb,0,none⟩),.pointer (some ⟨pb,0,none⟩)] (fun x:Int=>#[.int .i64 x]) nb pb z N (fun xs=>xs=upL p n0) w:=by
 intro n l Ow J W hW hOs hOn hOp hJ hJs hOa hOS hY h0;have hpb:=(Array.getElem?_eq_some_iff.1 hl).1;have hnb:=(Array.getElem?_eq_some_iff.1 hk).1;have hl':=(hW.block _ hpb).trans hl;have hk':=(hW.block _ hnb).trans hk;have hWz:Below z w W:=hW.mono hz;have hvW:AtB z0 W (.sl p.length 5 (p.flatMap encNd)) v:=hv.below (hWz.mono hz0);obtain ⟨b,o,cap,rfl,hcap,hpos,hbz,hc⟩:∃ b o cap,v=.slice (some ⟨b,o,none⟩) p.length cap∧p.length≤cap∧0<p.length∧b<z0∧∀ k (hk:k<p.length) j a,(encNd p[k])[j]?=some a→∃ x,W.cell? ⟨b,o+(k*5+j),none⟩=some x∧AtB z0 W a x:=by
  rcases slB_cells encNd 5 (fun _=>rfl) (by decide) hvW with ⟨rfl,-⟩ | h
  ·simp at hn
  ·exact h
 have HU:=Lib.hid fun k (hk:k<p.length)=>(show W.cell? ⟨b,o+k*5+3,none⟩=some (.int .i64 p[k].up) by
  obtain ⟨x,h1,h2⟩:=hc k hk 3 _ rfl;obtain rfl:x=_:=h2
  rw [Nat.add_assoc];exact h1)
 have HV:=Lib.hid hvW;have HE:=Lib.hid fun n=>Q3s p n;have HT:=Lib.hid hT;have HP:=Lib.hid hp;clear hc hv hl hk hvW hT hp;have hlen:p.length≤1000000:=HP.out.len;refine callsIn_of_wp Tryz.func90 rfl trivial ?_ rfl;simp only [Tryz.ntmps90,List.size_toArray,List.length_cons,List.length_nil,Nat.reduceAdd,Nat.reduceSub,Array.replicate_succ,Array.replicate_zero,List.push_toArray,List.append_toArray,List.nil_append,List.cons_append]
 gi_wp2
 gi_loopw [4] (fun _ wr=>∃ (k:Nat) (pre:List Int),k<p.length∧wr.heap[nb]?=some (.cells #[.int .i64 (k:Int)] 3 (0,0))∧wr.heap[pb]?=W.heap[pb]?∧Hid (pre++upL p k=upL p n0)∧J pre wr∧KO (fun W k=>k=nb∨Ow W k) z W wr∧¬Ow wr nb∧¬Ow wr pb) (fun _ wr=>intAt (wr.cell? ⟨nb,0,none⟩))
 case atStart=>exact ⟨n0,[],hn,hk',rfl,Lib.hid rfl,h0,KO.refl (fun k hk=>hk.elim (fun h=>by rw [h];exact Nat.lt_of_lt_of_le hnb hW.size) (hOs k)),hOn,hOp⟩
 case round =>
  obtain ⟨k,pre,hk,hcn,hcp,hx,hj,hK,hon,hop⟩:=hrel;have hB:=hK.below;have hlw:wr.heap[pb]?=some (.cells #[.slice (some ⟨b,o,none⟩) p.length cap] 23 (0,0)):=hcp.trans hl';have hc1:wr.cell? ⟨nb,0,none⟩=some (.int .i64 (k:Int)):=by rw [Lib.cell_of_heap hcn];rfl
  have hc2:wr.cell? ⟨pb,0,none⟩=some (.slice (some ⟨b,o,none⟩) p.length cap):=by rw [Lib.cell_of_heap hlw];rfl
  by_cases hk0:0<k
  ·have HCA:=Lib.hid ((HE.out (k:Int)).pure.at wr #[.slice (some ⟨b,o,none⟩) p.length cap,.int .i64 (k:Int)] (fun g cs h=>by cases h) (VRs.cons_mk ((HV.out.below (hB.mono hz0)).toAt (by have:=hB.size;have:=hW.size;omega)) (VRs.cons_mk rfl (by rw [VRs]))))
   have HST:=Lib.hid (upL_step HT.out hk0 hk);have hup:=HT.out.up k hk0 hk;rw [Q0o hk] at hup;have hcu:wr.cell? ⟨b,o+k*5+3,none⟩=some (.int .i64 p[k].up):=(hB.cell (p:=⟨b,o+k*5+3,none⟩) (by show b<z;omega)).trans (HU.out k hk);obtain ⟨u,hu⟩:∃ u:Nat,p[k].up=u:=⟨p[k].up.toNat,by omega⟩;have hnbw:=(Array.getElem?_eq_some_iff.1 hcn).1;have hpbw:=(Array.getElem?_eq_some_iff.1 hlw).1;have hszw:=hB.size
   gi_wp2_with fail
   refine ⟨trivial,fun h=>(by cases h),(callsIn_wide.2 HCA.out).mono ?_⟩;rintro e w2 ⟨r,rfl,hr,hB2⟩;obtain rfl:r=.bool (elemB p (k:Int)):=hr;clear HCA;have hj2:=hJ _ _ _ hj hB2;have hon2:¬Ow w2 nb:=fun h=>hon (hOa _ _ _ hszw hB2 h);have hop2:¬Ow w2 pb:=fun h=>hop (hOa _ _ _ hszw hB2 h);have hlt2:∀ j,Ow w2 j→j<w2.heap.size:=fun j hj=>Nat.lt_of_lt_of_le (hK.lt j (.inr (hOa _ _ _ hszw hB2 hj))) hB2.size;have hK2:=hK.trans (KO.grow hB2 (by omega) (fun j hj=>hj.imp id (hOa _ _ _ hszw hB2)) hK.lt);have hcn2:=(hB2.block nb hnbw).trans hcn;have hlw2:=(hB2.block pb hpbw).trans hlw;have hcu2:=(hB2.cell (p:=⟨b,o+k*5+3,none⟩) (by show b<wr.heap.size;omega)).trans hcu;have hsz2:=hB2.size;have hc12:w2.cell? ⟨nb,0,none⟩=some (.int .i64 (k:Int)):=by rw [Lib.cell_of_heap hcn2];rfl
   have hfin:∀ (W2:World) (q:List Int),W2.heap[nb]?=some (.cells #[.int .i64 (k:Int)] 3 (0,0))→W2.heap[pb]?=some (.cells #[.slice (some ⟨b,o,none⟩) p.length cap] 23 (0,0))→J q W2→KO (fun W k=>k=nb∨Ow W k) z W W2→¬Ow W2 nb→¬Ow W2 pb→q++upL p u=upL p n0 →
    ∃ (k2:Nat) (pre2:List Int),k2<p.length∧(W2.setCell ⟨nb,0,none⟩ (.int .i64 (u:Int))).heap[nb]?=some (.cells #[.int .i64 (k2:Int)] 3 (0,0))∧(W2.setCell ⟨nb,0,none⟩ (.int .i64 (u:Int))).heap[pb]?=W.heap[pb]?∧Hid (pre2++upL p k2=upL p n0)∧J pre2 (W2.setCell ⟨nb,0,none⟩ (.int .i64 (u:Int))) ∧
      KO (fun W k=>k=nb∨Ow W k) z W (W2.setCell ⟨nb,0,none⟩ (.int .i64 (u:Int)))∧¬Ow (W2.setCell ⟨nb,0,none⟩ (.int .i64 (u:Int))) nb∧¬Ow (W2.setCell ⟨nb,0,none⟩ (.int .i64 (u:Int))) pb:=by
    intro W2 q g1 g2 g3 g4 g5 g6 g7;have hn2:=(Array.getElem?_eq_some_iff.1 g1).1;refine ⟨u,q,by omega,?_,?_,Lib.hid g7,hJs _ _ _ g3,g4.trans (ko_set _ hzn hn2 (hOS W2 _) fun j hj=>g4.lt j (.inr hj)),fun h=>g5 ((hOS _ _ _).1 h),fun h=>g6 ((hOS _ _ _).1 h)⟩
    ·have:=Q0u (o:=0) (.int .i64 (u:Int)) g1
     simpa using this
    ·rw [Below.heap_setCell W2 ⟨nb,0,none⟩ _ pb hpn,g2,hl']
   have hms:∀ W2:World,W2.heap[nb]?=some (.cells #[.int .i64 (k:Int)] 3 (0,0))→intAt ((W2.setCell ⟨nb,0,none⟩ (.int .i64 (u:Int))).cell? ⟨nb,0,none⟩)<intAt (wr.cell? ⟨nb,0,none⟩):=fun W2 g1=>by
    have h9:=Q0u (o:=0) (.int .i64 (u:Int)) g1;rw [Lib.cell_of_heap h9,hc1];simp [intAt];omega
   rw [HST.out,Q0o hk,hu,Int.toNat_natCast] at hx;have HF:=Lib.hid hfin;have HM:=Lib.hid hms;clear hfin hms
   cases hel:elemB p (k:Int) with
   | true =>
     rw [hel,if_pos rfl] at hx;have hpb:pre.length<N:=by
      have h9:=congrArg List.length hx.out;simp only [List.length_append,List.length_cons,List.length_nil] at h9;omega
     gi_wp2_with fail
     refine upon_yield rfl (hY _ _ _ _ hj2 hpb (by omega)) ?_;rintro W2 ⟨hj3,hK3⟩;have hcn3:=(hK3.same nb (by omega) hon2).trans hcn2;have hlw3:=(hK3.same pb (by omega) hop2).trans hlw2;have hK4:=hK2.trans (ko_wk (nb:=nb) hK3 (by omega));have hon3:¬Ow W2 nb:=fun h=>hon2 (hK3.own nb (by omega) h);have hop3:¬Ow W2 pb:=fun h=>hop2 (hK3.own pb (by omega) h);have hc13:W2.cell? ⟨nb,0,none⟩=some (.int .i64 (k:Int)):=by rw [Lib.cell_of_heap hcn3];rfl
     have hc23:W2.cell? ⟨pb,0,none⟩=some (.slice (some ⟨b,o,none⟩) p.length cap):=by rw [Lib.cell_of_heap hlw3];rfl
     have hcu3:W2.cell? ⟨b,o+k*5+3,none⟩=some (.int .i64 (u:Int)):=by rw [←hu];exact (hK4.below.cell (p:=⟨b,o+k*5+3,none⟩) (by show b<z;omega)).trans (HU.out k hk)
     have hfz:W2.frozen? ⟨nb,0,none⟩=false:=Lib.frozen_of_heap hcn3 0;have HFin:=Lib.hid (HF.out W2 _ hcn3 hlw3 hj3 hK4 hon3 hop3 (by rw [←hx.out];simp));have HMin:=Lib.hid (HM.out W2 hcn3);clear HF HM
     gi_wp2
     go_roundw
     case rel=>exact HFin.out
     case measure=>exact HMin.out
   | false =>
     rw [hel,if_neg (by decide)] at hx;have hc23:w2.cell? ⟨pb,0,none⟩=some (.slice (some ⟨b,o,none⟩) p.length cap):=by rw [Lib.cell_of_heap hlw2];rfl
     rw [hu] at hcu2;have hfz:w2.frozen? ⟨nb,0,none⟩=false:=Lib.frozen_of_heap hcn2 0;have HFin:=Lib.hid (HF.out w2 _ hcn2 hlw2 hj2 hK2 hon2 hop2 (by rw [←hx.out];simp));have HMin:=Lib.hid (HM.out w2 hcn2);clear HF HM
     gi_wp2
     refine ⟨fun _ h=>(by cases h),?_⟩
     gi_wp2
     go_roundw
     case rel=>exact HFin.out
     case measure=>exact HMin.out
  ·obtain rfl:k=0:=by omega
   have hx0:pre=upL p n0:=by have:=hx.out;unfold upL at this ⊢;simpa using this
   gi_wp2
   go_end0
   exact ⟨⟨_,rfl⟩,_,rfl,by rw [←hx0];exact hj,hK⟩
end Go.Proofs.YtabliahkhafddaaGreat
end
