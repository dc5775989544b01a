/- A region whose order is drawn: the law. -/
import Derived.Test.YtabliahkhafddaaGreatPb6
set_option linter.unusedSimpArgs false
noncomputable section
namespace Go.Ev
open Go.RowKit
section
theorem befOf_bit {acc:List Nat} {i:Nat}:∀ {l:List Edge} {s:Nat},(l.foldl (fun s e=>if Region.binds .any e then s ||| 2 ^ e.on ||| acc.getD e.on 0 else s) s).testBit i=true →
 s.testBit i=true∨∃ e∈l,Region.binds .any e=true∧(e.on=i∨(acc.getD e.on 0).testBit i=true):=by
 intro l
 induction l with
 | nil=>intro s h;exact .inl h
 | cons e l ih =>
   intro s h;rw [List.foldl_cons] at h;rcases ih h with h1 | ⟨e',h1,h2⟩
   ·split at h1
    ·rename_i hb
     rw [Nat.testBit_or,Nat.testBit_or,Nat.testBit_two_pow] at h1;simp only [Bool.or_eq_true,decide_eq_true_eq] at h1;rcases h1 with (h1 | h1) | h1
     ·exact .inl h1
     ·exact .inr ⟨e,List.mem_cons_self,hb,.inl h1⟩
     ·exact .inr ⟨e,List.mem_cons_self,hb,.inr h1⟩
    ·exact .inl h1
   ·exact .inr ⟨e',List.mem_cons_of_mem _ h1,h2⟩
theorem befs_get:∀ {os:List Oper} {acc:List Nat},(∃ ext,befs os acc=acc++ext)∧∀ (m:Nat) (o:Oper),os[m]?=some o→(befs os acc)[acc.length+m]?=some (befOf ((befs os acc).take (acc.length+m)) o):=by
 intro os
 induction os with
 | nil=>intro acc;exact ⟨⟨[],by simp [befs]⟩,fun m o h=>by simp at h⟩
 | cons o os ih =>
   intro acc;obtain ⟨⟨ext,h1⟩,h2⟩:=ih (acc:=acc++[befOf acc o]);have he:befs (o::os) acc=befs os (acc++[befOf acc o]):=rfl;refine ⟨⟨befOf acc o::ext,by rw [he,h1];simp⟩,fun m o' hm=>?_⟩;rw [he]
   cases m with
   | zero =>
     simp only [List.getElem?_cons_zero,Option.some.injEq] at hm;subst hm;rw [h1];simp
   | succ m =>
     have:=h2 m o' (by simpa using hm);simp only [List.length_append,List.length_cons,List.length_nil,Nat.zero_add] at this
     rwa [show acc.length+(m+1)=acc.length+1+m by omega]
theorem bef_edge {ops:Array Oper} {i j:Nat} (h:bef (befs ops.toList []) j i=true):∃ o,ops[j]?=some o∧∃ e∈o.after,Region.binds .any e=true∧(e.on=i∨(e.on<j∧bef (befs ops.toList []) e.on i=true)):=by
 unfold bef at h
 cases ho:ops[j]? with
 | none =>
   have hlen:∀ {os:List Oper} {acc:List Nat},(befs os acc).length=acc.length+os.length:=by
    intro os
    induction os with
    | nil=>intro acc;simp [befs]
    | cons o os ih=>intro acc;simp only [befs,ih,List.length_append,List.length_cons,List.length_nil];omega
   have hn:(befs ops.toList [])[j]?=none:=by
    rw [List.getElem?_eq_none_iff,hlen];have:=Array.getElem?_eq_none_iff.1 ho;simpa using this
   simp [List.getD,hn] at h
 | some o =>
   have hg:=(befs_get (os:=ops.toList) (acc:=[])).2 j o (by simpa using ho);simp only [List.length_nil,Nat.zero_add] at hg;simp only [List.getD,hg,Option.getD_some,befOf] at h;rcases befOf_bit h with h1 | ⟨e,h1,h2,h3⟩
   ·simp at h1
   ·refine ⟨o,rfl,e,by simpa using h1,h2,?_⟩
    rcases h3 with h3 | h3
    ·exact .inl h3
    ·refine .inr ?_
     by_cases hlt:e.on<j
     ·refine ⟨hlt,?_⟩
      unfold bef;simp only [List.getD,List.getElem?_take,if_pos hlt] at h3;exact h3
     ·simp [List.getD,List.getElem?_take,hlt] at h3
variable {P:Program} {GT:GTab} {ch:CH} {base:Nat} {F:Nat→Prop} {rd:List Mem} {ops:Array Oper}
theorem Q1j (h:statOk ops=true) {j:Nat} {o:Oper} (ho:ops[j]?=some o):(∀ e∈o.after,Region.binds .any e=true→e.on<j) ∧
 ∀ (i:Nat) (p:Oper),i<j→ops[i]?=some p→bef (befs ops.toList []) j i=true∨((∀ t,p.dst=some t→t∉namesO ops o)∧∀ t,o.dst=some t→t∉namesO ops p):=by
 have hlt:=(Array.getElem?_eq_some_iff.1 ho).1;unfold statOk at h;have h1:=List.all_eq_true.1 h j (List.mem_range.2 hlt);rw [ho] at h1;simp only [Bool.and_eq_true,List.all_eq_true] at h1;refine ⟨fun e he hb=>?_,fun i p hi hp=>?_⟩
 ·have:=h1.1 e (by simpa using he)
  rw [hb] at this;simp only [Bool.not_true,Bool.false_or] at this;exact Nat.le_of_ble_eq_true this
 ·have:=h1.2 i (List.mem_range.2 hi)
  rw [hp] at this;simp only [Bool.or_eq_true,Bool.and_eq_true,Bool.not_eq_true'] at this;rcases this with h2 | ⟨h2,h3⟩
  ·exact .inl h2
  ·refine .inr ⟨fun t ht hm=>?_,fun t ht hm=>?_⟩
   ·rw [ht] at h2;simp [dstIn,hm] at h2
   ·rw [ht] at h3;simp [dstIn,hm] at h3
theorem Q3t {o:Oper} {tm tm':Tm} (h:∀ t∈o.looksAt ops,tm.get t=tm'.get t):wantA ops o tm=wantA ops o tm':=by
 unfold wantA
 split
 ·rfl
 ·rename_i j want hg
  split
  ·rfl
  ·rename_i t ht
   rw [h t (by unfold Oper.looksAt;rw [List.mem_append];right;rw [hg];simp only;rw [ht];simp)]
def countL (listed:Array Bool):Nat→Nat
 | 0=>0
 | n+1=>countL listed n+(if listed.getD n false then 0 else 1)
theorem countL_set {listed:Array Bool} {i:Nat} (hi:listed.getD i true=false):∀ n,countL (listed.setIfInBounds i true) n=if i<n then countL listed n - 1 else countL listed n:=by
 have hlt:i<listed.size:=by
  rcases Nat.lt_or_ge i listed.size with h | h
  ·exact h
  ·simp [h] at hi
 have hif:listed.getD i false=false:=by
  have:listed[i]?=some listed[i]:=by simp
  simp only [Array.getD_eq_getD_getElem?,this,Option.getD_some] at hi ⊢;exact hi
 have hpos:∀ n,i<n→1≤countL listed n:=by
  intro n
  induction n with
  | zero=>intro h;omega
  | succ n ih =>
    intro h;simp only [countL]
    by_cases h2:i=n
    ·subst h2;rw [hif];simp
    ·have:=ih (by omega);omega
 intro n
 induction n with
 | zero=>simp [countL]
 | succ n ih =>
   simp only [countL,ih]
   by_cases h1:i=n
   ·subst h1
    have:(listed.setIfInBounds i true).getD i false=true:=by simp [Array.getD_eq_getD_getElem?,hlt]
    rw [this,hif];simp
   ·have:(listed.setIfInBounds i true).getD n false=listed.getD n false:=by
     simp only [Array.getD_eq_getD_getElem?,Array.getElem?_setIfInBounds_ne h1]
    rw [this]
    by_cases h2:i<n
    ·have h3:i<n+1:=by omega
     have:=hpos n h2;simp only [h2,h3,if_true]
     split <;> omega
    ·have h3:¬i<n+1:=by omega
     simp only [h2,h3,if_false]
theorem Q4h {listed:Array Bool}:∀ {n:Nat},countL listed n=0→∀ j,j<n→listed.getD j false=true:=by
 intro n
 induction n with
 | zero=>intro _ j h;omega
 | succ n ih =>
   intro h j hj;simp only [countL] at h
   by_cases hjn:j=n
   ·subst hjn
    cases hc:listed.getD j false with
    | true=>rfl
    | false=>rw [hc] at h;simp at h
   ·exact ih (by omega) j (by omega)
theorem evDraw_sound (hch:ChOk P GT ch) {D:List Deferred} {s0 s':St} {recs:List Rec} {a0:Act} {w0:World} {G0:Gh} (hst:statOk ops=true)
 (h:evDraw P GT ch rd ops (befs ops.toList []) ops.toList 0 [] s0=some (recs,s')) (hm0:MR base GT F rd s0.cur s0.nx w0 G0) (ht0:TmR w0 G0 s0.tm a0.tmps) (hd0:a0.defers=D) (hF:∀ b,s0.nx≤b→b<s'.nx→F b) :
 wpAny P .any ops (fun e a' w'=>Aft base GT F rd D s0 w0 G0 .nrm s' e a' w') ops.size (Array.replicate ops.size false) a0 w0:=by
 obtain ⟨⟨ext,hext,hlen⟩,hs',hrec⟩:=evDraw_recs (s0:=s0) h rfl rfl;simp only [List.reverse_nil,List.nil_append] at hext;generalize recs.reverse=recs at *;have hrlen:recs.length=ops.size:=by rw [hext,hlen];simp
 generalize hB:befs ops.toList []=B at *;have hlight:∀ (n j:Nat) (r:Rec),j<n→recs[j]?=some r→Light r:=by
  intro n
  induction n with
  | zero=>intro j r hj;omega
  | succ n ih =>
    intro j r hj hr;have hlt:=(List.getElem?_eq_some_iff.1 hr).1;obtain ⟨r',h1,h2⟩:=hrec j (ops[j]'(by omega)) (by simp);rw [Nat.zero_add] at h1 h2;rw [hr] at h1;cases h1;refine (recOf_ok hch (fun q hq=>?_) (by simp;omega) h2).light;obtain ⟨i,hi⟩:=List.mem_iff_getElem?.1 hq;rw [List.getElem?_take] at hi
    split at hi
    ·exact ih i q (by omega) hi
    ·cases hi
 have hok:∀ (j:Nat) (o:Oper),ops[j]?=some o→∃ r,recs[j]?=some r∧RecOk P GT ch rd ops B (recs.take j) j o (foldS (fun i=>decide (i<j)) 0 recs s0) r:=by
  intro j o ho;obtain ⟨r,h1,h2⟩:=hrec j o (by simpa using ho);rw [Nat.zero_add] at h1 h2;have hlt:=(List.getElem?_eq_some_iff.1 h1).1;refine ⟨r,h1,recOf_ok hch (fun q hq=>?_) (by simp;omega) h2⟩;obtain ⟨i,hi⟩:=List.mem_iff_getElem?.1 hq;rw [List.getElem?_take] at hi
  split at hi
  ·exact hlight (i+1) i q (by omega) hi
  ·cases hi
 have hor:∀ (j:Nat) (r:Rec),recs[j]?=some r→∃ o,ops[j]?=some o∧RecOk P GT ch rd ops B (recs.take j) j o (foldS (fun i=>decide (i<j)) 0 recs s0) r:=by
  intro j r hr;have hlt:=(List.getElem?_eq_some_iff.1 hr).1;have ho:ops[j]?=some (ops[j]'(by omega)):=by simp
  obtain ⟨r',h1,h2⟩:=hok j _ ho;rw [hr] at h1;cases h1;exact ⟨_,ho,h2⟩
 have hnxstep:∀ (j:Nat) (r:Rec),recs[j]?=some r→(foldS (fun i=>decide (i<j+1)) 0 recs s0).nx=r.nx'∧(foldS (fun i=>decide (i<j)) 0 recs s0).nx=r.nx:=by
  intro j r hr;obtain ⟨o,ho,hk⟩:=hor j r hr;refine ⟨?_,hk.nx.symm⟩;have hlt:=(List.getElem?_eq_some_iff.1 hr).1;obtain ⟨_,hrj⟩:=List.getElem?_eq_some_iff.1 hr;have hsplit:recs=recs.take j++r::recs.drop (j+1):=by
   rw [←hrj,←List.drop_eq_getElem_cons hlt,List.take_append_drop]
  have hl:(recs.take j).length=j:=by simp;omega
  rw [hsplit,Q0w];simp only [foldS,hl,Nat.zero_add];rw [if_pos (by simp)];have hn:∀ (rs:List Rec) (i:Nat) (s:St),j+1≤i→foldS (fun i=>decide (i<j+1)) i rs s=s:=by
   intro rs
   induction rs with
   | nil=>intro i s _;rfl
   | cons q rs ih=>intro i s hi;simp only [foldS];rw [if_neg (by simp;omega)];exact ih _ _ (by omega)
  rw [hn _ _ _ (Nat.le_refl _)];rfl
 have hnx0:(foldS (fun i=>decide (i<0)) 0 recs s0).nx=s0.nx:=by
  have:∀ (rs:List Rec) (i:Nat) (s:St),foldS (fun i=>decide (i<0)) i rs s=s:=by
   intro rs
   induction rs with
   | nil=>intro i s;rfl
   | cons q rs ih=>intro i s;simp only [foldS];rw [if_neg (by simp)];exact ih _ _
  rw [this]
 have hmonoS:∀ j d,j+d≤recs.length→(foldS (fun i=>decide (i<j)) 0 recs s0).nx≤(foldS (fun i=>decide (i<j+d)) 0 recs s0).nx:=by
  intro j d
  induction d with
  | zero=>intro _;exact Nat.le_refl _
  | succ d ih =>
    intro hle;have h1:=ih (by omega);have hr:recs[j+d]?=some (recs[j+d]'(by omega)):=by simp
    obtain ⟨h2,h3⟩:=hnxstep _ _ hr;obtain ⟨o,_,hk⟩:=hor _ _ hr;have:=hk.le;rw [show j+(d+1)=j+d+1 by omega,h2];omega
 have hs'n:s'.nx=(foldS (fun i=>decide (i<recs.length)) 0 recs s0).nx:=by
  rw [hs'];rw [Q1q (S:=fun _=>true) (S':=fun i=>decide (i<recs.length)) (fun m hm=>by simp;omega)]
 have hnxlt:∀ (i j:Nat) (q r:Rec),i<j→recs[i]?=some q→recs[j]?=some r→q.nx'≤r.nx:=by
  intro i j q r hij hq hr;have h1:=(hnxstep i q hq).1;have h2:=(hnxstep j r hr).2;have hlt:=(List.getElem?_eq_some_iff.1 hr).1;have:=hmonoS (i+1) (j - (i+1)) (by omega);rw [show i+1+(j - (i+1))=j by omega] at this;omega
 have hnxle:∀ (j:Nat) (r:Rec),recs[j]?=some r→s0.nx≤r.nx∧r.nx'≤s'.nx:=by
  intro j r hr;have hlt:=(List.getElem?_eq_some_iff.1 hr).1;have h1:=(hnxstep j r hr).1;have h2:=(hnxstep j r hr).2;have h3:=hmonoS 0 j (by omega);have h4:=hmonoS (j+1) (recs.length - (j+1)) (by omega);rw [show j+1+(recs.length - (j+1))=recs.length by omega] at h4;rw [Nat.zero_add] at h3;omega
 have main : ∀ (c fuel:Nat) (listed:Array Bool) (a:Act) (w:World) (G:Gh),listed.size=ops.size→countL listed ops.size=c→c≤fuel→(∀ i j,listed.getD j false=true→bef B j i=true→listed.getD i false=true) →
  Stp base GT (fun b=>s'.nx≤b∧F b) rd s0.cur s0.nx w0 G0 (foldS (fun i=>listed.getD i false) 0 recs s0).cur s0.nx w G→TmR w G (foldS (fun i=>listed.getD i false) 0 recs s0).tm a.tmps→a.defers=D →
  (∀ (j:Nat) (r:Rec),recs[j]?=some r→listed.getD j false=false→∀ b,r.nx≤b→b<r.nx'→G.μ b=none) →
  wpAny P .any ops (fun e a' w'=>Aft base GT F rd D s0 w0 G0 .nrm s' e a' w') fuel listed a w:=by
  intro c
  induction c with
  | zero =>
    intro fuel listed a w G hsz hc _ _ hstp htm hd _;have hall:=Q4h hc;have hr:Region.ready .any ops listed=[]:=by
     apply List.eq_nil_iff_forall_not_mem.2;intro j hj;obtain ⟨h1,o,h2,_⟩:=mem_ready.1 hj;have hlt:=(Array.getElem?_eq_some_iff.1 h2).1;have:=hall j hlt;have hj2:j<listed.size:=by omega
     simp [Array.getD_eq_getD_getElem?,hj2] at h1 this;rw [this] at h1;cases h1
    refine wpAny_done hr ?_ fuel;have hsame:foldS (fun i=>listed.getD i false) 0 recs s0=s':=by
     rw [hs'];exact Q1q fun m hm=>by rw [Nat.zero_add];exact hall m (by omega)
    rw [hsame] at hstp htm;refine ⟨G,rfl,?_,fun _=>htm,hd⟩;have hle:s0.nx≤s'.nx:=by rw [hs'n,←hnx0];have:=hmonoS 0 recs.length (by omega);rwa [Nat.zero_add] at this
    have hmm:=hstp.mr
    exact { hstp with
     mr:={ fresh:=fun b hb hFb=>hmm.fresh b (by omega) ⟨hb,hFb⟩,blk:=hmm.blk,inj:=hmm.inj,imm:=hmm.imm,base:=hmm.base,gt:=hmm.gt,dj:=hmm.dj }
     nx:=hle }
  | succ c ih =>
    intro fuel listed a w G hsz hc hfu hcl hstp htm hd hun
    cases fuel with
    | zero=>omega
    | succ fuel =>
      refine ⟨fun hrn=>?_,fun k hk=>?_⟩
      ·
        exfalso;have hex:∀ n,countL listed n≠0→∃ j,j<n∧listed.getD j false=false∧∀ i,i<j→listed.getD i false=true:=by
         intro n
         induction n with
         | zero=>intro h;exact absurd rfl h
         | succ n ihn =>
           intro h
           by_cases h0:countL listed n=0
           ·have h1:=Q4h h0
            simp only [countL,h0,Nat.zero_add] at h
            cases hcn:listed.getD n false with
            | true=>rw [hcn] at h;simp at h
            | false=>exact ⟨n,by omega,hcn,h1⟩
           ·obtain ⟨j,h1,h2,h3⟩:=ihn h0
            exact ⟨j,by omega,h2,h3⟩
        obtain ⟨j,hj,hj2,hj3⟩:=hex ops.size (by omega);have ho:ops[j]?=some ops[j]:=by simp
        have hmem:j∈Region.ready .any ops listed:=by
         rw [mem_ready];refine ⟨?_,_,ho,fun e he hb=>hj3 _ ((Q1j hst ho).1 e he hb)⟩;have hj4:j<listed.size:=by omega
         simp [Array.getD_eq_getD_getElem?,hj4] at hj2 ⊢;exact hj2
        rw [hrn] at hmem;cases hmem
      ·obtain ⟨hkt,o,ho,hedges⟩:=mem_ready.1 hk
       have hklt:=(Array.getElem?_eq_some_iff.1 ho).1;have hkl:k<listed.size:=by omega
       have hkf:listed.getD k false=false:=by simp [Array.getD_eq_getD_getElem?,hkl] at hkt ⊢;exact hkt
       obtain ⟨r,hr,hk'⟩:=hok k o ho;have hbk:∀ i,bef B k i=true→listed.getD i false=true:=by
        intro i hb;rw [←hB] at hb;obtain ⟨o',h1,e,h2,h3,h4⟩:=bef_edge hb;rw [ho] at h1;cases h1;have h5:=hedges e h2 h3;rcases h4 with rfl | ⟨_,h4⟩
        ·exact h5
        ·rw [hB] at h4;exact hcl _ _ h5 h4
       have hafter:∀ j,listed.getD j false=true→bef B j k=false:=by
        intro j hj
        cases hb:bef B j k with
        | false=>rfl
        | true=>rw [hcl k j hj hb] at hkf;cases hkf
       have htmk:∀ t∈namesO ops o,(foldS (fun i=>decide (i<k)) 0 recs s0).tm.get t=(foldS (fun i=>listed.getD i false) 0 recs s0).tm.get t:=by
        intro t htn;refine Q2k (fun m q hq hqd=>?_) rfl;rw [Nat.zero_add];obtain ⟨p,hp,hq'⟩:=hor m q hq;rw [hq'.dst] at hqd
        by_cases hmk:m<k
        ·rcases (Q1j hst ho).2 m p hmk hp with h1 | ⟨h1,_⟩
         ·rw [hB] at h1;rw [hbk m h1];simp [hmk]
         ·exact absurd htn (h1 t hqd)
        ·by_cases hmk2:m=k
         ·subst hmk2;rw [hkf];simp
         ·have:listed.getD m false=false:=by
           cases hlm:listed.getD m false with
           | false=>rfl
           | true =>
             rcases (Q1j hst hp).2 k o (by omega) ho with h1 | ⟨_,h1⟩
             ·rw [hB,hafter m hlm] at h1;cases h1
             ·exact absurd htn (h1 t hqd)
          rw [this];simp;omega
       have hpost_tm:∀ (t:Tmp),r.dst=some t→∀ (j:Nat) (q:Rec),k<j→recs[j]?=some q→listed.getD j false=true→q.dst≠some t:=by
        intro t ht j q hkj hq hlj hqd;obtain ⟨p,hp,hq'⟩:=hor j q hq;rw [hq'.dst] at hqd;rw [hk'.dst] at ht;rcases (Q1j hst hp).2 k o hkj ho with h1 | ⟨_,h1⟩
        ·rw [hB,hafter j hlj] at h1;cases h1
        ·exact h1 t hqd (by unfold namesO;rw [ht];simp)
       have hset:∀ i,(listed.setIfInBounds k true).getD i false=(listed.getD i false||i==k):=by
        intro i
        by_cases hik:k=i
        ·subst hik;simp [Array.getD_eq_getD_getElem?,hkl]
        ·rw [show (i==k)=false by simp;omega]
         simp [Array.getD_eq_getD_getElem?,Array.getElem?_setIfInBounds_ne hik]
       have hsetf:(fun i=>(listed.setIfInBounds k true).getD i false)=fun i=>listed.getD i false||i==k:=funext hset
       have hcount:countL (listed.setIfInBounds k true) ops.size=c:=by
        rw [countL_set hkt,if_pos hklt];omega
       have hclosed:∀ i j,(listed.setIfInBounds k true).getD j false=true→bef B j i=true→(listed.setIfInBounds k true).getD i false=true:=by
        intro i j hj hb;rw [hset] at hj ⊢;simp only [Bool.or_eq_true,beq_iff_eq] at hj ⊢;rcases hj with hj | rfl
        ·exact .inl (hcl i j hj hb)
        ·exact .inl (hbk i hb)
       have hcurk:∀ b,r.U b=true→(foldS (fun i=>decide (i<k)) 0 recs s0).cur.get b=(foldS (fun i=>listed.getD i false) 0 recs s0).cur.get b:=by
        intro b hb;refine Q4d (fun m q hq hqt=>?_) rfl;rw [Nat.zero_add];obtain ⟨p,hp,hq'⟩:=hor m q hq;have hqt':b∈q.W∨(q.nx≤b∧b<q.nx'):=by
         rcases hqt with h1 | h1
         ·exact .inl h1
         ·cases hqc:q.cur'.get b with
          | none=>exact absurd hqc h1
          | some x=>exact hq'.ids b x hqc
        by_cases hmk:m<k
        ·rcases hk'.clash m q (by rw [List.getElem?_take,if_pos hmk];exact hq) with h1 | ⟨h1,_⟩
         ·rw [hbk m h1];simp [hmk]
         ·obtain ⟨h2,h3⟩:=h1 b hb
          rcases hqt' with h4 | h4
          ·exact absurd h4 h2
          ·exact absurd h4 h3
        ·by_cases hmk2:m=k
         ·subst hmk2;rw [hkf];simp
         ·have:listed.getD m false=false:=by
           cases hlm:listed.getD m false with
           | false=>rfl
           | true =>
             rcases hqt' with h4 | h4
             ·rcases hq'.clash k r (by rw [List.getElem?_take,if_pos (by omega)];exact hr) with h1 | ⟨_,h1⟩
              ·rw [hafter m hlm] at h1;cases h1
              ·rw [h1 b h4] at hb;cases hb
             ·have:=hk'.ult b hb
              have:=hnxlt k m r q (by omega) hr hq;have:=hk'.le;omega
          rw [this];simp;omega
       have hpost_cur:∀ b,touches r b→∀ (j:Nat) (q:Rec),k<j→recs[j]?=some q→listed.getD j false=true→¬touches q b:=by
        intro b hbt j q hkj hq hlj hqt;obtain ⟨p,hp,hq'⟩:=hor j q hq;have hord:=hq'.clash k r (by rw [List.getElem?_take,if_pos hkj];exact hr);have hbt':b∈r.W∨(r.nx≤b∧b<r.nx'):=by
         rcases hbt with h1 | h1
         ·exact .inl h1
         ·cases hqc:r.cur'.get b with
          | none=>exact absurd hqc h1
          | some x=>exact hk'.ids b x hqc
        have hqt':b∈q.W∨(q.nx≤b∧b<q.nx'):=by
         rcases hqt with h1 | h1
         ·exact .inl h1
         ·cases hqc:q.cur'.get b with
          | none=>exact absurd hqc h1
          | some x=>exact hq'.ids b x hqc
        have hkn:=hnxlt k j r q hkj hr hq;rcases hord with h1 | ⟨h1,h2⟩
        ·rw [hafter j hlj] at h1;cases h1
        ·rcases hbt' with h3 | h3 <;> rcases hqt' with h4 | h4
         ·have:=h2 b h4;rw [hk'.wu b h3] at this;cases this
         ·have:=hk'.ult b (hk'.wu b h3);have:=hk'.le;omega
         ·exact (h1 b (hq'.wu b h4)).2 h3
         ·omega
       unfold wpOp;rw [ho];simp only
       have hwc:wantA ops o (foldS (fun i=>listed.getD i false) 0 recs s0).tm=wantA ops o (foldS (fun i=>decide (i<k)) 0 recs s0).tm :=
        Q3t fun t ht=>(htmk t (List.mem_append.2 (.inr ht))).symm
       rcases hk'.run with ⟨_,hw,hout,hc0,hW0,_⟩ | ⟨_,hw,v,hev,hout⟩
       ·rw [Q1i htm (by rw [hwc];exact hw),if_neg (by simp)]
        refine ih fuel (listed.setIfInBounds k true) (a.put o.dst undef) w G (by simpa using hsz) hcount (by omega) hclosed ?_ ?_ (by rw [put_defers];exact hd) ?_
        ·rw [hsetf]
         have hgeq:∀ b,(foldS (fun i=>listed.getD i false||i==k) 0 recs s0).cur.get b=(foldS (fun i=>listed.getD i false) 0 recs s0).cur.get b:=by
          intro b;rw [Q2o hr hkf b (fun hbt j q h1 h2 h3=>hpost_cur b hbt j q h1 h2 h3),hc0,hW0];simp [Tri.get_e]
         exact hstp.trans (Stp.forget hstp.mr (fun b x hb=>by rw [Q0c,hgeq] at hb;rw [Q0c];exact hb) (fun b x hb=>by rw [hgeq] at hb;exact hb) (Nat.le_refl _))
        ·rw [hsetf]
         refine TmR.ext ?_ (Q3j hr hkf (fun t ht j q h1 h2 h3=>hpost_tm t ht j q h1 h2 h3));rw [hout,hk'.dst];exact Q1g (x:=.g undef) (v:=undef) htm rfl _
        ·intro j q hq hlj
         rw [hset] at hlj;simp only [Bool.or_eq_false_iff] at hlj;exact hun j q hq hlj.1
       ·rw [Q1i htm (by rw [hwc];exact hw),if_pos rfl]
        refine .inl ?_;have hev':evOne P GT ch r.rdl r.curl r.nx (foldS (fun i=>listed.getD i false) 0 recs s0).tm o=some (.val v,r.cur',r.nx'):=by
         rw [←hev];refine Q2x fun t ht=>?_;have:=htmk t (by unfold namesO;rw [List.mem_append];right;unfold Oper.looksAt;rw [List.mem_append];left;rw [List.mem_filterMap];exact ⟨.tmp t,by simpa using ht,rfl⟩);exact getA_congr this.symm
        have hmS:=hstp.mr;have hcurl:∀ b x,r.curl.get b=some x→(foldS (fun i=>listed.getD i false) 0 recs s0).cur.get b=some x:=by
         intro b x hb;obtain ⟨h1,h2⟩:=hk'.curl b x hb;rw [←hcurk b (hk'.wu b h1)];exact h2
        have hsub:∀ b x,getR (r.curl::r.rdl) b=some x→getR ((foldS (fun i=>listed.getD i false) 0 recs s0).cur::rd) b=some x:=by
         intro b x hb;rcases hk'.rdl b x hb with ⟨h1,h2⟩ | h1
         ·rw [Q0c,←hcurk b h1,←Q0c];exact h2
         ·rw [Q0c]
          cases hmc:(foldS (fun i=>listed.getD i false) 0 recs s0).cur.get b with
          | none=>simpa using h1
          | some y=>rw [hmS.dj b y hmc] at h1;cases h1
        have hml:MR base GT (fun b=>G.μ b=none) r.rdl r.curl r.nx w G :=
         { fresh:=fun b _ hb=>hb,blk:=fun b x hb=>hmS.blk b x (hsub b x hb),inj:=fun b b' x x' rb ro ro' h1 h2 h3 h4=>hmS.inj b b' x x' rb ro ro' (hsub _ _ h1) (hsub _ _ h2) h3 h4
           imm:=hmS.imm,base:=hmS.base,gt:=hmS.gt,dj:=fun b x hb=>hk'.dj b x hb (hmS.dj b x (hcurl b x hb)) }
        refine Q2w hch hml htm hev' (fun b h1 h2=>hun k r hr hkf b h1 h2) (fun av u w' G' hrv hs hv=>?_) (fun av u w' G' hrv _ _=>by cases hrv)
        cases hrv
        have hlift:Stp base GT (fun b=>s'.nx≤b∧F b) rd (foldS (fun i=>listed.getD i false) 0 recs s0).cur s0.nx w G (foldS (fun i=>(listed.setIfInBounds k true).getD i false) 0 recs s0).cur s0.nx w' G':=by
         have hn1:=hnxle k r hr;refine Stp.lift (Wr:=fun b=>b∈r.W) hmS hs hcurl (fun b x hb=>(hk'.curl b x hb).1) (fun b x hb=>?_) (fun b hb hFb=>?_) hn1.1 (fun b x hb=>?_)
         ·rw [hsetf,Q2o hr hkf b (fun hbt j q h1 h2 h3=>hpost_cur b hbt j q h1 h2 h3)] at hb
          cases hc1:r.cur'.get b with
          | some y=>rw [hc1] at hb;left;simpa using hb
          | none =>
            rw [hc1,Option.none_or] at hb
            right
            by_cases hbw:b∈r.W
            ·rw [if_pos hbw] at hb;cases hb
            ·rw [if_neg hbw] at hb;exact ⟨rfl,hbw,hb⟩
         ·exact hs.mr.fresh b (by omega) (hmS.fresh b hb hFb)
         ·rcases hk'.ids b x hb with h1 | h1
          ·exact .inl (hk'.wcur b h1)
          ·exact .inr (hun k r hr hkf b h1.1 h1.2)
        refine ih fuel (listed.setIfInBounds k true) (a.put o.dst u) w' G' (by simpa using hsz) hcount (by omega) hclosed (hstp.trans hlift) ?_ (by rw [put_defers];exact hd) ?_
        ·rw [hsetf]
         refine TmR.ext ?_ (Q3j hr hkf (fun t ht j q h1 h2 h3=>hpost_tm t ht j q h1 h2 h3));rw [hout,hk'.dst];exact Q1g (TmR.mono hs.ext htm) hv _
        ·intro j q hq hlj b hb1 hb2
         rw [hset] at hlj;simp only [Bool.or_eq_false_iff,beq_eq_false_iff_ne] at hlj;have hnone:=hun j q hq hlj.1 b hb1 hb2
         by_cases hge:r.nx'≤b
         ·exact hs.mr.fresh b hge hnone
         ·have hlt:b<r.nx:=by
           rcases Nat.lt_or_ge j k with hjk | hjk
           ·have:=hnxlt j k q r hjk hq hr;omega
           ·have:=hnxlt k j r q (by omega) hr hq;omega
          cases hgb:G'.μ b with
          | none=>rfl
          | some x =>
            rcases hs.mus b x hgb with h1 | h1
            ·rw [hnone] at h1;cases h1
            ·omega
 have hrep:∀ i,(Array.replicate ops.size false).getD i false=false:=by
  intro i;simp only [Array.getD_eq_getD_getElem?,Array.getElem?_replicate]
  split <;> rfl
 have hfold0:foldS (fun i=>(Array.replicate ops.size false).getD i false) 0 recs s0=s0:=by
  have:∀ (rs:List Rec) (i:Nat) (s:St),foldS (fun i=>(Array.replicate ops.size false).getD i false) i rs s=s:=by
   intro rs
   induction rs with
   | nil=>intro i s;rfl
   | cons q rs ih=>intro i s;simp only [foldS];rw [if_neg (by rw [hrep];simp)];exact ih _ _
  exact this _ _ _
 have hcnt:countL (Array.replicate ops.size false) ops.size≤ops.size:=by
  have:∀ n,countL (Array.replicate ops.size false) n≤n:=by
   intro n
   induction n with
   | zero=>simp [countL]
   | succ n ih=>simp only [countL];split <;> omega
  exact this _
 refine main _ ops.size (Array.replicate ops.size false) a0 w0 G0 (by simp) rfl hcnt (fun i j hj _=>by rw [hrep] at hj;cases hj) ?_ ?_ hd0 (fun j r hr _ b h1 h2=>?_)
 ·rw [hfold0]
  exact Stp.refl { fresh:=fun b hb hFb=>hm0.fresh b hb hFb.2,blk:=hm0.blk,inj:=hm0.inj,imm:=hm0.imm,base:=hm0.base,gt:=hm0.gt,dj:=hm0.dj }
 ·rw [hfold0];exact ht0
 ·have:=hnxle j r hr
  exact hm0.fresh b (by omega) (hF b (by omega) (by omega))
end
end Go.Ev
end
