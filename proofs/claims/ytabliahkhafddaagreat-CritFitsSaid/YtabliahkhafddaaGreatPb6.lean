/- A region whose order is drawn: whatever the order, what comes is what the evaluator says. -/
import Derived.Test.YtabliahkhafddaaGreatPb5
set_option linter.unusedSimpArgs false
noncomputable section
namespace Go.Ev
open Go.RowKit
section
variable {P:Program} {GT:GTab} {ch:CH} {base:Nat} {F:Nat→Prop} {rd:List Mem} {cur:Mem} {nx:Nat} {w:World} {G:Gh} {ops:Array Oper} {B:List Nat}
theorem evDraw_recs {s0:St}:∀ {os:List Oper} {j:Nat} {rr rr':List Rec} {s s':St},evDraw P GT ch rd ops B os j rr s=some (rr',s')→rr.length=j→s=foldS (fun _=>true) 0 rr.reverse s0 →
 (∃ ext,rr'.reverse=rr.reverse++ext∧ext.length=os.length)∧s'=foldS (fun _=>true) 0 rr'.reverse s0 ∧
 ∀ (m:Nat) (o:Oper),os[m]?=some o→∃ r,rr'.reverse[j+m]?=some r∧recOf P GT ch rd ops B (rr'.reverse.take (j+m)).reverse (j+m) o (foldS (fun i=>decide (i<j+m)) 0 rr'.reverse s0)=some r:=by
 intro os
 induction os with
 | nil =>
   intro j rr rr' s s' h hl hs;simp only [evDraw,Option.some.injEq,Prod.mk.injEq] at h;obtain ⟨rfl,rfl⟩:=h;exact ⟨⟨[],by simp,rfl⟩,hs,fun m o hm=>by simp at hm⟩
 | cons o os ih =>
   intro j rr rr' s s' h hl hs;simp only [evDraw] at h
   split at h
   ·cases h
   ·rename_i r hr
    obtain ⟨⟨ext,h1,h2⟩,h3,h4⟩:=ih h (by simp [hl]) (by rw [List.reverse_cons,Q0w,←hs];simp [foldS]);rw [List.reverse_cons] at h1;have hl':rr.reverse.length=j:=by simp [hl]
    generalize hrr:rr.reverse=recs at *;generalize hrr':rr'.reverse=recs' at *;have hback:recs.reverse=rr:=by rw [←hrr,List.reverse_reverse]
    refine ⟨⟨r::ext,by rw [h1];simp,by simp [h2]⟩,h3,fun m o' hm=>?_⟩
    cases m with
    | zero =>
      simp only [List.getElem?_cons_zero,Option.some.injEq] at hm;subst hm;have htake:recs'.take j=recs:=by rw [h1,←hl'];simp
      refine ⟨r,by rw [h1,Nat.add_zero,←hl'];simp,?_⟩;rw [Nat.add_zero,htake,hback];have hfold:foldS (fun i=>decide (i<j)) 0 recs' s0=s:=by
       rw [hs];have:recs'=recs++(r::ext):=by rw [h1];simp
       rw [this,Q0w];have hn:∀ (rs:List Rec) (i:Nat) (s:St),j≤i→foldS (fun i=>decide (i<j)) i rs s=s:=by
        intro rs
        induction rs with
        | nil=>intro i s _;rfl
        | cons q rs ih2=>intro i s hi;simp only [foldS];rw [if_neg (by simp;omega)];exact ih2 _ _ (by omega)
       rw [hn _ _ _ (by omega)];exact Q1q fun m hm=>by simp;omega
      rw [hfold];exact hr
    | succ m =>
      obtain ⟨q,h5,h6⟩:=h4 m o' (by simpa using hm);exact ⟨q,by rw [show j+(m+1)=j+1+m by omega];exact h5,by rw [show j+(m+1)=j+1+m by omega];exact h6⟩
theorem get_pickM (f:Nat→Option Blk):∀ (l:List Nat) (b:Nat),(pickM f l).get b=if b∈l then f b else none:=by
 intro l
 induction l with
 | nil=>intro b;simp [pickM,Mem.get_nil]
 | cons c l ih =>
   intro b;simp only [pickM]
   split
   ·rename_i k hk
    rw [Mem.get_cons,ih]
    by_cases hc:c=b
    ·subst hc;simp [hk]
    ·simp [hc,Ne.symm hc]
   ·rename_i hk
    rw [ih]
    by_cases hc:b=c
    ·subst hc;simp [hk]
    ·simp [hc]
theorem Q1h:∀ {l:List Nat} {b:Nat},hasL l b=true↔b∈l
 | [],b=>by simp [hasL]
 | a::as,b=>by
   unfold hasL
   by_cases h:a=b
   ·subst h;simp
   ·rw [nbeq_ne h];simp only [List.mem_cons,Ne.symm h,false_or];exact Q1h
theorem clear_get {r:Rec}:∀ {l:List Nat},clear r l=true→∀ b∈l,b∉r.W∧¬(r.nx≤b∧b<r.nx')
 | [],_,b,hb=>by cases hb
 | a :: as,h,b,hb=>by
   unfold clear at h
   split at h
   ·cases h
   ·rename_i hw
    have hrest:clear r as=true∧¬(r.nx≤a∧a<r.nx'):=by
     split at h
     ·cases h
     ·rename_i hx
      refine ⟨h,fun hh=>?_⟩;have h1:Nat.ble r.nx a=true:=Nat.ble_eq_true_of_le hh.1;have h2:Nat.blt a r.nx'=true:=Nat.ble_eq_true_of_le hh.2;rw [h1,h2] at hx;cases hx
    rcases List.mem_cons.1 hb with rfl | hb
    ·exact ⟨fun hm=>(by rw [Q1h.2 hm] at hw;cases hw),hrest.2⟩
    ·exact clear_get hrest.1 b hb
theorem unseen_get {r:Rec}:∀ {l:List Nat},unseen r l=true→∀ b∈l,r.U b=false
 | [],_,b,hb=>by cases hb
 | a::as,h,b,hb=>by
   unfold unseen at h
   split at h
   ·cases h
   ·rename_i hu
    rcases List.mem_cons.1 hb with rfl | hb
    ·exact hu
    ·exact unseen_get h b hb
def Light (r:Rec):Prop:=r.heavy=false→r.W=[]∧r.nx'≤r.nx
theorem clear_light {r:Rec} (hl:Light r) {l:List Nat} (h:(match r.heavy with | true=>clear r l | false=>true)=true):∀ b∈l,b∉r.W∧¬(r.nx≤b∧b<r.nx'):=by
 intro b hb
 split at h
 ·exact clear_get h b hb
 ·rename_i hv
  obtain ⟨h1,h2⟩:=hl hv;exact ⟨by rw [h1];simp,by omega⟩
theorem noClash_get {j:Nat} {W U:List Nat}:∀ {rr:List Rec},(∀ r∈rr,Light r)→noClash B j W U rr rr.length=true→∀ {m:Nat} {r:Rec},rr.reverse[m]?=some r→bef B j m=true∨((∀ b∈U,b∉r.W∧¬(r.nx≤b∧b<r.nx'))∧∀ b∈W,r.U b=false):=by
 intro rr
 induction rr with
 | nil=>intro _ _ m r h;simp at h
 | cons q rr ih =>
   intro hL h m r hm;unfold noClash at h;simp only [List.length_cons,Nat.add_sub_cancel] at h;have hrest:noClash B j W U rr rr.length=true:=by
    split at h
    ·exact h
    ·split at h
     ·exact h
     ·cases h
   rw [List.reverse_cons] at hm;rcases Nat.lt_or_ge m rr.length with hlt | hge
   ·rw [List.getElem?_append_left (by simpa using hlt)] at hm
    exact ih (fun r hr=>hL r (List.mem_cons_of_mem _ hr)) hrest hm
   ·rw [List.getElem?_append_right (by simpa using hge)] at hm
    simp only [List.length_reverse] at hm;have hmr:m=rr.length:=by
     have:=(List.getElem?_eq_some_iff.1 hm).1;simp at this;omega
    subst hmr;simp only [Nat.sub_self,List.getElem?_cons_zero,Option.some.injEq] at hm;subst hm
    split at h
    ·rename_i hok
     unfold okRec at hok
     split at hok
     ·rename_i hc
      exact .inr ⟨clear_light (hL q List.mem_cons_self) hc,unseen_get hok⟩
     ·cases hok
    ·split at h
     ·rename_i hb;exact .inl hb
     ·cases h
theorem mayTake_get {j b:Nat}:∀ {rr:List Rec},(∀ r∈rr,Light r)→mayTake B j b rr rr.length=true→∀ {m:Nat} {r:Rec},rr.reverse[m]?=some r→bef B j m=true∨(b∉r.W∧¬(r.nx≤b∧b<r.nx')):=by
 intro rr
 induction rr with
 | nil=>intro _ _ m r h;simp at h
 | cons q rr ih =>
   intro hL h m r hm;unfold mayTake at h;simp only [List.length_cons,Nat.add_sub_cancel] at h;have hrest:mayTake B j b rr rr.length=true:=by
    split at h
    ·exact h
    ·split at h
     ·exact h
     ·cases h
   rw [List.reverse_cons] at hm;rcases Nat.lt_or_ge m rr.length with hlt | hge
   ·rw [List.getElem?_append_left (by simpa using hlt)] at hm
    exact ih (fun r hr=>hL r (List.mem_cons_of_mem _ hr)) hrest hm
   ·rw [List.getElem?_append_right (by simpa using hge)] at hm
    simp only [List.length_reverse] at hm;have hmr:m=rr.length:=by
     have:=(List.getElem?_eq_some_iff.1 hm).1;simp at this;omega
    subst hmr;simp only [Nat.sub_self,List.getElem?_cons_zero,Option.some.injEq] at hm;subst hm
    split at h
    ·rename_i hok
     exact .inr (clear_light (hL q List.mem_cons_self) hok b (by simp))
    ·split at h
     ·rename_i hb;exact .inl hb
     ·cases h
structure RecOk (P:Program) (GT:GTab) (ch:CH) (rd:List Mem) (ops:Array Oper) (B:List Nat) (recs:List Rec) (j:Nat) (o:Oper) (s:St) (r:Rec):Prop where
 dst:r.dst=o.dst
 nx:r.nx=s.nx
 le:r.nx≤r.nx'
 run:(r.want=false∧wantA ops o s.tm=some false∧r.out=.g undef∧r.cur'=.e∧r.W=[]∧r.U=fun _=>false) ∨
  (r.want=true∧wantA ops o s.tm=some true∧∃ v,evOne P GT ch r.rdl r.curl r.nx s.tm o=some (.val v,r.cur',r.nx')∧r.out=v.getD (.g undef))
 curl:∀ b x,r.curl.get b=some x→b∈r.W∧s.cur.get b=some x
 wcur:∀ b,b∈r.W→∃ x,r.curl.get b=some x
 rdl:∀ b x,getR (r.curl::r.rdl) b=some x→(r.U b=true∧getR (s.cur::rd) b=some x)∨getR rd b=some x
 dj:∀ b x,r.curl.get b=some x→getR rd b=none→getR r.rdl b=none
 ult:∀ b,r.U b=true→b<r.nx
 wu:∀ b∈r.W,r.U b=true
 ids:∀ b x,r.cur'.get b=some x→b∈r.W∨(r.nx≤b∧b<r.nx')
 clash:∀ (i:Nat) (q:Rec),recs[i]?=some q→bef B j i=true∨((∀ b,r.U b=true→b∉q.W∧¬(q.nx≤b∧b<q.nx'))∧∀ b∈r.W,q.U b=false)
 light:Light r
theorem recTry_ok (hch:ChOk P GT ch) {recs:List Rec} {j:Nat} {o:Oper} {s:St} {r:Rec} {Wc:List Nat} (hL:∀ q∈recs,Light q) (hj:recs.length=j) (hw:wantA ops o s.tm=some true)
 (h:recTry P GT ch rd B recs.reverse j o s Wc=some r):RecOk P GT ch rd ops B recs j o s r:=by
 have hL':∀ q∈recs.reverse,Light q:=fun q hq=>hL q (by simpa using hq);have hlen:recs.reverse.length=j:=by simpa using hj
 unfold recTry at h;simp only at h;generalize hW:(Wc.filter fun b=>(s.cur.get b).isSome&&Nat.blt b s.nx)=W at h;have hWs:∀ b∈W,∃ x,s.cur.get b=some x∧b<s.nx:=by
  intro b hb;rw [←hW] at hb;simp only [List.mem_filter,Bool.and_eq_true] at hb;obtain ⟨x,hx⟩:=Option.isSome_iff_exists.1 hb.2.1;exact ⟨x,hx,Nat.le_of_ble_eq_true hb.2.2⟩
 have hcurl:∀ b x,(pickM s.cur.get W).get b=some x→b∈W∧s.cur.get b=some x:=by
  intro b x hb;rw [get_pickM] at hb
  split at hb
  ·rename_i hm;exact ⟨hm,hb⟩
  ·cases hb
 have hids:∀ {cur':Mem} {nx':Nat},Tri.all (fun b=>hasL W b||(Nat.ble s.nx b&&Nat.blt b nx')) cur' 1 0=true→∀ b x,cur'.get b=some x→b∈W∨(s.nx≤b∧b<nx'):=by
  intro cur' nx' h b x hb;have:=Tri.all_get _ _ _ _ h b x hb;simp only [Nat.zero_add,Nat.one_mul,Bool.or_eq_true,Bool.and_eq_true] at this;rcases this with h1 | ⟨h1,h2⟩
  ·exact .inl (Q1h.1 h1)
  ·exact .inr ⟨Nat.le_of_ble_eq_true h1,Nat.le_of_ble_eq_true h2⟩
 split at h
 ·
   generalize hp:(fun b=>Nat.blt b s.nx&&!hasL W b&&mayTake B j b recs.reverse j)=p at h;have hpe:∀ b,(Nat.blt b s.nx&&!hasL W b&&mayTake B j b recs.reverse j)=p b:=fun b=>by rw [←hp]
   have hpb:∀ b,p b=true→b<s.nx∧b∉W∧mayTake B j b recs.reverse recs.reverse.length=true:=by
    intro b hb;rw [←hp] at hb;simp only [Bool.and_eq_true,Bool.not_eq_true'] at hb;exact ⟨Nat.le_of_ble_eq_true hb.1.1,fun hm=>by rw [Q1h.2 hm] at hb;simp at hb,by rw [hlen];exact hb.2⟩
   have hkeep:∀ b,(Tri.keep p s.cur 1 0).get b=if p b=true then s.cur.get b else none:=fun b=>by rw [Tri.get_keep,Nat.zero_add,Nat.one_mul]
   split at h
   ·rename_i v cur' nx' he
    split at h
    ·rename_i hc
     simp only [Bool.and_eq_true] at hc
     cases h
     exact {
      dst:=rfl,nx:=rfl,le:=Q4e hch (Q1r he)
      run:=.inr ⟨rfl,hw,v,Q1r he,rfl⟩
      curl:=hcurl
      wcur:=fun b hb=>by
       obtain ⟨x,hx,_⟩:=hWs b hb;exact ⟨x,by simp only;rw [get_pickM,if_pos hb,hx]⟩
      rdl := fun b x hb=>by
       simp only at hb ⊢;rw [Q0c] at hb
       cases hcb:(pickM s.cur.get W).get b with
       | some y =>
         rw [hcb] at hb;obtain rfl:y=x:=by simpa using hb
         obtain ⟨h1,h2⟩:=hcurl b y hcb;exact .inl ⟨by rw [Q1h.2 h1];simp,Q0b h2⟩
       | none =>
         rw [hcb,Option.none_or,Q0c,hkeep] at hb
         split at hb
         ·rename_i hpt
          cases hav:s.cur.get b with
          | some y =>
            rw [hav] at hb;obtain rfl:y=x:=by simpa using hb
            exact .inl ⟨by rw [hpe,hpt];rfl,Q0b hav⟩
          | none=>rw [hav,Option.none_or] at hb;exact .inr hb
         ·rw [Option.none_or] at hb;exact .inr hb
      dj:=fun b x hb hr=>by
       obtain ⟨h1,h2⟩:=hcurl b x hb;simp only;rw [Q0c,hr,hkeep,if_neg (fun hpt=>(hpb b hpt).2.1 h1)];rfl
      ult:=fun b hb=>by
       simp only [hpe,Bool.or_eq_true] at hb;rcases hb with hb | hb
       ·exact (hpb b hb).1
       ·exact (hWs b (Q1h.1 hb)).choose_spec.2
      wu:=fun b hb=>by simp only;rw [Q1h.2 hb];simp
      ids:=hids hc.1
      clash:=fun i q hq=>by
       have h1:=noClash_get (B:=B) (j:=j) hL' (by rw [hlen];exact hc.2) (m:=i) (r:=q) (by rw [List.reverse_reverse];exact hq);rcases h1 with h1 | ⟨h1,h2⟩
       ·exact .inl h1
       ·by_cases hb:bef B j i=true
        ·exact .inl hb
        ·refine .inr ⟨fun b hU=>?_,h2⟩
         simp only [hpe,Bool.or_eq_true] at hU;rcases hU with hU | hU
         ·rcases mayTake_get (B:=B) (j:=j) hL' (hpb b hU).2.2 (m:=i) (r:=q) (by rw [List.reverse_reverse];exact hq) with h3 | h3
          ·exact absurd h3 hb
          ·exact h3
         ·exact h1 b (Q1h.1 hU)
      light:=fun hh=>(by cases hh) }
    ·cases h
   ·cases h
 ·
   generalize hU:((o.op.operands.toList.flatMap fun x=>idOf (evO GT s.tm x)).filter fun b=>Nat.blt b s.nx)=U at h
   split at h
   ·rename_i v cur' nx' he
    split at h
    ·rename_i hc
     simp only [Bool.and_eq_true] at hc
     cases h
     exact {
      dst:=rfl,nx:=rfl,le:=Q4e hch (Q1r he)
      run:=.inr ⟨rfl,hw,v,Q1r he,rfl⟩
      curl:=hcurl
      wcur:=fun b hb=>by
       obtain ⟨x,hx,_⟩:=hWs b hb;exact ⟨x,by simp only;rw [get_pickM,if_pos hb,hx]⟩
      rdl := fun b x hb=>by
       simp only at hb ⊢;rw [Q0c] at hb
       cases hcb:(pickM s.cur.get W).get b with
       | some y =>
         rw [hcb] at hb;obtain rfl:y=x:=by simpa using hb
         obtain ⟨h1,h2⟩:=hcurl b y hcb;exact .inl ⟨Q1h.2 (List.mem_append.2 (.inr h1)),Q0b h2⟩
       | none =>
         rw [hcb,Option.none_or,Q0c,get_pickM] at hb
         split at hb
         ·rename_i hm
          have h2:getR (s.cur::rd) b=some x:=by simpa [getR] using hb
          exact .inl ⟨Q1h.2 (List.mem_append.2 (.inl (List.mem_filter.1 hm).1)),h2⟩
         ·simp [getR] at hb
      dj:=fun b x hb hr=>by
       obtain ⟨h1,h2⟩:=hcurl b x hb;simp only;rw [Q0c,get_pickM,if_neg]
       ·simp [getR]
       ·intro hm
        have:=(List.mem_filter.1 hm).2;simp [Q1h.2 h1] at this
      ult:=fun b hb=>by
       rcases List.mem_append.1 (Q1h.1 hb) with hb | hb
       ·rw [←hU] at hb;exact Nat.le_of_ble_eq_true (List.mem_filter.1 hb).2
       ·exact (hWs b hb).choose_spec.2
      wu:=fun b hb=>Q1h.2 (List.mem_append.2 (.inr hb))
      ids:=hids hc.1
      clash:=fun i q hq=>by
       have h1:=noClash_get (B:=B) (j:=j) hL' (by rw [hlen];exact hc.2) (m:=i) (r:=q) (by rw [List.reverse_reverse];exact hq);rcases h1 with h1 | ⟨h1,h2⟩
       ·exact .inl h1
       ·exact .inr ⟨fun b hU=>h1 b (Q1h.1 hU),h2⟩
      light:=fun hh=>by
       simp only [Bool.not_eq_false',Bool.and_eq_true] at hh;refine ⟨?_,?_⟩
       ·cases hw':W with
        | nil=>rfl
        | cons a as=>rw [hw'] at hh;simp [isEmptyL] at hh
       ·have:=Nat.eq_of_beq_eq_true hh.2
        simp only;omega }
    ·cases h
   ·cases h
theorem recTry_nx (hch:ChOk P GT ch) {recs:List Rec} {j:Nat} {o:Oper} {s:St} {r:Rec} {Wc:List Nat} (h:recTry P GT ch rd B recs j o s Wc=some r):r.nx=s.nx∧s.nx≤r.nx':=by
 unfold recTry at h;simp only at h
 split at h
 ·split at h
  ·rename_i he
   split at h
   ·cases h;exact ⟨rfl,Q4e hch (Q1r he)⟩
   ·cases h
  ·cases h
 ·split at h
  ·rename_i he
   split at h
   ·cases h;exact ⟨rfl,Q4e hch (Q1r he)⟩
   ·cases h
  ·cases h
theorem lightRec_spec {o:Oper} {s:St} {r:Rec} (h:lightRec P GT ch o s=some r):∃ v,evOne P GT ch [] .e s.nx s.tm o=some (.val v,.e,s.nx)∧r=⟨o.dst,v.getD (.g undef),true,[],.e,.e,s.nx,s.nx,[],fun _=>false,false⟩:=by
 unfold lightRec at h
 split at h
 ·split at h
  ·rename_i v n he
   split at h
   ·rename_i hn
    obtain rfl:=Nat.eq_of_beq_eq_true hn
    cases h
    exact ⟨v,Q1r he,rfl⟩
   ·cases h
  ·cases h
 ·cases h
theorem recCall_try {recs:List Rec} {j:Nat} {o:Oper} {s:St} {r:Rec} {W:List Nat} (h:recCall P GT ch rd B recs j o s W=some r):∃ W',recTry P GT ch rd B recs j o s W'=some r:=by
 unfold recCall at h
 split at h
 ·exact ⟨_,h⟩
 ·split at h
  ·rename_i r' hr;cases h;exact ⟨_,hr⟩
  ·exact ⟨_,h⟩
theorem recOf_nx (hch:ChOk P GT ch) {recs:List Rec} {j:Nat} {o:Oper} {s:St} {r:Rec} (h:recOf P GT ch rd ops B recs j o s=some r):r.nx=s.nx∧s.nx≤r.nx':=by
 unfold recOf at h
 split at h
 ·cases h
 ·cases h;exact ⟨rfl,Nat.le_refl _⟩
 ·split at h
  ·rename_i r' hr;cases h
   obtain ⟨v,_,rfl⟩:=lightRec_spec hr;exact ⟨rfl,Nat.le_refl _⟩
  ·split at h
   ·obtain ⟨_,h⟩:=recCall_try h
    exact recTry_nx hch h
   ·exact recTry_nx hch h
theorem recOf_ok (hch:ChOk P GT ch) {recs:List Rec} {j:Nat} {o:Oper} {s:St} {r:Rec} (hL:∀ q∈recs,Light q) (hj:recs.length=j) (h:recOf P GT ch rd ops B recs.reverse j o s=some r):RecOk P GT ch rd ops B recs j o s r:=by
 unfold recOf at h
 split at h
 ·cases h
 ·rename_i hw
  cases h
  exact { dst:=rfl,nx:=rfl,le:=Nat.le_refl _,run:=.inl ⟨rfl,hw,rfl,rfl,rfl,rfl⟩,curl:=fun b x hb=>(by cases hb),wcur:=fun b hb=>(by cases hb)
          rdl:=fun b x hb=>by simp [getR,Mem.get_nil] at hb
          dj:=fun b x hb=>(by cases hb)
          ult:=fun b hb=>(by cases hb),wu:=fun b hb=>(by cases hb),ids:=fun b x hb=>(by cases hb),clash:=fun i q _=>.inr ⟨fun b hb=>(by cases hb),fun b hb=>(by cases hb)⟩
          light:=fun _=>⟨rfl,Nat.le_refl _⟩ }
 ·rename_i hw
  split at h
  ·rename_i r' hr;cases h
   obtain ⟨v,hv,rfl⟩:=lightRec_spec hr
   exact { dst:=rfl,nx:=rfl,le:=Nat.le_refl _,run:=.inr ⟨rfl,hw,v,hv,rfl⟩,curl:=fun b x hb=>(by cases hb),wcur:=fun b hb=>(by cases hb)
           rdl:=fun b x hb=>by simp [getR,Mem.get_nil] at hb
           dj:=fun b x hb=>(by cases hb)
           ult:=fun b hb=>(by cases hb),wu:=fun b hb=>(by cases hb),ids:=fun b x hb=>(by cases hb),clash:=fun i q _=>.inr ⟨fun b hb=>(by cases hb),fun b hb=>(by cases hb)⟩
           light:=fun _=>⟨rfl,Nat.le_refl _⟩ }
  ·split at h
   ·obtain ⟨_,h⟩:=recCall_try h
    exact recTry_ok hch hL hj hw h
   ·exact recTry_ok hch hL hj hw h
end
end Go.Ev
end
