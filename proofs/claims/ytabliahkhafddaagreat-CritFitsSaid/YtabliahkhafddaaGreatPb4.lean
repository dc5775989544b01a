/- For regions whose order is drawn: an operation looks at its operands alone; a step in a part of memory is a step in the whole. -/
import Derived.Test.YtabliahkhafddaaGreatPb3
set_option linter.unusedSimpArgs false
noncomputable section
namespace Go.Ev
open Go.RowKit
section
variable {P:Program} {GT:GTab} {ch:CH} {base:Nat} {F:Nat→Prop} {rd:List Mem} {cur:Mem} {nx:Nat} {w:World} {G:Gh}
theorem slowG_congr {ev ev':Operand→AV} {op:Op} {ty:TypeId} (h:∀ x∈op.operands,ev x=ev' x):slowG P ev op ty=slowG P ev' op ty:=by
 have key:(∀ cs b,op≠.select cs b)→(if op.operands.all (fun x=>(toG (ev x)).isSome) then
  match pv P (execOp (fun x=>(toG (ev x)).getD undef) (mkO op ty)) with
  | some (.value v)=>some (avc v)
  | _=>none
  else none)=(if op.operands.all (fun x=>(toG (ev' x)).isSome) then
   match pv P (execOp (fun x=>(toG (ev' x)).getD undef) (mkO op ty)) with
   | some (.value v)=>some (avc v)
   | _=>none
  else none):=by
  intro hs;have h1:op.operands.all (fun x=>(toG (ev x)).isSome)=op.operands.all (fun x=>(toG (ev' x)).isSome):=by
   rw [Bool.eq_iff_iff,Array.all_eq_true_iff_forall_mem,Array.all_eq_true_iff_forall_mem];exact ⟨fun hh x hx=>by rw [←h x hx];exact hh x hx,fun hh x hx=>by rw [h x hx];exact hh x hx⟩
  have h2:execOp (fun x=>(toG (ev x)).getD undef) (mkO op ty)=execOp (fun x=>(toG (ev' x)).getD undef) (mkO op ty) :=
   execOp_congr _ hs fun x hx=>by show (toG (ev x)).getD undef=(toG (ev' x)).getD undef;rw [h x hx]
  rw [h1,h2]
 cases op with
 | select cs b=>rfl
 | _=>exact key (fun _ _ e=>by cases e)
theorem Q2a {ev ev':Operand→AV} {l:Option Operand} (h:∀ x∈l.toArray,ev x=ev' x):l.map ev=l.map ev':=by
 cases l with
 | none=>rfl
 | some x=>simp [h x (by simp)]
theorem fastG_congr {ev ev':Operand→AV} {op:Op} (h:∀ x∈op.operands,ev x=ev' x):fastG P ev op=fastG P ev' op:=by
 unfold fastG
 split
 ·rename_i op t x y yt
  rw [h x (by simp [Op.operands]),h y (by simp [Op.operands])]
 ·rename_i t x
  rw [h x (by simp [Op.operands])]
 ·rename_i t x i
  rw [h x (by simp [Op.operands]),h i (by simp [Op.operands])]
 ·rename_i t x lo hi
  rw [h x (by simp [Op.operands]),Q2a (l:=lo) (fun y hy=>h y (by simp only [Op.operands,Array.mem_append];exact .inl (.inl (.inr hy)))),
   Q2a (l:=hi) (fun y hy=>h y (by simp only [Op.operands,Array.mem_append];exact .inl (.inr hy)))]
 ·rename_i s d x
  rw [h x (by simp [Op.operands])]
 ·rename_i c
  obtain ⟨cal,args,ats⟩:=c;unfold fastCall
  split
  ·rename_i x t e1 e2 e3
   simp only at e2;rw [h x (by simp only [Op.operands,Call.operands];rw [Array.mem_append];right;rw [←Array.mem_toList_iff,e2];simp)]
  ·rfl
 ·rfl
theorem Q3l {ev ev':Operand→AV} {op:Op} {ty:TypeId} (h:∀ x∈op.operands,ev x=ev' x):evGround P ev op ty=evGround P ev' op ty:=by
 unfold evGround;rw [fastG_congr h,slowG_congr h]
theorem Q3y {ev ev':Operand→AV} {l:Array Operand} (h:∀ x∈l,ev x=ev' x):l.toList.map ev=l.toList.map ev' :=
 List.map_congr_left fun x hx=>h x (by simpa using hx)
theorem evBuiltin_congr {ms:List Mem} {ev ev':Operand→AV} {c:Call} {ty:TypeId} (h:∀ x∈c.operands,ev x=ev' x):evBuiltin P ms ev c ty=evBuiltin P ms ev' c ty:=by
 have hg:evGround P ev (.call c) ty=evGround P ev' (.call c) ty:=Q3l h;obtain ⟨cal,args,ats⟩:=c;unfold evBuiltin
 split
 ·rename_i x t e1 e2 e3
  simp only at e2;have hx:ev x=ev' x:=h x (by simp only [Call.operands];rw [Array.mem_append];right;rw [←Array.mem_toList_iff,e2];simp);rw [hx,hg]
 ·rename_i x t e1 e2 e3
  simp only at e2;have hx:ev x=ev' x:=h x (by simp only [Call.operands];rw [Array.mem_append];right;rw [←Array.mem_toList_iff,e2];simp);rw [hx,hg]
 ·exact hg
 ·rfl
theorem evPure_congr {ms:List Mem} {ev ev':Operand→AV} {op:Op} {ty:TypeId} (h:∀ x∈op.operands,ev x=ev' x):evPure P ms ev op ty=evPure P ms ev' op ty:=by
 have hg:evGround P ev op ty=evGround P ev' op ty:=Q3l h
 cases op <;> simp only [evPure]
 case move x=>rw [h x (by simp [Op.operands])]
 case assign x=>rw [h x (by simp [Op.operands])]
 case pick c a b=>rw [h c (by simp [Op.operands]),h a (by simp [Op.operands]),h b (by simp [Op.operands])]
 case load t a=>rw [h a (by simp [Op.operands])]
 case nilCheck x=>rw [h x (by simp [Op.operands]),hg]
 case makeInterface t x=>rw [h x (by simp [Op.operands])]
 case makeFunc f a b=>rw [Q3y (l:=a) (fun x hx=>h x (by simp [Op.operands,hx])),Q3y (l:=b) (fun x hx=>h x (by simp [Op.operands,hx]))]
 case slice t x lo hi mx =>
  rw [h x (by simp [Op.operands]),hg,Q2a (l:=lo) (fun y hy=>h y (by simp only [Op.operands,Array.mem_append];exact .inl (.inl (.inr hy)))),
   Q2a (l:=hi) (fun y hy=>h y (by simp only [Op.operands,Array.mem_append];exact .inl (.inr hy))),Q2a (l:=mx) (fun y hy=>h y (by simp only [Op.operands,Array.mem_append];exact .inr hy))]
 case fieldAddr s x f=>rw [h x (by simp [Op.operands])]
 case field t x f=>rw [h x (by simp [Op.operands])]
 case indexAddr t x i=>rw [h x (by simp [Op.operands]),h i (by simp [Op.operands])]
 case index t x i=>rw [h x (by simp [Op.operands]),h i (by simp [Op.operands]),hg]
 case extract x i=>rw [h x (by simp [Op.operands])]
 case lookup t x ix ok=>rw [h x (by simp [Op.operands]),h ix (by simp [Op.operands])]
 case typeAssert x xt at_ ok=>rw [h x (by simp [Op.operands]),hg]
 case call c=>exact evBuiltin_congr h
 case convert src dst x=>rw [h x (by simp [Op.operands]),hg]
 case binOp op t x y yt =>
  have hg':∀ o,evGround P ev (.binOp o t x y yt) ty=evGround P ev' (.binOp o t x y yt) ty:=fun o=>Q3l h;unfold evBin;rw [h x (by simp [Op.operands]),h y (by simp [Op.operands])]
  cases op <;> simp only [hg']
 all_goals exact hg
theorem evMem_congr {ev ev':Operand→AV} {op:Op} {ty:TypeId} (h:∀ x∈op.operands,ev x=ev' x):evMem P rd cur nx ev op ty=evMem P rd cur nx ev' op ty:=by
 have hp:evPure P (cur::rd) ev op ty=evPure P (cur::rd) ev' op ty:=evPure_congr h
 have hparts:∀ (parts:Array (Nat×Operand)),(∀ x∈(parts.toList.map (·.2)).toArray,ev x=ev' x)→(parts.toList.map fun p=>(p.1,ev p.2))=parts.toList.map fun p=>(p.1,ev' p.2):=fun parts hh =>
  List.map_congr_left fun p hm=>by rw [hh p.2 (by simp;exact ⟨p.1,by simpa using hm⟩)]
 cases op <;> simp only [evMem]
 case box t x=>rw [h x (by simp [Op.operands])]
 case build t parts=>rw [hparts parts (fun x hx=>h x hx)]
 case buildSlice t len parts=>rw [hparts parts (fun x hx=>h x hx)]
 case makeSlice t l c=>rw [h l (by simp [Op.operands]),h c (by simp [Op.operands])]
 case store t a x=>rw [h a (by simp [Op.operands]),h x (by simp [Op.operands])]
 case makeMap t r=>rw [Q2a (l:=r) (fun y hy=>h y (by simpa [Op.operands] using hy))]
 case mapUpdate t m k x=>rw [h m (by simp [Op.operands]),h k (by simp [Op.operands]),h x (by simp [Op.operands])]
 case insert t m k x=>rw [h m (by simp [Op.operands]),h k (by simp [Op.operands]),h x (by simp [Op.operands])]
 case mapEntry t m k=>rw [h m (by simp [Op.operands]),h k (by simp [Op.operands])]
 case entryStore t m k x=>rw [h m (by simp [Op.operands]),h k (by simp [Op.operands]),h x (by simp [Op.operands])]
 case convert src dst x=>rw [h x (by simp [Op.operands]),hp]
 case range t x=>rw [h x (by simp [Op.operands])]
 case next it isS=>rw [h it (by simp [Op.operands])]
 case call c =>
  obtain ⟨cal,args,ats⟩:=c;simp only
  split
  ·rename_i s x t xt e2 e3
   have hs:ev s=ev' s:=h s (by simp only [Op.operands,Call.operands];rw [Array.mem_append];right;rw [←Array.mem_toList_iff,e2];simp);have hx:ev x=ev' x:=h x (by simp only [Op.operands,Call.operands];rw [Array.mem_append];right;rw [←Array.mem_toList_iff,e2];simp);rw [hs,hx]
  ·rename_i s x t xt e2 e3
   have hs:ev s=ev' s:=h s (by simp only [Op.operands,Call.operands];rw [Array.mem_append];right;rw [←Array.mem_toList_iff,e2];simp);have hx:ev x=ev' x:=h x (by simp only [Op.operands,Call.operands];rw [Array.mem_append];right;rw [←Array.mem_toList_iff,e2];simp);rw [hs,hx]
  ·rename_i s t e2 e3
   have hs:ev s=ev' s:=h s (by simp only [Op.operands,Call.operands];rw [Array.mem_append];right;rw [←Array.mem_toList_iff,e2];simp);rw [hs]
  ·rw [hp]
 all_goals rw [hp]
theorem Q2x {tm tm':Tm} {o:Oper} (h:∀ t,.tmp t∈o.op.operands→tm.getA t=tm'.getA t):evOne P GT ch rd cur nx tm o=evOne P GT ch rd cur nx tm' o:=by
 have ho:∀ x∈o.op.operands,evO GT tm x=evO GT tm' x:=by
  intro x hx
  cases x with
  | tmp t=>exact h t hx
  | _=>rfl
 have hm:evMem P rd cur nx (evO GT tm) o.op o.type=evMem P rd cur nx (evO GT tm') o.op o.type:=evMem_congr ho;unfold evOne
 split
 ·rename_i c hop
  have hc:calleeA (evO GT tm) c=calleeA (evO GT tm') c:=by
   rw [hop] at ho;simp only [Op.operands] at ho;unfold calleeA
   split
   ·rename_i x hx
    rw [ho x (by simp [Call.operands,hx]),Q3y (l:=c.args) (fun y hy=>ho y (by simp [Call.operands,hy]))]
   ·rfl
  rw [hc,hm]
 ·rename_i x hop
  rw [ho x (by rw [hop];simp [Op.operands])]
 ·rw [hm]
theorem Stp.lift {Fs Fk:Nat→Prop} {M M':Mem} {n0 nk nk':Nat} {rdl:List Mem} {curl cur':Mem} {w':World} {G':Gh} {Wr:Nat→Prop} (hS:MR base GT Fs rd M n0 w G) (hl:Stp base GT Fk rdl curl nk w G cur' nk' w' G')
 (hcl:∀ b x,curl.get b=some x→M.get b=some x) (hW:∀ b x,curl.get b=some x→Wr b) (hget:∀ b x,M'.get b=some x→cur'.get b=some x∨(cur'.get b=none∧¬Wr b∧M.get b=some x))
 (hfr:∀ b,n0≤b→Fs b→G'.μ b=none) (hnk:n0≤nk) (hnew:∀ b x,cur'.get b=some x→(∃ y,curl.get b=some y)∨G.μ b=none) :
 Stp base GT Fs rd M n0 w G M' n0 w' G':=by
 have hall:∀ b x,getR (M'::rd) b=some x→cur'.get b=some x∨(cur'.get b=none∧(∀ y,curl.get b≠some y)∧getR (M::rd) b=some x):=by
  intro b x hb;rw [Q0c] at hb
  cases hM:M'.get b with
  | some y =>
    rw [hM] at hb;obtain rfl:y=x:=by simpa using hb
    rcases hget b y hM with h1 | ⟨h1,h2,h3⟩
    ·exact .inl h1
    ·exact .inr ⟨h1,fun z hz=>h2 (hW b z hz),by rw [Q0c,h3];rfl⟩
  | none =>
    rw [hM] at hb;simp only [Option.none_or] at hb;have hMn:M.get b=none:=by
     cases hm:M.get b with
     | none=>rfl
     | some y=>rw [hS.dj b y hm] at hb;cases hb
    have hcn:∀ y,curl.get b≠some y:=fun y hy=>by rw [hcl b y hy] at hMn;cases hMn
    refine .inr ⟨?_,hcn,by rw [Q0c,hMn,hb];rfl⟩
    cases hc:cur'.get b with
    | none=>rfl
    | some y =>
      rcases hnew b y hc with ⟨z,hz⟩ | h0
      ·exact absurd hz (hcn z)
      ·obtain ⟨rb,ro,h1,_⟩:=hS.blk b x (by rw [Q0c,hMn,hb];rfl)
       rw [h1] at h0;cases h0
 have hold:∀ b x,(∀ y,curl.get b≠some y)→getR (M::rd) b=some x→∃ rb ro,G.μ b=some (rb,ro)∧base≤rb∧rb<w.heap.size∧¬G'.I rb∧w'.heap[rb]?=w.heap[rb]?∧BlkR w' G' rb ro x∧¬∃ b0 k0 ro0,curl.get b0=some k0∧G.μ b0=some (rb,ro0):=by
  intro b x hb hx;obtain ⟨rb,ro,h1,h2,h3,h4⟩:=hS.blk b x hx;have hown:¬∃ b0 k0 ro0,curl.get b0=some k0∧G.μ b0=some (rb,ro0):=by
   rintro ⟨b0,k0,ro0,h5,h6⟩;have:=hS.inj b b0 x k0 rb ro ro0 hx (Q0b (hcl _ _ h5)) h1 h6;subst this;exact hb k0 h5
  have hsame:=hl.fr rb h4.lt fun b0 k0 ro0 h5 h6=>hown ⟨b0,k0,ro0,h5,h6⟩;refine ⟨rb,ro,h1,h2,h4.lt,?_,hsame,h4.mono hl.ext hsame,hown⟩;intro hi;rcases hl.impr rb hi with h5 | h5 | h5
  ·exact h3 h5
  ·have:=h4.lt;omega
  ·exact hown h5
 have hnewb:∀ b x,cur'.get b=some x→∃ rb ro,G'.μ b=some (rb,ro)∧base≤rb∧¬G'.I rb∧BlkR w' G' rb ro x∧(w.heap.size≤rb∨∃ b0 k0 ro0,curl.get b0=some k0∧G.μ b0=some (rb,ro0)):=by
  intro b x hb;obtain ⟨rb,ro,h1,h2,h3,h4⟩:=hl.mr.blk b x (Q0b hb);exact ⟨rb,ro,h1,h2,h3,h4,hl.prov b x rb ro hb h1⟩
 exact {
  mr := {
   fresh:=hfr
   blk:=fun b x hb=>by
    rcases hall b x hb with h1 | ⟨_,h1,h2⟩
    ·obtain ⟨rb,ro,h3,h4,h5,h6,_⟩:=hnewb b x h1
     exact ⟨rb,ro,h3,h4,h5,h6⟩
    ·obtain ⟨rb,ro,h3,h4,_,h5,_,h6,_⟩:=hold b x h1 h2
     exact ⟨rb,ro,hl.ext.mu _ _ h3,h4,h5,h6⟩
   inj:=fun b b' x x' rb ro ro' h1 h2 h3 h4=>by
    rcases hall b x h1 with e1 | ⟨_,e1,e2⟩ <;> rcases hall b' x' h2 with f1 | ⟨_,f1,f2⟩
    ·exact hl.mr.inj b b' x x' rb ro ro' (Q0b e1) (Q0b f1) h3 h4
    ·obtain ⟨r1,o1,g1,_,_,_,g2⟩:=hnewb b x e1
     rw [h3] at g1;cases g1;obtain ⟨r2,o2,k1,_,k2,_,_,_,k3⟩:=hold b' x' f1 f2;rw [hl.ext.mu _ _ k1] at h4;cases h4;rcases g2 with g2 | g2
     ·omega
     ·exact absurd g2 k3
    ·obtain ⟨r1,o1,g1,_,_,_,g2⟩:=hnewb b' x' f1
     rw [h4] at g1;cases g1;obtain ⟨r2,o2,k1,_,k2,_,_,_,k3⟩:=hold b x e1 e2;rw [hl.ext.mu _ _ k1] at h3;cases h3;rcases g2 with g2 | g2
     ·omega
     ·exact absurd g2 k3
    ·obtain ⟨r1,o1,k1,_⟩:=hold b x e1 e2
     rw [hl.ext.mu _ _ k1] at h3;cases h3;obtain ⟨r2,o2,k2,_⟩:=hold b' x' f1 f2;rw [hl.ext.mu _ _ k2] at h4;cases h4;exact hS.inj b b' x x' _ _ _ e2 f2 k1 k2
   imm:=hl.mr.imm
   base:=hl.mr.base
   gt:=hl.mr.gt
   dj := fun b x hb=>by
    rcases hget b x hb with h1 | ⟨_,_,h1⟩
    ·rcases hnew b x h1 with ⟨y,hy⟩ | h0
     ·exact hS.dj b y (hcl b y hy)
     ·cases hr:getR rd b with
      | none=>rfl
      | some y =>
        cases hMb:M.get b with
        | some z=>rw [hS.dj b z hMb] at hr;cases hr
        | none =>
          obtain ⟨rb,ro,h2,_⟩:=hS.blk b y (by rw [Q0c,hMb,hr];rfl);rw [h2] at h0;cases h0
    ·exact hS.dj b x h1 }
  ext:=hl.ext,os:=hl.os,tape:=hl.tape,output:=hl.output,size:=hl.size
  fr:=fun rb hlt ho=>hl.fr rb hlt fun b k ro hb hm=>ho b k ro (hcl b k hb) hm
  prov:=fun b x rb ro hb hm=>by
   rcases hget b x hb with h1 | ⟨_,_,h1⟩
   ·rcases hl.prov b x rb ro h1 hm with h2 | ⟨b0,k0,ro0,h2,h3⟩
    ·exact .inl h2
    ·exact .inr ⟨b0,k0,ro0,hcl _ _ h2,h3⟩
   ·obtain ⟨rb',ro',h2,_⟩:=hS.blk b x (Q0b h1)
    rw [hl.ext.mu _ _ h2] at hm;cases hm;exact .inr ⟨b,x,_,h1,h2⟩
  impr:=fun rb hi=>by
   rcases hl.impr rb hi with h1 | h1 | ⟨b0,k0,ro0,h1,h2⟩
   ·exact .inl h1
   ·exact .inr (.inl h1)
   ·exact .inr (.inr ⟨b0,k0,ro0,hcl _ _ h1,h2⟩)
  mus:=fun b x hb=>by
   rcases hl.mus b x hb with h1 | h1
   ·exact .inl h1
   ·exact .inr (Nat.le_trans hnk h1)
  nx:=Nat.le_refl _ }
end
end Go.Ev
end
