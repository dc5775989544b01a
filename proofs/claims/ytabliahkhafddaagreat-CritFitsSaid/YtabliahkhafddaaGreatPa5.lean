/- The evaluator's operations that turn no memory: each does what the program does. -/
import Derived.Test.YtabliahkhafddaaGreatPa4
set_option linter.unusedSimpArgs false
noncomputable section
namespace Go.Ev
open Go.RowKit
section
variable {P:Program} {w:World} {G:Gh} {ev:Operand→AV} {ρ:Operand→Value} {base:Nat} {GT:GTab} {F:Nat→Prop} {rd:List Mem} {cur:Mem} {nx:Nat} {ty:TypeId} {a:AV}
theorem Q0s {s:Sem Value} {r:Value} (h:s.run P w=.ok r w) (hv:VR w G a r):PureS P w G (do pure (.value (←s))) a :=
 ⟨r,by simp [h],hv⟩
theorem Q2l {isS:Bool} {len cap:Nat} {lo hi:Option AV} {vlo vhi:Option Value} {h l n:Nat} (hlo:∀ x,lo=some x→∃ v,vlo=some v∧VR w G x v) (hlo0:lo=none→vlo=none)
 (hhi:∀ x,hi=some x→∃ v,vhi=some v∧VR w G x v) (hhi0:hi=none→vhi=none) (eh:evInt hi n=some h) (el:evInt lo 0=some l) (hn:n=len) (hlc:len≤cap) (hle:h≤n) (hll:l≤h) :
 (Instr.sliceBounds isS len cap vlo vhi none).run P w=.ok (l,h,cap) w:=by
 have int1:∀ {x:Option AV} {d k:Nat} {v:Option Value} {y:Nat} {code:BoundsCode},(∀ z,x=some z→∃ u,v=some u∧VR w G z u)→evInt x d=some k→k≤y→∀ u,v=some u→x≠none→(Instr.sliceBound u y code).run P w=.ok k w:=by
  intro x d k v y code hx he hk u hu hne
  cases x with
  | none=>exact absurd rfl hne
  | some z =>
    obtain ⟨u',h1,h2⟩:=hx z rfl;rw [hu] at h1;cases h1
    cases z with
    | g q =>
      cases q with
      | int kk m =>
        simp only [evInt] at he
        split at he
        ·rename_i h0
         cases he
         obtain rfl:u=.int kk m:=h2;have hc:0≤m∧m≤(y:Int):=⟨h0,by omega⟩;simp [Instr.sliceBound,asIntOf,hc]
        ·cases he
      | _=>simp [evInt] at he
    | _=>simp [evInt] at he
 subst hn;unfold Instr.sliceBounds
 cases hi with
 | none =>
   have:=hhi0 rfl;subst this;simp only [evInt,Option.some.injEq] at eh;subst eh
   cases lo with
   | none =>
     have:=hlo0 rfl;subst this;simp only [evInt,Option.some.injEq] at el;subst el;simp
   | some x =>
     obtain ⟨u,h1,h2⟩:=hlo x rfl;subst h1;have:=int1 (y:=n) (code:=.sliceB) hlo el hll u rfl (by simp);simp [this]
 | some x =>
   obtain ⟨u,h1,h2⟩:=hhi x rfl;subst h1;have hh:∀ code,(Instr.sliceBound u (if isS then cap else n) code).run P w=.ok h w:=fun code=>int1 (y:=if isS then cap else n) (code:=code) hhi eh (by split <;> omega) u rfl (by simp)
   have hh':∀ code,(Instr.sliceBound u cap code).run P w=.ok h w:=fun code=>int1 (y:=cap) (code:=code) hhi eh (by omega) u rfl (by simp)
   cases lo with
   | none =>
     have:=hlo0 rfl;subst this;simp only [evInt,Option.some.injEq] at el;subst el;simp [hh']
   | some y =>
     obtain ⟨u',h3,h4⟩:=hlo y rfl;subst h3;have:=int1 (y:=h) (code:=.sliceB) hlo el hll u' rfl (by simp);simp [hh',this]
theorem evSlice_zero {isS:Bool} {len cap:Nat} {lo hi:Option AV} {m:AV} {vlo vhi:Option Value} {vm:Value} (hlo:∀ x,lo=some x→∃ v,vlo=some v∧VR w G x v) (hlo0:lo=none→vlo=none)
 (hhi:∀ x,hi=some x→∃ v,vhi=some v∧VR w G x v) (hm:VR w G m vm) (eh:evInt hi 1=some 0) (el:evInt lo 0=some 0) (em:evInt (some m) 1=some 0) :
 (Instr.sliceBounds isS len cap vlo vhi (some vm)).run P w=.ok (0,0,0) w:=by
 have int1:∀ {z:AV} {d:Nat} {v:Value} {y:Nat} {code:BoundsCode},VR w G z v→evInt (some z) d=some 0→(Instr.sliceBound v y code).run P w=.ok 0 w:=by
  intro z d v y code h2 he
  cases z with
  | g q =>
    cases q with
    | int kk mm =>
      simp only [evInt] at he
      split at he
      ·rename_i h0
       simp only [Option.some.injEq] at he;obtain rfl:v=.int kk mm:=h2;have hc:0≤mm∧mm≤(y:Int):=⟨h0,by omega⟩;simp [Instr.sliceBound,asIntOf,hc,he]
      ·cases he
    | _=>simp [evInt] at he
  | _=>simp [evInt] at he
 unfold Instr.sliceBounds
 cases hi with
 | none=>simp [evInt] at eh
 | some x =>
   obtain ⟨u,h1,h2⟩:=hhi x rfl;subst h1;have a1:∀ (y:Nat) code,(Instr.sliceBound u y code).run P w=.ok 0 w:=fun y code=>int1 h2 eh;have a2:∀ (y:Nat) code,(Instr.sliceBound vm y code).run P w=.ok 0 w:=fun y code=>int1 hm em
   cases lo with
   | none=>have:=hlo0 rfl;subst this;simp [a1,a2]
   | some z =>
     obtain ⟨u',h3,h4⟩:=hlo z rfl;subst h3;have a3:∀ (y:Nat) code,(Instr.sliceBound u' y code).run P w=.ok 0 w:=fun y code=>int1 h4 el;simp [a1,a2,a3]
theorem optH {H:∀ x,VR w G (ev x) (ρ x)} (o:Option Operand):(∀ x,o.map ev=some x→∃ v,o.map ρ=some v∧VR w G x v)∧(o.map ev=none→o.map ρ=none):=by
 cases o with
 | none=>exact ⟨fun x h=>by simp at h,fun _=>rfl⟩
 | some y=>exact ⟨fun x h=>⟨ρ y,rfl,by simp at h;subst h;exact H y⟩,fun h=>by simp at h⟩
theorem evSlice_sound (hm:MR base GT F rd cur nx w G) (H:∀ x,VR w G (ev x) (ρ x)) {t:TypeId} {x:Operand} {lo hi mx:Option Operand}
 (h:evSlice P (cur::rd) t (ev x) (lo.map ev) (hi.map ev) (mx.map ev)=some a):PureS P w G (execOp ρ (mkO (.slice t x lo hi mx) ty)) a:=by
 obtain ⟨l1,l2⟩:=optH (H:=H) lo;obtain ⟨h1,h2⟩:=optH (H:=H) hi;have hx:=H x;simp only [evSlice] at h
 split at h
 ·rename_i e hu hmx
  have hmn:mx=none:=by cases mx <;> simp_all
  subst hmn
  split at h
  ·rename_i i n sz cs hi' hex
   rw [hex] at hx;obtain ⟨ad,cap,hr,hnc,hrow⟩:=hx
   split at h
   ·rename_i hsz
    split at h
    ·rename_i hh ll eh el
     split at h
     ·rename_i hle
      cases h
      have hb:=Q2l (P:=P) (isS:=true) (cap:=cap) l1 l2 h1 h2 eh el rfl hnc hle.1 hle.2;refine Q0s (r:=.slice (if cap=ll then ad else ad.map (·.add (ll*i.size))) (hh - ll) (cap - ll)) ?_ ?_
      ·simp only [Instr.sliceAt,Sem.run_bind,Q0f hu,Result.andThen_ok,Instr.slice,hr,Option.map_none,hb,Q0x hi',Sem.run_pure]
      ·refine ⟨_,_,rfl,by omega,?_⟩
       by_cases h0:hh - ll=0
       ·exact .inl h0
       ·refine .inr ?_
        rcases hrow with h3 | ⟨rb,ro,rfl,h3⟩
        ·omega
        ·refine ⟨rb,ro+ll*sz,?_,(h3.drop _).take _⟩
         rw [if_neg (by omega),Option.map_some,add_lit,hsz]
     ·cases h
    ·cases h
   ·cases h
  ·rename_i i b o n sz k hi' hex
   rw [hex] at hx;obtain ⟨rb,ro,o',cap,c,ee,fr,hmu,hr,ho,hnc,hheap,hsize,hk1,hk2⟩:=hx
   split at h
   ·rename_i hsz
    split at h
    ·rename_i hh ll eh el
     split at h
     ·rename_i hle
      cases h
      have hb:=Q2l (P:=P) (isS:=true) (cap:=cap) l1 l2 h1 h2 eh el rfl hnc hle.1 hle.2;refine Q0s (r:=.slice (if cap=ll then some ⟨rb,o',none⟩ else (some (⟨rb,o',none⟩:Addr)).map (·.add (ll*i.size))) (hh - ll) (cap - ll)) ?_ ?_
      ·simp only [Instr.sliceAt,Sem.run_bind,Q0f hu,Result.andThen_ok,Instr.slice,hr,Option.map_none,hb,Q0x hi',Sem.run_pure]
      ·by_cases hcl:cap=ll
       ·refine ⟨rb,ro,o',cap - ll,c,ee,fr,hmu,by rw [if_pos hcl],.inr (by omega),by omega,hheap,?_,by omega,by omega,by omega⟩
        subst hcl;simp;omega
       ·refine ⟨rb,ro,o'+ll*i.size,cap - ll,c,ee,fr,hmu,by rw [if_neg hcl,Option.map_some,add_lit],.inl ?_,by omega,hheap,?_,by omega,by omega,by omega⟩
        ·have:o'=ro+o:=ho.resolve_right (by omega)
         rw [this,hsz,Nat.add_assoc]
        ·have h5:ll*sz+(cap - ll)*sz=cap*sz:=by rw [←Nat.add_mul];congr 1;omega
         omega
     ·cases h
    ·cases h
   ·cases h
  ·rename_i i hi' hex
   rw [hex] at hx;obtain ⟨ad,hr⟩:=hx
   split at h
   ·rename_i eh el
    cases h
    have hb:=Q2l (P:=P) (isS:=true) (len:=0) (cap:=0) l1 l2 h1 h2 eh el rfl (Nat.le_refl _) (Nat.le_refl _) (Nat.le_refl _);refine Q0s (r:=.slice ad 0 0) ?_ ⟨ad,rfl⟩;simp [Instr.sliceAt,Q0f hu,Instr.slice,hr,hb,Q0x hi']
   ·cases h
  ·cases h
 ·rename_i e m hu hmx
  cases mx with
  | none=>simp at hmx
  | some mo =>
    simp only [Option.map_some,Option.some.injEq] at hmx;subst hmx
    have fin:∀ (ad:Option Addr) (n c:Nat) (i:TypeInfo),P.info? e=some i→ρ x=.slice ad n c→evInt (hi.map ev) 1=some 0→evInt (lo.map ev) 0=some 0→evInt (some (ev mo)) 1=some 0 →
     PureS P w G (execOp ρ (mkO (.slice t x lo hi (some mo)) ty)) .z0:=by
     intro ad n c i hi' hr eh el em;have hb:=evSlice_zero (P:=P) (isS:=true) (len:=n) (cap:=c) l1 l2 h1 (H mo) eh el em;refine Q0s (r:=.slice ad 0 0) ?_ ⟨ad,rfl⟩;simp [Instr.sliceAt,Q0f hu,Instr.slice,hr,hb,Q0x hi']
    split at h
    ·rename_i i n sz cs hi' hex eh el em
     cases h
     rw [hex] at hx;obtain ⟨ad,cap,hr,_⟩:=hx;exact fin _ _ _ i hi' hr eh el em
    ·rename_i i b o n sz k hi' hex eh el em
     cases h
     rw [hex] at hx;obtain ⟨rb,ro,o',cap,c,ee,fr,_,hr,_⟩:=hx;exact fin _ _ _ i hi' hr eh el em
    ·rename_i i hi' hex eh el em
     cases h
     rw [hex] at hx;obtain ⟨ad,hr⟩:=hx;exact fin _ _ _ i hi' hr eh el em
    ·cases h
 ·rename_i n e hu hmx
  have hmn:mx=none:=by cases mx <;> simp_all
  subst hmn
  split at h
  ·rename_i i b o hi' hex
   rw [hex] at hx;obtain ⟨rb,ro,hmu,hr⟩:=hx
   split at h
   ·rename_i cs hh ll hg eh el
    split at h
    ·rename_i hle
     cases h
     obtain ⟨rb',ro',e1,_,_,c,ee,fr,hheap,_,hcs⟩:=hm.blk _ _ hg;rw [hmu] at e1;cases e1;have hb:=Q2l (P:=P) (isS:=false) (cap:=n) l1 l2 h1 h2 eh el rfl (Nat.le_refl _) hle.2.1 hle.2.2.1;have hcl:=CellsR.le hcs;refine Q0s (r:=.slice (some (if n=ll then ⟨rb,ro+o,none⟩ else (⟨rb,ro+o,none⟩:Addr).add (ll*i.size))) (hh - ll) (n - ll)) ?_ ?_
     ·simp only [Instr.sliceAt,Sem.run_bind,Q0f hu,Result.andThen_ok,hr,Instr.sureAddr,Sem.run_pure,Option.map_none,hb,Q0x hi']
     ·have h5:ll≤n→ll*i.size+(n - ll)*i.size=n*i.size:=fun hln=>by rw [←Nat.add_mul];congr 1;omega
      have hln:ll≤n:=by omega
      have hfit:ro+o+n*i.size≤c.size:=by
       rcases hcl with h6 | h6
       ·subst h6;have:=hle.1;simp at this;omega
       ·omega
      by_cases hcl2:n=ll
      ·refine ⟨rb,ro,ro+o,n - ll,c,ee,fr,hmu,by rw [if_pos hcl2],.inr (by omega),by omega,hheap,?_,by omega,by omega,by omega⟩
       have:=h5 hln;omega
      ·refine ⟨rb,ro,ro+o+ll*i.size,n - ll,c,ee,fr,hmu,by rw [if_neg hcl2,add_lit],.inl (by omega),by omega,hheap,?_,by omega,by omega,by omega⟩
       have:=h5 hln;omega
    ·cases h
   ·cases h
  ·cases h
 ·cases h
end
end Go.Ev
end
