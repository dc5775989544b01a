/- The evaluator at maps. -/
import Derived.Test.YtabliahkhafddaaGreatPa5
import Derived.MapKept
set_option linter.unusedSimpArgs false
noncomputable section
namespace Go.Ev
open Go.RowKit Go.MapKept
section
variable {P:Program} {w:World} {G:Gh} {base:Nat} {GT:GTab} {F:Nat→Prop} {rd:List Mem} {cur:Mem} {nx:Nat}
theorem isKeyT_spec {d:TypeDesc} {k:AV} {v:Value} (h:isKeyT (some d) k=true) (hv:VR w G k v):IsKey d v∧k=.g v:=by
 unfold isKeyT at h
 split at h
 ·rename_i s e;cases e
  obtain rfl:v=.string s:=hv;exact ⟨trivial,rfl⟩
 ·rename_i kd k' n e;cases e
  obtain rfl:v=.int k' n:=hv
  split at h
  ·rename_i hk;exact ⟨hk,rfl⟩
  ·cases h
 ·cases h
theorem sameK_spec {d:TypeDesc} {k e:AV} {kv ev:Value} {b:Bool} (hk:isKeyT (some d) k=true) (hkv:VR w G k kv) (hev:VR w G e ev) (h:sameK k e=some b):Instr.sameNow d kv ev=some b∧(b=true→ev=kv):=by
 have hstr:∀ {s:ByteArray},k=.g (.string s)→Instr.sameNow d kv ev=some b∧(b=true→ev=kv):=by
  rintro s rfl;obtain rfl:kv=.string s:=hkv
  cases e with
  | g x =>
    cases x with
    | string s' =>
      simp only [sameK,Option.some.injEq] at h;subst h;obtain rfl:ev=.string s':=hev
      cases d <;> first | (simp [isKeyT] at hk;done) | skip
      have hbe:(s==s')=(s.data.toList==s'.data.toList):=by
       rw [Bool.eq_iff_iff,bytes_beq,beq_iff_eq]
       constructor
       ·rintro rfl;rfl
       ·intro h
        obtain ⟨a⟩:=s;obtain ⟨a'⟩:=s';exact congrArg ByteArray.mk (Array.toList_inj.1 h)
      rw [eqL_eq,←hbe];refine ⟨rfl,fun hb=>?_⟩;rw [bytes_beq] at hb;rw [hb]
    | _=>simp [sameK] at h
  | _=>simp [sameK] at h
 have hint:∀ {kd:IntKind} {n:Int},k=.g (.int kd n)→Instr.sameNow d kv ev=some b∧(b=true→ev=kv):=by
  rintro kd n rfl;obtain rfl:kv=.int kd n:=hkv
  cases e with
  | g x =>
    cases x with
    | int k' m =>
      simp only [sameK] at h
      split at h
      ·rename_i hkk;subst hkk
       cases h
       obtain rfl:ev=.int kd m:=hev
       cases d <;> first | (simp [isKeyT] at hk;done) | skip
       rename_i kd2;have:kd=kd2:=by
        simp only [isKeyT] at hk
        split at hk
        ·assumption
        ·cases hk
       subst this;refine ⟨by simp [Instr.sameNow],fun hb=>?_⟩;rw [eq_of_beq hb]
      ·cases h
    | _=>simp [sameK] at h
  | _=>simp [sameK] at h
 cases k with
 | g x =>
   cases x with
   | string s=>exact hstr rfl
   | int kd n=>exact hint rfl
   | _=>simp [sameK] at h
 | _=>simp [sameK] at h
theorem findA_spec {d:TypeDesc} {k:AV} {kv:Value} (hk:isKeyT (some d) k=true) (hkv:VR w G k kv):∀ {es:List (Nat×AV×AV)} {l:List MapEntry} {i:Nat} {r:Option (Nat×AV)},EntR w G es l→findA k es i=some r →
 (r=none∧Instr.findNow d kv l i=some none)∨∃ j v e,r=some (i+j,v)∧Instr.findNow d kv l i=some (some (i+j,e.val))∧l[j]?=some e∧e.key=kv∧VR w G v e.val∧(es[j]?).map (·.1)=some e.born:=by
 intro es
 induction es with
 | nil =>
   intro l i r he h;rw [EntR] at he;subst he
   cases h
   exact .inl ⟨rfl,rfl⟩
 | cons e es ih =>
   intro l i r he h;obtain ⟨x,xs,rfl,⟨h1,h2,h3⟩,h4⟩:=he;unfold findA at h
   split at h
   ·rename_i hs
    obtain ⟨h5,h6⟩:=sameK_spec hk hkv h2 hs
    cases h
    exact .inr ⟨0,e.2.2,x,rfl,by simp [Instr.findNow,h5],rfl,h6 rfl,h3,by simp [h1]⟩
   ·rename_i hs
    obtain ⟨h5,_⟩:=sameK_spec hk hkv h2 hs;rcases ih h4 h with ⟨h7,h8⟩ | ⟨j,v,e',h7,h8,h9,h10,h11,h12⟩
    ·exact .inl ⟨h7,by simp [Instr.findNow,h5,h8]⟩
    ·exact .inr ⟨j+1,v,e',by rw [h7,show i+1+j=i+(j+1) by omega],by simp only [Instr.findNow,h5,h8];rw [show i+1+j=i+(j+1) by omega],by simpa using h9,h10,h11,by simpa using h12⟩
   ·cases h
theorem entsOf_spec (hm:MR base GT F rd cur nx w G) {x:AV} {v:Value} {es:List (Nat×AV×AV)} (hv:VR w G x v) (h:entsOf (cur::rd) x=some es) :
 (v=.map none∧es=[])∨∃ rb l clk,v=.map (some rb)∧w.heap[rb]?=some (.map l clk)∧EntR w G es l.toList:=by
 unfold entsOf at h
 split at h
 ·split at h
  ·rename_i b es' clk hg
   cases h
   obtain ⟨rb,hmu,rfl⟩:=hv;obtain ⟨rb',ro',e1,_,_,h0,l,hh,hent⟩:=hm.blk _ _ hg;rw [hmu] at e1;cases e1;exact .inr ⟨rb,l,clk,rfl,hh,hent⟩
  ·cases h
 ·cases h
  exact .inl ⟨hv,rfl⟩
 ·cases h
theorem findS_spec {kt:TypeId} {kv:Value}:∀ {es:List (Nat×AV×AV)} {l:List MapEntry} {i:Nat} {r:Option (Nat×AV)},EntR w G es l→findS P kt kv es i=some r →
 (r=none∧(Instr.findAsking kt kv l i).run P w=.ok none w)∨∃ j v e,r=some (i+j,v)∧(Instr.findAsking kt kv l i).run P w=.ok (some (i+j,e.val)) w∧l[j]?=some e∧Instr.sameBits 10000 e.key kv=true∧VR w G v e.val∧(es[j]?).map (·.1)=some e.born:=by
 intro es
 induction es with
 | nil =>
   intro l i r he h;rw [EntR] at he;subst he
   cases h
   exact .inl ⟨rfl,rfl⟩
 | cons e es ih =>
   intro l i r he h;obtain ⟨x,xs,rfl,⟨h1,h2,h3⟩,h4⟩:=he;unfold findS at h
   split at h
   ·rename_i ek hek
    have hxk:x.key=ek:=toG_spec _ hek h2
    split at h
    ·rename_i hp
     split at h
     ·rename_i hs
      cases h
      exact .inr ⟨0,e.2.2,x,rfl,by simp [Instr.findAsking,hxk,pv_run hp w],rfl,by rw [hxk];exact hs,h3,by simp [h1]⟩
     ·cases h
    ·rename_i hp
     rcases ih h4 h with ⟨h7,h8⟩ | ⟨j,v,e',h7,h8,h9,h10,h11,h12⟩
     ·exact .inl ⟨h7,by simp [Instr.findAsking,hxk,pv_run hp w,h8]⟩
     ·exact .inr ⟨j+1,v,e',by rw [h7,show i+1+j=i+(j+1) by omega],by simp [Instr.findAsking,hxk,pv_run hp w,h8];omega,by simpa using h9,h10,h11,by simpa using h12⟩
    ·cases h
   ·cases h
theorem keyFind_spec {kt:TypeId} {k:AV} {kv:Value} (hkv:VR w G k kv) {es:List (Nat×AV×AV)} {l:List MapEntry} {r:Option (Nat×AV)} (he:EntR w G es l) (h:keyFind P kt k es=some r) :
 (∀ e,(Instr.checkKey e 10000 kt kv).run P w=.ok () w)∧((r=none∧(Instr.findKey kt kv l).run P w=.ok none w) ∨
   ∃ j v e,r=some (j,v)∧(Instr.findKey kt kv l).run P w=.ok (some (j,e.val)) w∧l[j]?=some e∧(Instr.keyThatStays e.key kv).run P w=.ok kv w∧VR w G v e.val∧(es[j]?).map (·.1)=some e.born):=by
 unfold keyFind at h
 split at h
 ·rename_i hk
  cases hd:P.underlying kt with
  | none=>rw [hd] at hk;cases hk
  | some d =>
    rw [hd] at hk;obtain ⟨hkey,_⟩:=isKeyT_spec hk hkv;refine ⟨fun e=>run_checkKey hd hkey e 9999,?_⟩;rcases findA_spec hk hkv he h with ⟨h4,h5⟩ | ⟨j,v,e,h4,h5,h6,h7,h8,h9⟩
    ·exact .inl ⟨h4,run_findKey hd h5⟩
    ·rw [Nat.zero_add] at h4 h5
     exact .inr ⟨j,v,e,h4,run_findKey hd h5,h6,by rw [h7];exact run_keyThatStays hkey,h8,h9⟩
 ·split at h
  ·rename_i kv' hg hu'
   obtain rfl:kv=kv':=toG_spec _ hg hkv
   split at h
   ·rename_i u1 u2 hc1 hc2
    refine ⟨fun e=>by cases e;exact pv_run hc1 w;exact pv_run hc2 w,?_⟩;have hfk:(Instr.findKey kt kv l).run P w=(Instr.findAsking kt kv l).run P w:=by
     unfold wideKey at hu'
     split at hu'
     ·rename_i fs hu
      cases l with
      | nil=>simp [Instr.findKey,Q0f hu,Instr.findNow,Instr.findAsking]
      | cons x xs=>simp [Instr.findKey,Q0f hu,Instr.findNow,Instr.sameNow]
     ·rename_i n e hu
      cases l with
      | nil=>simp [Instr.findKey,Q0f hu,Instr.findNow,Instr.findAsking]
      | cons x xs=>simp [Instr.findKey,Q0f hu,Instr.findNow,Instr.sameNow]
     ·cases hu'
    rw [hfk];rcases findS_spec he h with ⟨h4,h5⟩ | ⟨j,v,e,h4,h5,h6,h7,h8,h9⟩
    ·exact .inl ⟨h4,h5⟩
    ·rw [Nat.zero_add] at h4 h5
     exact .inr ⟨j,v,e,h4,h5,h6,by simp [Instr.keyThatStays,h7],h8,h9⟩
   ·cases h
  ·cases h
theorem evLookup_sound (hm:MR base GT F rd cur nx w G) {t:TypeId} {x ix:AV} {ok:Bool} {a:AV} {xv iv:Value} (hx:VR w G x xv) (hi:VR w G ix iv) (h:evLookup P (cur::rd) t x ix ok=some a) :
 ∃ r,(Instr.lookup t xv iv ok).run P w=.ok r w∧VR w G a r:=by
 unfold evLookup at h
 split at h
 ·rename_i kt et hu
  split at h
  ·rename_i es he
   obtain ⟨l,hl,hent⟩:∃ l:Array MapEntry,((xv=.map none∧l=#[])∨∃ rb clk,xv=.map (some rb)∧w.heap[rb]?=some (.map l clk))∧EntR w G es l.toList:=by
    rcases entsOf_spec hm hx he with ⟨h1,rfl⟩ | ⟨rb,l,clk,h1,h2,h3⟩
    ·exact ⟨#[],.inl ⟨h1,rfl⟩,rfl⟩
    ·exact ⟨l,.inr ⟨rb,clk,h1,h2⟩,h3⟩
   have fin:∀ (fr:Option (Nat×Value)) (vv:Value) (b:Bool),(∀ e,(Instr.checkKey e 10000 kt iv).run P w=.ok () w)→(Instr.findKey kt iv l.toList).run P w=.ok fr w→((match fr with | some (_,v)=>pure (v,true) | none=>do pure (←zeroValue et,false):Sem (Value×Bool)).run P w=.ok (vv,b) w) →
    (Instr.lookup t xv iv ok).run P w=.ok (if ok then .tuple #[vv,.bool b] else vv) w:=by
    intro fr vv b hck h1 h2;rcases hl with ⟨rfl,rfl⟩ | ⟨rb,clk,rfl,hb⟩
    ·simp only [Instr.lookup,Sem.run_bind,Q0f hu,Result.andThen_ok,Sem.run_pure,hck,h1]
     cases fr with
     | none =>
       simp only [Sem.run_bind,Sem.run_pure] at h2
       cases hz:(zeroValue et).run P w with
       | ok z w2=>rw [hz] at h2;simp only [Result.andThen_ok,Result.ok.injEq,Prod.mk.injEq] at h2;obtain ⟨⟨rfl,rfl⟩,rfl⟩:=h2;cases ok <;> simp [hz]
       | halt hh w2=>rw [hz] at h2;cases h2
     | some p=>simp only [Sem.run_pure,Result.ok.injEq,Prod.mk.injEq] at h2;obtain ⟨⟨rfl,rfl⟩,_⟩:=h2;cases ok <;> simp
    ·simp only [Instr.lookup,Sem.run_bind,Q0f hu,Result.andThen_ok,MapKept.run_getObj_map hb,Sem.run_pure,hck,h1]
     cases fr with
     | none =>
       simp only [Sem.run_bind,Sem.run_pure] at h2
       cases hz:(zeroValue et).run P w with
       | ok z w2=>rw [hz] at h2;simp only [Result.andThen_ok,Result.ok.injEq,Prod.mk.injEq] at h2;obtain ⟨⟨rfl,rfl⟩,rfl⟩:=h2;cases ok <;> simp [hz]
       | halt hh w2=>rw [hz] at h2;cases h2
     | some p=>simp only [Sem.run_pure,Result.ok.injEq,Prod.mk.injEq] at h2;obtain ⟨⟨rfl,rfl⟩,_⟩:=h2;cases ok <;> simp
   split at h
   ·rename_i j v hf
    cases h
    obtain ⟨hck,hp⟩:=keyFind_spec (P:=P) hi hent hf;rcases hp with ⟨h1,_⟩ | ⟨j',v',e,h1,h2,h3,h4,h5,_⟩
    ·cases h1
    ·cases h1
     refine ⟨_,fin _ e.val true hck h2 rfl,?_⟩
     cases ok
     ·exact h5
     ·exact ⟨_,rfl,VRs.cons_mk h5 (VRs.cons_mk rfl (by rw [VRs]))⟩
   ·rename_i hf
    split at h
    ·rename_i z hz
     cases h
     obtain ⟨hck,hp⟩:=keyFind_spec (P:=P) hi hent hf;rcases hp with ⟨_,h2⟩ | ⟨j',v',e,h1,_⟩
     ·refine ⟨_,fin _ z false hck h2 (by simp [Q3c hz]),?_⟩
      cases ok
      ·exact Q3a z
      ·exact ⟨_,rfl,VRs.cons_mk (Q3a z) (VRs.cons_mk rfl (by rw [VRs]))⟩
     ·cases h1
    ·cases h
   ·cases h
  ·cases h
 ·cases h
end
end Go.Ev
end
