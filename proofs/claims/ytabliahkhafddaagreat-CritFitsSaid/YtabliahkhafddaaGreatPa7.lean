/- The evaluator's operations that turn no memory, all: each does what the program does. -/
import Derived.Test.YtabliahkhafddaaGreatPa6
set_option linter.unusedSimpArgs false
noncomputable section
namespace Go.Ev
open Go.RowKit
section
variable {P:Program} {w:World} {G:Gh} {ev:Operand→AV} {ρ:Operand→Value} {base:Nat} {GT:GTab} {F:Nat→Prop} {rd:List Mem} {cur:Mem} {nx:Nat} {ty:TypeId} {a:AV}
theorem eg_pure {op:BinOp} {t:TypeId} {x' y':Operand} {u v:Value} (h1:∀ l,u≠.agg l) (h2:u≠.nilIface∨v≠.nilIface):eqGuard op t x' y' u v=pure ():=by
 unfold eqGuard
 split
 ·rw [if_neg (by decide)]
  split
  ·rcases h2 with h2 | h2 <;> exact absurd rfl h2
  ·exact absurd rfl (h1 _)
  ·rfl
 ·rw [if_neg (by decide)]
  split
  ·rcases h2 with h2 | h2 <;> exact absurd rfl h2
  ·exact absurd rfl (h1 _)
  ·rfl
 ·rw [if_pos (by decide)]
set_option maxHeartbeats 1000000 in
theorem notNil_sound {t:TypeId} {x y:AV} {vx vy:Value} (hx:VR w G x vx) (hy:VR w G y vy) (h:notNil x y=true) (ht:nilType P t x=true) :
 ((Op.equal t vx vy).run P w=.ok false w∧(Op.equal t vy vx).run P w=.ok false w)∧(∀ op x' y',(eqGuard op t x' y' vx vy).run P w=.ok () w∧(eqGuard op t x' y' vy vx).run P w=.ok () w) ∧
   (∀ op,op=.eql∨op=.neq→(binOp op t vx vy).run P w=.ok (.bool (op==.neq)) w∧(binOp op t vy vx).run P w=.ok (.bool (op==.neq)) w):=by
 have gen:∀ (d:TypeDesc),P.underlying t=some d→(Op.equalIn Op.maxDepth t vx vy).run P w=.ok false w→(Op.equalIn Op.maxDepth t vy vx).run P w=.ok false w →
  (∀ op x' y',(eqGuard op t x' y' vx vy)=pure ()∧(eqGuard op t x' y' vy vx)=pure ()) →
  (∀ op,op=.eql∨op=.neq→binOp op t vx vy=(if op=.eql then (do pure (.bool (←Op.equal t vx vy))) else (do pure (.bool (!(←Op.equal t vx vy)))))∧binOp op t vy vx=(if op=.eql then (do pure (.bool (←Op.equal t vy vx))) else (do pure (.bool (!(←Op.equal t vy vx)))))) →
  ((Op.equal t vx vy).run P w=.ok false w∧(Op.equal t vy vx).run P w=.ok false w)∧(∀ op x' y',(eqGuard op t x' y' vx vy).run P w=.ok () w∧(eqGuard op t x' y' vy vx).run P w=.ok () w) ∧
  (∀ op,op=.eql∨op=.neq→(binOp op t vx vy).run P w=.ok (.bool (op==.neq)) w∧(binOp op t vy vx).run P w=.ok (.bool (op==.neq)) w):=by
  intro d _ h1 h2 h3 h4;refine ⟨⟨h1,h2⟩,fun op x' y'=>by rw [(h3 op x' y').1,(h3 op x' y').2];exact ⟨rfl,rfl⟩,fun op ho=>?_⟩;rw [(h4 op ho).1,(h4 op ho).2];have h1':(Op.equal t vx vy).run P w=.ok false w:=h1;have h2':(Op.equal t vy vx).run P w=.ok false w:=h2;rcases ho with rfl | rfl <;> simp [h1',h2'] <;> rfl
 have eg:∀ (u v:Value),(∀ l,u≠.agg l)→(u≠.nilIface∨v≠.nilIface)→∀ op x' y',eqGuard op t x' y' u v=pure ():=fun u v h1 h2 op x' y'=>eg_pure h1 h2;obtain ⟨d0,hd0⟩:∃ d,Op.maxDepth=d+1:=⟨9999,rfl⟩
 cases x with
 | ptr b o =>
   cases y with
   | g q =>
     cases q <;> simp only [notNil] at h <;> try (cases h)
     rename_i pa
     cases pa <;> simp only at h <;> try (cases h)
     obtain ⟨rb,ro,_,rfl⟩:=hx;obtain rfl:vy=.pointer none:=hy;simp only [nilType] at ht
     split at ht
     ·rename_i e hu
      refine gen _ hu ?_ ?_ (fun op x' y'=>⟨eg _ _ (fun l e=>by cases e) (.inl (by simp)) op x' y',eg _ _ (fun l e=>by cases e) (.inl (by simp)) op x' y'⟩) (fun op ho=>by rcases ho with rfl | rfl <;> exact ⟨rfl,rfl⟩) <;>
       (rw [hd0];simp [Op.equalIn,Q0f hu])
     ·cases ht
   | _=>simp [notNil] at h
 | ept cs o =>
   cases y with
   | g q =>
     cases q <;> simp only [notNil] at h <;> try (cases h)
     rename_i pa
     cases pa <;> simp only at h <;> try (cases h)
     obtain ⟨rb,ro,rfl,_⟩:=hx;obtain rfl:vy=.pointer none:=hy;simp only [nilType] at ht
     split at ht
     ·rename_i e hu
      refine gen _ hu ?_ ?_ (fun op x' y'=>⟨eg _ _ (fun l e=>by cases e) (.inl (by simp)) op x' y',eg _ _ (fun l e=>by cases e) (.inl (by simp)) op x' y'⟩) (fun op ho=>by rcases ho with rfl | rfl <;> exact ⟨rfl,rfl⟩) <;>
       (rw [hd0];simp [Op.equalIn,Q0f hu])
     ·cases ht
   | _=>simp [notNil] at h
 | sl n sz cs =>
   cases n with
   | zero=>simp [notNil] at h
   | succ n =>
   cases y with
   | g q =>
     obtain ⟨ad,cap,rfl,_,hrow⟩:=hx;have hq:q=.slice none 0 0:=by
      unfold notNil at h;split at h <;> simp_all
     subst hq;obtain rfl:vy=.slice none 0 0:=hy;rcases hrow with h0 | ⟨rb,ro,rfl,_⟩
     ·omega
     simp only [nilType] at ht
     split at ht
     ·rename_i e hu
      refine gen _ hu ?_ ?_ (fun op x' y'=>⟨eg _ _ (fun l e=>by cases e) (.inl (by simp)) op x' y',eg _ _ (fun l e=>by cases e) (.inl (by simp)) op x' y'⟩) (fun op ho=>by rcases ho with rfl | rfl <;> exact ⟨rfl,rfl⟩) <;>
       (rw [hd0];simp [Op.equalIn,Q0f hu])
     ·cases ht
   | _=>simp [notNil] at h
 | gs b o n sz k =>
   cases y with
   | g q =>
     have hq:q=.slice none 0 0:=by
      unfold notNil at h;split at h <;> simp_all
     subst hq;obtain ⟨rb,ro,o',cap,c,e,fr,_,rfl,_⟩:=hx;obtain rfl:vy=.slice none 0 0:=hy;simp only [nilType] at ht
     split at ht
     ·rename_i e hu
      refine gen _ hu ?_ ?_ (fun op x' y'=>⟨eg _ _ (fun l e=>by cases e) (.inl (by simp)) op x' y',eg _ _ (fun l e=>by cases e) (.inl (by simp)) op x' y'⟩) (fun op ho=>by rcases ho with rfl | rfl <;> exact ⟨rfl,rfl⟩) <;>
       (rw [hd0];simp [Op.equalIn,Q0f hu])
     ·cases ht
   | _=>simp [notNil] at h
 | fn f xs ys =>
   cases y with
   | g q =>
     have hq:q=.nilFunc:=by
      unfold notNil at h;split at h <;> simp_all
     subst hq;obtain ⟨rx,ry,rfl,_⟩:=hx;obtain rfl:vy=.nilFunc:=hy;simp only [nilType] at ht
     split at ht
     ·rename_i e1 e2 e3 hu
      refine gen _ hu ?_ ?_ (fun op x' y'=>⟨eg _ _ (fun l e=>by cases e) (.inl (by simp)) op x' y',eg _ _ (fun l e=>by cases e) (.inl (by simp)) op x' y'⟩) (fun op ho=>by rcases ho with rfl | rfl <;> exact ⟨rfl,rfl⟩) <;>
       (rw [hd0];simp [Op.equalIn,Q0f hu])
     ·cases ht
   | _=>simp [notNil] at h
 | mp b =>
   cases y with
   | g q =>
     have hq:q=.map none:=by
      unfold notNil at h;split at h <;> simp_all
     subst hq;obtain ⟨rb,_,rfl⟩:=hx;obtain rfl:vy=.map none:=hy;simp only [nilType] at ht
     split at ht
     ·rename_i e1 e2 hu
      refine gen _ hu ?_ ?_ (fun op x' y'=>⟨eg _ _ (fun l e=>by cases e) (.inl (by simp)) op x' y',eg _ _ (fun l e=>by cases e) (.inl (by simp)) op x' y'⟩) (fun op ho=>by rcases ho with rfl | rfl <;> exact ⟨rfl,rfl⟩) <;>
       (rw [hd0];simp [Op.equalIn,Q0f hu])
     ·cases ht
   | _=>simp [notNil] at h
 | ifc tt v =>
   cases y with
   | g q =>
     have hq:q=.nilIface:=by
      unfold notNil at h;split at h <;> simp_all
     subst hq;obtain ⟨z,rfl,_⟩:=hx;obtain rfl:vy=.nilIface:=hy;simp only [nilType] at ht
     split at ht
     ·rename_i e1 hu
      refine gen _ hu ?_ ?_ (fun op x' y'=>⟨eg _ _ (fun l e=>by cases e) (.inl (by simp)) op x' y',eg _ _ (fun l e=>by cases e) (.inr (by simp)) op x' y'⟩) (fun op ho=>by rcases ho with rfl | rfl <;> exact ⟨rfl,rfl⟩) <;>
       (rw [hd0];simp [Op.equalIn,Q0f hu])
     ·cases ht
   | _=>simp [notNil] at h
 | _=>simp [notNil] at h
theorem VRs.of_map (H:∀ x,VR w G (ev x) (ρ x)) (l:Array Operand):VRs w G (l.toList.map ev) (l.map ρ).toList:=by
 rw [Array.toList_map];generalize l.toList=l
 induction l with
 | nil=>rw [List.map_nil,List.map_nil,VRs]
 | cons x l ih=>exact VRs.cons_mk (H x) ih
theorem lenA_sound (hm:MR base GT F rd cur nx w G) {t:TypeId} {x:AV} {v:Value} {n:Nat} (hx:VR w G x v) (h:lenA (cur::rd) x=some n) (hc:isColl P t x=true) (y:Array TypeId) (z:TypeId) (hy:y[0]?=some t) :
 (Builtin.len_ y z #[v]).run P w=.ok (.int .i64 n) w:=by
 have hs:(∀ b,x≠.mp b)→∃ e,P.underlying t=some (.slice e):=by
  intro hb;unfold isColl at hc
  split at hc
  ·rename_i b;exact absurd rfl (hb b)
  ·split at hc
   ·rename_i e hu;exact ⟨e,hu⟩
   ·cases hc
 cases x with
 | sl m sz cs =>
   obtain ⟨e,hu⟩:=hs fun b e=>by cases e
   simp only [lenA,Option.some.injEq] at h;subst h;obtain ⟨ad,cap,rfl,_⟩:=hx;simp [Builtin.len_,hy,Q0f hu,goInt]
 | gs b o m sz k =>
   obtain ⟨e,hu⟩:=hs fun b e=>by cases e
   simp only [lenA,Option.some.injEq] at h;subst h;obtain ⟨rb,ro,o',cap,c,e',fr,_,rfl,_⟩:=hx;simp [Builtin.len_,hy,Q0f hu,goInt]
 | z0 =>
   obtain ⟨e,hu⟩:=hs fun b e=>by cases e
   simp only [lenA,Option.some.injEq] at h;subst h;obtain ⟨ad,rfl⟩:=hx;simp [Builtin.len_,hy,Q0f hu,goInt]
 | mp b =>
   simp only [isColl] at hc
   split at hc
   ·rename_i k e hu
    simp only [lenA] at h
    split at h
    ·rename_i es cl hg
     cases h
     obtain ⟨rb,hmu,rfl⟩:=hx;obtain ⟨rb',ro',e1,_,_,h0,l,hh,hent⟩:=hm.blk _ _ hg;rw [hmu] at e1;cases e1;have hlen:l.size=es.length:=by
      have:∀ {es:List (Nat×AV×AV)} {l:List MapEntry},EntR w G es l→l.length=es.length:=by
       intro es
       induction es with
       | nil=>intro l hl;simp [EntR] at hl;simp [hl]
       | cons e es ih=>rintro _ ⟨x,xs,rfl,_,h3⟩;simp [ih h3]
      have:=this hent;simpa using this
     have hgo:(getObj rb).run P w=.ok (.map l cl) w:=by simp [getObj,Sem.run,hh]
     simp [Builtin.len_,hy,Q0f hu,goInt,hgo,hlen]
    ·cases h
   ·cases hc
 | _=>simp [lenA] at h
theorem evBuiltin_sound (hm:MR base GT F rd cur nx w G) (H:∀ x,VR w G (ev x) (ρ x)) {c:Call} (h:evBuiltin P (cur::rd) ev c ty=some a):PureS P w G (execOp ρ (mkO (.call c) ty)) a:=by
 obtain ⟨cal,args,ats⟩:=c;unfold evBuiltin at h
 split at h
 ·rename_i x t e1 e2 e3
  simp only at e1 e2 e3;subst e1;obtain rfl:args=#[x]:=by rw [←Array.toList_inj];exact e2
  obtain rfl:ats=#[t]:=by rw [←Array.toList_inj];exact e3
  split at h
  ·rename_i n hn
   split at h
   ·rename_i hc
    cases h
    have:=lenA_sound (P:=P) hm (H x) hn hc #[t] ty rfl;exact ⟨_,by simp [execOp,mkO,resolve,invoke,builtin,this],rfl⟩
   ·cases h
  ·exact Q0n H h
 ·rename_i x t e1 e2 e3
  simp only at e1 e2 e3;subst e1;obtain rfl:args=#[x]:=by rw [←Array.toList_inj];exact e2
  obtain rfl:ats=#[t]:=by rw [←Array.toList_inj];exact e3
  split at h
  ·rename_i e hx hu
   cases h
   have h1:=H x;rw [hx] at h1;obtain ⟨ad,h2⟩:=h1;exact ⟨.int .i64 0,by simp [execOp,mkO,resolve,invoke,builtin,Builtin.cap_,Q0f hu,h2,goInt],rfl⟩
  ·exact Q0n H h
 ·exact Q0n H h
 ·cases h
theorem evBin_sound (H:∀ x,VR w G (ev x) (ρ x)) {op:BinOp} {t:TypeId} {x y:Operand} {yt:TypeId} (h:evBin P ev op t x y yt ty=some a):PureS P w G (execOp ρ (mkO (.binOp op t x y yt) ty)) a:=by
 have key:∀ op,op=.eql∨op=.neq→((notNil (ev x) (ev y)&&nilType P t (ev x))||(notNil (ev y) (ev x)&&nilType P t (ev y)))=true →
  (do eqGuard op t x y (ρ x) (ρ y);binOp op t (ρ x) (ρ y):Sem Value).run P w=.ok (.bool (op==.neq)) w:=by
  intro op ho hc;simp only [Bool.or_eq_true,Bool.and_eq_true] at hc;rcases hc with hc | hc
  ·obtain ⟨_,h2,h3⟩:=notNil_sound (P:=P) (H x) (H y) hc.1 hc.2
   simp [(h2 op x y).1,(h3 op ho).1]
  ·obtain ⟨_,h2,h3⟩:=notNil_sound (P:=P) (H y) (H x) hc.1 hc.2
   simp [(h2 op x y).2,(h3 op ho).2]
 unfold evBin at h
 split at h
 ·split at h
  ·rename_i hc
   cases h
   exact Q0s (r:=.bool false) (key .eql (.inl rfl) hc) rfl
  ·exact Q0n H h
 ·split at h
  ·rename_i hc
   cases h
   exact Q0s (r:=.bool true) (key .neq (.inr rfl) hc) rfl
  ·exact Q0n H h
 ·exact Q0n H h
set_option maxHeartbeats 1000000 in
theorem evPure_sound (hm:MR base GT F rd cur nx w G) (H:∀ x,VR w G (ev x) (ρ x)) {op:Op} (h:evPure P (cur::rd) ev op ty=some a):PureS P w G (execOp ρ (mkO op ty)) a:=by
 unfold evPure at h
 split at h
 ·rename_i x;cases h;exact ⟨_,rfl,H x⟩
 ·rename_i x;cases h;exact ⟨_,rfl,H x⟩
 ·rename_i c x y
  split at h
  ·rename_i t hc
   cases h
   have h1:ρ c=.bool t:=by have:=H c;rw [hc] at this;exact this
   refine ⟨if t then ρ x else ρ y,by simp [execOp,mkO,h1,asBool],?_⟩
   cases t
   ·exact H y
   ·exact H x
  ·cases h
 ·rename_i t x
  split at h
  ·rename_i cs o hr
   obtain ⟨rb,ro,h1,h2⟩:=rowAt_spec hm hr (H x);obtain ⟨r,h3,h4⟩:=run_partA (P:=P) h2 h;exact Q0s (r:=r) (by simp [Instr.loadAt,h1,Instr.sureAddr,h3]) h4
  ·cases h
 ·rename_i x
  split at h
  ·rename_i b o hx
   cases h
   have h1:=H x;rw [hx] at h1;obtain ⟨rb,ro,h2,h3⟩:=h1;exact ⟨_,by simp [execOp,mkO,h3],rb,ro,h2,rfl⟩
  ·rename_i cs o hx
   cases h
   have h1:=H x;rw [hx] at h1;obtain ⟨rb,ro,h2,h3⟩:=h1;exact ⟨_,by simp [execOp,mkO,h2],rb,ro,rfl,h3⟩
  ·rename_i b hx
   cases h
   have h1:=H x;rw [hx] at h1;obtain ⟨rb,h2,h3⟩:=h1;exact ⟨_,by simp [execOp,mkO,h3],rb,h2,rfl⟩
  ·rename_i f p q hx
   cases h
   have h1:=H x;rw [hx] at h1;obtain ⟨rx,ry,h2,h3⟩:=h1;exact ⟨_,by simp [execOp,mkO,h2],rx,ry,rfl,h3⟩
  ·exact Q0n H h
 ·rename_i t x
  split at h
  ·cases h
  ·rename_i d hd hu
   cases h
   refine ⟨.iface t (ρ x),?_,ρ x,rfl,H x⟩;simp only [execOp,mkO,Instr.makeInterface,Sem.run_bind,Q0f hu,Result.andThen_ok]
   cases d <;> first | rfl | (exact absurd rfl (hd _))
  ·cases h
 ·rename_i f p q
  cases h
  exact ⟨_,by simp [execOp,mkO,Instr.makeFunc],_,_,rfl,VRs.of_map H p,VRs.of_map H q⟩
 ·rename_i t x lo hi mx
  split at h
  ·exact Q0n H h
  ·rename_i hng
   exact evSlice_sound hm H h
 ·rename_i s x f
  split at h
  ·rename_i fs hu
   split at h
   ·rename_i fd hf
    split at h
    ·rename_i i hi
     split at h
     ·cases h
     ·rename_i hsz
      have hfp:∀ (rb o:Nat),(fieldPlace ⟨rb,o,none⟩ fd).run P w=.ok ⟨rb,o+fd.offset,none⟩ w:=fun rb o=>by
       simp [fieldPlace,Q0x hi,hsz,add_lit]
      split at h
      ·rename_i b o hx
       cases h
       have h1:=H x;rw [hx] at h1;obtain ⟨rb,ro,h2,h3⟩:=h1;exact Q0s (r:=.pointer (some ⟨rb,ro+o+fd.offset,none⟩)) (by simp [Instr.fieldAt,Q0f hu,hf,h3,Instr.sureAddr,hfp]) ⟨rb,ro,h2,by rw [Nat.add_assoc]⟩
      ·rename_i cs o hx
       cases h
       have h1:=H x;rw [hx] at h1;obtain ⟨rb,ro,h2,h3⟩:=h1;exact Q0s (r:=.pointer (some ⟨rb,ro+o+fd.offset,none⟩)) (by simp [Instr.fieldAt,Q0f hu,hf,h2,Instr.sureAddr,hfp]) ⟨rb,ro,by rw [Nat.add_assoc],h3⟩
      ·cases h
    ·cases h
   ·cases h
  ·cases h
 ·rename_i t x f
  split at h
  ·rename_i fs cs hu hx
   split at h
   ·rename_i fd hf
    have h1:=H x;rw [hx] at h1;obtain ⟨rc,h2,h3⟩:=h1;obtain ⟨r,h4,h5⟩:=partA_agg (P:=P) h3 h;exact Q0s (r:=r) (by simp [Instr.field,Q0f hu,hf,h2,asAgg,h4]) h5
   ·cases h
  ·cases h
 ·rename_i t x i
  split at h
  ·rename_i kk n e hii hu
   have hi1:ρ i=.int kk n:=by have:=H i;rw [hii] at this;exact this
   split at h
   ·rename_i inf m sz cs hinf hx
    split at h
    ·rename_i hc
     cases h
     have h1:=H x;rw [hx] at h1;obtain ⟨ad,cap,h2,_,h3⟩:=h1;rcases h3 with h3 | ⟨rb,ro,rfl,h3⟩
     ·omega
     ·exact Q0s (r:=.pointer (some ⟨rb,ro+n.toNat*sz,none⟩)) (by simp [Instr.indexAt,Q0f hu,hi1,asIntOf,h2,hc.1,hc.2.1,Q0x hinf,add_lit,hc.2.2]) ⟨rb,ro,rfl,h3⟩
    ·cases h
   ·rename_i inf b o m sz k hinf hx
    split at h
    ·rename_i hc
     cases h
     have h1:=H x;rw [hx] at h1;obtain ⟨rb,ro,o',cap,c,ee,fr,h2,h3,h4,h5,h6,h7⟩:=h1;have ho:o'=ro+o:=h4.resolve_right (by omega);exact Q0s (r:=.pointer (some ⟨rb,o'+n.toNat*sz,none⟩)) (by simp [Instr.indexAt,Q0f hu,hi1,asIntOf,h3,hc.1,hc.2.1,Q0x hinf,add_lit,hc.2.2]) ⟨rb,ro,h2,by rw [ho,Nat.add_assoc]⟩
    ·cases h
   ·cases h
  ·rename_i kk n len e hii hu
   have hi1:ρ i=.int kk n:=by have:=H i;rw [hii] at this;exact this
   split at h
   ·rename_i inf b o hinf hx
    split at h
    ·rename_i hc
     cases h
     have h1:=H x;rw [hx] at h1;obtain ⟨rb,ro,h2,h3⟩:=h1;exact Q0s (r:=.pointer (some ⟨rb,ro+o+n.toNat*inf.size,none⟩)) (by simp [Instr.indexAt,Q0f hu,hi1,asIntOf,h3,Instr.sureAddr,hc.1,hc.2,Q0x hinf,add_lit]) ⟨rb,ro,h2,by rw [Nat.add_assoc]⟩
    ·cases h
   ·rename_i inf cs o hinf hx
    split at h
    ·rename_i hc
     cases h
     have h1:=H x;rw [hx] at h1;obtain ⟨rb,ro,h2,h3⟩:=h1;exact Q0s (r:=.pointer (some ⟨rb,ro+o+n.toNat*inf.size,none⟩)) (by simp [Instr.indexAt,Q0f hu,hi1,asIntOf,h2,Instr.sureAddr,hc.1,hc.2,Q0x hinf,add_lit]) ⟨rb,ro,by rw [Nat.add_assoc],h3⟩
    ·cases h
   ·cases h
  ·cases h
 ·rename_i t x i
  split at h
  ·rename_i cs kk n len e hx hii hu
   have hi1:ρ i=.int kk n:=by have:=H i;rw [hii] at this;exact this
   split at h
   ·rename_i inf hinf
    split at h
    ·rename_i hc
     have h1:=H x;rw [hx] at h1;obtain ⟨rc,h2,h3⟩:=h1;obtain ⟨r,h4,h5⟩:=partA_agg (P:=P) h3 h;exact Q0s (r:=r) (by simp [Instr.index,Q0f hu,hi1,asIntOf,h2,hc.1,hc.2,Q0x hinf,h4]) h5
    ·cases h
   ·cases h
  ·exact Q0n H h
 ·rename_i x i
  split at h
  ·rename_i vs hx
   have h1:=H x;rw [hx] at h1;obtain ⟨rc,h2,h3⟩:=h1;obtain ⟨v,h4,h5⟩:=h3.get h;have h6:rc[i]?=some v:=by rw [←h4];simp
   exact Q0s (r:=v) (by simp [Instr.extract,h2,h6]) h5
  ·cases h
 ·rename_i x xt at_ ok
  split at h
  ·cases h
  ·rename_i t v d hnd hx hu
   have h1:=H x;rw [hx] at h1;obtain ⟨z,h2,h3⟩:=h1
   by_cases ht:t=at_
   ·rw [if_pos ht] at h
    cases ok
    ·simp only [Bool.false_eq_true,if_false,Option.some.injEq] at h
     subst h;refine Q0s (r:=z) ?_ h3;simp only [Instr.typeAssert,Sem.run_bind,Q0f hu,Result.andThen_ok,h2]
     cases d <;> first | (exact absurd rfl (hnd _)) | simp [ht]
    ·simp only [if_true,Option.some.injEq] at h
     subst h;refine Q0s (r:=.tuple #[z,.bool true]) ?_ ⟨_,rfl,VRs.cons_mk h3 (VRs.cons_mk rfl (by rw [VRs]))⟩;simp only [Instr.typeAssert,Sem.run_bind,Q0f hu,Result.andThen_ok,h2]
     cases d <;> first | (exact absurd rfl (hnd _)) | simp [ht]
   ·rw [if_neg ht] at h
    cases ok
    ·simp at h
    ·simp only [if_true] at h
     split at h
     ·rename_i zz hz
      cases h
      refine Q0s (r:=.tuple #[zz,.bool false]) ?_ ⟨_,rfl,VRs.cons_mk (Q3a zz) (VRs.cons_mk rfl (by rw [VRs]))⟩;simp only [Instr.typeAssert,Sem.run_bind,Q0f hu,Result.andThen_ok,h2]
      cases d <;> first | (exact absurd rfl (hnd _)) | simp [ht,Q3c hz]
     ·cases h
  ·exact Q0n H h
 ·rename_i t x ix ok
  obtain ⟨r,h1,h2⟩:=evLookup_sound (P:=P) hm (H x) (H ix) h;exact Q0s (r:=r) h1 h2
 ·exact evBuiltin_sound hm H h
 ·rename_i src dst x
  split at h
  ·rename_i e hs hd
   obtain ⟨h1,⟨ad,n,c,hv⟩,r,h2,h3⟩:=evStrOf_sound hm (H x) h;refine Q0s (r:=r) ?_ h3;have hu8:P.underlying e=some (.int .u8):=by
    unfold isU8 at h1
    split at h1
    ·assumption
    ·cases h1
   simp only [convert,Sem.run_bind,Q0f hs,Q0f hd,Result.andThen_ok];rw [hv] at h2 ⊢;simp only [Sem.run_bind,Q0f hu8,Result.andThen_ok,h2]
  ·exact Q0n H h
 ·exact evBin_sound H h
 ·exact Q0n H h
end
end Go.Ev
end
