/- The evaluator at code. -/
import Derived.Test.YtabliahkhafddaaGreatPb7
import Derived.LoopN
import Derived.Scope
set_option linter.unusedSimpArgs false
noncomputable section
namespace Go.Ev
open Go.RowKit
noncomputable def evReg (P:Program) (GT:GTab) (ch:CH) (rd:List Mem) (ops:Array Oper) (draw:Bool) (s:St):Option (AX×St) :=
 match draw with
 | true=>match evDraw P GT ch rd ops (befs ops.toList []) ops.toList 0 [] s with
   | some (_,s')=>some (.nrm,s')
   | none=>none
 | false=>evOpsL P GT ch rd ops ops.toList s
noncomputable def evLoop (body:St→Option (AX×St)) (n:Nat):St→Option (AX×St) :=
 Nat.rec (fun _=>none) (fun _ ih s=>match body s with
  | some (.nrm,s')=>ih s'
  | r=>r) n
noncomputable def evC (P:Program) (GT:GTab) (ch:CH) (rd:List Mem) (K:Nat) (c:Code):St→Option (AX×St) :=
 Code.rec (fun s=>some (.nrm,s)) (fun _ ops draw s=>evReg P GT ch rd ops draw s)
  (fun _ _ ia ib s=>match ia s with
    | some (.nrm,s')=>ib s'
    | r=>r)
  (fun c _ _ ix iy s=>match evO GT s.tm c with
    | .g (.bool true)=>ix s
    | .g (.bool false)=>iy s
    | _=>none)
  (fun id _ ib s=>match ib s with
    | some (.exit i,s')=>if i=id then some (.nrm,s') else some (.exit i,s')
    | r=>r)
  (fun _ ib s=>evLoop ib K s)
  (fun _ _ _ _ _ _ _=>none)
  (fun id s=>some (.exit id,s))
  (fun _ ib s=>match ib s with
    | some (.gto _,_)=>none
    | r=>r)
  (fun _ s=>some (.nrm,s)) (fun _ _=>none) (fun s=>some (.ret,s)) (fun _ _=>none) c
def codeOk:Code→Bool
 | .region _ ops draw=>!draw||statOk ops
 | .seq a b=>codeOk a&&codeOk b
 | .cond _ x y=>codeOk x&&codeOk y
 | .block _ b=>codeOk b
 | .loop b=>codeOk b
 | .scope b=>codeOk b
 | _=>true
structure Tr (P:Program) (GT:GTab) (rd:List Mem) (c:Code) (s:St) (x:AX) (s':St):Prop where
 nx:s.nx≤s'.nx
 wp:∀ (base:Nat) (F:Nat→Prop) (D:List Deferred) (w:World) (G:Gh) (a:Act),MR base GT F rd s.cur s.nx w G→TmR w G s.tm a.tmps→a.defers=D→(∀ b,s.nx≤b→b<s'.nx→F b) →
  c.wp P (fun e a' w'=>Aft base GT F rd D s w G x s' e a' w') a w
structure LoopTr (P:Program) (GT:GTab) (rd:List Mem) (c:Code) (n:Nat) (s:St) (x:AX) (s':St):Prop where
 nx:s.nx≤s'.nx
 wp:∀ (base:Nat) (F:Nat→Prop) (D:List Deferred) (w:World) (G:Gh) (a:Act),MR base GT F rd s.cur s.nx w G→TmR w G s.tm a.tmps→a.defers=D→(∀ b,s.nx≤b→b<s'.nx→F b) →
  c.rounds P (fun e a' w'=>Aft base GT F rd D s w G x s' e a' w') n a w
section
variable {P:Program} {GT:GTab} {ch:CH} {rd:List Mem} {s s1 s':St} {x:AX}
theorem Tr.of_stay {c:Code} (h:∀ (Q:Exit→Act→World→Prop) (e:Exit) (a:Act) (w:World),(∀ G,XR w G x e)→Q e a w→c.wp P Q a w) (hx:∃ e,∀ w G,XR w G x e):Tr P GT rd c s x s:=by
 obtain ⟨e,he⟩:=hx;exact ⟨Nat.le_refl _,fun base F D w G a hm ht hd _=>h _ e a w (fun G=>he w G) ⟨G,he w G,.refl hm,fun _=>ht,hd⟩⟩
theorem Tr.skip:Tr P GT rd .skip s .nrm s:=.of_stay (fun Q e a w he hq=>by obtain rfl:e=.normal:=he ⟨fun _=>none,fun _=>False⟩;exact wp_skip hq) ⟨.normal,fun _ _=>rfl⟩
theorem Tr.label {l:Nat}:Tr P GT rd (.label l) s .nrm s:=.of_stay (fun Q e a w he hq=>by obtain rfl:e=.normal:=he ⟨fun _=>none,fun _=>False⟩;exact wp_label hq) ⟨.normal,fun _ _=>rfl⟩
theorem Tr.exit {id:Nat}:Tr P GT rd (.exit id) s (.exit id) s:=.of_stay (fun Q e a w he hq=>by obtain rfl:e=.exit id:=he ⟨fun _=>none,fun _=>False⟩;exact wp_exit hq) ⟨.exit id,fun _ _=>rfl⟩
theorem Tr.ret:Tr P GT rd .ret s .ret s:=.of_stay (fun Q e a w he hq=>by obtain rfl:e=.ret:=he ⟨fun _=>none,fun _=>False⟩;exact wp_ret hq) ⟨.ret,fun _ _=>rfl⟩
theorem evOpsL_range {ops:Array Oper} {r:AX×St} (h:evOpsL P GT ch rd ops ops.toList s=some r):evOps P GT ch rd ops (List.range ops.size) s=some r:=by
 have:=evOpsL_ops ops.toList 0 s (by simp) h
 rwa [←List.range_eq_range',Array.length_toList] at this
theorem Tr.region {id:Nat} {ops:Array Oper} (hch:ChOk P GT ch) (h:evOps P GT ch rd ops (List.range ops.size) s=some (x,s')):Tr P GT rd (.region id ops false) s x s' :=
 ⟨evOps_nx hch h,fun _ _ _ _ _ _ hm ht hd hF=>wp_region (evOps_sound hch h hm ht hd hF)⟩
theorem evDraw_nx (hch:ChOk P GT ch) {ops:Array Oper} {B:List Nat}:∀ {os:List Oper} {j:Nat} {recs recs':List Rec} {s s':St},evDraw P GT ch rd ops B os j recs s=some (recs',s')→s.nx≤s'.nx:=by
 intro os
 induction os with
 | nil=>intro j recs recs' s s' h;simp only [evDraw,Option.some.injEq,Prod.mk.injEq] at h;rw [h.2];exact Nat.le_refl _
 | cons o os ih =>
   intro j recs recs' s s' h;simp only [evDraw] at h
   split at h
   ·cases h
   ·rename_i r hr
    have h1:=ih h;have h2:=recOf_nx hch hr;simp only [stepSt] at h1;omega
theorem Tr.regionDraw {id:Nat} {ops:Array Oper} {recs:List Rec} (hch:ChOk P GT ch) (hmix:P.follows .mixedOrders=true) (hst:statOk ops=true) (h:evDraw P GT ch rd ops (befs ops.toList []) ops.toList 0 [] s=some (recs,s')) :
 Tr P GT rd (.region id ops true) s .nrm s':=by
 refine ⟨evDraw_nx hch h,fun base F D w G a hm ht hd hF=>wp_region_any hmix ?_⟩;have hs:Stp base GT F rd s.cur s.nx w G s.cur s.nx { w with drawn:=w.drawn+1 } G:=Stp.world hm rfl rfl rfl (Nat.le_refl _) fun _ _=>rfl;have:=evDraw_sound (a0:=a) (w0:={ w with drawn:=w.drawn+1 }) hch hst h hs.mr (TmR.mono hs.ext ht) hd hF;have hmono:∀ (fuel:Nat) (listed:Array Bool) (a1:Act) (w1:World) {Q Q':Exit→Act→World→Prop},(∀ e a w,Q e a w→Q' e a w)→wpAny P .any ops Q fuel listed a1 w1→wpAny P .any ops Q' fuel listed a1 w1:=by
  intro fuel
  induction fuel with
  | zero=>intro listed a1 w1 Q Q' hq h;exact ⟨h.1,hq _ _ _ h.2⟩
  | succ fuel ih =>
    intro listed a1 w1 Q Q' hq h;refine ⟨fun hr=>hq _ _ _ (h.1 hr),fun i hi=>?_⟩;have h1:=h.2 i hi;unfold wpOp at h1 ⊢
    split
    ·rename_i ho;rw [ho] at h1;exact ih _ _ _ hq h1
    ·rename_i o ho
     rw [ho] at h1;simp only at h1
     split
     ·rename_i hw
      rw [if_pos hw] at h1;rcases h1 with h1 | ⟨h2,a3,w3,h3⟩
      ·refine .inl ?_
       unfold Oper.wp at *;generalize (execOp a1.eval o).run P w1=rr at *
       cases rr with
       | ok nn w2 =>
         cases nn <;> simp only [Oper.upon] at h1 ⊢ <;> first
          | exact ih _ _ _ hq h1
          | exact h1
          | (refine Calls.mono h1 fun e w3 he=>?_
             cases e with
             | returned v=>exact ih _ _ _ hq he
             | panicked c=>exact hq _ _ _ he
             | outgrown=>obtain ⟨a3,w4,h9⟩:=he;exact ⟨a3,w4,hq _ _ _ h9⟩)
          | exact Rows.mono h1 fun v w3 hv=>ih _ _ _ hq hv
       | halt hh w2=>cases hh <;> simp only [Oper.upon] at h1 ⊢ <;> first | exact hq _ _ _ h1 | exact h1
      ·exact .inr ⟨h2,a3,w3,hq _ _ _ h3⟩
     ·rename_i hw
      rw [if_neg hw] at h1;exact ih _ _ _ hq h1
 exact hmono _ _ _ _ (fun e a2 w2 h2=>Aft.trans hs h2) this
theorem xr_nrm {w:World} {G:Gh} {e:Exit} (h:XR w G .nrm e):e=.normal:=h
theorem xr_not {w:World} {G:Gh} {e:Exit} (h:XR w G x e) (hx:x≠.nrm):e≠.normal:=by
 rintro rfl
 cases x with
 | nrm=>exact hx rfl
 | pan a=>obtain ⟨v,h1,_⟩:=h;cases h1
 | _=>cases h
theorem Tr.seq {a b:Code} (h:Tr P GT rd a s .nrm s1) (k:Tr P GT rd b s1 x s'):Tr P GT rd (.seq a b) s x s':=by
 refine ⟨Nat.le_trans h.nx k.nx,fun base F D w G a hm ht hd hF=>wp_seq (wp_mono (h.wp base F D w G a hm ht hd fun b h1 h2=>hF b h1 (Nat.lt_of_lt_of_le h2 k.nx)) fun e a1 w1 h1=>?_)⟩;obtain ⟨G1,he,hs,ht1,hd1⟩:=h1;obtain rfl:=xr_nrm he;exact wp_mono (k.wp base F D w1 G1 a1 hs.mr (ht1 fun v e=>by cases e) hd1 fun b h1 h2=>hF b (Nat.le_trans h.nx h1) h2) fun e2 a2 w2 h2=>Aft.trans hs h2
theorem Tr.seq_stop {a b:Code} (h:Tr P GT rd a s x s') (hx:x≠.nrm):Tr P GT rd (.seq a b) s x s':=by
 refine ⟨h.nx,fun base F D w G a hm ht hd hF=>wp_seq (wp_mono (h.wp base F D w G a hm ht hd hF) fun e a1 w1 h1=>?_)⟩;obtain ⟨G1,he,hs,ht1,hd1⟩:=h1;have hne:=xr_not he hx
 cases e <;> first | exact absurd rfl hne | exact ⟨G1,he,hs,ht1,hd1⟩
theorem Tr.cond {c:Operand} {p q:Code} {t:Bool} (hc:evO GT s.tm c=.g (.bool t)) (h:Tr P GT rd (if t then p else q) s x s'):Tr P GT rd (.cond c p q) s x s':=by
 refine ⟨h.nx,fun base F D w G a hm ht hd hF=>wp_cond (t:=t) ?_ (h.wp base F D w G a hm ht hd hF)⟩;have:=Q2y (GT:=GT) hm ht c;rw [hc] at this;exact this
theorem Tr.block {id:Nat} {b:Code} (h:Tr P GT rd b s x s') (hx:x≠.exit id):Tr P GT rd (.block id b) s x s':=by
 refine ⟨h.nx,fun base F D w G a hm ht hd hF=>wp_block (wp_mono (h.wp base F D w G a hm ht hd hF) fun e a1 w1 h1=>?_)⟩;obtain ⟨G1,he,hs,ht1,hd1⟩:=h1
 cases e with
 | exit i =>
   have:x=.exit i:=by
    cases x with
    | exit j=>cases he;rfl
    | pan v=>obtain ⟨u,h1,_⟩:=he;cases h1
    | _=>cases he
   subst this;show (if i=id then _ else _);rw [if_neg (fun e=>hx (by rw [e]))];exact ⟨G1,he,hs,ht1,hd1⟩
 | _=>exact ⟨G1,he,hs,ht1,hd1⟩
theorem Tr.block_exit {id:Nat} {b:Code} (h:Tr P GT rd b s (.exit id) s'):Tr P GT rd (.block id b) s .nrm s':=by
 refine ⟨h.nx,fun base F D w G a hm ht hd hF=>wp_block (wp_mono (h.wp base F D w G a hm ht hd hF) fun e a1 w1 h1=>?_)⟩;obtain ⟨G1,he,hs,ht1,hd1⟩:=h1;obtain rfl:e=.exit id:=he;show (if id=id then _ else _);rw [if_pos rfl];exact ⟨G1,rfl,hs,fun _=>ht1 (fun v e=>(by cases e)),hd1⟩
theorem Tr.scope {b:Code} (h:Tr P GT rd b s x s') (hx:∀ l,x≠.gto l):Tr P GT rd (.scope b) s x s':=by
 refine ⟨h.nx,fun base F D w G a hm ht hd hF=>wp_scope_straight (wp_mono (h.wp base F D w G a hm ht hd hF) fun e a1 w1 h1=>?_)⟩;obtain ⟨G1,he,hs,ht1,hd1⟩:=h1
 cases e with
 | goto l =>
   exfalso
   cases x with
   | gto j=>exact hx j rfl
   | pan v=>obtain ⟨u,h1,_⟩:=he;cases h1
   | _=>cases he
 | _=>exact ⟨G1,he,hs,ht1,hd1⟩
theorem LoopTr.last {c:Code} (h:Tr P GT rd c s x s') (hx:x≠.nrm):LoopTr P GT rd c 1 s x s':=by
 refine ⟨h.nx,fun base F D w G a hm ht hd hF=>?_⟩;rw [rounds_succ];refine wp_mono (h.wp base F D w G a hm ht hd hF) fun e a1 w1 h1=>?_;obtain ⟨G1,he,hs,ht1,hd1⟩:=h1;have hne:=xr_not he hx
 cases e <;> first | exact absurd rfl hne | exact ⟨G1,he,hs,ht1,hd1⟩
theorem rounds_mono {c:Code} {Q Q':Exit→Act→World→Prop} (hq:∀ e a w,Q e a w→Q' e a w):∀ {n:Nat} {a:Act} {w:World},c.rounds P Q n a w→c.rounds P Q' n a w:=by
 intro n
 induction n with
 | zero=>intro a w h;exact h
 | succ n ih =>
   intro a w h;rw [rounds_succ] at h ⊢;exact wp_mono h fun e a1 w1 h1=>by cases e <;> first | exact ih h1 | exact hq _ _ _ h1
theorem LoopTr.more {c:Code} {n:Nat} (h:Tr P GT rd c s .nrm s1) (k:LoopTr P GT rd c n s1 x s'):LoopTr P GT rd c (n+1) s x s':=by
 refine ⟨Nat.le_trans h.nx k.nx,fun base F D w G a hm ht hd hF=>?_⟩;rw [rounds_succ];refine wp_mono (h.wp base F D w G a hm ht hd fun b h1 h2=>hF b h1 (Nat.lt_of_lt_of_le h2 k.nx)) fun e a1 w1 h1=>?_;obtain ⟨G1,he,hs,ht1,hd1⟩:=h1;obtain rfl:=xr_nrm he;exact rounds_mono (fun e2 a2 w2 h2=>Aft.trans hs h2) (k.wp base F D w1 G1 a1 hs.mr (ht1 fun v e=>by cases e) hd1 fun b h1 h2=>hF b (Nat.le_trans h.nx h1) h2)
theorem Tr.loop {c:Code} {n:Nat} (h:LoopTr P GT rd c n s x s'):Tr P GT rd (.loop c) s x s' :=
 ⟨h.nx,fun base F D w G a hm ht hd hF=>wp_loop_rounds n (h.wp base F D w G a hm ht hd hF)⟩
theorem evLoop_sound {c:Code} {body:St→Option (AX×St)} (hb:∀ {s x s'},body s=some (x,s')→Tr P GT rd c s x s'):∀ {m:Nat} {s:St} {x:AX} {s':St},evLoop body m s=some (x,s')→∃ n,LoopTr P GT rd c n s x s':=by
 intro m
 induction m with
 | zero=>intro s x s' h;cases h
 | succ m ih =>
   intro s x s' h;change (match body s with | some (.nrm,s')=>evLoop body m s' | r=>r)=some (x,s') at h
   split at h
   ·rename_i s1 h1
    obtain ⟨n,hn⟩:=ih h;exact ⟨n+1,.more (hb h1) hn⟩
   ·rename_i r hne
    refine ⟨1,.last (hb h) fun e=>?_⟩;subst e;exact hne s' h
theorem evC_sound (hch:ChOk P GT ch) (hmix:P.follows .mixedOrders=true) {K:Nat}:∀ {c:Code} {s:St} {x:AX} {s':St},codeOk c=true→evC P GT ch rd K c s=some (x,s')→Tr P GT rd c s x s':=by
 intro c
 induction c with
 | skip=>intro s x s' _ h;cases h;exact .skip
 | label l=>intro s x s' _ h;cases h;exact .label
 | exit l=>intro s x s' _ h;cases h;exact .exit
 | ret=>intro s x s' _ h;cases h;exact .ret
 | region id ops draw =>
   intro s x s' hok h;change evReg P GT ch rd ops draw s=some (x,s') at h;simp only [evReg] at h
   cases draw with
   | true =>
     simp only at h
     split at h
     ·rename_i recs s1 h1
      cases h
      exact .regionDraw hch hmix (by simpa [codeOk] using hok) h1
     ·cases h
   | false=>exact .region hch (evOpsL_range h)
 | seq a b iha ihb =>
   intro s x s' hok h;change (match evC P GT ch rd K a s with | some (.nrm,s')=>evC P GT ch rd K b s' | r=>r)=some (x,s') at h;simp only [codeOk,Bool.and_eq_true] at hok
   split at h
   ·rename_i s1 h1;exact .seq (iha hok.1 h1) (ihb hok.2 h)
   ·rename_i r hne
    exact .seq_stop (iha hok.1 h) fun e=>by subst e;exact hne s' h
 | cond c p q ihp ihq =>
   intro s x s' hok h;change (match evO GT s.tm c with | .g (.bool true)=>evC P GT ch rd K p s | .g (.bool false)=>evC P GT ch rd K q s | _=>none)=some (x,s') at h;simp only [codeOk,Bool.and_eq_true] at hok
   split at h
   ·rename_i hc;exact .cond (t:=true) hc (ihp hok.1 h)
   ·rename_i hc;exact .cond (t:=false) hc (ihq hok.2 h)
   ·cases h
 | block id b ih =>
   intro s x s' hok h;change (match evC P GT ch rd K b s with | some (.exit i,s')=>if i=id then some (.nrm,s') else some (.exit i,s') | r=>r)=some (x,s') at h;simp only [codeOk] at hok
   split at h
   ·rename_i i s1 h1
    split at h
    ·rename_i hi;cases h;subst hi;exact .block_exit (ih hok h1)
    ·rename_i hi;cases h;exact .block (ih hok h1) fun e=>by cases e;exact hi rfl
   ·rename_i r hne
    exact .block (ih hok h) fun e=>by subst e;exact hne id s' h
 | loop b ih =>
   intro s x s' hok h;change evLoop (evC P GT ch rd K b) K s=some (x,s') at h;simp only [codeOk] at hok;obtain ⟨m,hm⟩:=evLoop_sound (fun h1=>ih hok h1) h;exact .loop hm
 | scope b ih =>
   intro s x s' hok h;change (match evC P GT ch rd K b s with | some (.gto _,_)=>none | r=>r)=some (x,s') at h;simp only [codeOk] at hok
   split at h
   ·cases h
   ·rename_i r hne
    exact .scope (ih hok h) fun l e=>by subst e;exact hne l s' h
 | _=>intro s x s' _ h;cases h
end
end Go.Ev
end
