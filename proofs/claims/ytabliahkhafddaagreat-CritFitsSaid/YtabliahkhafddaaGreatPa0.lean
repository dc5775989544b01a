/- Tables from numbers, quick to look up when the kernel computes. -/
set_option linter.unusedSimpArgs false
noncomputable section
namespace Go.Ev
inductive Tri (α:Type) where
 | e
 | n (v:Option α) (l r:Tri α)
deriving Inhabited
namespace Tri
variable {α:Type}
def half (b:Nat):Nat:=Nat.shiftRight (Nat.sub b 1) 1
def odd (b:Nat):Bool:=Nat.beq (Nat.land b 1) 1
@[inline] def way {β:Type} (b:Nat) (z x y:β):β:=Bool.casesOn (motive:=fun _=>β) (Nat.beq b 0) (Bool.casesOn (motive:=fun _=>β) (odd b) y x) z
@[inline] def orE (v w:Option α):Option α:=Option.casesOn (motive:=fun _=>Option α) v w (fun x=>some x)
@[inline] def putE (k:α) (v:Option α):Option α:=Option.casesOn (motive:=fun _=>Option α) v none (fun _=>some k)
noncomputable def get (t:Tri α):Nat→Option α :=
 Tri.rec (fun _=>none) (fun v _ _ gl gr b=>way b v (gl (half b)) (gr (half b))) t
noncomputable def one (k:α) (f:Nat):Nat→Tri α :=
 Nat.rec (fun _=>.n (some k) .e .e) (fun _ ih b=>way b (.n (some k) .e .e) (.n none (ih (half b)) .e) (.n none .e (ih (half b)))) f
noncomputable def put (k:α) (t:Tri α):Nat→Tri α :=
 Tri.rec (fun b=>one k b b) (fun v l r pl pr b=>way b (.n (some k) l r) (.n v (pl (half b)) r) (.n v l (pr (half b)))) t
noncomputable def set (k:α) (t:Tri α):Nat→Tri α :=
 Tri.rec (fun _=>.e) (fun v l r pl pr b=>way b (.n (putE k v) l r) (.n v (pl (half b)) r) (.n v l (pr (half b)))) t
noncomputable def del (t:Tri α):Nat→Tri α :=
 Tri.rec (fun _=>.e) (fun v l r pl pr b=>way b (.n none l r) (.n v (pl (half b)) r) (.n v l (pr (half b)))) t
noncomputable def over (t:Tri α):Tri α→Tri α :=
 Tri.rec (fun u=>u) (fun v l r pl pr u=>Tri.casesOn (motive:=fun _=>Tri α) u (.n v l r) (fun w l' r'=>.n (orE v w) (pl l') (pr r'))) t
noncomputable def keep (p:Nat→Bool) (t:Tri α):Nat→Nat→Tri α :=
 Tri.rec (fun _ _=>.e) (fun v _ _ kl kr s m=>.n (Bool.casesOn (motive:=fun _=>Option α) (p m) none v) (kl (Nat.mul s 2) (Nat.add m s)) (kr (Nat.mul s 2) (Nat.add m (Nat.mul s 2)))) t
noncomputable def all (p:Nat→Bool) (t:Tri α):Nat→Nat→Bool :=
 Tri.rec (fun _ _=>true) (fun v _ _ kl kr s m=>Bool.casesOn (motive:=fun _=>Bool) (Option.casesOn (motive:=fun _=>Bool) v true (fun _=>p m)) false
  (Bool.casesOn (motive:=fun _=>Bool) (kl (Nat.mul s 2) (Nat.add m s)) false (kr (Nat.mul s 2) (Nat.add m (Nat.mul s 2))))) t
theorem way_eq {β:Type} (b:Nat) (z x y:β):way b z x y=if b=0 then z else if odd b=true then x else y:=by
 unfold way
 by_cases h:b=0
 ·subst h;rfl
 ·rw [if_neg h]
  have:Nat.beq b 0=false:=by rw [←Bool.not_eq_true];intro e;exact h (Nat.eq_of_beq_eq_true e)
  rw [this]
  cases odd b <;> rfl
theorem get_e (b:Nat):(Tri.e:Tri α).get b=none:=rfl
theorem get_n (v:Option α) (l r:Tri α) (b:Nat):(Tri.n v l r).get b=if b=0 then v else if odd b=true then l.get (half b) else r.get (half b):=way_eq b v _ _
theorem odd_iff (b:Nat):odd b=true↔b % 2=1:=by
 unfold odd;rw [Nat.beq_eq];show b &&& 1=1↔_;rw [Nat.and_one_is_mod]
theorem half_eq (b:Nat):half b=(b - 1) / 2:=by
 show (b - 1) >>> 1=_;rw [Nat.shiftRight_eq_div_pow]
theorem half_lt {b:Nat} (h:b≠0):half b<b:=by rw [half_eq];omega
theorem half_spec {b:Nat} (h:b≠0):b=if odd b=true then 2*half b+1 else 2*half b+2:=by
 have:=odd_iff b;rw [half_eq]
 split
 ·rename_i h1;have:=this.1 h1;omega
 ·rename_i h1;have:¬b % 2=1:=fun e=>h1 (this.2 e);omega
theorem half_inj {b c:Nat} (hb:b≠0) (hc:c≠0) (ho:odd b=odd c):half b=half c↔b=c:=by
 have h1:=half_spec hb;have h2:=half_spec hc;rw [ho] at h1
 constructor
 ·intro h;rw [h] at h1;exact h1.trans h2.symm
 ·intro h;rw [h]
theorem one_succ (k:α) (f b:Nat):one k (f+1) b=if b=0 then .n (some k) .e .e else if odd b=true then .n none (one k f (half b)) .e else .n none .e (one k f (half b)):=way_eq b _ _ _
theorem node_step {b:Nat} {v:Option α} {l r l' r':Tri α} {x y:Option α} (hl:∀ c,l'.get c=if half b=c then x else l.get c) (hr:∀ c,r'.get c=if half b=c then y else r.get c)
 (hb:b≠0) (c:Nat):((if odd b=true then Tri.n v l' r else Tri.n v l r'):Tri α).get c=if b=c then (if odd b=true then x else y) else (Tri.n v l r).get c:=by
 by_cases hc:c=0
 ·subst hc
  rw [if_neg hb]
  cases odd b <;> simp [get_n]
 ·by_cases he:b=c
  ·subst he
   cases ho:odd b <;> simp [get_n,hb,ho,hl,hr]
  ·have hh:odd b=odd c→half b≠half c:=fun h1 h2=>he ((half_inj hb hc h1).1 h2)
   cases ho:odd b <;> cases ho':odd c <;> simp [get_n,hc,ho',hl,hr,he]
   ·intro h2;exact absurd h2 (hh (by rw [ho,ho']))
   ·intro h2;exact absurd h2 (hh (by rw [ho,ho']))
theorem get_one (k:α):∀ (f b c:Nat),b≤f→(one k f b).get c=if b=c then some k else none
 | 0,b,c,h=>by
   obtain rfl:b=0:=by omega
   show (Tri.n (some k) .e .e).get c=_;rw [get_n]
   by_cases hc:c=0
   ·subst hc;rfl
   ·rw [if_neg hc,if_neg (Ne.symm hc)];simp [get_e]
 | f+1,b,c,h=>by
   rw [one_succ]
   by_cases hb:b=0
   ·subst hb
    rw [if_pos rfl,get_n]
    by_cases hc:c=0
    ·subst hc;rfl
    ·rw [if_neg hc,if_neg (Ne.symm hc)];simp [get_e]
   ·rw [if_neg hb]
    have hlt:=half_lt hb;have ih:=fun d=>get_one k f (half b) d (by omega);rw [node_step (v:=none) (l:=.e) (r:=.e) (x:=some k) (y:=some k) (fun d=>by rw [ih,get_e]) (fun d=>by rw [ih,get_e]) hb];simp [get_n,get_e]
theorem get_step {g:Tri α→Nat→Tri α} {f:Option α→Option α} (he:∀ b c,(g .e b).get c=if b=c then f none else none)
 (hn:∀ v l r b,g (.n v l r) b=if b=0 then .n (f v) l r else if odd b=true then .n v (g l (half b)) r else .n v l (g r (half b))):∀ (t:Tri α) (b c:Nat),(g t b).get c=if b=c then f (t.get c) else t.get c:=by
 intro t
 induction t with
 | e=>intro b c;rw [he,get_e]
 | n v l r ihl ihr =>
   intro b c;rw [hn]
   by_cases hb:b=0
   ·subst hb
    rw [if_pos rfl,get_n]
    by_cases hc:c=0
    ·subst hc;simp [get_n]
    ·rw [if_neg hc,if_neg (Ne.symm hc),get_n,if_neg hc]
   ·rw [if_neg hb,node_step (x:=f (l.get (half b))) (y:=f (r.get (half b))) (fun d=>by rw [ihl];by_cases h:half b=d <;> simp [h]) (fun d=>by rw [ihr];by_cases h:half b=d <;> simp [h]) hb]
    by_cases he:b=c
    ·subst he
     rw [if_pos rfl,if_pos rfl,get_n,if_neg hb]
     cases odd b <;> rfl
    ·rw [if_neg he,if_neg he]
theorem get_put (k:α) (t:Tri α) (b c:Nat):(t.put k b).get c=if b=c then some k else t.get c :=
 get_step (g:=fun t b=>t.put k b) (f:=fun _=>some k) (fun b c=>get_one k b b c (Nat.le_refl b)) (fun _ _ _ b=>way_eq b _ _ _) t b c
theorem get_set (k:α) (t:Tri α) (b c:Nat):(t.set k b).get c=if b=c then (t.get c).map (fun _=>k) else t.get c :=
 get_step (g:=fun t b=>t.set k b) (f:=fun v=>v.map fun _=>k) (fun b c=>by simp [set,get_e]) (fun v _ _ b=>by
  have:(v.map fun _=>k)=putE k v:=by cases v <;> rfl
  rw [this];exact way_eq b _ _ _) t b c
theorem get_del (t:Tri α) (b c:Nat):(t.del b).get c=if b=c then none else t.get c :=
 get_step (g:=fun t b=>t.del b) (f:=fun _=>none) (fun b c=>by simp [del,get_e]) (fun _ _ _ b=>way_eq b _ _ _) t b c
theorem get_over:∀ (t u:Tri α) (b:Nat),(t.over u).get b=(t.get b).or (u.get b):=by
 intro t
 induction t with
 | e=>intro u b;rfl
 | n v l r ihl ihr =>
   intro u b
   cases u with
   | e=>show (Tri.n v l r).get b=_;rw [get_e,Option.or_none]
   | n w l' r' =>
     have h:orE v w=v.or w:=by cases v <;> rfl
     show (Tri.n (orE v w) (l.over l') (r.over r')).get b=_;rw [h,get_n,get_n,get_n,ihl,ihr]
     split
     ·rfl
     ·split <;> rfl
theorem place {b s m:Nat} (h:b≠0):m+s*b=if odd b=true then m+s+s*2*half b else m+s*2+s*2*half b:=by
 have:=half_spec h;rw [Nat.mul_assoc]
 split at this
 ·rename_i ho
  rw [if_pos ho];generalize half b=q at this;rw [this,Nat.mul_add,Nat.mul_one];omega
 ·rename_i ho
  rw [if_neg ho];generalize half b=q at this;rw [this,Nat.mul_add];omega
theorem get_keep (p:Nat→Bool):∀ (t:Tri α) (s m b:Nat),(t.keep p s m).get b=if p (m+s*b)=true then t.get b else none:=by
 intro t
 induction t with
 | e=>intro s m b;show Tri.get .e b=_;simp [get_e]
 | n v l r ihl ihr =>
   intro s m b;show (Tri.n (Bool.casesOn (motive:=fun _=>Option α) (p m) none v) (l.keep p (s*2) (m+s)) (r.keep p (s*2) (m+s*2))).get b=_;rw [get_n,get_n]
   by_cases hb:b=0
   ·subst hb
    simp only [if_true,Nat.mul_zero,Nat.add_zero]
    cases p m <;> rfl
   ·rw [if_neg hb,if_neg hb,place hb,ihl,ihr]
    split <;> rfl
theorem all_get (p:Nat→Bool):∀ (t:Tri α) (s m:Nat),t.all p s m=true→∀ b k,t.get b=some k→p (m+s*b)=true:=by
 intro t
 induction t with
 | e=>intro s m _ b k h;cases h
 | n v l r ihl ihr =>
   intro s m h b k hk
   change (Bool.casesOn (motive:=fun _=>Bool) (Option.casesOn (motive:=fun _=>Bool) v true (fun _=>p m)) false
    (Bool.casesOn (motive:=fun _=>Bool) (l.all p (s*2) (m+s)) false (r.all p (s*2) (m+s*2))))=true at h
   rw [get_n] at hk;have h1:Option.casesOn (motive:=fun _=>Bool) v true (fun _=>p m)=true∧l.all p (s*2) (m+s)=true∧r.all p (s*2) (m+s*2)=true:=by
    revert h
    cases (Option.casesOn (motive:=fun _=>Bool) v true (fun _=>p m):Bool) <;> cases l.all p (s*2) (m+s) <;> cases r.all p (s*2) (m+s*2) <;> simp
   by_cases hb:b=0
   ·subst hb
    rw [if_pos rfl] at hk;subst hk;simpa using h1.1
   ·rw [if_neg hb] at hk
    rw [place hb]
    split at hk
    ·rename_i ho;rw [if_pos ho];exact ihl _ _ h1.2.1 _ _ hk
    ·rename_i ho;rw [if_neg ho];exact ihr _ _ h1.2.2 _ _ hk
theorem set_n (k:α) (v:Option α) (l r:Tri α) (b:Nat):(Tri.n v l r).set k b=if b=0 then .n (putE k v) l r else if odd b=true then .n v (l.set k (half b)) r else .n v l (r.set k (half b)):=way_eq b _ _ _
theorem set_one (k k':α):∀ (f b:Nat),b≤f→(one k f b).set k' b=one k' f b
 | 0,b,hb=>by
   obtain rfl:b=0:=by omega
   rfl
 | f+1,b,hb=>by
   rw [one_succ,one_succ]
   by_cases h:b=0
   ·subst h;rfl
   ·have hlt:=half_lt h
    rw [if_neg h,if_neg h]
    cases ho:odd b <;> simp [set_n,h,ho,set_one k k' f (half b) (by omega)]
theorem set_put (k k':α):∀ (t:Tri α) (b:Nat),(t.put k b).set k' b=t.put k' b:=by
 intro t
 induction t with
 | e=>intro b;exact set_one k k' b b (Nat.le_refl b)
 | n v l r ihl ihr =>
   intro b;have hp:∀ x:α,(Tri.n v l r).put x b=if b=0 then .n (some x) l r else if odd b=true then .n v (l.put x (half b)) r else .n v l (r.put x (half b)):=fun x=>way_eq b _ _ _
   rw [hp,hp]
   by_cases h:b=0
   ·subst h;rfl
   ·cases ho:odd b <;> simp [set_n,h,ho,ihl,ihr]
end Tri
end Go.Ev
end
