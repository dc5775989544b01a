/- What the evaluator does at one operation; lists of values and what they stand for. -/
import Derived.Test.YtabliahkhafddaaGreatPa2
import Derived.Laws.Append
import Derived.Laws.AppendOwn
import Derived.Laws.CopyRow
set_option linter.unusedSimpArgs false
noncomputable section
namespace Go.Ev
open Go.RowKit
def isCell:AV→Bool
 | .any | .agg _ | .tup _=>false
 | .g v=>v.oneCell'
 | _=>true
def cellsA:AV→Option (List AV)
 | .agg cs=>if cs.all isCell then some cs else none
 | a=>if isCell a then some [a] else none
mutual
def toG:AV→Option Value
 | .g v=>some v
 | .agg cs=>match toGs cs with | some l=>some (.agg l.toArray) | none=>none
 | .tup cs=>match toGs cs with | some l=>some (.tuple l.toArray) | none=>none
 | .ifc t v=>match toG v with | some x=>some (.iface t x) | none=>none
 | .fn f [] []=>some (.func f #[] #[])
 | _=>none
def toGs:List AV→Option (List Value)
 | []=>some []
 | a::as=>match toG a,toGs as with | some x,some l=>some (x::l) | _,_=>none
end
def avc1:Value→AV
 | .agg cs=>.agg (cs.toList.map .g)
 | .func f x y=>if x.isEmpty&&y.isEmpty then .fn f [] [] else .g (.func f x y)
 | v=>.g v
def avc:Value→AV
 | .tuple cs=>if cs.isEmpty then .g (.tuple #[]) else .tup (cs.toList.map avc1)
 | v=>avc1 v
def pv (P:Program) {α:Type}:Sem α→Option α
 | .pure a=>some a
 | .program k=>pv P (k P)
 | _=>none
def aggB:TypeDesc→Bool
 | .struct _ | .array _ _=>true
 | _=>false
theorem pv_run {P:Program} {α:Type} {s:Sem α} {a:α} (h:pv P s=some a) (w:World):s.run P w=.ok a w:=by
 induction s with
 | pure x=>simp only [pv,Option.some.injEq] at h;subst h;rfl
 | program k ih=>simp only [pv] at h;exact ih P h
 | _=>simp only [pv] at h;cases h
section
variable {w:World} {G:Gh}
theorem VRs.cons_mk {a:AV} {as:List AV} {v:Value} {vs:List Value} (h1:VR w G a v) (h2:VRs w G as vs):VRs w G (a::as) (v::vs):=⟨v,vs,rfl,h1,h2⟩
theorem VRs.len:∀ {as:List AV} {vs:List Value},VRs w G as vs→vs.length=as.length
 | [],_,h=>by rw [VRs] at h;simp [h]
 | a::as,_,⟨v,vs,h1,_,h3⟩=>by subst h1;simp [VRs.len h3]
theorem VRs.get:∀ {as:List AV} {vs:List Value} (_:VRs w G as vs) {i:Nat} {a:AV},as[i]?=some a→∃ v,vs[i]?=some v∧VR w G a v
 | [],_,_,i,a,hi=>by simp at hi
 | x::as,_,⟨v,vs,h1,h2,h3⟩,i,a,hi=>by
   subst h1
   cases i with
   | zero=>simp at hi;subst hi;exact ⟨v,by simp,h2⟩
   | succ i=>simp at hi ⊢;exact VRs.get h3 hi
theorem VRs.mk:∀ {as:List AV} {vs:List Value},vs.length=as.length→(∀ (i:Nat) (a:AV) (v:Value),as[i]?=some a→vs[i]?=some v→VR w G a v)→VRs w G as vs
 | [],[],_,_=>by rw [VRs]
 | a::as,v::vs,hl,h=>⟨v,vs,rfl,h 0 a v (by simp) (by simp),VRs.mk (by simpa using hl) fun i x y hx hy=>h (i+1) x y (by simpa using hx) (by simpa using hy)⟩
 | [],_::_,hl,_=>by simp at hl
 | _::_,[],hl,_=>by simp at hl
theorem VRs.get2 {as:List AV} {vs:List Value} (h:VRs w G as vs) {i:Nat} {a:AV} {v:Value} (ha:as[i]?=some a) (hv:vs[i]?=some v):VR w G a v:=by
 obtain ⟨v',h1,h2⟩:=h.get ha;rw [hv] at h1;cases h1;exact h2
theorem VRs.append {as bs:List AV} {vs us:List Value} (h:VRs w G as vs) (k:VRs w G bs us):VRs w G (as++bs) (vs++us):=by
 induction as generalizing vs with
 | nil=>rw [VRs] at h;subst h;exact k
 | cons a as ih =>
   obtain ⟨v,vs',rfl,h2,h3⟩:=h;exact ⟨v,vs'++us,rfl,h2,ih h3⟩
theorem VRs.take {as:List AV} {vs:List Value} (h:VRs w G as vs) (n:Nat):VRs w G (as.take n) (vs.take n) :=
 VRs.mk (by simp [h.len]) fun i a v ha hv=>by
  rw [List.getElem?_take] at ha hv
  split at ha
  ·rename_i hn;rw [if_pos hn] at hv;exact h.get2 ha hv
  ·cases ha
theorem VRs.drop {as:List AV} {vs:List Value} (h:VRs w G as vs) (n:Nat):VRs w G (as.drop n) (vs.drop n) :=
 VRs.mk (by simp [h.len]) fun i a v ha hv=>by
  rw [List.getElem?_drop] at ha hv;exact h.get2 ha hv
theorem VRs.map_g (l:List Value):VRs w G (l.map AV.g) l:=by
 refine VRs.mk (by simp) fun i a v ha hv=>?_;rw [List.getElem?_map,hv] at ha
 cases ha;exact rfl
theorem Q3z {a:AV} {v:Value} (h:isCell a=true) (hv:VR w G a v):v.oneCell'=true∧v.cells=#[v]:=by
 have key:v.oneCell'=true→v.cells=#[v]:=by intro h;cases v <;> first | rfl | (simp [Value.oneCell'] at h)
 have h1:v.oneCell'=true:=by
  cases a with
  | any=>simp [isCell] at h
  | agg cs=>simp [isCell] at h
  | tup cs=>simp [isCell] at h
  | g x=>rw [VR] at hv;subst hv;exact h
  | ptr b o=>obtain ⟨_,_,_,rfl⟩:=hv;rfl
  | ept cs o=>obtain ⟨_,_,rfl,_⟩:=hv;rfl
  | sl n sz cs=>obtain ⟨_,_,rfl,_⟩:=hv;rfl
  | gs b o n sz k=>obtain ⟨_,_,_,_,_,_,_,_,rfl,_⟩:=hv;rfl
  | z0=>obtain ⟨_,rfl⟩:=hv;rfl
  | mp b=>obtain ⟨_,_,rfl⟩:=hv;rfl
  | fn f x y=>obtain ⟨_,_,rfl,_⟩:=hv;rfl
  | ifc t x=>obtain ⟨_,rfl,_⟩:=hv;rfl
 exact ⟨h1,key h1⟩
theorem cellsA_spec {a:AV} {cs:List AV} {v:Value} (h:cellsA a=some cs) (hv:VR w G a v):VRs w G cs v.cells.toList∧(∀ x∈v.cells.toList,x.oneCell'=true)∧cs.all isCell=true:=by
 have one:isCell a=true→cs=[a]→VRs w G cs v.cells.toList∧(∀ x∈v.cells.toList,x.oneCell'=true)∧cs.all isCell=true:=by
  rintro h1 rfl;obtain ⟨h2,h3⟩:=Q3z h1 hv;rw [h3];exact ⟨VRs.cons_mk hv (by rw [VRs]),by simp [h2],by simp [h1]⟩
 cases a with
 | agg l =>
   simp only [cellsA] at h
   split at h
   ·rename_i hl
    cases h
    obtain ⟨rc,rfl,h2⟩:=hv;refine ⟨h2,fun x hx=>?_,hl⟩;obtain ⟨i,hi⟩:=List.getElem?_of_mem (show x∈rc.toList from hx);have hlt:=(List.getElem?_eq_some_iff.1 hi).1;rw [h2.len] at hlt;exact (Q3z (List.all_eq_true.1 hl _ (List.getElem_mem hlt)) (h2.get2 (List.getElem?_eq_getElem hlt) hi)).1
   ·cases h
 | _ =>
   simp only [cellsA] at h
   split at h
   ·rename_i h1;cases h;exact one h1 rfl
   ·cases h
mutual
theorem toG_spec:∀ (a:AV) {x v:Value},toG a=some x→VR w G a v→v=x
 | .any,x,v,h,_=>by simp [toG] at h
 | .g y,x,v,h,hv=>by simp only [toG,Option.some.injEq] at h;subst h;exact hv
 | .ptr _ _,x,v,h,_=>by simp [toG] at h
 | .ept _ _,x,v,h,_=>by simp [toG] at h
 | .sl _ _ _,x,v,h,_=>by simp [toG] at h
 | .gs _ _ _ _ _,x,v,h,_=>by simp [toG] at h
 | .z0,x,v,h,_=>by simp [toG] at h
 | .mp _,x,v,h,_=>by simp [toG] at h
 | .fn f [] [],x,v,h,hv=>by
   simp only [toG,Option.some.injEq] at h;subst h;obtain ⟨rx,ry,rfl,h1,h2⟩:=hv;rw [VRs] at h1 h2;obtain rfl:rx=#[]:=by simpa using h1
   obtain rfl:ry=#[]:=by simpa using h2
   rfl
 | .fn f (_::_) _,x,v,h,_=>by simp [toG] at h
 | .fn f [] (_::_),x,v,h,_=>by simp [toG] at h
 | .agg cs,x,v,h,hv=>by
   simp only [toG] at h
   split at h
   ·rename_i l hl;cases h
    obtain ⟨rc,rfl,h1⟩:=hv;rw [←toGs_spec cs hl h1]
   ·cases h
 | .tup cs,x,v,h,hv=>by
   simp only [toG] at h
   split at h
   ·rename_i l hl;cases h
    obtain ⟨rc,rfl,h1⟩:=hv;rw [←toGs_spec cs hl h1]
   ·cases h
 | .ifc t a,x,v,h,hv=>by
   simp only [toG] at h
   split at h
   ·rename_i y hy;cases h
    obtain ⟨z,rfl,h1⟩:=hv;rw [toG_spec a hy h1]
   ·cases h
theorem toGs_spec:∀ (as:List AV) {l vs:List Value},toGs as=some l→VRs w G as vs→vs=l
 | [],l,vs,h,hv=>by simp only [toGs,Option.some.injEq] at h;subst h;rw [VRs] at hv;exact hv
 | a::as,l,vs,h,hv=>by
   simp only [toGs] at h
   split at h
   ·rename_i x l' hx hl
    cases h
    obtain ⟨v,vs',rfl,h1,h2⟩:=hv;rw [toG_spec a hx h1,toGs_spec as hl h2]
   ·cases h
end
theorem Q3a (v:Value):VR w G (avc1 v) v:=by
 cases v with
 | agg cs=>exact ⟨cs,rfl,VRs.map_g _⟩
 | func f x y =>
   show VR w G (if x.isEmpty&&y.isEmpty then .fn f [] [] else .g (.func f x y)) _
   by_cases h:(x.isEmpty&&y.isEmpty)=true
   ·rw [if_pos h]
    simp at h;exact ⟨x,y,rfl,by rw [VRs,h.1],by rw [VRs,h.2]⟩
   ·rw [if_neg h];exact rfl
 | _=>exact rfl
theorem avc_spec (v:Value):VR w G (avc v) v:=by
 cases v with
 | tuple cs =>
   show VR w G (if cs.isEmpty then .g (.tuple #[]) else .tup (cs.toList.map avc1)) _
   by_cases h:cs.isEmpty=true
   ·rw [if_pos h]
    obtain rfl:cs=#[]:=by simpa using h
    exact rfl
   ·rw [if_neg h]
    refine ⟨cs,rfl,VRs.mk (by simp) fun i a v ha hv=>?_⟩;rw [List.getElem?_map,hv] at ha
    cases ha
    exact Q3a v
 | _=>(simp only [avc];exact Q3a _)
theorem RowR.get0 {rb:Nat}:∀ {o:Nat} {cs:List AV} (_:RowR w G rb o cs) {i:Nat} {a:AV},cs[i]?=some a→G.I rb∧∃ v,w.cell? ⟨rb,o+i,none⟩=some v∧VR w G.bare a v
 | _,[],_,i,a,hi=>by simp at hi
 | o,x::cs,⟨h1,⟨v,h2,h3⟩,h4⟩,i,a,hi=>by
   cases i with
   | zero=>simp at hi;subst hi;exact ⟨h1,v,h2,h3⟩
   | succ i =>
     simp at hi;obtain ⟨h5,v',h6,h7⟩:=RowR.get0 h4 hi;exact ⟨h5,v',by rw [show o+(i+1)=o+1+i by omega];exact h6,h7⟩
theorem RowR.get {rb:Nat} {o:Nat} {cs:List AV} (h:RowR w G rb o cs) {i:Nat} {a:AV} (hi:cs[i]?=some a):G.I rb∧∃ v,w.cell? ⟨rb,o+i,none⟩=some v∧VR w G a v:=by
 obtain ⟨h1,v,h2,h3⟩:=h.get0 hi;exact ⟨h1,v,h2,VR.mono (Ext.unbare w G) a h3⟩
theorem RowR.mk {rb:Nat} (hI:G.I rb):∀ {o:Nat} {cs:List AV},(∀ (i:Nat) (a:AV),cs[i]?=some a→∃ v,w.cell? ⟨rb,o+i,none⟩=some v∧VR w G.bare a v)→RowR w G rb o cs
 | _,[],_=>trivial
 | o,x::cs,h=>⟨hI,by simpa using h 0 x (by simp),RowR.mk hI fun i a hi=>by
   have:=h (i+1) a (by simpa using hi)
   rwa [show o+(i+1)=o+1+i by omega] at this⟩
theorem RowR.drop {rb:Nat} {o:Nat} {cs:List AV} (h:RowR w G rb o cs) (k:Nat):RowR w G rb (o+k) (cs.drop k):=by
 cases hc:cs.drop k with
 | nil=>trivial
 | cons x l =>
   have hlt:k<cs.length:=by
    rcases Nat.lt_or_ge k cs.length with h1 | h1
    ·exact h1
    ·rw [List.drop_eq_nil_of_le h1] at hc;cases hc
   rw [←hc];refine RowR.mk (h.get (List.getElem?_eq_getElem hlt)).1 fun i a hi=>?_;rw [List.getElem?_drop] at hi;obtain ⟨_,v,h1,h2⟩:=h.get0 hi;exact ⟨v,by rw [Nat.add_assoc];exact h1,h2⟩
theorem RowR.take {rb:Nat}:∀ {o:Nat} {cs:List AV} (_:RowR w G rb o cs) (k:Nat),RowR w G rb o (cs.take k)
 | _,[],_,k=>by simp [RowR]
 | o,x::cs,h,0=>by simp [RowR]
 | o,x::cs,⟨h1,h2,h3⟩,k+1=>by rw [List.take_succ_cons];exact ⟨h1,h2,RowR.take h3 k⟩
end
end Go.Ev
end
