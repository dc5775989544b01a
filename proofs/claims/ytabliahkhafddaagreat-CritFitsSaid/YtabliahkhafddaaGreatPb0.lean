/- The evaluator at operations that turn maps. -/
import Derived.Test.YtabliahkhafddaaGreatPa9
set_option linter.unusedSimpArgs false
noncomputable section
namespace Go.Ev
open Go.RowKit Go.MapKept
section
variable {P:Program} {w:World} {G:Gh} {ev:Operand→AV} {ρ:Operand→Value} {base:Nat} {GT:GTab} {F:Nat→Prop} {rd:List Mem} {cur:Mem} {nx:Nat} {ty:TypeId}
def EntOne (w:World) (G:Gh) (e:Nat×AV×AV) (x:MapEntry):Prop:=x.born=e.1∧VR w G e.2.1 x.key∧VR w G e.2.2 x.val
theorem EntR.iff:∀ {es:List (Nat×AV×AV)} {l:List MapEntry},EntR w G es l↔l.length=es.length∧∀ (i:Nat) e x,es[i]?=some e→l[i]?=some x→EntOne w G e x
 | [],l=>by
   rw [EntR]
   constructor
   ·rintro rfl;exact ⟨rfl,fun i e x h=>by simp at h⟩
   ·rintro ⟨h,_⟩;exact List.eq_nil_of_length_eq_zero h
 | e::es,l=>by
   rw [EntR]
   constructor
   ·rintro ⟨x,xs,rfl,h1,h2⟩
    obtain ⟨h3,h4⟩:=EntR.iff.1 h2;refine ⟨by simp [h3],fun i e' x' he hx=>?_⟩
    cases i with
    | zero=>simp only [List.getElem?_cons_zero,Option.some.injEq] at he hx;subst he;subst hx;exact h1
    | succ i=>exact h4 i e' x' (by simpa using he) (by simpa using hx)
   ·rintro ⟨h1,h2⟩
    cases l with
    | nil=>simp at h1
    | cons x xs =>
      exact ⟨x,xs,rfl,h2 0 e x rfl rfl,EntR.iff.2 ⟨by simpa using h1,fun i e' x' he hx=>h2 (i+1) e' x' (by simpa using he) (by simpa using hx)⟩⟩
theorem EntR.modify {es:List (Nat×AV×AV)} {l:List MapEntry} (h:EntR w G es l) {i:Nat} {f:Nat×AV×AV→Nat×AV×AV} {g:MapEntry→MapEntry} (hf:∀ e x,es[i]?=some e→l[i]?=some x→EntOne w G e x→EntOne w G (f e) (g x)) :
 EntR w G (es.modify i f) (l.modify i g):=by
 rw [EntR.iff] at h ⊢;refine ⟨by simp [h.1],fun j e x he hx=>?_⟩;rw [List.getElem?_modify] at he hx
 cases h1:es[j]? with
 | none=>rw [h1] at he;simp at he
 | some e0 =>
   cases h2:l[j]? with
   | none=>rw [h2] at hx;simp at hx
   | some x0 =>
     rw [h1] at he;rw [h2] at hx;have h3:=h.2 j e0 x0 h1 h2
     by_cases hij:i=j
     ·subst hij
      have he':some (f e0)=some e:=by simpa using he
      have hx':some (g x0)=some x:=by simpa using hx
      cases he';cases hx'
      exact hf e0 x0 h1 h2 h3
     ·have he':some e0=some e:=by simpa [hij] using he
      have hx':some x0=some x:=by simpa [hij] using hx
      cases he';cases hx';exact h3
theorem EntR.snoc {es:List (Nat×AV×AV)} {l:List MapEntry} (h:EntR w G es l) {e:Nat×AV×AV} {x:MapEntry} (he:EntOne w G e x):EntR w G (es++[e]) (l++[x]):=by
 rw [EntR.iff] at h ⊢;refine ⟨by simp [h.1],fun j e' x' h1 h2=>?_⟩;rcases Nat.lt_or_ge j es.length with hj | hj
 ·rw [List.getElem?_append_left hj] at h1
  rw [List.getElem?_append_left (by omega)] at h2;exact h.2 j e' x' h1 h2
 ·rw [List.getElem?_append_right hj] at h1
  rw [List.getElem?_append_right (by omega),h.1] at h2;have:=(List.getElem?_eq_some_iff.1 h1).1;simp only [List.length_singleton] at this;have hz:j - es.length=0:=by omega
  rw [hz] at h1 h2
  cases h1;cases h2;exact he
theorem EntR.erase:∀ {es:List (Nat×AV×AV)} {l:List MapEntry},EntR w G es l→∀ (i:Nat),EntR w G (es.eraseIdx i) (l.eraseIdx i)
 | [],_,h,i=>by rw [EntR] at h;subst h;simp [EntR]
 | e::es,_,⟨x,xs,rfl,h1,h2⟩,i=>by
   cases i with
   | zero=>exact h2
   | succ i=>exact ⟨x,xs.eraseIdx i,rfl,h1,EntR.erase h2 i⟩
theorem EntR.findIdx:∀ {es:List (Nat×AV×AV)} {l:List MapEntry},EntR w G es l→∀ (n:Int),l.findIdx? (fun e=>(e.born:Int)==n)=es.findIdx? (fun e=>(e.1:Int)==n)
 | [],_,h,n=>by rw [EntR] at h;subst h;rfl
 | e::es,_,⟨x,xs,rfl,h1,h2⟩,n=>by
   simp only [List.findIdx?_cons,h1.1,EntR.findIdx h2 n]
theorem Q3h (hm:MR base GT F rd cur nx w G) {b:Nat} {es:List (Nat×AV×AV)} {clk:Nat} {v:Value} (hv:VR w G (.mp b) v) (hg:cur.get b=some (.map es clk)) :
 ∃ rb l,v=.map (some rb)∧w.heap[rb]?=some (.map l clk)∧EntR w G es l.toList ∧
   ∀ (es':List (Nat×AV×AV)) (l':Array MapEntry) (clk':Nat),(∀ w',Ext w w' G G→EntR w' G es' l'.toList) →
     (setObj rb (.map l' clk')).run P w=.ok () (setBlk w rb (.map l' clk'))∧Stp base GT F rd cur nx w G (Mem.set cur b (.map es' clk')) nx (setBlk w rb (.map l' clk')) G:=by
 obtain ⟨rb,hmu,rfl⟩:=hv;obtain ⟨rb',ro',e1,_,_,h0,l,hh,hent⟩:=hm.blk _ _ (Q0b hg);rw [hmu] at e1;cases e1;refine ⟨rb,l,rfl,hh,hent,fun es' l' clk' he=>⟨MapKept.run_setObj_map _ hh,Stp.write hm (Obj.map l' clk') hg hmu (fun c e fr hc=>by rw [hh] at hc;cases hc) fun hx=>⟨rfl,l',?_,he _ hx⟩⟩⟩;have hlt:=(Array.getElem?_eq_some_iff.1 hh).1;show (w.heap.setIfInBounds rb _)[rb]?=_;simp [hlt]
theorem arr_modify (l:Array MapEntry) (i:Nat) (f:MapEntry→MapEntry):(l.modify i f).toList=l.toList.modify i f:=by
 apply List.ext_getElem?;intro j;rw [Array.getElem?_toList,Array.getElem?_modify,List.getElem?_modify,Array.getElem?_toList]
 by_cases h:i=j
 ·subst h;simp
 ·simp [h]
theorem EntR.mono' {w':World} {es:List (Nat×AV×AV)} {l:List MapEntry} (h:EntR w G es l) (hx:Ext w w' G G):EntR w' G es l:=h.mono hx
theorem Q3q (hm:MR base GT F rd cur nx w G) {kt:TypeId} {b:Nat} {k:AV} {es:List (Nat×AV×AV)} {clk:Nat} {r:Option (Nat×AV)} {mv kv:Value}
 (hg:cur.get b=some (.map es clk)) (hf:keyFind P kt k es=some r) (hmv:VR w G (.mp b) mv) (hkv:VR w G k kv):∃ rb l,mv=.map (some rb)∧w.heap[rb]?=some (.map l clk)∧EntR w G es l.toList ∧
   (∀ e,(Instr.checkKey e 10000 kt kv).run P w=.ok () w) ∧
   ((r=none∧(Instr.findKey kt kv l.toList).run P w=.ok none w)∨∃ j v e,r=some (j,v)∧(Instr.findKey kt kv l.toList).run P w=.ok (some (j,e.val)) w∧l[j]?=some e∧(Instr.keyThatStays e.key kv).run P w=.ok kv w∧VR w G v e.val∧(es[j]?).map (·.1)=some e.born):=by
 obtain ⟨rb,l,h1,h2,h3,_⟩:=Q3h (P:=P) hm hmv hg;obtain ⟨h4,h5⟩:=keyFind_spec (P:=P) hkv h3 hf;refine ⟨rb,l,h1,h2,h3,h4,?_⟩;rcases h5 with h5 | ⟨j,v,e,h6,h7,h8,h9⟩
 ·exact .inl h5
 ·exact .inr ⟨j,v,e,h6,h7,by simpa using h8,h9⟩
theorem MemS.skip {s:Sem Unit} {w':World} {cur':Mem} {nx':Nat} {G':Gh} (h:s.run P w=.ok () w') (hs:Stp base GT F rd cur nx w G cur' nx' w' G'):MemS P base GT F rd cur nx w G (do s;pure .skip) (none,cur',nx') :=
 ⟨.skip,w',G',by simp [h],trivial,hs⟩
theorem evMapSet_run (hm:MR base GT F rd cur nx w G) {t:TypeId} {m k x:AV} {mv kv xv:Value} (hmv:VR w G m mv) (hkv:VR w G k kv) (hxv:VR w G x xv) {res:Option AV×Mem×Nat} (h:evMapSet P cur nx t m k x=some res) :
 ∃ w',(Instr.mapUpdate t mv kv xv).run P w=.ok () w'∧res.1=none∧Stp base GT F rd cur nx w G res.2.1 res.2.2 w' G:=by
 unfold evMapSet at h
 split at h
 ·rename_i kt et b hu
  split at h
  ·rename_i es clk hg
   split at h
   ·rename_i i v hf
    cases h
    obtain ⟨rb,l,rfl,hh,hent,hck,hp⟩:=Q3q (P:=P) hm hg hf hmv hkv;rcases hp with ⟨h1,_⟩ | ⟨j,v',e,h1,h2,h3,h4,h5,h6⟩
    ·cases h1
    ·cases h1
     obtain ⟨rb',l',e1,hh',_,hturn⟩:=Q3h (P:=P) hm hmv hg
     cases e1
     rw [hh] at hh';cases hh'
     obtain ⟨h7,h8⟩:=hturn (es.modify i fun e=>(e.1,k,x)) (l.modify i fun e=>{ e with key:=kv,val:=xv }) clk (fun w' hx=>by
      rw [arr_modify]
      refine (hent.mono' hx).modify fun e x _ _ he=>⟨he.1,VR.mono hx _ hkv,VR.mono hx _ hxv⟩)
     refine ⟨_,?_,rfl,h8⟩;simp [Instr.mapUpdate,Q0f hu,MapKept.run_getObj_map hh,hck,h2,h3,h4,h7]
   ·rename_i hf
    cases h
    obtain ⟨rb,l,rfl,hh,hent,hck,hp⟩:=Q3q (P:=P) hm hg hf hmv hkv;rcases hp with ⟨_,h2⟩ | ⟨j,v',e,h1,_⟩
    ·obtain ⟨rb',l',e1,hh',_,hturn⟩:=Q3h (P:=P) hm hmv hg
     cases e1
     rw [hh] at hh';cases hh'
     obtain ⟨h7,h8⟩:=hturn (es++[(clk,k,x)]) (l.push { key:=kv,val:=xv,born:=clk }) (clk+1) (fun w' hx=>by
      rw [Array.toList_push]
      exact (hent.mono' hx).snoc ⟨rfl,VR.mono hx _ hkv,VR.mono hx _ hxv⟩)
     refine ⟨_,?_,rfl,h8⟩;simp [Instr.mapUpdate,Q0f hu,MapKept.run_getObj_map hh,hck,h2,h7]
    ·cases h1
   ·cases h
  ·cases h
 ·cases h
theorem evMapEntry_run (hm:MR base GT F rd cur nx w G) {t:TypeId} {m k:AV} {mv kv:Value} (hmv:VR w G m mv) (hkv:VR w G k kv) {res:Option AV×Mem×Nat} (h:evMapEntry P cur nx t m k=some res) :
 ∃ r w' a,(Instr.mapEntry t mv kv).run P w=.ok r w'∧res.1=some a∧VR w' G a r∧Stp base GT F rd cur nx w G res.2.1 res.2.2 w' G:=by
 unfold evMapEntry at h
 split at h
 ·rename_i kt et b hu
  split at h
  ·rename_i es clk hg
   split at h
   ·rename_i i v hf
    split at h
    ·rename_i e0 he0
     cases h
     obtain ⟨rb,l,rfl,hh,hent,hck,hp⟩:=Q3q (P:=P) hm hg hf hmv hkv;rcases hp with ⟨h1,_⟩ | ⟨j,v',e,h1,h2,h3,h4,h5,h6⟩
     ·cases h1
     ·cases h1
      obtain ⟨rb',l',e1,hh',_,hturn⟩:=Q3h (P:=P) hm hmv hg
      cases e1
      rw [hh] at hh';cases hh'
      obtain ⟨h7,h8⟩:=hturn (es.modify i fun e=>(e.1,k,e.2.2)) (l.modify i fun e=>{ e with key:=kv }) clk (fun w' hx=>by
       rw [arr_modify]
       refine (hent.mono' hx).modify fun e x _ _ he=>⟨he.1,VR.mono hx _ hkv,he.2.2⟩)
      rw [he0] at h6;simp only [Option.map_some,Option.some.injEq] at h6;refine ⟨.tuple #[e.val,goInt e.born],_,_,?_,rfl,?_,h8⟩
      ·simp [Instr.mapEntry,Q0f hu,MapKept.run_getObj_map hh,hck,h2,h3,h4,h7]
      ·exact ⟨_,rfl,VRs.cons_mk (VR.mono h8.ext _ h5) (VRs.cons_mk (by rw [h6];rfl) (by rw [VRs]))⟩
    ·cases h
   ·rename_i hf
    split at h
    ·rename_i z hz
     cases h
     obtain ⟨rb,l,rfl,hh,hent,hck,hp⟩:=Q3q (P:=P) hm hg hf hmv hkv;rcases hp with ⟨_,h2⟩ | ⟨j,v',e,h1,_⟩
     ·obtain ⟨rb',l',e1,hh',_,hturn⟩:=Q3h (P:=P) hm hmv hg
      cases e1
      rw [hh] at hh';cases hh'
      obtain ⟨h7,h8⟩:=hturn (es++[(clk,k,avc1 z)]) (l.push { key:=kv,val:=z,born:=clk }) (clk+1) (fun w' hx=>by
       rw [Array.toList_push]
       exact (hent.mono' hx).snoc ⟨rfl,VR.mono hx _ hkv,Q3a z⟩)
      refine ⟨.tuple #[z,goInt clk],_,_,?_,rfl,?_,h8⟩
      ·simp [Instr.mapEntry,Q0f hu,MapKept.run_getObj_map hh,hck,h2,Q3c hz,h7]
      ·exact ⟨_,rfl,VRs.cons_mk (Q3a z) (VRs.cons_mk rfl (by rw [VRs]))⟩
     ·cases h1
    ·cases h
   ·cases h
  ·cases h
 ·cases h
theorem evEntryStore_run (hm:MR base GT F rd cur nx w G) {t:TypeId} {m st x:AV} {mv sv xv:Value} (hmv:VR w G m mv) (hsv:VR w G st sv) (hxv:VR w G x xv) {res:Option AV×Mem×Nat} (h:evEntryStore cur nx m st x=some res) :
 ∃ w',(Instr.entryStore t mv sv xv).run P w=.ok () w'∧res.1=none∧Stp base GT F rd cur nx w G res.2.1 res.2.2 w' G:=by
 unfold evEntryStore at h
 split at h
 ·rename_i b kd n
  split at h
  ·rename_i es clk hg
   split at h
   ·rename_i i hf
    cases h
    obtain ⟨rb,l,rfl,hh,hent,hturn⟩:=Q3h (P:=P) hm hmv hg;obtain rfl:sv=.int kd n:=hsv
    obtain ⟨h7,h8⟩:=hturn (es.modify i fun e=>(e.1,e.2.1,x)) (l.modify i fun e=>{ e with val:=xv }) clk (fun w' hx=>by
     rw [arr_modify]
     refine (hent.mono' hx).modify fun e x _ _ he=>⟨he.1,he.2.1,VR.mono hx _ hxv⟩)
    have hfi:l.findIdx? (fun e=>(e.born:Int)==n)=some i:=by
     rw [←hf,←hent.findIdx n,←List.findIdx?_toArray]
    refine ⟨_,?_,rfl,h8⟩;simp [Instr.entryStore,asInt,asIntOf,MapKept.run_getObj_map hh,hfi,h7]
   ·cases h
  ·cases h
 ·cases h
theorem evDelete_run (hm:MR base GT F rd cur nx w G) {t ty:TypeId} {m k:AV} {mv kv:Value} {ts:Array TypeId} (ht:ts[0]?=some t) (hmv:VR w G m mv) (hkv:VR w G k kv) {res:Option AV×Mem×Nat} (h:evDelete P cur nx t m k=some res) :
 ∃ w',(Builtin.delete_ ts ty #[mv,kv]).run P w=.ok (.tuple #[]) w'∧res.1=some (.g (.tuple #[]))∧Stp base GT F rd cur nx w G res.2.1 res.2.2 w' G:=by
 unfold evDelete at h
 split at h
 ·rename_i kt et b hu
  split at h
  ·rename_i es clk hg
   split at h
   ·rename_i i v hf
    cases h
    obtain ⟨rb,l,rfl,hh,hent,hck,hp⟩:=Q3q (P:=P) hm hg hf hmv hkv;rcases hp with ⟨h1,_⟩ | ⟨j,v',e,h1,h2,h3,h4,h5,h6⟩
    ·cases h1
    ·cases h1
     obtain ⟨rb',l',e1,hh',_,hturn⟩:=Q3h (P:=P) hm hmv hg
     cases e1
     rw [hh] at hh';cases hh'
     obtain ⟨h7,h8⟩:=hturn (es.eraseIdx i) (l.eraseIdxIfInBounds i) clk (fun w' hx=>by
      have:(l.eraseIdxIfInBounds i).toList=l.toList.eraseIdx i:=by simp
      rw [this]
      exact (hent.mono' hx).erase i)
     exact ⟨_,by simp [Builtin.delete_,ht,Q0f hu,MapKept.run_getObj_map hh,hck,h2,h7],rfl,h8⟩
   ·rename_i hf
    cases h
    obtain ⟨rb,l,rfl,hh,hent,hck,hp⟩:=Q3q (P:=P) hm hg hf hmv hkv;rcases hp with ⟨_,h2⟩ | ⟨j,v',e,h1,_⟩
    ·obtain ⟨rb',l',e1,hh',_,hturn⟩:=Q3h (P:=P) hm hmv hg
     cases e1
     rw [hh] at hh';cases hh';obtain ⟨h7,h8⟩:=hturn es l clk (fun w' hx=>hent.mono' hx);exact ⟨_,by simp [Builtin.delete_,ht,Q0f hu,MapKept.run_getObj_map hh,hck,h2,h7],rfl,h8⟩
    ·cases h1
   ·cases h
  ·cases h
 ·cases h
theorem evMakeMap_run (hm:MR base GT F rd cur nx w G) (hF:F nx) {t:TypeId} {r:Option AV} {rv:Option Value} (hr:match r,rv with | none,none=>True | some a,some v=>VR w G a v | _,_=>False) {res:Option AV×Mem×Nat} (h:evMakeMap P cur nx t r=some res) :
 ∃ v w' G' a,(Instr.makeMap t rv).run P w=.ok v w'∧res.1=some a∧VR w' G' a v∧Stp base GT F rd cur nx w G res.2.1 res.2.2 w' G':=by
 have hst:=Stp.alloc hm hF (Obj.map #[] 0) (.map [] 0) ⟨rfl,#[],heap_alloc_new w _,rfl⟩;have hvr:VR (w.alloc (.map #[] 0)) (G.add nx (w.heap.size,0)) (.mp nx) (.map (some w.heap.size)):=⟨_,Gh.add_same _ _ _,rfl⟩;unfold evMakeMap at h
 split at h
 ·cases h
  cases rv with
  | some v=>exact hr.elim
  | none=>exact ⟨_,_,_,_,by simp [Instr.makeMap],rfl,hvr,hst⟩
 ·rename_i kd n
  split at h
  ·rename_i kt et hu
   cases h
   cases rv with
   | none=>exact hr.elim
   | some v =>
     obtain rfl:v=.int kd n:=hr;exact ⟨_,_,_,_,by simp [Instr.makeMap,Q0f hu,asInt,asIntOf],rfl,hvr,hst⟩
  ·cases h
 ·cases h
end
end Go.Ev
end
