/- slices.Insert at []string, its four roads in one. Of no program. -/
import Derived.Test.YtabliahkhafddaaGreatPc1
import Derived.Shelf.Spec.SlicesInsertGrow
set_option linter.unusedSimpArgs false
noncomputable section
namespace Go.Ev
open Go.RowKit Go.Shelf Go.Lib Go.Proofs
theorem Q1z (b:Nat) {e:TypeId} {fr:Nat×Nat}:∀ (vs:List Value) (o:Nat) (w:World) (c:Array Value),w.heap[b]?=some (Obj.cells c e fr)→o+vs.length≤c.size →
 ∃ c':Array Value,(w.setCells b o vs).heap[b]?=some (Obj.cells c' e fr)∧c'.size=c.size∧∀ j,c'[j]?=if o≤j∧j<o+vs.length then vs[j - o]? else c[j]?
 | [],o,w,c,h,_=>⟨c,h,rfl,fun j=>by rw [if_neg (by simp only [List.length_nil];omega)]⟩
 | v :: r,o,w,c,h,hl=>by
   have h1:(w.setCell ⟨b,o,none⟩ v).heap[b]?=some (Obj.cells (c.setIfInBounds o v) e fr):=by
    simp only [World.setCell,Array.getElem?_modify];rw [if_pos trivial,h];rfl
   simp only [List.length_cons] at hl;obtain ⟨c',h2,h3,h4⟩:=Q1z b r (o+1) _ _ h1 (by simp;omega);refine ⟨c',h2,by simpa using h3,fun j=>?_⟩;rw [h4];simp only [List.length_cons]
   by_cases hj:o+1≤j∧j<o+1+r.length
   ·rw [if_pos hj,if_pos (by omega)]
    obtain ⟨k,rfl⟩:∃ k,j=o+1+k:=⟨j - (o+1),by omega⟩;rw [show o+1+k - (o+1)=k by omega,show o+1+k - o=k+1 by omega];rfl
   ·rw [if_neg hj]
    by_cases hj2:j=o
    ·subst hj2
     rw [if_pos (by omega),Nat.sub_self,Array.getElem?_setIfInBounds,if_pos rfl,if_pos (by omega)];rfl
    ·rw [if_neg (by omega),Array.getElem?_setIfInBounds,if_neg (fun h=>hj2 h.symm)]
structure Like (w w':World) (b:Nat):Prop where
 os:w'.os=w.os
 tape:w'.tape=w.tape
 output:w'.output=w.output
 size:w'.heap.size=w.heap.size
 other:∀ k,k≠b→w'.heap[k]?=w.heap[k]?
theorem Like.trans {w w1 w2:World} {b:Nat} (h:Like w w1 b) (k:Like w1 w2 b):Like w w2 b :=
 ⟨k.os.trans h.os,k.tape.trans h.tape,k.output.trans h.output,k.size.trans h.size,fun i hi=>(k.other i hi).trans (h.other i hi)⟩
theorem like_drew (w:World) (b:Nat):Like w w.drew b:=⟨rfl,rfl,rfl,rfl,fun _ _=>rfl⟩
theorem Q1p (b:Nat):∀ (vs:List Value) (o:Nat) (w:World),Like w (w.setCells b o vs) b
 | [],_,w=>⟨rfl,rfl,rfl,rfl,fun _ _=>rfl⟩
 | v::r,o,w=>by
   have h:Like w (w.setCell ⟨b,o,none⟩ v) b:=⟨rfl,rfl,rfl,by simp [World.setCell],fun k hk=>Below.heap_setCell w ⟨b,o,none⟩ v k hk⟩;exact h.trans (Q1p b r (o+1) _)
def InsPost (w:World) (rb o' n cap:Nat) (c:Array Value) (e:TypeId) (fr:Nat×Nat) (m:Nat) (row:List Value) (x:Ending) (w':World):Prop :=
 (∃ c':Array Value,x=.returned (.slice (some ⟨rb,o',none⟩) (n+m) cap)∧n+m≤cap∧c'.size=c.size∧(∀ j,j<n+m→c'[o'+j]?=row[j]?)∧Like w w' rb∧w'.heap[rb]?=some (Obj.cells c' e fr)) ∨
 (∃ (c':Array Value) (e':TypeId) (cap':Nat),x=.returned (.slice (some ⟨w.heap.size,0,none⟩) (n+m) cap')∧n+m≤cap'∧cap'≤maxLen∧c'.size=cap'∧(∀ j,j<n+m→c'[j]?=row[j]?) ∧
   w'.os=w.os∧w'.tape=w.tape∧w'.output=w.output∧w'.heap.size=w.heap.size+1∧(∀ k,k<w.heap.size→w'.heap[k]?=w.heap[k]?)∧w'.heap[w.heap.size]?=some (Obj.cells c' e' (0,0)))
section
variable {P:Program} {ρ:Ren}
theorem get_ins {cs vs:List Value} {i m:Nat} (hi:i≤cs.length) (hm:vs.length=m) (j:Nat):(cs.take i++vs++cs.drop i)[j]?=if j<i then cs[j]? else if j<i+m then vs[j - i]? else cs[j - m]?:=by
 have h1:(cs.take i).length=i:=by simp;omega
 by_cases hj:j<i
 ·rw [if_pos hj,List.append_assoc,List.getElem?_append_left (by omega),List.getElem?_take,if_pos hj]
 ·rw [if_neg hj,List.append_assoc,List.getElem?_append_right (by omega),h1]
  by_cases hj2:j<i+m
  ·rw [if_pos hj2,List.getElem?_append_left (by omega)]
  ·rw [if_neg hj2,List.getElem?_append_right (by omega),List.getElem?_drop]
   congr 1;omega
theorem insert_row (L:Lays2.n22 P ρ) {w:World} {rb o' n cap i m vb vo vc:Nat} {c c2:Array Value} {e e2:TypeId} {fr fr2:Nat×Nat} {cs vs:List Value} (hn:0<n) (hm:0<m) (hi:i≤n) (hb:(n+m)*16≤140737488355328) (hnc:n≤cap) (hc63:cap≤9223372036854775807) (hne:vb≠rb)
 (h1:w.heap[rb]?=some (Obj.cells c e fr)) (hf1:NoFr c fr) (hs1:o'+cap≤c.size) (hcl:cs.length=n) (hcs:∀ j,j<n→c[o'+j]?=cs[j]?) (h1c:∀ v∈cs,v.oneCell'=true)
 (h2:w.heap[vb]?=some (Obj.cells c2 e2 fr2)) (hf2:∀ j,j≤c2.size→w.frozen? ⟨vb,j,none⟩=false) (hs2:vo+m≤c2.size) (hvl:vs.length=m) (hvs:∀ j,j<m→c2[vo+j]?=vs[j]?) (h1v:∀ v∈vs,v.oneCell'=true) :
 Calls P (ρ.f 22) #[.slice (some ⟨rb,o',none⟩) n cap,.int .i64 i,.slice (some ⟨vb,vo,none⟩) m vc] w (InsPost w rb o' n cap c e fr m (cs.take i++vs++cs.drop i)):=by
 have hc1:∀ j v,cs[j]?=some v→w.cell? ⟨rb,o'+j,none⟩=some v:=fun j v hj=>by
  have:=(List.getElem?_eq_some_iff.1 hj).1;rw [cell_of h1,hcs j (by omega)];exact hj
 have hc2:∀ j v,vs[j]?=some v→w.cell? ⟨vb,vo+j,none⟩=some v:=fun j v hj=>by
  have:=(List.getElem?_eq_some_iff.1 hj).1;rw [cell_of h2,hvs j (by omega)];exact hj
 have hfz:∀ j,j<c.size→w.frozen? ⟨rb,j,none⟩=false:=fun j hj=>by simp only [World.frozen?,h1];exact hf1 j hj
 have hfv:=hf2;have hsp:∀ j,j<c.size→(w.cell? ⟨rb,j,none⟩).isSome=true:=fun j hj=>by rw [cell_of h1,Array.getElem?_eq_getElem hj];rfl
 have hbw:=(Array.getElem?_eq_some_iff.1 h1).1
 by_cases hroom:n+m≤cap
 ·by_cases hin:i<n
  ·refine (Any2.slices_Insert_string_shift L rb o' n cap i vb vo m vc cs vs w hin hm hroom hc63 hne hcl hvl hc1 (fun j hj=>hsp _ (by omega)) (fun j hj=>hfz _ (by omega)) hc2 h1c h1v e2 e c2.size c.size (by simp only [World.shape?,h2]) (by simp only [World.shape?,h1]) (by omega) (hfv _ (by omega)) (hfv _ (Nat.le_refl _))).mono ?_
   rintro x w' ⟨rfl,rfl⟩;have hdl:(cs.drop i).length=n - i:=by simp;omega
   obtain ⟨c3,g1,g2,g3⟩:=Q1z rb (cs.drop i) (o'+(i+m)) w.drew c h1 (by omega);obtain ⟨c4,g4,g5,g6⟩:=Q1z rb vs (o'+i) _ c3 g1 (by omega);refine .inl ⟨c4,rfl,hroom,by omega,fun j hj=>?_,((like_drew w rb).trans (Q1p rb _ _ _)).trans (Q1p rb _ _ _),g4⟩;rw [g6,g3,get_ins (by omega) hvl,hdl,hvl]
   by_cases hj1:j<i
   ·rw [if_neg (by omega),if_neg (by omega),if_pos hj1];exact hcs j (by omega)
   ·rw [if_neg hj1]
    by_cases hj2:j<i+m
    ·rw [if_pos hj2,if_pos (by omega)];congr 1;omega
    ·rw [if_neg hj2,if_neg (by omega),if_pos (by omega),List.getElem?_drop];congr 1;omega
  ·obtain rfl:i=n:=by omega
   refine (Any2.slices_Insert_string_end_room L rb o' i cap vb vo m vc vs w hm hroom hc63 hvl (fun j hj=>hsp _ (by omega)) (fun j hj=>hfz _ (by omega)) hc2 h1v).mono ?_;rintro x w' ⟨rfl,rfl⟩;obtain ⟨c4,g4,g5,g6⟩:=Q1z rb vs (o'+i) w c h1 (by omega);refine .inl ⟨c4,rfl,hroom,by omega,fun j hj=>?_,Q1p rb _ _ _,g4⟩;rw [g6,get_ins (by omega) hvl,hvl]
   by_cases hj1:j<i
   ·rw [if_neg (by omega),if_pos hj1];exact hcs j (by omega)
   ·rw [if_neg hj1,if_pos (by omega),if_pos (by omega)];congr 1;omega
 ·by_cases hin:i<n
  ·refine (Any2.slices_Insert_string_grow L rb o' n cap i vb vo m vc cs vs w hin hm hnc (by omega) hb hcl hvl hc1 hc2 h1c h1v).mono ?_
   rintro x w' ⟨rfl,rfl⟩;have hge:=grownCap_ge w (n+m) cap (ρ.t 9);have hle:=grownCap_le_maxLen w (n+m) cap (ρ.t 9) (by unfold maxLen;omega);generalize grownCap w (n+m) cap (ρ.t 9)=G at *;have hdl:(cs.drop i).length=n - i:=by simp;omega
   have htl:(cs.take i).length=i:=by simp;omega
   generalize hrow:((cs.take i).toArray++Builtin.zeroCells (Value.string ⟨#[]⟩).cells (n+m - i)++Builtin.zeroCells (Value.string ⟨#[]⟩).cells (G - (n+m)))=ROW;have hrs:ROW.size=G:=by
    rw [←hrow];simp [Builtin.zeroCells,Value.cells];omega
   have hr1:∀ j,j<i→ROW[j]?=cs[j]?:=fun j hj=>by
    rw [←hrow,Array.append_assoc,Array.getElem?_append_left (by simp;omega)];simp [hj]
   obtain ⟨c3,g1,g2,g3⟩:=Q1z w.heap.size vs i (w.alloc (Obj.cells ROW (ρ.t 9))).drew ROW (heap_alloc_new w _) (by omega);obtain ⟨c4,g4,g5,g6⟩:=Q1z w.heap.size (cs.drop i) (i+m) _ c3 (show (((w.alloc (Obj.cells ROW (ρ.t 9))).drew.setCells w.heap.size i vs).drew).heap[w.heap.size]?=_ from g1) (by omega);have hlk:=((like_drew (w.alloc (Obj.cells ROW (ρ.t 9))) w.heap.size).trans (Q1p w.heap.size vs i _)).trans ((like_drew _ w.heap.size).trans (Q1p w.heap.size (cs.drop i) (i+m) _));refine .inr ⟨c4,_,G,rfl,hge,hle,by omega,fun j hj=>?_,hlk.os,hlk.tape,hlk.output,hlk.size.trans (size_alloc' _ _),fun k hk=>(hlk.other k (by omega)).trans (heap_alloc_old w _ hk),g4⟩;rw [g6,g3,get_ins (by omega) hvl,hdl,hvl]
   by_cases hj1:j<i
   ·rw [if_neg (by omega),if_neg (by omega),if_pos hj1];exact hr1 j hj1
   ·rw [if_neg hj1]
    by_cases hj2:j<i+m
    ·rw [if_pos hj2,if_neg (by omega),if_pos (by omega)]
    ·rw [if_neg hj2,if_pos (by omega),List.getElem?_drop];congr 1;omega
  ·obtain rfl:i=n:=by omega
   refine (Any2.slices_Insert_string_end_grow L (some ⟨rb,o',none⟩) i cap vb vo m vc cs vs w hm hnc (by omega) hb hcl hvl (fun h=>by cases h) (fun a ha j v hj=>by cases ha;rw [Addr.add_lit];exact hc1 j v hj) hc2 h1v).mono ?_;rintro x w' ⟨rfl,rfl⟩;have hge:=grownCap_ge w (i+m) cap (ρ.t 9);have hle:=grownCap_le_maxLen w (i+m) cap (ρ.t 9) (by unfold maxLen;omega);generalize grownCap w (i+m) cap (ρ.t 9)=G at *;refine .inr ⟨_,_,G,rfl,hge,hle,?_,fun j hj=>?_,rfl,rfl,rfl,size_alloc' _ _,fun k hk=>heap_alloc_old w _ hk,heap_alloc_new w _⟩
   ·simp [Builtin.zeroCells,Value.cells];omega
   ·rw [Array.getElem?_append_left (by simp;omega),List.getElem?_toArray,List.take_of_length_le (by omega),List.drop_of_length_le (by omega),List.append_nil]
theorem insert_nil (L:Lays2.n22 P ρ) {w:World} {m vb vo vc:Nat} {c2:Array Value} {e2:TypeId} {fr2:Nat×Nat} {vs:List Value} (hm:0<m) (hb:m*16≤140737488355328)
 (h2:w.heap[vb]?=some (Obj.cells c2 e2 fr2)) (hvl:vs.length=m) (hvs:∀ j,j<m→c2[vo+j]?=vs[j]?) (h1v:∀ v∈vs,v.oneCell'=true) (rb o':Nat) (c:Array Value) (e:TypeId) (fr:Nat×Nat) :
 Calls P (ρ.f 22) #[.slice none 0 0,.int .i64 0,.slice (some ⟨vb,vo,none⟩) m vc] w (InsPost w rb o' 0 0 c e fr m vs):=by
 have hc2:∀ j v,vs[j]?=some v→w.cell? ⟨vb,vo+j,none⟩=some v:=fun j v hj=>by
  have:=(List.getElem?_eq_some_iff.1 hj).1;rw [cell_of h2,hvs j (by omega)];exact hj
 refine (Any2.slices_Insert_string_end_grow L none 0 0 vb vo m vc [] vs w hm (Nat.le_refl _) (by omega) (by omega) rfl hvl (fun _=>rfl) (fun a ha=>by cases ha) hc2 h1v).mono ?_;rintro x w' ⟨rfl,rfl⟩;have hge:=grownCap_ge w (0+m) 0 (ρ.t 9);have hle:=grownCap_le_maxLen w (0+m) 0 (ρ.t 9) (by unfold maxLen;omega);generalize grownCap w (0+m) 0 (ρ.t 9)=G at *;refine .inr ⟨_,_,G,rfl,hge,hle,?_,fun j hj=>?_,rfl,rfl,rfl,size_alloc' _ _,fun k hk=>heap_alloc_old w _ hk,heap_alloc_new w _⟩
 ·simp [Builtin.zeroCells,Value.cells];omega
 ·rw [Array.getElem?_append_left (by simp;omega),List.getElem?_toArray,List.nil_append]
end
section
variable {P:Program} {GT:GTab} {base:Nat} {F:Nat→Prop} {rd:List Mem} {cur:Mem} {nx:Nat} {w:World} {G:Gh}
theorem gs_cells (hm:MR base GT F rd cur nx w G) {b o n k:Nat} {cs:List AV} {r:Value} (hg:getR (cur::rd) b=some (.cells cs)) (hv:VR w G (.gs b o n 1 k) r) (hn:0<n) (hon:o+n≤cs.length) :
 ∃ rb ro cap c e fr,G.μ b=some (rb,ro)∧r=.slice (some ⟨rb,ro+o,none⟩) n cap∧n≤cap∧cap≤9223372036854775807∧w.heap[rb]?=some (Obj.cells c e fr)∧NoFr c fr∧ro+o+cap≤c.size∧CellsR w G c ro cs ∧
   VRs w G ((cs.drop o).take n) ((c.toList.drop (ro+o)).take n):=by
 obtain ⟨rb,ro,o',cap,c,e,fr,hmu,rfl,ho,hk,hheap,hsz,-,-,h63⟩:=hv;obtain ⟨rb',ro',e1,_,_,c',e',fr',h1,hnf,h2⟩:=hm.blk b _ hg;rw [hmu] at e1;cases e1;rw [hheap] at h1;cases h1;obtain rfl:o'=ro+o:=ho.resolve_right (by omega);refine ⟨rb,ro,cap,c,e,fr,hmu,rfl,hk,h63,hheap,hnf,by omega,h2,VRs.of_get ?_ fun i a v ha hvv=>?_⟩
 ·simp;omega
 ·rw [List.getElem?_take] at ha hvv
  split at ha
  ·rename_i hi
   rw [if_pos hi] at hvv;rw [List.getElem?_drop] at ha hvv;obtain ⟨u,h6,h7⟩:=h2 _ a ha;have:u=v:=by
    have h8:c[ro+o+i]?=some v:=by simpa using hvv
    rw [Nat.add_assoc,h6] at h8;exact Option.some.inj h8
   subst this;exact h7
  ·cases ha
theorem row_get {c:Array Value} {o n j:Nat} (hj:j<n):c[o+j]?=((c.toList.drop o).take n)[j]?:=by
 rw [List.getElem?_take,if_pos hj,List.getElem?_drop];simp
end
end Go.Ev
end
