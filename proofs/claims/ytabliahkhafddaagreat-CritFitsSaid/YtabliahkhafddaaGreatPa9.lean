/- The evaluator's operations that make memory or turn it: each does what the program does. -/
import Derived.Test.YtabliahkhafddaaGreatPa8
import Derived.Lib.AppendZeros
set_option linter.unusedSimpArgs false
noncomputable section
namespace Go.Ev
open Go.RowKit
section
variable {P:Program} {w:World} {G:Gh} {ev:Operand→AV} {ρ:Operand→Value} {base:Nat} {GT:GTab} {F:Nat→Prop} {rd:List Mem} {cur:Mem} {nx:Nat} {ty:TypeId} {a:AV}
theorem zerosA_length (z:List Value) (n:Nat):(zerosA z n).length=n*z.length:=by
 induction n with
 | zero=>simp [zerosA]
 | succ n ih=>simp [zerosA,ih,Nat.add_mul];omega
theorem zerosA_get (z:List Value) (n i:Nat) (a:AV) (h:(zerosA z n)[i]?=some a):∃ v,z[i % z.length]?=some v∧a=.g v:=by
 induction n generalizing i with
 | zero=>simp [zerosA] at h
 | succ n ih =>
   simp only [zerosA] at h
   by_cases hi:i<z.length
   ·rw [List.getElem?_append_left (by simpa using hi),List.getElem?_map] at h
    rw [Nat.mod_eq_of_lt hi]
    cases hz:z[i]? with
    | none=>rw [hz] at h;cases h
    | some v=>rw [hz] at h;exact ⟨v,rfl,by simpa using h.symm⟩
   ·rw [List.getElem?_append_right (by simp;omega)] at h
    obtain ⟨v,h1,h2⟩:=ih _ h;refine ⟨v,?_,h2⟩;rw [←h1]
    congr 1
    simp only [List.length_map];exact Nat.mod_eq_sub_mod (by omega)
theorem Q1c (P:Program) (g o:Nat) (t:TypeId) (fr:Nat×Nat):∀ (vs:List Value) (i:Nat) (cur:Array Value) (w:World),w.heap[g]?=some (Obj.cells cur t fr)→NoFr cur fr→o+i+vs.length≤cur.size→(∀ v∈vs,v.oneCell'=true) →
 (storeCells ⟨g,o,none⟩ vs i).run P w=.ok () (w.setRow g (cur.toList.take (o+i)++vs++cur.toList.drop (o+i+vs.length)).toArray)
 | [],i,cur,w,hg,_,_,_=>by
   simp only [storeCells,List.append_nil,List.length_nil,Nat.add_zero,List.take_append_drop,Array.toArray_toList];rw [setRow_self w g cur t fr hg]
   rfl
 | v::rest,i,cur,w,hg,hn,hl,h1=>by
   have hi:o+i<cur.size:=by simp at hl;omega
   have hcell:w.cell? ⟨g,o+i,none⟩=some cur[o+i]:=by simp [World.cell?,hg,hi]
   have hfro:w.frozen? ⟨g,o+i,none⟩=false:=by
    have:=hn (o+i) hi;simp only [World.frozen?,hg];exact this
   have hst:(store ((⟨g,o,none⟩:Addr).add i) v).run P w=.ok () (w.setRow g (cur.setIfInBounds (o+i) v)):=by
    rw [add_lit,run_store P w _ v _ (h1 v (by simp)),hcell];simp [hfro,setCell_eq_setRow w g (o+i) cur t fr v hg]
   have ih:=Q1c P g o t fr rest (i+1) (cur.setIfInBounds (o+i) v) (w.setRow g (cur.setIfInBounds (o+i) v)) (setRow_heap w g cur _ t _ hg) (hn.size (by simp)) (by simp at hl ⊢;omega) (fun x hx=>h1 x (by simp [hx]));simp only [storeCells,Sem.run_bind,hst,Result.andThen_ok,ih,setRow_setRow]
   congr 3
   have e:=list_seg_step cur.toList (o+i) v rest (by simp at hl ⊢;omega);simpa [Array.toList_setIfInBounds,Nat.add_assoc] using e
theorem evStore_sound (hm:MR base GT F rd cur nx w G) (H:∀ x,VR w G (ev x) (ρ x)) {t:TypeId} {x y:Operand} {res:Option AV×Mem×Nat}
 (h:evStore P cur nx t (ev x) (ev y)=some res):MemS P base GT F rd cur nx w G (execOp ρ (mkO (.store t x y) ty)) res:=by
 unfold evStore at h
 split at h
 ·rename_i b o pc i hx hpc hi
  split at h
  ·rename_i cs hg
   split at h
   ·rename_i hc
    cases h
    have hx1:=H x;rw [hx] at hx1;obtain ⟨rb,ro,hmu,hr⟩:=hx1;obtain ⟨h3,h4,h5⟩:=cellsA_spec hpc (H y);obtain ⟨rb',ro',e1,_,_,c,e,fr,hheap,hnf,hcs⟩:=hm.blk b _ (Q0b hg);rw [hmu] at e1;cases e1;have hlen:=h3.len;simp only [Array.length_toList] at hlen
    by_cases hpn:pc.length=0
    ·obtain rfl:pc=[]:=List.eq_nil_of_length_eq_zero hpn
     have hv0:(ρ y).cells=#[]:=by simpa using hlen
     refine ⟨.skip,w,G,?_,trivial,?_⟩
     ·simp [execOp,mkO,Instr.storeAt,hr,Instr.sureAddr,storeVar,Q0x hi,hv0,←hc.1,storeCells]
     ·have hid:putA cs o []=cs:=by simp [putA]
      rw [hid];refine Stp.forget hm (fun d k hd=>?_) (fun d k hd=>?_) (Nat.le_refl _)
      ·rw [Q0c,Mem.get_set] at hd
       rw [Q0c]
       by_cases hbd:b=d
       ·subst hbd;rw [if_pos rfl,hg] at hd;rw [hg];exact hd
       ·rw [if_neg hbd] at hd;exact hd
      ·rw [Mem.get_set] at hd
       by_cases hbd:b=d
       ·subst hbd;rw [if_pos rfl,hg] at hd;rw [hg];exact hd
       ·rw [if_neg hbd] at hd;exact hd
    ·have hcl:ro+cs.length≤c.size:=by
      rcases hcs.le with h6 | h6
      ·subst h6;exfalso;have:=hc.2;simp only [List.length_nil] at this;omega
      ·exact h6
     have hst:=Q1c P rb (ro+o) e fr (ρ y).cells.toList 0 c w hheap hnf (by simp;omega) h4;simp only [Nat.add_zero] at hst;have hrow:w.setRow rb (c.toList.take (ro+o)++(ρ y).cells.toList++c.toList.drop (ro+o+(ρ y).cells.toList.length)).toArray=setBlk w rb (Obj.cells (putA c.toList (ro+o) (ρ y).cells.toList).toArray e fr):=by
      unfold World.setRow setBlk
      congr 1
      have hlt:=(Array.getElem?_eq_some_iff.1 hheap);obtain ⟨hlt,hval⟩:=hlt;apply Array.ext_getElem?;intro j;rw [Array.getElem?_modify,Array.getElem?_setIfInBounds]
      by_cases hj:rb=j
      ·subst hj
       rw [if_pos rfl,if_pos rfl,if_pos hlt,hheap];simp [putA,List.append_assoc]
      ·rw [if_neg hj,if_neg hj]
     refine ⟨.skip,setBlk w rb (Obj.cells (putA c.toList (ro+o) (ρ y).cells.toList).toArray e fr),G,?_,trivial,?_⟩
     ··simp only [execOp,mkO,Instr.storeAt,hr,Instr.sureAddr,storeVar,Sem.run_bind,Sem.run_pure,Result.andThen_ok,Q0x hi]
       rw [Sem.run_ite,if_neg (by omega),hst,hrow]
       rfl
     ·refine Stp.write hm _ hg hmu (fun c' e' fr' hh=>?_) (fun hext=>?_)
      ·rw [hheap] at hh;cases hh
       exact ⟨_,fr,rfl,by simp [Q1l _ _ _ (show ro+o+(ρ y).cells.toList.length≤c.toList.length by simp;omega)]⟩
      ·refine ⟨_,e,fr,Q1k w _ (Array.getElem?_eq_some_iff.1 hheap).1,hnf.size (by simp [Q1l _ _ _ (show ro+o+(ρ y).cells.toList.length≤c.toList.length by simp;omega)]),fun j a' hj=>?_⟩
       rw [Q3e _ _ _ (by omega)] at hj;have hg2:=Q3e c.toList (ro+o) (ρ y).cells.toList (by simp;omega) (ro+j);simp only [List.getElem?_toArray];rw [hg2]
       by_cases hj1:j<o
       ·rw [if_pos hj1] at hj
        rw [if_pos (by omega)];obtain ⟨v,h6,h7⟩:=hcs j a' hj;exact ⟨v,by simpa using h6,VR.mono hext a' h7⟩
       ·rw [if_neg hj1] at hj
        rw [if_neg (by omega)]
        by_cases hj2:j<o+pc.length
        ·rw [if_pos hj2] at hj
         rw [if_pos (by simp;omega)];obtain ⟨v,h6,h7⟩:=h3.get hj;exact ⟨v,by rw [←h6];congr 1;omega,VR.mono hext a' h7⟩
        ·rw [if_neg hj2] at hj
         rw [if_neg (by simp;omega)];obtain ⟨v,h6,h7⟩:=hcs j a' hj;exact ⟨v,by simpa using h6,VR.mono hext a' h7⟩
   ·cases h
  ·cases h
 ·cases h
theorem und_zeros {xt:TypeId} (h:slOrStr (P.underlying xt)=true):(∃ e,P.underlying xt=some (.slice e))∨P.underlying xt=some .string:=by
 cases hd:P.underlying xt with
 | none=>rw [hd] at h;cases h
 | some d=>rw [hd] at h;cases d <;> first | (exact .inl ⟨_,rfl⟩) | (exact .inr rfl) | (simp [slOrStr] at h)
theorem run_app_room {t xt ty e:TypeId} {i:TypeInfo} (ht:P.underlying t=some (.slice e)) (hxt:slOrStr (P.underlying xt)=true) (hi:P.info? e=some i) (ad:Option Addr) (sLen sCap m:Nat) (x:Value) (vs:List Value)
 (hl:(Builtin.lenOf x).run P w=.ok m w) (hf:(Builtin.firstCells i.size m x).run P w=.ok vs.toArray w) (hroom:sLen+m≤sCap) :
 (Builtin.append_ #[t,xt] ty #[.slice ad sLen sCap,x]).run P w=match ad with
   | none=>.ok (.slice ad (sLen+m) sCap) w
   | some a=>((storeCells (a.add (sLen*i.size)) vs).run P w).andThen fun _ w'=>.ok (.slice ad (sLen+m) sCap) w':=by
 rcases und_zeros hxt with ⟨d,hd⟩ | hd <;> cases ad <;> simp [Builtin.append_,Q0f ht,Q0f hd,Q0x hi,hl,hroom,hf]
theorem nextcap_le {need old:Nat} (h:old<need):Builtin.nextslicecap need old≤2*need+1200:=by
 unfold Builtin.nextslicecap
 split
 ·omega
 ·split
  ·omega
  ·have hg:∀ (k c:Nat),c<need→Builtin.growBy need k c≤2*need+1200:=by
    intro k
    induction k with
    | zero=>intro c hc;simp [Builtin.growBy];omega
    | succ k ih =>
      intro c hc;simp only [Builtin.growBy]
      split
      ·omega
      ·by_cases h2:c+(c+768) / 4<need
       ·exact ih _ h2
       ·cases k with
        | zero=>simp [Builtin.growBy];omega
        | succ k=>simp only [Builtin.growBy];rw [if_pos (by omega)];omega
   exact hg 4 old h
theorem run_app_new {t xt ty e:TypeId} {i:TypeInfo} {z:Value} (ht:P.underlying t=some (.slice e)) (hxt:slOrStr (P.underlying xt)=true) (hi:P.info? e=some i) (hz0:i.zero=some z) (ad:Option Addr) (sLen sCap m:Nat) (x:Value) (vs us:List Value)
 (hl:(Builtin.lenOf x).run P w=.ok m w) (hf:(Builtin.firstCells i.size m x).run P w.drew=.ok vs.toArray w.drew) (ho:(Builtin.firstCells i.size sLen (.slice ad sLen sCap)).run P w.drew=.ok us.toArray w.drew)
 (hroom:¬sLen+m≤sCap) (hb:(sLen+m)*(i.bytes+1)≤17179869184) :
 ∃ k,sLen+m+k≤9223372036854775807∧(Builtin.append_ #[t,xt] ty #[.slice ad sLen sCap,x]).run P w=.ok (.slice (some ⟨w.heap.size,0,none⟩) (sLen+m) (sLen+m+k)) (w.drew.alloc (Obj.cells (us.toArray++(vs.toArray++Builtin.zeroCells z.cells k)) e)):=by
 have hge:=grownCap_ge w (sLen+m) sCap e;have hn:(sLen+m)*1≤(sLen+m)*(i.bytes+1):=Nat.mul_le_mul_left _ (by omega);have h63:¬(9223372036854775807<(sLen:Int)+(m:Int)):=by omega
 have hnc:=nextcap_le (need:=sLen+m) (old:=sCap) (by omega);have hbb:Builtin.nextslicecap (sLen+m) sCap*i.bytes≤(2*(sLen+m)+1200)*i.bytes:=Nat.mul_le_mul_right _ hnc;have hb2:(sLen+m)*i.bytes≤17179869184:=Nat.le_trans (Nat.mul_le_mul_left _ (by omega)) hb;have hb3:1*(i.bytes+1)≤(sLen+m)*(i.bytes+1):=Nat.mul_le_mul_right _ (by omega);have hb4:(2*(sLen+m)+1200)*i.bytes=2*((sLen+m)*i.bytes)+1200*i.bytes:=by rw [Nat.add_mul,Nat.mul_assoc]
 have h48:¬(281474976710656<Builtin.nextslicecap (sLen+m) sCap*i.bytes):=by omega
 have hmx:=grownCap_le_maxLen w (sLen+m) sCap e (by unfold maxLen;omega);unfold maxLen at hmx;refine ⟨grownCap w (sLen+m) sCap e - (sLen+m),by omega,?_⟩;have hcap:sLen+m+(grownCap w (sLen+m) sCap e - (sLen+m))=grownCap w (sLen+m) sCap e:=by omega
 rw [hcap];rcases und_zeros hxt with ⟨d,hd⟩ | hd <;> simp [Builtin.append_,Q0f ht,Q0f hd,sizeOf,typeInfo,zeroValue,hi,hz0,hl,hroom,h63,h48,Question.forced,hf,ho,newRow,grownCap]
theorem VRs.oneCells {as:List AV} {vs:List Value} (h:VRs w G as vs) (hc:as.all isCell=true):∀ u∈vs,u.oneCell'=true:=by
 intro u hu;obtain ⟨i,hi⟩:=List.getElem?_of_mem hu;have hlt:=(List.getElem?_eq_some_iff.1 hi).1;rw [h.len] at hlt;exact (Q3z (List.all_eq_true.1 hc _ (List.getElem_mem hlt)) (h.get2 (List.getElem?_eq_getElem hlt) hi)).1
theorem Stp.appNew (hm:MR base GT F rd cur nx w G) (hF:F nx) {e:TypeId} {c:Array Value} {cs:List AV} (h:CellsR w G c 0 cs) :
 Stp base GT F rd cur nx w G (Mem.put cur nx (.cells cs)) (nx+1) (w.drew.alloc (Obj.cells c e)) (G.add nx (w.heap.size,0)):=by
 have h1:Stp base GT F rd cur nx w G cur nx w.drew G:=Stp.world hm rfl rfl rfl (Nat.le_refl _) fun _ _=>rfl;obtain ⟨w',G',_,rfl,rfl,h2⟩:=Q3g (P:=default) h1.mr hF (e:=e) (h.mono h1.ext);exact h1.trans h2
theorem VRs.of_get:∀ {as:List AV} {vs:List Value},as.length=vs.length→(∀ (i:Nat) (a:AV) (v:Value),as[i]?=some a→vs[i]?=some v→VR w G a v)→VRs w G as vs
 | [],[],_,_=>by simp [VRs]
 | [],_::_,h,_=>by simp at h
 | _::_,[],h,_=>by simp at h
 | a::as,v::vs,h,hg=>VRs.cons_mk (hg 0 a v rfl rfl) (VRs.of_get (by simpa using h) fun i a' v' h1 h2=>hg (i+1) a' v' (by simpa using h1) (by simpa using h2))
theorem zeroCells_toList (z:Array Value) (n:Nat):(Builtin.zeroCells z n).toList=(List.range (n*z.size)).map fun j=>z[j % z.size]! := by
 simp [Builtin.zeroCells,Array.toList_range]
theorem zerosA_vrs (z:Value) (n:Nat):VRs w G (zerosA z.cells.toList n) (Builtin.zeroCells z.cells n).toList:=by
 refine VRs.of_get (by rw [zerosA_length,Array.length_toList,Array.length_toList,size_zeroCells]) fun i a v h1 h2=>?_;obtain ⟨u,h3,rfl⟩:=zerosA_get _ _ _ _ h1;rw [zeroCells_toList,List.getElem?_map] at h2;obtain ⟨j,h4,rfl⟩:=Option.map_eq_some_iff.1 h2;obtain ⟨h5,h6⟩:=List.getElem?_eq_some_iff.1 h4;rw [List.getElem_range] at h6;subst h6;obtain ⟨h7,h8⟩:=List.getElem?_eq_some_iff.1 h3;simp only [Array.length_toList] at h7 h8;show z.cells[i % z.cells.size]! = u;rw [←h8];simp [h7]
theorem evAppZ_sound (hm:MR base GT F rd cur nx w G) {t xt ty e:TypeId} {i:TypeInfo} {s x:AV} {sv xv:Value} (hu:P.underlying t=some (.slice e)) (hi:P.info? e=some i) (hs:VR w G s sv) (hx:VR w G x xv) {res:Option AV×Mem×Nat}
 (h:evAppZ P cur nx i xt s x=some res) (hF:∀ b,nx≤b→b<res.2.2→F b) :
 ∃ r w' G' a,(Builtin.append_ #[t,xt] ty #[sv,xv]).run P w=.ok r w'∧res.1=some a∧VR w' G' a r∧Stp base GT F rd cur nx w G res.2.1 res.2.2 w' G':=by
 unfold evAppZ at h
 split at h
 ·rename_i k z kx n hxt hz
  split at h
  ·rename_i hc
   obtain ⟨h0,hb,hsz0,hzs⟩:=hc
   cases h
   obtain rfl:sv=.slice none 0 0:=hs;obtain rfl:xv=.int kx (Int.ofNat n):=hx;have hn1:n*1≤n*(i.bytes+1):=Nat.mul_le_mul_left _ (by omega);have hn2:n*i.bytes≤n*(i.bytes+1):=Nat.mul_le_mul_left _ (by omega);have hrun:=Lib.run_append_nil_zeros w t xt ty e i z kx k hu hxt hi hz n h0 hsz0 (by omega) (by omega);have hge:=grownCap_ge w n 0 e;have hv:=zerosA_vrs (w:=w) (G:=G) z n
   have hst:=Stp.appNew hm (hF nx (Nat.le_refl _) (by simp)) (e:=e) (c:=Builtin.zeroCells z.cells n++Builtin.zeroCells z.cells (grownCap w n 0 e - n)) (cs:=zerosA z.cells.toList n) (fun j a hj=>by
    obtain ⟨v,h1,h2⟩:=hv.get hj;refine ⟨v,?_,h2⟩;have hlt:=(List.getElem?_eq_some_iff.1 h1).1;rw [Nat.zero_add,Array.getElem?_append_left (by simpa using hlt)]
    simpa using h1)
   refine ⟨_,_,_,_,hrun,rfl,?_,hst⟩;refine ⟨w.heap.size,0,0,grownCap w n 0 e,_,e,(0,0),Gh.add_same _ _ _,rfl,.inl rfl,by omega,heap_alloc_new w.drew _,?_,by omega,by omega,?_⟩
   rotate_left
   ·have:=grownCap_le_maxLen w n 0 e (by unfold maxLen;omega)
    unfold maxLen at this;omega
   simp only [Array.size_append,size_zeroCells,hzs,Nat.zero_add];rw [←Nat.add_mul];have:n+(grownCap w n 0 e - n)=grownCap w n 0 e:=by omega
   rw [this];exact Nat.le_refl _
  ·cases h
 ·cases h
theorem evClear_sound (hm:MR base GT F rd cur nx w G) {t ty:TypeId} {s:AV} {sv:Value} (hs:VR w G s sv) {res:Option AV×Mem×Nat}
 (h:evClear P cur t nx s=some res):∃ w',(Builtin.clear_ #[t] ty #[sv]).run P w=.ok (.tuple #[]) w'∧res.1=some (.g (.tuple #[]))∧Stp base GT F rd cur nx w G res.2.1 res.2.2 w' G:=by
 unfold evClear at h
 split at h
 ·rename_i e b o n sz kc hu
  split at h
  ·rename_i z cs hz hg
   split at h
   ·rename_i hc
    obtain ⟨h0,hp,hzs,hob,hcell⟩:=hc
    cases h
    obtain ⟨rb,ro,o',cap,c,e1,fr,hmu,rfl,ho,hkc,hheap,hfit,hk1,hk2⟩:=hs;obtain ⟨rb',ro',e2,_,_,c',e',fr',hheap',hnf,hcs⟩:=hm.blk b _ (Q0b hg);rw [hmu] at e2;cases e2;rw [hheap] at hheap';cases hheap';have hoo:o'=ro+o:=ho.resolve_right (by omega);subst hoo;have hvs:=zerosA_vrs (w:=w) (G:=G) z n;have hnl:=hvs.len;have hvl:(Builtin.zeroCells z.cells n).toList.length=n*sz:=by rw [Array.length_toList,size_zeroCells,hzs]
    generalize hvz:(Builtin.zeroCells z.cells n).toList=vs at *;have hmul:n*sz≤cap*sz:=Nat.mul_le_mul_right _ hkc;have hst:=Q1c P rb (ro+o) e1 fr vs 0 c w hheap hnf (by omega) (hvs.oneCells hcell);simp only [Nat.add_zero] at hst;have hrow:w.setRow rb (c.toList.take (ro+o)++vs++c.toList.drop (ro+o+vs.length)).toArray=setBlk w rb (Obj.cells (putA c.toList (ro+o) vs).toArray e1 fr):=by
     unfold World.setRow setBlk
     congr 1
     obtain ⟨hlt,hval⟩:=Array.getElem?_eq_some_iff.1 hheap;apply Array.ext_getElem?;intro j;rw [Array.getElem?_modify,Array.getElem?_setIfInBounds]
     by_cases hj:rb=j
     ·subst hj
      rw [if_pos rfl,if_pos rfl,if_pos hlt,hheap];simp [putA,List.append_assoc]
     ·rw [if_neg hj,if_neg hj]
    rw [hrow] at hst;have hpl:=Q1l c.toList (ro+o) vs (by simp;omega);have hob':o+(zerosA z.cells.toList n).length≤cs.length:=by omega
    have s2:=Stp.write hm (b:=b) (k':=.cells (putA cs o (zerosA z.cells.toList n))) (Obj.cells (putA c.toList (ro+o) vs).toArray e1 fr) hg hmu
     (fun c' e' fr' hh=>by
       rw [hheap] at hh;cases hh
       exact ⟨_,fr,rfl,by simp [hpl]⟩)
     (fun hext=>by
       refine ⟨_,e1,fr,Q1k w _ (Array.getElem?_eq_some_iff.1 hheap).1,hnf.size (by simp [hpl]),fun j a' hj=>?_⟩;have hg2:=Q3e c.toList (ro+o) vs (by simp;omega) (ro+j);simp only [List.getElem?_toArray];rw [hg2];rw [Q3e cs o (zerosA z.cells.toList n) (by omega)] at hj
       by_cases hj1:j<o
       ·rw [if_pos hj1] at hj
        rw [if_pos (by omega)];obtain ⟨v,h6,h7⟩:=hcs _ a' hj;exact ⟨v,by simpa using h6,VR.mono hext a' h7⟩
       ·rw [if_neg hj1] at hj
        rw [if_neg (by omega)]
        by_cases hj2:j<o+(zerosA z.cells.toList n).length
        ·rw [if_pos hj2] at hj
         rw [if_pos (by omega)];obtain ⟨v,h6,h7⟩:=hvs.get hj;exact ⟨v,by rw [←h6];congr 1;omega,VR.mono hext a' h7⟩
        ·rw [if_neg hj2] at hj
         rw [if_neg (by omega)];obtain ⟨v,h6,h7⟩:=hcs _ a' hj
         exact ⟨v,by simpa using h6,VR.mono hext a' h7⟩)
    refine ⟨_,?_,rfl,s2⟩;have hz':(zeroValue e).run P w=.ok z w:=by
     cases hi:P.info? e with
     | none=>rw [hi] at hz;cases hz
     | some i=>rw [hi] at hz;simp only [Option.bind_some] at hz;simp [zeroValue,typeInfo,hi,hz]
    obtain ⟨n',rfl⟩:∃ n',n=n'+1:=⟨n - 1,by omega⟩;simp [Builtin.clear_,Q0f hu,hz',hvz,hst]
   ·cases h
  ·cases h
 ·cases h
theorem evAppend_sound (hm:MR base GT F rd cur nx w G) (H:∀ x,VR w G (ev x) (ρ x)) {t xt:TypeId} {s x:Operand} {ats:Array TypeId} {args:Array Operand} (hargs:args=#[s,x]) (hats:ats=#[t,xt]) {res:Option AV×Mem×Nat}
 (h:evAppend P rd cur nx t xt (ev s) (ev x)=some res) (hF:∀ b,nx≤b→b<res.2.2→F b):MemS P base GT F rd cur nx w G (execOp ρ (mkO (.call { callee:=.builtin .append,args:=args,argTypes:=ats }) ty)) res:=by
 subst hargs hats
 have hop:∀ {r:Value} {w':World} {G':Gh} {a:AV} {cur':Mem} {nx':Nat},(Builtin.append_ #[t,xt] ty #[ρ s,ρ x]).run P w=.ok r w'→VR w' G' a r→Stp base GT F rd cur nx w G cur' nx' w' G' →
  MemS P base GT F rd cur nx w G (execOp ρ (mkO (.call { callee:=.builtin .append,args:=#[s,x],argTypes:=#[t,xt] }) ty)) (some a,cur',nx'):=by
  intro r w' G' a cur' nx' h1 h2 h3;exact ⟨.value r,w',G',by simp [execOp,mkO,resolve,invoke,builtin,h1],h2,h3⟩
 unfold evAppend at h
 split at h
 ·rename_i e hu
  split at h
  ·rename_i i hi hxt
   split at h
   ·rename_i z news m hz hnews
    obtain ⟨vs,hlen,hfc,hvs,hvl,hlen'⟩:=newsA_run (P:=P) hm hnews (H x)
    split at h
    ·rename_i h0
     subst h0
     split at h
     ·rename_i hs
      cases h
      have hv0:vs=[]:=List.eq_nil_of_length_eq_zero (by simpa using hvl);subst hv0;have hsl:∃ ad n c,ρ s=.slice ad n c∧n≤c:=by
       have h1:=H s;unfold isSlice at hs
       split at hs
       ·rename_i n sz cs hes;rw [hes] at h1;obtain ⟨ad,cap,h2,h3,_⟩:=h1;exact ⟨_,_,_,h2,h3⟩
       ·rename_i b o n sz hes;rw [hes] at h1;obtain ⟨_,_,_,cap,_,_,_,_,h2,_,h3,_⟩:=h1;exact ⟨_,_,_,h2,h3⟩
       ·rename_i hes;rw [hes] at h1;obtain ⟨ad,h2⟩:=h1;exact ⟨_,_,_,h2,Nat.le_refl _⟩
       ·rename_i hes;rw [hes] at h1;exact ⟨_,_,_,h1,Nat.le_refl _⟩
       ·cases hs
      obtain ⟨ad,n,c,hr,hnc⟩:=hsl;have hrun:=run_app_room (P:=P) (w:=w) (ty:=ty) hu hxt hi ad n c 0 (ρ x) [] hlen (hfc w rfl) (by omega);rw [←hr] at hrun;refine hop (r:=ρ s) (w':=w) (G':=G) ?_ (H s) (.refl hm);rw [hrun]
      cases ad <;> simp [storeCells,hr]
     ·cases h
    ·rename_i hm0
     split at h
     ·rename_i hc
      obtain ⟨hcell,hsz,hzs⟩:=hc;have fresh:∀ (ad:Option Addr),F nx→ρ s=.slice ad 0 0→m*(i.bytes+1)≤17179869184→MemS P base GT F rd cur nx w G (execOp ρ (mkO (.call { callee:=.builtin .append,args:=#[s,x],argTypes:=#[t,xt] }) ty)) (some (.gs nx 0 m i.size m),Mem.put cur nx (.cells news),nx+1):=by
       intro ad hFn hr hb;obtain ⟨k,hkm,hk⟩:=run_app_new (P:=P) (w:=w) (ty:=ty) hu hxt hi hz ad 0 0 m (ρ x) vs [] hlen (hfc w.drew rfl) (by cases ad <;> simp [Builtin.firstCells,loadCells,loadCellsFrom]) (by omega) (by simpa using hb)
       rw [←hr] at hk
       have hst:=Stp.appNew hm hFn (e:=e) (c:=#[]++(vs.toArray++Builtin.zeroCells z.cells k)) (cs:=news) (fun j a hj=>by
        obtain ⟨v,h1,h2⟩:=hvs.get hj;refine ⟨v,?_,h2⟩;have hlt:=(List.getElem?_eq_some_iff.1 h1).1;simp only [Array.empty_append,Nat.zero_add];rw [Array.getElem?_append_left (by simpa using hlt)]
        simpa using h1)
       refine hop hk ?_ hst;refine ⟨w.heap.size,0,0,0+m+k,_,e,(0,0),Gh.add_same _ _ _,by rw [Nat.zero_add],.inl rfl,by omega,heap_alloc_new w.drew _,?_,by omega,by omega,by omega⟩;simp only [Array.size_append,List.size_toArray,size_zeroCells,hzs,hvl,List.length_nil,Nat.zero_add,Nat.add_mul];omega
      split at h
      ·rename_i hes
       split at h
       ·rename_i hb
        cases h
        have h1:=H s;rw [hes] at h1;obtain ⟨ad,h2⟩:=h1;exact fresh ad (hF nx (Nat.le_refl _) (by simp)) h2 hb
       ·cases h
      ·rename_i hes
       split at h
       ·rename_i hb
        cases h
        have h1:=H s;rw [hes] at h1;exact fresh none (hF nx (Nat.le_refl _) (by simp)) h1 hb
       ·cases h
      ·rename_i b o k sz kc hes
       split at h
       ·rename_i bc hg hnr
        split at h
        ·rename_i hc2
         obtain ⟨rfl,hkc2,hob⟩:=hc2
         cases h
         have h1:=H s;rw [hes] at h1;obtain ⟨rb,ro,o',cap,c,e1,fr,hmu,hr,ho,hkc,hheap,hfit,hk1,hk2⟩:=h1;obtain ⟨rb',ro',e2,_,_,c',e',fr',hheap',hnf,hcs⟩:=hm.blk b _ (Q0b hg);rw [hmu] at e2;cases e2;rw [hheap] at hheap';cases hheap';have hroom:k+m≤cap:=by omega
         have hoo:o'=ro+o:=ho.resolve_right (by omega);subst hoo;have hrun:=run_app_room (P:=P) (w:=w) (ty:=ty) hu hxt hi (some ⟨rb,ro+o,none⟩) k cap m (ρ x) vs hlen (hfc w rfl) hroom;rw [←hr] at hrun;have hmul:(k+m)*i.size≤cap*i.size:=Nat.mul_le_mul_right _ hroom;rw [Nat.add_mul] at hmul;have hst:=Q1c P rb (ro+o+k*i.size) e1 fr vs 0 c w hheap hnf (by omega) (hvs.oneCells hcell);simp only [Nat.add_zero] at hst;rw [←add_lit] at hst;have hrow:w.setRow rb (c.toList.take (ro+o+k*i.size)++vs++c.toList.drop (ro+o+k*i.size+vs.length)).toArray=setBlk w rb (Obj.cells (putA c.toList (ro+o+k*i.size) vs).toArray e1 fr):=by
          unfold World.setRow setBlk
          congr 1
          obtain ⟨hlt,hval⟩:=Array.getElem?_eq_some_iff.1 hheap;apply Array.ext_getElem?;intro j;rw [Array.getElem?_modify,Array.getElem?_setIfInBounds]
          by_cases hj:rb=j
          ·subst hj
           rw [if_pos rfl,if_pos rfl,if_pos hlt,hheap];simp [putA,List.append_assoc]
          ·rw [if_neg hj,if_neg hj]
         rw [hrow] at hst;simp only [hst,Result.andThen_ok] at hrun;have hpl:=Q1l c.toList (ro+o+k*i.size) vs (by simp;omega);have hnl:=hvs.len
         have s2:=Stp.write hm (b:=b) (k':=.cells (putA bc (o+k*i.size) news)) (Obj.cells (putA c.toList (ro+o+k*i.size) vs).toArray e1 fr) hg hmu
          (fun c' e' fr' hh=>by
            rw [hheap] at hh;cases hh
            exact ⟨_,fr,rfl,by simp [hpl]⟩)
          (fun hext=>by
            refine ⟨_,e1,fr,Q1k w _ (Array.getElem?_eq_some_iff.1 hheap).1,hnf.size (by simp [hpl]),fun j a' hj=>?_⟩;have hg2:=Q3e c.toList (ro+o+k*i.size) vs (by simp;omega) (ro+j);simp only [List.getElem?_toArray];rw [hg2];rw [Q3e _ _ _ hob] at hj
            by_cases hj1:j<o+k*i.size
            ·rw [if_pos hj1] at hj
             rw [if_pos (by omega)];obtain ⟨v,h6,h7⟩:=hcs _ a' hj;exact ⟨v,by simpa using h6,VR.mono hext a' h7⟩
            ·rw [if_neg hj1] at hj
             rw [if_neg (by omega)]
             by_cases hj2:j<o+k*i.size+news.length
             ·rw [if_pos hj2] at hj
              rw [if_pos (by omega)];obtain ⟨v,h6,h7⟩:=hvs.get hj;exact ⟨v,by rw [←h6];congr 1;omega,VR.mono hext a' h7⟩
             ·rw [if_neg hj2] at hj
              rw [if_neg (by omega)];obtain ⟨v,h6,h7⟩:=hcs _ a' hj
              exact ⟨v,by simpa using h6,VR.mono hext a' h7⟩)
         refine hop hrun ?_ s2;exact ⟨rb,ro,ro+o,cap,(putA c.toList (ro+o+k*i.size) vs).toArray,e1,fr,hmu,rfl,.inl rfl,hroom,Q1k w _ (Array.getElem?_eq_some_iff.1 hheap).1,by simp [hpl];omega,hkc2,hk2⟩
        ·split at h
         ·rename_i hc2
          obtain ⟨rfl,htip,hb⟩:=hc2
          cases h
          have h1:=H s;rw [hes] at h1;obtain ⟨rb,ro,o',cap,c,e1,fr,hmu,hr,ho,hkc,hheap,hfit,hk1,hk2⟩:=h1;obtain ⟨rb',ro',e2,_,_,c',e',fr',hheap',hnf,hcs⟩:=hm.blk b _ (Q0b hg);rw [hmu] at e2;cases e2;rw [hheap] at hheap';cases hheap'
          by_cases hroom:k+m≤cap
          ·have hoo:o'=ro+o:=ho.resolve_right (by omega)
           subst hoo;have hrun:=run_app_room (P:=P) (w:=w) (ty:=ty) hu hxt hi (some ⟨rb,ro+o,none⟩) k cap m (ρ x) vs hlen (hfc w rfl) hroom;rw [←hr] at hrun;have hmul:(k+m)*i.size≤cap*i.size:=Nat.mul_le_mul_right _ hroom;rw [Nat.add_mul] at hmul;have hst:=Q1c P rb (ro+o+k*i.size) e1 fr vs 0 c w hheap hnf (by omega) (hvs.oneCells hcell);simp only [Nat.add_zero] at hst;rw [←add_lit] at hst;have hrow:w.setRow rb (c.toList.take (ro+o+k*i.size)++vs++c.toList.drop (ro+o+k*i.size+vs.length)).toArray=setBlk w rb (Obj.cells (putA c.toList (ro+o+k*i.size) vs).toArray e1 fr):=by
            unfold World.setRow setBlk
            congr 1
            obtain ⟨hlt,hval⟩:=Array.getElem?_eq_some_iff.1 hheap;apply Array.ext_getElem?;intro j;rw [Array.getElem?_modify,Array.getElem?_setIfInBounds]
            by_cases hj:rb=j
            ·subst hj
             rw [if_pos rfl,if_pos rfl,if_pos hlt,hheap];simp [putA,List.append_assoc]
            ·rw [if_neg hj,if_neg hj]
           rw [hrow] at hst;simp only [hst,Result.andThen_ok] at hrun;have s1:=Stp.rename hm (hF nx (Nat.le_refl _) (by simp)) (o:=o) hg hnr hmu
           have s2:=Stp.write s1.mr (b:=nx) (k':=.cells (bc.drop o++news)) (Obj.cells (putA c.toList (ro+o+k*i.size) vs).toArray e1 fr) (by rw [Mem.get_cons,if_pos rfl]) (Gh.add_same _ _ _)
            (fun c' e' fr' hh=>by
              rw [hheap] at hh;cases hh
              exact ⟨_,fr,rfl,by simp [Q1l _ _ _ (show ro+o+k*i.size+vs.length≤c.toList.length by simp;omega)]⟩)
            (fun hext=>by
              refine ⟨_,e1,fr,Q1k w _ (Array.getElem?_eq_some_iff.1 hheap).1,hnf.size (by simp [Q1l _ _ _ (show ro+o+k*i.size+vs.length≤c.toList.length by simp;omega)]),fun j a' hj=>?_⟩;have hx:=s1.ext.trans hext;have hg2:=Q3e c.toList (ro+o+k*i.size) vs (by simp;omega) (ro+o+j);simp only [List.getElem?_toArray];rw [hg2];have hdl:(bc.drop o).length=k*i.size:=by simp;omega
              by_cases hj1:j<k*i.size
              ·rw [List.getElem?_append_left (by omega),List.getElem?_drop] at hj
               rw [if_pos (by omega)];obtain ⟨v,h6,h7⟩:=hcs _ a' hj;exact ⟨v,by rw [Nat.add_assoc];simpa using h6,VR.mono hx a' h7⟩
              ·rw [List.getElem?_append_right (by omega),hdl] at hj
               obtain ⟨v,h6,h7⟩:=hvs.get hj;have hlt:=(List.getElem?_eq_some_iff.1 h6).1;rw [if_neg (by omega),if_pos (by omega)]
               exact ⟨v,by rw [←h6];congr 1;omega,VR.mono hx a' h7⟩)
           have hset:Mem.set (Mem.put (cur.del b) nx (Blk.cells (bc.drop o))) nx (.cells (bc.drop o++news))=Mem.put (cur.del b) nx (.cells (bc.drop o++news)):=Tri.set_put _ _ _ _;rw [hset] at s2;refine hop hrun ?_ (s1.trans s2);refine ⟨rb,ro+o,ro+o,cap,(putA c.toList (ro+o+k*i.size) vs).toArray,e1,fr,Gh.add_same _ _ _,rfl,.inl rfl,hroom,Q1k w _ (Array.getElem?_eq_some_iff.1 hheap).1,?_,by omega,hroom,hk2.2⟩;simp only [List.size_toArray,Q1l _ _ _ (show ro+o+k*i.size+vs.length≤c.toList.length by simp;omega),Array.length_toList];omega
          ·have hold:∃ us:List Value,(Builtin.firstCells i.size k (.slice (some ⟨rb,o',none⟩) k cap)).run P w.drew=.ok us.toArray w.drew∧VRs w G (bc.drop o) us∧us.length=k*i.size:=by
            have hdl:(bc.drop o).length=k*i.size:=by simp;omega
            by_cases hk0:k=0
            ·subst hk0
             have:bc.drop o=[]:=List.eq_nil_of_length_eq_zero (by omega);exact ⟨[],by simp [Builtin.firstCells,loadCells,loadCellsFrom],by rw [this];simp [VRs],by simp⟩
            ·have hoo:o'=ro+o:=ho.resolve_right (by omega)
             subst hoo;have hl:LieAt w G rb ro bc:=fun j a hj=>by
              obtain ⟨v,h6,h7⟩:=hcs j a hj;exact ⟨v,by rw [cell_of hheap];exact h6,h7⟩
             obtain ⟨us,h2,h3,h4,h5⟩:=run_loadA (P:=P) (hl.drop o);refine ⟨us,?_,h3,by omega⟩;simp only [Builtin.firstCells];rw [←hdl,←h4];refine run_loadCells_list w.drew _ us fun j u hj=>?_;rw [←h5 j u hj];rfl
           obtain ⟨us,hus,hvu,hul⟩:=hold;obtain ⟨kk,hkm,hk⟩:=run_app_new (P:=P) (w:=w) (ty:=ty) hu hxt hi hz (some ⟨rb,o',none⟩) k cap m (ρ x) vs us hlen (hfc w.drew rfl) hus hroom hb;rw [←hr] at hk
           have s1:=Stp.forget hm (cur':=cur.del b) (nx':=nx) (fun d q hd=>by
            rw [Q0c,Mem.get_del] at hd;rw [Q0c]
            by_cases hbd:b=d
            ·subst hbd;rw [if_pos rfl,hnr] at hd;cases hd
            ·rw [if_neg hbd] at hd;exact hd) (fun d q hd=>by
            rw [Mem.get_del] at hd
            by_cases hbd:b=d
            ·rw [if_pos hbd] at hd;cases hd
            ·rw [if_neg hbd] at hd;exact hd) (Nat.le_refl _)
           have hall:=hvu.append hvs
           have s2:=Stp.appNew s1.mr (hF nx (Nat.le_refl _) (by simp)) (e:=e) (c:=us.toArray++(vs.toArray++Builtin.zeroCells z.cells kk)) (cs:=bc.drop o++news) (fun j a hj=>by
            obtain ⟨v,h1,h2⟩:=hall.get hj;refine ⟨v,?_,h2⟩;have hlt:=(List.getElem?_eq_some_iff.1 h1).1;rw [Nat.zero_add,←Array.append_assoc,Array.getElem?_append_left (by simpa using hlt)]
            simpa using h1)
           refine hop hk ?_ (s1.trans s2);refine ⟨w.heap.size,0,0,k+m+kk,_,e,(0,0),Gh.add_same _ _ _,rfl,.inl rfl,by omega,heap_alloc_new w.drew _,?_,by omega,by omega,by omega⟩;simp only [Array.size_append,List.size_toArray,size_zeroCells,hzs,hvl,hul,Nat.add_mul];omega
         ·cases h
       ·cases h
      ·cases h
     ·cases h
   ·cases h
  ·rename_i i hi hxt
   obtain ⟨r,w',G',a,h1,h2,h3,h4⟩:=evAppZ_sound (ty:=ty) hm hu hi (H s) (H x) h hF;obtain ⟨r1,c1,n1⟩:=res;simp only at h2;subst h2;exact hop h1 h3 h4
  ·cases h
 ·cases h
end
end Go.Ev
end
