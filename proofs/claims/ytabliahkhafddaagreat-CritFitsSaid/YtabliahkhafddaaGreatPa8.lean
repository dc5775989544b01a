/- The evaluator's operations that make memory or turn it. -/
import Derived.Test.YtabliahkhafddaaGreatPa7
set_option linter.unusedSimpArgs false
noncomputable section
namespace Go.Ev
open Go.RowKit
def putA {α:Type} (cs:List α) (o:Nat) (pc:List α):List α:=cs.take o++(pc++cs.drop (o+pc.length))
def fillA (place:Nat→Option (Nat×Nat)) (cells:List AV):List (Nat×AV)→Option (List AV)
 | []=>some cells
 | (i,v)::rest=>match place i,cellsA v with
   | some (off,size),some pc=>if pc.length=size∧off+pc.length≤cells.length then fillA place (putA cells off pc) rest else none
   | _,_=>none
def placesA (P:Program):List Field→Option (List (Nat×Nat))
 | []=>some []
 | f::fs=>match P.info? f.type,placesA P fs with
   | some i,some l=>some ((f.offset,i.size)::l)
   | _,_=>none
def zerosA (z:List Value):Nat→List AV
 | 0=>[]
 | n+1=>z.map .g++zerosA z n
def slOrStr:Option TypeDesc→Bool
 | some (.slice _) | some .string=>true
 | _=>false
abbrev Res:=Option (Option AV×Mem×Nat)
def evAppZ (P:Program) (cur:Mem) (nx:Nat) (i:TypeInfo) (xt:TypeId) (s x:AV):Res :=
 match P.underlying xt,i.zero,s,x with
 | some (.int _),some z,.g (.slice none 0 0),.g (.int _ (.ofNat n)) =>
   if 0<n∧n*(i.bytes+1)≤17179869184∧0<i.size∧z.cells.size=i.size then some (some (.gs nx 0 n i.size n),Mem.put cur nx (.cells (zerosA z.cells.toList n)),nx+1) else none
 | _,_,_,_=>none
def evClear (P:Program) (cur:Mem) (t:TypeId) (nx:Nat) (s:AV):Res :=
 match P.underlying t,s with
 | some (.slice e),.gs b o n sz _=>match (P.info? e).bind (·.zero),cur.get b with
   | some z,some (.cells cs) =>
     if 0<n∧0<sz∧z.cells.size=sz∧o+n*sz≤cs.length∧(zerosA z.cells.toList n).all isCell=true then some (some (.g (.tuple #[])),Mem.set cur b (.cells (putA cs o (zerosA z.cells.toList n))),nx) else none
   | _,_=>none
 | _,_=>none
def evAppend (P:Program) (rd:List Mem) (cur:Mem) (nx:Nat) (t xt:TypeId) (s x:AV):Res :=
 match P.underlying t with
 | some (.slice e)=>match P.info? e,slOrStr (P.underlying xt) with
   | some i, true=>match i.zero,newsA (cur::rd) i.size x with
     | some z,some (news,m) =>
       if m=0 then (if isSlice s then some (some s,cur,nx) else none) else
       if news.all isCell∧0<i.size∧z.cells.size=i.size then
        match s with
        | .z0 | .g (.slice none 0 0)=>if m*(i.bytes+1)≤17179869184 then some (some (.gs nx 0 m i.size m),Mem.put cur nx (.cells news),nx+1) else none
        | .gs b o k sz kc=>match cur.get b,getR rd b with
          | some (.cells bc),none=>if sz=i.size∧k+m≤kc∧o+k*sz≤bc.length then some (some (.gs b o (k+m) sz kc),cur.set b (.cells (putA bc (o+k*sz) news)),nx) else if sz=i.size∧o+k*sz=bc.length∧(k+m)*(i.bytes+1)≤17179869184 then
             some (some (.gs nx 0 (k+m) sz (k+m)),Mem.put (cur.del b) nx (.cells (bc.drop o++news)),nx+1) else none
          | _,_=>none
        | _=>none
       else none
     | _,_=>none
   | some i,false=>evAppZ P cur nx i xt s x
   | _,_=>none
 | _=>none
def evStore (P:Program) (cur:Mem) (nx:Nat) (t:TypeId) (a x:AV):Res :=
 match a,cellsA x,P.info? t with
 | .ptr b o,some pc,some i=>match cur.get b with
   | some (.cells cs)=>if pc.length=i.size∧o+pc.length≤cs.length then some (none,cur.set b (.cells (putA cs o pc)),nx) else none
   | _=>none
 | _,_,_=>none
def evBuild (P:Program) (t:TypeId) (parts:List (Nat×AV)):Option AV :=
 match (P.info? t).bind (·.zero),P.underlying t with
 | some z,some (.struct fs)=>match placesA P fs.toList with
   | some ps=>(fillA (ps[·]?) (z.cells.toList.map .g) parts).map .agg
   | none=>none
 | some z,some (.array _ e)=>match P.info? e with
   | some i=>(fillA (fun k=>some (k*i.size,i.size)) (z.cells.toList.map .g) parts).map .agg
   | none=>none
 | _,_=>none
def evMapSet (P:Program) (cur:Mem) (nx:Nat) (t:TypeId) (m k x:AV):Res :=
 match P.underlying t,m with
 | some (.map kt _),.mp b=>match cur.get b with
   | some (.map es clk)=>match keyFind P kt k es with
     | some (some (i,_))=>some (none,Mem.set cur b (.map (es.modify i fun e=>(e.1,k,x)) clk),nx)
     | some none=>some (none,Mem.set cur b (.map (es++[(clk,k,x)]) (clk+1)),nx)
     | none=>none
   | _=>none
 | _,_=>none
def evMapEntry (P:Program) (cur:Mem) (nx:Nat) (t:TypeId) (m k:AV):Res :=
 match P.underlying t,m with
 | some (.map kt et),.mp b=>match cur.get b with
   | some (.map es clk)=>match keyFind P kt k es with
     | some (some (i,v))=>match es[i]? with
       | some e=>some (some (.tup [v,.g (.int .i64 e.1)]),Mem.set cur b (.map (es.modify i fun e=>(e.1,k,e.2.2)) clk),nx)
       | none=>none
     | some none=>match (P.info? et).bind (·.zero) with
       | some z=>some (some (.tup [avc1 z,.g (.int .i64 clk)]),Mem.set cur b (.map (es++[(clk,k,avc1 z)]) (clk+1)),nx)
       | none=>none
     | none=>none
   | _=>none
 | _,_=>none
def evEntryStore (cur:Mem) (nx:Nat) (m st x:AV):Res :=
 match m,st with
 | .mp b,.g (.int _ n)=>match cur.get b with
   | some (.map es clk)=>match es.findIdx? (fun e=>(e.1:Int)==n) with
     | some i=>some (none,Mem.set cur b (.map (es.modify i fun e=>(e.1,e.2.1,x)) clk),nx)
     | none=>none
   | _=>none
 | _,_=>none
def evDelete (P:Program) (cur:Mem) (nx:Nat) (t:TypeId) (m k:AV):Res :=
 match P.underlying t,m with
 | some (.map kt _),.mp b=>match cur.get b with
   | some (.map es clk)=>match keyFind P kt k es with
     | some (some (i,_))=>some (some (.g (.tuple #[])),Mem.set cur b (.map (es.eraseIdx i) clk),nx)
     | some none=>some (some (.g (.tuple #[])),Mem.set cur b (.map es clk),nx)
     | none=>none
   | _=>none
 | _,_=>none
def evMakeMap (P:Program) (cur:Mem) (nx:Nat) (t:TypeId) (r:Option AV):Res :=
 match r with
 | none=>some (some (.mp nx),Mem.put cur nx (.map [] 0),nx+1)
 | some (.g (.int _ _))=>match P.underlying t with
   | some (.map _ _)=>some (some (.mp nx),Mem.put cur nx (.map [] 0),nx+1)
   | _=>none
 | _=>none
def evMem (P:Program) (rd:List Mem) (cur:Mem) (nx:Nat) (ev:Operand→AV) (op:Op) (ty:TypeId):Res :=
 match op with
 | .alloc t=>match (P.info? t).bind (·.zero) with
   | some z=>some (some (.ptr nx 0),Mem.put cur nx (.cells (z.cells.toList.map .g)),nx+1)
   | none=>none
 | .box _ x=>match cellsA (ev x) with
   | some cs=>some (some (.ptr nx 0),Mem.put cur nx (.cells cs),nx+1)
   | none=>none
 | .build t parts=>match evBuild P t (parts.toList.map fun p=>(p.1,ev p.2)) with
   | some a=>some (some a,cur,nx)
   | none=>none
 | .buildSlice t len parts=>match P.underlying t with
   | some (.slice e)=>match P.info? e with
     | some i=>if (len*i.size≤16777216∧len≤16777216)∧i.zero.isSome then
        match fillA (fun k=>some (k*i.size,i.size)) (List.replicate (len*i.size) .any) (parts.toList.map fun p=>(p.1,ev p.2)) with
        | some cs=>some (some (.gs nx 0 len i.size len),Mem.put cur nx (.cells cs),nx+1)
        | none=>none
       else none
     | none=>none
   | _=>none
 | .makeSlice t l c=>match ev l,ev c,P.underlying t with
   | .g (.int _ l),.g (.int _ c),some (.slice e)=>match P.info? e with
     | some i=>match i.zero with
       | some z=>if 0≤l∧l≤c∧c.toNat*(i.bytes+1)≤17179869184∧z.cells.size=i.size∧0<i.size then
          some (some (.gs nx 0 l.toNat i.size c.toNat),Mem.put cur nx (.cells (zerosA z.cells.toList l.toNat)),nx+1) else none
       | none=>none
     | none=>none
   | _,_,_=>none
 | .store t a x=>evStore P cur nx t (ev a) (ev x)
 | .makeMap t r=>evMakeMap P cur nx t (r.map ev)
 | .range t x=>match P.underlying t,ev x with
   | some .string,.g (.string s)=>some (some (.ptr nx 0),Mem.put cur nx (.sit s 0),nx+1)
   | _,_=>none
 | .next it isS=>match ev it,isS with
   | .ptr b 0,true=>match cur.get b with
     | some (.sit s pos)=>match Nat.blt pos s.size with
       | true=>some (some (.tup [.g (.bool true),.g (.int .i64 pos),.g (.int .i32 (Utf8.decode s pos).1)]),Mem.set cur b (.sit s (pos+(Utf8.decode s pos).2)),nx)
       | false=>some (some (.tup [.g (.bool false)]),cur,nx)
     | _=>none
   | _,_=>none
 | .mapUpdate t m k x=>evMapSet P cur nx t (ev m) (ev k) (ev x)
 | .insert t m k x=>evMapSet P cur nx t (ev m) (ev k) (ev x)
 | .mapEntry t m k=>evMapEntry P cur nx t (ev m) (ev k)
 | .entryStore _ m s x=>evEntryStore cur nx (ev m) (ev s) (ev x)
 | .convert src dst x=>match P.underlying src,P.underlying dst,ev x with
   | some .string,some (.slice e),.g (.string s)=>if isU8 (P.underlying e)&&Nat.ble s.size 9223372036854775807 then some (some (.gs nx 0 s.size 1 s.size),Mem.put cur nx (.cells (s.data.toList.map (fun b=>.g (.int .u8 (b.toNat:Int))))),nx+1) else none
   | _,_,_=>(evPure P (cur::rd) ev (.convert src dst x) ty).map fun a=>(some a,cur,nx)
 | .call c=>match c.callee,c.args.toList,c.argTypes.toList with
   | .builtin .append,[s,x],[t,xt]=>evAppend P rd cur nx t xt (ev s) (ev x)
   | .builtin .delete,[m,k],[t,_]=>evDelete P cur nx t (ev m) (ev k)
   | .builtin .clear,[s],[t]=>evClear P cur t nx (ev s)
   | _,_,_=>(evPure P (cur::rd) ev (.call c) ty).map fun a=>(some a,cur,nx)
 | op=>(evPure P (cur::rd) ev op ty).map fun a=>(some a,cur,nx)
def NxR (w:World) (G:Gh):Option AV→Next→Prop
 | some a,.value r=>VR w G a r
 | none,.skip=>True
 | _,_=>False
def MemS (P:Program) (base:Nat) (GT:GTab) (F:Nat→Prop) (rd:List Mem) (cur:Mem) (nx:Nat) (w:World) (G:Gh) (s:Sem Next) (res:Option AV×Mem×Nat):Prop :=
 ∃ n w' G',s.run P w=.ok n w'∧NxR w' G' res.1 n∧Stp base GT F rd cur nx w G res.2.1 res.2.2 w' G'
section
variable {P:Program} {w:World} {G:Gh} {ev:Operand→AV} {ρ:Operand→Value} {base:Nat} {GT:GTab} {F:Nat→Prop} {rd:List Mem} {cur:Mem} {nx:Nat} {ty:TypeId} {a:AV}
theorem MemS.of_pure (hm:MR base GT F rd cur nx w G) {s:Sem Next} (h:PureS P w G s a):MemS P base GT F rd cur nx w G s (some a,cur,nx):=by
 obtain ⟨r,h1,h2⟩:=h;exact ⟨.value r,w,G,h1,h2,.refl hm⟩
theorem MemS.val {s:Sem Value} {r:Value} {w':World} {G':Gh} {cur':Mem} {nx':Nat} (h:s.run P w=.ok r w') (hv:VR w' G' a r) (hs:Stp base GT F rd cur nx w G cur' nx' w' G') :
 MemS P base GT F rd cur nx w G (do pure (.value (←s))) (some a,cur',nx'):=⟨.value r,w',G',by simp [h],hv,hs⟩
theorem VRs.cellsR {as:List AV} {c:Array Value} (h:VRs w G as c.toList):CellsR w G c 0 as:=fun i a hi=>by
 obtain ⟨v,h1,h2⟩:=h.get hi;exact ⟨v,by rw [Nat.zero_add,←h1];simp,h2⟩
theorem Q3g (hm:MR base GT F rd cur nx w G) (hF:F nx) {e:TypeId} {c:Array Value} {cs:List AV} (h:CellsR w G c 0 cs) :
 ∃ w' G',(newRow e c).run P w=.ok ⟨w.heap.size,0,none⟩ w'∧w'=w.alloc (Obj.cells c e)∧G'=G.add nx (w.heap.size,0)∧Stp base GT F rd cur nx w G (Mem.put cur nx (.cells cs)) (nx+1) w' G':=by
 have hold:∀ b x,G.μ b=some x→b≠nx:=fun b x hb=>hm.ne hF hb
 have hx:Ext w (w.alloc (Obj.cells c e)) G (G.add nx (w.heap.size,0)):=⟨fun b x hb=>by rw [Gh.add_ne _ _ (hold b x hb)];exact hb,fun _ h=>h,fun rb hr=>heap_alloc_old w _ (hm.imm rb hr),
  fun rb c e fr hc=>⟨c,fr,(heap_alloc_old w _ (Array.getElem?_eq_some_iff.1 hc).1).trans hc,rfl⟩⟩
 exact ⟨_,_,rfl,rfl,rfl,Stp.alloc hm hF _ _ ⟨c,e,(0,0),heap_alloc_new w _,noFr0 c,h.mono hx⟩⟩
theorem Q1l {α:Type} (cs:List α) (o:Nat) (pc:List α) (h:o+pc.length≤cs.length):(putA cs o pc).length=cs.length:=by
 simp [putA];omega
theorem Q3e {α:Type} (cs:List α) (o:Nat) (pc:List α) (h:o≤cs.length) (i:Nat):(putA cs o pc)[i]?=if i<o then cs[i]? else if i<o+pc.length then pc[i - o]? else cs[i]?:=by
 unfold putA
 by_cases h1:i<o
 ·rw [if_pos h1,List.getElem?_append_left (by simp;omega),List.getElem?_take,if_pos h1]
 ·rw [if_neg h1,List.getElem?_append_right (by simp;omega)]
  have hl:(List.take o cs).length=o:=by simp;omega
  rw [hl]
  by_cases h2:i<o+pc.length
  ·rw [if_pos h2,List.getElem?_append_left (by omega)]
  ·rw [if_neg h2,List.getElem?_append_right (by omega),List.getElem?_drop]
   congr 1;omega
theorem VRs.putA {as pc:List AV} {vs us:List Value} (h:VRs w G as vs) (k:VRs w G pc us) (o:Nat):VRs w G (putA as o pc) (putA vs o us):=by
 unfold Ev.putA;rw [k.len];exact (h.take o).append (k.append (h.drop _))
theorem foldSet (l:List Value):∀ (k off:Nat) (rc:Array Value),off+k+l.length≤rc.size→((l.zipIdx k).foldl (fun (cs:Array Value) (p:Value×Nat)=>cs.setIfInBounds (off+p.2) p.1) rc).toList=putA rc.toList (off+k) l:=by
 induction l with
 | nil=>intro k off rc _;simp [putA]
 | cons v l ih =>
   intro k off rc h;rw [List.zipIdx_cons,List.foldl_cons,ih (k+1) off _ (by simp at h ⊢;omega)];simp only [Array.toList_setIfInBounds];unfold putA;have h1:off+k<rc.toList.length:=by simp at h ⊢;omega
   have h2:(rc.toList.set (off+k) v).take (off+(k+1))=rc.toList.take (off+k)++[v]:=by
    apply List.ext_getElem?;intro j;rw [List.getElem?_take]
    by_cases hj:j<off+(k+1)
    ·rw [if_pos hj,List.getElem?_set]
     by_cases hj2:off+k=j
     ·subst hj2
      rw [if_pos rfl,if_pos h1,List.getElem?_append_right (by simp;omega)];simp at h1 ⊢;have:off+k - min (off+k) rc.size=0:=by omega
      simp [this]
     ·rw [if_neg hj2,List.getElem?_append_left (by simp at h1 ⊢;omega),List.getElem?_take,if_pos (by omega)]
    ·rw [if_neg hj]
     symm
     rw [List.getElem?_eq_none_iff];simp;omega
   rw [h2];have h3:(rc.toList.set (off+k) v).drop (off+(k+1)+l.length)=rc.toList.drop (off+k+(l.length+1)):=by
    apply List.ext_getElem?;intro j;rw [List.getElem?_drop,List.getElem?_drop,List.getElem?_set,if_neg (by omega)]
    congr 1;omega
   rw [h3];simp
theorem fill_sound {place:Nat→Option (Nat×Nat)}:∀ {parts:List (Nat×AV)} {vparts:List (Nat×Value)} {as bs:List AV} {rc:Array Value},(∀ (i:Nat) (p:Nat×AV),parts[i]?=some p→∃ v,vparts[i]?=some (p.1,v)∧VR w G p.2 v)→vparts.length=parts.length →
 VRs w G as rc.toList→fillA place as parts=some bs→∃ rc',Instr.fill place rc vparts=some rc'∧VRs w G bs rc'.toList:=by
 intro parts
 induction parts with
 | nil =>
   intro vparts as bs rc _ hl hv h;obtain rfl:vparts=[]:=List.eq_nil_of_length_eq_zero (by simpa using hl);simp only [fillA,Option.some.injEq] at h;subst h;exact ⟨rc,rfl,hv⟩
 | cons p parts ih =>
   obtain ⟨i,x⟩:=p;intro vparts as bs rc hp hl hv h;obtain ⟨v,h1,h2⟩:=hp 0 (i,x) (by simp)
   cases vparts with
   | nil=>simp at hl
   | cons q vparts =>
     simp at h1;subst h1;simp only [fillA] at h
     split at h
     ·rename_i off size pc hpl hpc
      split at h
      ·rename_i hc
       obtain ⟨h3,h4,_⟩:=cellsA_spec hpc h2;have hlen:=h3.len;have hlv:=hv.len;simp only [Array.length_toList] at hlen hlv;have hput:=hv.putA h3 off;have hfold:(v.cells.zipIdx.foldl (fun (cs:Array Value) (p:Value×Nat)=>cs.setIfInBounds (off+p.2) p.1) rc).toList=putA rc.toList off v.cells.toList:=by
        have:=foldSet v.cells.toList 0 off rc (by simp;omega);rw [Nat.add_zero] at this;rw [←this,←Array.foldl_toList,Array.toList_zipIdx]
       rw [←hfold] at hput
       obtain ⟨rc',h5,h6⟩:=ih (vparts:=vparts) (fun j q hq=>by
        have:=hp (j+1) q (by simpa using hq)
        simpa using this) (by simpa using hl) hput h
       refine ⟨rc',?_,h6⟩;unfold Instr.fill;simp only [hpl];rw [if_neg (by simp;omega)];exact h5
      ·cases h
     ·cases h
theorem parts_of (H:∀ x,VR w G (ev x) (ρ x)) (parts:Array (Nat×Operand)):(∀ (i:Nat) (p:Nat×AV),(parts.toList.map fun p=>(p.1,ev p.2))[i]?=some p→∃ v,((parts.map fun (i,x)=>(i,ρ x)).toList)[i]?=some (p.1,v)∧VR w G p.2 v) ∧
 ((parts.map fun (i,x)=>(i,ρ x)).toList).length=(parts.toList.map fun p=>(p.1,ev p.2)).length:=by
 refine ⟨fun i p hp=>?_,by simp⟩;rw [List.getElem?_map] at hp
 cases hq:parts.toList[i]? with
 | none=>rw [hq] at hp;cases hp
 | some q =>
   rw [hq] at hp;simp only [Option.map_some,Option.some.injEq] at hp;subst hp;refine ⟨ρ q.2,?_,H q.2⟩;rw [Array.toList_map,List.getElem?_map,hq]
   rfl
theorem places_run:∀ {fs:List Field} {ps:List (Nat×Nat)},placesA P fs=some ps→((fs.mapM fun f=>do pure (f.offset,←sizeOf f.type)):Sem (List (Nat×Nat))).run P w=.ok ps w:=by
 intro fs
 induction fs with
 | nil=>intro ps h;simp only [placesA,Option.some.injEq] at h;subst h;rfl
 | cons f fs ih =>
   intro ps h;simp only [placesA] at h
   split at h
   ·rename_i i l hi hl
    cases h
    simp only [List.mapM_cons,Sem.run_bind,Q0x hi,Result.andThen_ok,ih hl,Sem.run_pure]
   ·cases h
theorem evBuild_sound (H:∀ x,VR w G (ev x) (ρ x)) {t:TypeId} {parts:Array (Nat×Operand)} (h:evBuild P t (parts.toList.map fun p=>(p.1,ev p.2))=some a):PureS P w G (execOp ρ (mkO (.build t parts) ty)) a:=by
 obtain ⟨hp,hl⟩:=parts_of H parts;unfold evBuild at h
 split at h
 ·rename_i z fs hz hu
  split at h
  ·rename_i ps hps
   cases hf:fillA (ps[·]?) (z.cells.toList.map .g) (parts.toList.map fun p=>(p.1,ev p.2)) with
   | none=>rw [hf] at h;cases h
   | some bs =>
     rw [hf] at h;simp only [Option.map_some,Option.some.injEq] at h;subst h;obtain ⟨rc',h1,h2⟩:=fill_sound hp hl (VRs.map_g (w:=w) (G:=G) z.cells.toList) hf;refine Q0s (r:=.agg rc') ?_ ⟨rc',rfl,h2⟩;have hpr:=places_run (P:=P) (w:=w) hps;have hpa:((fs.mapM fun f=>do pure (f.offset,←sizeOf f.type)):Sem (Array (Nat×Nat))).run P w=.ok ps.toArray w:=by
      rw [Array.mapM_eq_mapM_toList,Sem.run_map,hpr];rfl
     have hfill:Instr.fill (ps.toArray[·]?) z.cells (parts.map fun (i,x)=>(i,ρ x)).toList=some rc':=by
      have:(fun (i:Nat)=>ps.toArray[i]?)=fun (i:Nat)=>ps[i]?:=by funext i;simp
      rw [this];exact h1
     simp only [Instr.build,Sem.run_bind,Q3c hz,Result.andThen_ok,Q0f hu,hpa,hfill,Sem.run_pure]
  ·cases h
 ·rename_i z n e hz hu
  split at h
  ·rename_i i hi
   cases hf:fillA (fun k=>some (k*i.size,i.size)) (z.cells.toList.map .g) (parts.toList.map fun p=>(p.1,ev p.2)) with
   | none=>rw [hf] at h;cases h
   | some bs =>
     rw [hf] at h;simp only [Option.map_some,Option.some.injEq] at h;subst h;obtain ⟨rc',h1,h2⟩:=fill_sound hp hl (VRs.map_g (w:=w) (G:=G) z.cells.toList) hf;refine Q0s (r:=.agg rc') ?_ ⟨rc',rfl,h2⟩;simp only [Instr.build,Sem.run_bind,Q3c hz,Result.andThen_ok,Q0f hu,Q0x hi,h1,Sem.run_pure]
  ·cases h
 ·cases h
end
end Go.Ev
end
