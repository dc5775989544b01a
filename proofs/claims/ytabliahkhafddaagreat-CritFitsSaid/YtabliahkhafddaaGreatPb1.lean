/- All operations of the evaluator: each does what the program does. -/
import Derived.Test.YtabliahkhafddaaGreatPb0
set_option linter.unusedSimpArgs false
noncomputable section
namespace Go.Ev
open Go.RowKit
section
variable {P:Program} {w:World} {G:Gh} {ev:Operand→AV} {ρ:Operand→Value} {base:Nat} {GT:GTab} {F:Nat→Prop} {rd:List Mem} {cur:Mem} {nx:Nat} {ty:TypeId} {a:AV}
theorem newVar_sound (hm:MR base GT F rd cur nx w G) (hF:F nx) {s:Sem Value} {t:TypeId} {v:Value} {cs:List AV} (h:VRs w G cs v.cells.toList)
 (hs:s.run P w=((newVar t v).run P w).andThen fun r w'=>.ok (.pointer (some r)) w') :
 MemS P base GT F rd cur nx w G (do pure (.value (←s))) (some (.ptr nx 0),Mem.put cur nx (.cells cs),nx+1):=by
 obtain ⟨w',G',h1,hw,hG,h2⟩:=Q3g (P:=P) hm hF (e:=t) h.cellsR;refine MemS.val (r:=.pointer (some ⟨w.heap.size,0,none⟩)) (w':=w') (G':=G') ?_ ?_ h2
 ·rw [hs];unfold newVar;rw [h1];rfl
 ·subst hG;exact ⟨w.heap.size,0,Gh.add_same _ _ _,rfl⟩
theorem evMem_sound (hm:MR base GT F rd cur nx w G) (H:∀ x,VR w G (ev x) (ρ x)) {op:Op} {res:Option AV×Mem×Nat} (h:evMem P rd cur nx ev op ty=some res) (hF:∀ b,nx≤b→b<res.2.2→F b) :
 MemS P base GT F rd cur nx w G (execOp ρ (mkO op ty)) res:=by
 have pureCase:∀ {op:Op},(evPure P (cur::rd) ev op ty).map (fun a=>(some a,cur,nx))=some res→MemS P base GT F rd cur nx w G (execOp ρ (mkO op ty)) res:=by
  intro op h
  cases hp:evPure P (cur::rd) ev op ty with
  | none=>rw [hp] at h;cases h
  | some a =>
    rw [hp] at h;simp only [Option.map_some,Option.some.injEq] at h;subst h;exact MemS.of_pure hm (evPure_sound hm H hp)
 unfold evMem at h
 split at h
 ·rename_i t
  split at h
  ·rename_i z hz
   cases h
   exact newVar_sound hm (hF nx (Nat.le_refl _) (by simp)) (t:=t) (v:=z) (VRs.map_g _) (by simp [Instr.alloc,Q3c hz])
  ·cases h
 ·rename_i t x
  split at h
  ·rename_i cs hcs
   cases h
   exact newVar_sound hm (hF nx (Nat.le_refl _) (by simp)) (t:=t) (cellsA_spec hcs (H x)).1 (by simp [Instr.box])
  ·cases h
 ·rename_i t parts
  split at h
  ·rename_i b hb
   cases h
   exact MemS.of_pure hm (evBuild_sound H hb)
  ·cases h
 ·rename_i t len parts
  split at h
  ·rename_i e hu
   split at h
   ·rename_i i hi
    split at h
    ·rename_i hc
     split at h
     ·rename_i cs hf
      cases h
      obtain ⟨hp,hl⟩:=parts_of H parts;obtain ⟨z,hz⟩:=Option.isSome_iff_exists.1 hc.2;have hz':(P.info? e).bind (·.zero)=some z:=by rw [hi];exact hz
      generalize hzz:(if len*i.size=0 then #[] else z.cells)=zc;have hany:VRs w G (List.replicate (len*i.size) .any) ((Array.range (len*i.size)).map (zc[· % zc.size]!)).toList:=by
       refine VRs.mk (by simp) fun j a v ha hv=>?_;have:a=.any:=by
        rw [List.getElem?_replicate] at ha
        split at ha
        ·cases ha;rfl
        ·cases ha
       subst this;trivial
      obtain ⟨rc',h1,h2⟩:=fill_sound hp hl hany hf;obtain ⟨w',G',h3,hw,hG,h4⟩:=Q3g (P:=P) hm (hF nx (Nat.le_refl _) (by simp)) (e:=e) (VRs.cellsR h2);have hlen:rc'.size=len*i.size:=by
       have e1:=h2.len;have : ∀ {pl:Nat→Option (Nat×Nat)} {ps:List (Nat×AV)} {as bs:List AV},fillA pl as ps=some bs→bs.length=as.length:=by
        intro pl ps
        induction ps with
        | nil=>intro as bs hf;simp only [fillA,Option.some.injEq] at hf;rw [hf]
        | cons p ps ih =>
          obtain ⟨k,v⟩:=p;intro as bs hf;simp only [fillA] at hf
          split at hf
          ·split at hf
           ·rename_i hcc
            rw [ih hf,Q1l _ _ _ hcc.2]
           ·cases hf
          ·cases hf
       have e2:=this hf;simp at e1 e2;omega
      refine MemS.val (r:=.slice (some ⟨w.heap.size,0,none⟩) len len) (w':=w') (G':=G') ?_ ?_ h4
      ·simp only [Instr.buildSlice,Sem.run_bind,Q0f hu,Result.andThen_ok,Q0x hi]
       rw [Sem.run_ite,if_neg (by omega)]
       by_cases hl0:len*i.size=0
       ·rw [if_pos hl0] at hzz ⊢
        subst hzz;simp only [Sem.run_pure,Result.andThen_ok,h1,Sem.run_bind,h3]
       ·rw [if_neg hl0] at hzz ⊢
        subst hzz;simp only [Sem.run_pure,Result.andThen_ok,Q3c hz',h1,Sem.run_bind,h3]
      ·subst hG hw
       exact ⟨w.heap.size,0,0,len,rc',e,(0,0),Gh.add_same _ _ _,rfl,.inl rfl,Nat.le_refl _,heap_alloc_new w _,by omega,Nat.le_refl _,Nat.le_refl _,by omega⟩
     ·cases h
    ·cases h
   ·cases h
  ·cases h
 ·rename_i t l c
  split at h
  ·rename_i k1 ln k2 cn e hel hec hu
   split at h
   ·rename_i i hi
    split at h
    ·rename_i z hz
     split at h
     ·rename_i hc
      obtain ⟨h0,hlc,hb,hzs,hsz⟩:=hc
      cases h
      have h1:ρ l=.int k1 ln:=by have:=H l;rw [hel] at this;exact this
      have h2:ρ c=.int k2 cn:=by have:=H c;rw [hec] at this;exact this
      have hb1:cn.toNat*1≤cn.toNat*(i.bytes+1):=Nat.mul_le_mul_left _ (by omega);have hb2:cn.toNat*i.bytes≤cn.toNat*(i.bytes+1):=Nat.mul_le_mul_left _ (by omega);have w1:IntKind.i64.wrap ln=ln:=by simp [IntKind.wrap,IntKind.bits,IntKind.signed];omega
      have w2:IntKind.i64.wrap cn=cn:=by simp [IntKind.wrap,IntKind.bits,IntKind.signed];omega
      have hz':(P.info? e).bind (·.zero)=some z:=by rw [hi];exact hz
      have hbn:(i.bytes:Int)*cn=((cn.toNat*i.bytes:Nat):Int):=by
       rw [Int.natCast_mul,Int.mul_comm];congr 1;omega
      have hbl:(i.bytes:Int)*cn≤281474976710656:=by rw [hbn];omega
      have hll:¬cn<ln:=by omega
      have hl0:¬ln<0:=by omega
      have hc0:¬cn<0:=by omega
      have hbl':¬(281474976710656<(i.bytes:Int)*cn):=by omega
      have hroom:(askRoom (cn.toNat*i.bytes)).run P w=.ok () w:=by
       unfold askRoom roomBytes;rw [if_neg (by omega)];rfl
      generalize hzz:(if cn.toNat*i.size=0 then #[] else z.cells)=zc
      obtain ⟨w',G',h3,hw,hG,h4⟩:=Q3g (P:=P) hm (hF nx (Nat.le_refl _) (by simp)) (e:=e) (c:=(Array.range (cn.toNat*i.size)).map (zc[· % zc.size]!)) (cs:=zerosA z.cells.toList ln.toNat) (fun j a hj=>by
       obtain ⟨v,h5,rfl⟩:=zerosA_get _ _ _ _ hj;have hjl:=(List.getElem?_eq_some_iff.1 hj).1;rw [zerosA_length] at hjl;simp only [Array.length_toList,hzs] at hjl h5;have hle:ln.toNat*i.size≤cn.toNat*i.size:=Nat.mul_le_mul_right _ (by omega);have hzc:zc=z.cells:=by rw [←hzz,if_neg (by omega)]
       subst hzc;refine ⟨v,?_,rfl⟩;rw [Nat.zero_add,Array.getElem?_map];have:(Array.range (cn.toNat*i.size))[j]?=some j:=Array.getElem?_eq_some_iff.2 ⟨by rw [Array.size_range];omega,by rw [Array.getElem_range]⟩;rw [this,Option.map_some];show some (z.cells[j % z.cells.size]!)=some v;rw [hzs];have hmod:j % i.size<z.cells.size:=by rw [hzs];exact Nat.mod_lt _ hsz
       rw [getElem!_pos z.cells _ hmod];have:z.cells.toList[j % i.size]?=some z.cells[j % i.size]:=by simp [hmod]
       rw [this] at h5
       exact h5)
      refine MemS.val (r:=.slice (some ⟨w.heap.size,0,none⟩) ln.toNat cn.toNat) (w':=w') (G':=G') ?_ ?_ h4
      ·simp only [Instr.makeSlice,Sem.run_bind,Q0f hu,Result.andThen_ok,h1,h2,asInt,asIntOf,Sem.run_pure,run_info hi,w1,w2]
       rw [Sem.run_ite,if_neg (by simp;omega)];simp only [Sem.run_bind,hroom,Result.andThen_ok,Q0x hi]
       by_cases hl0:cn.toNat*i.size=0
       ·rw [if_pos hl0] at hzz ⊢
        subst hzz;simp only [Sem.run_pure,Result.andThen_ok,Sem.run_bind,h3]
       ·rw [if_neg hl0] at hzz ⊢
        subst hzz;simp only [Sem.run_pure,Result.andThen_ok,Q3c hz',Sem.run_bind,h3]
      ·subst hG hw
       have hle:ln.toNat*i.size≤cn.toNat*i.size:=Nat.mul_le_mul_right _ (by omega);refine ⟨w.heap.size,0,0,cn.toNat,_,e,(0,0),Gh.add_same _ _ _,rfl,.inl rfl,by omega,heap_alloc_new w _,?_,by omega,by omega,by omega⟩;simp
     ·cases h
    ·cases h
   ·cases h
  ·cases h
 ·exact evStore_sound hm H h
 ·rename_i t r
  have hFx:F nx:=hF nx (Nat.le_refl _) (by
   unfold evMakeMap at h
   split at h
   ·cases h;simp
   ·split at h <;> cases h;simp
   ·cases h)
  obtain ⟨v,w',G',a,h1,h2,h3,h4⟩:=evMakeMap_run (P:=P) hm hFx (r:=r.map ev) (rv:=r.map ρ) (by cases r with | none=>trivial | some x=>exact H x) h;obtain ⟨r1,c1,n1⟩:=res;simp only at h2;subst h2;exact MemS.val h1 h3 h4
 ·rename_i t x
  split at h
  ·rename_i s hu hx
   cases h
   have h1:ρ x=.string s:=by have:=H x;rw [hx] at this;exact this
   have s2:=Stp.alloc hm (hF nx (Nat.le_refl _) (by simp)) (Obj.stringIter s 0) (.sit s 0) ⟨rfl,heap_alloc_new w _⟩;refine MemS.val (r:=.pointer (some ⟨w.heap.size,0,none⟩)) ?_ ⟨w.heap.size,0,Gh.add_same _ _ _,rfl⟩ s2;simp only [Instr.range,Sem.run_bind,Q0f hu,Result.andThen_ok,h1,Sem.run_pure]
   rfl
  ·cases h
 ·rename_i it isS
  split at h
  ·rename_i b hit
   split at h
   ·rename_i s pos hb
    obtain ⟨rb,ro,h1,h2⟩:∃ rb ro,G.μ b=some (rb,ro)∧ρ it=.pointer (some ⟨rb,ro+0,none⟩):=by have:=H it;rw [hit] at this;exact this
    obtain ⟨rb',ro',e1,_,hni,rfl,h4⟩:=hm.blk _ _ (Q0b hb);rw [h1] at e1;cases e1;have hgo:(getObj rb).run P w=.ok (Obj.stringIter s pos) w:=by simp only [getObj,Sem.run,h4]
    split at h
    ·rename_i hlt
     cases h
     have hlt':pos<s.size:=by rw [Nat.blt_eq] at hlt;exact hlt
     have s2:=Stp.write hm (k':=.sit s (pos+(Utf8.decode s pos).2)) (Obj.stringIter s (pos+(Utf8.decode s pos).2)) hb h1 (fun c e fr hc=>by rw [h4] at hc;cases hc) (fun _=>⟨rfl,Q1k w _ (Array.getElem?_eq_some_iff.1 h4).1⟩);refine MemS.val (r:=.tuple #[.bool true,.int .i64 pos,.int .i32 (Utf8.decode s pos).1]) ?_ ⟨_,rfl,VRs.cons_mk rfl (VRs.cons_mk rfl (VRs.cons_mk rfl (by rw [VRs])))⟩ s2;simp only [Instr.next,Sem.run_bind,h2,Nat.add_zero,hgo,Result.andThen_ok];rw [if_pos hlt'];have hso:(setObj rb (Obj.stringIter s (pos+(Utf8.decode s pos).2))).run P w=.ok () (setBlk w rb (Obj.stringIter s (pos+(Utf8.decode s pos).2))):=by
      simp [setObj,Sem.run,h4,setBlk]
     simp only [Sem.run_bind,hso,Result.andThen_ok,Sem.run_pure]
     rfl
    ·rename_i hlt
     cases h
     have hlt':¬pos<s.size:=fun h=>by rw [show Nat.blt pos s.size=true by rw [Nat.blt_eq];exact h] at hlt;cases hlt
     refine MemS.val (r:=.tuple #[.bool false]) ?_ ⟨_,rfl,VRs.cons_mk rfl (by rw [VRs])⟩ (.refl hm);simp only [Instr.next,Sem.run_bind,h2,Nat.add_zero,hgo,Result.andThen_ok];rw [if_neg hlt'];simp
   ·cases h
  ·cases h
 ·rename_i t m k x
  obtain ⟨w',h1,h2,h3⟩:=evMapSet_run (P:=P) hm (H m) (H k) (H x) h;obtain ⟨r1,c1,n1⟩:=res;simp only at h2;subst h2;exact MemS.skip h1 h3
 ·rename_i t m k x
  obtain ⟨w',h1,h2,h3⟩:=evMapSet_run (P:=P) hm (H m) (H k) (H x) h;obtain ⟨r1,c1,n1⟩:=res;simp only at h2;subst h2;exact MemS.skip h1 h3
 ·rename_i t m k
  obtain ⟨r,w',a,h1,h2,h4,h3⟩:=evMapEntry_run (P:=P) hm (H m) (H k) h;obtain ⟨r1,c1,n1⟩:=res;simp only at h2;subst h2;exact MemS.val h1 h4 h3
 ·rename_i t m k x
  obtain ⟨w',h1,h2,h3⟩:=evEntryStore_run (P:=P) (t:=t) hm (H m) (H k) (H x) h;obtain ⟨r1,c1,n1⟩:=res;simp only at h2;subst h2;exact MemS.skip h1 h3
 ·rename_i src dst x
  split at h
  ·rename_i e s hs hd hx
   split at h
   ·rename_i hu
    cases h
    rw [Bool.and_eq_true] at hu;obtain ⟨hu,hs63⟩:=hu;have hs63:=Nat.le_of_ble_eq_true hs63;have hu8:P.underlying e=some (.int .u8):=by
     unfold isU8 at hu
     split at hu
     ·assumption
     ·cases hu
    have h1:ρ x=.string s:=by have:=H x;rw [hx] at this;exact this
    have hst:Stp base GT F rd cur nx w G cur nx w.drew G:=Stp.world hm rfl rfl rfl (Nat.le_refl _) fun _ _=>rfl;generalize hk:(Question.appendCap s.size 0 e).cut (w.tape w.drawn (.appendCap s.size 0 e))=kc;have hkc:s.size≤kc:=by
     rw [←hk];show s.size≤s.size+_;exact Nat.le_add_right _ _
    have hkm:kc≤9223372036854775807:=by
     rw [←hk];show s.size+w.tape w.drawn (.appendCap s.size 0 e) % (2 ^ 63 - s.size)≤9223372036854775807;have:=Nat.mod_lt (w.tape w.drawn (.appendCap s.size 0 e)) (show 0<2 ^ 63 - s.size by omega);omega
    have hasl:(s.data.map (fun (b:UInt8)=>Value.int .u8 (b.toNat:Int))++Array.replicate (kc - s.size) (Value.int .u8 0)).size=kc:=by
     have:s.data.size=s.size:=rfl;simp [this];omega
    generalize hcc:s.data.map (fun (b:UInt8)=>Value.int .u8 (b.toNat:Int))++Array.replicate (kc - s.size) (Value.int .u8 0)=cc at hasl;have hcells:∀ (w':World) (G':Gh),CellsR w' G' cc 0 (s.data.toList.map (fun (b:UInt8)=>AV.g (Value.int .u8 (b.toNat:Int)))):=by
     intro w' G' i a hi;rw [List.getElem?_map] at hi
     cases hb:s.data.toList[i]? with
     | none=>rw [hb] at hi;cases hi
     | some b =>
       rw [hb] at hi;simp only [Option.map_some,Option.some.injEq] at hi;subst hi;have hlt:=(List.getElem?_eq_some_iff.1 hb).1;refine ⟨.int .u8 (b.toNat:Int),?_,rfl⟩;rw [←hcc,Nat.zero_add,Array.getElem?_append_left (by simpa using hlt),Array.getElem?_map];have:s.data[i]?=some b:=by rw [←hb];simp
       rw [this];rfl
    have hFn:=hF nx (Nat.le_refl _) (by simp);have hm':=hst.mr;have hsz:(w.drew.alloc (Obj.cells cc e (kc,kc+1))).heap.size=w.heap.size+1:=size_alloc' _ _;have s2:=Stp.alloc hm' hFn (Obj.cells cc e (kc,kc+1)) (.cells (s.data.toList.map (fun (b:UInt8)=>AV.g (Value.int .u8 (b.toNat:Int))))) ⟨cc,e,(kc,kc+1),heap_alloc_new w.drew _,fun o ho=>by simp;omega,hcells _ _⟩;refine MemS.val (r:=.slice (some ⟨w.heap.size,0,none⟩) s.size kc) (w':=w.drew.alloc (Obj.cells cc e (kc,kc+1))) ?_ ?_ (hst.trans s2)
    ·have hfz:(w.drew.alloc (Obj.cells cc e)).freeze { block:=w.heap.size,off:=kc } 1=w.drew.alloc (Obj.cells cc e (kc,kc+1)):=by
      unfold World.freeze;rw [if_neg (by decide)];have:∀ (w1:World) (o o':Obj) (f:Obj→Obj),f o=o'→{ w1.alloc o with heap:=(w1.alloc o).heap.modify w1.heap.size f }=w1.alloc o':=by
       intro w1 o o' f hf;show { w1 with heap:=(w1.heap.push o).modify w1.heap.size f }={ w1 with heap:=w1.heap.push o' }
       congr 1
       apply Array.ext_getElem?;intro j;rw [Array.getElem?_modify,Array.getElem?_push,Array.getElem?_push]
       by_cases hj:j=w1.heap.size
       ·subst hj;simp [hf]
       ·rw [if_neg (Ne.symm hj),if_neg hj,if_neg hj]
      exact this w.drew _ _ _ rfl
     have hms:(markStringish ⟨w.heap.size,0,none⟩).run P (w.drew.alloc (Obj.cells cc e))=.ok () (w.drew.alloc (Obj.cells cc e (kc,kc+1))):=by
      have hsh:(w.drew.alloc (Obj.cells cc e)).shape? w.heap.size=some (e,kc):=by
       have:=heap_alloc_new w.drew (Obj.cells cc e);have h9:(w.drew.alloc (Obj.cells cc e)).heap[w.heap.size]?=some (Obj.cells cc e):=this;simp only [World.shape?,h9,hasl]
      have h8:(shape w.heap.size).run P (w.drew.alloc (Obj.cells cc e))=.ok (some (e,kc)) (w.drew.alloc (Obj.cells cc e)):=by simp only [shape,Sem.run,hsh]
      simp only [markStringish,Sem.run_bind,h8,Result.andThen_ok];rw [←hfz];rfl
     simp only [convert,Sem.run_bind,Q0f hs,Q0f hd,Result.andThen_ok,h1,Q0f hu8,Conv.stringToBytes,choose,Sem.run,Question.forced,Bool.false_eq_true,if_false,hk,hcc];have hnr:(newRow e cc).run P w.drew=.ok ⟨w.heap.size,0,none⟩ (w.drew.alloc (Obj.cells cc e)):=rfl;have hdr:({ w with drawn:=w.drawn+1 }:World)=w.drew:=rfl;rw [hdr];simp only [hnr,Result.andThen_ok,hms]
     rfl
    ·refine ⟨w.heap.size,0,0,kc,cc,e,(kc,kc+1),Gh.add_same _ _ _,rfl,.inl rfl,hkc,heap_alloc_new w.drew _,by omega,Nat.le_refl _,hkc,hkm⟩
   ·cases h
  ·exact pureCase h
 ·rename_i c
  split at h
  ·rename_i s x t xt e1 e2 e3
   obtain ⟨cal,args,ats⟩:=c;simp only at e1 e2 e3;subst e1;exact evAppend_sound hm H (by rw [←Array.toList_inj];exact e2) (by rw [←Array.toList_inj];exact e3) h hF
  ·rename_i m k t kt e1 e2 e3
   obtain ⟨cal,args,ats⟩:=c;simp only at e1 e2 e3;subst e1;obtain rfl:args=#[m,k]:=by rw [←Array.toList_inj];exact e2
   obtain rfl:ats=#[t,kt]:=by rw [←Array.toList_inj];exact e3
   obtain ⟨w',h1,h2,h3⟩:=evDelete_run (P:=P) (ty:=ty) (ts:=#[t,kt]) hm rfl (H m) (H k) h;obtain ⟨r1,c1,n1⟩:=res;simp only at h2;subst h2;exact ⟨.value (.tuple #[]),w',G,by simp [execOp,mkO,resolve,invoke,builtin,h1],rfl,h3⟩
  ·rename_i s t e1 e2 e3
   obtain ⟨cal,args,ats⟩:=c;simp only at e1 e2 e3;subst e1;obtain rfl:args=#[s]:=by rw [←Array.toList_inj];exact e2
   obtain rfl:ats=#[t]:=by rw [←Array.toList_inj];exact e3
   obtain ⟨w',h1,h2,h3⟩:=evClear_sound (P:=P) (ty:=ty) hm (H s) h;obtain ⟨r1,c1,n1⟩:=res;simp only at h2;subst h2;exact ⟨.value (.tuple #[]),w',G,by simp [execOp,mkO,resolve,invoke,builtin,h1],rfl,h3⟩
  ·exact pureCase h
 ·exact pureCase h
end
end Go.Ev
end
