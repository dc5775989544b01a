/- winnowinglaw13.fixed comes out true. -/
import Derived.WalkKit
import Derived.WalkSpells
import Derived.WalkLawsBesides
import Derived.Deep.QuietTactic
import Derived.BigQuiet
import Derived.Lib.Hide
import Derived.WalkSmall
import Derived.Test.YtlnaihkombcbcaaGreatProg
import Derived.Test.YtlnaihkombcbcaaGreatBc0
import Derived.ChangeSlices
import Derived.ChangeSame
import Derived.ChangeArms
import GoSem.ClaimJoined
import Derived.ProofKit
import Derived.Test.YtlnaihkombcbcaaGreatBc2
import Derived.Laws.OwnMore
import Derived.Sort.OwnSorted
import Derived.Laws.IdiomStrings
import Derived.Lib.SliceRun
import Derived.Shelf.Small.Utf8
import Derived.Shelf.Small.Bits
import Derived.Shelf.Small.Strs
import Derived.Shelf.Strconv.Itoa0
import Derived.Shelf.Strings.Search1
import Derived.Shelf.Sort.Plain
import Derived.Shelf.Strings.Runes
import Derived.Shelf.Slices.Turned
import Derived.Shelf.Slices.Equal
import Derived.Ground.Names2Prog
import Derived.Shelf.Slices.ReverseS
import Derived.Shelf.Slices.Clone
import Derived.Shelf.Slices.CompactS
import Derived.Shelf.Slices.SearchI
import Derived.Shelf.Slices.Cells
import Derived.Shelf.Slices.In.SortNone
import Derived.Shelf.Slices.Empties2
import Derived.Ground.SlgnProg
import Derived.Shelf.SlicesE.Clone
import Derived.RangeFuncBox
import Derived.Maps.OwnIn
import Derived.Deep.LoopGhost
import Derived.Laws.RangeString
import Derived.Laws.RangeAny
import Derived.Lib.IndexAny
import Derived.Maps.RangeRun
import Derived.Test.YtlnaihkombcbcaaGreatChecked
import Derived.Maps.RangeWalk
import Derived.KernelRfl
set_option linter.unusedSimpArgs false
noncomputable section
namespace Go.Proofs.YtlnaihkombcbcaaGreat
open Go.RowKit
abbrev Str:=List UInt8
def bs (l:Str):ByteArray:=⟨l.toArray⟩
def StrsAt (w:World) (v:Value) (zs:List ByteArray):Prop :=
 (zs=[]∧∃ a c,v=.slice a 0 c) ∨
 ∃ b off cap,v=.slice (some ⟨b,off,none⟩) zs.length cap∧zs.length≤cap∧0<zs.length ∧
   ∀ j (hj:j<zs.length),w.cell? ⟨b,off+j,none⟩=some (.string zs[j])
theorem cell_lt {w:World} {a:Addr} {v:Value} (h:w.cell? a=some v):a.block<w.heap.size:=by
 unfold World.cell? at h
 split at h
 ·rename_i hh;exact (Array.getElem?_eq_some_iff.1 hh).1
 ·cases h
theorem bup {a b c:World} (h:Below a.heap.size a b) (k:Below b.heap.size b c):Below a.heap.size a c :=
 h.trans (k.mono h.size)
theorem ba_len (s:ByteArray):s.data.toList.length=s.size:=by rw [Array.length_toList];rfl
theorem bs_toList (l:Str):(bs l).toList=l:=by rw [ByteArray.toList_eq];rfl
def SAt (w:World) (v:Value) (ss:List Str):Prop:=StrsAt w v (ss.map bs)
theorem cell_up {w w':World} {a:Addr} {v:Value} (h:w.cell? a=some v) (hb:Below w.heap.size w w'):w'.cell? a=some v:=by
 rw [hb.cell (cell_lt h)];exact h
theorem below_alloc (w:World) (o:Obj):Below w.heap.size w (w.alloc o):=(Below.refl _ w).alloc (Nat.le_refl _) o
end Go.Proofs.YtlnaihkombcbcaaGreat
namespace Go.Proofs.YtlnaihkombcbcaaGreat
open Go.ChangeShapes Go.WideShapes Go.RowKit Go.Ev
inductive Simp where
 | mk (kind:Int) (name value:ByteArray) (a b:Int) (l:List Simp)
namespace Simp
def kind:Simp→Int | .mk k _ _ _ _ _=>k
def name:Simp→ByteArray | .mk _ n _ _ _ _=>n
def value:Simp→ByteArray | .mk _ _ v _ _ _=>v
def l:Simp→List Simp | .mk _ _ _ _ _ l=>l
end Simp
mutual
def encS:Simp→List AV
 | .mk k n v a b l=>[.g (.int .i64 k),.g (.string n),.g (.string v),.g (.int .i64 a),.g (.int .i64 b),.sl l.length 6 (encSs l)]
def encSs:List Simp→List AV
 | []=>[]
 | x::xs=>encS x++encSs xs
end
theorem encSs_flat:∀ l:List Simp,encSs l=l.flatMap encS
 | []=>by rw [encSs];rfl
 | x::xs=>by rw [encSs,encSs_flat xs,List.flatMap_cons]
theorem encS_len (x:Simp):(encS x).length=6:=by cases x;rw [encS];rfl
structure Part where
 comb:Int
 l:List Simp
structure Cx where
 parts:List Part
 pseudo:ByteArray
def encP (p:Part):List AV:=[.g (.int .i64 p.comb),.sl p.l.length 6 (p.l.flatMap encS)]
def encC (c:Cx):List AV:=[.sl c.parts.length 2 (c.parts.flatMap encP),.g (.string c.pseudo)]
section
variable {w:World}
theorem flat_get {α:Type} (enc:α→List AV) (sz:Nat) (hsz:∀ x,(enc x).length=sz):∀ (l:List α) (k:Nat) (hk:k<l.length) (j:Nat),j<sz→(l.flatMap enc)[k*sz+j]?=(enc l[k])[j]?
 | x::xs,0,_,j,hj=>by
   rw [List.flatMap_cons,Nat.zero_mul,Nat.zero_add,List.getElem?_append_left (by rw [hsz];exact hj)];rfl
 | x::xs,k+1,hk,j,hj=>by
   rw [List.flatMap_cons,List.getElem?_append_right (by rw [hsz,Nat.succ_mul];omega),hsz];rw [show (k+1)*sz+j - sz=k*sz+j by rw [Nat.succ_mul];omega];exact flat_get enc sz hsz xs k (by simpa using hk) j hj
end
section
variable {H:Type} {enc:TypeId×Value→H} {P:Program} {W:World} {sp:Nat→Bool} {held:Bool}
def Fits (P:Program) (t:TypeId) (d:DataW H):Prop:=∀ x∈d.weights P t,x≤reachBytes
theorem mem_weightsAll {e:TypeId}:∀ {l:List (DataW H)} {d:DataW H},d∈l→∀ x∈d.weights P e,x∈DataW.weightsAll P e l
 | y::l,d,h,x,hx=>by
   simp only [DataW.weightsAll,List.mem_append];rcases List.mem_cons.1 h with rfl | h
   ·exact .inl hx
   ·exact .inr (mem_weightsAll h x hx)
theorem mem_weightsEach:∀ {ts:List TypeId} {l:List (DataW H)} {i:Nat} {t:TypeId} {d:DataW H},ts[i]?=some t→l[i]?=some d→∀ x∈d.weights P t,x∈DataW.weightsEach P ts l
 | [],_,_,_,_,h,_,_,_=>by simp at h
 | _::_,[],_,_,_,_,h,_,_=>by simp at h
 | t'::ts,d'::l,0,t,d,h1,h2,x,hx=>by
   simp only [List.getElem?_cons_zero,Option.some.injEq] at h1 h2;subst h1 h2;simp only [DataW.weightsEach,List.mem_append];exact .inl hx
 | t'::ts,d'::l,i+1,t,d,h1,h2,x,hx=>by
   simp only [DataW.weightsEach,List.mem_append];exact .inr (mem_weightsEach (i:=i) (by simpa using h1) (by simpa using h2) x hx)
theorem open_sl {α:Type} (Good:α→Prop) (en:α→List AV) (sz:Nat) (hsz:∀ x,(en x).length=sz) (hpos:0<sz) {t e:TypeId} (ht:P.underlying t=some (.slice e)) (hc:P.cellsOf e=sz) {fuel:Nat}
 (hel:∀ m,m<fuel→∀ cs x,DataW.trod enc P W 0 sp held m e cs=some x→Fits P e x.1→∃ a:α,Ats W (en a) cs∧Good a) {cs:List Value} {x:DataW H×List MemPlace} (h:DataW.trod enc P W 0 sp held fuel t cs=some x) (hfit:Fits P t x.1) :
 ∃ (l:List α) (v:Value),cs=[v]∧At W (.sl l.length sz (l.flatMap en)) v∧(∀ a∈l,Good a)∧l.length*P.bytesOf e≤reachBytes:=by
 rcases DataW.trod_slice ht h with ⟨rfl,-⟩ | ⟨ad,len,cap,elems,rest,n,hf,rfl,rfl,-,hl,-,hlen,hcell,-,-⟩
 ·exact ⟨[],_,rfl,⟨none,0,rfl,Nat.le_refl _,.inl rfl⟩,by simp,by simp⟩
 ·have hw:(Go.DataW.slice (elems.map (·.1)) (rest.map (·.1))).weights P t=((elems.map (·.1)).length+(rest.map (·.1)).length)*P.bytesOf e::(DataW.weightsAll P e (elems.map (·.1))++DataW.weightsAll P e (rest.map (·.1))):=by
   rw [DataW.weights,ht]
  have hbound:len*P.bytesOf e≤reachBytes:=by
   have h9:=hfit _ (by rw [hw];exact List.mem_cons_self);rw [List.length_map,hlen] at h9;exact Nat.le_trans (Nat.mul_le_mul_right _ (Nat.le_add_right _ _)) h9
  have each:∀ i,i<len→∃ (a:α) (ci:List Value),W.cells? 0 (ad.add (i*sz)) sz=some ci∧Ats W (en a) ci∧Good a:=fun i hi=>by
   have h1:=hcell i hi;rw [List.getElem?_eq_getElem (by omega),hc,Option.bind_eq_some_iff] at h1;obtain ⟨ci,h2,h3⟩:=h1
   obtain ⟨a,ha,hg⟩:=hel n (by omega) ci _ h3 (fun y hy=>hfit y (by
    rw [hw]
    exact List.mem_cons_of_mem _ (List.mem_append_left _ (mem_weightsAll (List.mem_map.2 ⟨_,List.getElem_mem (by omega),rfl⟩) y hy))))
   exact ⟨a,ci,h2,ha,hg⟩
  have : ∃ l:List α,l.length=len∧(∀ a∈l,Good a)∧∀ i (hi:i<l.length),∃ ci:List Value,W.cells? 0 (ad.add (i*sz)) sz=some ci∧Ats W (en l[i]) ci:=by
   clear h hcell hlen hw hfit;have key:∀ m,m≤len→∃ l:List α,l.length=m∧(∀ a∈l,Good a)∧∀ i (hi:i<l.length),∃ ci:List Value,W.cells? 0 (ad.add (i*sz)) sz=some ci∧Ats W (en l[i]) ci:=by
    intro m
    induction m with
    | zero=>intro _;exact ⟨[],rfl,by simp,fun i hi=>by simp at hi⟩
    | succ m ih =>
      intro hm;obtain ⟨l,rfl,hgl,h2⟩:=ih (by omega);obtain ⟨a,ci,h3,h4,hga⟩:=each l.length (by omega);refine ⟨l++[a],by simp,fun y hy=>?_,fun i hi=>?_⟩
      ·rcases List.mem_append.1 hy with hy | hy
       ·exact hgl y hy
       ·simp at hy;subst hy;exact hga
      by_cases hil:i<l.length
      ·obtain ⟨cj,h5,h6⟩:=h2 i hil
       exact ⟨cj,h5,by rw [List.getElem_append_left hil];exact h6⟩
      ·have:i=l.length:=by simp at hi;omega
       subst this;exact ⟨ci,h3,by rw [List.getElem_append_right (Nat.le_refl _)];simpa using h4⟩
   exact key len (Nat.le_refl _)
  obtain ⟨l,hll,hgl,hl2⟩:=this;refine ⟨l,_,rfl,⟨some ad,cap,by rw [hll],by rw [hll];exact hl,?_⟩,hgl,by rw [hll];exact hbound⟩
  by_cases h0:l.length=0
  ·exact .inl h0
  ·right
   have hrow:∀ (i:Nat) (a:AV),(l.flatMap en)[i]?=some a→∃ v,W.cell? (ad.add i)=some v∧At W a v:=by
    intro i a hi;have hlt:i<l.length*sz:=by
     have:=(List.getElem?_eq_some_iff.1 hi).1;have e:(l.flatMap en).length=l.length*sz:=by
      clear hi this hl2 hll h0 hgl
      induction l with
      | nil=>simp
      | cons x xs ih=>rw [List.flatMap_cons,List.length_append,ih,hsz,List.length_cons,Nat.succ_mul];omega
     omega
    have hk:i / sz<l.length:=Nat.div_lt_of_lt_mul (by rw [Nat.mul_comm];exact hlt);have hj:i % sz<sz:=Nat.mod_lt _ hpos;obtain ⟨ci,h5,h6⟩:=hl2 (i / sz) hk;have e2:i / sz*sz+i % sz=i:=by rw [Nat.mul_comm];exact Nat.div_add_mod i sz
    have h7:=flat_get en sz hsz l (i / sz) hk (i % sz) hj;rw [e2,hi] at h7;obtain ⟨-,h8,h9⟩:=World.cells?_some h5;obtain ⟨v,h10,h11⟩:=VRs.get h6 h7.symm;refine ⟨v,?_,h11⟩;have h12:=h9 (i % sz) hj;rw [h10] at h12;rw [←h12]
    congr 1
    obtain ⟨b,o,s⟩:=ad;unfold Addr.add
    split <;> split <;> (try split) <;> simp_all <;> omega
   have hspot:ad=⟨ad.block,ad.off,none⟩:=by
    obtain ⟨v,h1,-⟩:=hrow 0 ((l.flatMap en)[0]'(by
     cases l with
     | nil=>exact absurd rfl h0
     | cons x xs=>rw [List.flatMap_cons,List.length_append,hsz];omega)) (List.getElem?_eq_getElem _)
    obtain ⟨b,o,s⟩:=ad
    cases s with
    | none=>rfl
    | some _ =>
      exfalso;revert h1;simp only [Addr.add,World.cell?]
      split <;> simp
   refine ⟨ad.block,ad.off,by rw [←hspot],RowR.mk ?_ fun i a hi=>?_⟩
   ·obtain ⟨v,h1,-⟩:=hrow 0 ((l.flatMap en)[0]'(by
     cases l with
     | nil=>exact absurd rfl h0
     | cons x xs=>rw [List.flatMap_cons,List.length_append,hsz];omega)) (List.getElem?_eq_getElem _)
    rw [hspot] at h1;have:=cell_lt h1;simpa [Addr.add] using this
   ·obtain ⟨v,h1,h2⟩:=hrow i a hi
    refine ⟨v,?_,h2⟩;rw [hspot] at h1;rw [show (⟨ad.block,ad.off+i,none⟩:Addr)=(⟨ad.block,ad.off,none⟩:Addr).add i by simp [Addr.add]];exact h1
end
theorem c_simp:Tryz.prog.cellsOf 239=6:=by kernel_rfl
theorem c_simps:Tryz.prog.cellsOf 178=1:=by kernel_rfl
theorem c_part:Tryz.prog.cellsOf 180=2:=by kernel_rfl
theorem c_parts:Tryz.prog.cellsOf 88=1:=by kernel_rfl
theorem c_cx:Tryz.prog.cellsOf 90=2:=by kernel_rfl
theorem b_part:Tryz.prog.bytesOf 180=32:=by kernel_rfl
theorem c_int:Tryz.prog.cellsOf 3=1:=by kernel_rfl
theorem c_str:Tryz.prog.cellsOf 9=1:=by kernel_rfl
section
variable {H:Type} {enc:TypeId×Value→H} {W:World} {sp:Nat→Bool} {held:Bool}
theorem field_of {t:TypeId} {fs:Array Field} (ht:Tryz.prog.underlying t=some (.struct fs)) {fuel:Nat} {cs:List Value} {x:DataW H×List MemPlace} (h:DataW.trod enc Tryz.prog W 0 sp held fuel t cs=some x) :
 cs.length=Tryz.prog.cellsOf t∧∃ n,fuel=n+1∧∀ (i:Nat) (f:Field),fs[i]?=some f→∃ y,DataW.trod enc Tryz.prog W 0 sp held n f.type ((cs.drop f.offset).take (Tryz.prog.cellsOf f.type))=some y∧(Fits Tryz.prog t x.1→Fits Tryz.prog f.type y.1):=by
 obtain ⟨xs,n,hf,rfl,hl,hlen,hfi⟩:=DataW.trod_struct ht h;refine ⟨hl,n,hf,fun i f hi=>?_⟩;have hlt:i<xs.length:=by rw [hlen];exact (Array.getElem?_eq_some_iff.1 hi).1
 refine ⟨xs[i],by rw [hfi i f hi,List.getElem?_eq_getElem hlt],fun hfit z hz=>hfit z ?_⟩;rw [DataW.weights,ht];exact mem_weightsEach (i:=i) (by rw [List.getElem?_map,Array.getElem?_toList,hi];rfl) (by rw [List.getElem?_map,List.getElem?_eq_getElem hlt];rfl) z hz
set_option maxRecDepth 100000 in
theorem open_simp:∀ (fuel:Nat) (cs:List Value) (x:DataW H×List MemPlace),DataW.trod enc Tryz.prog W 0 sp held fuel 239 cs=some x→Fits Tryz.prog 239 x.1→∃ a:Simp,Ats W (encS a) cs∧True:=by
 intro fuel
 induction fuel using Nat.strongRecOn with
 | ind fuel ih =>
   intro cs x h hfit;obtain ⟨hl,n,rfl,hf⟩:=field_of Tryz.underlying239 h;rw [c_simp] at hl;obtain ⟨c0,c1,c2,c3,c4,c5,rfl⟩:∃ c0 c1 c2 c3 c4 c5,cs=[c0,c1,c2,c3,c4,c5]:=by
    match cs,hl with
    | [a,b,c,d,e,f],_=>exact ⟨a,b,c,d,e,f,rfl⟩
   obtain ⟨y0,h0,f0⟩:∃ y,DataW.trod enc Tryz.prog W 0 sp held n 3 ((List.drop 0 [c0,c1,c2,c3,c4,c5]).take (Tryz.prog.cellsOf 3))=some y∧(Fits Tryz.prog 239 x.1→Fits Tryz.prog 3 y.1):=hf 0 _ rfl;obtain ⟨y1,h1,f1⟩:∃ y,DataW.trod enc Tryz.prog W 0 sp held n 9 ((List.drop 1 [c0,c1,c2,c3,c4,c5]).take (Tryz.prog.cellsOf 9))=some y∧(Fits Tryz.prog 239 x.1→Fits Tryz.prog 9 y.1):=hf 1 _ rfl;obtain ⟨y2,h2,f2⟩:∃ y,DataW.trod enc Tryz.prog W 0 sp held n 9 ((List.drop 2 [c0,c1,c2,c3,c4,c5]).take (Tryz.prog.cellsOf 9))=some y∧(Fits Tryz.prog 239 x.1→Fits Tryz.prog 9 y.1):=hf 2 _ rfl;obtain ⟨y3,h3,f3⟩:∃ y,DataW.trod enc Tryz.prog W 0 sp held n 3 ((List.drop 3 [c0,c1,c2,c3,c4,c5]).take (Tryz.prog.cellsOf 3))=some y∧(Fits Tryz.prog 239 x.1→Fits Tryz.prog 3 y.1):=hf 3 _ rfl;obtain ⟨y4,h4,f4⟩:∃ y,DataW.trod enc Tryz.prog W 0 sp held n 3 ((List.drop 4 [c0,c1,c2,c3,c4,c5]).take (Tryz.prog.cellsOf 3))=some y∧(Fits Tryz.prog 239 x.1→Fits Tryz.prog 3 y.1):=hf 4 _ rfl;obtain ⟨y5,h5,f5⟩:∃ y,DataW.trod enc Tryz.prog W 0 sp held n 178 ((List.drop 5 [c0,c1,c2,c3,c4,c5]).take (Tryz.prog.cellsOf 178))=some y∧(Fits Tryz.prog 239 x.1→Fits Tryz.prog 178 y.1):=hf 5 _ rfl;simp only [c_int,c_str,c_simps,List.drop,List.take] at h0 h1 h2 h3 h4 h5;obtain ⟨k,e0,-⟩:=DataW.trod_int Tryz.underlying3 h0;obtain ⟨nm,e1,-⟩:=DataW.trod_string Tryz.underlying9 h1;obtain ⟨vl,e2,-⟩:=DataW.trod_string Tryz.underlying9 h2;obtain ⟨a,e3,-⟩:=DataW.trod_int Tryz.underlying3 h3;obtain ⟨b,e4,-⟩:=DataW.trod_int Tryz.underlying3 h4;obtain ⟨l,v,e5,hv,-,-⟩:=open_sl (fun _=>True) encS 6 encS_len (by decide) Tryz.underlying178 c_simp (fun m hm=>ih m (by omega)) h5 (f5 hfit);simp only [List.cons.injEq,and_true] at e0 e1 e2 e3 e4 e5;subst e0 e1 e2 e3 e4 e5;refine ⟨.mk k nm vl a b l,?_,trivial⟩;rw [encS,encSs_flat];exact VRs.cons_mk rfl (VRs.cons_mk rfl (VRs.cons_mk rfl (VRs.cons_mk rfl (VRs.cons_mk rfl (VRs.cons_mk hv (by rw [VRs]))))))
set_option maxRecDepth 100000 in
theorem open_part (fuel:Nat) (cs:List Value) (x:DataW H×List MemPlace) (h:DataW.trod enc Tryz.prog W 0 sp held fuel 180 cs=some x) (hfit:Fits Tryz.prog 180 x.1):∃ a:Part,Ats W (encP a) cs∧True:=by
 obtain ⟨hl,n,rfl,hf⟩:=field_of Tryz.underlying180 h;rw [c_part] at hl;obtain ⟨c0,c1,rfl⟩:∃ c0 c1,cs=[c0,c1]:=by
  match cs,hl with
  | [a,b],_=>exact ⟨a,b,rfl⟩
 obtain ⟨y0,h0,f0⟩:∃ y,DataW.trod enc Tryz.prog W 0 sp held n 3 ((List.drop 0 [c0,c1]).take (Tryz.prog.cellsOf 3))=some y∧(Fits Tryz.prog 180 x.1→Fits Tryz.prog 3 y.1):=hf 0 _ rfl;obtain ⟨y1,h1,f1⟩:∃ y,DataW.trod enc Tryz.prog W 0 sp held n 178 ((List.drop 1 [c0,c1]).take (Tryz.prog.cellsOf 178))=some y∧(Fits Tryz.prog 180 x.1→Fits Tryz.prog 178 y.1):=hf 1 _ rfl;simp only [c_int,c_simps,List.drop,List.take] at h0 h1;obtain ⟨k,e0,-⟩:=DataW.trod_int Tryz.underlying3 h0;obtain ⟨l,v,e1,hv,-,-⟩:=open_sl (fun _=>True) encS 6 encS_len (by decide) Tryz.underlying178 c_simp (fun m _=>open_simp m) h1 (f1 hfit);simp only [List.cons.injEq,and_true] at e0 e1;subst e0 e1;exact ⟨⟨k,l⟩,VRs.cons_mk rfl (VRs.cons_mk hv (by rw [VRs])),trivial⟩
set_option maxRecDepth 100000 in
theorem open_cx (fuel:Nat) (cs:List Value) (x:DataW H×List MemPlace) (h:DataW.trod enc Tryz.prog W 0 sp held fuel 90 cs=some x) (hfit:Fits Tryz.prog 90 x.1):∃ a:Cx,Ats W (encC a) cs∧a.parts.length≤reachBytes:=by
 obtain ⟨hl,n,rfl,hf⟩:=field_of Tryz.underlying90 h;rw [c_cx] at hl;obtain ⟨c0,c1,rfl⟩:∃ c0 c1,cs=[c0,c1]:=by
  match cs,hl with
  | [a,b],_=>exact ⟨a,b,rfl⟩
 obtain ⟨y0,h0,f0⟩:∃ y,DataW.trod enc Tryz.prog W 0 sp held n 88 ((List.drop 0 [c0,c1]).take (Tryz.prog.cellsOf 88))=some y∧(Fits Tryz.prog 90 x.1→Fits Tryz.prog 88 y.1):=hf 0 _ rfl;obtain ⟨y1,h1,f1⟩:∃ y,DataW.trod enc Tryz.prog W 0 sp held n 9 ((List.drop 1 [c0,c1]).take (Tryz.prog.cellsOf 9))=some y∧(Fits Tryz.prog 90 x.1→Fits Tryz.prog 9 y.1):=hf 1 _ rfl;simp only [c_str,c_parts,List.drop,List.take] at h0 h1;obtain ⟨l,v,e0,hv,-,hb⟩:=open_sl (fun _=>True) encP 2 (fun _=>rfl) (by decide) Tryz.underlying88 c_part (fun m _=>open_part m) h0 (f0 hfit);obtain ⟨s,e1,-⟩:=DataW.trod_string Tryz.underlying9 h1;simp only [List.cons.injEq,and_true] at e0 e1;subst e0 e1;rw [b_part] at hb;exact ⟨⟨l,s⟩,VRs.cons_mk hv (VRs.cons_mk rfl (by rw [VRs])),by show l.length≤_;omega⟩
set_option maxRecDepth 1000000 in
theorem open_cxs {base:Nat} {v:Value} {d:DataW H} {ps:List MemPlace} (hval:Value.okWide Tryz.prog W .any base 50 v) (h:DataW.Trod enc Tryz.prog W 0 sp held 50 v d ps) (hfit:Fits Tryz.prog 50 d) :
 ∃ l:List Cx,At W (.sl l.length 2 (l.flatMap encC)) v∧∀ c∈l,c.parts.length≤reachBytes:=by
 obtain ⟨fuel,hv⟩:=h;obtain ⟨a,n,c,rfl⟩:=okWide_slice Tryz.underlying50 hval;obtain ⟨l,v,e,hl,hg,-⟩:=open_sl (fun c:Cx=>c.parts.length≤reachBytes) encC 2 (fun _=>rfl) (by decide) Tryz.underlying50 c_cx (fun m _=>open_cx m) hv hfit;simp only [Value.cells,List.cons.injEq,and_true] at e;subst e;exact ⟨l,hl,hg⟩
end
end Go.Proofs.YtlnaihkombcbcaaGreat
namespace Go.Proofs.YtlnaihkombcbcaaGreat
open Go.RowKit Go.Ev
end Go.Proofs.YtlnaihkombcbcaaGreat
namespace Go.Proofs.YtlnaihkombcbcaaGreat
open Go.ChangeShapes Go.WideShapes Go.RowKit Go.Ev
inductive Vl where
 | mk (kind tk:Int) (text:ByteArray) (n:Int) (l:List Vl)
namespace Vl
def kind:Vl→Int | .mk k _ _ _ _=>k
def tk:Vl→Int | .mk _ k _ _ _=>k
def text:Vl→ByteArray | .mk _ _ t _ _=>t
def n:Vl→Int | .mk _ _ _ n _=>n
def l:Vl→List Vl | .mk _ _ _ _ l=>l
end Vl
mutual
def encV:Vl→List AV
 | .mk k t s n l=>[.g (.int .i64 k),.g (.int .i64 t),.g (.string s),.g (.int .i64 n),.sl l.length 5 (encVs l)]
def encVs:List Vl→List AV
 | []=>[]
 | x::xs=>encV x++encVs xs
end
section
variable {H:Type} {enc:TypeId×Value→H} {W:World} {sp:Nat→Bool} {held:Bool}
end
end Go.Proofs.YtlnaihkombcbcaaGreat
namespace Go.Proofs.YtlnaihkombcbcaaGreat
open Go.RowKit Go.Ev
mutual
def cntV:Vl→Nat
 | .mk _ _ _ _ l=>1+cntVs l
def cntVs:List Vl→Nat
 | []=>0
 | x::xs=>cntV x+cntVs xs
end
end Go.Proofs.YtlnaihkombcbcaaGreat
namespace Go.Proofs.YtlnaihkombcbcaaGreat
open Go.RowKit
structure KO (Ow:World→Nat→Prop) (z:Nat) (A B:World):Prop where
 same:∀ k,k<A.heap.size→¬Ow A k→B.heap[k]?=A.heap[k]?
 own:∀ k,k<A.heap.size→Ow B k→Ow A k
 lt:∀ k,Ow B k→k<B.heap.size
 below:Below z A B
section
variable {Ow:World→Nat→Prop} {z:Nat}
end
def IterAll {α:Type} (P:Program) (g:Nat) (lb:Array Value) (encs:α→Array Value) (z N:Nat) (S:List α→Prop) (w:World):Prop :=
 ∀ (n l:Nat) (Ow:World→Nat→Prop) (J:List α→World→Prop) (W:World),Below w.heap.size w W→(∀ k,Ow W k→k<W.heap.size)→(∀ s A B,J s A→Below A.heap.size A B→J s B) →
   (∀ A B k,W.heap.size≤A.heap.size→Below A.heap.size A B→Ow B k→Ow A k) →
   (∀ m pre x A,J pre A→pre.length<N→W.heap.size≤A.heap.size→YieldAt Fence.wide m P l (encs x) A fun e B=>e=.returned (.bool true)∧J (pre++[x]) B∧KO Ow z A B) →
   J [] W→CallsIn Fence.wide n P g (#[.func (.yield l) #[] #[]]++lb) W fun e B=>(∃ v,e=.returned v)∧∃ xs,S xs∧J xs B∧KO Ow z W B
section
variable {n:Nat} {P:Program} {α:Type}
end
end Go.Proofs.YtlnaihkombcbcaaGreat
namespace Go.Proofs.YtlnaihkombcbcaaGreat
open Go.RowKit Go.Ev
attribute [local go_sem] Oper.semAt_some
end Go.Proofs.YtlnaihkombcbcaaGreat
namespace Go.Proofs.YtlnaihkombcbcaaGreat
open Go.RowKit Go.Ev Go.Sort
def sOf (b:ByteArray):Str:=b.data.toList
section
variable {w:World}
end
def blankB (x:Vl):Bool:=x.kind==1&&x.tk==8
def trimM (l:List Vl):List Vl:=((l.dropWhile blankB).reverse.dropWhile blankB).reverse
structure Rf where
 name:ByteArray
 fb:List Vl
 falls:Bool
 is:Bool
def commaB (z:Vl):Bool:=z.kind==1&&(z.tk==7&&z.text.toList==[44]&&z.n==0)
def restM (name:ByteArray):List Vl→Rf
 | []=>⟨name,[],false,true⟩
 | z::q=>⟨name,trimM q,commaB z,commaB z⟩
end Go.Proofs.YtlnaihkombcbcaaGreat
namespace Go.Proofs
open Go.Shelf
def Tryz.lays119_ren:Go.Shelf.Ren:=⟨fun | 119=>324 | n=>n,fun | 21=>21 | 4=>4 | n=>n,fun | n=>n⟩
theorem Tryz.lays119 : Go.Proofs.Lays.n119 Tryz.prog Tryz.lays119_ren := {
 mixed:=by kernel_rfl
 f119:=Tryz.func324.trans (congrArg some (by kernel_rfl))
 t4:=Tryz.underlying4
 a4:=Tryz.isAgg4
 z4:=Tryz.sizeOf4
 v4:=Tryz.zeroValue4
 t21:=Tryz.underlying21
 a21:=Tryz.isAgg21
 z21:=Tryz.sizeOf21
 v21:=Tryz.zeroValue21 }
theorem Tryz.utf8_ValidRune (r:Int) (w:World) :
 Calls Tryz.prog 324 #[.int .i32 r] w fun e w'=>e=.returned (.bool (Lib.validRune r))∧w'=w:=Any.utf8_ValidRune Tryz.lays119 r w
def Tryz.lays137_ren:Go.Shelf.Ren:=⟨fun | 137=>323 | 217=>352 | 266=>364 | n=>n,fun | 9=>9 | 5=>5 | 3=>3 | n=>n,fun | n=>n⟩
theorem Tryz.lays137 : Go.Proofs.Lays.n137 Tryz.prog Tryz.lays137_ren := {
 mixed:=by kernel_rfl
 f137:=Tryz.func323.trans (congrArg some (by kernel_rfl))
 f217:=Tryz.func352.trans (congrArg some (by kernel_rfl))
 f266:=Tryz.func364.trans (congrArg some (by kernel_rfl))
 t3:=Tryz.underlying3
 a3:=Tryz.isAgg3
 z3:=Tryz.sizeOf3
 v3:=Tryz.zeroValue3
 t5:=Tryz.underlying5
 a5:=Tryz.isAgg5
 z5:=Tryz.sizeOf5
 v5:=Tryz.zeroValue5
 t9:=Tryz.underlying9
 a9:=Tryz.isAgg9
 z9:=Tryz.sizeOf9
 v9:=Tryz.zeroValue9 }
open Go.RowKit in
theorem Tryz.strings_IndexByte (s:ByteArray) (c:Int) (w:World) :
 Calls Tryz.prog 323 #[.string s,.int .u8 c] w fun e w'=>e=.returned (.int .i64 (Lib.indexByte s.data.toList c.toNat.toUInt8))∧w'=w:=Any.strings_IndexByte Tryz.lays137 s c w
def Tryz.lays217_ren:Go.Shelf.Ren:=⟨fun | 217=>352 | 266=>364 | n=>n,fun | 9=>9 | 5=>5 | 3=>3 | n=>n,fun | n=>n⟩
theorem Tryz.lays217 : Go.Proofs.Lays.n217 Tryz.prog Tryz.lays217_ren := {
 mixed:=by kernel_rfl
 f217:=Tryz.func352.trans (congrArg some (by kernel_rfl))
 f266:=Tryz.func364.trans (congrArg some (by kernel_rfl))
 t3:=Tryz.underlying3
 a3:=Tryz.isAgg3
 z3:=Tryz.sizeOf3
 v3:=Tryz.zeroValue3
 t5:=Tryz.underlying5
 a5:=Tryz.isAgg5
 z5:=Tryz.sizeOf5
 v5:=Tryz.zeroValue5
 t9:=Tryz.underlying9
 a9:=Tryz.isAgg9
 z9:=Tryz.sizeOf9
 v9:=Tryz.zeroValue9 }
open Go.RowKit Go.Lib in
theorem Tryz.stringslite_IndexByte (s:ByteArray) (c:Int) (w:World) :
 Calls Tryz.prog 352 #[.string s,.int .u8 c] w fun e w'=>e=.returned (.int .i64 (Lib.indexByte s.data.toList c.toNat.toUInt8))∧w'=w:=Any.stringslite_IndexByte Tryz.lays217 s c w
def Tryz.lays189_ren:Go.Shelf.Ren:=⟨fun | 189=>107 | 125=>126 | 257=>175 | 128=>196 | 129=>197 | 294=>232 | 295=>233 | 296=>234 | 297=>235 | 298=>236 | 299=>237 | 216=>238 | 300=>239 | 301=>240 | 328=>295 | 329=>249 | 330=>250 | 331=>296 | 332=>297 | 215=>298 | 343=>330 | n=>n,fun | 28=>83 | 3=>3 | 46=>197 | 0=>0 | 51=>275 | 53=>153 | 4=>4 | 183=>268 | 182=>267 | 131=>272 | 5=>5 | 9=>9 | 218=>327 | 222=>331 | 228=>371 | 229=>372 | n=>n,fun | n=>n⟩
theorem Tryz.lays189 : Go.Proofs.Lays.n189 Tryz.prog Tryz.lays189_ren := {
 mixed:=by kernel_rfl
 f125:=Tryz.func126.trans (congrArg some (by kernel_rfl))
 f128:=Tryz.func196.trans (congrArg some (by kernel_rfl))
 f129:=Tryz.func197.trans (congrArg some (by kernel_rfl))
 f189:=Tryz.func107.trans (congrArg some (by kernel_rfl))
 f215:=Tryz.func298.trans (congrArg some (by kernel_rfl))
 f216:=Tryz.func238.trans (congrArg some (by kernel_rfl))
 f257:=Tryz.func175.trans (congrArg some (by kernel_rfl))
 f294:=Tryz.func232.trans (congrArg some (by kernel_rfl))
 f295:=Tryz.func233.trans (congrArg some (by kernel_rfl))
 f296:=Tryz.func234.trans (congrArg some (by kernel_rfl))
 f297:=Tryz.func235.trans (congrArg some (by kernel_rfl))
 f298:=Tryz.func236.trans (congrArg some (by kernel_rfl))
 f299:=Tryz.func237.trans (congrArg some (by kernel_rfl))
 f300:=Tryz.func239.trans (congrArg some (by kernel_rfl))
 f301:=Tryz.func240.trans (congrArg some (by kernel_rfl))
 f328:=Tryz.func295.trans (congrArg some (by kernel_rfl))
 f329:=Tryz.func249.trans (congrArg some (by kernel_rfl))
 f330:=Tryz.func250.trans (congrArg some (by kernel_rfl))
 f331:=Tryz.func296.trans (congrArg some (by kernel_rfl))
 f332:=Tryz.func297.trans (congrArg some (by kernel_rfl))
 f343:=Tryz.func330.trans (congrArg some (by kernel_rfl))
 t0:=Tryz.underlying0
 a0:=Tryz.isAgg0
 z0:=Tryz.sizeOf0
 v0:=Tryz.zeroValue0
 t3:=Tryz.underlying3
 a3:=Tryz.isAgg3
 z3:=Tryz.sizeOf3
 v3:=Tryz.zeroValue3
 t4:=Tryz.underlying4
 a4:=Tryz.isAgg4
 z4:=Tryz.sizeOf4
 v4:=Tryz.zeroValue4
 t5:=Tryz.underlying5
 a5:=Tryz.isAgg5
 z5:=Tryz.sizeOf5
 v5:=Tryz.zeroValue5
 t9:=Tryz.underlying9
 a9:=Tryz.isAgg9
 z9:=Tryz.sizeOf9
 v9:=Tryz.zeroValue9
 t28:=Tryz.underlying83
 a28:=Tryz.isAgg83
 z28:=Tryz.sizeOf83
 v28:=Tryz.zeroValue83
 t46:=Tryz.underlying197
 a46:=Tryz.isAgg197
 z46:=Tryz.sizeOf197
 v46:=Tryz.zeroValue197
 t51:=Tryz.underlying275
 a51:=Tryz.isAgg275
 z51:=Tryz.sizeOf275
 v51:=Tryz.zeroValue275
 t53:=Tryz.underlying153
 a53:=Tryz.isAgg153
 z53:=Tryz.sizeOf153
 v53:=Tryz.zeroValue153
 t131:=Tryz.underlying272
 a131:=Tryz.isAgg272
 z131:=Tryz.sizeOf272
 v131:=Tryz.zeroValue272
 t182:=Tryz.underlying267
 a182:=Tryz.isAgg267
 z182:=Tryz.sizeOf267
 v182:=Tryz.zeroValue267
 t183:=Tryz.underlying268
 a183:=Tryz.isAgg268
 z183:=Tryz.sizeOf268
 v183:=Tryz.zeroValue268
 t218:=Tryz.underlying327
 a218:=Tryz.isAgg327
 z218:=Tryz.sizeOf327
 v218:=Tryz.zeroValue327
 t222:=Tryz.underlying331
 a222:=Tryz.isAgg331
 z222:=Tryz.sizeOf331
 v222:=Tryz.zeroValue331
 t228:=Tryz.underlying371
 a228:=Tryz.isAgg371
 z228:=Tryz.sizeOf371
 v228:=Tryz.zeroValue371
 t229:=Tryz.underlying372
 a229:=Tryz.isAgg372
 z229:=Tryz.sizeOf372
 v229:=Tryz.zeroValue372 }
open Go.Sort Go.RowKit in
theorem Tryz.slices_Sort_int (blk off cap:Nat) (zs:List Int) (w:World) (hH:Holds (Value.int .i64) w blk off zs.toArray) (hblk:blk<w.heap.size) (hsz:zs.length<4611686018427387904) :
 Calls Tryz.prog 107 #[.slice (some ⟨blk,off,none⟩) zs.length cap] w fun e w' =>
  e=.returned (.tuple #[])∧∃ n os,w'=grow (putRow (Value.int .i64) (Sort.ahead w n) blk off (zs.mergeSort fun x y=>decide (x≤y)).toArray) os:=Any.slices_Sort_int Tryz.lays189 blk off cap zs w hH hblk hsz
def Tryz.lays190_ren:Go.Shelf.Ren:=⟨fun | 190=>174 | 125=>126 | 258=>231 | 128=>196 | 129=>197 | 302=>287 | 303=>288 | 304=>289 | 305=>290 | 306=>291 | 307=>292 | 308=>267 | 309=>293 | 310=>294 | 333=>327 | 329=>249 | 330=>250 | 334=>328 | 335=>329 | 336=>127 | 344=>353 | n=>n,fun | 31=>25 | 9=>9 | 3=>3 | 46=>197 | 0=>0 | 51=>275 | 53=>153 | 4=>4 | 183=>268 | 182=>267 | 131=>272 | 5=>5 | 218=>327 | 222=>331 | 228=>371 | 229=>372 | n=>n,fun | n=>n⟩
theorem Tryz.lays190 : Go.Proofs.Lays.n190 Tryz.prog Tryz.lays190_ren := {
 mixed:=by kernel_rfl
 f125:=Tryz.func126.trans (congrArg some (by kernel_rfl))
 f128:=Tryz.func196.trans (congrArg some (by kernel_rfl))
 f129:=Tryz.func197.trans (congrArg some (by kernel_rfl))
 f190:=Tryz.func174.trans (congrArg some (by kernel_rfl))
 f258:=Tryz.func231.trans (congrArg some (by kernel_rfl))
 f302:=Tryz.func287.trans (congrArg some (by kernel_rfl))
 f303:=Tryz.func288.trans (congrArg some (by kernel_rfl))
 f304:=Tryz.func289.trans (congrArg some (by kernel_rfl))
 f305:=Tryz.func290.trans (congrArg some (by kernel_rfl))
 f306:=Tryz.func291.trans (congrArg some (by kernel_rfl))
 f307:=Tryz.func292.trans (congrArg some (by kernel_rfl))
 f308:=Tryz.func267.trans (congrArg some (by kernel_rfl))
 f309:=Tryz.func293.trans (congrArg some (by kernel_rfl))
 f310:=Tryz.func294.trans (congrArg some (by kernel_rfl))
 f329:=Tryz.func249.trans (congrArg some (by kernel_rfl))
 f330:=Tryz.func250.trans (congrArg some (by kernel_rfl))
 f333:=Tryz.func327.trans (congrArg some (by kernel_rfl))
 f334:=Tryz.func328.trans (congrArg some (by kernel_rfl))
 f335:=Tryz.func329.trans (congrArg some (by kernel_rfl))
 f336:=Tryz.func127.trans (congrArg some (by kernel_rfl))
 f344:=Tryz.func353.trans (congrArg some (by kernel_rfl))
 t0:=Tryz.underlying0
 a0:=Tryz.isAgg0
 z0:=Tryz.sizeOf0
 v0:=Tryz.zeroValue0
 t3:=Tryz.underlying3
 a3:=Tryz.isAgg3
 z3:=Tryz.sizeOf3
 v3:=Tryz.zeroValue3
 t4:=Tryz.underlying4
 a4:=Tryz.isAgg4
 z4:=Tryz.sizeOf4
 v4:=Tryz.zeroValue4
 t5:=Tryz.underlying5
 a5:=Tryz.isAgg5
 z5:=Tryz.sizeOf5
 v5:=Tryz.zeroValue5
 t9:=Tryz.underlying9
 a9:=Tryz.isAgg9
 z9:=Tryz.sizeOf9
 v9:=Tryz.zeroValue9
 t31:=Tryz.underlying25
 a31:=Tryz.isAgg25
 z31:=Tryz.sizeOf25
 v31:=Tryz.zeroValue25
 t46:=Tryz.underlying197
 a46:=Tryz.isAgg197
 z46:=Tryz.sizeOf197
 v46:=Tryz.zeroValue197
 t51:=Tryz.underlying275
 a51:=Tryz.isAgg275
 z51:=Tryz.sizeOf275
 v51:=Tryz.zeroValue275
 t53:=Tryz.underlying153
 a53:=Tryz.isAgg153
 z53:=Tryz.sizeOf153
 v53:=Tryz.zeroValue153
 t131:=Tryz.underlying272
 a131:=Tryz.isAgg272
 z131:=Tryz.sizeOf272
 v131:=Tryz.zeroValue272
 t182:=Tryz.underlying267
 a182:=Tryz.isAgg267
 z182:=Tryz.sizeOf267
 v182:=Tryz.zeroValue267
 t183:=Tryz.underlying268
 a183:=Tryz.isAgg268
 z183:=Tryz.sizeOf268
 v183:=Tryz.zeroValue268
 t218:=Tryz.underlying327
 a218:=Tryz.isAgg327
 z218:=Tryz.sizeOf327
 v218:=Tryz.zeroValue327
 t222:=Tryz.underlying331
 a222:=Tryz.isAgg331
 z222:=Tryz.sizeOf331
 v222:=Tryz.zeroValue331
 t228:=Tryz.underlying371
 a228:=Tryz.isAgg371
 z228:=Tryz.sizeOf371
 v228:=Tryz.zeroValue371
 t229:=Tryz.underlying372
 a229:=Tryz.isAgg372
 z229:=Tryz.sizeOf372
 v229:=Tryz.zeroValue372 }
open Go.Sort Go.RowKit in
theorem Tryz.slices_Sort_string (blk off cap:Nat) (ss:List (List UInt8)) (w:World) (hH:Holds encStr w blk off ss.toArray) (hblk:blk<w.heap.size) (hsz:ss.length<4611686018427387904) :
 Calls Tryz.prog 174 #[.slice (some ⟨blk,off,none⟩) ss.length cap] w fun e w' =>
  e=.returned (.tuple #[])∧∃ n os,w'=grow (putRow encStr (Sort.ahead w n) blk off (ss.mergeSort fun x y=>decide (x≤y)).toArray) os:=Any.slices_Sort_string Tryz.lays190 blk off cap ss w hH hblk hsz
def Tryz.lays151_ren:Go.Shelf.Ren:=⟨fun | 151=>230 | 152=>286 | 137=>323 | 119=>324 | 224=>325 | 225=>326 | 217=>352 | 266=>364 | n=>n,fun | 9=>9 | 21=>21 | 4=>4 | 3=>3 | 5=>5 | 0=>0 | 46=>197 | n=>n,fun | n=>n⟩
theorem Tryz.lays151 : Go.Proofs.Lays.n151 Tryz.prog Tryz.lays151_ren := {
 mixed:=by kernel_rfl
 f119:=Tryz.func324.trans (congrArg some (by kernel_rfl))
 f137:=Tryz.func323.trans (congrArg some (by kernel_rfl))
 f151:=Tryz.func230.trans (congrArg some (by kernel_rfl))
 f152:=Tryz.func286.trans (congrArg some (by kernel_rfl))
 f217:=Tryz.func352.trans (congrArg some (by kernel_rfl))
 f224:=Tryz.func325.trans (congrArg some (by kernel_rfl))
 f225:=Tryz.func326.trans (congrArg some (by kernel_rfl))
 f266:=Tryz.func364.trans (congrArg some (by kernel_rfl))
 t0:=Tryz.underlying0
 a0:=Tryz.isAgg0
 z0:=Tryz.sizeOf0
 v0:=Tryz.zeroValue0
 t3:=Tryz.underlying3
 a3:=Tryz.isAgg3
 z3:=Tryz.sizeOf3
 v3:=Tryz.zeroValue3
 t4:=Tryz.underlying4
 a4:=Tryz.isAgg4
 z4:=Tryz.sizeOf4
 v4:=Tryz.zeroValue4
 t5:=Tryz.underlying5
 a5:=Tryz.isAgg5
 z5:=Tryz.sizeOf5
 v5:=Tryz.zeroValue5
 t9:=Tryz.underlying9
 a9:=Tryz.isAgg9
 z9:=Tryz.sizeOf9
 v9:=Tryz.zeroValue9
 t21:=Tryz.underlying21
 a21:=Tryz.isAgg21
 z21:=Tryz.sizeOf21
 v21:=Tryz.zeroValue21
 t46:=Tryz.underlying197
 a46:=Tryz.isAgg197
 z46:=Tryz.sizeOf197
 v46:=Tryz.zeroValue197 }
open Go.RowKit Go.Lib in
theorem Tryz.strings_ContainsRune_ascii (s:ByteArray) (r:Int) (w:World) (h0:0≤r) (h1:r<128) :
 Calls Tryz.prog 230 #[.string s,.int .i32 r] w fun e w'=>e=.returned (.bool (decide (0≤Lib.indexByte s.data.toList r.toNat.toUInt8)))∧w'=w:=Any.strings_ContainsRune_ascii Tryz.lays151 s r w h0 h1
def Tryz.lays194_ren:Go.Shelf.Ren:=⟨fun | 194=>154 | n=>n,fun | 31=>25 | 9=>9 | 3=>3 | 4=>4 | 0=>0 | n=>n,fun | n=>n⟩
theorem Tryz.lays194 : Go.Proofs.Lays.n194 Tryz.prog Tryz.lays194_ren := {
 mixed:=by kernel_rfl
 f194:=Tryz.func154.trans (congrArg some (by kernel_rfl))
 t0:=Tryz.underlying0
 a0:=Tryz.isAgg0
 z0:=Tryz.sizeOf0
 v0:=Tryz.zeroValue0
 t3:=Tryz.underlying3
 a3:=Tryz.isAgg3
 z3:=Tryz.sizeOf3
 v3:=Tryz.zeroValue3
 t4:=Tryz.underlying4
 a4:=Tryz.isAgg4
 z4:=Tryz.sizeOf4
 v4:=Tryz.zeroValue4
 t9:=Tryz.underlying9
 a9:=Tryz.isAgg9
 z9:=Tryz.sizeOf9
 v9:=Tryz.zeroValue9
 t31:=Tryz.underlying25
 a31:=Tryz.isAgg25
 z31:=Tryz.sizeOf25
 v31:=Tryz.zeroValue25 }
open Go.RowKit Go.Lib Go.Sort in
theorem Tryz.slices_Compact_string (blk off cap:Nat) (zs:List (List UInt8)) (w:World) (hH:Holds encStr w blk off zs.toArray) (hsz:zs.length≤9223372036854775807) (hcap:zs.length≤cap) :
 Calls Tryz.prog 154 #[.slice (some ⟨blk,off,none⟩) zs.length cap] w fun e w'=>e=.returned (.slice (some ⟨blk,off,none⟩) (Lib.compact zs).length cap)∧∃ q,w'=putRow encStr (Sort.ahead w q) blk off (Lib.compact zs++List.replicate (zs.length - (Lib.compact zs).length) []).toArray:=Any.slices_Compact_string Tryz.lays194 blk off cap zs w hH hsz hcap
open Go.RowKit Go.Lib Go.Sort in
theorem Tryz.slices_Compact_string_empty (a:Option Addr) (cap:Nat) (w:World) :
 Calls Tryz.prog 154 #[.slice a 0 cap] w fun e w'=>e=.returned (.slice a 0 cap)∧w'=w:=Any.slices_Compact_string_empty Tryz.lays194 a cap w
open Go.RowKit Go.Sort in
theorem Tryz.slices_Sort_string_none (p:Option Addr) (cap:Nat) (w:World) :
 Calls Tryz.prog 174 #[.slice p 0 cap] w fun e w'=>e=.returned (.tuple #[])∧w'=w:=Any.slices_Sort_string_none Tryz.lays190 p cap w
open Go.RowKit Go.Sort in
theorem Tryz.slices_Sort_int_none (p:Option Addr) (cap:Nat) (w:World) :
 Calls Tryz.prog 107 #[.slice p 0 cap] w fun e w'=>e=.returned (.tuple #[])∧w'=w:=Any.slices_Sort_int_none Tryz.lays189 p cap w
end Go.Proofs
namespace Go.Proofs.YtlnaihkombcbcaaGreat
open Go.RowKit Go.Sort Go.Ev
attribute [local go_sem] Oper.semAt_some
def sortM (ss:List Str):List Str:=ss.mergeSort fun x y=>decide (x≤y)
theorem sortM_len (ss:List Str):(sortM ss).length=ss.length:=by simp [sortM]
section
variable (gf:Nat) (heg:∀ args w,(callFunc gf args).run Tryz.prog w=.ok (.enter gf args) w) (lb:Array Value) (N:Nat) (hN:N≤1000000) (S:List ByteArray→Prop) (w:World)
 (hseq:∀ w',Below w.heap.size w w'→w.heap.size≤w'.heap.size→IterAll Tryz.prog gf lb (fun x:ByteArray=>#[.string x]) w.heap.size N S w')
include heg hN hseq
end
end Go.Proofs.YtlnaihkombcbcaaGreat
namespace Go.Proofs.YtlnaihkombcbcaaGreat
open Go.RowKit Go.Ev
attribute [local go_sem] Oper.semAt_some
mutual
def okV:Vl→Bool
 | .mk _ _ s _ l=>decide (s.size≤1000000)&&okVs l
def okVs:List Vl→Bool
 | []=>true
 | x::xs=>okV x&&okVs xs
end
end Go.Proofs.YtlnaihkombcbcaaGreat
namespace Go.Proofs.YtlnaihkombcbcaaGreat
open Go.RowKit Go.Sort Go.Ev
attribute [local go_sem] Oper.semAt_some
def ddS (a:List ByteArray) (x:ByteArray):List ByteArray:=if Lib.containsS a x=true then a else a++[x]
def dd (l:List ByteArray):List ByteArray:=l.foldl ddS []
end Go.Proofs.YtlnaihkombcbcaaGreat
namespace Go.Proofs.YtlnaihkombcbcaaGreat
open Go.RowKit
section
variable {F:Fence} {n:Nat} {P:Program} {α:Type}
end
end Go.Proofs.YtlnaihkombcbcaaGreat
namespace Go.Proofs.YtlnaihkombcbcaaGreat
open Go.RowKit Go.Sort Go.Ev
attribute [local go_sem] Oper.semAt_some
structure Dl where
 name:ByteArray
 l:List Vl
 imp:Bool
def encD (d:Dl):List AV:=[.g (.string d.name),.sl d.l.length 5 (d.l.flatMap encV),.g (.bool d.imp)]
def pickM:List Vl→ByteArray×Bool
 | [y]=>if y.kind=1∧(y.tk=1∨y.tk=6) then (y.text,true) else (⟨#[]⟩,false)
 | _=>(⟨#[]⟩,false)
end Go.Proofs.YtlnaihkombcbcaaGreat
namespace Go.Proofs.YtlnaihkombcbcaaGreat
open Go.RowKit Go.Ev
end Go.Proofs.YtlnaihkombcbcaaGreat
namespace Go.Proofs.YtlnaihkombcbcaaGreat
open Go.RowKit
set_option maxHeartbeats 4000000 in
set_option maxRecDepth 1000000 in
theorem irune_err (s:ByteArray) (w:World) (ha:∀ (i:Nat) (h:i<s.size),(s[i]'h).toNat<128) :
 Calls Tryz.prog 286 #[.string s,.int .i32 65533] w fun e w'=>e=.returned (.int .i64 (-1))∧Below w.heap.size w w':=by
 have HA:=Lib.hid ha;clear ha
 go_enter Tryz.func286,Tryz.ntmps286
 go_wp2
 go_loopg [5,6] s.size (fun g _ _ wx=>∃ i:Nat,i+g=s.size∧wx=w.iter s i)
 case atStart=>exact ⟨0,by omega,rfl⟩
 case round =>
  obtain ⟨i,hig,rfl⟩:=hrel
  cases gk with
  | zero =>
    obtain rfl:i=s.size:=by omega
    have hnx:=run_next_end (P:=Tryz.prog) w s s.size
    go_wp2
    go_ret
    exact ⟨rfl,below_alloc _ _⟩
  | succ g =>
    have hi:i<s.size:=by omega
    have hx128:=HA.out i hi;have hnx:=fun ty=>run_next_ascii (P:=Tryz.prog) w s i ty hi hx128;have hne:((s[i].toNat:Int)==65533)=false:=beq_eq_false_iff_ne.2 (by omega)
    go_wp2
    go_roundg g
    case measure=>omega
    case rel=>exact ⟨i+1,by omega,rfl⟩
set_option maxHeartbeats 4000000 in
set_option maxRecDepth 1000000 in
theorem irune_bad (s:ByteArray) (r:Int) (w:World) (h1:128≤r) (h2:r≠65533) (h3:Lib.validRune r=false) :
 Calls Tryz.prog 286 #[.string s,.int .i32 r] w fun e w'=>e=.returned (.int .i64 (-1))∧Below w.heap.size w w':=by
 have hne:(r==65533)=false:=beq_eq_false_iff_ne.2 h2;clear h2
 go_enter Tryz.func286,Tryz.ntmps286
 go_wp2_with fail
 refine (Tryz.utf8_ValidRune _ _).mono ?_;rintro e w' ⟨rfl,rfl⟩;rw [h3]
 go_wp2
 go_ret
 exact ⟨rfl,Below.refl _ _⟩
theorem valid_eq (r:Int):Utf8.valid r=Lib.validRune r:=by
 unfold Utf8.valid Lib.validRune;rw [Bool.eq_iff_iff];simp only [Bool.or_eq_true,Bool.and_eq_true,decide_eq_true_eq];omega
theorem idx_none (l:Str) (c:UInt8) (h:∀ b∈l,b≠c):Lib.indexByte l c=-1:=by
 induction l with
 | nil=>rfl
 | cons b l ih =>
   have h1:(b==c)=false:=beq_eq_false_iff_ne.2 (h b (by simp));have h2:=ih fun x hx=>h x (by simp [hx]);rw [Lib.indexByte,if_neg (by simp [h1]),h2];rfl
set_option maxHeartbeats 4000000 in
set_option maxRecDepth 1000000 in
theorem irune_good (s:ByteArray) (r:Int) (w:World) (hs:s.size≤1000000) (h4:4≤s.size) (ha:∀ (i:Nat) (h:i<s.size),(s[i]'h).toNat<128) (h1:128≤r) (h2:r≠65533) (h3:Lib.validRune r=true) :
 Calls Tryz.prog 286 #[.string s,.int .i32 r] w fun e w'=>e=.returned (.int .i64 (-1))∧Below w.heap.size w w':=by
 have hne:(r==65533)=false:=beq_eq_false_iff_ne.2 h2;clear h2;obtain ⟨f1,f2,f3⟩:=encode_facts r ((valid_eq r).trans h3) h1;have hcv:=fun w=>run_convert_int_string (P:=Tryz.prog) w 21 9 .i32 r (by kernel_rfl) Tryz.underlying9;generalize Utf8.encode r=rs at *;obtain ⟨n,hn⟩:∃ n,rs.size=n+1:=⟨rs.size - 1,by omega⟩;have hnl:n<rs.size:=by omega
 have hns:n<s.size:=by omega
 have f4:128≤rs[n].toNat:=by
  have e:rs.size - 1=n:=by omega
  have:=f3 (by omega);simpa only [e] using this
 have f5:=ha n hns;have hib:∀ w:World,Calls Tryz.prog 323 #[.string (s.extract (n+1) s.size),.int .u8 (rs[n].toNat:Int)] w fun e w'=>e=.returned (.int .i64 (-1))∧w'=w:=fun w=>by
  have h:=Tryz.strings_IndexByte (s.extract (n+1) s.size) (rs[n].toNat:Int) w;rw [idx_none _ _ ?_] at h
  ·exact h
  ·intro b hb
   rw [Lib.extract_data] at hb;have hb2:=List.mem_of_mem_drop (List.mem_of_mem_take hb);obtain ⟨j,hj,e⟩:=List.getElem_of_mem hb2;have hj2:j<s.size:=by rw [ba_len] at hj;exact hj
   have:=ha j hj2;have e2:s[j]=b:=e;rw [e2] at this;intro e3;rw [e3] at this;simp at this;omega
 have hnz:((s[n].toNat:Int) != (rs[n].toNat:Int))=true:=by rw [bne_iff_ne];omega
 have b1:(0:Int)≤(n:Int):=by omega
 have b2:(n:Int)<(s.size:Int):=by omega
 have b3:(n:Int)<(rs.size:Int):=by omega
 clear ha f3 f1 f4 f5;have HIB:=Lib.hid hib;clear hib
 go_enter Tryz.func286,Tryz.ntmps286
 go_wp2_with fail
 refine (Tryz.utf8_ValidRune _ _).mono ?_;rintro e w' ⟨rfl,rfl⟩;rw [h3]
 go_wp2_with fail
 go_step3
 go_wp2_with fail
 go_loopg [9] 1 (fun g v9 wx=>v9=.int .i64 n∧wx=w'∧g=1)
 case atStart=>exact ⟨rfl,rfl,rfl⟩
 case round =>
  obtain ⟨rfl,rfl,rfl⟩:=hrel;clear hn
  go_wp2_with fail
  go_step3
  go_wp2_with fail
  go_quiet (fail)
  have hB5:=below_drewN (Below.refl wr.heap.size wr) nq;generalize wr.drewN nq=w5 at hB5 ⊢
  go_wp2_with fail
  have q1:IntKind.i64.wrap ((n:Int)+1)=(n:Int)+1:=IntWalk.i64_in _ (by omega);have q2:(0:Int)≤(n:Int)+1:=by omega
  have q3:((n:Int)+1).toNat=n+1:=by omega
  have q4:(n:Int)+1≤(s.size:Int):=by omega
  go_quiet ((go_at_call 323;exact Calls.quiet_of_same (HIB.out _)))
  go_wp2
  simp only [Exit.noGoto,Exit.inBlock,Exit.then]
  go_ret
  exact ⟨rfl,below_drewN hB5 _⟩
theorem irune_high (s:ByteArray) (r:Int) (w:World) (hs:s.size≤1000000) (h4:4≤s.size) (ha:∀ (i:Nat) (h:i<s.size),(s[i]'h).toNat<128) (h1:128≤r) :
 Calls Tryz.prog 286 #[.string s,.int .i32 r] w fun e w'=>e=.returned (.int .i64 (-1))∧Below w.heap.size w w':=by
 by_cases h:r=65533
 ·subst h
  exact irune_err s w ha
 ·cases h3:Lib.validRune r
  ·exact irune_bad s r w h1 h h3
  ·exact irune_good s r w hs h4 ha h1 h h3
def risesB (ss:List Str):Prop:=ss.Pairwise fun a b=>a<b
theorem rises_at {ss:List Str} (h:risesB ss) {k:Nat} (hk:k+1<ss.length):ss[k]<ss[k+1]:=List.pairwise_iff_getElem.1 h k (k+1) (by omega) hk (by omega)
theorem rises_any (v:Value) (ss:List Str) (w:World) (hv:SAt w v ss) (hr:risesB ss) (hl:ss.length≤1000000) :
 Calls Tryz.prog 43 #[v] w fun e w'=>e=.returned (.bool true)∧Below w.heap.size w w':=by
 rcases hv with ⟨hnil,a,c,rfl⟩ | ⟨b,off,cap,rfl,hcap,hpos,hc⟩
 ·obtain rfl:ss=[]:=by simpa using hnil
  go_enter Tryz.func43,Tryz.ntmps43
  go_wp2
  go_loop [3] (fun i=>i=.int .i64 1) (fun i=>0)
  case atStart=>rfl
  case round =>
   subst hrel
   go_wp2
   go_ret
   exact ⟨rfl,Below.refl _ _⟩
 ·simp only [List.length_map] at hcap hpos ⊢
  have hcs:∀ j (hj:j<ss.length),w.cell? ⟨b,off+j,none⟩=some (.string (bs ss[j])):=fun j hj=>by have:=hc j (by simpa using hj);simpa using this
  have HC:=Lib.hid hcs;have HR:=Lib.hid hr;clear hc hcs hr
  go_enter Tryz.func43,Tryz.ntmps43
  go_wp2
  go_loopw [3] (fun i wr=>∃ k:Nat,1≤k∧k≤ss.length∧i=.int .i64 k∧Below w.heap.size w wr) (fun i _=>ss.length - (intOf i).toNat)
  case atStart=>exact ⟨1,Nat.le_refl _,hpos,rfl,Below.refl _ _⟩
  case round =>
   obtain ⟨k,hk1,hk,rfl,hB⟩:=hrel
   by_cases hlt:k<ss.length
   ·obtain ⟨j,rfl⟩:∃ j,k=j+1:=⟨k - 1,by omega⟩
    have h1:=rises_at HR.out hlt;have c0:=cell_up (HC.out j (by omega)) hB;have c1:=cell_up (HC.out (j+1) hlt) hB;have hb:Op.bytesLess (bs ss[j]).toList (bs ss[j+1]).toList=true:=by rw [bs_toList,bs_toList,bytesLess_eq];exact decide_eq_true h1
    go_wp2
    go_quiet (fail)
    go_wp2
    go_roundw
    case rel=>exact ⟨j+1+1,by omega,by omega,by go_num,below_drewN hB _⟩
    case measure=>simp [intOf];omega
   ·go_wp2
    go_ret
    exact ⟨rfl,hB⟩
theorem str_total (a b:Str):a≤b∨b≤a:=List.le_total a b
theorem str_trans {a b c:Str} (h:a≤b) (k:b≤c):a≤c:=List.le_trans h k
theorem str_lt {a b:Str} (h:a≤b) (hne:a≠b):a<b:=Decidable.byContradiction fun hn=>hne (List.le_antisymm h (List.not_lt.1 hn))
theorem sortM_sorted (ss:List Str):(sortM ss).Pairwise (·≤·):=by
 have h:=List.pairwise_mergeSort (le:=fun (x y:Str)=>decide (x≤y)) (by intro a b c h k;simp at *;exact str_trans h k) (by intro a b;simpa using str_total a b) ss;exact h.imp fun h=>of_decide_eq_true h
theorem keeps_iff {zs:List Str} {j:Nat} (hj:j<zs.length):Lib.keeps zs.toArray j=true↔∀ h:0<j,zs[j]≠zs[j - 1]:=by
 by_cases h0:0<j
 ·have e1:zs.toArray[j]! = zs[j]:=by simp [hj]
  have e2:zs.toArray[j - 1]! = zs[j - 1]:=by simp [show j - 1<zs.length by omega]
  by_cases e:zs[j]=zs[j - 1]
  ·rw [Lib.keeps_neg h0 (by rw [e1,e2,e])]
   simp [h0,e]
  ·rw [Lib.keeps_pos (by rw [e1,e2];exact e)]
   simp [e]
 ·rw [Lib.keeps_lt_one _ j (by omega)]
  simp [show ¬0<j by omega]
theorem compact_map (zs:List Str):Lib.compact zs=((List.range zs.length).filter (Lib.keeps zs.toArray)).map fun j=>zs.toArray[j]! := by
 unfold Lib.compact Lib.compactUpTo;simp
theorem mem_compact (zs:List Str) (x:Str):x∈Lib.compact zs↔x∈zs:=by
 rw [compact_map]
 constructor
 ·intro h
  obtain ⟨j,hj,rfl⟩:=List.mem_map.1 h;have hj2:=List.mem_range.1 (List.mem_filter.1 hj).1;simp [hj2]
 ·intro h
  obtain ⟨n,hn,rfl⟩:=List.getElem_of_mem h;have key:∀ n (hn:n<zs.length),∃ j,∃ hj:j<zs.length,Lib.keeps zs.toArray j=true∧zs[j]=zs[n]:=by
   intro n
   induction n with
   | zero=>exact fun hn=>⟨0,hn,(keeps_iff hn).2 fun h=>absurd h (by omega),rfl⟩
   | succ n ih =>
     intro hn
     by_cases e:zs[n+1]=zs[n]
     ·obtain ⟨j,hj,h1,h2⟩:=ih (by omega)
      exact ⟨j,hj,h1,by rw [h2,e]⟩
     ·exact ⟨n+1,hn,(keeps_iff hn).2 fun _=>e,rfl⟩
  obtain ⟨j,hj,h1,h2⟩:=key n hn;refine List.mem_map.2 ⟨j,List.mem_filter.2 ⟨List.mem_range.2 hj,h1⟩,?_⟩;rw [←h2];simp [hj]
theorem compact_rises {zs:List Str} (h:zs.Pairwise (·≤·)):risesB (Lib.compact zs):=by
 rw [compact_map];refine List.pairwise_map.2 (List.Pairwise.imp_of_mem (R:=fun a b=>a<b) ?_ ((List.pairwise_lt_range).filter _));intro i j hi hj hij;have hj1:=List.mem_filter.1 hj;have hi2:=List.mem_range.1 (List.mem_filter.1 hi).1;have hj2:=List.mem_range.1 hj1.1;have hk:=(keeps_iff hj2).1 hj1.2 (by omega);have e1:zs.toArray[i]! = zs[i]:=by simp [hi2]
 have e2:zs.toArray[j]! = zs[j]:=by simp [hj2]
 rw [e1,e2];have h1:zs[i]≤zs[j - 1]:=by
  by_cases e:i=j - 1
  ·subst e;exact List.le_refl _
  ·exact List.pairwise_iff_getElem.1 h i (j - 1) hi2 (by omega) (by omega)
 have h2:zs[j - 1]≤zs[j]:=List.pairwise_iff_getElem.1 h (j - 1) j (by omega) hj2 (by omega);have h3:zs[j - 1]<zs[j]:=str_lt h2 fun e=>hk e.symm;exact List.lt_of_le_of_lt h1 h3
theorem mem_sortM (ss:List Str) (x:Str):x∈sortM ss↔x∈ss:=(List.mergeSort_perm ss _).mem_iff
theorem rises_nodup {l:List Str} (h:risesB l):l.Nodup:=List.Pairwise.imp (fun {a b} (h:a<b) (e:a=b)=>List.lt_irrefl b (e▸h)) h
end Go.Proofs.YtlnaihkombcbcaaGreat
namespace Go.Proofs.YtlnaihkombcbcaaGreat
open Go.RowKit Go.ChangeMaps
def kindE (v:Value):Int:=match v with
 | .agg cs=>match (cs:Array Value)[0]? with
   | some (Value.int _ k)=>k
   | _=>0
 | _=>0
def lenE (v:Value):Nat:=match v with
 | .slice _ n _=>n
 | _=>0
def partK (p:Int→Bool) (x:MapEntry):Nat:=if p (kindE x.key) then lenE x.val else 0
def sumK (p:Int→Bool) (l:List MapEntry):Nat:=(l.map (partK p)).sum
def seenK (p:Int→Bool):List MapEntry→Array Nat→Nat
 | [],_=>0
 | x::l,seen=>(if seen.contains x.born then partK p x else 0)+seenK p l seen
theorem seenK_other (p:Int→Bool) (seen:Array Nat) (b:Nat):∀ (es:List MapEntry),b∉es.map (·.born)→seenK p es (seen.push b)=seenK p es seen
 | [],_=>rfl
 | x::l,h=>by
   have hx:(x.born==b)=false:=by
    cases hc:x.born==b with
    | false=>rfl
    | true=>exact absurd (List.mem_cons.2 (Or.inl (beq_iff_eq.1 hc).symm)) h
   have ih:=seenK_other p seen b l (fun e=>h (List.mem_cons.2 (Or.inr e)));simp only [seenK,contains_push,hx,Bool.or_false,ih]
theorem seenK_push (p:Int→Bool) (seen:Array Nat) (e:MapEntry) (hs:seen.contains e.born=false):∀ (es:List MapEntry),(es.map (·.born)).Nodup→e∈es→seenK p es (seen.push e.born)=seenK p es seen+partK p e
 | x :: l,hn,he=>by
   have hn':x.born∉l.map (·.born)∧(l.map (·.born)).Nodup:=List.nodup_cons.1 hn;rcases List.mem_cons.1 he with rfl | h
   ·simp only [seenK,contains_push,hs,beq_self_eq_true,Bool.or_true,if_true,Bool.false_eq_true,if_false,seenK_other p seen e.born l hn'.1]
    omega
   ·have hx:(x.born==e.born)=false:=by
     cases hc:x.born==e.born with
     | false=>rfl
     | true=>exact absurd (by rw [beq_iff_eq.1 hc];exact List.mem_map.2 ⟨e,h,rfl⟩) hn'.1
    simp only [seenK,contains_push,hx,Bool.or_false,seenK_push p seen e hs l hn'.2 h];omega
theorem seenK_full (p:Int→Bool) (seen:Array Nat):∀ (es:List MapEntry),(∀ x∈es,seen.contains x.born=true)→seenK p es seen=sumK p es
 | [],_=>rfl
 | x::l,h=>by
   simp only [seenK,sumK,h x (List.mem_cons.2 (Or.inl rfl)),if_true,List.map_cons,List.sum_cons,seenK_full p seen l (fun y hy=>h y (List.mem_cons.2 (Or.inr hy)))]
theorem seenK_none (p:Int→Bool):∀ (es:List MapEntry),seenK p es #[]=0
 | []=>rfl
 | x::l=>by
   have:(#[]:Array Nat).contains x.born=false:=by simp
   simp only [seenK,this,Bool.false_eq_true,if_false,seenK_none p l]
theorem seenK_le (p:Int→Bool) (seen:Array Nat):∀ (es:List MapEntry),seenK p es seen≤sumK (fun _=>true) es
 | []=>Nat.le_refl _
 | x::l=>by
   have:=seenK_le p seen l;simp only [seenK,sumK,List.map_cons,List.sum_cons] at this ⊢;have h2:(if seen.contains x.born=true then partK p x else 0)≤partK (fun _=>true) x:=by
    unfold partK
    split
    ·split <;> simp
    ·exact Nat.zero_le _
   omega
theorem iterSeen_of {w:World} {r:Nat} {a:Option Nat} {b:Nat} {s:Array Nat} {c:Nat} (h:w.heap[r]?=some (.mapIter a b s c)):w.iterSeen r=s:=by
 unfold World.iterSeen;rw [h]
structure Stepped (r:Nat) (w w':World):Prop where
 os:w'.os=w.os
 tape:w'.tape=w.tape
 output:w'.output=w.output
 size:w'.heap.size=w.heap.size
 block:∀ k,k≠r→w'.heap[k]?=w.heap[k]?
theorem Stepped.below {r:Nat} {w w':World} (h:Stepped r w w') {B:Nat} (hB:B≤r):Below B w w':=⟨h.os,h.tape,h.output,Nat.le_of_eq h.size.symm,fun k hk=>h.block k (by omega)⟩
theorem stepped_setBlock {r:Nat} {w w1:World} (h:w1=w∨w1=w.drew) (o:Obj):Stepped r w (setBlock w1 r o):=by
 have hh:w1.heap=w.heap∧w1.os=w.os∧w1.tape=w.tape∧w1.output=w.output:=by rcases h with rfl | rfl <;> exact ⟨rfl,rfl,rfl,rfl⟩
 obtain ⟨h1,h2,h3,h4⟩:=hh;refine ⟨h2,h3,h4,?_,fun k hk=>?_⟩
 ·show (w1.heap.setIfInBounds r o).size=_;simp [h1]
 ·show (w1.heap.setIfInBounds r o)[k]?=_;rw [Array.getElem?_setIfInBounds_ne (Ne.symm hk),h1]
section
variable {P:Program} (w:World) {ops:Array Oper} {rest:List Oper} {o:Oper} {a:Act} {Q:Exit→Act→World→Prop}
theorem wpList_next_at (hg:o.guard=none) (it:Operand) (hop:o.op=Op.next it false) (r bm c0:Nat) (seen:Array Nat) (es:Array MapEntry)
 (hit:a.eval it=.pointer (some ⟨r,0,none⟩)) (hr:w.heap[r]?=some (.mapIter (some bm) c0 seen c0)) (hb:w.heap[bm]?=some (.map es c0)) (hne:bm≠r) (hold:∀ x∈es.toList,x.born<c0) (hn:(es.toList.map (·.born)).Nodup)
 (hk:∀ x∈es.toList,∃ k s ad n c,x.key=.agg #[.int .i64 k,.string s]∧x.val=.slice ad n c)
 (hDone:(leftOf es seen).size=0→wpList P ops Q rest (a.put o.dst (.tuple #[.bool false])) w)
 (hMore:∀ (e:MapEntry) (k:Int) (s:ByteArray) (ad:Option Addr) (n c:Nat) (w2:World),e∈(leftOf es seen).toList→e.key=.agg #[.int .i64 k,.string s]→e.val=.slice ad n c→Stepped r w w2 →
   w2.heap[r]?=some (.mapIter (some bm) c0 (seen.push e.born) c0)→(Instr.entry (.pointer (some ⟨r,0,none⟩))).run P w2=.ok (.tuple #[.agg #[.int .i64 k,.string s],.slice ad n c]) w2 →
   wpList P ops Q rest (a.put o.dst (.tuple #[.bool true,.agg #[.int .i64 k,.string s],.slice ad n c])) w2) :
 wpList P ops Q (o::rest) a w:=by
 refine wpList_plain hg fun K' hK'=>?_;unfold Oper.wp;rcases run_next_at (P:=P) w o.type r bm c0 c0 seen es c0 hr hb hold (Nat.le_refl _) with ⟨h0,hrun⟩ | ⟨e,he,w1,hw1,hrun⟩
 ·simp [execOp,hop,hit,hrun,Result.andThen]
  exact hK' _ _ (hDone h0)
 ·have hmem:=(mem_left he).1
  obtain ⟨k,s,ad,n,c,h1,h2⟩:=hk e hmem;have hst:=stepped_setBlock (r:=r) hw1 (.mapIter (some bm) c0 (seen.push e.born) c0);have hlt:r<w1.heap.size:=by
   have:r<w.heap.size:=(Array.getElem?_eq_some_iff.1 hr).1;rcases hw1 with rfl | rfl <;> exact this
  have hr2:(setBlock w1 r (.mapIter (some bm) c0 (seen.push e.born) c0)).heap[r]?=some (.mapIter (some bm) c0 (seen.push e.born) c0):=by
   show (w1.heap.setIfInBounds r _)[r]?=_;simp [hlt]
  have hen:=run_entry_at (P:=P) (setBlock w1 r (.mapIter (some bm) c0 (seen.push e.born) c0)) r bm c0 seen es c0 e hr2 (by rw [hst.block bm hne];exact hb) hmem hn;rw [h1,h2] at hrun hen;simp [execOp,hop,hit,hrun,Result.andThen];exact hK' _ _ (hMore e k s ad n c _ he h1 h2 hst hr2 hen)
end
structure MapOf (w:World) (m:Nat) (es:Array MapEntry) (c0:Nat):Prop where
 at_:w.heap[m]?=some (.map es c0)
 old:∀ x∈es.toList,x.born<c0
 nodup:(es.toList.map (·.born)).Nodup
 shape:∀ x∈es.toList,∃ k s ad n c,x.key=.agg #[.int .i64 k,.string s]∧x.val=.slice ad n c
theorem results_tmp4 {fn:Func} {t u v x:Tmp} (h:fn.results=#[.tmp t,.tmp u,.tmp v,.tmp x]) (tmps:Array Value) (P:Program) (w:World) :
 (results fn tmps).run P w=.ok (.tuple #[tmps.getD t undef,tmps.getD u undef,tmps.getD v undef,tmps.getD x undef]) w:=by
 simp [results,h]
theorem ret_i {a b:Nat} (h:a=b):Value.int .i64 (b:Int)=Value.int .i64 (a:Int):=by rw [h]
theorem ret_n {a b n:Nat} (h:a=b+n):Value.int .i64 ((b:Int)+(n:Int))=Value.int .i64 (a:Int):=by rw [h,Int.natCast_add]
def isK (k:Int):Int→Bool:=fun x=>x==k
def isRest:Int→Bool:=fun x=>!(x==3)&&!(x==4)&&!(x==2)
theorem part_of (p:Int→Bool) {e:MapEntry} {k:Int} {s:ByteArray} {ad:Option Addr} {n c:Nat} (h1:e.key=.agg #[.int .i64 k,.string s]) (h2:e.val=.slice ad n c):partK p e=if p k then n else 0:=by
 unfold partK;rw [h1,h2];rfl
set_option maxHeartbeats 2000000 in
theorem keys_any (w:World) (bx bo m c0:Nat) (es:Array MapEntry) (hx:w.cell? ⟨bx,bo,none⟩=some (.map (some m))) (hm:MapOf w m es c0) (hT:sumK (fun _=>true) es.toList≤1000000000) :
 Calls Tryz.prog 47 #[.pointer (some ⟨bx,bo,none⟩)] w fun e w'=>e=.returned (.tuple #[.int .i64 (sumK (isK 3) es.toList:Nat),.int .i64 (sumK (isK 4) es.toList:Nat),.int .i64 (sumK (isK 2) es.toList:Nat),.int .i64 (sumK isRest es.toList:Nat)])∧Below w.heap.size w w':=by
 have hmlt:m<w.heap.size:=(Array.getElem?_eq_some_iff.1 hm.at_).1;have hrange:=run_range_map (P:=Tryz.prog) w 158 162 164 m es c0 Tryz.underlying158 hm.at_;have hne:m≠w.heap.size:=by omega
 obtain ⟨hm1,hold,hnd,hsh⟩:=hm;have HS:=Lib.hid hsh;have HO:=Lib.hid hold;have HN:=Lib.hid hnd;clear hsh hold hnd
 go_enter Tryz.func47,Tryz.ntmps47
 go_wp2
 go_loopw [2,3,4,5] (fun v2 v3 v4 v5 wr=>∃ seen:Array Nat,wr.heap[w.heap.size]?=some (.mapIter (some m) c0 seen c0)∧v2=.int .i64 (seenK (isK 3) es.toList seen:Nat)∧v3=.int .i64 (seenK (isK 4) es.toList seen:Nat) ∧
  v4=.int .i64 (seenK (isK 2) es.toList seen:Nat)∧v5=.int .i64 (seenK isRest es.toList seen:Nat)∧Below w.heap.size w wr∧w.heap.size<wr.heap.size) (fun _ _ _ _ wr=>(leftOf es (wr.iterSeen w.heap.size)).size)
 case atStart =>
  refine ⟨#[],heap_alloc_new _ _,?_,?_,?_,?_,(Below.refl _ w).alloc (Nat.le_refl _) _,by simp⟩
  all_goals rw [seenK_none];rfl
 case round =>
  obtain ⟨seen,hit,rfl,rfl,rfl,rfl,hB,hlt⟩:=hrel;have hb:wr.heap[m]?=some (.map es c0):=by rw [hB.block m hmlt];exact hm1
  go_wp2_with (at_next;refine wpList_next_at _ rfl _ rfl w.heap.size m c0 seen es rfl hit hb hne HO.out HN.out HS.out ?_ ?_)
  ·intro h0
   have hall:=all_seen es seen (by rw [h0];rfl);have e3:=seenK_full (isK 3) seen es.toList hall;have e4:=seenK_full (isK 4) seen es.toList hall;have e2:=seenK_full (isK 2) seen es.toList hall;have er:=seenK_full isRest seen es.toList hall;rw [e3,e4,e2,er];clear e3 e4 e2 er hall
   go_wp2
   try simp only [Exit.inBlock,Exit.then]
   refine bodyPost_ret (results_tmp4 rfl _ _ _) rfl ?_;exact ⟨rfl,hB⟩
  ·intro e k s ad n c w2 he h1 h2 hst hr2 hen
   have he':e∈(leftOf es seen).toList:=by simpa using he
   obtain ⟨hmem,hs0⟩:=mem_left he';have hl1:=left_shrinks es seen e he';have hp:=fun p=>seenK_push p seen e hs0 es.toList HN.out hmem;have hq:=fun p=>seenK_le p (seen.push e.born) es.toList;have hpart:=fun p=>part_of p h1 h2;have hB2:Below w.heap.size w w2:=hB.trans (hst.below (Nat.le_refl _));have hz2:w.heap.size<w2.heap.size:=by rw [hst.size];exact hlt
   have hA:=fun x=>below_alloc w2 x;have HE:∀ (o:Obj),(w2.alloc o).heap[w.heap.size]?=some (.mapIter (some m) c0 (seen.push e.born) c0):=fun o=>by rw [Below.heap_alloc w2 o _ hz2];exact hr2
   have HM:∀ (o:Obj),(leftOf es ((w2.alloc o).iterSeen w.heap.size)).size<(leftOf es (wr.iterSeen w.heap.size)).size:=fun o=>by
    rw [iterSeen_of (HE o),iterSeen_of hit];exact hl1
   have P3:=hp (isK 3);have P4:=hp (isK 4);have P2:=hp (isK 2);have PR:=hp isRest;rw [hpart] at P3 P4 P2 PR;have HHE:=Lib.hid HE;have HHM:=Lib.hid HM;clear HE HM hp hpart he he' h1 h2 hst hl1 hs0 hmem
   by_cases k3:k=3
   ·subst k3
    rw [show isK 3 3=true from rfl,if_pos rfl] at P3;rw [show isK 4 3=false from rfl,if_neg Bool.false_ne_true,Nat.add_zero] at P4;rw [show isK 2 3=false from rfl,if_neg Bool.false_ne_true,Nat.add_zero] at P2;rw [show isRest 3=false from rfl,if_neg Bool.false_ne_true,Nat.add_zero] at PR;have hb1:=hq (isK 3);rw [P3] at hb1;have hb2:(seenK (isK 3) es.toList seen:Int)+(n:Int)≤1000000000:=by omega
    clear hq hb1
    try go_frame
    go_wp2
    go_roundw
    case rel=>exact ⟨_,HHE.out _,ret_n P3,ret_i P4,ret_i P2,ret_i PR,bup hB2 (hA _),by simp;omega⟩
    case measure=>exact HHM.out _
   ·by_cases k4:k=4
    ·subst k4
     rw [show isK 3 4=false from rfl,if_neg Bool.false_ne_true,Nat.add_zero] at P3;rw [show isK 4 4=true from rfl,if_pos rfl] at P4;rw [show isK 2 4=false from rfl,if_neg Bool.false_ne_true,Nat.add_zero] at P2;rw [show isRest 4=false from rfl,if_neg Bool.false_ne_true,Nat.add_zero] at PR;have hb1:=hq (isK 4);rw [P4] at hb1;have hb2:(seenK (isK 4) es.toList seen:Int)+(n:Int)≤1000000000:=by omega
     clear hq hb1
     try go_frame
     go_wp2
     go_roundw
     case rel=>exact ⟨_,HHE.out _,ret_i P3,ret_n P4,ret_i P2,ret_i PR,bup hB2 (hA _),by simp;omega⟩
     case measure=>exact HHM.out _
    ·by_cases k2:k=2
     ·subst k2
      rw [show isK 3 2=false from rfl,if_neg Bool.false_ne_true,Nat.add_zero] at P3;rw [show isK 4 2=false from rfl,if_neg Bool.false_ne_true,Nat.add_zero] at P4;rw [show isK 2 2=true from rfl,if_pos rfl] at P2;rw [show isRest 2=false from rfl,if_neg Bool.false_ne_true,Nat.add_zero] at PR;have hb1:=hq (isK 2);rw [P2] at hb1;have hb2:(seenK (isK 2) es.toList seen:Int)+(n:Int)≤1000000000:=by omega
      clear hq hb1
      try go_frame
      go_wp2
      go_roundw
      case rel=>exact ⟨_,HHE.out _,ret_i P3,ret_i P4,ret_n P2,ret_i PR,bup hB2 (hA _),by simp;omega⟩
      case measure=>exact HHM.out _
     ·have b3:(k==3)=false:=by simpa using k3
      have b4:(k==4)=false:=by simpa using k4
      have b2:(k==2)=false:=by simpa using k2
      rw [show isK 3 k=false from b3,if_neg Bool.false_ne_true,Nat.add_zero] at P3;rw [show isK 4 k=false from b4,if_neg Bool.false_ne_true,Nat.add_zero] at P4;rw [show isK 2 k=false from b2,if_neg Bool.false_ne_true,Nat.add_zero] at P2;rw [show isRest k=true by unfold isRest;rw [b3,b4,b2];rfl,if_pos rfl] at PR;have hb1:=hq (isRest);rw [PR] at hb1;have hb2:(seenK (isRest) es.toList seen:Int)+(n:Int)≤1000000000:=by omega
      clear hq hb1
      try go_frame
      go_wp2
      go_roundw
      case rel=>exact ⟨_,HHE.out _,ret_i P3,ret_i P4,ret_i P2,ret_n PR,bup hB2 (hA _),by simp;omega⟩
      case measure=>exact HHM.out _
end Go.Proofs.YtlnaihkombcbcaaGreat
namespace Go.Proofs.YtlnaihkombcbcaaGreat
open Go.RowKit Go.Ev
def kindA (a:AV):Option Int:=match toG a with
 | some (.agg cs)=>match cs.toList with
   | [.int .i64 k,.string _]=>some k
   | _=>none
 | _=>none
def lenV:AV→Option Nat
 | .gs _ _ n _ _=>some n
 | .sl n _ _=>some n
 | .z0=>some 0
 | .g (.slice _ n _)=>some n
 | _=>none
def partsA:List (Nat×AV×AV)→Option (List (Int×Nat))
 | []=>some []
 | e::es=>match kindA e.2.1,lenV e.2.2,partsA es with
   | some k,some n,some l=>some ((k,n)::l)
   | _,_,_=>none
def sumP (p:Int→Bool):List (Int×Nat)→Nat
 | []=>0
 | x::l=>(if p x.1 then x.2 else 0)+sumP p l
def distinctB:List Nat→Bool
 | []=>true
 | a::l=>!l.contains a&&distinctB l
theorem distinctB_nodup:∀ {l:List Nat},distinctB l=true→l.Nodup
 | [],_=>List.nodup_nil
 | a::l,h=>by
   simp only [distinctB,Bool.and_eq_true,Bool.not_eq_true',List.contains_eq_mem,decide_eq_false_iff_not] at h;exact List.nodup_cons.2 ⟨h.1,distinctB_nodup h.2⟩
def keysA (es:List (Nat×AV×AV)) (clk:Nat):Option AV :=
 match es.all (fun e=>Nat.blt e.1 clk)&&distinctB (es.map (·.1)),partsA es with
 | true,some l=>match Nat.ble (sumP (fun _=>true) l) 1000000000 with
   | true=>some (.tup [.g (.int .i64 (sumP (isK 3) l:Nat)),.g (.int .i64 (sumP (isK 4) l:Nat)),.g (.int .i64 (sumP (isK 2) l:Nat)),.g (.int .i64 (sumP isRest l:Nat))])
   | false=>none
 | _,_=>none
def keysCH:CH:=fun f args rd cur nx=>match Nat.beq f 47,args with
 | true,[.ptr b 0]=>match getR (cur::rd) b with
   | some (.cells (.mp m::_))=>match getR (cur::rd) m with
     | some (.map es clk)=>match keysA es clk with
       | some a=>some (.ret a,cur,nx)
       | none=>none
     | _=>none
   | _=>none
 | _,_=>none
section
variable {w:World} {G:Gh}
theorem kindA_spec {a:AV} {v:Value} {k:Int} (h:kindA a=some k) (hv:VR w G a v):∃ s,v=.agg #[.int .i64 k,.string s]:=by
 unfold kindA at h
 split at h
 ·rename_i cs hg
  obtain rfl:=toG_spec a hg hv
  split at h
  ·rename_i k' s hl
   cases h
   exact ⟨s,congrArg Value.agg (Array.toList_inj.1 hl)⟩
  ·cases h
 ·cases h
theorem lenV_spec {a:AV} {v:Value} {n:Nat} (h:lenV a=some n) (hv:VR w G a v):∃ ad c,v=.slice ad n c:=by
 unfold lenV at h
 split at h
 ·cases h
  obtain ⟨rb,ro,o',cap,c,e,fr,-,rfl,-⟩:=hv;exact ⟨_,_,rfl⟩
 ·cases h
  obtain ⟨ad,cap,rfl,-⟩:=hv;exact ⟨_,_,rfl⟩
 ·cases h
  obtain ⟨ad,rfl⟩:=hv;exact ⟨_,_,rfl⟩
 ·cases h
  obtain rfl:v=_:=hv;exact ⟨_,_,rfl⟩
 ·cases h
theorem partsA_spec:∀ {es:List (Nat×AV×AV)} {l:List MapEntry} {r:List (Int×Nat)},EntR w G es l→partsA es=some r →
 (∀ x∈l,∃ k s ad n c,x.key=.agg #[.int .i64 k,.string s]∧x.val=.slice ad n c)∧(∀ p,sumK p l=sumP p r)∧l.map (·.born)=es.map (·.1)
 | [],l,r,he,h=>by
   rw [EntR] at he;subst he;simp only [partsA,Option.some.injEq] at h;subst h;exact ⟨by simp,fun p=>rfl,rfl⟩
 | e :: es,l,r,he,h=>by
   obtain ⟨x,xs,rfl,⟨h1,h2,h3⟩,h4⟩:=he;simp only [partsA] at h
   split at h
   ·rename_i k n r' e1 e2 e3
    cases h
    obtain ⟨i1,i2,i3⟩:=partsA_spec h4 e3;obtain ⟨s,hk⟩:=kindA_spec e1 h2;obtain ⟨ad,c,hv⟩:=lenV_spec e2 h3;refine ⟨fun y hy=>?_,fun p=>?_,by simp [h1,i3]⟩
    ·rcases List.mem_cons.1 hy with rfl | hy
     ·exact ⟨_,_,_,_,_,hk,hv⟩
     ·exact i1 y hy
    ·show partK p x+sumK p xs=_
     rw [part_of p hk hv,i2 p];rfl
   ·cases h
end
theorem keysCH_spec {f:FuncId} {args:List AV} {rd:List Mem} {cur:Mem} {nx:Nat} {r:AO×Mem×Nat} (h:keysCH f args rd cur nx=some r) :
 f=47∧∃ b m es clk a tl,args=[.ptr b 0]∧getR (cur::rd) b=some (.cells (.mp m::tl))∧getR (cur::rd) m=some (.map es clk)∧keysA es clk=some a∧r=(.ret a,cur,nx):=by
 unfold keysCH at h
 split at h
 ·rename_i b hf
  split at h
  ·rename_i m tl hb
   split at h
   ·rename_i es clk hm
    split at h
    ·rename_i a ha
     cases h
     exact ⟨Nat.eq_of_beq_eq_true hf,b,m,es,clk,a,tl,rfl,hb,hm,ha,rfl⟩
    ·cases h
   ·cases h
  ·cases h
 ·cases h
theorem keysCH_ok {GT:GTab}:ChOk Tryz.prog GT keysCH:=by
 refine ⟨fun {f args rd cur nx out cur' nx'} h=>?_,fun {f args rd cur nx out cur' nx'} h=>?_,fun {f args rd cur nx r} h=>?_⟩
 ·obtain ⟨rfl,b,m,es,clk,a,tl,rfl,hb,hm,ha,e⟩:=keysCH_spec h
  cases e
  intro base F w G rargs hmr hargs hF;obtain ⟨v0,vs,e0,hv0,hvs⟩:=hargs;rw [VRs] at hvs;subst hvs;obtain rfl:rargs=#[v0]:=by rw [←Array.toList_inj];exact e0
  obtain ⟨rb,ro,hmu,rfl⟩:=hv0;obtain ⟨rb',ro',e1,-,-,c,ty,fr,hc,-,hcs⟩:=hmr.blk b _ hb;rw [hmu] at e1;cases e1;obtain ⟨v1,hc1,hv1⟩:=hcs 0 (.mp m) rfl;obtain ⟨rm,hmm,rfl⟩:=hv1;obtain ⟨rm',rm0,e2,-,-,-,l,hl,hent⟩:=hmr.blk m _ hm;rw [hmm] at e2;cases e2;unfold keysA at ha
  split at ha
  ·rename_i r hchk hpa
   split at ha
   ·rename_i hsum
    cases ha
    simp only [Bool.and_eq_true] at hchk;obtain ⟨i1,i2,i3⟩:=partsA_spec hent hpa;have hcell:w.cell? ⟨rb,ro+0,none⟩=some (.map (some rm)):=by
     rw [Lib.cell_of_heap hc];exact hc1
    have hmo:MapOf w rm l clk:=by
     refine ⟨hl,fun x hx=>?_,?_,i1⟩
     ·have hxb:x.born∈es.map (·.1):=by rw [←i3];exact List.mem_map.2 ⟨x,hx,rfl⟩
      obtain ⟨y,hy,e3⟩:=List.mem_map.1 hxb;have:=List.all_eq_true.1 hchk.1 y hy;rw [Nat.blt_eq] at this;omega
     ·rw [i3];exact distinctB_nodup hchk.2
    refine (keys_any w rb (ro+0) rm clk l hcell hmo (by rw [i2];exact Nat.le_of_ble_eq_true hsum)).mono ?_;rintro e w' ⟨rfl,hB⟩;refine ⟨G,Stp.world hmr hB.os hB.tape hB.output hB.size hB.block,_,rfl,_,rfl,?_⟩;simp only [i2];exact VRs.cons_mk rfl (VRs.cons_mk rfl (VRs.cons_mk rfl (VRs.cons_mk rfl (by rw [VRs]))))
   ·cases ha
  ·cases ha
 ·obtain ⟨rfl,b,m,es,clk,a,tl,rfl,hb,hm,ha,e⟩:=keysCH_spec h
  cases e
  exact Nat.le_refl _
 ·obtain ⟨rfl,-⟩:=keysCH_spec h
  exact ⟨_,Tryz.func47,by kernel_rfl,by kernel_rfl⟩
def orCH (A B:CH):CH:=fun f args rd cur nx=>match A f args rd cur nx with
 | some r=>some r
 | none=>B f args rd cur nx
theorem orCH_cases {A B:CH} {f:FuncId} {args:List AV} {rd:List Mem} {cur:Mem} {nx:Nat} {r:AO×Mem×Nat} (h:orCH A B f args rd cur nx=some r):A f args rd cur nx=some r∨B f args rd cur nx=some r:=by
 unfold orCH at h
 split at h
 ·rename_i r' hr;cases h;exact .inl hr
 ·exact .inr h
theorem orCH_ok {P:Program} {GT:GTab} {A B:CH} (hA:ChOk P GT A) (hB:ChOk P GT B):ChOk P GT (orCH A B) :=
 ⟨fun h=>(orCH_cases h).elim hA.tri hB.tri,fun h=>(orCH_cases h).elim hA.nx hB.nx,fun h=>(orCH_cases h).elim hA.fn hB.fn⟩
theorem PStep.refl {w:World} {I:Nat→Prop} (h:∀ rb,I rb→rb<w.heap.size):PStep w I w I:=⟨fun _ h=>h,fun _ h=>.inl h,h,rfl,rfl,rfl,Nat.le_refl _,fun _ _=>rfl⟩
def idxO:FuncId→List AV→Option AV:=fun f args=>match Nat.beq f 352,args with
 | true,[.g (.string s),.g (.int .u8 c)]=>some (.g (.int .i64 (Lib.indexByte s.data.toList c.toNat.toUInt8)))
 | _,_=>none
theorem idxO_ok {GT:GTab}:ChOk Tryz.prog GT (tabCH idxO):=by
 refine tabCH_ok fun f args a h=>?_;unfold idxO at h
 split at h
 ·rename_i s c hf
  cases h
  obtain rfl:f=352:=Nat.eq_of_beq_eq_true hf;refine ⟨fun w I rargs hI hgt ha=>?_,_,Tryz.func352,by kernel_rfl,by kernel_rfl⟩;obtain ⟨v0,vs,e0,h0,v1,vs1,rfl,h1,h2⟩:=ha;rw [VRs] at h2;subst h2;obtain rfl:rargs=#[v0,v1]:=by rw [←Array.toList_inj];exact e0
  obtain rfl:v0=.string s:=h0;obtain rfl:v1=.int .u8 c:=h1;refine (Tryz.stringslite_IndexByte s c w).mono ?_;rintro e w' ⟨rfl,rfl⟩;exact ⟨I,PStep.refl hI,_,rfl,rfl⟩
 ·cases h
theorem prOk:PrOk Tryz.prog:=PrOk.of_all (by kernel_rfl) (by kernel_rfl)
def polQ:FuncId→Bool:=fun f=>!Nat.beq f 46
theorem fixed13_ev:evF Tryz.prog (fun _=>none) (orCH keysCH (tabCH idxO)) polQ 100000 300 45 [] [] .e 0=some (.ret (.g (.bool true)),.e,0):=by kernel_rfl
theorem fixed13_any (w:World):Calls Tryz.prog 45 #[] w fun e w'=>e=.returned (.bool true)∧Below w.heap.size w w':=by
 have hp:Pure Tryz.prog (fun _=>none) 45 [] (.ret (.g (.bool true))):=evF_pure prOk (orCH_ok keysCH_ok idxO_ok) fixed13_ev rfl;refine (hp.at w #[] (fun g cs h=>by cases h) (by rw [Ats,VRs])).mono ?_;rintro e w' ⟨r,rfl,hr,hB⟩;obtain rfl:r=.bool true:=hr;exact ⟨rfl,hB⟩
end Go.Proofs.YtlnaihkombcbcaaGreat
end
