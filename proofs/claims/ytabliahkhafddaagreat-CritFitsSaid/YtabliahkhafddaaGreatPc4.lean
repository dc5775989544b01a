/- Closed values, told to be the same; calls over closed values whose answers were evaluated before. Of no program. -/
import Derived.Test.YtabliahkhafddaaGreatPc1
set_option linter.unusedSimpArgs false
noncomputable section
namespace Go.Ev
open Go.RowKit
def sameB:List UInt8→List UInt8→Bool
 | [],[]=>true
 | x::a,y::b=>Nat.beq x.toNat y.toNat&&sameB a b
 | _,_=>false
theorem sameB_spec:∀ {a b:List UInt8},sameB a b=true→a=b
 | [],[],_=>rfl
 | [],_::_,h=>by simp [sameB] at h
 | _::_,[],h=>by simp [sameB] at h
 | x::a,y::b,h=>by
   rw [sameB,Bool.and_eq_true] at h;rw [UInt8.toNat_inj.1 (Nat.eq_of_beq_eq_true h.1),sameB_spec h.2]
def sameV:Value→Value→Bool
 | .int .i64 a,.int .i64 b=>a==b
 | .string s,.string t=>sameB s.data.toList t.data.toList
 | .bool a,.bool b=>a==b
 | .slice none 0 0,.slice none 0 0=>true
 | _,_=>false
theorem sameV_spec {v u:Value} (h:sameV v u=true):v=u:=by
 unfold sameV at h
 split at h
 ·have:=eq_of_beq h;subst this;rfl
 ·rename_i s t
  have h1:=sameB_spec h;obtain ⟨⟨s⟩⟩:=s;obtain ⟨⟨t⟩⟩:=t;simp only at h1;subst h1;rfl
 ·have:=eq_of_beq h;subst this;rfl
 ·rfl
 ·cases h
mutual
def sameA:Nat→AV→AV→Bool
 | 0,_,_=>false
 | n+1,a,b=>match a,b with
   | .g v,.g u=>sameV v u
   | .z0,.z0=>true
   | .sl k s cs,.sl k' s' cs'=>Nat.beq k k'&&(Nat.beq s s'&&sameL n cs cs')
   | .agg cs,.agg cs'=>sameL n cs cs'
   | _,_=>false
def sameL:Nat→List AV→List AV→Bool
 | 0,_,_=>false
 | n+1,l,m=>match l,m with
   | [],[]=>true
   | a::l,b::m=>sameA n a b&&sameL n l m
   | _,_=>false
end
theorem same_spec:∀ n:Nat,(∀ a b:AV,sameA n a b=true→a=b)∧(∀ l m:List AV,sameL n l m=true→l=m)
 | 0=>⟨fun a b h=>by simp [sameA] at h,fun l m h=>by simp [sameL] at h⟩
 | n + 1=>by
   obtain ⟨ih1,ih2⟩:=same_spec n;refine ⟨fun a b h=>?_,fun l m h=>?_⟩
   ·unfold sameA at h
    split at h
    ·rw [sameV_spec h]
    ·rfl
    ·simp only [Bool.and_eq_true] at h
     rw [Nat.eq_of_beq_eq_true h.1,Nat.eq_of_beq_eq_true h.2.1,ih2 _ _ h.2.2]
    ·rw [ih2 _ _ h]
    ·cases h
   ·unfold sameL at h
    split at h
    ·rfl
    ·rw [Bool.and_eq_true] at h
     rw [ih1 _ _ h.1,ih2 _ _ h.2]
    ·cases h
def oneO (f0:FuncId) (x y:AV):FuncId→List AV→Option AV:=fun f args=>match Nat.beq f f0,args with
 | true,[a]=>match sameA 1000 a x with
   | true=>some y
   | false=>none
 | _,_=>none
theorem oneO_spec {f0:FuncId} {x y:AV} {f:FuncId} {args:List AV} {a:AV} (h:oneO f0 x y f args=some a):f=f0∧args=[x]∧a=y:=by
 unfold oneO at h
 split at h
 ·rename_i b hf
  split at h
  ·rename_i he
   cases h
   exact ⟨Nat.eq_of_beq_eq_true hf,by rw [(same_spec 1000).1 _ _ he],rfl⟩
  ·cases h
 ·cases h
theorem oneO_ok {P:Program} {GT:GTab} {f0:FuncId} {x y:AV} (hp:Pure P GT f0 [x] (.ret y)) (hf:∃ fn,P.funcs[f0]?=some fn∧(fn.name == "runtime.NumGoroutine")=false∧fn.body.isNone=false):ChOk P GT (tabCH (oneO f0 x y)):=by
 refine tabCH_ok fun f args a h=>?_;obtain ⟨rfl,rfl,rfl⟩:=oneO_spec h;exact ⟨hp,hf⟩
def findT (args:List AV):List (List AV×AV)→Option AV
 | []=>none
 | e::r=>match sameL 1000 args e.1 with
   | true=>some e.2
   | false=>findT args r
theorem findT_mem {args:List AV} {a:AV}:∀ {tab:List (List AV×AV)},findT args tab=some a→(args,a)∈tab
 | [],h=>by simp [findT] at h
 | e::r,h=>by
   unfold findT at h
   split at h
   ·rename_i he
    cases h
    rw [(same_spec 1000).2 _ _ he];exact List.mem_cons_self
   ·exact List.mem_cons_of_mem _ (findT_mem h)
def tabF (f0:FuncId) (tab:List (List AV×AV)):FuncId→List AV→Option AV:=fun f args=>match Nat.beq f f0 with
 | true=>findT args tab
 | false=>none
theorem tabF_ok {P:Program} {GT:GTab} {f0:FuncId} {tab:List (List AV×AV)} (hp:∀ e∈tab,Pure P GT f0 e.1 (.ret e.2)) (hf:∃ fn,P.funcs[f0]?=some fn∧(fn.name == "runtime.NumGoroutine")=false∧fn.body.isNone=false):ChOk P GT (tabCH (tabF f0 tab)):=by
 refine tabCH_ok fun f args a h=>?_;unfold tabF at h
 split at h
 ·rename_i hb
  obtain rfl:f=f0:=Nat.eq_of_beq_eq_true hb;exact ⟨hp _ (findT_mem h),hf⟩
 ·cases h
def findI (i:Int):List (Int×AV)→Option AV
 | []=>none
 | e::r=>match i==e.1 with
   | true=>some e.2
   | false=>findI i r
theorem findI_mem {i:Int} {a:AV}:∀ {tab:List (Int×AV)},findI i tab=some a→(i,a)∈tab
 | [],h=>by simp [findI] at h
 | e::r,h=>by
   unfold findI at h
   split at h
   ·rename_i he
    cases h
    rw [eq_of_beq he];exact List.mem_cons_self
   ·exact List.mem_cons_of_mem _ (findI_mem h)
def tabI (f0:FuncId) (s0:ByteArray) (tab:List (Int×AV)):FuncId→List AV→Option AV:=fun f args=>match Nat.beq f f0,args with
 | true,[.g (.string s),.g (.int .i64 i)]=>match sameB s.data.toList s0.data.toList with
   | true=>findI i tab
   | false=>none
 | _,_=>none
theorem tabI_ok {P:Program} {GT:GTab} {f0:FuncId} {s0:ByteArray} {tab:List (Int×AV)} (hp:∀ e∈tab,Pure P GT f0 [.g (.string s0),.g (.int .i64 e.1)] (.ret e.2)) (hf:∃ fn,P.funcs[f0]?=some fn∧(fn.name == "runtime.NumGoroutine")=false∧fn.body.isNone=false):ChOk P GT (tabCH (tabI f0 s0 tab)):=by
 refine tabCH_ok fun f args a h=>?_;unfold tabI at h
 split at h
 ·rename_i s i hb
  split at h
  ·rename_i hs
   have h1:s=s0:=by
    have:=sameB_spec hs;obtain ⟨⟨s⟩⟩:=s;obtain ⟨⟨t⟩⟩:=s0;simp only at this;subst this;rfl
   subst h1;obtain rfl:f=f0:=Nat.eq_of_beq_eq_true hb;exact ⟨hp _ (findI_mem h),hf⟩
  ·cases h
 ·cases h
theorem evF_pureK {P:Program} {GT:GTab} (hp:PrOk P) {B:CH} {pol:FuncId→Bool} {K n Ks:Nat} (hB:ChOk P GT B) {f:FuncId} {args:List AV} {v:AV}
 (h:evF P GT B pol K n f args [] .e 0=some (.ret v,.e,0)) (hs:sealV .e Ks v=some v):Pure P GT f args (.ret v) :=
 Q3x ((evF_ok hp hB n).tri h) (.inl ⟨v,v,rfl,rfl,hs⟩)
end Go.Ev
end
