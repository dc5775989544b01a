/- The evaluator's operations that turn no memory. -/
import Derived.Test.YtabliahkhafddaaGreatPa3
set_option linter.unusedSimpArgs false
noncomputable section
namespace Go.Ev
open Go.RowKit
def mkO (op:Op) (ty:TypeId):Oper:={ dst:=none,op:=op,type:=ty,pos := "",after:=#[],guard:=none }
theorem execOp_mkO (ρ:Operand→Value) (o:Oper):execOp ρ o=execOp ρ (mkO o.op o.type):=rfl
def rowAt (ms:List Mem):AV→Option (List AV×Nat)
 | .ptr b o=>match getR ms b with
   | some (.cells cs)=>some (cs,o)
   | _=>none
 | .ept cs o=>some (cs,o)
 | _=>none
def partA (P:Program) (t:TypeId) (cs:List AV) (o:Nat):Option AV :=
 match P.underlying t,P.info? t with
 | some d,some i=>if aggB d then (if o+i.size≤cs.length then some (.agg ((cs.drop o).take i.size)) else none) else cs[o]?
 | _,_=>none
def fastInt (k:IntKind) (op:BinOp) (x y:Nat):Option AV :=
 match op with
 | .add=>match k with
   | .i64=>match Nat.blt (x+y) 9223372036854775808 with | true=>some (.g (.int .i64 (.ofNat (x+y)))) | false=>none
   | _=>none
 | .sub=>match k with
   | .i64=>match Nat.ble y x,Nat.blt x 9223372036854775808 with | true,true=>some (.g (.int .i64 (.ofNat (x - y)))) | _,_=>none
   | _=>none
 | .eql=>some (.g (.bool (Nat.beq x y)))
 | .neq=>some (.g (.bool (!Nat.beq x y)))
 | .lss=>some (.g (.bool (Nat.blt x y)))
 | .leq=>some (.g (.bool (Nat.ble x y)))
 | .gtr=>some (.g (.bool (Nat.blt y x)))
 | .geq=>some (.g (.bool (Nat.ble y x)))
 | _=>none
def kindEq:IntKind→IntKind→Bool
 | .i64,.i64=>true
 | .u8,.u8=>true
 | .i32,.i32=>true
 | _,_=>false
def eqL:List UInt8→List UInt8→Bool
 | [],[]=>true
 | a::as,b::bs=>match Nat.beq a.toNat b.toNat with | true=>eqL as bs | false=>false
 | _,_=>false
def fastStr (op:BinOp) (a b:ByteArray):Option AV :=
 match op with
 | .eql=>some (.g (.bool (eqL a.data.toList b.data.toList)))
 | .neq=>some (.g (.bool (!eqL a.data.toList b.data.toList)))
 | _=>none
def fastBin (op:BinOp):AV→AV→Option AV
 | .g (.int k (.ofNat x)),.g (.int k' (.ofNat y))=>match kindEq k k' with | true=>fastInt k op x y | false=>none
 | .g (.string a),.g (.string b)=>fastStr op a b
 | _,_=>none
def natA:AV→Option Nat
 | .g (.int _ (.ofNat n))=>some n
 | _=>none
def natO:Option AV→Nat→Option Nat
 | none,d=>some d
 | some a,_=>natA a
def fastCut (s:ByteArray) (lo hi:Option AV):Option AV :=
 match natO hi s.size,natO lo 0 with
 | some h,some l=>match Nat.ble l h,Nat.ble h s.size with
   | true,true=>some (.g (.string ⟨((s.data.toList.drop l).take (h - l)).toArray⟩))
   | _,_=>none
 | _,_=>none
def fastConv (s d:Option TypeDesc):AV→Option AV
 | .g (.int _ (.ofNat n))=>match s,d with
   | some (.int _),some (.int .i64)=>match Nat.blt n 9223372036854775808 with | true=>some (.g (.int .i64 (.ofNat n))) | false=>none
   | some (.int _),some (.int k)=>match Nat.blt n 128 with | true=>some (.g (.int k (.ofNat n))) | false=>none
   | _,_=>none
 | _=>none
def fastLen (P:Program) (t:TypeId):AV→Option AV
 | .g (.string s)=>match P.underlying t with | some .string=>some (.g (.int .i64 (.ofNat s.data.toList.length))) | _=>none
 | _=>none
def fastIndex (P:Program) (t:TypeId):AV→AV→Option AV
 | .g (.string s),.g (.int _ (.ofNat n))=>match P.underlying t,s.data.toList[n]? with | some .string,some c=>some (.g (.int .u8 (.ofNat c.toNat))) | _,_=>none
 | _,_=>none
def fastCutT (P:Program) (t:TypeId) (lo hi:Option AV):AV→Option AV
 | .g (.string s)=>match P.underlying t with | some .string=>fastCut s lo hi | _=>none
 | _=>none
def fastNot:AV→Option AV
 | .g (.bool b)=>some (.g (.bool (!b)))
 | _=>none
def fastCall (P:Program) (ev:Operand→AV) (c:Call):Option AV :=
 match c.callee,c.args.toList,c.argTypes.toList with
 | .builtin .len,[x],[t]=>fastLen P t (ev x)
 | _,_,_=>none
def fastG (P:Program) (ev:Operand→AV):Op→Option AV
 | .binOp op _ x y _=>fastBin op (ev x) (ev y)
 | .unOp .not _ x=>fastNot (ev x)
 | .index t x i=>fastIndex P t (ev x) (ev i)
 | .slice t x lo hi none=>fastCutT P t (lo.map ev) (hi.map ev) (ev x)
 | .convert s d x=>fastConv (P.underlying s) (P.underlying d) (ev x)
 | .call c=>fastCall P ev c
 | _=>none
def slowG (P:Program) (ev:Operand→AV) (op:Op) (ty:TypeId):Option AV :=
 match op with
 | .select _ _=>none
 | op=>if op.operands.all (fun x=>(toG (ev x)).isSome) then
    match pv P (execOp (fun x=>(toG (ev x)).getD undef) (mkO op ty)) with
    | some (.value v)=>some (avc v)
    | _=>none
   else none
def evGround (P:Program) (ev:Operand→AV) (op:Op) (ty:TypeId):Option AV :=
 match fastG P ev op with
 | some a=>some a
 | none=>slowG P ev op ty
def evInt:Option AV→Nat→Option Nat
 | none,d=>some d
 | some (.g (.int _ n)),_=>if 0≤n then some n.toNat else none
 | _,_=>none
def evSlice (P:Program) (ms:List Mem) (t:TypeId) (x:AV) (lo hi mx:Option AV):Option AV :=
 match P.underlying t,mx with
 | some (.slice e),none =>
   match P.info? e,x with
   | some i,.sl n sz cs =>
     if i.size=sz then
      match evInt hi n,evInt lo 0 with
      | some h,some l=>if h≤n∧l≤h then some (.sl (h - l) sz ((cs.drop (l*sz)).take ((h - l)*sz))) else none
      | _,_=>none
     else none
   | some i,.gs b o n sz k =>
     if i.size=sz then
      match evInt hi n,evInt lo 0 with
      | some h,some l=>if h≤n∧l≤h then some (.gs b (o+l*sz) (h - l) sz (k - l)) else none
      | _,_=>none
     else none
   | some _,.z0=>match evInt hi 0,evInt lo 0 with
      | some 0,some 0=>some .z0
      | _,_=>none
   | _,_=>none
 | some (.slice e),some m =>
   match P.info? e,x,evInt hi 1,evInt lo 0,evInt (some m) 1 with
   | some _,.sl _ _ _,some 0,some 0,some 0=>some .z0
   | some _,.gs _ _ _ _ _,some 0,some 0,some 0=>some .z0
   | some _,.z0,some 0,some 0,some 0=>some .z0
   | _,_,_,_,_=>none
 | some (.array n e),none =>
   match P.info? e,x with
   | some i,.ptr b o=>match getR ms b,evInt hi n,evInt lo 0 with
     | some (.cells cs),some h,some l=>if (o+n*i.size≤cs.length∧0<n*i.size)∧h≤n∧l≤h∧n≤9223372036854775807 then some (.gs b (o+l*i.size) (h - l) i.size (n - l)) else none
     | _,_,_=>none
   | _,_=>none
 | _,_=>none
def notNil:AV→AV→Bool
 | .ptr _ _,.g (.pointer none) | .ept _ _,.g (.pointer none) | .gs _ _ _ _ _,.g (.slice none 0 0) | .fn _ _ _,.g .nilFunc | .mp _,.g (.map none) | .ifc _ _,.g .nilIface=>true
 | .sl (_+1) _ _,.g (.slice none 0 0)=>true
 | _,_=>false
def nilType (P:Program) (t:TypeId):AV→Bool
 | .ptr _ _ | .ept _ _=>match P.underlying t with | some (.pointer _)=>true | _=>false
 | .gs _ _ _ _ _ | .sl _ _ _=>match P.underlying t with | some (.slice _)=>true | _=>false
 | .fn _ _ _=>match P.underlying t with | some (.func _ _ _)=>true | _=>false
 | .mp _=>match P.underlying t with | some (.map _ _)=>true | _=>false
 | .ifc _ _=>match P.underlying t with | some (.interface _)=>true | _=>false
 | _=>false
def lenA (ms:List Mem):AV→Option Nat
 | .sl n _ _=>some n
 | .gs _ _ n _ _=>some n
 | .z0=>some 0
 | .mp b=>match getR ms b with
   | some (.map es _)=>some es.length
   | _=>none
 | _=>none
def isColl (P:Program) (t:TypeId):AV→Bool
 | .mp _=>match P.underlying t with | some (.map _ _)=>true | _=>false
 | _=>match P.underlying t with | some (.slice _)=>true | _=>false
def newsA (ms:List Mem) (sz:Nat):AV→Option (List AV×Nat)
 | .sl m sz' cs=>if sz'=sz∧m*sz≤cs.length then some (cs.take (m*sz),m) else none
 | .gs b o m sz' _=>match getR ms b with
   | some (.cells bc)=>if sz'=sz∧o+m*sz≤bc.length then some ((bc.drop o).take (m*sz),m) else none
   | _=>none
 | .z0=>some ([],0)
 | .g (.slice none 0 0)=>some ([],0)
 | .g (.string s)=>if sz=1 then some (s.data.toList.map (fun b=>.g (.int .u8 (b.toNat:Int))),s.size) else none
 | _=>none
def sameK:AV→AV→Option Bool
 | .g (.string a),x=>match x with
   | .g (.string b)=>some (eqL a.data.toList b.data.toList)
   | _=>none
 | .g (.int k a),x=>match x with
   | .g (.int k' b)=>if k=k' then some (a==b) else none
   | _=>none
 | _,_=>none
def findA (k:AV):List (Nat×AV×AV)→Nat→Option (Option (Nat×AV))
 | [],_=>some none
 | e::es,i=>match sameK k e.2.1 with
   | some true=>some (some (i,e.2.2))
   | some false=>findA k es (i+1)
   | none=>none
def isKeyT:Option TypeDesc→AV→Bool
 | some .string,.g (.string _)=>true
 | some (.int kd),.g (.int k _)=>if k=kd then true else false
 | _,_=>false
def findS (P:Program) (kt:TypeId) (kv:Value):List (Nat×AV×AV)→Nat→Option (Option (Nat×AV))
 | [],_=>some none
 | e :: es,i=>match toG e.2.1 with
   | some ek=>match pv P (Op.equal kt kv ek) with
     | some true=>match Instr.sameBits 10000 ek kv with
       | true=>some (some (i,e.2.2))
       | false=>none
     | some false=>findS P kt kv es (i+1)
     | none=>none
   | none=>none
def wideKey:Option TypeDesc→Bool
 | some (.struct _)=>true
 | some (.array _ _)=>true
 | _=>false
def keyFind (P:Program) (kt:TypeId) (k:AV) (es:List (Nat×AV×AV)):Option (Option (Nat×AV)) :=
 match isKeyT (P.underlying kt) k with
 | true=>findA k es 0
 | false=>match toG k,wideKey (P.underlying kt) with
   | some kv,true=>match pv P (Instr.checkKey false 10000 kt kv),pv P (Instr.checkKey true 10000 kt kv) with
     | some _,some _=>findS P kt kv es 0
     | _,_=>none
   | _,_=>none
def entsOf (ms:List Mem):AV→Option (List (Nat×AV×AV))
 | .mp b=>match getR ms b with
   | some (.map es _)=>some es
   | _=>none
 | .g (.map none)=>some []
 | _=>none
def evLookup (P:Program) (ms:List Mem) (t:TypeId) (x ix:AV) (ok:Bool):Option AV :=
 match P.underlying t with
 | some (.map kt et)=>match entsOf ms x with
   | some es=>match keyFind P kt ix es with
     | some (some (_,v))=>some (if ok then .tup [v,.g (.bool true)] else v)
     | some none=>match (P.info? et).bind (·.zero) with
       | some z=>some (if ok then .tup [avc1 z,.g (.bool false)] else avc1 z)
       | none=>none
     | none=>none
   | none=>none
 | _=>none
def isSlice:AV→Bool
 | .sl _ _ _ | .gs _ _ _ _ _ | .z0 | .g (.slice none 0 0)=>true
 | _=>false
def bytesA:List AV→Option (List UInt8)
 | []=>some []
 | .g (.int .u8 n)::as=>match bytesA as with
   | some l=>some (UInt8.ofNat n.toNat::l)
   | none=>none
 | _=>none
def isU8:Option TypeDesc→Bool
 | some (.int .u8)=>true
 | _=>false
def evStrOf (P:Program) (ms:List Mem) (e:TypeId) (x:AV):Option AV :=
 if isU8 (P.underlying e)&&isSlice x then
  match newsA ms 1 x with
  | some (cs,_)=>match bytesA cs with
    | some l=>some (.g (.string ⟨l.toArray⟩))
    | none=>none
  | none=>none
 else none
def evBuiltin (P:Program) (ms:List Mem) (ev:Operand→AV) (c:Call) (ty:TypeId):Option AV :=
 match c.callee,c.args.toList,c.argTypes.toList with
 | .builtin .len,[x],[t]=>match lenA ms (ev x) with
   | some n=>if isColl P t (ev x) then some (.g (.int .i64 n)) else none
   | none=>evGround P ev (.call c) ty
 | .builtin .cap,[x],[t]=>match ev x,P.underlying t with
   | .z0,some (.slice _)=>some (.g (.int .i64 0))
   | _,_=>evGround P ev (.call c) ty
 | .builtin _,_,_=>evGround P ev (.call c) ty
 | _,_,_=>none
def evBin (P:Program) (ev:Operand→AV) (op:BinOp) (t:TypeId) (x y:Operand) (yt ty:TypeId):Option AV :=
 match op with
 | .eql=>if (notNil (ev x) (ev y)&&nilType P t (ev x))||(notNil (ev y) (ev x)&&nilType P t (ev y)) then some (.g (.bool false)) else evGround P ev (.binOp .eql t x y yt) ty
 | .neq=>if (notNil (ev x) (ev y)&&nilType P t (ev x))||(notNil (ev y) (ev x)&&nilType P t (ev y)) then some (.g (.bool true)) else evGround P ev (.binOp .neq t x y yt) ty
 | op=>evGround P ev (.binOp op t x y yt) ty
def evPure (P:Program) (ms:List Mem) (ev:Operand→AV) (op:Op) (ty:TypeId):Option AV :=
 match op with
 | .move x | .assign x=>some (ev x)
 | .pick c a b=>match ev c with
   | .g (.bool t)=>some (if t then ev a else ev b)
   | _=>none
 | .load t a=>match rowAt ms (ev a) with
   | some (cs,o)=>partA P t cs o
   | none=>none
 | .nilCheck x=>match ev x with
   | .ptr b o=>some (.ptr b o)
   | .ept cs o=>some (.ept cs o)
   | .mp b=>some (.mp b)
   | .fn (.func f) a b=>some (.fn (.func f) a b)
   | _=>evGround P ev op ty
 | .makeInterface t x=>match P.underlying t with
   | some (.interface _)=>none
   | some _=>some (.ifc t (ev x))
   | none=>none
 | .makeFunc f a b=>some (.fn f (a.toList.map ev) (b.toList.map ev))
 | .slice t x lo hi mx=>match ev x with
   | .g _=>evGround P ev op ty
   | x=>evSlice P ms t x (lo.map ev) (hi.map ev) (mx.map ev)
 | .fieldAddr s x f=>match P.underlying s with
   | some (.struct fs)=>match fs[f]? with
     | some fd=>match P.info? fd.type with
       | some i=>if i.size=0 then none else match ev x with
         | .ptr b o=>some (.ptr b (o+fd.offset))
         | .ept cs o=>some (.ept cs (o+fd.offset))
         | _=>none
       | none=>none
     | none=>none
   | _=>none
 | .field t x f=>match P.underlying t,ev x with
   | some (.struct fs),.agg cs=>match fs[f]? with
     | some fd=>partA P fd.type cs fd.offset
     | none=>none
   | _,_=>none
 | .indexAddr t x i=>match ev i,P.underlying t with
   | .g (.int _ n),some (.slice e)=>match P.info? e,ev x with
     | some inf,.sl m sz cs=>if 0≤n∧n<m∧inf.size=sz then some (.ept cs (n.toNat*sz)) else none
     | some inf,.gs b o m sz _=>if 0≤n∧n<m∧inf.size=sz then some (.ptr b (o+n.toNat*sz)) else none
     | _,_=>none
   | .g (.int _ n),some (.array len e)=>match P.info? e,ev x with
     | some inf,.ptr b o=>if 0≤n∧n<len then some (.ptr b (o+n.toNat*inf.size)) else none
     | some inf,.ept cs o=>if 0≤n∧n<len then some (.ept cs (o+n.toNat*inf.size)) else none
     | _,_=>none
   | _,_=>none
 | .index t x i=>match ev x,ev i,P.underlying t with
   | .agg cs,.g (.int _ n),some (.array len e)=>match P.info? e with
     | some inf=>if 0≤n∧n<len then partA P e cs (n.toNat*inf.size) else none
     | none=>none
   | _,_,_=>evGround P ev op ty
 | .extract x i=>match ev x with
   | .tup vs=>vs[i]?
   | _=>none
 | .typeAssert x _ at_ ok=>match ev x,P.underlying at_ with
   | .ifc t v,some (.interface _)=>let _:=t;let _:=v;none
   | .ifc t v,some _=>if t=at_ then some (if ok then .tup [v,.g (.bool true)] else v) else
      (if ok then match (P.info? at_).bind (·.zero) with | some z=>some (.tup [avc1 z,.g (.bool false)]) | none=>none else none)
   | _,_=>evGround P ev op ty
 | .lookup t x ix ok=>evLookup P ms t (ev x) (ev ix) ok
 | .call c=>evBuiltin P ms ev c ty
 | .convert src dst x=>match P.underlying src,P.underlying dst with
   | some (.slice e),some .string=>evStrOf P ms e (ev x)
   | _,_=>evGround P ev op ty
 | .binOp op t x y yt=>evBin P ev op t x y yt ty
 | _=>evGround P ev op ty
def PureS (P:Program) (w:World) (G:Gh) (s:Sem Next) (a:AV):Prop:=∃ r,s.run P w=.ok (.value r) w∧VR w G a r
section
variable {P:Program} {w:World} {G:Gh} {ev:Operand→AV} {ρ:Operand→Value}
theorem slowG_sound {op:Op} {ty:TypeId} {a:AV} (H:∀ x,VR w G (ev x) (ρ x)) (h:slowG P ev op ty=some a):PureS P w G (execOp ρ (mkO op ty)) a:=by
 have key:(∀ cs b,op≠.select cs b)→(if op.operands.all (fun x=>(toG (ev x)).isSome) then
  match pv P (execOp (fun x=>(toG (ev x)).getD undef) (mkO op ty)) with
  | some (.value v)=>some (avc v)
  | _=>none
  else none)=some a→PureS P w G (execOp ρ (mkO op ty)) a:=by
  intro hs h
  split at h
  ·rename_i hall
   split at h
   ·rename_i v hv
    cases h
    have he:execOp ρ (mkO op ty)=execOp (fun x=>(toG (ev x)).getD undef) (mkO op ty):=by
     refine execOp_congr _ hs fun x hx=>?_;have h1:=Array.all_eq_true_iff_forall_mem.1 hall x hx;obtain ⟨y,hy⟩:=Option.isSome_iff_exists.1 h1;rw [toG_spec _ hy (H x),hy];rfl
    exact ⟨v,by rw [he];exact pv_run hv w,avc_spec v⟩
   ·cases h
  ·cases h
 cases op with
 | select cs b=>simp [slowG] at h
 | _=>exact key (fun _ _ e=>by cases e) h
theorem run_info {t:TypeId} {i:TypeInfo} (h:P.info? t=some i) (w:World):(typeInfo t).run P w=.ok i w:=by simp [typeInfo,h]
theorem Q0f {t:TypeId} {d:TypeDesc} (h:P.underlying t=some d) (w:World):(underlying t).run P w=.ok d w:=run_underlying h w
theorem Q0x {t:TypeId} {i:TypeInfo} (h:P.info? t=some i) (w:World):(sizeOf t).run P w=.ok i.size w:=by simp [sizeOf,run_info h]
theorem run_isAgg {t:TypeId} {d:TypeDesc} (h:P.underlying t=some d) (w:World):(isAgg t).run P w=.ok (aggB d) w:=by
 simp only [isAgg,Sem.run_bind,Q0f h,Result.andThen_ok]
 cases d <;> rfl
theorem Q3c {t:TypeId} {z:Value} (h:(P.info? t).bind (·.zero)=some z) (w:World):(zeroValue t).run P w=.ok z w:=by
 cases hi:P.info? t with
 | none=>rw [hi] at h;cases h
 | some i=>rw [hi] at h;simp only [Option.bind_some] at h;simp [zeroValue,run_info hi,h]
theorem add_lit (b o n:Nat):(⟨b,o,none⟩:Addr).add n=⟨b,o+n,none⟩:=by
 unfold Addr.add;split <;> simp_all
theorem eqL_eq:∀ (a b:List UInt8),eqL a b=(a==b)
 | [],[]=>rfl
 | [],_::_=>rfl
 | _::_,[]=>rfl
 | a::as,b::bs=>by
   have hab:(a==b)=Nat.beq a.toNat b.toNat:=by
    rw [Bool.eq_iff_iff,beq_iff_eq,Nat.beq_eq,UInt8.toNat_inj]
   show (match Nat.beq a.toNat b.toNat with | true=>eqL as bs | false=>false)=(a==b&&as==bs);rw [←hab,eqL_eq as bs]
   cases a==b <;> rfl
theorem wrap_small (x:Int) (h0:0≤x) (h1:x<9223372036854775808):IntKind.i64.wrap x=x:=by simp [IntKind.wrap,IntKind.bits,IntKind.signed];omega
theorem neq_nat (x y:Nat):(Int.ofNat x != Int.ofNat y)=true↔(!x.beq y)=true:=by
 have hq:x.beq y=decide (x=y):=by rw [Bool.eq_iff_iff,Nat.beq_eq];simp
 rw [hq]
 by_cases e:x=y
 ·simp [e]
 ·have:((x:Int)=(y:Int))↔False:=⟨fun h=>e (Int.ofNat.inj h),False.elim⟩
  simp [e,this]
theorem fastInt_sound {t:TypeId} {k:IntKind} {op:BinOp} {x y:Nat} {a:AV} (h:fastInt k op x y=some a):∃ r,(binOp op t (.int k (.ofNat x)) (.int k (.ofNat y))).run P w=.ok r w∧VR w G a r:=by
 unfold fastInt at h
 cases op <;> simp only at h <;> try (cases h;done)
 case add =>
  cases k <;> simp only at h <;> try (cases h;done)
  split at h
  ·rename_i hb;cases h
   have hlt:=Nat.le_of_ble_eq_true hb;have e1:(Int.ofNat x+Int.ofNat y:Int)=Int.ofNat (x+y):=rfl;refine ⟨_,?_,rfl⟩;have e2:IntKind.i64.wrap (Int.ofNat x+Int.ofNat y)=Int.ofNat (x+y):=by
    rw [e1];exact wrap_small _ (Int.natCast_nonneg _) (by show ((x+y:Nat):Int)<_;omega)
   show (Op.intArith .add .i64 (Int.ofNat x) (Int.ofNat y)).run P w=_;simp only [Op.intArith,e2];rfl
  ·cases h
 case sub =>
  cases k <;> simp only at h <;> try (cases h;done)
  split at h
  ·rename_i hb1 hb2;cases h
   have hle:=Nat.le_of_ble_eq_true hb1;have hlt:=Nat.le_of_ble_eq_true hb2;refine ⟨_,?_,rfl⟩;have e1:(Int.ofNat x - Int.ofNat y:Int)=Int.ofNat (x - y):=by show (x:Int) - (y:Int)=((x - y:Nat):Int);omega
   have e2:IntKind.i64.wrap (Int.ofNat x - Int.ofNat y)=Int.ofNat (x - y):=by
    rw [e1];exact wrap_small _ (Int.natCast_nonneg _) (by show ((x - y:Nat):Int)<_;omega)
   show (Op.intArith .sub .i64 (Int.ofNat x) (Int.ofNat y)).run P w=_;simp only [Op.intArith,e2];rfl
  ·cases h
 all_goals
  cases h
  refine ⟨_,?_,rfl⟩;simp only [binOp];rw [if_neg (by simp)];simp only [Op.intCmp,Sem.run_pure]
  congr 2
  rw [Bool.eq_iff_iff]
  first | (simp [Nat.blt,bne];done) | (simp [Nat.blt,bne];omega) | exact neq_nat x y
theorem kindEq_eq {k k':IntKind} (h:kindEq k k'=true):k=k':=by cases k <;> cases k' <;> first | rfl | (simp [kindEq] at h)
theorem fastBin_sound {op:BinOp} {x y:AV} {vx vy:Value} {a:AV} (hx:VR w G x vx) (hy:VR w G y vy) (h:fastBin op x y=some a) :
 (∀ x' y' t',(eqGuard op t' x' y' vx vy).run P w=.ok () w)∧∀ t',∃ r,(binOp op t' vx vy).run P w=.ok r w∧VR w G a r:=by
 unfold fastBin at h
 split at h
 ·rename_i k x1 k' y1
  obtain rfl:vx=.int k (.ofNat x1):=hx;obtain rfl:vy=.int k' (.ofNat y1):=hy
  split at h
  ·rename_i hk
   obtain rfl:=kindEq_eq hk;refine ⟨fun x' y' t'=>?_,fun t'=>fastInt_sound (t:=t') h⟩;unfold eqGuard
   split <;> first | (rw [if_neg (by decide)];rfl) | (rw [if_pos (by decide)];rfl)
  ·cases h
 ·rename_i s1 s2
  obtain rfl:vx=.string s1:=hx;obtain rfl:vy=.string s2:=hy;refine ⟨fun x' y' t'=>?_,fun t'=>?_⟩
  ·unfold eqGuard
   split <;> first | (rw [if_neg (by decide)];rfl) | (rw [if_pos (by decide)];rfl)
  ·unfold fastStr at h
   split at h
   ·cases h;exact ⟨_,rfl,by rw [VR];simp only [eqL_eq,ByteArray.toList_eq]⟩
   ·cases h;exact ⟨_,rfl,by rw [VR];simp only [eqL_eq,ByteArray.toList_eq]⟩
   ·cases h
 ·cases h
theorem natA_spec {x:AV} {v:Value} {n:Nat} (hv:VR w G x v) (h:natA x=some n):∃ k,v=.int k (.ofNat n):=by
 unfold natA at h
 split at h
 ·rename_i k m;cases h;exact ⟨k,hv⟩
 ·cases h
theorem fastG_sound {op:Op} {ty:TypeId} {a:AV} (H:∀ x,VR w G (ev x) (ρ x)) (h:fastG P ev op=some a):PureS P w G (execOp ρ (mkO op ty)) a:=by
 unfold fastG at h
 split at h
 ·rename_i op t x y yt
  obtain ⟨h1,h2⟩:=fastBin_sound (P:=P) (H x) (H y) h;obtain ⟨r,h3,h4⟩:=h2 t;exact ⟨r,by simp [execOp,mkO,h1,h3],h4⟩
 ·rename_i t x
  have hx:=H x;unfold fastNot at h
  split at h
  ·rename_i b hb
   rw [hb] at hx;have hx':ρ x=.bool b:=hx
   cases h
   exact ⟨.bool (!b),by simp [execOp,mkO,hx',Op.unary],rfl⟩
  ·cases h
 ·rename_i t x i
  have hx:=H x;have hi:=H i;unfold fastIndex at h
  split at h
  ·rename_i s k n hs hn
   rw [hs] at hx;rw [hn] at hi;have hx':ρ x=.string s:=hx;have hi':ρ i=.int k (.ofNat n):=hi
   split at h
   ·rename_i c hu hc
    cases h
    have hlt:=(List.getElem?_eq_some_iff.1 hc).1;have hsz:s.data.toList.length=s.size:=by rw [Array.length_toList];rfl
    have hg:s[n]?=some c:=by
     obtain ⟨_,hc2⟩:=List.getElem?_eq_some_iff.1 hc;rw [getElem?_pos s n (by omega),←hc2];rfl
    refine ⟨.int .u8 (.ofNat c.toNat),?_,rfl⟩;have h0:(0:Int)≤Int.ofNat n:=Int.natCast_nonneg n;have ht:(Int.ofNat n).toNat=n:=rfl;simp only [execOp,mkO,Instr.index,hx',hi',asIntOf,Sem.run_bind,Sem.run_pure,Result.andThen_ok,Q0f hu];simp only [h0,if_true,ht,hg,Sem.run_pure,Result.andThen_ok]
    rfl
   ·cases h
  ·cases h
 ·rename_i t x lo hi
  have hx:=H x;unfold fastCutT at h
  split at h
  ·rename_i s hs
   rw [hs] at hx;have hx':ρ x=.string s:=hx
   split at h
   ·rename_i hu
    unfold fastCut at h
    split at h
    ·rename_i hh ll eh el
     split at h
     ·rename_i hb1 hb2
      cases h
      have h1:=Nat.le_of_ble_eq_true hb1;have h2:=Nat.le_of_ble_eq_true hb2;have bnd:∀ (o:Option Operand) (d n y:Nat) (code:BoundsCode),natO (o.map ev) d=some n→n≤y→(match o.map ρ with | some v=>Instr.sliceBound v y code | none=>pure d).run P w=.ok n w:=by
       intro o d n y code ho hny
       cases o with
       | none=>simp only [Option.map_none,natO,Option.some.injEq] at ho;subst ho;rfl
       | some z =>
         obtain ⟨k,hk⟩:=natA_spec (H z) ho;have hc:0≤Int.ofNat n∧Int.ofNat n≤(y:Int):=⟨Int.natCast_nonneg n,by show (n:Int)≤_;omega⟩;simp only [Option.map_some,hk,Instr.sliceBound,asIntOf,Sem.run_bind,Sem.run_pure,Result.andThen_ok];rw [Sem.run_ite,if_pos hc];rfl
      refine ⟨.string (s.extract ll hh),?_,?_⟩
      ·have b1:=fun code=>bnd hi s.size hh s.size code eh h2
       have b2:=fun code=>bnd lo 0 ll hh code el h1;have hbounds:(Instr.sliceBounds false s.size s.size (lo.map ρ) (hi.map ρ) none).run P w=.ok (ll,hh,s.size) w:=by
        unfold Instr.sliceBounds
        cases hi <;> cases lo <;> simp only [Option.map_none,Option.map_some] at b1 b2 ⊢ <;> simp [b1,b2] <;> simp_all
       simp [execOp,mkO,Instr.sliceAt,Sem.run_bind,Q0f hu,Result.andThen_ok,Instr.slice,hx',Option.map_none,Option.isSome_none,hbounds]
      ·show Value.string _=_
       congr 1
       obtain ⟨⟨l⟩⟩:=s;rw [ByteArray.extract_mk]
     ·cases h
    ·cases h
   ·cases h
  ·cases h
 ·rename_i src d x
  have hx:=H x;unfold fastConv at h
  split at h
  ·rename_i k n hn
   rw [hn] at hx;have hx':ρ x=.int k (.ofNat n):=hx;have conv:∀ kd ks,P.underlying src=some (.int ks)→P.underlying d=some (.int kd)→kd.wrap (Int.ofNat n)=Int.ofNat n→PureS P w G (execOp ρ (mkO (.convert src d x) ty)) (.g (.int kd (.ofNat n))):=by
    intro kd ks hs hd hwr;have e:(convert src d (.int k (.ofNat n))).run P w=.ok (.int kd (.ofNat n)) w:=by
     simp only [convert,Sem.run_bind,Q0f hs,Q0f hd,Result.andThen_ok,Conv.intToInt,hwr,Sem.run_pure]
    exact ⟨.int kd (.ofNat n),by simp only [execOp,mkO,hx',Sem.run_bind,e,Result.andThen_ok,Sem.run_pure],rfl⟩
   split at h
   ·rename_i ks hs hd
    split at h
    ·rename_i hb;cases h
     exact conv _ _ hs hd (wrap_small _ (Int.natCast_nonneg _) (by have:=Nat.le_of_ble_eq_true hb;show (n:Int)<_;omega))
    ·cases h
   ·rename_i ks kd _ hs hd
    split at h
    ·rename_i hb;cases h
     have hn':n<128:=Nat.le_of_ble_eq_true hb;exact conv _ _ hs hd (by cases kd <;> simp [IntKind.wrap,IntKind.bits,IntKind.signed] <;> omega)
    ·cases h
   ·cases h
  ·cases h
 ·rename_i c
  obtain ⟨cal,args,ats⟩:=c;unfold fastCall at h
  split at h
  ·rename_i x t e1 e2 e3
   simp only at e1 e2 e3;subst e1;obtain rfl:args=#[x]:=by rw [←Array.toList_inj];exact e2
   obtain rfl:ats=#[t]:=by rw [←Array.toList_inj];exact e3
   have hx:=H x;unfold fastLen at h
   split at h
   ·rename_i s hs
    rw [hs] at hx;have hx':ρ x=.string s:=hx
    split at h
    ·rename_i hu
     cases h
     have hsz:s.data.toList.length=s.size:=by rw [Array.length_toList];rfl
     refine ⟨.int .i64 (.ofNat s.data.toList.length),?_,rfl⟩;rw [hsz];simp [execOp,mkO,resolve,invoke,builtin,Builtin.len_,Q0f hu,hx',goInt]
    ·cases h
   ·cases h
  ·cases h
 ·cases h
theorem Q0n {op:Op} {ty:TypeId} {a:AV} (H:∀ x,VR w G (ev x) (ρ x)) (h:evGround P ev op ty=some a):PureS P w G (execOp ρ (mkO op ty)) a:=by
 unfold evGround at h
 split at h
 ·rename_i a' hf;cases h;exact fastG_sound H hf
 ·exact slowG_sound H h
def LieAt (w:World) (G:Gh) (rb ro:Nat) (cs:List AV):Prop:=∀ (i:Nat) (a:AV),cs[i]?=some a→∃ v,w.cell? ⟨rb,ro+i,none⟩=some v∧VR w G a v
theorem cell_of {w:World} {rb o:Nat} {c:Array Value} {e:TypeId} {fr:Nat×Nat} (h:w.heap[rb]?=some (Obj.cells c e fr)):w.cell? ⟨rb,o,none⟩=c[o]?:=by
 simp [World.cell?,h]
variable {base:Nat} {GT:GTab} {F:Nat→Prop} {rd:List Mem} {cur:Mem} {nx:Nat}
theorem rowAt_spec (hm:MR base GT F rd cur nx w G) {a:AV} {r:Value} {cs:List AV} {o:Nat} (h:rowAt (cur::rd) a=some (cs,o)) (hv:VR w G a r) :
 ∃ rb ro,r=.pointer (some ⟨rb,ro+o,none⟩)∧LieAt w G rb ro cs:=by
 cases a with
 | ptr b o' =>
   simp only [rowAt] at h
   split at h
   ·rename_i cs' hg
    cases h
    obtain ⟨rb,ro,h1,h2⟩:=hv;obtain ⟨rb',ro',h3,_,_,c,e,fr,h4,_,h5⟩:=hm.blk _ _ hg;rw [h1] at h3;cases h3;refine ⟨rb,ro,h2,fun i a hi=>?_⟩;obtain ⟨v,h6,h7⟩:=h5 i a hi;exact ⟨v,by rw [cell_of h4];exact h6,h7⟩
   ·cases h
 | ept cs' o' =>
   simp only [rowAt,Option.some.injEq,Prod.mk.injEq] at h;obtain ⟨rfl,rfl⟩:=h;obtain ⟨rb,ro,h1,h2⟩:=hv;refine ⟨rb,ro,h1,fun i a hi=>?_⟩;exact (h2.get hi).2
 | _=>simp [rowAt] at h
theorem LieAt.drop {rb ro:Nat} {cs:List AV} (h:LieAt w G rb ro cs) (k:Nat):LieAt w G rb (ro+k) (cs.drop k):=fun i a hi=>by
 rw [List.getElem?_drop] at hi;obtain ⟨v,h1,h2⟩:=h _ a hi;exact ⟨v,by rw [Nat.add_assoc];exact h1,h2⟩
theorem LieAt.take {rb ro:Nat} {cs:List AV} (h:LieAt w G rb ro cs) (k:Nat):LieAt w G rb ro (cs.take k):=fun i a hi=>by
 rw [List.getElem?_take] at hi
 split at hi
 ·exact h i a hi
 ·cases hi
theorem run_loadA {rb ro:Nat} {cs:List AV} (h:LieAt w G rb ro cs):∃ vs:List Value,(loadCells ⟨rb,ro,none⟩ cs.length).run P w=.ok vs.toArray w∧VRs w G cs vs∧vs.length=cs.length ∧
 ∀ (j:Nat) (v:Value),vs[j]?=some v→w.cell? (Addr.add ⟨rb,ro,none⟩ j)=some v:=by
 have hx:∃ vs:List Value,vs.length=cs.length∧∀ (j:Nat) (a:AV),cs[j]?=some a→∃ v,vs[j]?=some v∧w.cell? ⟨rb,ro+j,none⟩=some v∧VR w G a v:=by
  induction cs generalizing ro with
  | nil=>exact ⟨[],rfl,fun j a hj=>by simp at hj⟩
  | cons a as ih =>
    obtain ⟨v,h1,h2⟩:=h 0 a (by simp)
    obtain ⟨vs,h3,h4⟩:=ih (ro:=ro+1) (fun i b hi=>by
     have:=h (i+1) b (by simpa using hi)
     rwa [show ro+(i+1)=ro+1+i by omega] at this)
    refine ⟨v::vs,by simp [h3],fun j b hj=>?_⟩
    cases j with
    | zero=>simp at hj;subst hj;exact ⟨v,by simp,h1,h2⟩
    | succ j =>
      simp at hj;obtain ⟨u,h5,h6,h7⟩:=h4 j b hj;exact ⟨u,by simpa using h5,by rw [show ro+(j+1)=ro+1+j by omega];exact h6,h7⟩
 obtain ⟨vs,h1,h2⟩:=hx;have hc:∀ (j:Nat) (v:Value),vs[j]?=some v→w.cell? (Addr.add ⟨rb,ro,none⟩ j)=some v:=by
  intro j v hj;have hlt:=(List.getElem?_eq_some_iff.1 hj).1;rw [h1] at hlt;obtain ⟨u,h3,h4,_⟩:=h2 j _ (List.getElem?_eq_getElem hlt);rw [hj] at h3;cases h3;rw [add_lit];exact h4
 refine ⟨vs,?_,VRs.mk h1 fun i a v ha hv=>?_,h1,hc⟩
 ·rw [←h1];exact run_loadCells_list w _ vs hc
 ·obtain ⟨u,h3,_,h4⟩:=h2 i a ha
  rw [hv] at h3;cases h3;exact h4
theorem run_partA {t:TypeId} {rb ro o:Nat} {cs:List AV} {a:AV} (hl:LieAt w G rb ro cs) (h:partA P t cs o=some a):∃ r,(loadVar t ⟨rb,ro+o,none⟩).run P w=.ok r w∧VR w G a r:=by
 simp only [partA] at h
 split at h
 ·rename_i d i hd hi
  simp only [loadVar,Sem.run_bind,run_isAgg hd,Result.andThen_ok]
  cases hag:aggB d
  ·rw [hag] at h
   simp only [Bool.false_eq_true,if_false] at h ⊢;obtain ⟨v,h1,h2⟩:=hl o a h;exact ⟨v,by simp [run_load,h1],h2⟩
  ·rw [hag] at h
   simp only [if_true] at h ⊢
   split at h
   ·rename_i hle
    cases h
    have hlen:((cs.drop o).take i.size).length=i.size:=by simp;omega
    obtain ⟨vs,h1,h2,_,_⟩:=run_loadA (P:=P) ((hl.drop o).take i.size);rw [hlen] at h1;refine ⟨.agg vs.toArray,?_,vs.toArray,rfl,h2⟩;simp [Q0x hi,h1]
   ·cases h
 ·cases h
theorem partA_agg {t:TypeId} {cs:List AV} {rc:Array Value} {o:Nat} {a:AV} (hv:VRs w G cs rc.toList) (h:partA P t cs o=some a):∃ r,(part t rc o).run P w=.ok r w∧VR w G a r:=by
 simp only [partA] at h
 split at h
 ·rename_i d i hd hi
  simp only [part,Sem.run_bind,run_isAgg hd,Result.andThen_ok]
  cases hag:aggB d
  ·rw [hag] at h
   simp only [Bool.false_eq_true,if_false] at h ⊢;obtain ⟨v,h1,h2⟩:=hv.get h;have h3:rc[o]?=some v:=by rw [←h1];simp
   exact ⟨v,by simp [h3],h2⟩
  ·rw [hag] at h
   simp only [if_true] at h ⊢
   split at h
   ·cases h
    refine ⟨.agg (rc.extract o (o+i.size)),by simp [Q0x hi],_,rfl,?_⟩;rw [Array.toList_extract];have:=(hv.drop o).take i.size;simpa [List.extract_eq_take_drop] using this
   ·cases h
 ·cases h
theorem newsA_run (hm:MR base GT F rd cur nx w G) {sz:Nat} {x:AV} {v:Value} {news:List AV} {m:Nat} (h:newsA (cur::rd) sz x=some (news,m)) (hv:VR w G x v) :
 ∃ vs:List Value,(Builtin.lenOf v).run P w=.ok m w∧(∀ w':World,w'.heap=w.heap→(Builtin.firstCells sz m v).run P w'=.ok vs.toArray w')∧VRs w G news vs∧vs.length=m*sz∧(∀ w':World,(Builtin.lenOf v).run P w'=.ok m w'):=by
 have fromRow:∀ {rb ro:Nat} {cs:List AV},LieAt w G rb ro cs→m*sz≤cs.length→news=cs.take (m*sz)→∃ vs:List Value,(∀ w':World,w'.heap=w.heap→(loadCells ⟨rb,ro,none⟩ (m*sz)).run P w'=.ok vs.toArray w')∧VRs w G news vs∧vs.length=m*sz:=by
  intro rb ro cs hl hle hn;subst hn;obtain ⟨vs,h1,h2,h3,h4⟩:=run_loadA (P:=P) (hl.take (m*sz));have hlen:(cs.take (m*sz)).length=m*sz:=by simp;omega
  refine ⟨vs,fun w' hw'=>?_,h2,by omega⟩;rw [←hlen,←h3];refine run_loadCells_list w' _ vs fun j u hj=>?_;rw [←h4 j u hj];simp [World.cell?,hw']
 cases x with
 | sl k sz' cs =>
   simp only [newsA] at h
   split at h
   ·rename_i hc
    cases h
    obtain ⟨ad,cap,rfl,_,hrow⟩:=hv
    by_cases h0:m=0
    ·subst h0
     refine ⟨[],rfl,fun w' _=>?_,by simp [VRs],by simp,fun _=>rfl⟩
     cases ad <;> simp [Builtin.firstCells,loadCells,loadCellsFrom]
    ·rcases hrow with h1 | ⟨rb,ro,rfl,h1⟩
     ·exact absurd h1 h0
     ·obtain ⟨vs,h2,h3,h4⟩:=fromRow (fun i a hi=>(h1.get hi).2) hc.2 rfl
      exact ⟨vs,rfl,fun w' hw'=>by simp [Builtin.firstCells,h2 w' hw'],h3,h4,fun _=>rfl⟩
   ·cases h
 | gs b o k sz' kc =>
   simp only [newsA] at h
   split at h
   ·rename_i bc hg
    split at h
    ·rename_i hc
     cases h
     obtain ⟨rb,ro,o',cap,c,e,fr,hmu,rfl,ho,hk,hheap,hsz⟩:=hv;obtain ⟨rb',ro',e1,_,_,c',e',fr',h1,_,h2⟩:=hm.blk b _ hg;rw [hmu] at e1;cases e1
     by_cases h0:m=0
     ·subst h0
      exact ⟨[],rfl,fun w' _=>by simp [Builtin.firstCells,loadCells,loadCellsFrom],by simp [VRs],by simp,fun _=>rfl⟩
     ·have hoo:o'=ro+o:=ho.resolve_right (by omega)
      subst hoo;have hl:LieAt w G rb ro bc:=fun i a hi=>by
       obtain ⟨v,h6,h7⟩:=h2 i a hi;exact ⟨v,by rw [cell_of h1];exact h6,h7⟩
      obtain ⟨vs,h3,h4,h5⟩:=fromRow (hl.drop o) (by simp;omega) rfl;exact ⟨vs,rfl,fun w' hw'=>by simp [Builtin.firstCells,h3 w' hw'],h4,h5,fun _=>rfl⟩
    ·cases h
   ·cases h
 | z0 =>
   simp only [newsA,Option.some.injEq,Prod.mk.injEq] at h;obtain ⟨rfl,rfl⟩:=h;obtain ⟨ad,rfl⟩:=hv;refine ⟨[],rfl,fun w' _=>?_,by simp [VRs],by simp,fun _=>rfl⟩
   cases ad <;> simp [Builtin.firstCells,loadCells,loadCellsFrom]
 | g q =>
   obtain rfl:v=q:=hv;unfold newsA at h
   split at h <;> first | (cases h;done) | skip
   ·rename_i e;cases e
   ·rename_i e;cases e
   ·rename_i e;cases e
   ·rename_i e;cases e
    cases h
    exact ⟨[],rfl,fun w' _=>by simp [Builtin.firstCells],by simp [VRs],by simp,fun _=>rfl⟩
   ·rename_i s e
    cases e
    split at h
    ·rename_i hs
     cases h
     subst hs;refine ⟨s.data.toList.map (fun b=>Value.int .u8 (b.toNat:Int)),rfl,fun w' _=>?_,?_,by simp,fun _=>rfl⟩
     ·simp only [Builtin.firstCells,Sem.run_pure]
      congr 1
      have:s.extract 0 s.size=s:=by simp
      rw [this];apply Array.toList_inj.1;simp
     ·have:=VRs.map_g (w:=w) (G:=G) (s.data.toList.map (fun b=>Value.int .u8 (b.toNat:Int)))
      rw [List.map_map] at this;exact this
    ·cases h
 | _=>simp [newsA] at h
theorem run_forIn_push {f:Value→ByteArray→Sem (ForInStep ByteArray)} (hf:∀ n s,(f (.int .u8 n) s).run P w=.ok (.yield (s.push (UInt8.ofNat n.toNat))) w) :
 ∀ {cs:List AV} {vs:List Value} {l:List UInt8} {s:ByteArray},bytesA cs=some l→VRs w G cs vs→(forIn vs s f).run P w=.ok ⟨(s.data.toList++l).toArray⟩ w:=by
 intro cs
 induction cs with
 | nil =>
   intro vs l s h hv;simp only [bytesA,Option.some.injEq] at h;subst h;rw [VRs] at hv;subst hv;simp
 | cons c cs ih =>
   intro vs l s h hv;obtain ⟨v,vs',rfl,h1,h2⟩:=hv;unfold bytesA at h
   split at h
   ·rename_i e;cases e
   ·rename_i n as e
    cases e
    obtain rfl:v=.int .u8 n:=h1
    split at h
    ·rename_i l' hl
     cases h
     simp only [List.forIn_cons,Sem.run_bind,hf,Result.andThen_ok,ih hl h2]
     congr 1
     simp [ByteArray.push]
    ·cases h
   ·cases h
theorem evStrOf_sound (hm:MR base GT F rd cur nx w G) {e:TypeId} {x a:AV} {v:Value} (hv:VR w G x v) (h:evStrOf P (cur::rd) e x=some a) :
 isU8 (P.underlying e)=true∧(∃ ad n c,v=.slice ad n c)∧∃ r,(Conv.bytesToString v).run P w=.ok r w∧VR w G a r:=by
 unfold evStrOf at h
 split at h
 ·rename_i hc
  simp only [Bool.and_eq_true] at hc;refine ⟨hc.1,?_⟩;have hsl:∃ ad n c,v=.slice ad n c:=by
   have hs:=hc.2;unfold isSlice at hs
   split at hs
   ·obtain ⟨ad,cap,h2,_⟩:=hv;exact ⟨_,_,_,h2⟩
   ·obtain ⟨_,_,_,cap,_,_,_,_,h2,_⟩:=hv;exact ⟨_,_,_,h2⟩
   ·obtain ⟨ad,h2⟩:=hv;exact ⟨_,_,_,h2⟩
   ·exact ⟨_,_,_,hv⟩
   ·cases hs
  refine ⟨hsl,?_⟩;obtain ⟨ad,n,c,rfl⟩:=hsl
  split at h
  ·rename_i cs m hn
   split at h
   ·rename_i l hl
    cases h
    obtain ⟨vs,h1,h2,h3,h4,_⟩:=newsA_run (P:=P) hm hn hv;have hnm:m=n:=by
     have:(Result.ok n w:Result Nat)=.ok m w:=h1
     cases this;rfl
    subst hnm;have hf:=h2 w rfl;refine ⟨.string ⟨l.toArray⟩,?_,rfl⟩
    cases ad with
    | none =>
      simp only [Builtin.firstCells,Sem.run_pure,Result.ok.injEq] at hf;have hvs:vs=[]:=by have:=hf.1;simpa using this.symm
      subst hvs
      cases cs with
      | nil =>
        simp only [bytesA,Option.some.injEq] at hl;subst hl;simp [Conv.bytesToString];rfl
      | cons c cs=>obtain ⟨v,vs',h5,_⟩:=h3;cases h5
    | some a =>
      simp only [Builtin.firstCells,Nat.mul_one] at hf;simp only [Conv.bytesToString,Sem.run_bind,hf,Result.andThen_ok,List.forIn_toArray];rw [run_forIn_push (P:=P) (fun n s=>rfl) hl h3];simp
   ·cases h
  ·cases h
 ·cases h
end
end Go.Ev
end
