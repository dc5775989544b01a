/- Lists of numbers: Index, Clone, DeleteFunc; dom.Kin, weight.Nth: by walks over shapes. -/
import Derived.Test.YtabliahkhafddaaGreatPc7
import Derived.Test.YtabliahkhafddaaGreatPd5
import Derived.IntWalk
import Derived.Test.YtabliahkhafddaaGreatPc8
import Derived.Test.YtabliahkhafddaaGreatPd1
import Derived.Test.YtabliahkhafddaaGreatPc9
import Derived.Lib.OthersKept
set_option linter.unusedSimpArgs false
noncomputable section
namespace Go.Proofs.YtabliahkhafddaaGreat
open Go.RowKit Go.Ev
open Go.Ev.AV renaming any→aN
abbrev gt0:GTab:=fun _=>none
theorem hmix:Tryz.prog.follows .mixedOrders=true:=by kernel_rfl
theorem ag_int:aggO Tryz.prog 3=some (false,1):=by kernel_rfl
theorem ag_bool:aggO Tryz.prog 4=some (false,1):=by kernel_rfl
theorem ag_str:aggO Tryz.prog 9=some (false,1):=by kernel_rfl
theorem ag_strs:aggO Tryz.prog 46=some (false,1):=by kernel_rfl
theorem ag_vals:aggO Tryz.prog 63=some (false,1):=by kernel_rfl
theorem ag_items:aggO Tryz.prog 54=some (false,1):=by kernel_rfl
theorem ag_cxs:aggO Tryz.prog 42=some (false,1):=by kernel_rfl
theorem ag_decls:aggO Tryz.prog 62=some (false,1):=by kernel_rfl
theorem ag_parts:aggO Tryz.prog 37=some (false,1):=by kernel_rfl
theorem ag_simps:aggO Tryz.prog 71=some (false,1):=by kernel_rfl
theorem ag_item:aggO Tryz.prog 65=some (true,8):=by kernel_rfl
theorem ag_tok:aggO Tryz.prog 191=some (true,3):=by kernel_rfl
theorem ag_val:aggO Tryz.prog 193=some (true,5):=by kernel_rfl
theorem ag_cx:aggO Tryz.prog 39=some (true,2):=by kernel_rfl
theorem ag_decl:aggO Tryz.prog 75=some (true,3):=by kernel_rfl
theorem ag_part:aggO Tryz.prog 73=some (true,2):=by kernel_rfl
theorem ag_simp:aggO Tryz.prog 141=some (true,6):=by kernel_rfl
theorem el_strs:elemO Tryz.prog 46=some 1:=by kernel_rfl
theorem el_vals:elemO Tryz.prog 63=some 5:=by kernel_rfl
theorem el_items:elemO Tryz.prog 54=some 8:=by kernel_rfl
theorem el_cxs:elemO Tryz.prog 42=some 2:=by kernel_rfl
theorem el_decls:elemO Tryz.prog 62=some 3:=by kernel_rfl
theorem el_parts:elemO Tryz.prog 37=some 2:=by kernel_rfl
theorem el_simps:elemO Tryz.prog 71=some 6:=by kernel_rfl
theorem fl_val0:fldO Tryz.prog 193 0=some (0,3):=by kernel_rfl
theorem fl_val1:fldO Tryz.prog 193 1=some (1,191):=by kernel_rfl
theorem fl_val2:fldO Tryz.prog 193 2=some (4,63):=by kernel_rfl
theorem fl_tok0:fldO Tryz.prog 191 0=some (0,3):=by kernel_rfl
theorem fl_tok1:fldO Tryz.prog 191 1=some (1,9):=by kernel_rfl
theorem fl_tok2:fldO Tryz.prog 191 2=some (2,3):=by kernel_rfl
theorem fl_decl0:fldO Tryz.prog 75 0=some (0,9):=by kernel_rfl
theorem fl_decl1:fldO Tryz.prog 75 1=some (1,63):=by kernel_rfl
theorem fl_decl2:fldO Tryz.prog 75 2=some (2,4):=by kernel_rfl
theorem fl_item0:fldO Tryz.prog 65 0=some (0,3):=by kernel_rfl
theorem fl_item1:fldO Tryz.prog 65 1=some (1,42):=by kernel_rfl
theorem fl_item2:fldO Tryz.prog 65 2=some (2,62):=by kernel_rfl
theorem fl_item3:fldO Tryz.prog 65 3=some (3,46):=by kernel_rfl
theorem fl_item4:fldO Tryz.prog 65 4=some (4,3):=by kernel_rfl
theorem fl_item5:fldO Tryz.prog 65 5=some (5,3):=by kernel_rfl
theorem fl_item6:fldO Tryz.prog 65 6=some (6,63):=by kernel_rfl
theorem fl_item7:fldO Tryz.prog 65 7=some (7,54):=by kernel_rfl
theorem fl_cx0:fldO Tryz.prog 39 0=some (0,37):=by kernel_rfl
theorem fl_cx1:fldO Tryz.prog 39 1=some (1,9):=by kernel_rfl
theorem fl_part0:fldO Tryz.prog 73 0=some (0,3):=by kernel_rfl
theorem fl_part1:fldO Tryz.prog 73 1=some (1,71):=by kernel_rfl
theorem fl_simp0:fldO Tryz.prog 141 0=some (0,3):=by kernel_rfl
theorem fl_simp1:fldO Tryz.prog 141 1=some (1,9):=by kernel_rfl
theorem fl_simp2:fldO Tryz.prog 141 2=some (2,9):=by kernel_rfl
theorem fl_simp3:fldO Tryz.prog 141 3=some (3,3):=by kernel_rfl
theorem fl_simp4:fldO Tryz.prog 141 4=some (4,3):=by kernel_rfl
theorem fl_simp5:fldO Tryz.prog 141 5=some (5,71):=by kernel_rfl
theorem sz_item:szO Tryz.prog 65=some 8:=by kernel_rfl
theorem sz_part:szO Tryz.prog 73=some 2:=by kernel_rfl
theorem ze_item:zeroO Tryz.prog 65=some [.g (.int .i64 0),.g (.slice none 0 0),.g (.slice none 0 0),.g (.slice none 0 0),.g (.int .i64 0),.g (.int .i64 0),.g (.slice none 0 0),.g (.slice none 0 0)]:=by kernel_rfl
theorem ze_part:zeroO Tryz.prog 73=some [.g (.int .i64 0),.g (.slice none 0 0)]:=by kernel_rfl
theorem un_bool:Tryz.prog.underlying 4=some .bool:=by kernel_rfl
theorem eqg_tok:Tryz.prog.eqGuardType Tryz.prog.depth 191=false:=by kernel_rfl
attribute [go_sem] ag_int ag_bool ag_str ag_strs ag_vals ag_items ag_cxs ag_decls ag_parts ag_simps ag_item ag_tok ag_val ag_cx ag_decl ag_part ag_simp el_strs el_vals el_items el_cxs el_decls el_parts el_simps
 fl_val0 fl_val1 fl_val2 fl_tok0 fl_tok1 fl_tok2 fl_decl0 fl_decl1 fl_decl2 fl_item0 fl_item1 fl_item2 fl_item3 fl_item4 fl_item5 fl_item6 fl_item7 fl_cx0 fl_cx1 fl_part0 fl_part1 fl_simp0 fl_simp1 fl_simp2 fl_simp3 fl_simp4 fl_simp5
 sz_item sz_part ze_item ze_part un_bool eqg_tok
theorem up1 {k:Nat} (h:k<1000000000000000000):IntKind.i64.wrap ((k:Int)+1)=((k+1:Nat):Int):=by rw [IntWalk.i64_in _ (by omega)];push_cast;rfl
section
variable {α:Type}
theorem Q2m (enc:α→List AV) (sz:Nat) (hsz:∀ x,(enc x).length=sz):∀ (l:List α) (k:Nat) (hk:k<l.length) (j c:Nat),j+c≤sz→((l.flatMap enc).drop (k*sz+j)).take c=((enc l[k]).drop j).take c
 | x::l,0,_,j,c,h=>by
   rw [List.flatMap_cons,Nat.zero_mul,Nat.zero_add,List.drop_append,List.take_append];have h1:c - (List.drop j (enc x)).length=0:=by rw [List.length_drop,hsz];omega
   rw [h1,List.take_zero,List.append_nil];rfl
 | x::l,k+1,hk,j,c,h=>by
   rw [List.flatMap_cons,List.drop_append,List.drop_of_length_le (by rw [hsz,Nat.succ_mul];omega),List.nil_append,hsz,show (k+1)*sz+j - sz=k*sz+j by rw [Nat.succ_mul];omega];exact Q2m enc sz hsz l k (by simpa using hk) j c h
theorem row_len (enc:α→List AV) (sz:Nat) (hsz:∀ x,(enc x).length=sz):∀ (l:List α),(l.flatMap enc).length=l.length*sz
 | []=>by simp
 | x::l=>by rw [List.flatMap_cons,List.length_append,hsz,row_len enc sz hsz l,List.length_cons,Nat.succ_mul,Nat.add_comm]
theorem row_fit (enc:α→List AV) (sz:Nat) (hsz:∀ x,(enc x).length=sz) (l:List α) (k:Nat) (hk:k<l.length) {j c:Nat} (h:j+c≤sz):k*sz+j+c≤(l.flatMap enc).length:=by
 rw [row_len enc sz hsz];have:(k+1)*sz≤l.length*sz:=Nat.mul_le_mul_right sz hk;rw [Nat.succ_mul] at this;omega
end
theorem rowN {l:List ByteArray} {k:Nat} (hk:k<l.length):(l.flatMap encN)[k]?=some (.g (.string l[k])):=by
 have:=flat_get encN 1 (fun _=>rfl) l k hk 0 (by decide)
 rwa [Nat.mul_one,Nat.add_zero] at this
theorem rowP {l:List Part} {k:Nat} (hk:k<l.length):((l.flatMap encP).drop (k*2)).take 2=[.g (.int .i64 l[k].comb),.sl l[k].l.length 6 (l[k].l.flatMap encS)]∧k*2+2≤(l.flatMap encP).length:=by
 have h2:=Q2m encP 2 (fun _=>rfl) l k hk 0 2 (by decide);exact ⟨h2,row_fit encP 2 (fun _=>rfl) l k hk (j:=0) (by decide)⟩
theorem rowI {l:List Itm} {k:Nat} (hk:k<l.length):((l.flatMap encI).drop (k*8)).take 8=encI l[k]∧k*8+8≤(l.flatMap encI).length:=by
 have h2:=Q2m encI 8 encI_len l k hk 0 8 (by decide);rw [Nat.add_zero,List.drop_zero,List.take_of_length_le (l:=encI l[k]) (by rw [encI_len];decide)] at h2;exact ⟨h2,row_fit encI 8 encI_len l k hk (j:=0) (by decide)⟩
end Go.Proofs.YtabliahkhafddaaGreat
namespace Go.Proofs.YtabliahkhafddaaGreat
open Go.RowKit Go.Ev
open Go.Ev.AV renaming any→aN
attribute [local go_sem] eq_self false_and and_false Bool.false_eq_true List.set_cons_succ List.set_cons_zero List.getD_cons_succ List.getD_cons_zero List.getElem?_cons_succ List.getElem?_cons_zero true_and and_true and_self Bool.not_true Bool.not_false Nat.add_zero Nat.zero_add Nat.mul_one Int.toNat_natCast Int.natCast_nonneg Int.ofNat_lt Option.bind_some Option.map_some List.map_cons List.map_nil decide_true decide_false BEq.rfl Bool.and_self Bool.and_true Bool.and_false beq_self_eq_true List.cons_append List.nil_append List.take_zero List.take_succ_cons List.take_nil List.drop_succ_cons List.drop_zero List.drop_nil List.append_nil List.length_cons List.length_nil List.all_cons List.all_nil Nat.le_refl Int.le_refl Option.map_none List.replicate_zero List.replicate_succ Nat.zero_mul Nat.sub_zero Nat.zero_le Nat.le_zero_eq Q2f Option.some_or Option.none_or Option.or_none Option.isSome_some Option.isSome_none Option.getD_some Option.getD_none Int.toNat_zero Int.natCast_zero Int.natCast_one Int.cast_ofNat_Int List.toList_toArray
structure Atr where
 name:ByteArray
 value:ByteArray
structure Nod where
 name:ByteArray
 attrs:List Atr
 text:ByteArray
 up:Int
 kids:List Int
def encA (a:Atr):List AV:=[.g (.string a.name),.g (.string a.value)]
def encZ (k:Int):List AV:=[.g (.int .i64 k)]
def encNd (x:Nod):List AV:=[.g (.string x.name),.sl x.attrs.length 2 (x.attrs.flatMap encA),.g (.string x.text),.g (.int .i64 x.up),.sl x.kids.length 1 (x.kids.flatMap encZ)]
theorem rowA {l:List Atr} {k:Nat} (hk:k<l.length):(l.flatMap encA)[k*2]?=some (.g (.string l[k].name))∧(l.flatMap encA)[k*2+1]?=some (.g (.string l[k].value))∧((l.flatMap encA).drop (k*2)).take 2=encA l[k]∧k*2+2≤(l.flatMap encA).length:=by
 have h:=flat_get encA 2 (fun _=>rfl) l k hk;have h2:=Q2m encA 2 (fun _=>rfl) l k hk 0 2 (by decide);exact ⟨h 0 (by decide),h 1 (by decide),h2,row_fit encA 2 (fun _=>rfl) l k hk (j:=0) (by decide)⟩
theorem rowZ {l:List Int} {k:Nat} (hk:k<l.length):(l.flatMap encZ)[k]?=some (.g (.int .i64 l[k])):=by
 have:=flat_get encZ 1 (fun _=>rfl) l k hk 0 (by decide)
 rwa [Nat.mul_one,Nat.add_zero] at this
theorem rowNd {l:List Nod} {k:Nat} (hk:k<l.length):(l.flatMap encNd)[k*5]?=some (.g (.string l[k].name))∧(l.flatMap encNd)[k*5+1]?=some (.sl l[k].attrs.length 2 (l[k].attrs.flatMap encA))∧(l.flatMap encNd)[k*5+2]?=some (.g (.string l[k].text)) ∧
 (l.flatMap encNd)[k*5+3]?=some (.g (.int .i64 l[k].up))∧(l.flatMap encNd)[k*5+4]?=some (.sl l[k].kids.length 1 (l[k].kids.flatMap encZ)):=by
 have h:=flat_get encNd 5 (fun _=>rfl) l k hk;exact ⟨h 0 (by decide),h 1 (by decide),h 2 (by decide),h 3 (by decide),h 4 (by decide)⟩
theorem ag_attrs:aggO Tryz.prog 32=some (false,1):=by kernel_rfl
theorem ag_ints:aggO Tryz.prog 27=some (false,1):=by kernel_rfl
theorem ag_page:aggO Tryz.prog 23=some (false,1):=by kernel_rfl
theorem ag_node:aggO Tryz.prog 34=some (true,5):=by kernel_rfl
theorem ag_attr:aggO Tryz.prog 100=some (true,2):=by kernel_rfl
theorem el_page:elemO Tryz.prog 23=some 5:=by kernel_rfl
theorem el_attrs:elemO Tryz.prog 32=some 2:=by kernel_rfl
theorem el_ints:elemO Tryz.prog 27=some 1:=by kernel_rfl
theorem fl_nod0:fldO Tryz.prog 34 0=some (0,9):=by kernel_rfl
theorem fl_nod1:fldO Tryz.prog 34 1=some (1,32):=by kernel_rfl
theorem fl_nod2:fldO Tryz.prog 34 2=some (2,9):=by kernel_rfl
theorem fl_nod3:fldO Tryz.prog 34 3=some (3,3):=by kernel_rfl
theorem fl_nod4:fldO Tryz.prog 34 4=some (4,27):=by kernel_rfl
theorem fl_atr0:fldO Tryz.prog 100 0=some (0,9):=by kernel_rfl
theorem fl_atr1:fldO Tryz.prog 100 1=some (1,9):=by kernel_rfl
attribute [go_sem] ag_attrs ag_ints ag_page ag_node ag_attr el_page el_attrs el_ints fl_nod0 fl_nod1 fl_nod2 fl_nod3 fl_nod4 fl_atr0 fl_atr1
def nd0:Nod:=⟨⟨#[]⟩,[],⟨#[]⟩,0,[]⟩
def ndAt (p:List Nod) (n:Int):Nod:=p.getD n.toNat nd0
def elemB (p:List Nod) (n:Int):Bool:=decide (0≤n)&&(decide (n<p.length)&&!decide ((ndAt p n).name=⟨#[]⟩))
theorem Q0o {p:List Nod} {k:Nat} (hk:k<p.length):ndAt p (k:Int)=p[k]:=by
 unfold ndAt;rw [Int.toNat_natCast,List.getD_eq_getElem?_getD,List.getElem?_eq_getElem hk];rfl
set_option maxRecDepth 100000 in
set_option maxHeartbeats 4000000 in
theorem Q3s (p:List Nod) (n:Int):PureN Tryz.prog gt0 87 [.sl p.length 5 (p.flatMap encNd),.g (.int .i64 n)] (.g (.bool (elemB p n))):=by
 refine PureN.of_w (c:=_) Tryz.func87 rfl (by kernel_rfl) rfl ?_;simp only [Tryz.f87,List.replicate,List.length_cons,List.length_nil,Nat.reduceAdd,Nat.reduceSub,List.cons_append,List.nil_append];unfold elemB
 by_cases h0:0≤n
 ·obtain ⟨k,rfl⟩:∃ k:Nat,n=k:=⟨n.toNat,by omega⟩
  by_cases hk:k<p.length
  ·have r:=rowNd hk
   rw [Q0o hk]
   by_cases hn:p[k].name=⟨#[]⟩
   ·have fn:=eq_true hn
    (repeat ((try with_reducible refine W.step (b:=false) ?_);simp (decide:=true) only [go_sem,↓reduceIte,Nat.reduceAdd,Nat.reduceSub,hk,r,fn]))
    exact Q0a _ (.inr rfl) rfl (.plain rfl)
   ·(repeat ((try with_reducible refine W.step (b:=false) ?_);simp (decide:=true) only [go_sem,↓reduceIte,Nat.reduceAdd,Nat.reduceSub,hk,r,hn]))
    exact Q0a _ (.inr rfl) rfl (.plain rfl)
  ·(repeat ((try with_reducible refine W.step (b:=false) ?_);simp (decide:=true) only [go_sem,↓reduceIte,Nat.reduceAdd,Nat.reduceSub,hk]))
   exact Q0a _ (.inr rfl) rfl (.plain rfl)
 ·(repeat ((try with_reducible refine W.step (b:=false) ?_);simp (decide:=true) only [go_sem,↓reduceIte,Nat.reduceAdd,Nat.reduceSub,h0]))
  exact Q0a _ (.inr rfl) rfl (.plain rfl)
set_option maxRecDepth 100000 in
set_option maxHeartbeats 4000000 in
theorem attrCl_m (x:Atr) (s:ByteArray):CallM Tryz.prog gt0 [] [(0,.cells [.g (.string s)])] 1 89 [.agg (encA x),.ptr 0 0] (.g (.bool (decide (x.name=s)))) [(0,.cells [.g (.string s)])] 1:=by
 refine Q0m (c:=_) Tryz.func89 rfl (by kernel_rfl) ?_;simp only [Tryz.f89,encA,List.replicate,List.length_cons,List.length_nil,Nat.reduceAdd,Nat.reduceSub,List.cons_append,List.nil_append]
 (repeat ((try with_reducible refine W.step (b:=false) ?_);simp (decide:=true) only [go_sem,↓reduceIte,Nat.reduceAdd,Nat.reduceSub]))
 exact ⟨.inr rfl,[aN,aN,aN,(.g (.bool (decide (x.name=s)))),aN,aN,aN,aN],VS.ren [] (by simp) (by simp) (Nat.le_refl _) (by simp only [go_sem,↓reduceIte,Nat.reduceAdd,Nat.reduceSub,Nat.reduceMul,Nat.reduceEqDiff,Nat.reduceLeDiff,Nat.reduceLT,Int.reduceLE,Int.reduceLT,Int.reduceToNat,Int.reduceEq]) ⟨⟨0,_,rfl,rfl,_,rfl,.inl ⟨rfl,rfl⟩⟩,trivial⟩,rfl⟩
def idxL {α:Type} (pr:α→Bool) (l:List α):Int:=match l.findIdx? pr with
 | some i=>i
 | none=>-1
theorem Q3i {α:Type} {pr:α→Bool} {l:List α} {k:Nat} (hk:k<l.length) (h:∀ x∈l.take k,pr x=false) (hp:pr l[k]=true):idxL pr l=(k:Int):=by
 have:l.findIdx? pr=some k:=by
  rw [List.findIdx?_eq_some_iff_getElem];refine ⟨hk,hp,fun j hj=>?_⟩;have hm:l[j]∈l.take k:=by
   rw [List.mem_take_iff_getElem];exact ⟨j,by omega,rfl⟩
  rw [h _ hm];decide
 unfold idxL;rw [this]
theorem Q2v {α:Type} {pr:α→Bool} {l:List α} (h:∀ x∈l,pr x=false):idxL pr l=-1:=by
 have:l.findIdx? pr=none:=by rw [List.findIdx?_eq_none_iff];exact h
 unfold idxL;rw [this]
theorem Q1e {α:Type} {pr:α→Bool} {l:List α} {k:Nat} (hk:k<l.length) (h:∀ x∈l.take k,pr x=false) (hp:pr l[k]=false):∀ x∈l.take (k+1),pr x=false:=by
 intro x hx;rw [List.take_succ_eq_append_getElem hk] at hx;rcases List.mem_append.1 hx with h1 | h1
 ·exact h x h1
 ·rw [List.mem_singleton.1 h1];exact hp
set_option maxRecDepth 100000 in
set_option maxHeartbeats 4000000 in
theorem attrIdx_m (l:List Atr) (s:ByteArray) (hl:l.length≤1000000):CallM Tryz.prog gt0 [] [(0,.cells [.g (.string s)])] 1 88 [.sl l.length 2 (l.flatMap encA),.fn (.func 89) [] [.ptr 0 0]] (.g (.int .i64 (idxL (fun x:Atr=>decide (x.name=s)) l))) [(0,.cells [.g (.string s)])] 1:=by
 refine Q0m (c:=_) Tryz.func88 rfl (by kernel_rfl) ?_;simp only [Tryz.f88,List.replicate,List.length_cons,List.length_nil,Nat.reduceAdd,Nat.reduceSub,List.cons_append,List.nil_append]
 (repeat ((try with_reducible refine W.step (b:=false) ?_);simp (decide:=true) only [go_sem,↓reduceIte,Nat.reduceAdd,Nat.reduceSub]))
 refine W.loop (s1:=stL [(.sl l.length 2 (l.flatMap encA)),(.fn (.func 89) [] [.ptr 0 0]),aN,aN,aN,aN,aN,(.g (.int .i64 (l.length:Int))),(.g (.int .i64 ((0:Nat):Int))),aN,aN,aN,aN,aN,aN,aN,aN,aN,aN] [(0,.cells [.g (.string s)])] 1)
  (fun (k:Nat) t=>k≤l.length∧(∀ x∈l.take k,decide (x.name=s)=false)∧t=stL [(.sl l.length 2 (l.flatMap encA)),(.fn (.func 89) [] [.ptr 0 0]),aN,aN,aN,aN,aN,(.g (.int .i64 (l.length:Int))),(.g (.int .i64 (k:Int))),aN,aN,aN,aN,aN,aN,aN,aN,aN,aN] [(0,.cells [.g (.string s)])] 1) (fun k=>l.length - k) 0 ⟨Nat.zero_le _,by simp,rfl⟩ (VS.tm (by simp [leL])) ?_
 rintro k t ⟨hk,he,rfl⟩
 by_cases hlt:k<l.length
 ·obtain ⟨-,-,r2,r3⟩:=rowA hlt
  (repeat ((try with_reducible refine W.step (b:=false) ?_);simp (decide:=true) only [go_sem,↓reduceIte,Nat.reduceAdd,Nat.reduceSub,hlt,r2,r3]))
  refine AtCall.mem (attrCl_m l[k] s) ?_
  by_cases hx:l[k].name=s
  ·have fx:=eq_true hx
   (repeat ((try with_reducible refine W.step (b:=false) ?_);simp (decide:=true) only [go_sem,↓reduceIte,Nat.reduceAdd,Nat.reduceSub,fx]))
   rw [Q3i hlt he (decide_eq_true hx)];exact ⟨.inr rfl,[aN,aN,aN,aN,(.g (.int .i64 (k:Int))),aN,aN,aN,aN,aN,aN,aN,aN,aN,aN,aN,aN,aN,aN],VS.tm (by simp [leL]),rfl⟩
  ·(repeat ((try with_reducible refine W.step (b:=false) ?_);simp (decide:=true) only [go_sem,↓reduceIte,Nat.reduceAdd,Nat.reduceSub,hx]))
   refine ⟨k+1,_,⟨by omega,Q1e (pr:=fun x:Atr=>decide (x.name=s)) hlt he (decide_eq_false hx),rfl⟩,by show l.length - (k+1)<l.length - k;omega,VS.tm ?_⟩;rw [up1 (by omega)];simp [leL]
 ·(repeat ((try with_reducible refine W.step (b:=false) ?_);simp (decide:=true) only [go_sem,↓reduceIte,Nat.reduceAdd,Nat.reduceSub,hlt]))
  rw [Q2v (fun x hx=>he x (by rw [List.take_of_length_le (by omega)];exact hx))];exact ⟨.inr rfl,[aN,aN,aN,aN,(.g (.int .i64 (-1))),aN,aN,aN,aN,aN,aN,aN,aN,aN,aN,aN,aN,aN,aN],VS.tm (by simp [leL]),rfl⟩
def atM (p:List Nod) (n:Int) (s:ByteArray):Option ByteArray:=if elemB p n=true then ((ndAt p n).attrs.find? fun x=>decide (x.name=s)).map (·.value) else none
theorem find_idx {α:Type} (pr:α→Bool) (l:List α):(idxL pr l=-1∧l.find? pr=none)∨∃ (k:Nat) (hk:k<l.length),idxL pr l=(k:Int)∧l.find? pr=some l[k]:=by
 cases h:l.findIdx? pr with
 | none =>
   refine .inl ⟨by unfold idxL;rw [h],?_⟩;rw [List.findIdx?_eq_none_iff] at h;rw [List.find?_eq_none];intro x hx;rw [h x hx];decide
 | some k =>
   refine .inr ⟨k,?_⟩;have h2:=h;rw [List.findIdx?_eq_some_iff_getElem] at h;obtain ⟨hk,hp,hj⟩:=h;refine ⟨hk,by unfold idxL;rw [h2],?_⟩;rw [List.find?_eq_some_iff_getElem];exact ⟨hp,k,hk,rfl,fun j hjk=>by have:=hj j hjk;simpa using this⟩
set_option maxRecDepth 100000 in
set_option maxHeartbeats 4000000 in
theorem attr_p (p:List Nod) (n:Int) (s:ByteArray) (hp:∀ x∈p,x.attrs.length≤1000000):PureN Tryz.prog gt0 44 [.sl p.length 5 (p.flatMap encNd),.g (.int .i64 n),.g (.string s)] (.tup [.g (.string ((atM p n s).getD ⟨#[]⟩)),.g (.bool (atM p n s).isSome)]):=by
 have HE:=Q3s p n;refine PureN.of_w (c:=_) Tryz.func44 rfl (by kernel_rfl) rfl ?_;simp only [Tryz.f44,List.replicate,List.length_cons,List.length_nil,Nat.reduceAdd,Nat.reduceSub,List.cons_append,List.nil_append]
 (repeat ((try with_reducible refine W.step (b:=false) ?_);simp (decide:=true) only [go_sem,↓reduceIte,Nat.reduceAdd,Nat.reduceSub]))
 refine AtCall.mk HE ?_
 by_cases he:elemB p n=true
 ·have hat:atM p n s=((ndAt p n).attrs.find? fun x=>decide (x.name=s)).map (·.value):=if_pos he
  rw [he];obtain ⟨k,rfl⟩:∃ k:Nat,n=k:=⟨n.toNat,by simp [elemB] at he;omega⟩;have hk:k<p.length:=by simp [elemB] at he;omega
  rw [Q0o hk] at hat;have r:=rowNd hk;have hla:=hp _ (List.getElem_mem hk)
  (repeat ((try with_reducible refine W.step (b:=false) ?_);simp (decide:=true) only [go_sem,↓reduceIte,Nat.reduceAdd,Nat.reduceSub,hk,r]))
  refine AtCall.mem (attrIdx_m p[k].attrs s hla) ?_;rcases find_idx (fun x:Atr=>decide (x.name=s)) p[k].attrs with ⟨h1,h2⟩ | ⟨i,hi,h1,h2⟩
  ·rw [h1,hat,h2]
   (repeat ((try with_reducible refine W.step (b:=false) ?_);simp (decide:=true) only [go_sem,↓reduceIte,Nat.reduceAdd,Nat.reduceSub]))
   exact Q3n _ (.inr rfl) rfl rfl rfl rfl
  ·rw [h1,hat,h2]
   have ra:=rowA hi;have fi:((i:Int)<0)=False:=eq_false (by omega)
   (repeat ((try with_reducible refine W.step (b:=false) ?_);simp (decide:=true) only [go_sem,↓reduceIte,Nat.reduceAdd,Nat.reduceSub,hk,r,hi,ra,fi]))
   exact Q3n _ (.inr rfl) rfl rfl rfl rfl
 ·have hat:atM p n s=none:=if_neg he
  rw [hat,Bool.not_eq_true _ |>.mp he]
  (repeat ((try with_reducible refine W.step (b:=false) ?_);simp (decide:=true) only [go_sem,↓reduceIte,Nat.reduceAdd,Nat.reduceSub]))
  exact Q3n _ (.inr rfl) rfl rfl rfl rfl
theorem ag_uint:aggO Tryz.prog 162=some (false,1):=by kernel_rfl
theorem ag_u64:aggO Tryz.prog 244=some (false,1):=by kernel_rfl
theorem sz_u64:szO Tryz.prog 244=some 1:=by kernel_rfl
def bldR (P:Program) (t:TypeId):Option (List AV×Nat):=match (P.info? t).bind (·.zero),P.underlying t with
 | some z,some (.array _ e)=>match P.info? e with
   | some i=>some (z.cells.toList.map .g,i.size)
   | none=>none
 | _,_=>none
theorem evArr_eq {P:Program} {t:TypeId} {zs:List AV} {sz:Nat} (h:bldR P t=some (zs,sz)) (parts:List (Nat×AV)):evBuild P t parts=aggM (rowsL sz zs parts):=by
 unfold bldR at h;unfold evBuild
 split at h
 ·rename_i z k e h1 h2
  split at h
  ·rename_i i h3
   cases h
   simp only [h1,h2,h3,rowsL_eq]
   cases rowsL i.size (z.cells.toList.map .g) parts <;> rfl
  ·cases h
 ·cases h
theorem ik_u8:intK Tryz.prog 5=some .u8:=by kernel_rfl
theorem ik_u32:intK Tryz.prog 242=some .u32:=by kernel_rfl
theorem ik_uint:intK Tryz.prog 162=some .u64:=by kernel_rfl
theorem un_strB:Tryz.prog.underlying 9=some .string:=by kernel_rfl
attribute [go_sem] un_strB ag_uint ag_u64 sz_u64 ik_u8 ik_u32 ik_uint
set_option maxRecDepth 100000 in
set_option maxHeartbeats 4000000 in
def wordM (kind:Int) (name:ByteArray):ByteArray:=if kind=3 then ⟨#[35]⟩++name else if kind=4 then ⟨#[46]⟩++name else if kind=2 then ⟨#[60]⟩++name else ⟨#[]⟩
attribute [go_sem] appL newsA isSlice
theorem ag_rows:aggO Tryz.prog 50=some (false,1):=by kernel_rfl
theorem el_rows:elemO Tryz.prog 50=some 1:=by kernel_rfl
theorem ei_rows:elemI Tryz.prog 50=some (1,24,true):=by kernel_rfl
theorem ei_ints:elemI Tryz.prog 27=some (1,8,true):=by kernel_rfl
theorem ez_rows:elemZ Tryz.prog 50=[.slice none 0 0]:=by kernel_rfl
theorem sz_node:szO Tryz.prog 34=some 5:=by kernel_rfl
theorem sz_ints:szO Tryz.prog 27=some 1:=by kernel_rfl
theorem ze_node:zeroO Tryz.prog 34=some [.g (.string ⟨#[]⟩),.g (.slice none 0 0),.g (.string ⟨#[]⟩),.g (.int .i64 0),.g (.slice none 0 0)]:=by kernel_rfl
theorem un_ints:slOrStr (Tryz.prog.underlying 27)=true:=by kernel_rfl
attribute [go_sem] ag_rows el_rows ei_rows ei_ints ez_rows sz_node sz_ints ze_node un_ints
set_option maxRecDepth 100000 in
set_option maxHeartbeats 4000000 in
theorem equalI_p (xs ys:List Int) (hx:xs.length≤1000000) (hy:ys.length≤1000000):PureN Tryz.prog gt0 86 [.sl xs.length 1 (xs.flatMap encZ),.sl ys.length 1 (ys.flatMap encZ)] (.g (.bool (decide (xs=ys)))):=by
 refine PureN.of_w (c:=_) Tryz.func86 rfl (by kernel_rfl) rfl ?_;simp only [Tryz.f86,List.replicate,List.length_cons,List.length_nil,Nat.reduceAdd,Nat.reduceSub,List.cons_append,List.nil_append]
 by_cases hl:xs.length=ys.length
 ·have fl:((xs.length:Int)=(ys.length:Int))=True:=eq_true (by omega)
  (repeat ((try with_reducible refine W.step (b:=false) ?_);simp (decide:=true) only [go_sem,↓reduceIte,Nat.reduceAdd,Nat.reduceSub,fl];try with_reducible refine drawn hmix (by kernel_rfl) ?_))
  refine W.loop (s1:=stL [(.sl xs.length 1 (xs.flatMap encZ)),(.sl ys.length 1 (ys.flatMap encZ)),aN,aN,(.g (.bool false)),aN,aN,aN,aN,aN,aN,aN,(.g (.int .i64 (xs.length:Int))),(.g (.int .i64 ((0:Nat):Int))),aN,aN,aN,aN,aN,aN,aN,aN,aN,aN,aN,aN] [] 0)
   (fun (k:Nat) t=>k≤xs.length∧xs.take k=ys.take k∧t=stL [(.sl xs.length 1 (xs.flatMap encZ)),(.sl ys.length 1 (ys.flatMap encZ)),aN,aN,(.g (.bool false)),aN,aN,aN,aN,aN,aN,aN,(.g (.int .i64 (xs.length:Int))),(.g (.int .i64 (k:Int))),aN,aN,aN,aN,aN,aN,aN,aN,aN,aN,aN,aN] [] 0) (fun k=>xs.length - k) 0 ⟨Nat.zero_le _,by simp,rfl⟩ (VS.tm (by simp [leL])) ?_
  rintro k t ⟨hk,hq,rfl⟩
  by_cases hlt:k<xs.length
  ·have hlt2:k<ys.length:=by omega
   have r1:=rowZ hlt;have r2:=rowZ hlt2
   by_cases he:xs[k]=ys[k]
   ·have fe:=eq_true he
    (repeat ((try with_reducible refine W.step (b:=false) ?_);simp (decide:=true) only [go_sem,↓reduceIte,Nat.reduceAdd,Nat.reduceSub,hlt,hlt2,r1,r2,fe];try with_reducible refine drawn hmix (by kernel_rfl) ?_))
    refine ⟨k+1,_,⟨by omega,by rw [List.take_succ_eq_append_getElem hlt,List.take_succ_eq_append_getElem hlt2,hq,he],rfl⟩,by show xs.length - (k+1)<xs.length - k;omega,VS.tm ?_⟩;rw [up1 (by omega)];simp [leL]
   ·have fe:=eq_false he
    have hne:decide (xs=ys)=false:=decide_eq_false (fun e=>he (by subst e;rfl));rw [hne]
    (repeat ((try with_reducible refine W.step (b:=false) ?_);simp (decide:=true) only [go_sem,↓reduceIte,Nat.reduceAdd,Nat.reduceSub,hlt,hlt2,r1,r2,fe];try with_reducible refine drawn hmix (by kernel_rfl) ?_))
    exact Q0a _ (.inr rfl) rfl (.plain rfl)
  ·have heq:decide (xs=ys)=true:=decide_eq_true (by rw [List.take_of_length_le (by omega),List.take_of_length_le (by omega)] at hq;exact hq)
   rw [heq]
   (repeat ((try with_reducible refine W.step (b:=false) ?_);simp (decide:=true) only [go_sem,↓reduceIte,Nat.reduceAdd,Nat.reduceSub,hlt];try with_reducible refine drawn hmix (by kernel_rfl) ?_))
   exact Q0a _ (.inr rfl) rfl (.plain rfl)
 ·have hne:decide (xs=ys)=false:=decide_eq_false (fun e=>hl (by rw [e]))
  have fl:((xs.length:Int)=(ys.length:Int))=False:=eq_false (by omega);rw [hne]
  (repeat ((try with_reducible refine W.step (b:=false) ?_);simp (decide:=true) only [go_sem,↓reduceIte,Nat.reduceAdd,Nat.reduceSub,fl];try with_reducible refine drawn hmix (by kernel_rfl) ?_))
  exact Q0a _ (.inr rfl) rfl (.plain rfl)
theorem ids_Z:∀ l:List Int,noIdsL (l.flatMap encZ)=true
 | []=>rfl
 | x::l=>by rw [List.flatMap_cons];exact ids_Z l
def kidsR (p:List Nod) (k j:Nat):List Int:=((List.range k).filter fun i:Nat=>decide (0<i∧(ndAt p (i:Nat)).up=(j:Int))).map fun i:Nat=>(i:Int)
def treeB (p:List Nod):Bool:=!decide (p.length=0)&&(decide ((ndAt p 0).up=-1)&&(decide ((ndAt p 0).name++(ndAt p 0).text=⟨#[]⟩)&&(decide ((ndAt p 0).attrs.length=0) &&
 ((List.range p.length).all (fun k:Nat=>decide (k=0)||(decide (0≤(ndAt p k).up)&&decide ((ndAt p k).up<k)))&&(List.range p.length).all (fun k:Nat=>decide ((ndAt p k).kids=kidsR p p.length k))))))
structure OkPg (p:List Nod):Prop where
 len:p.length≤1000000
 kids:∀ x∈p,x.kids.length≤1000000
 attrs:∀ x∈p,x.attrs.length≤1000000
 texts:∀ x∈p,x.name.size+x.text.size≤1000000
 values:∀ x∈p,∀ a∈x.attrs,a.value.size≤1000000
theorem kidsR_zero (p:List Nod) (j:Nat):kidsR p 0 j=[]:=rfl
theorem Q3p (p:List Nod) (k j:Nat):kidsR p (k+1) j=kidsR p k j++if 0<k∧(ndAt p (k:Nat)).up=(j:Int) then [(k:Int)] else []:=by
 unfold kidsR;rw [List.range_succ,List.filter_append,List.map_append]
 congr 1
 by_cases h:0<k∧(ndAt p (k:Nat)).up=(j:Int)
 ·rw [if_pos h,List.filter_cons,if_pos (decide_eq_true h)];rfl
 ·rw [if_neg h,List.filter_cons,decide_eq_false h];rfl
theorem rows_zero (p:List Nod):∀ N,rowsM encZ 1 (kidsR p 0) N=[]
 | 0=>rfl
 | N+1=>by rw [rowsM,kidsR_zero];exact rows_zero p N
theorem zeros_owns (p:List Nod):∀ N,zerosA [.slice none 0 0] N=ownsA 1 1 (kidsR p 0) N:=by
 intro N;have:∀ N,zerosA [.slice none 0 0] N=List.replicate N (.g (.slice none 0 0)):=by
  intro N
  induction N with
  | zero=>rfl
  | succ N ih=>rw [zerosA,ih];rfl
 rw [this];unfold ownsA;refine List.ext_getElem (by simp) fun i h1 h2=>?_;simp [kidsR_zero,ownA]
set_option maxRecDepth 100000 in
set_option maxHeartbeats 4000000 in
theorem tree_p (p:List Nod) (hp:OkPg p):PureN Tryz.prog gt0 43 [.sl p.length 5 (p.flatMap encNd)] (.g (.bool (treeB p))):=by
 refine PureN.of_w (c:=_) Tryz.func43 rfl (by kernel_rfl) rfl ?_;simp only [Tryz.f43,List.replicate,List.length_cons,List.length_nil,Nat.reduceAdd,Nat.reduceSub,List.cons_append,List.nil_append];have hlen:=hp.len
 by_cases h0:p.length=0
 ·have hb:treeB p=false:=by unfold treeB;rw [decide_eq_true h0];rfl
  rw [hb];have f0:((p.length:Int)=0)=True:=eq_true (by omega)
  (repeat ((try with_reducible refine W.step (b:=false) ?_);simp (decide:=true) only [go_sem,↓reduceIte,Nat.reduceAdd,Nat.reduceSub,f0];try with_reducible refine drawn hmix (by kernel_rfl) ?_))
  exact Q0a _ (.inr rfl) rfl (.plain rfl)
 have f0:((p.length:Int)=0)=False:=eq_false (by omega);have hpos:0<p.length:=by omega
 have r:=rowNd hpos;have e0:=Q0o hpos;simp only [Nat.zero_mul,Nat.zero_add,Int.natCast_zero] at r e0;have f1:(0<(p.length:Int))=True:=eq_true (by omega);have sz:(p[0].name.size+p[0].text.size≤9223372036854775807)=True:=eq_true (by have:=hp.texts _ (List.getElem_mem hpos);omega);have ht0:treeB p=(decide (p[0].up=-1)&&(decide (p[0].name++p[0].text=⟨#[]⟩)&&(decide (p[0].attrs.length=0)&&((List.range p.length).all (fun k:Nat=>decide (k=0)||(decide (0≤(ndAt p k).up)&&decide ((ndAt p k).up<k)))&&(List.range p.length).all (fun k:Nat=>decide ((ndAt p k).kids=kidsR p p.length k)))))):=by
  unfold treeB;rw [decide_eq_false h0,e0];rfl
 rw [ht0]
 by_cases hu:p[0].up=-1
 rotate_left
 ·have fu:=eq_false hu
  rw [decide_eq_false hu,Bool.false_and]
  (repeat ((try with_reducible refine W.step (b:=false) ?_);simp (decide:=true) only [go_sem,↓reduceIte,Nat.reduceAdd,Nat.reduceSub,f0,f1,r,fu];try with_reducible refine drawn hmix (by kernel_rfl) ?_))
  exact Q0a _ (.inr rfl) rfl (.plain rfl)
 have fu:=eq_true hu
 by_cases hs:p[0].name++p[0].text=⟨#[]⟩
 rotate_left
 ·have fs:=eq_false hs
  rw [decide_eq_false hs,Bool.false_and,Bool.and_false]
  (repeat ((try with_reducible refine W.step (b:=false) ?_);simp (decide:=true) only [go_sem,↓reduceIte,Nat.reduceAdd,Nat.reduceSub,f0,f1,r,fu,fs,sz];try with_reducible refine drawn hmix (by kernel_rfl) ?_))
  exact Q0a _ (.inr rfl) rfl (.plain rfl)
 have fs:=eq_true hs
 by_cases ha:p[0].attrs.length=0
 rotate_left
 ·have fa:((0:Int)<(p[0].attrs.length:Int))=True:=eq_true (by omega)
  rw [decide_eq_false ha,Bool.false_and,Bool.and_false,Bool.and_false]
  (repeat ((try with_reducible refine W.step (b:=false) ?_);simp (decide:=true) only [go_sem,↓reduceIte,Nat.reduceAdd,Nat.reduceSub,f0,f1,r,fu,fs,sz,fa];try with_reducible refine drawn hmix (by kernel_rfl) ?_))
  exact Q0a _ (.inr rfl) rfl (.plain rfl)
 have fa:((0:Int)<(p[0].attrs.length:Int))=False:=eq_false (by omega);rw [decide_eq_true hu,decide_eq_true hs,decide_eq_true ha,Bool.true_and,Bool.true_and,Bool.true_and];have fm:(p.length*(24+1)≤17179869184)=True:=eq_true (by omega)
 (repeat ((try with_reducible refine W.step (b:=false) ?_);simp (decide:=true) only [go_sem,↓reduceIte,Nat.reduceAdd,Nat.reduceSub,f0,f1,r,fu,fs,sz,fa,fm];try with_reducible refine drawn hmix (by kernel_rfl) ?_))
 clear e0 ht0 hu fu hs fs ha fa fm sz r f1 f0;obtain ⟨n0,hn0⟩:∃ n0,n0=1+p.length:=⟨_,rfl⟩
 refine W.loop (s1:=stL [(.sl p.length 5 (p.flatMap encNd)),aN,(.g (.bool false)),(.gs 0 0 p.length 1 p.length),aN,aN,aN,aN,aN,aN,aN,aN,aN,aN,aN,aN,aN,aN,aN,aN,aN,aN,aN,aN,aN,aN,aN,aN,aN,aN,aN,aN,aN,aN,aN,aN,aN,aN,aN,aN,aN,(.sl p.length 5 (p.flatMap encNd)),(.g (.int .i64 (p.length:Int))),(.g (.int .i64 ((0:Nat):Int))),aN,aN,aN,aN,aN,aN,aN,aN,aN,aN,aN,aN,aN,aN,aN,aN,aN,aN,aN,aN,aN,aN,aN,aN,aN,aN,aN,aN,aN,aN,aN,aN,aN,aN,aN,aN,aN,aN,aN,aN,aN,aN,aN,aN] ((0,.cells (ownsA 1 1 (kidsR p 0) p.length))::rowsM encZ 1 (kidsR p 0) p.length) n0)
  (fun (k:Nat) t=>k≤p.length∧(∀ i:Nat,i<k→0<i→0≤(ndAt p i).up∧(ndAt p i).up<i)∧t=stL [(.sl p.length 5 (p.flatMap encNd)),aN,(.g (.bool false)),(.gs 0 0 p.length 1 p.length),aN,aN,aN,aN,aN,aN,aN,aN,aN,aN,aN,aN,aN,aN,aN,aN,aN,aN,aN,aN,aN,aN,aN,aN,aN,aN,aN,aN,aN,aN,aN,aN,aN,aN,aN,aN,aN,(.sl p.length 5 (p.flatMap encNd)),(.g (.int .i64 (p.length:Int))),(.g (.int .i64 (k:Int))),aN,aN,aN,aN,aN,aN,aN,aN,aN,aN,aN,aN,aN,aN,aN,aN,aN,aN,aN,aN,aN,aN,aN,aN,aN,aN,aN,aN,aN,aN,aN,aN,aN,aN,aN,aN,aN,aN,aN,aN,aN,aN,aN,aN] ((0,.cells (ownsA 1 1 (kidsR p k) p.length))::rowsM encZ 1 (kidsR p k) p.length) n0)
  (fun k=>p.length - k) 0 ⟨Nat.zero_le _,fun i hi=>absurd hi (Nat.not_lt_zero _),rfl⟩ ?_ ?_
 ·rw [zeros_owns p,rows_zero]
  exact VS.same (by omega) (fun _=>rfl) (by simp [leL])
 rintro k t ⟨hk,hup,rfl⟩
 by_cases hlt:k<p.length
 ·have rk:=rowNd hlt
  have ek:=Q0o hlt;have hrow:=Q2m encNd 5 (fun _=>rfl) p k hlt 0 5 (by decide);have hfit:=row_fit encNd 5 (fun _=>rfl) p k hlt (j:=0) (c:=5) (by decide);rw [Nat.add_zero,List.drop_zero,List.take_of_length_le (l:=encNd p[k]) (Nat.le_refl 5)] at hrow;have hen:encNd p[k]=[.g (.string p[k].name),.sl p[k].attrs.length 2 (p[k].attrs.flatMap encA),.g (.string p[k].text),.g (.int .i64 p[k].up),.sl p[k].kids.length 1 (p[k].kids.flatMap encZ)]:=rfl;rw [hen] at hrow;rw [Nat.add_zero] at hfit
  by_cases hk0:k=0
  ·have fk:((k:Int)=0)=True:=eq_true (by omega)
   (repeat ((try with_reducible refine W.step (b:=false) ?_);simp (decide:=true) only [go_sem,↓reduceIte,Nat.reduceAdd,Nat.reduceSub,hlt,hrow,hfit,fk];try with_reducible refine drawn hmix (by kernel_rfl) ?_))
   refine ⟨k+1,_,⟨by omega,fun i h1 h2=>by omega,rfl⟩,by show p.length - (k+1)<p.length - k;omega,?_⟩;rw [up1 (by omega)];have hsame:∀ j,kidsR p (k+1) j=kidsR p k j:=fun j=>by rw [Q3p,if_neg (by omega),List.append_nil]
   rw [show kidsR p (k+1)=kidsR p k from funext hsame];refine VS.drop (fun c x hc=>?_) ?_
   ·rw [getL] at hc
    split at hc
    ·rename_i h;subst h;cases hc
     exact ⟨by omega,hn0▸ownsA_lt,by simp [getL,hn0]⟩
    ·rw [Q2q] at hc
     split at hc
     ·rename_i h
      cases hc
      refine ⟨by omega,ltL_id _ _ (ids_Z _),?_⟩;rw [getL,if_neg (by omega),getL,if_neg (by omega),Q2q,if_pos h]
     ·cases hc
   ·simp [Q0e,Q0g,ltA,hn0];omega
  ·have fk:((k:Int)=0)=False:=eq_false (by omega)
   by_cases hu0:p[k].up<0
   ·have fu:=eq_true hu0
    have hf:(List.range p.length).all (fun k:Nat=>decide (k=0)||(decide (0≤(ndAt p k).up)&&decide ((ndAt p k).up<k)))=false:=by
     refine List.all_eq_false.2 ⟨k,List.mem_range.2 hlt,?_⟩;rw [ek,decide_eq_false hk0,decide_eq_false (p:=0≤p[k].up) (by omega),Bool.false_and];decide
    rw [hf,Bool.false_and]
    (repeat ((try with_reducible refine W.step (b:=false) ?_);simp (decide:=true) only [go_sem,↓reduceIte,Nat.reduceAdd,Nat.reduceSub,hlt,hrow,hfit,fk,fu];try with_reducible refine drawn hmix (by kernel_rfl) ?_))
    exact Q0a _ (.inr rfl) rfl (.plain rfl)
   by_cases hu1:(k:Int)≤p[k].up
   ·have fu:=eq_false hu0
    have fv:=eq_true hu1;have hf:(List.range p.length).all (fun k:Nat=>decide (k=0)||(decide (0≤(ndAt p k).up)&&decide ((ndAt p k).up<k)))=false:=by
     refine List.all_eq_false.2 ⟨k,List.mem_range.2 hlt,?_⟩;rw [ek,decide_eq_false hk0,decide_eq_false (p:=p[k].up<(k:Int)) (by omega),Bool.and_false];decide
    rw [hf,Bool.false_and]
    (repeat ((try with_reducible refine W.step (b:=false) ?_);simp (decide:=true) only [go_sem,↓reduceIte,Nat.reduceAdd,Nat.reduceSub,hlt,hrow,hfit,fk,fu,fv];try with_reducible refine drawn hmix (by kernel_rfl) ?_))
    exact Q0a _ (.inr rfl) rfl (.plain rfl)
   obtain ⟨j,hj⟩:∃ j:Nat,p[k].up=j:=⟨p[k].up.toNat,by omega⟩;have hjk:j<k:=by omega
   have hjn:j<p.length:=by omega
   rw [hj] at hrow;have fu:((j:Int)<0)=False:=eq_false (by omega);have fv:((k:Int)≤(j:Int))=False:=eq_false (by omega);have hne:kidsR p (k+1) j≠[]:=by rw [Q3p,ek,if_pos ⟨by omega,hj⟩];simp
   have hrow2:kidsR p (k+1) j=kidsR p k j++[(k:Int)]:=by rw [Q3p,ek,if_pos ⟨by omega,hj⟩]
   have hoth:∀ i,i≠j→kidsR p (k+1) i=kidsR p k i:=fun i hi=>by rw [Q3p,ek,hj,if_neg (by omega),List.append_nil]
   have hup2:∀ i:Nat,i<k+1→0<i→0≤(ndAt p i).up∧(ndAt p i).up<i:=fun i h1 h2=>by
    rcases Nat.lt_or_ge i k with h3 | h3
    ·exact hup i h3 h2
    ·obtain rfl:i=k:=by omega
     rw [ek,hj];omega
   have hown:=ownsA_get (b0:=1) (sz:=1) (R:=kidsR p k) hjn;have e1:(n0=0)=False:=eq_false (by omega);have e2:(n0+1=0)=False:=eq_false (by omega);have e3:(n0+2=0)=False:=eq_false (by omega);have e7:j+1≤(ownsA 1 1 (kidsR p k) p.length).length:=by rw [Q2s];omega
   by_cases hnil:kidsR p k j=[]
   ·rw [hnil,ownA] at hown
    (repeat ((try with_reducible refine W.step (b:=true) ?_);simp (decide:=true) only [go_sem,↓reduceIte,Nat.reduceAdd,Nat.reduceSub,hlt,hrow,hfit,fk,fu,fv,hjn,hown,e1,e2,e3,e7];(try with_reducible refine drawn hmix (by kernel_rfl) ?_)))
    (refine ⟨?_,?_⟩;focus (simp only [okD_nil,okD_end,okD_quiet,lowD_nil,Bool.true_and,Bool.and_true,Bool.and_self];repeat' (first | with_reducible exact okD_end | (with_reducible refine lowD_eq ?_;(simp <;> omega);done) | with_reducible refine andB ?_ ?_ | with_reducible refine okD_quiet.trans ?_ | (with_reducible refine (okD_free ?_).trans ?_;(constructor <;> simp <;> omega)) | (with_reducible refine (okD_bef ?_).trans ?_;decide +kernel))))
    (repeat ((try with_reducible refine W.step (b:=false) ?_);simp (decide:=true) only [go_sem,↓reduceIte,Nat.reduceAdd,Nat.reduceSub];try with_reducible refine drawn hmix (by kernel_rfl) ?_))
    refine ⟨k+1,_,⟨by omega,hup2,rfl⟩,by show p.length - (k+1)<p.length - k;omega,?_⟩;rw [up1 (by omega),put_set (by rw [Q2s];exact hjn)];subst hn0;refine VS.own (F:=[(0,.cells (ownsA 1 1 (kidsR p (k+1)) p.length))]) (R:=kidsR p k) hjn (nn:=1+p.length+1+1) (by omega) (fun i _ hi=>hoth i hi) (fun _=>rfl) (fun c x hc=>?_) ?_ (fun i hi hij hr=>?_) ?_
    ·rw [getL] at hc
     split at hc
     ·rename_i h;subst h;cases hc
      refine ⟨by decide,ownsA_lt,?_⟩;rw [reFB,ownsA_re hoth hne,hrow2,hnil];simp [getL]
     ·simp [getL] at hc
    ·simp [getL,hrow2,hnil,encZ]
    ·have h9:=rowsM_at (enc:=encZ) (b0:=1) (R:=kidsR p k) hi hr
     have q1:¬(1+p.length+1+1=1+i):=by omega
     have q2:¬(1+p.length+1=1+i):=by omega
     have q3:¬(1+p.length=1+i):=by omega
     have q4:¬(0=1+i):=by omega
     simp only [getL,if_neg q1,if_neg q2,if_neg q3,if_neg q4];exact h9
    ·have q5:¬(0=1+j):=by omega
     simp [Q3d,reT_nil,reF,ltA,ownH,q5];omega
   ·obtain ⟨b,hb⟩:∃ b,b=1+j:=⟨_,rfl⟩
    rw [Q3f hnil,←hb] at hown;have hget:getL (rowsM encZ 1 (kidsR p k) p.length) b=some (.cells ((kidsR p k j).flatMap encZ)):=by rw [hb];exact rowsM_at hjn hnil
    have e4:(n0=b)=False:=eq_false (by omega);have e5:(n0+1=b)=False:=eq_false (by omega);have e6:(0=b)=False:=eq_false (by omega);have hfl:((kidsR p k j).flatMap encZ).length=(kidsR p k j).length:=by rw [Q1n (sz:=1) (fun _=>rfl),Nat.mul_one]
    have hkl:(kidsR p k j).length≤k:=by unfold kidsR;rw [List.length_map];exact Nat.le_trans (List.length_filter_le _ _) (by simp)
    have e8:((kidsR p k j).length+1≤(kidsR p k j).length)=False:=eq_false (by omega);have e9:((kidsR p k j).length+1)*9≤17179869184:=by omega
    have e10:(b=n0+1)=False:=eq_false (by omega)
    (repeat ((try with_reducible refine W.step (b:=true) ?_);simp (decide:=true) only [go_sem,↓reduceIte,Nat.reduceAdd,Nat.reduceSub,hlt,hrow,hfit,fk,fu,fv,hjn,hown,e1,e2,e3,e4,e5,e6,e7,e8,e9,e10,hget,hfl];(try with_reducible refine drawn hmix (by kernel_rfl) ?_)))
    (refine ⟨?_,?_⟩;focus (simp only [okD_nil,okD_end,okD_quiet,lowD_nil,Bool.true_and,Bool.and_true,Bool.and_self];repeat' (first | with_reducible exact okD_end | (with_reducible refine lowD_eq ?_;(simp <;> omega);done) | with_reducible refine andB ?_ ?_ | with_reducible refine okD_quiet.trans ?_ | (with_reducible refine (okD_free ?_).trans ?_;(constructor <;> simp <;> omega)) | (with_reducible refine (okD_bef ?_).trans ?_;decide +kernel))))
    (repeat ((try with_reducible refine W.step (b:=false) ?_);simp (decide:=true) only [go_sem,↓reduceIte,Nat.reduceAdd,Nat.reduceSub];try with_reducible refine drawn hmix (by kernel_rfl) ?_))
    refine ⟨k+1,_,⟨by omega,hup2,rfl⟩,by show p.length - (k+1)<p.length - k;omega,?_⟩;rw [up1 (by omega),put_set (by rw [Q2s];exact hjn)];have hpl:(kidsR p (k+1) j).length=(kidsR p k j).length+1:=by rw [hrow2];simp
    subst hn0 hb;refine VS.own (F:=[(0,.cells (ownsA 1 1 (kidsR p (k+1)) p.length))]) (R:=kidsR p k) hjn (nn:=1+p.length+1+1) (by omega) (fun i _ hi=>hoth i hi) (fun _=>rfl) (fun c x hc=>?_) ?_ (fun i hi hij hr=>?_) ?_
    ·rw [getL] at hc
     split at hc
     ·rename_i h;subst h;cases hc
      refine ⟨by decide,ownsA_lt,?_⟩;rw [reFB,ownsA_re hoth hne,hpl];simp [getL]
     ·simp [getL] at hc
    ·simp [getL,hrow2,encZ]
    ·have h9:=rowsM_at (enc:=encZ) (b0:=1) (R:=kidsR p k) hi hr
     have q1:¬(1+p.length+1+1=1+i):=by omega
     have q2:¬(1+p.length+1=1+i):=by omega
     have q3:¬(1+p.length=1+i):=by omega
     have q4:¬(0=1+i):=by omega
     have q5:¬(1+j=1+i):=by omega
     simp only [getL,if_neg q1,if_neg q2,if_neg q3,if_neg q4,getL_del,if_neg q5];exact h9
    ·have q5:¬(0=1+j):=by omega
     simp [Q3d,reT_nil,reF,ltA,ownH,q5];omega
 ·(repeat ((try with_reducible refine W.step (b:=false) ?_);simp (decide:=true) only [go_sem,↓reduceIte,Nat.reduceAdd,Nat.reduceSub,hlt];try with_reducible refine drawn hmix (by kernel_rfl) ?_))
  obtain rfl:k=p.length:=by omega
  have hup1:(List.range p.length).all (fun k:Nat=>decide (k=0)||(decide (0≤(ndAt p k).up)&&decide ((ndAt p k).up<k)))=true:=by
   rw [List.all_eq_true];intro i hi
   by_cases h0:i=0
   ·rw [decide_eq_true h0];rfl
   ·obtain ⟨g1,g2⟩:=hup i (List.mem_range.1 hi) (by omega)
    rw [decide_eq_true g1,decide_eq_true g2,Bool.true_and,Bool.or_true]
  rw [hup1,Bool.true_and];have hrl:∀ j,(kidsR p p.length j).length≤1000000:=fun j=>by unfold kidsR;rw [List.length_map];exact Nat.le_trans (List.length_filter_le _ _) (by simp;omega)
  refine W.loop (s1:=stL [(.sl p.length 5 (p.flatMap encNd)),aN,(.g (.bool false)),(.gs 0 0 p.length 1 p.length),aN,aN,aN,aN,aN,aN,aN,aN,aN,aN,aN,aN,aN,aN,aN,aN,aN,aN,aN,aN,aN,aN,aN,aN,aN,aN,aN,aN,aN,aN,aN,aN,aN,aN,aN,aN,aN,aN,aN,aN,aN,aN,aN,aN,aN,aN,aN,aN,aN,aN,aN,aN,aN,aN,aN,aN,aN,aN,aN,aN,aN,aN,aN,aN,aN,aN,aN,aN,(.sl p.length 5 (p.flatMap encNd)),(.g (.int .i64 (p.length:Int))),(.g (.int .i64 ((0:Nat):Int))),aN,aN,aN,aN,aN,aN,aN,aN,aN,aN,aN,aN,aN] [(0,.cells ((List.range p.length).map fun i=>.sl (kidsR p p.length i).length 1 ((kidsR p p.length i).flatMap encZ)))] n0)
   (fun (k:Nat) t=>k≤p.length∧(∀ i:Nat,i<k→(ndAt p i).kids=kidsR p p.length i)∧t=stL [(.sl p.length 5 (p.flatMap encNd)),aN,(.g (.bool false)),(.gs 0 0 p.length 1 p.length),aN,aN,aN,aN,aN,aN,aN,aN,aN,aN,aN,aN,aN,aN,aN,aN,aN,aN,aN,aN,aN,aN,aN,aN,aN,aN,aN,aN,aN,aN,aN,aN,aN,aN,aN,aN,aN,aN,aN,aN,aN,aN,aN,aN,aN,aN,aN,aN,aN,aN,aN,aN,aN,aN,aN,aN,aN,aN,aN,aN,aN,aN,aN,aN,aN,aN,aN,aN,(.sl p.length 5 (p.flatMap encNd)),(.g (.int .i64 (p.length:Int))),(.g (.int .i64 (k:Int))),aN,aN,aN,aN,aN,aN,aN,aN,aN,aN,aN,aN,aN] [(0,.cells ((List.range p.length).map fun i=>.sl (kidsR p p.length i).length 1 ((kidsR p p.length i).flatMap encZ)))] n0)
   (fun k=>p.length - k) 0 ⟨Nat.zero_le _,fun i hi=>absurd hi (Nat.not_lt_zero _),rfl⟩ ?_ ?_
  ·refine VS.sealOwn (by decide) (fun x a ha=>by simp [encZ] at ha;subst ha;rfl) (fun _=>rfl) ?_
   simp [frLF_cons,frLF_nil,frAF_any,frAF_self]
  rintro k t ⟨hk,hsm,rfl⟩
  by_cases hlt:k<p.length
  ·have rk:=rowNd hlt
   have ek:=Q0o hlt;have hrow:=Q2m encNd 5 (fun _=>rfl) p k hlt 0 5 (by decide);have hfit:=row_fit encNd 5 (fun _=>rfl) p k hlt (j:=0) (c:=5) (by decide);rw [Nat.add_zero,List.drop_zero,List.take_of_length_le (l:=encNd p[k]) (Nat.le_refl 5)] at hrow;have hen:encNd p[k]=[.g (.string p[k].name),.sl p[k].attrs.length 2 (p[k].attrs.flatMap encA),.g (.string p[k].text),.g (.int .i64 p[k].up),.sl p[k].kids.length 1 (p[k].kids.flatMap encZ)]:=rfl;rw [hen] at hrow;rw [Nat.add_zero] at hfit;have hown:((List.range p.length).map fun i=>AV.sl (kidsR p p.length i).length 1 ((kidsR p p.length i).flatMap encZ))[k]?=some (.sl (kidsR p p.length k).length 1 ((kidsR p p.length k).flatMap encZ)):=by
    rw [List.getElem?_map,List.getElem?_range hlt];rfl
   have e1:(n0=0)=False:=eq_false (by omega)
   (repeat ((try with_reducible refine W.step (b:=false) ?_);simp (decide:=true) only [go_sem,↓reduceIte,Nat.reduceAdd,Nat.reduceSub,hlt,hrow,hfit,hown,e1];try with_reducible refine drawn hmix (by kernel_rfl) ?_))
   refine AtCallQ.mk (equalI_p p[k].kids (kidsR p p.length k) (hp.kids _ (List.getElem_mem hlt)) (hrl k)) ?_
   by_cases hq:p[k].kids=kidsR p p.length k
   ·have fq:=eq_true hq
    (repeat ((try with_reducible refine W.step (b:=false) ?_);simp (decide:=true) only [go_sem,↓reduceIte,Nat.reduceAdd,Nat.reduceSub,fq];try with_reducible refine drawn hmix (by kernel_rfl) ?_))
    refine ⟨k+1,_,⟨by omega,fun i hi=>?_,rfl⟩,by show p.length - (k+1)<p.length - k;omega,?_⟩
    ·rcases Nat.lt_or_ge i k with h3 | h3
     ·exact hsm i h3
     ·obtain rfl:i=k:=by omega
      rw [ek];exact hq
    ·rw [up1 (by omega)]
     refine VS.drop (fun c x hc=>?_) ?_
     ·rw [getL] at hc
      split at hc
      ·rename_i h;subst h;cases hc
       exact ⟨by omega,ltL_id _ _ (noIdsL_map (fun _=>rfl) _),by simp [getL,hn0]⟩
      ·cases hc
     ·simp [Q0e,Q0g,ltA,hn0];omega
   ·have fq:=eq_false hq
    have hf:(List.range p.length).all (fun k:Nat=>decide ((ndAt p k).kids=kidsR p p.length k))=false:=List.all_eq_false.2 ⟨k,List.mem_range.2 hlt,by rw [ek,decide_eq_false hq];decide⟩;rw [hf]
    (repeat ((try with_reducible refine W.step (b:=false) ?_);simp (decide:=true) only [go_sem,↓reduceIte,Nat.reduceAdd,Nat.reduceSub,fq];try with_reducible refine drawn hmix (by kernel_rfl) ?_))
    exact Q0a _ (.inr rfl) rfl (.plain rfl)
  ·have hf:(List.range p.length).all (fun k:Nat=>decide ((ndAt p k).kids=kidsR p p.length k))=true:=by
    rw [List.all_eq_true];exact fun i hi=>decide_eq_true (hsm i (by have:=List.mem_range.1 hi;omega))
   rw [hf]
   (repeat ((try with_reducible refine W.step (b:=false) ?_);simp (decide:=true) only [go_sem,↓reduceIte,Nat.reduceAdd,Nat.reduceSub,hlt];try with_reducible refine drawn hmix (by kernel_rfl) ?_))
   exact Q0a _ (.inr rfl) rfl (.plain rfl)
end Go.Proofs.YtabliahkhafddaaGreat
namespace Go.Proofs.YtabliahkhafddaaGreat
open Go.RowKit Go.Ev
open Go.Ev.AV renaming any→aN
structure Stt where
 node:Int
 name:ByteArray
def encSt (x:Stt):List AV:=[.g (.int .i64 x.node),.g (.string x.name)]
def idB:ByteArray:=⟨#[105,100]⟩
def clsB:ByteArray:=⟨#[99,108,97,115,115]⟩
def isBl (c:UInt8):Bool:=c==32||c==9||c==10||c==12||c==13
def wordsL:List UInt8→List UInt8→List (List UInt8)
 | cur,[]=>if cur=[] then [] else [cur]
 | cur,c::l=>if isBl c=true then (if cur=[] then wordsL [] l else cur::wordsL [] l) else wordsL (cur++[c]) l
def wordsB (s:ByteArray):List ByteArray:=(wordsL [] s.data.toList).map fun l=>⟨l.toArray⟩
def classesM (p:List Nod) (n:Int):List ByteArray:=wordsB ((atM p n clsB).getD ⟨#[]⟩)
def kinM (p:List Nod) (n:Int):List Int:=if elemB p n=true∧0≤(ndAt p n).up∧(ndAt p n).up<p.length then (ndAt p (ndAt p n).up).kids.filter (elemB p) else []
def placeM (p:List Nod) (n:Int):Int:=1+idxL (fun k=>decide (k=n)) (kinM p n)
def bigN (n:Int):Bool:=decide (n< -1000000000)||decide (1000000000<n)
def nthM (a b i:Int):Bool:=!bigN a&&(!bigN b&&(!bigN i&&(if a=0 then decide (i=b) else decide (Int.tmod (i - b) a=0)&&decide (0≤Int.tdiv (i - b) a))))
def attrB (p:List Nod) (n:Int) (s:ByteArray) (l:List ByteArray):Bool:=match atM p n s with
 | some v=>decide (l=[])||l.any fun y=>decide (y=v)
 | none=>false
theorem attr_one (p:List Nod) (n:Int) (s x:ByteArray):attrB p n s [x]=(match atM p n s with | some v=>decide (v=x) | none=>false):=by
 unfold attrB
 cases atM p n s with
 | none=>rfl
 | some v=>simp [eq_comm]
theorem attr_none (p:List Nod) (n:Int) (s:ByteArray):attrB p n s []=(atM p n s).isSome:=by
 unfold attrB
 cases atM p n s <;> rfl
section
variable (p:List Nod) (st:List Stt) (n:Int)
mutual
def holdsS:Simp→Bool
 | .mk kind name value a b l =>
   if kind=1 then true else
   if kind=2 then decide ((ndAt p n).name=name) else
   if kind=3 then attrB p n idB [name] else
   if kind=4 then (classesM p n).any (fun x=>decide (x=name)) else
   if kind=5 then attrB p n name [] else
   if kind=6 then attrB p n name [value] else
   if kind=7 then st.any (fun x=>decide (x.node=n)&&decide (x.name=name)) else
   if kind=8 then nthM a b (placeM p n) else
   if kind=9 then decide ((ndAt p n).up=0)&&decide (placeM p n=1) else
   if kind=10 then decide ((ndAt p n).kids=[]) else
   if kind=11 then !anyS l else false
def anyS:List Simp→Bool
 | []=>false
 | x::xs=>holdsS x||anyS xs
end
theorem anyS_eq:∀ l:List Simp,anyS p st n l=l.any (holdsS p st n)
 | []=>by rw [anyS];rfl
 | x::xs=>by rw [anyS,anyS_eq xs,List.any_cons]
end
structure TreeP (p:List Nod):Prop where
 up:∀ n:Nat,0<n→n<p.length→0≤(ndAt p n).up∧(ndAt p n).up<n
 root:p≠[]→(ndAt p 0).name=⟨#[]⟩
 root0:0<p.length→(ndAt p 0).up=-1
 kids:∀ n:Nat,n<p.length→(ndAt p n).kids=kidsR p p.length n
def aboveM (p:List Nod) (n:Nat):List Nat:=if 0<(ndAt p n).up∧(ndAt p n).up<n then (ndAt p n).up.toNat::aboveM p (ndAt p n).up.toNat else []
termination_by n
decreasing_by omega
def aheadM (p:List Nod) (n:Int):List Int:=(kinM p n).takeWhile fun k=>!decide (k=n)
def relatedM (p:List Nod) (n:Nat) (comb:Int):List Int :=
 if comb=1 then (aboveM p n).map (fun k:Nat=>(k:Int)) else
 if comb=2 then ((aboveM p n).take 1).map (fun k:Nat=>(k:Int)) else
 if comb=3 then (aheadM p n).drop ((aheadM p n).length - 1) else
 if comb=4 then aheadM p n else []
def fitsS (p:List Nod) (st:List Stt):List Part→Nat→Bool
 | [],_=>false
 | [x],n=>elemB p n&&x.l.all (holdsS p st n)
 | x::y::l,n=>elemB p n&&x.l.all (holdsS p st n)&&(relatedM p n x.comb).any fun k=>fitsS p st (y::l) k.toNat
def isM (p:List Nod) (st:List Stt) (c:Cx) (n:Int):Bool:=elemB p n&&fitsS p st c.parts.reverse n.toNat
def wordsS (l:List Simp):List ByteArray:=(l.map fun x=>wordM x.kind x.name).filter fun w=>!decide (w=⟨#[]⟩)
def wordsR:List Part→List ByteArray
 | x::y::l=>if x.comb=1∨x.comb=2 then wordsS y.l++wordsR (y::l) else []
 | _=>[]
def wordsC (c:Cx):List ByteArray:=wordsR c.parts.reverse
end Go.Proofs.YtabliahkhafddaaGreat
namespace Go.Proofs.YtabliahkhafddaaGreat
open Go.RowKit
open Go.Ev.AV renaming any→aN
theorem isBl_int (c:UInt8):isBl c=((c.toNat:Int)==32||(c.toNat:Int)==9||(c.toNat:Int)==10||(c.toNat:Int)==12||(c.toNat:Int)==13):=by
 simp only [isBl,u8_beq];rfl
def blanks5:ByteArray:=⟨#[32,10,9,12,13]⟩
theorem decode_run (s:ByteArray) (i:Nat) (h:i<s.size) (h1:128≤(s[i]'h).toNat) :
 128≤(Utf8.decode s i).1∧1≤(Utf8.decode s i).2∧i+(Utf8.decode s i).2≤s.size∧∀ j (hj:j<s.size),i≤j→j<i+(Utf8.decode s i).2→128≤(s[j]'hj).toNat:=by
 obtain ⟨a1,a2⟩:=decode_high s i h h1;refine ⟨a1,a2,?_⟩;clear a1 a2;have hget:∀ k (hk:k<s.size),(s.get! k).toNat=(s[k]'hk).toNat:=by
  intro k hk;have:s.get! k=s[k]'hk:=by
   unfold ByteArray.get!;show s.data[k]! = s.data[k];rw [getElem!_pos s.data k hk]
  rw [this]
 have h0:128≤(s.get! i).toNat:=by rw [hget i h];exact h1
 have one:∀ j (hj:j<s.size),i≤j→j<i+1→128≤(s[j]'hj).toNat:=by
  intro j hj h2 h3;obtain rfl:j=i:=by omega
  exact h1
 have cont:∀ k,(decide (i+k<s.size)&&(s.get! (i+k)).toNat / 64==2)=true→i+k<s.size∧128≤(s.get! (i+k)).toNat:=by
  intro k hk;simp only [Bool.and_eq_true,decide_eq_true_eq,beq_iff_eq] at hk;exact ⟨hk.1,by omega⟩
 unfold Utf8.decode;simp only [Nat.add_zero];rw [if_neg (by omega)]
 split
 ·rename_i hc
  simp only [Bool.and_eq_true] at hc;obtain ⟨b1,b2⟩:=cont 1 (by simpa using hc.2)
  split
  ·refine ⟨by show i+2≤s.size;omega,fun j hj h2 h3=>?_⟩
   have h3':j<i+2:=h3;rcases (by omega:j=i∨j=i+1) with rfl | rfl
   ·exact h1
   ·rw [←hget];exact b2
  ·exact ⟨by show i+1≤s.size;omega,one⟩
 ·split
  ·rename_i hc
   simp only [Bool.and_eq_true] at hc;obtain ⟨b1,b2⟩:=cont 1 (by simpa using hc.1.2);obtain ⟨c1,c2⟩:=cont 2 (by simpa using hc.2)
   split
   ·refine ⟨by show i+3≤s.size;omega,fun j hj h2 h3=>?_⟩
    have h3':j<i+3:=h3;rcases (by omega:j=i∨j=i+1∨j=i+2) with rfl | rfl | rfl
    ·exact h1
    ·rw [←hget];exact b2
    ·rw [←hget];exact c2
   ·exact ⟨by show i+1≤s.size;omega,one⟩
  ·split
   ·rename_i hc
    simp only [Bool.and_eq_true] at hc;obtain ⟨b1,b2⟩:=cont 1 (by simpa using hc.1.1.2);obtain ⟨c1,c2⟩:=cont 2 (by simpa using hc.1.2);obtain ⟨d1,d2⟩:=cont 3 (by simpa using hc.2)
    split
    ·refine ⟨by show i+4≤s.size;omega,fun j hj h2 h3=>?_⟩
     have h3':j<i+4:=h3;rcases (by omega:j=i∨j=i+1∨j=i+2∨j=i+3) with rfl | rfl | rfl | rfl
     ·exact h1
     ·rw [←hget];exact b2
     ·rw [←hget];exact c2
     ·rw [←hget];exact d2
    ·exact ⟨by show i+1≤s.size;omega,one⟩
   ·exact ⟨by show i+1≤s.size;omega,one⟩
theorem blank_high (c:UInt8) (h:128≤c.toNat):isBl c=false:=by
 rw [isBl_int];simp only [Bool.or_eq_false_iff,beq_eq_false_iff_ne];omega
theorem clean_run (s:ByteArray) (i k:Nat) (hk:i+k≤s.size) (hb:(s.data.toList.take i).all (fun c=>!isBl c)=true)
 (hh:∀ j (hj:j<s.size),i≤j→j<i+k→128≤(s[j]'hj).toNat):(s.data.toList.take (i+k)).all (fun c=>!isBl c)=true:=by
 induction k with
 | zero=>exact hb
 | succ k ih =>
   have h2:=ih (by omega) fun j hj h1 h2=>hh j hj h1 (by omega);rw [←Nat.add_assoc,all_take_succ _ _ _ (by omega),h2,blank_high _ (hh (i+k) (by omega) (by omega) (by omega))]
   rfl
theorem blanks_contains (c:UInt8):blanks5.data.toList.contains c=isBl c:=by
 show [(32:UInt8),10,9,12,13].contains c=_;rw [Bool.eq_iff_iff];simp [isBl]
 constructor
 ·rintro (h | h | h | h | h) <;> simp [h]
 ·rintro ((((h | h) | h) | h) | h) <;> simp [h]
theorem blanks_ascii:∀ (i:Nat) (h:i<blanks5.size),(blanks5[i]'h).toNat<128:=by
 intro i h;have hm:blanks5[i]'h∈[(32:UInt8),10,9,12,13]:=List.getElem_mem (l:=[(32:UInt8),10,9,12,13]) (n:=i) h;exact (by decide:∀ b∈[(32:UInt8),10,9,12,13],b.toNat<128) _ hm
def Tells (l:Str) (w:World) (e:Ending) (w':World):Prop:=∃ z:Int,e=.returned (.int .i64 z)∧decide (0≤z)=!(l.all fun c=>!isBl c)∧Below w.heap.size w w'
set_option maxHeartbeats 8000000 in
set_option maxRecDepth 1000000 in
theorem iany_short (s:ByteArray) (w:World) (h8:s.size≤8) :
 Calls Tryz.prog 397 #[.string s,.string blanks5] w (Tells s.data.toList w):=by
 have hemp:blanks5.toList.isEmpty=false:=by rw [ByteArray.toList_eq];rfl
 have hsz5:blanks5.size=5:=rfl;have hn1:((blanks5.size:Int)==1)=false:=by decide
 have h8z:decide ((8:Int)<(s.size:Int))=false:=decide_eq_false (by omega);have hbl:∀ (r:Int) (w:World),128≤r→Calls Tryz.prog 398 #[.string blanks5,.int .i32 r] w fun e w'=>e=.returned (.int .i64 (-1))∧Below w.heap.size w w':=fun r w h=>irune_high blanks5 r w (by decide) (by decide) blanks_ascii h;have HBL:=Lib.hid hbl;have hcn:∀ c,decide (0≤Lib.indexByte blanks5.data.toList c)=isBl c:=fun c=>by rw [←Lib.contains_iff_indexByte,blanks_contains]
 have HCN:=Lib.hid hcn;clear hbl hcn hsz5;generalize blanks5=ch at *
 go_enter Tryz.func397,Tryz.ntmps397
 go_wp2_with (go_at_call 402;refine (Tryz.strings_shouldUseASCIISet _ _).mono ?_;rintro e w' ⟨rfl,rfl⟩;rw [h8z])
 go_loopg [9,10] s.size (fun g _ _ wx=>∃ i:Nat,i+g=s.size∧wx.heap[w'.heap.size]?=some (.stringIter s i)∧Below w'.heap.size w' wx∧w'.heap.size<wx.heap.size∧Hid ((s.data.toList.take i).all (fun c=>!isBl c)=true))
 case atStart=>exact ⟨0,by omega,heap_alloc_new w' _,Q0h _ _,by show _<(w'.heap.push _).size;simp,rfl⟩
 case round =>
  obtain ⟨i,hig,hit,hB,hlt,HN⟩:=hrel
  cases gk with
  | zero =>
    obtain rfl:i=s.size:=by omega
    have hnx:=fun ty=>Lib.run_next_end_at (P:=Tryz.prog) wr w'.heap.size s s.size ty hit (by omega)
    go_wp2
    go_ret
    have hN:=HN.out;rw [take_all s s.size (by omega)] at hN;exact ⟨-1,rfl,by rw [hN];rfl,hB⟩
  | succ g =>
    have hi:i<s.size:=by omega
    by_cases hx:(s[i]'hi).toNat<128
    ·have hnx:=fun ty=>Lib.run_next_ascii_at (P:=Tryz.prog) wr w'.heap.size s i ty hit hi hx
     have hcn:=HCN.out s[i];have hback:((s[i].toNat:Int)).toNat.toUInt8=s[i]:=by simp
     have hit2:=Lib.iterAt_heap wr w'.heap.size s i (i+1) hit;have hB2:=Lib.below_iterAt hB (Nat.le_refl w'.heap.size) s (i+1);have hlt2:w'.heap.size<(wr.iterAt w'.heap.size s (i+1)).heap.size:=by rw [Lib.iterAt_size];exact hlt
     cases hb:isBl s[i]
     ·rw [hb] at hcn
      have hge:=of_decide_eq_false hcn;clear hcn
      go_wp2_with (go_at_call 398;refine (Tryz.strings_IndexRune_ascii _ _ _ (by omega) (by omega)).mono ?_;rintro e w' ⟨rfl,hw⟩;rw [hw,hback])
      go_roundg g
      case measure=>omega
      case rel=>exact ⟨i+1,by omega,hit2,hB2,hlt2,by show _=_;rw [all_take_succ _ _ _ hi,HN.out,hb];rfl⟩
     ·rw [hb] at hcn
      have hge:=of_decide_eq_true hcn;clear hcn
      go_wp2_with (go_at_call 398;refine (Tryz.strings_IndexRune_ascii _ _ _ (by omega) (by omega)).mono ?_;rintro e w' ⟨rfl,hw⟩;rw [hw,hback])
      go_ret
      exact ⟨i,rfl,by rw [all_false_at _ _ _ hi (by rw [hb];rfl)];simp,hB2⟩
    ·obtain ⟨d1,d2,d3,d4⟩:=decode_run s i hi (by omega)
     have hcl:=fun hb=>clean_run s i _ d3 hb d4;have hnx:=fun ty=>Lib.run_next_any_at (P:=Tryz.prog) wr w'.heap.size s i ty hit hi;generalize Utf8.decode s i=rk at *;obtain ⟨r,k⟩:=rk;dsimp only at *;have hit2:=Lib.iterAt_heap wr w'.heap.size s i (i+k) hit;have hB2:=Lib.below_iterAt hB (Nat.le_refl w'.heap.size) s (i+k);have hlt2:w'.heap.size<(wr.iterAt w'.heap.size s (i+k)).heap.size:=by rw [Lib.iterAt_size];exact hlt
     have HCL:=Lib.hid (hcl HN.out);clear hcl d4
     go_wp2_with (go_at_call 398;refine (HBL.out _ _ (by omega)).mono ?_;rintro e w2 ⟨rfl,hB3⟩)
     go_roundg (s.size - (i+k))
     case measure=>omega
     case rel=>exact ⟨i+k,by omega,by rw [hB3.block _ hlt2];exact hit2,hB2.trans (hB3.mono (by omega)),Nat.lt_of_lt_of_le hlt2 hB3.size,HCL⟩
theorem Tryz.zeroSet (w:World):(zeroValue 433).run Tryz.prog w=.ok (.agg (Array.replicate 256 (.bool false))) w:=by kernel_rfl
theorem indexAny_all (l:Str):decide (0≤Lib.indexAny l blanks5.data.toList)=!(l.all fun c=>!isBl c):=by
 induction l with
 | nil=>rfl
 | cons c l ih =>
   rw [Lib.indexAny];rw [blanks_contains];have:=Lib.indexAny_ge blanks5.data.toList l
   cases hb:isBl c
   ·simp only [Bool.false_eq_true,if_false,List.all_cons,hb,Bool.not_false,Bool.true_and]
    rw [←ih]
    by_cases h:Lib.indexAny l blanks5.data.toList=-1
    ·rw [h];rfl
    ·rw [if_neg (by simpa using h)]
     rw [Bool.eq_iff_iff,decide_eq_true_iff,decide_eq_true_iff];omega
   ·simp [hb]
theorem iany_any (s:ByteArray) (w:World) (hs:s.size≤1000000) :
 Calls Tryz.prog 397 #[.string s,.string blanks5] w (Tells s.data.toList w):=by
 by_cases h8:s.size≤8
 ·exact iany_short s w h8
 ·refine (Tryz.strings_IndexAny_long Tryz.zeroSet s blanks5 w (by decide) (by omega) (by omega) (by decide) ?_).mono ?_
  ·intro j b hj
   have hj5:j<blanks5.size:=by
    have:=(List.getElem?_eq_some_iff.1 hj).1;rw [ba_len] at this;exact this
   have h:=blanks_ascii j hj5;have e:blanks5[j]=b:=(List.getElem?_eq_some_iff.1 hj).2;rw [e] at h;exact h
  ·rintro e w' ⟨rfl,rfl⟩
   exact ⟨_,rfl,indexAny_all _,(Q0h _ _).trans ((Below.refl _ _).alloc (by simp) _)⟩
set_option maxHeartbeats 1000000 in
theorem cany_any (s:ByteArray) (w:World) (hs:s.size≤1000000) :
 Calls Tryz.prog 382 #[.string s,.string blanks5] w fun e w'=>e=.returned (.bool (!(s.data.toList.all fun c=>!isBl c)))∧Below w.heap.size w w':=by
 have H:=Lib.hid (iany_any s w hs);generalize blanks5=ch at *
 go_enter Tryz.func382,Tryz.ntmps382
 go_wp2_with fail
 refine H.out.mono ?_;rintro e w' ⟨z,rfl,hz,hB⟩;have HZ:=Lib.hid hz;clear hz
 go_wp2
 go_ret
 exact ⟨ret_bool HZ.out,hB⟩
end Go.Proofs.YtabliahkhafddaaGreat
namespace Go.Proofs.YtabliahkhafddaaGreat
open Go.RowKit Go.Ev
open Go.Ev.AV renaming any→aN
attribute [local go_sem] eq_self false_and and_false Bool.false_eq_true List.set_cons_succ List.set_cons_zero List.getD_cons_succ List.getD_cons_zero List.getElem?_cons_succ List.getElem?_cons_zero true_and and_true and_self Bool.not_true Bool.not_false Nat.add_zero Nat.zero_add Nat.mul_one Int.toNat_natCast Int.natCast_nonneg Int.ofNat_lt Option.bind_some Option.map_some List.map_cons List.map_nil decide_true decide_false BEq.rfl Bool.and_self Bool.and_true Bool.and_false beq_self_eq_true List.cons_append List.nil_append List.take_zero List.take_succ_cons List.take_nil List.drop_succ_cons List.drop_zero List.drop_nil List.append_nil List.length_cons List.length_nil List.all_cons List.all_nil Nat.le_refl Int.le_refl Option.map_none List.replicate_zero List.replicate_succ Nat.zero_mul Nat.sub_zero Nat.zero_le Nat.le_zero_eq Q2f Option.some_or Option.none_or Option.or_none Option.isSome_some Option.isSome_none Option.getD_some Option.getD_none Int.toNat_zero Int.natCast_zero Int.natCast_one Int.cast_ofNat_Int List.toList_toArray
attribute [go_sem] appL newsA isSlice
theorem bl_i3 (parts:List (Nat×AV)):evBuild Tryz.prog 414 parts=aggM (rowsL 1 [.g (.int .i64 0),.g (.int .i64 0),.g (.int .i64 0)] parts):=evArr_eq (by kernel_rfl) parts
theorem ar_i3:arrO Tryz.prog 414=some (3,1,3):=by kernel_rfl
attribute [go_sem] bl_i3 ar_i3
theorem lenZ (l:List Int):(l.flatMap encZ).length=l.length:=by rw [Q1n (sz:=1) (fun _=>rfl),Nat.mul_one]
theorem takeZ (l:List Int):(l.flatMap encZ).take l.length=l.flatMap encZ:=List.take_of_length_le (by rw [lenZ];exact Nat.le_refl _)
theorem cellZ (l:List Int):(l.flatMap encZ).all isCell=true:=by
 rw [List.all_eq_true];intro a ha;obtain ⟨x,-,hx⟩:=List.mem_flatMap.1 ha;simp [encZ] at hx;subst hx;rfl
attribute [go_sem] lenZ takeZ cellZ
set_option maxRecDepth 100000 in
set_option maxHeartbeats 4000000 in
theorem indexI_p (l:List Int) (x:Int) (hl:l.length≤1000000):PureN Tryz.prog gt0 312 [.sl l.length 1 (l.flatMap encZ),.g (.int .i64 x)] (.g (.int .i64 (idxL (fun k=>decide (k=x)) l))):=by
 refine PureN.of_w (c:=_) Tryz.func312 rfl (by kernel_rfl) rfl ?_;simp only [Tryz.f312,List.replicate,List.length_cons,List.length_nil,Nat.reduceAdd,Nat.reduceSub,List.cons_append,List.nil_append]
 (repeat ((try with_reducible refine W.step (b:=false) ?_);simp (decide:=true) only [go_sem,↓reduceIte,Nat.reduceAdd,Nat.reduceSub]))
 refine W.loop (s1:=stL [(.sl l.length 1 (l.flatMap encZ)),(.g (.int .i64 x)),aN,aN,aN,aN,aN,(.g (.int .i64 (l.length:Int))),(.g (.int .i64 ((0:Nat):Int))),aN,aN,aN,aN,aN,aN,aN,aN,aN,aN] [] 0)
  (fun (k:Nat) t=>k≤l.length∧(∀ y∈l.take k,decide (y=x)=false)∧t=stL [(.sl l.length 1 (l.flatMap encZ)),(.g (.int .i64 x)),aN,aN,aN,aN,aN,(.g (.int .i64 (l.length:Int))),(.g (.int .i64 (k:Int))),aN,aN,aN,aN,aN,aN,aN,aN,aN,aN] [] 0) (fun k=>l.length - k) 0 ⟨Nat.zero_le _,by simp,rfl⟩ (VS.tm (by simp [leL])) ?_
 rintro k t ⟨hk,he,rfl⟩
 by_cases hlt:k<l.length
 ·have r:=rowZ hlt
  by_cases hx:l[k]=x
  ·have fx:(x=l[k])=True:=eq_true hx.symm
   (repeat ((try with_reducible refine W.step (b:=false) ?_);simp (decide:=true) only [go_sem,↓reduceIte,Nat.reduceAdd,Nat.reduceSub,hlt,r,fx]))
   rw [Q3i hlt he (decide_eq_true hx)];exact Q0a _ (.inr rfl) rfl (.plain rfl)
  ·have fx:(x=l[k])=False:=eq_false (fun e=>hx e.symm)
   (repeat ((try with_reducible refine W.step (b:=false) ?_);simp (decide:=true) only [go_sem,↓reduceIte,Nat.reduceAdd,Nat.reduceSub,hlt,r,fx]))
   refine ⟨k+1,_,⟨by omega,Q1e (pr:=fun y=>decide (y=x)) hlt he (decide_eq_false hx),rfl⟩,by show l.length - (k+1)<l.length - k;omega,VS.tm ?_⟩;rw [up1 (by omega)];simp [leL]
 ·(repeat ((try with_reducible refine W.step (b:=false) ?_);simp (decide:=true) only [go_sem,↓reduceIte,Nat.reduceAdd,Nat.reduceSub,hlt]))
  rw [Q2v (fun y hy=>he y (by rw [List.take_of_length_le (by omega)];exact hy))];exact Q0a _ (.inr rfl) rfl (.plain rfl)
theorem nth_rem {a b i:Int} (h:bigN a=false∧bigN b=false∧bigN i=false):IntKind.i64.wrap (i - b)=i - b∧IntKind.i64.wrap (Int.tdiv (i - b) a)=Int.tdiv (i - b) a:=by
 unfold bigN at h;simp only [Bool.or_eq_false_iff,decide_eq_false_iff_not] at h;have h1:IntKind.i64.wrap (i - b)=i - b:=IntWalk.i64_in _ (by omega);refine ⟨h1,IntWalk.i64_in _ ?_⟩;have h2:(Int.tdiv (i - b) a).natAbs≤(i - b).natAbs:=by
  rw [Int.natAbs_tdiv];exact Nat.div_le_self _ _
 omega
set_option maxRecDepth 100000 in
set_option maxHeartbeats 4000000 in
theorem nth_p (a b i:Int):PureN Tryz.prog gt0 363 [.g (.int .i64 a),.g (.int .i64 b),.g (.int .i64 i)] (.g (.bool (nthM a b i))):=by
 refine PureN.of_w (c:=_) Tryz.func363 rfl (by kernel_rfl) rfl ?_;simp only [Tryz.f363,List.replicate,List.length_cons,List.length_nil,Nat.reduceAdd,Nat.reduceSub,List.cons_append,List.nil_append]
 (repeat ((try with_reducible refine W.step (b:=false) ?_);simp (decide:=true) only [go_sem,↓reduceIte,Nat.reduceAdd,Nat.reduceSub]))
 have big:∀ n:Int,bigN n=(decide (n< -1000000000)||decide (1000000000<n)):=fun _=>rfl;have get:∀ k:Nat,k<3→∃ x:Int,[AV.g (.int .i64 a),.g (.int .i64 b),.g (.int .i64 i)][k]?=some (.g (.int .i64 x))∧(k=0→x=a)∧(k=1→x=b)∧(k=2→x=i):=by
  intro k hk
  match k,hk with
  | 0,_=>exact ⟨a,rfl,fun _=>rfl,fun h=>absurd h (by decide),fun h=>absurd h (by decide)⟩
  | 1,_=>exact ⟨b,rfl,fun h=>absurd h (by decide),fun _=>rfl,fun h=>absurd h (by decide)⟩
  | 2,_=>exact ⟨i,rfl,fun h=>absurd h (by decide),fun h=>absurd h (by decide),fun _=>rfl⟩
 refine W.loop (s1:=stL [(.g (.int .i64 a)),(.g (.int .i64 b)),(.g (.int .i64 i)),aN,aN,aN,aN,aN,aN,aN,aN,aN,(.agg [.g (.int .i64 a),.g (.int .i64 b),.g (.int .i64 i)]),(.g (.int .i64 ((0:Nat):Int))),aN,aN,aN,aN,aN,aN,aN,aN,aN,aN,aN,aN,aN,aN,aN,aN,aN,aN,aN,aN,aN,aN,aN,aN,aN,aN,aN,aN] [] 0)
  (fun (k:Nat) t=>k≤3∧(0<k→bigN a=false)∧(1<k→bigN b=false)∧(2<k→bigN i=false)∧t=stL [(.g (.int .i64 a)),(.g (.int .i64 b)),(.g (.int .i64 i)),aN,aN,aN,aN,aN,aN,aN,aN,aN,(.agg [.g (.int .i64 a),.g (.int .i64 b),.g (.int .i64 i)]),(.g (.int .i64 (k:Int))),aN,aN,aN,aN,aN,aN,aN,aN,aN,aN,aN,aN,aN,aN,aN,aN,aN,aN,aN,aN,aN,aN,aN,aN,aN,aN,aN,aN] [] 0) (fun k=>3 - k) 0 ⟨Nat.zero_le _,by simp,by simp,by simp,rfl⟩ (VS.tm (by simp [leL])) ?_
 rintro k t ⟨hk,ha,hb,hi,rfl⟩
 by_cases hlt:k<3
 ·obtain ⟨x,hx,x0,x1,x2⟩:=get k hlt
  have fk:((k:Int)<3)=True:=eq_true (by omega)
  by_cases hbig:bigN x=true
  ·have hres:nthM a b i=false:=by
    unfold nthM;rcases (show k=0∨k=1∨k=2 by omega) with h | h | h
    ·rw [←x0 h,hbig];rfl
    ·rw [←x1 h,hbig];simp
    ·rw [←x2 h,hbig];simp
   rw [hres];rw [big] at hbig
   by_cases h1:x< -1000000000
   ·have f1:=eq_true h1
    (repeat ((try with_reducible refine W.step (b:=false) ?_);simp (decide:=true) only [go_sem,↓reduceIte,Nat.reduceAdd,Nat.reduceSub,fk,hx,f1]))
    exact Q0a _ (.inr rfl) rfl (.plain rfl)
   ·have f1:=eq_false h1
    have f2:(1000000000<x)=True:=eq_true (by rw [decide_eq_false h1,Bool.false_or] at hbig;exact of_decide_eq_true hbig)
    (repeat ((try with_reducible refine W.step (b:=false) ?_);simp (decide:=true) only [go_sem,↓reduceIte,Nat.reduceAdd,Nat.reduceSub,fk,hx,f1,f2]))
    exact Q0a _ (.inr rfl) rfl (.plain rfl)
  ·have hb2:=hbig
   rw [big] at hbig;simp only [Bool.or_eq_true,decide_eq_true_eq,not_or] at hbig;have f1:=eq_false hbig.1;have f2:=eq_false hbig.2
   (repeat ((try with_reducible refine W.step (b:=false) ?_);simp (decide:=true) only [go_sem,↓reduceIte,Nat.reduceAdd,Nat.reduceSub,fk,hx,f1,f2]))
   have hb3:bigN x=false:=by simpa using hb2
   refine ⟨k+1,_,⟨by omega,fun _=>?_,fun _=>?_,fun _=>?_,rfl⟩,by show 3 - (k+1)<3 - k;omega,VS.tm ?_⟩
   ·by_cases h:k=0
    ·rw [←x0 h];exact hb3
    ·exact ha (by omega)
   ·by_cases h:k=1
    ·rw [←x1 h];exact hb3
    ·exact hb (by omega)
   ·rw [←x2 (by omega)];exact hb3
   ·rw [up1 (by omega)]
    simp [leL]
 ·have h1:=ha (by omega)
  have h2:=hb (by omega);have h3:=hi (by omega);obtain ⟨w1,w2⟩:=nth_rem ⟨h1,h2,h3⟩;have fk:((k:Int)<3)=False:=eq_false (by omega);have hres:nthM a b i=if a=0 then decide (i=b) else decide (Int.tmod (i - b) a=0)&&decide (0≤Int.tdiv (i - b) a):=by unfold nthM;rw [h1,h2,h3];rfl
  rw [hres]
  by_cases h0:a=0
  ·have f0:=eq_true h0
   (repeat ((try with_reducible refine W.step (b:=false) ?_);simp (decide:=true) only [go_sem,↓reduceIte,Nat.reduceAdd,Nat.reduceSub,fk,f0]))
   exact Q0a _ (.inr rfl) rfl (.plain rfl)
  ·have f0:=eq_false h0
   by_cases hr:Int.tmod (i - b) a=0
   ·have fr:=eq_true hr
    (repeat ((try with_reducible refine W.step (b:=false) ?_);simp (decide:=true) only [go_sem,↓reduceIte,Nat.reduceAdd,Nat.reduceSub,fk,f0,w1,fr,w2]))
    exact Q0a _ (.inr rfl) rfl (.plain rfl)
   ·have fr:=eq_false hr
    (repeat ((try with_reducible refine W.step (b:=false) ?_);simp (decide:=true) only [go_sem,↓reduceIte,Nat.reduceAdd,Nat.reduceSub,fk,f0,w1,fr,w2]))
    exact Q0a _ (.inr rfl) rfl (.plain rfl)
def sliceAt (sv:AV) (m:ML) (l:List Int):Prop:=(sv=.sl l.length 1 (l.flatMap encZ)∧True)∨∃ b K,sv=.gs b 0 l.length 1 K∧getL m b=some (.cells (l.flatMap encZ))
set_option maxRecDepth 100000 in
set_option maxHeartbeats 4000000 in
theorem idxFI_m (l:List Int) (hl:l.length≤1000000) (pr:Int→Bool) (g:Nat) (caps:List AV) (m:ML) (n:Nat) (sv:AV) (hs:sliceAt sv m l)
 (hc:∀ (k:Nat) (hk:k<l.length),CallM Tryz.prog gt0 [] m n g (.g (.int .i64 l[k])::caps) (.g (.bool (pr l[k]))) m n) :
 CallM Tryz.prog gt0 [] m n 165 [sv,.fn (.func g) [] caps] (.g (.int .i64 (idxL pr l))) m n:=by
 refine Q0m (c:=_) Tryz.func165 rfl (by kernel_rfl) ?_;simp only [Tryz.f165,List.replicate,List.length_cons,List.length_nil,Nat.reduceAdd,Nat.reduceSub,List.cons_append,List.nil_append];rcases hs with ⟨hsv,hb⟩ | ⟨b,K,hsv,hb⟩
 all_goals
  (repeat ((try with_reducible refine W.step (b:=false) ?_);simp (decide:=true) only [go_sem,↓reduceIte,Nat.reduceAdd,Nat.reduceSub,hsv]))
  refine W.loop (s1:=stL [sv,(.fn (.func g) [] caps),aN,aN,aN,aN,aN,(.g (.int .i64 (l.length:Int))),(.g (.int .i64 ((0:Nat):Int))),aN,aN,aN,aN,aN,aN,aN,aN,aN,aN] m n)
   (fun (k:Nat) t=>k≤l.length∧(∀ x∈l.take k,pr x=false)∧t=stL [sv,(.fn (.func g) [] caps),aN,aN,aN,aN,aN,(.g (.int .i64 (l.length:Int))),(.g (.int .i64 (k:Int))),aN,aN,aN,aN,aN,aN,aN,aN,aN,aN] m n) (fun k=>l.length - k) 0 ⟨Nat.zero_le _,by simp,rfl⟩ (VS.tm (by simp [leL,hsv])) ?_
  rintro k t ⟨hk,he,rfl⟩
  by_cases hlt:k<l.length
  ·have r:=rowZ hlt
   (repeat ((try with_reducible refine W.step (b:=false) ?_);simp (decide:=true) only [go_sem,↓reduceIte,Nat.reduceAdd,Nat.reduceSub,hsv,hlt,r,hb]))
   refine AtCall.mem (hc k hlt) ?_
   cases hx:pr l[k] with
   | true =>
     (repeat ((try with_reducible refine W.step (b:=false) ?_);simp (decide:=true) only [go_sem,↓reduceIte,Nat.reduceAdd,Nat.reduceSub]))
     rw [Q3i hlt he hx];exact ⟨.inr rfl,[aN,aN,aN,aN,(.g (.int .i64 (k:Int))),aN,aN,aN,aN,aN,aN,aN,aN,aN,aN,aN,aN,aN,aN],VS.tm (by simp [leL]),rfl⟩
   | false =>
     (repeat ((try with_reducible refine W.step (b:=false) ?_);simp (decide:=true) only [go_sem,↓reduceIte,Nat.reduceAdd,Nat.reduceSub]))
     refine ⟨k+1,_,⟨by omega,Q1e hlt he hx,rfl⟩,by show l.length - (k+1)<l.length - k;omega,VS.tm ?_⟩;rw [up1 (by omega)];simp [leL,hsv]
  ·(repeat ((try with_reducible refine W.step (b:=false) ?_);simp (decide:=true) only [go_sem,↓reduceIte,Nat.reduceAdd,Nat.reduceSub,hsv,hlt]))
   rw [Q2v (fun x hx=>he x (by rw [List.take_of_length_le (by omega)];exact hx))];exact ⟨.inr rfl,[aN,aN,aN,aN,(.g (.int .i64 (-1))),aN,aN,aN,aN,aN,aN,aN,aN,aN,aN,aN,aN,aN,aN],VS.tm (by simp [leL]),rfl⟩
set_option maxRecDepth 100000 in
set_option maxHeartbeats 4000000 in
theorem cloneI_m (l:List Int) (hl:l.length≤1000000) (hne:l≠[]):CallM Tryz.prog gt0 [] [] 0 345 [.sl l.length 1 (l.flatMap encZ)] (.gs 0 0 l.length 1 l.length) [(0,.cells (l.flatMap encZ))] 1:=by
 refine Q0m (c:=_) Tryz.func345 rfl (by kernel_rfl) ?_;simp only [Tryz.f345,List.replicate,List.length_cons,List.length_nil,Nat.reduceAdd,Nat.reduceSub,List.cons_append,List.nil_append]
 (repeat ((try with_reducible refine W.step (b:=false) ?_);simp (decide:=true) only [go_sem,↓reduceIte,Nat.reduceAdd,Nat.reduceSub]))
 intro b hb;rw [hb (List.length_pos_iff.2 hne)];have f1:(l.length=0)=False:=eq_false (fun e=>hne (List.eq_nil_of_length_eq_zero e));have f2:(l.length≤0)=False:=eq_false (fun e=>hne (List.eq_nil_of_length_eq_zero (by omega)));have f3:l.length*9≤17179869184:=by omega
 (repeat ((try with_reducible refine W.step (b:=false) ?_);simp (decide:=true) only [go_sem,↓reduceIte,Nat.reduceAdd,Nat.reduceSub,f1,f2,f3]))
 refine ⟨.inr rfl,[aN,aN,(.gs 0 0 l.length 1 l.length),aN,aN,aN,aN,aN],VS.ren [(0,1)] (by simp) (by simp) (by decide) ?_ ?_,rfl⟩
 ·simp only [go_sem,↓reduceIte,Nat.reduceAdd,Nat.reduceSub,Nat.reduceMul,Nat.reduceEqDiff,Nat.reduceLeDiff,Nat.reduceLT,Int.reduceLE,Int.reduceLT,Int.reduceToNat,Int.reduceEq]
 ·exact ⟨⟨1,_,rfl,rfl,_,rfl,.inl ⟨rfl,Q0y (fun _=>rfl) _⟩⟩,trivial⟩
theorem cloneI_nil:PureN Tryz.prog gt0 345 [.sl 0 1 []] (.sl 0 1 []):=by
 refine PureN.of_w2 (c:=_) Tryz.func345 rfl (by kernel_rfl) rfl ?_;simp only [Tryz.f345,List.replicate,List.length_cons,List.length_nil,Nat.reduceAdd,Nat.reduceSub,List.cons_append,List.nil_append]
 (repeat ((try with_reducible refine W.step (b:=false) ?_);simp (decide:=true) only [go_sem,↓reduceIte,Nat.reduceAdd,Nat.reduceSub]))
 intro b _
 cases b
 ·(repeat ((try with_reducible refine W.step (b:=false) ?_);simp (decide:=true) only [go_sem,↓reduceIte,Nat.reduceAdd,Nat.reduceSub]))
  exact postV.of (Q0a _ (.inr rfl) rfl (SealTo.gs (b:=0) (o:=0) (k:=0) (cs:=[]) rfl (Nat.le_refl _) (by simp)))
 ·(repeat ((try with_reducible refine W.step (b:=false) ?_);simp (decide:=true) only [go_sem,↓reduceIte,Nat.reduceAdd,Nat.reduceSub]))
  exact ⟨.inr rfl,_,VS.weak (l':=[aN,aN,(.sl 0 1 []),aN,aN,aN,aN,aN]) (m':=[]) ⟨_,_,rfl,wkA.any _,_,_,rfl,wkA.any _,_,_,rfl,wkA.nil 1,_,_,rfl,wkA.any _,_,_,rfl,wkA.any _,_,_,rfl,wkA.any _,_,_,rfl,wkA.any _,_,_,rfl,wkA.any _,rfl⟩ trivial,Q0a _ (.inr rfl) rfl (.plain rfl)⟩
theorem set_self {m:ML} {b c:Nat} {k:Blk} (hb:getL m b=some k):(if b=c then (getL m c).map (fun _=>k) else getL m c)=getL m c:=by
 by_cases h:b=c
 ·subst h;rw [if_pos rfl,hb];rfl
 ·rw [if_neg h]
theorem setL_set (m:ML) (b:Nat) (k k':Blk):setL (setL m b k) b k'=setL m b k':=by
 induction m with
 | nil=>rfl
 | cons p m ih =>
   obtain ⟨d,x⟩:=p
   by_cases h:d=b
   ·simp [setL,h]
   ·simp [setL,h,ih]
theorem putZ (arr:List Int) (i:Nat) (v:Int) (h:i<arr.length):(arr.flatMap encZ).take i++.g (.int .i64 v)::(arr.flatMap encZ).drop (i+1)=(arr.set i v).flatMap encZ:=by
 have e:∀ l:List Int,l.flatMap encZ=l.map fun x=>AV.g (.int .i64 x):=by
  intro l
  induction l with
  | nil=>rfl
  | cons x l ih=>rw [List.flatMap_cons,ih];rfl
 rw [put_set (by rw [lenZ];exact h),e,e,List.map_set]
theorem mapZ (l:List Int):l.flatMap encZ=l.map fun x=>AV.g (.int .i64 x):=by
 induction l with
 | nil=>rfl
 | cons x l ih=>rw [List.flatMap_cons,ih];rfl
theorem filt_not_hit {pr:Int→Bool}:∀ {l:List Int} {k:Nat},(∀ x∈l.take k,pr x=false)→(l.take k).filter (fun x=>!pr x)=l.take k:=fun h=>List.filter_eq_self.2 fun x hx=>by rw [h x hx];rfl
theorem idx_first {α:Type} {pr:α→Bool} {l:List α} {k:Nat} (hk:k<l.length) (h:idxL pr l=(k:Int)):pr l[k]=true∧∀ x∈l.take k,pr x=false:=by
 unfold idxL at h
 cases hf:l.findIdx? pr with
 | none=>rw [hf] at h;simp only at h;omega
 | some j =>
   rw [hf] at h;obtain rfl:j=k:=by simp only at h;omega
   rw [List.findIdx?_eq_some_iff_getElem] at hf;obtain ⟨_,h1,h2⟩:=hf;refine ⟨h1,fun x hx=>?_⟩;rw [List.mem_take_iff_getElem] at hx;obtain ⟨i,hi,rfl⟩:=hx;have:=h2 i (by omega);simpa using this
theorem zeroZ:∀ k:Nat,zerosA [.int .i64 0] k=(List.replicate k (0:Int)).flatMap encZ
 | 0=>rfl
 | k+1=>by rw [zerosA,zeroZ k,List.replicate_succ,List.flatMap_cons];rfl
theorem ez_ints:elemZ Tryz.prog 27=[.int .i64 0]:=by kernel_rfl
theorem sz_int:szO Tryz.prog 3=some 1:=by kernel_rfl
theorem sz_str:szO Tryz.prog 9=some 1:=by kernel_rfl
theorem sz_bool:szO Tryz.prog 4=some 1:=by kernel_rfl
attribute [go_sem] ez_ints sz_int sz_str sz_bool
def delZ (pr:Int→Bool) (l:List Int):List AV:=((l.filter fun x=>!pr x)++List.replicate (l.length - (l.filter fun x=>!pr x).length) 0).flatMap encZ
set_option maxRecDepth 100000 in
set_option maxHeartbeats 4000000 in
theorem delFI_m (l:List Int) (hl:l.length≤1000000) (pr:Int→Bool) (g:Nat) (caps:List AV) (m:ML) (n b K:Nat) (hb:getL m b=some (.cells (l.flatMap encZ)))
 (hc:∀ (cs:List AV) (x:Int),x∈l→CallM Tryz.prog gt0 [] (setL m b (.cells cs)) n g (.g (.int .i64 x)::caps) (.g (.bool (pr x))) (setL m b (.cells cs)) n) :
 CallM Tryz.prog gt0 [] m n 344 [.gs b 0 l.length 1 K,.fn (.func g) [] caps] (.gs b 0 (l.filter fun x=>!pr x).length 1 K) (setL m b (.cells (delZ pr l))) n:=by
 have hset:setL m b (.cells (l.flatMap encZ))=setL m b (.cells (l.flatMap encZ)):=rfl;have hg:∀ k,getL (setL m b k) b=some k:=fun k=>by rw [Q2g,if_pos rfl,hb];rfl
 have hs:=setL_set m b
 have hv:VS gt0 ⟨[],memL m,n⟩ (stL ([.gs b 0 l.length 1 K,.fn (.func g) [] caps]++List.replicate 40 (.g undef)) m n) (stL ([.gs b 0 l.length 1 K,.fn (.func g) [] caps]++List.replicate 40 (.g undef)) (setL m b (.cells (l.flatMap encZ))) n) :=
  VS.same (Nat.le_refl _) (fun c=>by rw [Q2g];exact set_self hb) (by simp [leL])
 refine Q0m (c:=_) Tryz.func344 rfl (by kernel_rfl) ?_;simp only [Tryz.f344,List.length_cons,List.length_nil,Nat.reduceAdd,Nat.reduceSub];refine W.vs hv ?_;simp only [List.replicate,List.cons_append,List.nil_append];have HI:=idxFI_m l hl pr g caps (setL m b (.cells (l.flatMap encZ))) n (.gs b 0 l.length 1 K) (.inr ⟨b,K,rfl,hg _⟩) (fun k hk=>hc _ _ (List.getElem_mem hk))
 (repeat ((try with_reducible refine W.step (b:=false) ?_);simp (decide:=true) only [go_sem,↓reduceIte,Nat.reduceAdd,Nat.reduceSub]))
 refine AtCall.mem HI ?_;clear HI;rcases find_idx pr l with ⟨h1,h2⟩ | ⟨i0,hi0,h1,h2⟩
 ·rw [h1]
  (repeat ((try with_reducible refine W.step (b:=false) ?_);simp (decide:=true) only [go_sem,↓reduceIte,Nat.reduceAdd,Nat.reduceSub]))
  have hall:(l.filter fun x=>!pr x)=l:=by
   rw [List.find?_eq_none] at h2;exact List.filter_eq_self.2 fun x hx=>by have:=h2 x hx;simp at this;rw [this];rfl
  have hz:delZ pr l=l.flatMap encZ:=by unfold delZ;rw [hall,Nat.sub_self];simp
  rw [hall,hz];exact ⟨.inr rfl,[aN,aN,aN,aN,(.gs b 0 l.length 1 K),aN,aN,aN,aN,aN,aN,aN,aN,aN,aN,aN,aN,aN,aN,aN,aN,aN,aN,aN,aN,aN,aN,aN,aN,aN,aN,aN,aN,aN,aN,aN,aN,aN,aN,aN,aN,aN],VS.tm (by simp [leL]),rfl⟩
 ·rw [h1]
  have fi:((i0:Int)=-1)=False:=eq_false (by omega);obtain ⟨hp0,hp1⟩:=idx_first hi0 h1;have hk0:(l.take (i0+1)).filter (fun x=>!pr x)=l.take i0:=by
   rw [List.take_succ_eq_append_getElem hi0,List.filter_append,filt_not_hit hp1,List.filter_cons,hp0];simp
  (repeat ((try with_reducible refine W.step (b:=false) ?_);simp (decide:=true) only [go_sem,↓reduceIte,Nat.reduceAdd,Nat.reduceSub,fi]))
  refine W.loop (s1:=stL [(.gs b 0 l.length 1 K),(.fn (.func g) [] caps),aN,aN,aN,(.g (.int .i64 (((l.take (i0+1)).filter (fun x=>!pr x)).length:Int))),(.g (.int .i64 ((i0+1:Nat):Int))),aN,aN,aN,aN,aN,aN,aN,aN,aN,aN,aN,aN,aN,aN,aN,aN,aN,aN,aN,aN,aN,aN,aN,aN,aN,aN,aN,aN,aN,aN,aN,aN,aN,aN,aN] (setL m b (.cells (l.flatMap encZ))) n)
   (fun (q:Nat×List Int) t=>((l.take q.1).filter (fun x=>!pr x)).length<q.1∧q.1≤l.length∧q.2.length=l.length∧q.2.take ((l.take q.1).filter (fun x=>!pr x)).length=(l.take q.1).filter (fun x=>!pr x)∧q.2.drop q.1=l.drop q.1 ∧
     t=stL [(.gs b 0 l.length 1 K),(.fn (.func g) [] caps),aN,aN,aN,(.g (.int .i64 (((l.take q.1).filter (fun x=>!pr x)).length:Int))),(.g (.int .i64 (q.1:Int))),aN,aN,aN,aN,aN,aN,aN,aN,aN,aN,aN,aN,aN,aN,aN,aN,aN,aN,aN,aN,aN,aN,aN,aN,aN,aN,aN,aN,aN,aN,aN,aN,aN,aN,aN] (setL m b (.cells (q.2.flatMap encZ))) n)
   (fun q=>l.length - q.1) (i0+1,l) ⟨by rw [hk0];simp;omega,by omega,rfl,by rw [hk0,List.length_take,Nat.min_eq_left (by omega)],rfl,rfl⟩ ?_ ?_
  ·rw [hk0,up1 (by omega)]
   have:(l.take i0).length=i0:=by simp;omega
   rw [this];exact VS.tm (by simp [leL])
  rintro ⟨j,arr⟩ t ⟨q1,q2,q3,q4,q5,rfl⟩;simp only at q1 q2 q3 q4 q5;have hkeep:∀ (j:Nat) (h:j<l.length),(l.take (j+1)).filter (fun x=>!pr x)=(l.take j).filter (fun x=>!pr x)++if pr l[j] then [] else [l[j]]:=fun j h=>by
   rw [List.take_succ_eq_append_getElem h,List.filter_append]
   congr 1
   cases hx:pr l[j] <;> simp [hx]
  by_cases hlt:j<l.length
  ·have hj:(arr.flatMap encZ)[j]?=some (.g (.int .i64 l[j])):=by
    have e:arr[j]?=l[j]?:=by
     have:=congrArg (fun x:List Int=>x[0]?) q5;simpa using this
    rw [mapZ,List.getElem?_map,e,List.getElem?_eq_getElem hlt];rfl
   (repeat ((try with_reducible refine W.step (b:=false) ?_);simp (decide:=true) only [go_sem,↓reduceIte,Nat.reduceAdd,Nat.reduceSub,hlt,hg,hj]))
   refine AtCall.mem (hc _ _ (List.getElem_mem hlt)) ?_;have hk2:=hkeep j hlt
   cases hx:pr l[j] with
   | true =>
     rw [hx] at hk2;simp only [if_true,List.append_nil] at hk2
     (repeat ((try with_reducible refine W.step (b:=false) ?_);simp (decide:=true) only [go_sem,↓reduceIte,Nat.reduceAdd,Nat.reduceSub]))
     refine ⟨(j+1,arr),_,⟨by simp only [hk2];omega,hlt,q3,by simp only [hk2];exact q4,?_,rfl⟩,by show l.length - (j+1)<l.length - j;omega,?_⟩
     ·have:=congrArg (List.drop 1) q5
      simpa [List.drop_drop] using this
     ·simp only [hk2]
      rw [up1 (by omega)];exact VS.tm (by simp [leL])
   | false =>
     rw [hx] at hk2;simp only [Bool.false_eq_true,if_false] at hk2;generalize hi:((l.take j).filter (fun x=>!pr x)).length=i at *;have hil:i<l.length:=by omega
     have hfit:i+1≤l.length:=hil;have hput:=putZ arr i l[j] (by omega)
     (repeat ((try with_reducible refine W.step (b:=false) ?_);simp (decide:=true) only [go_sem,↓reduceIte,Nat.reduceAdd,Nat.reduceSub,hg,hil,q3,hfit,hs,hput]))
     refine ⟨(j+1,arr.set i l[j]),_,⟨?_,hlt,by simp [q3],?_,?_,rfl⟩,by show l.length - (j+1)<l.length - j;omega,?_⟩
     ·simp only [hk2,List.length_append,List.length_singleton,hi];omega
     ·simp only [hk2,List.length_append,List.length_singleton,hi]
      rw [List.take_succ_eq_append_getElem (by rw [List.length_set];omega),List.getElem_set_self,List.take_set_of_le (Nat.le_refl _),q4]
     ·have:=congrArg (List.drop 1) q5
      simp only;rw [List.drop_set_of_lt (by omega)];simpa [List.drop_drop] using this
     ·simp only [hk2,List.length_append,List.length_singleton,hi]
      rw [up1 (by omega),up1 (by omega)];exact VS.tm (by simp [leL])
  ·obtain rfl:j=l.length:=by omega
   rw [List.take_length] at *;generalize hi:(l.filter (fun x=>!pr x)).length=i at *;have f1:i≤l.length:=by omega
   have f2:0<l.length - i:=by omega
   have f3:i+(l.length - i)≤l.length:=by omega
   have f4:=cellZ (List.replicate (l.length - i) 0);rw [←zeroZ] at f4
   (repeat ((try with_reducible refine W.step (b:=false) ?_);simp (decide:=true) only [go_sem,↓reduceIte,Nat.reduceAdd,Nat.reduceSub,hlt,hg,f1,f2,f3,q3,f4,hs]))
   have hi2:i≤arr.length:=by omega
   have hcs:(arr.flatMap encZ).take i++(zerosA [Value.int .i64 0] (l.length - i)++(arr.flatMap encZ).drop (i+(zerosA [Value.int .i64 0] (l.length - i)).length))=delZ pr l:=by
    rw [zeroZ,lenZ,List.length_replicate,List.drop_of_length_le (by rw [lenZ];omega),List.append_nil];unfold delZ;rw [hi,List.flatMap_append,←q4,mapZ arr,mapZ (arr.take i),List.map_take]
   rw [hcs];exact ⟨.inr rfl,[aN,aN,aN,aN,(.gs b 0 i 1 K),aN,aN,aN,aN,aN,aN,aN,aN,aN,aN,aN,aN,aN,aN,aN,aN,aN,aN,aN,aN,aN,aN,aN,aN,aN,aN,aN,aN,aN,aN,aN,aN,aN,aN,aN,aN,aN],VS.tm (by simp [leL]),rfl⟩
set_option maxRecDepth 100000 in
set_option maxHeartbeats 4000000 in
theorem delFI_nil (g:Nat) (caps:List AV) (m:ML) (n:Nat):CallM Tryz.prog gt0 [] m n 344 [.sl 0 1 [],.fn (.func g) [] caps] (.sl 0 1 []) m n:=by
 have HI:=idxFI_m [] (by simp) (fun _=>true) g caps m n (.sl 0 1 []) (.inl ⟨rfl,trivial⟩) (fun k hk=>by simp at hk);refine Q0m (c:=_) Tryz.func344 rfl (by kernel_rfl) ?_;simp only [Tryz.f344,List.replicate,List.length_cons,List.length_nil,Nat.reduceAdd,Nat.reduceSub,List.cons_append,List.nil_append]
 (repeat ((try with_reducible refine W.step (b:=false) ?_);simp (decide:=true) only [go_sem,↓reduceIte,Nat.reduceAdd,Nat.reduceSub]))
 refine AtCall.mem HI ?_;have e:idxL (fun _:Int=>true) []=-1:=rfl;rw [e]
 (repeat ((try with_reducible refine W.step (b:=false) ?_);simp (decide:=true) only [go_sem,↓reduceIte,Nat.reduceAdd,Nat.reduceSub]))
 exact ⟨.inr rfl,[aN,aN,aN,aN,(.sl 0 1 []),aN,aN,aN,aN,aN,aN,aN,aN,aN,aN,aN,aN,aN,aN,aN,aN,aN,aN,aN,aN,aN,aN,aN,aN,aN,aN,aN,aN,aN,aN,aN,aN,aN,aN,aN,aN,aN],VS.tm (by simp [leL]),rfl⟩
theorem nmZ (S:Nat→Prop):∀ l:List Int,nmL S (l.flatMap encZ)
 | []=>trivial
 | _::l=>⟨trivial,nmZ S l⟩
theorem delZ_nm (S:Nat→Prop) (pr:Int→Bool) (l:List Int):nmL S (delZ pr l):=nmZ S _
theorem kinCl_m (p:List Nod) (x:Int) (m:ML) (n q:Nat) (hq:getL m q=some (.cells [.sl p.length 5 (p.flatMap encNd)])):CallM Tryz.prog gt0 [] m n 346 [.g (.int .i64 x),.ptr q 0] (.g (.bool (!elemB p x))) m n:=by
 refine Q0m (c:=_) Tryz.func346 rfl (by kernel_rfl) ?_;simp only [Tryz.f346,List.replicate,List.length_cons,List.length_nil,Nat.reduceAdd,Nat.reduceSub,List.cons_append,List.nil_append]
 (repeat ((try with_reducible refine W.step (b:=false) ?_);simp (decide:=true) only [go_sem,↓reduceIte,Nat.reduceAdd,Nat.reduceSub,hq]))
 refine AtCall.mk (Q3s p x) ?_
 (repeat ((try with_reducible refine W.step (b:=false) ?_);simp (decide:=true) only [go_sem,↓reduceIte,Nat.reduceAdd,Nat.reduceSub]))
 exact ⟨.inr rfl,[aN,aN,aN,(.g (.bool (!elemB p x))),aN,aN,aN,aN],VS.tm (by simp [leL]),rfl⟩
theorem at_nat {p:List Nod} {n:Int} (h:elemB p n=true):∃ k:Nat,n=(k:Int)∧∃ hk:k<p.length,ndAt p n=p[k]:=by
 unfold elemB at h;simp only [Bool.and_eq_true,decide_eq_true_eq] at h;obtain ⟨k,rfl⟩:∃ k:Nat,n=k:=⟨n.toNat,by omega⟩;exact ⟨k,rfl,by omega,Q0o (by omega)⟩
set_option maxRecDepth 100000 in
set_option maxHeartbeats 4000000 in
theorem kin_p (p:List Nod) (n:Int) (hp:OkPg p):PureN Tryz.prog gt0 311 [.sl p.length 5 (p.flatMap encNd),.g (.int .i64 n)] (.sl (kinM p n).length 1 ((kinM p n).flatMap encZ)):=by
 refine PureN.of_w2 (c:=_) Tryz.func311 rfl (by kernel_rfl) rfl ?_;simp only [Tryz.f311,List.replicate,List.length_cons,List.length_nil,Nat.reduceAdd,Nat.reduceSub,List.cons_append,List.nil_append]
 (repeat ((try with_reducible refine W.step (b:=false) ?_);simp (decide:=true) only [go_sem,↓reduceIte,Nat.reduceAdd,Nat.reduceSub];try with_reducible refine drawn hmix (by kernel_rfl) ?_))
 refine AtCallQ.mk (Q3s p n) ?_
 cases he:elemB p n with
 | false =>
   have hk:kinM p n=[]:=by unfold kinM;rw [if_neg (by rw [he];simp)]
   rw [hk]
   (repeat ((try with_reducible refine W.step (b:=false) ?_);simp (decide:=true) only [go_sem,↓reduceIte,Nat.reduceAdd,Nat.reduceSub];try with_reducible refine drawn hmix (by kernel_rfl) ?_))
   exact postV_nil 1 _ (.inr rfl) rfl
 | true =>
   obtain ⟨k,rfl,hk,hnd⟩:=at_nat he;have r:=rowNd hk
   by_cases h0:p[k].up<0
   ·have hkin:kinM p k=[]:=by unfold kinM;rw [if_neg (by rw [hnd];omega)]
    have f0:=eq_true h0;rw [hkin]
    (repeat ((try with_reducible refine W.step (b:=false) ?_);simp (decide:=true) only [go_sem,↓reduceIte,Nat.reduceAdd,Nat.reduceSub,hk,r,f0];try with_reducible refine drawn hmix (by kernel_rfl) ?_))
    exact postV_nil 1 _ (.inr rfl) rfl
   by_cases h1:(p.length:Int)≤p[k].up
   ·have hkin:kinM p k=[]:=by unfold kinM;rw [if_neg (by rw [hnd];omega)]
    have f0:=eq_false h0;have f1:=eq_true h1;rw [hkin]
    (repeat ((try with_reducible refine W.step (b:=false) ?_);simp (decide:=true) only [go_sem,↓reduceIte,Nat.reduceAdd,Nat.reduceSub,hk,r,f0,f1];try with_reducible refine drawn hmix (by kernel_rfl) ?_))
    exact postV_nil 1 _ (.inr rfl) rfl
   have f0:=eq_false h0;have f1:=eq_false h1;obtain ⟨u,hu⟩:∃ u:Nat,p[k].up=u:=⟨p[k].up.toNat,by omega⟩;have hul:u<p.length:=by omega
   have r2:=rowNd hul;have hkin:kinM p k=p[u].kids.filter (elemB p):=by
    unfold kinM;rw [if_pos ⟨he,by rw [hnd];omega,by rw [hnd];omega⟩,hnd,hu,Q0o hul]
   rw [hkin];rw [hu] at r f0 f1;have hkl:=hp.kids _ (List.getElem_mem hul)
   by_cases hnil:p[u].kids=[]
   ·rw [hnil] at r2 ⊢
    (repeat ((try with_reducible refine W.step (b:=true) ?_);simp (decide:=true) only [go_sem,↓reduceIte,Nat.reduceAdd,Nat.reduceSub,hk,hul,r,r2,f0,f1];(try with_reducible refine drawn hmix (by kernel_rfl) ?_);try with_reducible refine ⟨by kernel_rfl,?_⟩))
    refine AtCallD.mk cloneI_nil ?_
    (repeat ((try with_reducible refine W.step (b:=true) ?_);simp (decide:=true) only [go_sem,↓reduceIte,Nat.reduceAdd,Nat.reduceSub];(try with_reducible refine drawn hmix (by kernel_rfl) ?_);try with_reducible refine ⟨by kernel_rfl,?_⟩))
    refine AtCallD.mem (CallM.subD (m0:=[(0,.cells [.sl p.length 5 (p.flatMap encNd)])]) (delFI_nil 346 [.ptr 0 0] _ 1) ⟨Nat.le_refl _,by simp [getL,nmB,nmL,nmA],by simp [nmL,nmA],by simp [nmB,nmL,nmA],by simp [nmA],by simp⟩) ?_
    (repeat ((try with_reducible refine W.step (b:=true) ?_);simp (decide:=true) only [go_sem,↓reduceIte,Nat.reduceAdd,Nat.reduceSub];(try with_reducible refine drawn hmix (by kernel_rfl) ?_);try with_reducible refine ⟨by kernel_rfl,?_⟩))
    exact postV.of (Q0a _ (.inr rfl) rfl (.plain rfl))
   ·(repeat ((try with_reducible refine W.step (b:=true) ?_);simp (decide:=true) only [go_sem,↓reduceIte,Nat.reduceAdd,Nat.reduceSub,hk,hul,r,r2,f0,f1];(try with_reducible refine drawn hmix (by kernel_rfl) ?_);try with_reducible refine ⟨by kernel_rfl,?_⟩))
    refine AtCallD.mem (CallD.new (cloneI_m p[u].kids hkl hnil) (by simp [noIdsL,noIds]) (Q0y (fun _=>rfl) _)) ?_
    (repeat ((try with_reducible refine W.step (b:=true) ?_);simp (decide:=true) only [go_sem,↓reduceIte,Nat.reduceAdd,Nat.reduceSub];(try with_reducible refine drawn hmix (by kernel_rfl) ?_);try with_reducible refine ⟨by kernel_rfl,?_⟩))
    refine AtCallD.mem (CallM.subD (m0:=[(1,.cells (p[u].kids.flatMap encZ)),(0,.cells [.sl p.length 5 (p.flatMap encNd)])]) (delFI_m p[u].kids hkl (fun x=>!elemB p x) 346 [.ptr 0 0] _ 2 1 _ rfl fun cs x _=>kinCl_m p x _ 2 0 (by simp [setL,getL])) ⟨Nat.le_refl _,by simp [getL,nmB,nmL,nmA,nmZ],by simp [nmL,nmA],by simp [setL,nmB,nmL,nmA,delZ_nm],by simp [nmA],by simp⟩) ?_;have hnn:(p[u].kids.filter fun x=>!(!elemB p x))=p[u].kids.filter (elemB p):=by simp
    have htk:((delZ (fun x=>!elemB p x) p[u].kids).drop 0).take ((p[u].kids.filter (elemB p)).length*1)=(p[u].kids.filter (elemB p)).flatMap encZ:=by
     unfold delZ;rw [hnn,Nat.mul_one,List.drop_zero,List.flatMap_append,List.take_append_of_le_length (by rw [lenZ];exact Nat.le_refl _),takeZ]
    have hfit:0+(p[u].kids.filter (elemB p)).length*1≤(delZ (fun x=>!elemB p x) p[u].kids).length:=by
     unfold delZ;rw [hnn,lenZ,List.length_append];omega
    rw [hnn]
    (repeat ((try with_reducible refine W.step (b:=true) ?_);simp (decide:=true) only [go_sem,↓reduceIte,Nat.reduceAdd,Nat.reduceSub];(try with_reducible refine drawn hmix (by kernel_rfl) ?_);try with_reducible refine ⟨by kernel_rfl,?_⟩))
    have hs:=SealTo.gs (m:=[(1,.cells (delZ (fun x=>!elemB p x) p[u].kids)),(0,.cells [.sl p.length 5 (p.flatMap encNd)])]) (b:=1) (c:=p[u].kids.length) rfl hfit (fun a ha=>by
     rw [htk] at ha;obtain ⟨x,-,hx⟩:=List.mem_flatMap.1 ha
     simp [encZ] at hx;subst hx;rfl)
    rw [htk] at hs;exact postV.of (Q0a _ (.inr rfl) rfl hs)
end Go.Proofs.YtabliahkhafddaaGreat
end
