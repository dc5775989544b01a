/- What is small: pages, states, selectors: by walks over shapes. -/
import Derived.Test.YtabliahkhafddaaGreatLc7
import Derived.Test.YtabliahkhafddaaGreatLd4
import Derived.IntWalk
import Derived.Test.YtabliahkhafddaaGreatLd0
import Derived.Test.YtabliahkhafddaaGreatLc8
import Derived.Lib.OthersKept
import Derived.Lib.TrimUEq
import Derived.Lib.MapLaws
import Derived.Test.YtabliahkhafddaaGreatLd1
import Derived.Sort.OwnSorted
set_option linter.unusedSimpArgs false
noncomputable section
namespace Go.Proofs.YtabliahkhafddaaGreat
open Go.RowKit Go.Ev
open Go.Ev.AV renaming any→aN
abbrev gt0:GTab:=fun _=>none
theorem hmix:Tryz.prog.follows .mixedOrders=true:=by kernel_rfl
theorem ag_int:aggO Tryz.prog 3=some (false,1):=by kernel_rfl
theorem ag_bool:aggO Tryz.prog 4=some (false,1):=by kernel_rfl
theorem ag_str:aggO Tryz.prog 9=some (false,1):=by kernel_rfl
theorem ag_strs:aggO Tryz.prog 46=some (false,1):=by kernel_rfl
theorem ag_vals:aggO Tryz.prog 63=some (false,1):=by kernel_rfl
theorem ag_items:aggO Tryz.prog 54=some (false,1):=by kernel_rfl
theorem ag_cxs:aggO Tryz.prog 42=some (false,1):=by kernel_rfl
theorem ag_decls:aggO Tryz.prog 62=some (false,1):=by kernel_rfl
theorem ag_parts:aggO Tryz.prog 37=some (false,1):=by kernel_rfl
theorem ag_simps:aggO Tryz.prog 71=some (false,1):=by kernel_rfl
theorem ag_item:aggO Tryz.prog 65=some (true,8):=by kernel_rfl
theorem ag_tok:aggO Tryz.prog 191=some (true,3):=by kernel_rfl
theorem ag_val:aggO Tryz.prog 193=some (true,5):=by kernel_rfl
theorem ag_cx:aggO Tryz.prog 39=some (true,2):=by kernel_rfl
theorem ag_decl:aggO Tryz.prog 75=some (true,3):=by kernel_rfl
theorem ag_part:aggO Tryz.prog 73=some (true,2):=by kernel_rfl
theorem ag_simp:aggO Tryz.prog 141=some (true,6):=by kernel_rfl
theorem el_strs:elemO Tryz.prog 46=some 1:=by kernel_rfl
theorem el_vals:elemO Tryz.prog 63=some 5:=by kernel_rfl
theorem el_items:elemO Tryz.prog 54=some 8:=by kernel_rfl
theorem el_cxs:elemO Tryz.prog 42=some 2:=by kernel_rfl
theorem el_decls:elemO Tryz.prog 62=some 3:=by kernel_rfl
theorem el_parts:elemO Tryz.prog 37=some 2:=by kernel_rfl
theorem el_simps:elemO Tryz.prog 71=some 6:=by kernel_rfl
theorem fl_val0:fldO Tryz.prog 193 0=some (0,3):=by kernel_rfl
theorem fl_val1:fldO Tryz.prog 193 1=some (1,191):=by kernel_rfl
theorem fl_val2:fldO Tryz.prog 193 2=some (4,63):=by kernel_rfl
theorem fl_tok0:fldO Tryz.prog 191 0=some (0,3):=by kernel_rfl
theorem fl_tok1:fldO Tryz.prog 191 1=some (1,9):=by kernel_rfl
theorem fl_tok2:fldO Tryz.prog 191 2=some (2,3):=by kernel_rfl
theorem fl_decl0:fldO Tryz.prog 75 0=some (0,9):=by kernel_rfl
theorem fl_decl1:fldO Tryz.prog 75 1=some (1,63):=by kernel_rfl
theorem fl_decl2:fldO Tryz.prog 75 2=some (2,4):=by kernel_rfl
theorem fl_item0:fldO Tryz.prog 65 0=some (0,3):=by kernel_rfl
theorem fl_item1:fldO Tryz.prog 65 1=some (1,42):=by kernel_rfl
theorem fl_item2:fldO Tryz.prog 65 2=some (2,62):=by kernel_rfl
theorem fl_item3:fldO Tryz.prog 65 3=some (3,46):=by kernel_rfl
theorem fl_item4:fldO Tryz.prog 65 4=some (4,3):=by kernel_rfl
theorem fl_item5:fldO Tryz.prog 65 5=some (5,3):=by kernel_rfl
theorem fl_item6:fldO Tryz.prog 65 6=some (6,63):=by kernel_rfl
theorem fl_item7:fldO Tryz.prog 65 7=some (7,54):=by kernel_rfl
theorem fl_cx0:fldO Tryz.prog 39 0=some (0,37):=by kernel_rfl
theorem fl_cx1:fldO Tryz.prog 39 1=some (1,9):=by kernel_rfl
theorem fl_part0:fldO Tryz.prog 73 0=some (0,3):=by kernel_rfl
theorem fl_part1:fldO Tryz.prog 73 1=some (1,71):=by kernel_rfl
theorem fl_simp0:fldO Tryz.prog 141 0=some (0,3):=by kernel_rfl
theorem fl_simp1:fldO Tryz.prog 141 1=some (1,9):=by kernel_rfl
theorem fl_simp2:fldO Tryz.prog 141 2=some (2,9):=by kernel_rfl
theorem fl_simp3:fldO Tryz.prog 141 3=some (3,3):=by kernel_rfl
theorem fl_simp4:fldO Tryz.prog 141 4=some (4,3):=by kernel_rfl
theorem fl_simp5:fldO Tryz.prog 141 5=some (5,71):=by kernel_rfl
theorem sz_item:szO Tryz.prog 65=some 8:=by kernel_rfl
theorem sz_part:szO Tryz.prog 73=some 2:=by kernel_rfl
theorem ze_item:zeroO Tryz.prog 65=some [.g (.int .i64 0),.g (.slice none 0 0),.g (.slice none 0 0),.g (.slice none 0 0),.g (.int .i64 0),.g (.int .i64 0),.g (.slice none 0 0),.g (.slice none 0 0)]:=by kernel_rfl
theorem ze_part:zeroO Tryz.prog 73=some [.g (.int .i64 0),.g (.slice none 0 0)]:=by kernel_rfl
theorem un_bool:Tryz.prog.underlying 4=some .bool:=by kernel_rfl
theorem eqg_tok:Tryz.prog.eqGuardType Tryz.prog.depth 191=false:=by kernel_rfl
attribute [go_sem] ag_int ag_bool ag_str ag_strs ag_vals ag_items ag_cxs ag_decls ag_parts ag_simps ag_item ag_tok ag_val ag_cx ag_decl ag_part ag_simp el_strs el_vals el_items el_cxs el_decls el_parts el_simps
 fl_val0 fl_val1 fl_val2 fl_tok0 fl_tok1 fl_tok2 fl_decl0 fl_decl1 fl_decl2 fl_item0 fl_item1 fl_item2 fl_item3 fl_item4 fl_item5 fl_item6 fl_item7 fl_cx0 fl_cx1 fl_part0 fl_part1 fl_simp0 fl_simp1 fl_simp2 fl_simp3 fl_simp4 fl_simp5
 sz_item sz_part ze_item ze_part un_bool eqg_tok
theorem up1 {k:Nat} (h:k<1000000000000000000):IntKind.i64.wrap ((k:Int)+1)=((k+1:Nat):Int):=by rw [IntWalk.i64_in _ (by omega)];push_cast;rfl
section
variable {α:Type}
theorem row_part (enc:α→List AV) (sz:Nat) (hsz:∀ x,(enc x).length=sz):∀ (l:List α) (k:Nat) (hk:k<l.length) (j c:Nat),j+c≤sz→((l.flatMap enc).drop (k*sz+j)).take c=((enc l[k]).drop j).take c
 | x::l,0,_,j,c,h=>by
   rw [List.flatMap_cons,Nat.zero_mul,Nat.zero_add,List.drop_append,List.take_append];have h1:c - (List.drop j (enc x)).length=0:=by rw [List.length_drop,hsz];omega
   rw [h1,List.take_zero,List.append_nil];rfl
 | x::l,k+1,hk,j,c,h=>by
   rw [List.flatMap_cons,List.drop_append,List.drop_of_length_le (by rw [hsz,Nat.succ_mul];omega),List.nil_append,hsz,show (k+1)*sz+j - sz=k*sz+j by rw [Nat.succ_mul];omega];exact row_part enc sz hsz l k (by simpa using hk) j c h
theorem row_len (enc:α→List AV) (sz:Nat) (hsz:∀ x,(enc x).length=sz):∀ (l:List α),(l.flatMap enc).length=l.length*sz
 | []=>by simp
 | x::l=>by rw [List.flatMap_cons,List.length_append,hsz,row_len enc sz hsz l,List.length_cons,Nat.succ_mul,Nat.add_comm]
theorem row_fit (enc:α→List AV) (sz:Nat) (hsz:∀ x,(enc x).length=sz) (l:List α) (k:Nat) (hk:k<l.length) {j c:Nat} (h:j+c≤sz):k*sz+j+c≤(l.flatMap enc).length:=by
 rw [row_len enc sz hsz];have:(k+1)*sz≤l.length*sz:=Nat.mul_le_mul_right sz hk;rw [Nat.succ_mul] at this;omega
end
theorem rowI {l:List Itm} {k:Nat} (hk:k<l.length):((l.flatMap encI).drop (k*8)).take 8=encI l[k]∧k*8+8≤(l.flatMap encI).length:=by
 have h2:=row_part encI 8 encI_len l k hk 0 8 (by decide);rw [Nat.add_zero,List.drop_zero,List.take_of_length_le (l:=encI l[k]) (by rw [encI_len];decide)] at h2;exact ⟨h2,row_fit encI 8 encI_len l k hk (j:=0) (by decide)⟩
end Go.Proofs.YtabliahkhafddaaGreat
namespace Go.Proofs.YtabliahkhafddaaGreat
open Go.RowKit Go.Ev
open Go.Ev.AV renaming any→aN
attribute [local go_sem] eq_self false_and and_false Bool.false_eq_true List.set_cons_succ List.set_cons_zero List.getD_cons_succ List.getD_cons_zero List.getElem?_cons_succ List.getElem?_cons_zero true_and and_true and_self Bool.not_true Bool.not_false Nat.add_zero Nat.zero_add Nat.mul_one Int.toNat_natCast Int.natCast_nonneg Int.ofNat_lt Option.bind_some Option.map_some List.map_cons List.map_nil decide_true decide_false BEq.rfl Bool.and_self Bool.and_true Bool.and_false beq_self_eq_true List.cons_append List.nil_append List.take_zero List.take_succ_cons List.take_nil List.drop_succ_cons List.drop_zero List.drop_nil List.append_nil List.length_cons List.length_nil List.all_cons List.all_nil Nat.le_refl Int.le_refl Option.map_none List.replicate_zero List.replicate_succ Nat.zero_mul Nat.sub_zero Nat.zero_le Nat.le_zero_eq Q1z Option.some_or Option.none_or Option.or_none Option.isSome_some Option.isSome_none Option.getD_some Option.getD_none Int.toNat_zero Int.natCast_zero Int.natCast_one Int.cast_ofNat_Int List.toList_toArray
structure Atr where
 name:ByteArray
 value:ByteArray
structure Nod where
 name:ByteArray
 attrs:List Atr
 text:ByteArray
 up:Int
 kids:List Int
def encA (a:Atr):List AV:=[.g (.string a.name),.g (.string a.value)]
def encZ (k:Int):List AV:=[.g (.int .i64 k)]
def encNd (x:Nod):List AV:=[.g (.string x.name),.sl x.attrs.length 2 (x.attrs.flatMap encA),.g (.string x.text),.g (.int .i64 x.up),.sl x.kids.length 1 (x.kids.flatMap encZ)]
theorem rowA {l:List Atr} {k:Nat} (hk:k<l.length):(l.flatMap encA)[k*2]?=some (.g (.string l[k].name))∧(l.flatMap encA)[k*2+1]?=some (.g (.string l[k].value))∧((l.flatMap encA).drop (k*2)).take 2=encA l[k]∧k*2+2≤(l.flatMap encA).length:=by
 have h:=flat_get encA 2 (fun _=>rfl) l k hk;have h2:=row_part encA 2 (fun _=>rfl) l k hk 0 2 (by decide);exact ⟨h 0 (by decide),h 1 (by decide),h2,row_fit encA 2 (fun _=>rfl) l k hk (j:=0) (by decide)⟩
theorem rowZ {l:List Int} {k:Nat} (hk:k<l.length):(l.flatMap encZ)[k]?=some (.g (.int .i64 l[k])):=by
 have:=flat_get encZ 1 (fun _=>rfl) l k hk 0 (by decide)
 rwa [Nat.mul_one,Nat.add_zero] at this
theorem rowNd {l:List Nod} {k:Nat} (hk:k<l.length):(l.flatMap encNd)[k*5]?=some (.g (.string l[k].name))∧(l.flatMap encNd)[k*5+1]?=some (.sl l[k].attrs.length 2 (l[k].attrs.flatMap encA))∧(l.flatMap encNd)[k*5+2]?=some (.g (.string l[k].text)) ∧
 (l.flatMap encNd)[k*5+3]?=some (.g (.int .i64 l[k].up))∧(l.flatMap encNd)[k*5+4]?=some (.sl l[k].kids.length 1 (l[k].kids.flatMap encZ)):=by
 have h:=flat_get encNd 5 (fun _=>rfl) l k hk;exact ⟨h 0 (by decide),h 1 (by decide),h 2 (by decide),h 3 (by decide),h 4 (by decide)⟩
theorem ag_attrs:aggO Tryz.prog 32=some (false,1):=by kernel_rfl
theorem ag_ints:aggO Tryz.prog 27=some (false,1):=by kernel_rfl
theorem ag_page:aggO Tryz.prog 23=some (false,1):=by kernel_rfl
theorem ag_node:aggO Tryz.prog 34=some (true,5):=by kernel_rfl
theorem ag_attr:aggO Tryz.prog 100=some (true,2):=by kernel_rfl
theorem el_page:elemO Tryz.prog 23=some 5:=by kernel_rfl
theorem el_attrs:elemO Tryz.prog 32=some 2:=by kernel_rfl
theorem el_ints:elemO Tryz.prog 27=some 1:=by kernel_rfl
theorem fl_nod0:fldO Tryz.prog 34 0=some (0,9):=by kernel_rfl
theorem fl_nod1:fldO Tryz.prog 34 1=some (1,32):=by kernel_rfl
theorem fl_nod2:fldO Tryz.prog 34 2=some (2,9):=by kernel_rfl
theorem fl_nod3:fldO Tryz.prog 34 3=some (3,3):=by kernel_rfl
theorem fl_nod4:fldO Tryz.prog 34 4=some (4,27):=by kernel_rfl
theorem fl_atr0:fldO Tryz.prog 100 0=some (0,9):=by kernel_rfl
theorem fl_atr1:fldO Tryz.prog 100 1=some (1,9):=by kernel_rfl
attribute [go_sem] ag_attrs ag_ints ag_page ag_node ag_attr el_page el_attrs el_ints fl_nod0 fl_nod1 fl_nod2 fl_nod3 fl_nod4 fl_atr0 fl_atr1
def nd0:Nod:=⟨⟨#[]⟩,[],⟨#[]⟩,0,[]⟩
def ndAt (p:List Nod) (n:Int):Nod:=p.getD n.toNat nd0
def elemB (p:List Nod) (n:Int):Bool:=decide (0≤n)&&(decide (n<p.length)&&!decide ((ndAt p n).name=⟨#[]⟩))
theorem Q0p {p:List Nod} {k:Nat} (hk:k<p.length):ndAt p (k:Int)=p[k]:=by
 unfold ndAt;rw [Int.toNat_natCast,List.getD_eq_getElem?_getD,List.getElem?_eq_getElem hk];rfl
set_option maxRecDepth 100000 in
set_option maxHeartbeats 4000000 in
theorem element_p (p:List Nod) (n:Int):PureN Tryz.prog gt0 87 [.sl p.length 5 (p.flatMap encNd),.g (.int .i64 n)] (.g (.bool (elemB p n))):=by
 refine PureN.of_w (c:=_) Tryz.func87 rfl (by kernel_rfl) rfl ?_;simp only [Tryz.f87,List.replicate,List.length_cons,List.length_nil,Nat.reduceAdd,Nat.reduceSub,List.cons_append,List.nil_append];unfold elemB
 by_cases h0:0≤n
 ·obtain ⟨k,rfl⟩:∃ k:Nat,n=k:=⟨n.toNat,by omega⟩
  by_cases hk:k<p.length
  ·have r:=rowNd hk
   rw [Q0p hk]
   by_cases hn:p[k].name=⟨#[]⟩
   ·have fn:=eq_true hn
    (repeat ((try with_reducible refine W.step (b:=false) ?_);simp (decide:=true) only [go_sem,↓reduceIte,Nat.reduceAdd,Nat.reduceSub,hk,r,fn]))
    exact Q0c _ (.inr rfl) rfl (.plain rfl)
   ·(repeat ((try with_reducible refine W.step (b:=false) ?_);simp (decide:=true) only [go_sem,↓reduceIte,Nat.reduceAdd,Nat.reduceSub,hk,r,hn]))
    exact Q0c _ (.inr rfl) rfl (.plain rfl)
  ·(repeat ((try with_reducible refine W.step (b:=false) ?_);simp (decide:=true) only [go_sem,↓reduceIte,Nat.reduceAdd,Nat.reduceSub,hk]))
   exact Q0c _ (.inr rfl) rfl (.plain rfl)
 ·(repeat ((try with_reducible refine W.step (b:=false) ?_);simp (decide:=true) only [go_sem,↓reduceIte,Nat.reduceAdd,Nat.reduceSub,h0]))
  exact Q0c _ (.inr rfl) rfl (.plain rfl)
set_option maxRecDepth 100000 in
set_option maxHeartbeats 4000000 in
theorem attrCl_m (x:Atr) (s:ByteArray):CallM Tryz.prog gt0 [] [(0,.cells [.g (.string s)])] 1 89 [.agg (encA x),.ptr 0 0] (.g (.bool (decide (x.name=s)))) [(0,.cells [.g (.string s)])] 1:=by
 refine callM_of_w (c:=_) Tryz.func89 rfl (by kernel_rfl) ?_;simp only [Tryz.f89,encA,List.replicate,List.length_cons,List.length_nil,Nat.reduceAdd,Nat.reduceSub,List.cons_append,List.nil_append]
 (repeat ((try with_reducible refine W.step (b:=false) ?_);simp (decide:=true) only [go_sem,↓reduceIte,Nat.reduceAdd,Nat.reduceSub]))
 exact ⟨.inr rfl,[aN,aN,aN,(.g (.bool (decide (x.name=s)))),aN,aN,aN,aN],VS.ren [] (by simp) (by simp) (Nat.le_refl _) (by simp only [go_sem,↓reduceIte,Nat.reduceAdd,Nat.reduceSub,Nat.reduceMul,Nat.reduceEqDiff,Nat.reduceLeDiff,Nat.reduceLT,Int.reduceLE,Int.reduceLT,Int.reduceToNat,Int.reduceEq]) ⟨⟨0,_,rfl,rfl,_,rfl,.inl ⟨rfl,rfl⟩⟩,trivial⟩,rfl⟩
def idxL {α:Type} (pr:α→Bool) (l:List α):Int:=match l.findIdx? pr with
 | some i=>i
 | none=>-1
theorem idxL_hit {α:Type} {pr:α→Bool} {l:List α} {k:Nat} (hk:k<l.length) (h:∀ x∈l.take k,pr x=false) (hp:pr l[k]=true):idxL pr l=(k:Int):=by
 have:l.findIdx? pr=some k:=by
  rw [List.findIdx?_eq_some_iff_getElem];refine ⟨hk,hp,fun j hj=>?_⟩;have hm:l[j]∈l.take k:=by
   rw [List.mem_take_iff_getElem];exact ⟨j,by omega,rfl⟩
  rw [h _ hm];decide
 unfold idxL;rw [this]
theorem idxL_none {α:Type} {pr:α→Bool} {l:List α} (h:∀ x∈l,pr x=false):idxL pr l=-1:=by
 have:l.findIdx? pr=none:=by rw [List.findIdx?_eq_none_iff];exact h
 unfold idxL;rw [this]
theorem take_next {α:Type} {pr:α→Bool} {l:List α} {k:Nat} (hk:k<l.length) (h:∀ x∈l.take k,pr x=false) (hp:pr l[k]=false):∀ x∈l.take (k+1),pr x=false:=by
 intro x hx;rw [List.take_succ_eq_append_getElem hk] at hx;rcases List.mem_append.1 hx with h1 | h1
 ·exact h x h1
 ·rw [List.mem_singleton.1 h1];exact hp
set_option maxRecDepth 100000 in
set_option maxHeartbeats 4000000 in
theorem attrIdx_m (l:List Atr) (s:ByteArray) (hl:l.length≤1000000):CallM Tryz.prog gt0 [] [(0,.cells [.g (.string s)])] 1 88 [.sl l.length 2 (l.flatMap encA),.fn (.func 89) [] [.ptr 0 0]] (.g (.int .i64 (idxL (fun x:Atr=>decide (x.name=s)) l))) [(0,.cells [.g (.string s)])] 1:=by
 refine callM_of_w (c:=_) Tryz.func88 rfl (by kernel_rfl) ?_;simp only [Tryz.f88,List.replicate,List.length_cons,List.length_nil,Nat.reduceAdd,Nat.reduceSub,List.cons_append,List.nil_append]
 (repeat ((try with_reducible refine W.step (b:=false) ?_);simp (decide:=true) only [go_sem,↓reduceIte,Nat.reduceAdd,Nat.reduceSub]))
 refine W.loop (s1:=stL [(.sl l.length 2 (l.flatMap encA)),(.fn (.func 89) [] [.ptr 0 0]),aN,aN,aN,aN,aN,(.g (.int .i64 (l.length:Int))),(.g (.int .i64 ((0:Nat):Int))),aN,aN,aN,aN,aN,aN,aN,aN,aN,aN] [(0,.cells [.g (.string s)])] 1)
  (fun (k:Nat) t=>k≤l.length∧(∀ x∈l.take k,decide (x.name=s)=false)∧t=stL [(.sl l.length 2 (l.flatMap encA)),(.fn (.func 89) [] [.ptr 0 0]),aN,aN,aN,aN,aN,(.g (.int .i64 (l.length:Int))),(.g (.int .i64 (k:Int))),aN,aN,aN,aN,aN,aN,aN,aN,aN,aN] [(0,.cells [.g (.string s)])] 1) (fun k=>l.length - k) 0 ⟨Nat.zero_le _,by simp,rfl⟩ (VS.tm (by simp [leL])) ?_
 rintro k t ⟨hk,he,rfl⟩
 by_cases hlt:k<l.length
 ·obtain ⟨-,-,r2,r3⟩:=rowA hlt
  (repeat ((try with_reducible refine W.step (b:=false) ?_);simp (decide:=true) only [go_sem,↓reduceIte,Nat.reduceAdd,Nat.reduceSub,hlt,r2,r3]))
  refine AtCall.mem (attrCl_m l[k] s) ?_
  by_cases hx:l[k].name=s
  ·have fx:=eq_true hx
   (repeat ((try with_reducible refine W.step (b:=false) ?_);simp (decide:=true) only [go_sem,↓reduceIte,Nat.reduceAdd,Nat.reduceSub,fx]))
   rw [idxL_hit hlt he (decide_eq_true hx)];exact ⟨.inr rfl,[aN,aN,aN,aN,(.g (.int .i64 (k:Int))),aN,aN,aN,aN,aN,aN,aN,aN,aN,aN,aN,aN,aN,aN],VS.tm (by simp [leL]),rfl⟩
  ·(repeat ((try with_reducible refine W.step (b:=false) ?_);simp (decide:=true) only [go_sem,↓reduceIte,Nat.reduceAdd,Nat.reduceSub,hx]))
   refine ⟨k+1,_,⟨by omega,take_next (pr:=fun x:Atr=>decide (x.name=s)) hlt he (decide_eq_false hx),rfl⟩,by show l.length - (k+1)<l.length - k;omega,VS.tm ?_⟩;rw [up1 (by omega)];simp [leL]
 ·(repeat ((try with_reducible refine W.step (b:=false) ?_);simp (decide:=true) only [go_sem,↓reduceIte,Nat.reduceAdd,Nat.reduceSub,hlt]))
  rw [idxL_none (fun x hx=>he x (by rw [List.take_of_length_le (by omega)];exact hx))];exact ⟨.inr rfl,[aN,aN,aN,aN,(.g (.int .i64 (-1))),aN,aN,aN,aN,aN,aN,aN,aN,aN,aN,aN,aN,aN,aN],VS.tm (by simp [leL]),rfl⟩
def atM (p:List Nod) (n:Int) (s:ByteArray):Option ByteArray:=if elemB p n=true then ((ndAt p n).attrs.find? fun x=>decide (x.name=s)).map (·.value) else none
theorem find_idx {α:Type} (pr:α→Bool) (l:List α):(idxL pr l=-1∧l.find? pr=none)∨∃ (k:Nat) (hk:k<l.length),idxL pr l=(k:Int)∧l.find? pr=some l[k]:=by
 cases h:l.findIdx? pr with
 | none =>
   refine .inl ⟨by unfold idxL;rw [h],?_⟩;rw [List.findIdx?_eq_none_iff] at h;rw [List.find?_eq_none];intro x hx;rw [h x hx];decide
 | some k =>
   refine .inr ⟨k,?_⟩;have h2:=h;rw [List.findIdx?_eq_some_iff_getElem] at h;obtain ⟨hk,hp,hj⟩:=h;refine ⟨hk,by unfold idxL;rw [h2],?_⟩;rw [List.find?_eq_some_iff_getElem];exact ⟨hp,k,hk,rfl,fun j hjk=>by have:=hj j hjk;simpa using this⟩
set_option maxRecDepth 100000 in
set_option maxHeartbeats 4000000 in
theorem attr_p (p:List Nod) (n:Int) (s:ByteArray) (hp:∀ x∈p,x.attrs.length≤1000000):PureN Tryz.prog gt0 44 [.sl p.length 5 (p.flatMap encNd),.g (.int .i64 n),.g (.string s)] (.tup [.g (.string ((atM p n s).getD ⟨#[]⟩)),.g (.bool (atM p n s).isSome)]):=by
 have HE:=element_p p n;refine PureN.of_w (c:=_) Tryz.func44 rfl (by kernel_rfl) rfl ?_;simp only [Tryz.f44,List.replicate,List.length_cons,List.length_nil,Nat.reduceAdd,Nat.reduceSub,List.cons_append,List.nil_append]
 (repeat ((try with_reducible refine W.step (b:=false) ?_);simp (decide:=true) only [go_sem,↓reduceIte,Nat.reduceAdd,Nat.reduceSub]))
 refine AtCall.mk HE ?_
 by_cases he:elemB p n=true
 ·have hat:atM p n s=((ndAt p n).attrs.find? fun x=>decide (x.name=s)).map (·.value):=if_pos he
  rw [he];obtain ⟨k,rfl⟩:∃ k:Nat,n=k:=⟨n.toNat,by simp [elemB] at he;omega⟩;have hk:k<p.length:=by simp [elemB] at he;omega
  rw [Q0p hk] at hat;have r:=rowNd hk;have hla:=hp _ (List.getElem_mem hk)
  (repeat ((try with_reducible refine W.step (b:=false) ?_);simp (decide:=true) only [go_sem,↓reduceIte,Nat.reduceAdd,Nat.reduceSub,hk,r]))
  refine AtCall.mem (attrIdx_m p[k].attrs s hla) ?_;rcases find_idx (fun x:Atr=>decide (x.name=s)) p[k].attrs with ⟨h1,h2⟩ | ⟨i,hi,h1,h2⟩
  ·rw [h1,hat,h2]
   (repeat ((try with_reducible refine W.step (b:=false) ?_);simp (decide:=true) only [go_sem,↓reduceIte,Nat.reduceAdd,Nat.reduceSub]))
   exact Q2w _ (.inr rfl) rfl rfl rfl rfl
  ·rw [h1,hat,h2]
   have ra:=rowA hi;have fi:((i:Int)<0)=False:=eq_false (by omega)
   (repeat ((try with_reducible refine W.step (b:=false) ?_);simp (decide:=true) only [go_sem,↓reduceIte,Nat.reduceAdd,Nat.reduceSub,hk,r,hi,ra,fi]))
   exact Q2w _ (.inr rfl) rfl rfl rfl rfl
 ·have hat:atM p n s=none:=if_neg he
  rw [hat,Bool.not_eq_true _ |>.mp he]
  (repeat ((try with_reducible refine W.step (b:=false) ?_);simp (decide:=true) only [go_sem,↓reduceIte,Nat.reduceAdd,Nat.reduceSub]))
  exact Q2w _ (.inr rfl) rfl rfl rfl rfl
theorem ag_uint:aggO Tryz.prog 162=some (false,1):=by kernel_rfl
theorem ag_u64:aggO Tryz.prog 244=some (false,1):=by kernel_rfl
theorem sz_u64:szO Tryz.prog 244=some 1:=by kernel_rfl
def bldR (P:Program) (t:TypeId):Option (List AV×Nat):=match (P.info? t).bind (·.zero),P.underlying t with
 | some z,some (.array _ e)=>match P.info? e with
   | some i=>some (z.cells.toList.map .g,i.size)
   | none=>none
 | _,_=>none
theorem evArr_eq {P:Program} {t:TypeId} {zs:List AV} {sz:Nat} (h:bldR P t=some (zs,sz)) (parts:List (Nat×AV)):evBuild P t parts=aggM (rowsL sz zs parts):=by
 unfold bldR at h;unfold evBuild
 split at h
 ·rename_i z k e h1 h2
  split at h
  ·rename_i i h3
   cases h
   simp only [h1,h2,h3,rowsL_eq]
   cases rowsL i.size (z.cells.toList.map .g) parts <;> rfl
  ·cases h
 ·cases h
theorem ik_u8:intK Tryz.prog 5=some .u8:=by kernel_rfl
theorem ik_u32:intK Tryz.prog 242=some .u32:=by kernel_rfl
theorem ik_uint:intK Tryz.prog 162=some .u64:=by kernel_rfl
theorem un_strB:Tryz.prog.underlying 9=some .string:=by kernel_rfl
attribute [go_sem] un_strB ag_uint ag_u64 sz_u64 ik_u8 ik_u32 ik_uint
set_option maxRecDepth 100000 in
set_option maxHeartbeats 4000000 in
def wordM (kind:Int) (name:ByteArray):ByteArray:=if kind=3 then ⟨#[35]⟩++name else if kind=4 then ⟨#[46]⟩++name else if kind=2 then ⟨#[60]⟩++name else ⟨#[]⟩
attribute [go_sem] appL newsA isSlice
theorem ag_rows:aggO Tryz.prog 50=some (false,1):=by kernel_rfl
theorem el_rows:elemO Tryz.prog 50=some 1:=by kernel_rfl
theorem ei_rows:elemI Tryz.prog 50=some (1,24,true):=by kernel_rfl
theorem ei_ints:elemI Tryz.prog 27=some (1,8,true):=by kernel_rfl
theorem ez_rows:elemZ Tryz.prog 50=[.slice none 0 0]:=by kernel_rfl
theorem sz_node:szO Tryz.prog 34=some 5:=by kernel_rfl
theorem sz_ints:szO Tryz.prog 27=some 1:=by kernel_rfl
theorem ze_node:zeroO Tryz.prog 34=some [.g (.string ⟨#[]⟩),.g (.slice none 0 0),.g (.string ⟨#[]⟩),.g (.int .i64 0),.g (.slice none 0 0)]:=by kernel_rfl
theorem un_ints:slOrStr (Tryz.prog.underlying 27)=true:=by kernel_rfl
attribute [go_sem] ag_rows el_rows ei_rows ei_ints ez_rows sz_node sz_ints ze_node un_ints
set_option maxRecDepth 100000 in
set_option maxHeartbeats 4000000 in
theorem equalI_p (xs ys:List Int) (hx:xs.length≤1000000) (hy:ys.length≤1000000):PureN Tryz.prog gt0 86 [.sl xs.length 1 (xs.flatMap encZ),.sl ys.length 1 (ys.flatMap encZ)] (.g (.bool (decide (xs=ys)))):=by
 refine PureN.of_w (c:=_) Tryz.func86 rfl (by kernel_rfl) rfl ?_;simp only [Tryz.f86,List.replicate,List.length_cons,List.length_nil,Nat.reduceAdd,Nat.reduceSub,List.cons_append,List.nil_append]
 by_cases hl:xs.length=ys.length
 ·have fl:((xs.length:Int)=(ys.length:Int))=True:=eq_true (by omega)
  (repeat ((try with_reducible refine W.step (b:=false) ?_);simp (decide:=true) only [go_sem,↓reduceIte,Nat.reduceAdd,Nat.reduceSub,fl];try with_reducible refine drawn hmix (by kernel_rfl) ?_))
  refine W.loop (s1:=stL [(.sl xs.length 1 (xs.flatMap encZ)),(.sl ys.length 1 (ys.flatMap encZ)),aN,aN,(.g (.bool false)),aN,aN,aN,aN,aN,aN,aN,(.g (.int .i64 (xs.length:Int))),(.g (.int .i64 ((0:Nat):Int))),aN,aN,aN,aN,aN,aN,aN,aN,aN,aN,aN,aN] [] 0)
   (fun (k:Nat) t=>k≤xs.length∧xs.take k=ys.take k∧t=stL [(.sl xs.length 1 (xs.flatMap encZ)),(.sl ys.length 1 (ys.flatMap encZ)),aN,aN,(.g (.bool false)),aN,aN,aN,aN,aN,aN,aN,(.g (.int .i64 (xs.length:Int))),(.g (.int .i64 (k:Int))),aN,aN,aN,aN,aN,aN,aN,aN,aN,aN,aN,aN] [] 0) (fun k=>xs.length - k) 0 ⟨Nat.zero_le _,by simp,rfl⟩ (VS.tm (by simp [leL])) ?_
  rintro k t ⟨hk,hq,rfl⟩
  by_cases hlt:k<xs.length
  ·have hlt2:k<ys.length:=by omega
   have r1:=rowZ hlt;have r2:=rowZ hlt2
   by_cases he:xs[k]=ys[k]
   ·have fe:=eq_true he
    (repeat ((try with_reducible refine W.step (b:=false) ?_);simp (decide:=true) only [go_sem,↓reduceIte,Nat.reduceAdd,Nat.reduceSub,hlt,hlt2,r1,r2,fe];try with_reducible refine drawn hmix (by kernel_rfl) ?_))
    refine ⟨k+1,_,⟨by omega,by rw [List.take_succ_eq_append_getElem hlt,List.take_succ_eq_append_getElem hlt2,hq,he],rfl⟩,by show xs.length - (k+1)<xs.length - k;omega,VS.tm ?_⟩;rw [up1 (by omega)];simp [leL]
   ·have fe:=eq_false he
    have hne:decide (xs=ys)=false:=decide_eq_false (fun e=>he (by subst e;rfl));rw [hne]
    (repeat ((try with_reducible refine W.step (b:=false) ?_);simp (decide:=true) only [go_sem,↓reduceIte,Nat.reduceAdd,Nat.reduceSub,hlt,hlt2,r1,r2,fe];try with_reducible refine drawn hmix (by kernel_rfl) ?_))
    exact Q0c _ (.inr rfl) rfl (.plain rfl)
  ·have heq:decide (xs=ys)=true:=decide_eq_true (by rw [List.take_of_length_le (by omega),List.take_of_length_le (by omega)] at hq;exact hq)
   rw [heq]
   (repeat ((try with_reducible refine W.step (b:=false) ?_);simp (decide:=true) only [go_sem,↓reduceIte,Nat.reduceAdd,Nat.reduceSub,hlt];try with_reducible refine drawn hmix (by kernel_rfl) ?_))
   exact Q0c _ (.inr rfl) rfl (.plain rfl)
 ·have hne:decide (xs=ys)=false:=decide_eq_false (fun e=>hl (by rw [e]))
  have fl:((xs.length:Int)=(ys.length:Int))=False:=eq_false (by omega);rw [hne]
  (repeat ((try with_reducible refine W.step (b:=false) ?_);simp (decide:=true) only [go_sem,↓reduceIte,Nat.reduceAdd,Nat.reduceSub,fl];try with_reducible refine drawn hmix (by kernel_rfl) ?_))
  exact Q0c _ (.inr rfl) rfl (.plain rfl)
theorem ids_Z:∀ l:List Int,noIdsL (l.flatMap encZ)=true
 | []=>rfl
 | x::l=>by rw [List.flatMap_cons];exact ids_Z l
def kidsR (p:List Nod) (k j:Nat):List Int:=((List.range k).filter fun i:Nat=>decide (0<i∧(ndAt p (i:Nat)).up=(j:Int))).map fun i:Nat=>(i:Int)
def treeB (p:List Nod):Bool:=!decide (p.length=0)&&(decide ((ndAt p 0).up=-1)&&(decide ((ndAt p 0).name++(ndAt p 0).text=⟨#[]⟩)&&(decide ((ndAt p 0).attrs.length=0) &&
 ((List.range p.length).all (fun k:Nat=>decide (k=0)||(decide (0≤(ndAt p k).up)&&decide ((ndAt p k).up<k)))&&(List.range p.length).all (fun k:Nat=>decide ((ndAt p k).kids=kidsR p p.length k))))))
structure OkPg (p:List Nod):Prop where
 len:p.length≤1000000
 kids:∀ x∈p,x.kids.length≤1000000
 attrs:∀ x∈p,x.attrs.length≤1000000
 texts:∀ x∈p,x.name.size+x.text.size≤1000000
 values:∀ x∈p,∀ a∈x.attrs,a.value.size≤1000000
theorem kidsR_zero (p:List Nod) (j:Nat):kidsR p 0 j=[]:=rfl
theorem Q2x (p:List Nod) (k j:Nat):kidsR p (k+1) j=kidsR p k j++if 0<k∧(ndAt p (k:Nat)).up=(j:Int) then [(k:Int)] else []:=by
 unfold kidsR;rw [List.range_succ,List.filter_append,List.map_append]
 congr 1
 by_cases h:0<k∧(ndAt p (k:Nat)).up=(j:Int)
 ·rw [if_pos h,List.filter_cons,if_pos (decide_eq_true h)];rfl
 ·rw [if_neg h,List.filter_cons,decide_eq_false h];rfl
theorem rows_zero (p:List Nod):∀ N,rowsM encZ 1 (kidsR p 0) N=[]
 | 0=>rfl
 | N+1=>by rw [rowsM,kidsR_zero];exact rows_zero p N
theorem zeros_owns (p:List Nod):∀ N,zerosA [.slice none 0 0] N=ownsA 1 1 (kidsR p 0) N:=by
 intro N;have:∀ N,zerosA [.slice none 0 0] N=List.replicate N (.g (.slice none 0 0)):=by
  intro N
  induction N with
  | zero=>rfl
  | succ N ih=>rw [zerosA,ih];rfl
 rw [this];unfold ownsA;refine List.ext_getElem (by simp) fun i h1 h2=>?_;simp [kidsR_zero,ownA]
set_option maxRecDepth 100000 in
set_option maxHeartbeats 4000000 in
theorem tree_p (p:List Nod) (hp:OkPg p):PureN Tryz.prog gt0 43 [.sl p.length 5 (p.flatMap encNd)] (.g (.bool (treeB p))):=by
 refine PureN.of_w (c:=_) Tryz.func43 rfl (by kernel_rfl) rfl ?_;simp only [Tryz.f43,List.replicate,List.length_cons,List.length_nil,Nat.reduceAdd,Nat.reduceSub,List.cons_append,List.nil_append];have hlen:=hp.len
 by_cases h0:p.length=0
 ·have hb:treeB p=false:=by unfold treeB;rw [decide_eq_true h0];rfl
  rw [hb];have f0:((p.length:Int)=0)=True:=eq_true (by omega)
  (repeat ((try with_reducible refine W.step (b:=false) ?_);simp (decide:=true) only [go_sem,↓reduceIte,Nat.reduceAdd,Nat.reduceSub,f0];try with_reducible refine drawn hmix (by kernel_rfl) ?_))
  exact Q0c _ (.inr rfl) rfl (.plain rfl)
 have f0:((p.length:Int)=0)=False:=eq_false (by omega);have hpos:0<p.length:=by omega
 have r:=rowNd hpos;have e0:=Q0p hpos;simp only [Nat.zero_mul,Nat.zero_add,Int.natCast_zero] at r e0;have f1:(0<(p.length:Int))=True:=eq_true (by omega);have sz:(p[0].name.size+p[0].text.size≤9223372036854775807)=True:=eq_true (by have:=hp.texts _ (List.getElem_mem hpos);omega);have ht0:treeB p=(decide (p[0].up=-1)&&(decide (p[0].name++p[0].text=⟨#[]⟩)&&(decide (p[0].attrs.length=0)&&((List.range p.length).all (fun k:Nat=>decide (k=0)||(decide (0≤(ndAt p k).up)&&decide ((ndAt p k).up<k)))&&(List.range p.length).all (fun k:Nat=>decide ((ndAt p k).kids=kidsR p p.length k)))))):=by
  unfold treeB;rw [decide_eq_false h0,e0];rfl
 rw [ht0]
 by_cases hu:p[0].up=-1
 rotate_left
 ·have fu:=eq_false hu
  rw [decide_eq_false hu,Bool.false_and]
  (repeat ((try with_reducible refine W.step (b:=false) ?_);simp (decide:=true) only [go_sem,↓reduceIte,Nat.reduceAdd,Nat.reduceSub,f0,f1,r,fu];try with_reducible refine drawn hmix (by kernel_rfl) ?_))
  exact Q0c _ (.inr rfl) rfl (.plain rfl)
 have fu:=eq_true hu
 by_cases hs:p[0].name++p[0].text=⟨#[]⟩
 rotate_left
 ·have fs:=eq_false hs
  rw [decide_eq_false hs,Bool.false_and,Bool.and_false]
  (repeat ((try with_reducible refine W.step (b:=false) ?_);simp (decide:=true) only [go_sem,↓reduceIte,Nat.reduceAdd,Nat.reduceSub,f0,f1,r,fu,fs,sz];try with_reducible refine drawn hmix (by kernel_rfl) ?_))
  exact Q0c _ (.inr rfl) rfl (.plain rfl)
 have fs:=eq_true hs
 by_cases ha:p[0].attrs.length=0
 rotate_left
 ·have fa:((0:Int)<(p[0].attrs.length:Int))=True:=eq_true (by omega)
  rw [decide_eq_false ha,Bool.false_and,Bool.and_false,Bool.and_false]
  (repeat ((try with_reducible refine W.step (b:=false) ?_);simp (decide:=true) only [go_sem,↓reduceIte,Nat.reduceAdd,Nat.reduceSub,f0,f1,r,fu,fs,sz,fa];try with_reducible refine drawn hmix (by kernel_rfl) ?_))
  exact Q0c _ (.inr rfl) rfl (.plain rfl)
 have fa:((0:Int)<(p[0].attrs.length:Int))=False:=eq_false (by omega);rw [decide_eq_true hu,decide_eq_true hs,decide_eq_true ha,Bool.true_and,Bool.true_and,Bool.true_and];have fm:(p.length*(24+1)≤17179869184)=True:=eq_true (by omega)
 (repeat ((try with_reducible refine W.step (b:=false) ?_);simp (decide:=true) only [go_sem,↓reduceIte,Nat.reduceAdd,Nat.reduceSub,f0,f1,r,fu,fs,sz,fa,fm];try with_reducible refine drawn hmix (by kernel_rfl) ?_))
 clear e0 ht0 hu fu hs fs ha fa fm sz r f1 f0;obtain ⟨n0,hn0⟩:∃ n0,n0=1+p.length:=⟨_,rfl⟩
 refine W.loop (s1:=stL [(.sl p.length 5 (p.flatMap encNd)),aN,(.g (.bool false)),(.gs 0 0 p.length 1 p.length),aN,aN,aN,aN,aN,aN,aN,aN,aN,aN,aN,aN,aN,aN,aN,aN,aN,aN,aN,aN,aN,aN,aN,aN,aN,aN,aN,aN,aN,aN,aN,aN,aN,aN,aN,aN,aN,(.sl p.length 5 (p.flatMap encNd)),(.g (.int .i64 (p.length:Int))),(.g (.int .i64 ((0:Nat):Int))),aN,aN,aN,aN,aN,aN,aN,aN,aN,aN,aN,aN,aN,aN,aN,aN,aN,aN,aN,aN,aN,aN,aN,aN,aN,aN,aN,aN,aN,aN,aN,aN,aN,aN,aN,aN,aN,aN,aN,aN,aN,aN,aN,aN] ((0,.cells (ownsA 1 1 (kidsR p 0) p.length))::rowsM encZ 1 (kidsR p 0) p.length) n0)
  (fun (k:Nat) t=>k≤p.length∧(∀ i:Nat,i<k→0<i→0≤(ndAt p i).up∧(ndAt p i).up<i)∧t=stL [(.sl p.length 5 (p.flatMap encNd)),aN,(.g (.bool false)),(.gs 0 0 p.length 1 p.length),aN,aN,aN,aN,aN,aN,aN,aN,aN,aN,aN,aN,aN,aN,aN,aN,aN,aN,aN,aN,aN,aN,aN,aN,aN,aN,aN,aN,aN,aN,aN,aN,aN,aN,aN,aN,aN,(.sl p.length 5 (p.flatMap encNd)),(.g (.int .i64 (p.length:Int))),(.g (.int .i64 (k:Int))),aN,aN,aN,aN,aN,aN,aN,aN,aN,aN,aN,aN,aN,aN,aN,aN,aN,aN,aN,aN,aN,aN,aN,aN,aN,aN,aN,aN,aN,aN,aN,aN,aN,aN,aN,aN,aN,aN,aN,aN,aN,aN,aN,aN] ((0,.cells (ownsA 1 1 (kidsR p k) p.length))::rowsM encZ 1 (kidsR p k) p.length) n0)
  (fun k=>p.length - k) 0 ⟨Nat.zero_le _,fun i hi=>absurd hi (Nat.not_lt_zero _),rfl⟩ ?_ ?_
 ·rw [zeros_owns p,rows_zero]
  exact VS.same (by omega) (fun _=>rfl) (by simp [leL])
 rintro k t ⟨hk,hup,rfl⟩
 by_cases hlt:k<p.length
 ·have rk:=rowNd hlt
  have ek:=Q0p hlt;have hrow:=row_part encNd 5 (fun _=>rfl) p k hlt 0 5 (by decide);have hfit:=row_fit encNd 5 (fun _=>rfl) p k hlt (j:=0) (c:=5) (by decide);rw [Nat.add_zero,List.drop_zero,List.take_of_length_le (l:=encNd p[k]) (Nat.le_refl 5)] at hrow;have hen:encNd p[k]=[.g (.string p[k].name),.sl p[k].attrs.length 2 (p[k].attrs.flatMap encA),.g (.string p[k].text),.g (.int .i64 p[k].up),.sl p[k].kids.length 1 (p[k].kids.flatMap encZ)]:=rfl;rw [hen] at hrow;rw [Nat.add_zero] at hfit
  by_cases hk0:k=0
  ·have fk:((k:Int)=0)=True:=eq_true (by omega)
   (repeat ((try with_reducible refine W.step (b:=false) ?_);simp (decide:=true) only [go_sem,↓reduceIte,Nat.reduceAdd,Nat.reduceSub,hlt,hrow,hfit,fk];try with_reducible refine drawn hmix (by kernel_rfl) ?_))
   refine ⟨k+1,_,⟨by omega,fun i h1 h2=>by omega,rfl⟩,by show p.length - (k+1)<p.length - k;omega,?_⟩;rw [up1 (by omega)];have hsame:∀ j,kidsR p (k+1) j=kidsR p k j:=fun j=>by rw [Q2x,if_neg (by omega),List.append_nil]
   rw [show kidsR p (k+1)=kidsR p k from funext hsame];refine VS.drop (fun c x hc=>?_) ?_
   ·rw [getL] at hc
    split at hc
    ·rename_i h;subst h;cases hc
     exact ⟨by omega,hn0▸ownsA_lt,by simp [getL,hn0]⟩
    ·rw [Q2e] at hc
     split at hc
     ·rename_i h
      cases hc
      refine ⟨by omega,ltL_id _ _ (ids_Z _),?_⟩;rw [getL,if_neg (by omega),getL,if_neg (by omega),Q2e,if_pos h]
     ·cases hc
   ·simp [keepT_cons,keepT_nil,ltA,hn0];omega
  ·have fk:((k:Int)=0)=False:=eq_false (by omega)
   by_cases hu0:p[k].up<0
   ·have fu:=eq_true hu0
    have hf:(List.range p.length).all (fun k:Nat=>decide (k=0)||(decide (0≤(ndAt p k).up)&&decide ((ndAt p k).up<k)))=false:=by
     refine List.all_eq_false.2 ⟨k,List.mem_range.2 hlt,?_⟩;rw [ek,decide_eq_false hk0,decide_eq_false (p:=0≤p[k].up) (by omega),Bool.false_and];decide
    rw [hf,Bool.false_and]
    (repeat ((try with_reducible refine W.step (b:=false) ?_);simp (decide:=true) only [go_sem,↓reduceIte,Nat.reduceAdd,Nat.reduceSub,hlt,hrow,hfit,fk,fu];try with_reducible refine drawn hmix (by kernel_rfl) ?_))
    exact Q0c _ (.inr rfl) rfl (.plain rfl)
   by_cases hu1:(k:Int)≤p[k].up
   ·have fu:=eq_false hu0
    have fv:=eq_true hu1;have hf:(List.range p.length).all (fun k:Nat=>decide (k=0)||(decide (0≤(ndAt p k).up)&&decide ((ndAt p k).up<k)))=false:=by
     refine List.all_eq_false.2 ⟨k,List.mem_range.2 hlt,?_⟩;rw [ek,decide_eq_false hk0,decide_eq_false (p:=p[k].up<(k:Int)) (by omega),Bool.and_false];decide
    rw [hf,Bool.false_and]
    (repeat ((try with_reducible refine W.step (b:=false) ?_);simp (decide:=true) only [go_sem,↓reduceIte,Nat.reduceAdd,Nat.reduceSub,hlt,hrow,hfit,fk,fu,fv];try with_reducible refine drawn hmix (by kernel_rfl) ?_))
    exact Q0c _ (.inr rfl) rfl (.plain rfl)
   obtain ⟨j,hj⟩:∃ j:Nat,p[k].up=j:=⟨p[k].up.toNat,by omega⟩;have hjk:j<k:=by omega
   have hjn:j<p.length:=by omega
   rw [hj] at hrow;have fu:((j:Int)<0)=False:=eq_false (by omega);have fv:((k:Int)≤(j:Int))=False:=eq_false (by omega);have hne:kidsR p (k+1) j≠[]:=by rw [Q2x,ek,if_pos ⟨by omega,hj⟩];simp
   have hrow2:kidsR p (k+1) j=kidsR p k j++[(k:Int)]:=by rw [Q2x,ek,if_pos ⟨by omega,hj⟩]
   have hoth:∀ i,i≠j→kidsR p (k+1) i=kidsR p k i:=fun i hi=>by rw [Q2x,ek,hj,if_neg (by omega),List.append_nil]
   have hup2:∀ i:Nat,i<k+1→0<i→0≤(ndAt p i).up∧(ndAt p i).up<i:=fun i h1 h2=>by
    rcases Nat.lt_or_ge i k with h3 | h3
    ·exact hup i h3 h2
    ·obtain rfl:i=k:=by omega
     rw [ek,hj];omega
   have hown:=ownsA_get (b0:=1) (sz:=1) (R:=kidsR p k) hjn;have e1:(n0=0)=False:=eq_false (by omega);have e2:(n0+1=0)=False:=eq_false (by omega);have e3:(n0+2=0)=False:=eq_false (by omega);have e7:j+1≤(ownsA 1 1 (kidsR p k) p.length).length:=by rw [Q2f];omega
   by_cases hnil:kidsR p k j=[]
   ·rw [hnil,ownA] at hown
    (repeat ((try with_reducible refine W.step (b:=true) ?_);simp (decide:=true) only [go_sem,↓reduceIte,Nat.reduceAdd,Nat.reduceSub,hlt,hrow,hfit,fk,fu,fv,hjn,hown,e1,e2,e3,e7];(try with_reducible refine drawn hmix (by kernel_rfl) ?_)))
    (refine ⟨?_,?_⟩;focus (simp only [okD_nil,okD_end,okD_quiet,lowD_nil,Bool.true_and,Bool.and_true,Bool.and_self];repeat' (first | with_reducible exact okD_end | (with_reducible refine lowD_eq ?_;(simp <;> omega);done) | with_reducible refine andB ?_ ?_ | with_reducible refine okD_quiet.trans ?_ | (with_reducible refine (okD_free ?_).trans ?_;(constructor <;> simp <;> omega)) | (with_reducible refine (okD_bef ?_).trans ?_;decide +kernel))))
    (repeat ((try with_reducible refine W.step (b:=false) ?_);simp (decide:=true) only [go_sem,↓reduceIte,Nat.reduceAdd,Nat.reduceSub];try with_reducible refine drawn hmix (by kernel_rfl) ?_))
    refine ⟨k+1,_,⟨by omega,hup2,rfl⟩,by show p.length - (k+1)<p.length - k;omega,?_⟩;rw [up1 (by omega),put_set (by rw [Q2f];exact hjn)];subst hn0;refine VS.own (F:=[(0,.cells (ownsA 1 1 (kidsR p (k+1)) p.length))]) (R:=kidsR p k) hjn (nn:=1+p.length+1+1) (by omega) (fun i _ hi=>hoth i hi) (fun _=>rfl) (fun c x hc=>?_) ?_ (fun i hi hij hr=>?_) ?_
    ·rw [getL] at hc
     split at hc
     ·rename_i h;subst h;cases hc
      refine ⟨by decide,ownsA_lt,?_⟩;rw [reFB,ownsA_re hoth hne,hrow2,hnil];simp [getL]
     ·simp [getL] at hc
    ·simp [getL,hrow2,hnil,encZ]
    ·have h9:=rowsM_at (enc:=encZ) (b0:=1) (R:=kidsR p k) hi hr
     have q1:¬(1+p.length+1+1=1+i):=by omega
     have q2:¬(1+p.length+1=1+i):=by omega
     have q3:¬(1+p.length=1+i):=by omega
     have q4:¬(0=1+i):=by omega
     simp only [getL,if_neg q1,if_neg q2,if_neg q3,if_neg q4];exact h9
    ·have q5:¬(0=1+j):=by omega
     simp [reT_cons,reT_nil,reF,ltA,ownH,q5];omega
   ·obtain ⟨b,hb⟩:∃ b,b=1+j:=⟨_,rfl⟩
    rw [ownA_pos hnil,←hb] at hown;have hget:getL (rowsM encZ 1 (kidsR p k) p.length) b=some (.cells ((kidsR p k j).flatMap encZ)):=by rw [hb];exact rowsM_at hjn hnil
    have e4:(n0=b)=False:=eq_false (by omega);have e5:(n0+1=b)=False:=eq_false (by omega);have e6:(0=b)=False:=eq_false (by omega);have hfl:((kidsR p k j).flatMap encZ).length=(kidsR p k j).length:=by rw [Q1v (sz:=1) (fun _=>rfl),Nat.mul_one]
    have hkl:(kidsR p k j).length≤k:=by unfold kidsR;rw [List.length_map];exact Nat.le_trans (List.length_filter_le _ _) (by simp)
    have e8:((kidsR p k j).length+1≤(kidsR p k j).length)=False:=eq_false (by omega);have e9:((kidsR p k j).length+1)*9≤17179869184:=by omega
    have e10:(b=n0+1)=False:=eq_false (by omega)
    (repeat ((try with_reducible refine W.step (b:=true) ?_);simp (decide:=true) only [go_sem,↓reduceIte,Nat.reduceAdd,Nat.reduceSub,hlt,hrow,hfit,fk,fu,fv,hjn,hown,e1,e2,e3,e4,e5,e6,e7,e8,e9,e10,hget,hfl];(try with_reducible refine drawn hmix (by kernel_rfl) ?_)))
    (refine ⟨?_,?_⟩;focus (simp only [okD_nil,okD_end,okD_quiet,lowD_nil,Bool.true_and,Bool.and_true,Bool.and_self];repeat' (first | with_reducible exact okD_end | (with_reducible refine lowD_eq ?_;(simp <;> omega);done) | with_reducible refine andB ?_ ?_ | with_reducible refine okD_quiet.trans ?_ | (with_reducible refine (okD_free ?_).trans ?_;(constructor <;> simp <;> omega)) | (with_reducible refine (okD_bef ?_).trans ?_;decide +kernel))))
    (repeat ((try with_reducible refine W.step (b:=false) ?_);simp (decide:=true) only [go_sem,↓reduceIte,Nat.reduceAdd,Nat.reduceSub];try with_reducible refine drawn hmix (by kernel_rfl) ?_))
    refine ⟨k+1,_,⟨by omega,hup2,rfl⟩,by show p.length - (k+1)<p.length - k;omega,?_⟩;rw [up1 (by omega),put_set (by rw [Q2f];exact hjn)];have hpl:(kidsR p (k+1) j).length=(kidsR p k j).length+1:=by rw [hrow2];simp
    subst hn0 hb;refine VS.own (F:=[(0,.cells (ownsA 1 1 (kidsR p (k+1)) p.length))]) (R:=kidsR p k) hjn (nn:=1+p.length+1+1) (by omega) (fun i _ hi=>hoth i hi) (fun _=>rfl) (fun c x hc=>?_) ?_ (fun i hi hij hr=>?_) ?_
    ·rw [getL] at hc
     split at hc
     ·rename_i h;subst h;cases hc
      refine ⟨by decide,ownsA_lt,?_⟩;rw [reFB,ownsA_re hoth hne,hpl];simp [getL]
     ·simp [getL] at hc
    ·simp [getL,hrow2,encZ]
    ·have h9:=rowsM_at (enc:=encZ) (b0:=1) (R:=kidsR p k) hi hr
     have q1:¬(1+p.length+1+1=1+i):=by omega
     have q2:¬(1+p.length+1=1+i):=by omega
     have q3:¬(1+p.length=1+i):=by omega
     have q4:¬(0=1+i):=by omega
     have q5:¬(1+j=1+i):=by omega
     simp only [getL,if_neg q1,if_neg q2,if_neg q3,if_neg q4,getL_del,if_neg q5];exact h9
    ·have q5:¬(0=1+j):=by omega
     simp [reT_cons,reT_nil,reF,ltA,ownH,q5];omega
 ·(repeat ((try with_reducible refine W.step (b:=false) ?_);simp (decide:=true) only [go_sem,↓reduceIte,Nat.reduceAdd,Nat.reduceSub,hlt];try with_reducible refine drawn hmix (by kernel_rfl) ?_))
  obtain rfl:k=p.length:=by omega
  have hup1:(List.range p.length).all (fun k:Nat=>decide (k=0)||(decide (0≤(ndAt p k).up)&&decide ((ndAt p k).up<k)))=true:=by
   rw [List.all_eq_true];intro i hi
   by_cases h0:i=0
   ·rw [decide_eq_true h0];rfl
   ·obtain ⟨g1,g2⟩:=hup i (List.mem_range.1 hi) (by omega)
    rw [decide_eq_true g1,decide_eq_true g2,Bool.true_and,Bool.or_true]
  rw [hup1,Bool.true_and];have hrl:∀ j,(kidsR p p.length j).length≤1000000:=fun j=>by unfold kidsR;rw [List.length_map];exact Nat.le_trans (List.length_filter_le _ _) (by simp;omega)
  refine W.loop (s1:=stL [(.sl p.length 5 (p.flatMap encNd)),aN,(.g (.bool false)),(.gs 0 0 p.length 1 p.length),aN,aN,aN,aN,aN,aN,aN,aN,aN,aN,aN,aN,aN,aN,aN,aN,aN,aN,aN,aN,aN,aN,aN,aN,aN,aN,aN,aN,aN,aN,aN,aN,aN,aN,aN,aN,aN,aN,aN,aN,aN,aN,aN,aN,aN,aN,aN,aN,aN,aN,aN,aN,aN,aN,aN,aN,aN,aN,aN,aN,aN,aN,aN,aN,aN,aN,aN,aN,(.sl p.length 5 (p.flatMap encNd)),(.g (.int .i64 (p.length:Int))),(.g (.int .i64 ((0:Nat):Int))),aN,aN,aN,aN,aN,aN,aN,aN,aN,aN,aN,aN,aN] [(0,.cells ((List.range p.length).map fun i=>.sl (kidsR p p.length i).length 1 ((kidsR p p.length i).flatMap encZ)))] n0)
   (fun (k:Nat) t=>k≤p.length∧(∀ i:Nat,i<k→(ndAt p i).kids=kidsR p p.length i)∧t=stL [(.sl p.length 5 (p.flatMap encNd)),aN,(.g (.bool false)),(.gs 0 0 p.length 1 p.length),aN,aN,aN,aN,aN,aN,aN,aN,aN,aN,aN,aN,aN,aN,aN,aN,aN,aN,aN,aN,aN,aN,aN,aN,aN,aN,aN,aN,aN,aN,aN,aN,aN,aN,aN,aN,aN,aN,aN,aN,aN,aN,aN,aN,aN,aN,aN,aN,aN,aN,aN,aN,aN,aN,aN,aN,aN,aN,aN,aN,aN,aN,aN,aN,aN,aN,aN,aN,(.sl p.length 5 (p.flatMap encNd)),(.g (.int .i64 (p.length:Int))),(.g (.int .i64 (k:Int))),aN,aN,aN,aN,aN,aN,aN,aN,aN,aN,aN,aN,aN] [(0,.cells ((List.range p.length).map fun i=>.sl (kidsR p p.length i).length 1 ((kidsR p p.length i).flatMap encZ)))] n0)
   (fun k=>p.length - k) 0 ⟨Nat.zero_le _,fun i hi=>absurd hi (Nat.not_lt_zero _),rfl⟩ ?_ ?_
  ·refine VS.sealOwn (by decide) (fun x a ha=>by simp [encZ] at ha;subst ha;rfl) (fun _=>rfl) ?_
   simp [frLF_cons,frLF_nil,frAF_any,frAF_self]
  rintro k t ⟨hk,hsm,rfl⟩
  by_cases hlt:k<p.length
  ·have rk:=rowNd hlt
   have ek:=Q0p hlt;have hrow:=row_part encNd 5 (fun _=>rfl) p k hlt 0 5 (by decide);have hfit:=row_fit encNd 5 (fun _=>rfl) p k hlt (j:=0) (c:=5) (by decide);rw [Nat.add_zero,List.drop_zero,List.take_of_length_le (l:=encNd p[k]) (Nat.le_refl 5)] at hrow;have hen:encNd p[k]=[.g (.string p[k].name),.sl p[k].attrs.length 2 (p[k].attrs.flatMap encA),.g (.string p[k].text),.g (.int .i64 p[k].up),.sl p[k].kids.length 1 (p[k].kids.flatMap encZ)]:=rfl;rw [hen] at hrow;rw [Nat.add_zero] at hfit;have hown:((List.range p.length).map fun i=>AV.sl (kidsR p p.length i).length 1 ((kidsR p p.length i).flatMap encZ))[k]?=some (.sl (kidsR p p.length k).length 1 ((kidsR p p.length k).flatMap encZ)):=by
    rw [List.getElem?_map,List.getElem?_range hlt];rfl
   have e1:(n0=0)=False:=eq_false (by omega)
   (repeat ((try with_reducible refine W.step (b:=false) ?_);simp (decide:=true) only [go_sem,↓reduceIte,Nat.reduceAdd,Nat.reduceSub,hlt,hrow,hfit,hown,e1];try with_reducible refine drawn hmix (by kernel_rfl) ?_))
   refine AtCallQ.mk (equalI_p p[k].kids (kidsR p p.length k) (hp.kids _ (List.getElem_mem hlt)) (hrl k)) ?_
   by_cases hq:p[k].kids=kidsR p p.length k
   ·have fq:=eq_true hq
    (repeat ((try with_reducible refine W.step (b:=false) ?_);simp (decide:=true) only [go_sem,↓reduceIte,Nat.reduceAdd,Nat.reduceSub,fq];try with_reducible refine drawn hmix (by kernel_rfl) ?_))
    refine ⟨k+1,_,⟨by omega,fun i hi=>?_,rfl⟩,by show p.length - (k+1)<p.length - k;omega,?_⟩
    ·rcases Nat.lt_or_ge i k with h3 | h3
     ·exact hsm i h3
     ·obtain rfl:i=k:=by omega
      rw [ek];exact hq
    ·rw [up1 (by omega)]
     refine VS.drop (fun c x hc=>?_) ?_
     ·rw [getL] at hc
      split at hc
      ·rename_i h;subst h;cases hc
       exact ⟨by omega,ltL_id _ _ (noIdsL_map (fun _=>rfl) _),by simp [getL,hn0]⟩
      ·cases hc
     ·simp [keepT_cons,keepT_nil,ltA,hn0];omega
   ·have fq:=eq_false hq
    have hf:(List.range p.length).all (fun k:Nat=>decide ((ndAt p k).kids=kidsR p p.length k))=false:=List.all_eq_false.2 ⟨k,List.mem_range.2 hlt,by rw [ek,decide_eq_false hq];decide⟩;rw [hf]
    (repeat ((try with_reducible refine W.step (b:=false) ?_);simp (decide:=true) only [go_sem,↓reduceIte,Nat.reduceAdd,Nat.reduceSub,fq];try with_reducible refine drawn hmix (by kernel_rfl) ?_))
    exact Q0c _ (.inr rfl) rfl (.plain rfl)
  ·have hf:(List.range p.length).all (fun k:Nat=>decide ((ndAt p k).kids=kidsR p p.length k))=true:=by
    rw [List.all_eq_true];exact fun i hi=>decide_eq_true (hsm i (by have:=List.mem_range.1 hi;omega))
   rw [hf]
   (repeat ((try with_reducible refine W.step (b:=false) ?_);simp (decide:=true) only [go_sem,↓reduceIte,Nat.reduceAdd,Nat.reduceSub,hlt];try with_reducible refine drawn hmix (by kernel_rfl) ?_))
   exact Q0c _ (.inr rfl) rfl (.plain rfl)
end Go.Proofs.YtabliahkhafddaaGreat
namespace Go.Proofs.YtabliahkhafddaaGreat
open Go.RowKit Go.Ev
open Go.Ev.AV renaming any→aN
structure Stt where
 node:Int
 name:ByteArray
def isBl (c:UInt8):Bool:=c==32||c==9||c==10||c==12||c==13
def wordsL:List UInt8→List UInt8→List (List UInt8)
 | cur,[]=>if cur=[] then [] else [cur]
 | cur,c::l=>if isBl c=true then (if cur=[] then wordsL [] l else cur::wordsL [] l) else wordsL (cur++[c]) l
section
variable (p:List Nod) (st:List Stt) (n:Int)
end
structure TreeP (p:List Nod):Prop where
 up:∀ n:Nat,0<n→n<p.length→0≤(ndAt p n).up∧(ndAt p n).up<n
 root:p≠[]→(ndAt p 0).name=⟨#[]⟩
 root0:0<p.length→(ndAt p 0).up=-1
 kids:∀ n:Nat,n<p.length→(ndAt p n).kids=kidsR p p.length n
def aboveM (p:List Nod) (n:Nat):List Nat:=if 0<(ndAt p n).up∧(ndAt p n).up<n then (ndAt p n).up.toNat::aboveM p (ndAt p n).up.toNat else []
termination_by n
decreasing_by omega
def wordsS (l:List Simp):List ByteArray:=(l.map fun x=>wordM x.kind x.name).filter fun w=>!decide (w=⟨#[]⟩)
def wordsR:List Part→List ByteArray
 | x::y::l=>if x.comb=1∨x.comb=2 then wordsS y.l++wordsR (y::l) else []
 | _=>[]
def wordsC (c:Cx):List ByteArray:=wordsR c.parts.reverse
end Go.Proofs.YtabliahkhafddaaGreat
namespace Go.Proofs.YtabliahkhafddaaGreat
open Go.RowKit
open Go.Ev.AV renaming any→aN
end Go.Proofs.YtabliahkhafddaaGreat
namespace Go.Proofs.YtabliahkhafddaaGreat
open Go.RowKit Go.Ev
open Go.Ev.AV renaming any→aN
attribute [local go_sem] eq_self false_and and_false Bool.false_eq_true List.set_cons_succ List.set_cons_zero List.getD_cons_succ List.getD_cons_zero List.getElem?_cons_succ List.getElem?_cons_zero true_and and_true and_self Bool.not_true Bool.not_false Nat.add_zero Nat.zero_add Nat.mul_one Int.toNat_natCast Int.natCast_nonneg Int.ofNat_lt Option.bind_some Option.map_some List.map_cons List.map_nil decide_true decide_false BEq.rfl Bool.and_self Bool.and_true Bool.and_false beq_self_eq_true List.cons_append List.nil_append List.take_zero List.take_succ_cons List.take_nil List.drop_succ_cons List.drop_zero List.drop_nil List.append_nil List.length_cons List.length_nil List.all_cons List.all_nil Nat.le_refl Int.le_refl Option.map_none List.replicate_zero List.replicate_succ Nat.zero_mul Nat.sub_zero Nat.zero_le Nat.le_zero_eq Q1z Option.some_or Option.none_or Option.or_none Option.isSome_some Option.isSome_none Option.getD_some Option.getD_none Int.toNat_zero Int.natCast_zero Int.natCast_one Int.cast_ofNat_Int List.toList_toArray
attribute [go_sem] appL newsA isSlice
theorem bl_i3 (parts:List (Nat×AV)):evBuild Tryz.prog 414 parts=aggM (rowsL 1 [.g (.int .i64 0),.g (.int .i64 0),.g (.int .i64 0)] parts):=evArr_eq (by kernel_rfl) parts
theorem ar_i3:arrO Tryz.prog 414=some (3,1,3):=by kernel_rfl
attribute [go_sem] bl_i3 ar_i3
theorem lenZ (l:List Int):(l.flatMap encZ).length=l.length:=by rw [Q1v (sz:=1) (fun _=>rfl),Nat.mul_one]
theorem takeZ (l:List Int):(l.flatMap encZ).take l.length=l.flatMap encZ:=List.take_of_length_le (by rw [lenZ];exact Nat.le_refl _)
theorem cellZ (l:List Int):(l.flatMap encZ).all isCell=true:=by
 rw [List.all_eq_true];intro a ha;obtain ⟨x,-,hx⟩:=List.mem_flatMap.1 ha;simp [encZ] at hx;subst hx;rfl
attribute [go_sem] lenZ takeZ cellZ
def sliceAt (sv:AV) (m:ML) (l:List Int):Prop:=(sv=.sl l.length 1 (l.flatMap encZ)∧True)∨∃ b K,sv=.gs b 0 l.length 1 K∧getL m b=some (.cells (l.flatMap encZ))
theorem mapZ (l:List Int):l.flatMap encZ=l.map fun x=>AV.g (.int .i64 x):=by
 induction l with
 | nil=>rfl
 | cons x l ih=>rw [List.flatMap_cons,ih];rfl
theorem ez_ints:elemZ Tryz.prog 27=[.int .i64 0]:=by kernel_rfl
theorem sz_int:szO Tryz.prog 3=some 1:=by kernel_rfl
theorem sz_str:szO Tryz.prog 9=some 1:=by kernel_rfl
theorem sz_bool:szO Tryz.prog 4=some 1:=by kernel_rfl
attribute [go_sem] ez_ints sz_int sz_str sz_bool
attribute [go_sem] appL newsA isSlice
def partB (l:List UInt8) (p:Nat×Nat):List UInt8:=(l.drop p.1).take (p.2 - p.1)
def curB (l:List UInt8) (start:Int) (pos:Nat):List UInt8:=if start<0 then [] else partB l (start.toNat,pos)
structure FldI (l:List UInt8) (pos:Nat) (start:Int) (sp:List (Nat×Nat)):Prop where
 le:pos≤l.length
 st:start<pos
 low:-1000000001≤start
 fit:∀ p∈sp,p.1≤p.2∧p.2≤l.length
 words:sp.map (partB l)++wordsL (curB l start pos) (l.drop pos)=wordsL [] l
 len:sp.length≤pos
theorem el_span:elemO Tryz.prog 425=some 2:=by kernel_rfl
theorem ag_span:aggO Tryz.prog 427=some (true,2):=by kernel_rfl
theorem ei_span:elemI Tryz.prog 425=some (2,16,true):=by kernel_rfl
theorem ez_span:elemZ Tryz.prog 425=[.int .i64 0,.int .i64 0]:=by kernel_rfl
theorem sz_span:szO Tryz.prog 427=some 2:=by kernel_rfl
theorem ze_span:zeroO Tryz.prog 427=some [.g (.int .i64 0),.g (.int .i64 0)]:=by kernel_rfl
theorem fl_span0:fldO Tryz.prog 427 0=some (0,3):=by kernel_rfl
theorem fl_span1:fldO Tryz.prog 427 1=some (1,3):=by kernel_rfl
theorem bl_span (parts:List (Nat×AV)):evBuild Tryz.prog 427 parts=aggM (fillL [(0,1),(1,1)] [.g (.int .i64 0),.g (.int .i64 0)] parts):=Q0u (by kernel_rfl) parts
theorem ss_span:slOrStr (Tryz.prog.underlying 425)=true:=by kernel_rfl
theorem ei_strs:elemI Tryz.prog 46=some (1,16,true):=by kernel_rfl
theorem ss_strs:slOrStr (Tryz.prog.underlying 46)=true:=by kernel_rfl
theorem ez_strs:elemZ Tryz.prog 46=[.string ⟨#[]⟩]:=by kernel_rfl
attribute [go_sem] el_span ag_span ei_span ez_span sz_span ze_span fl_span0 fl_span1 bl_span ss_span ei_strs ss_strs ez_strs
attribute [go_sem] appL newsA isSlice
theorem ag_sts:aggO Tryz.prog 36=some (false,1):=by kernel_rfl
theorem ag_st:aggO Tryz.prog 108=some (true,2):=by kernel_rfl
theorem el_sts:elemO Tryz.prog 36=some 2:=by kernel_rfl
theorem bl_st (parts:List (Nat×AV)):evBuild Tryz.prog 108 parts=aggM (fillL [(0,1),(1,1)] [.g (.int .i64 0),.g (.string ⟨#[]⟩)] parts):=Q0u (by kernel_rfl) parts
theorem eqg_st:Tryz.prog.eqGuardType Tryz.prog.depth 108=false:=by kernel_rfl
attribute [go_sem] ag_sts ag_st el_sts bl_st eqg_st
attribute [go_sem] appL newsA isSlice
theorem sz_simp:szO Tryz.prog 141=some 6:=by kernel_rfl
attribute [go_sem] sz_simp
def okS:Simp→Prop
 | .mk _ _ _ _ _ l=>l.length≤1000000∧okL l
where okL:List Simp→Prop
 | []=>True
 | x::xs=>okS x∧okL xs
end Go.Proofs.YtabliahkhafddaaGreat
namespace Go.Proofs.YtabliahkhafddaaGreat
open Go.RowKit Go.Ev
open Go.Ev.AV renaming any→aN
theorem Q0x {p:List Nod} (n:Nat):aboveM p n=if 0<(ndAt p n).up∧(ndAt p n).up<n then (ndAt p n).up.toNat::aboveM p (ndAt p n).up.toNat else []:=by rw [aboveM]
theorem above_lt {p:List Nod}:∀ (n k:Nat),k∈aboveM p n→0<k∧k<n:=by
 intro n
 induction n using Nat.strongRecOn with
 | ind n ih =>
   intro k hk;rw [Q0x] at hk
   split at hk
   ·rename_i h
    rcases List.mem_cons.1 hk with rfl | hk
    ·omega
    ·have:=ih _ (by omega) k hk;omega
   ·simp at hk
theorem above_trans {p:List Nod}:∀ (n k j:Nat),k∈aboveM p n→j∈aboveM p k→j∈aboveM p n:=by
 intro n
 induction n using Nat.strongRecOn with
 | ind n ih =>
   intro k j hk hj;rw [Q0x] at hk ⊢
   split at hk
   ·rename_i h
    rw [if_pos h];refine List.mem_cons_of_mem _ ?_;rcases List.mem_cons.1 hk with rfl | hk
    ·exact hj
    ·exact ih _ (by omega) k j hk hj
   ·simp at hk
end Go.Proofs.YtabliahkhafddaaGreat
namespace Go.Proofs.YtabliahkhafddaaGreat
open Go.RowKit Go.Ev
open Go.Ev.AV renaming any→aN
attribute [local go_sem] eq_self false_and and_false Bool.false_eq_true List.set_cons_succ List.set_cons_zero List.getD_cons_succ List.getD_cons_zero List.getElem?_cons_succ List.getElem?_cons_zero true_and and_true and_self Bool.not_true Bool.not_false Nat.add_zero Nat.zero_add Nat.mul_one Int.toNat_natCast Int.natCast_nonneg Int.ofNat_lt Option.bind_some Option.map_some List.map_cons List.map_nil decide_true decide_false BEq.rfl Bool.and_self Bool.and_true Bool.and_false beq_self_eq_true List.cons_append List.nil_append List.take_zero List.take_succ_cons List.take_nil List.drop_succ_cons List.drop_zero List.drop_nil List.append_nil List.length_cons List.length_nil List.all_cons List.all_nil Nat.le_refl Int.le_refl Option.map_none List.replicate_zero List.replicate_succ Nat.zero_mul Nat.sub_zero Nat.zero_le Nat.le_zero_eq Q1z Option.some_or Option.none_or Option.or_none Option.isSome_some Option.isSome_none Option.getD_some Option.getD_none Int.toNat_zero Int.natCast_zero Int.natCast_one Int.cast_ofNat_Int List.toList_toArray
attribute [go_sem] appL newsA isSlice
abbrev K2:=List ((Int×Int)×Int)
def getK:K2→Int×Int→Int
 | [],_=>0
 | e::K,k=>if e.1=k then e.2 else getK K k
def setK:K2→Int×Int→Int→K2
 | [],k,v=>[(k,v)]
 | e::K,k,v=>if e.1=k then (k,v)::K else e::setK K k v
theorem get_set (k:Int×Int) (v:Int):∀ K:K2,getK (setK K k v) k=v
 | []=>by simp [setK,getK]
 | e::K=>by
   rw [setK]
   by_cases h:e.1=k
   ·rw [if_pos h,getK,if_pos rfl]
   ·rw [if_neg h,getK,if_neg h,get_set k v K]
theorem ag_key2:aggO Tryz.prog 267=some (true,2):=by kernel_rfl
theorem ag_mp:aggO Tryz.prog 196=some (false,1):=by kernel_rfl
theorem bl_key2 (parts:List (Nat×AV)):evBuild Tryz.prog 267 parts=aggM (rowsL 1 [.g (.int .i64 0),.g (.int .i64 0)] parts):=evArr_eq (by kernel_rfl) parts
theorem ze_key2:zeroO Tryz.prog 267=some [.g (.int .i64 0),.g (.int .i64 0)]:=by kernel_rfl
theorem sz_key2:szO Tryz.prog 267=some 2:=by kernel_rfl
attribute [go_sem] ag_key2 ag_mp bl_key2 ze_key2 sz_key2
theorem elem_at {p:List Nod} {n:Nat}:elemB p n=true↔∃ h:n<p.length,p[n].name≠⟨#[]⟩:=by
 unfold elemB;simp only [Bool.and_eq_true,decide_eq_true_eq,Bool.not_eq_true',decide_eq_false_iff_not]
 constructor
 ·rintro ⟨-,h1,h2⟩
  have h:n<p.length:=by omega
  exact ⟨h,by rwa [Q0p h] at h2⟩
 ·rintro ⟨h,h1⟩
  exact ⟨Int.natCast_nonneg _,by omega,by rwa [Q0p h]⟩
def okPT (PT:List Part):Prop:=PT.length≤1000000∧∀ pt∈PT,pt.l.length≤1000000∧∀ x∈pt.l,okS x
attribute [go_sem] appL newsA isSlice
theorem tree_P {p:List Nod} (h:treeB p=true):TreeP p:=by
 unfold treeB at h;simp only [Bool.and_eq_true,Bool.not_eq_true',decide_eq_false_iff_not,decide_eq_true_eq,List.all_eq_true,List.mem_range,Bool.or_eq_true] at h;obtain ⟨h0,h1,h2,h3,h4,h5⟩:=h;refine ⟨fun n hn hl=>?_,fun _=>?_,fun _=>h1,h5⟩
 ·rcases h4 n hl with h | h
  ·omega
  ·exact h
 ·have hz:=congrArg ByteArray.size h2
  rw [ByteArray.size_append] at hz;have:(ndAt p 0).name.size=0:=by
   have:ByteArray.size ⟨#[]⟩=0:=rfl;omega
  exact ByteArray.size_eq_zero_iff.1 this
end Go.Proofs.YtabliahkhafddaaGreat
namespace Go.Proofs.YtabliahkhafddaaGreat
open Go.RowKit Go.Ev
open Go.Ev.AV renaming any→aN
structure Saf where
 cls:List ByteArray
 atts:List ByteArray
section
variable (S:Saf) (p:List Nod) (n:Int)
end
def critS:ByteArray:=⟨#[99,114,105,116,105,99,97,108]⟩
def hasC (p:List Nod) (n:Nat):Bool:=(atM p (n:Int) critS).isSome
def critB (p:List Nod) (m:Nat):Bool:=elemB p (m:Int)&&(List.range p.length).any fun n=>hasC p n&&(decide (n=m)||decide (m∈aboveM p n))
def nodesM (p:List Nod):List Int:=if treeB p=true then tellC (critB p) p.length else []
where tellC (f:Nat→Bool) (n:Nat):List Int:=((List.range n).filter f).map fun n:Nat=>(n:Int)
theorem hasC_elem {p:List Nod} {n:Nat} (h:hasC p n=true):elemB p (n:Int)=true:=by
 unfold hasC atM at h
 by_cases he:elemB p (n:Int)=true
 ·exact he
 ·rw [if_neg he] at h;cases h
theorem Q1y {p:List Nod} {m:Nat}:critB p m=true↔elemB p (m:Int)=true∧∃ c,hasC p c=true∧(c=m∨m∈aboveM p c):=by
 unfold critB;rw [Bool.and_eq_true,List.any_eq_true];refine and_congr_right fun _=>⟨fun ⟨c,_,h⟩=>?_,fun ⟨c,h1,h2⟩=>?_⟩
 ·rw [Bool.and_eq_true,Bool.or_eq_true,decide_eq_true_eq,decide_eq_true_eq] at h
  exact ⟨c,h⟩
 ·exact ⟨c,List.mem_range.2 (elem_at.1 (hasC_elem h1)).1,by rw [h1,Bool.true_and,Bool.or_eq_true,decide_eq_true_eq,decide_eq_true_eq];exact h2⟩
theorem mem_nodesM {p:List Nod} {m:Nat} (ht:treeB p=true):(m:Int)∈nodesM p↔critB p m=true:=by
 unfold nodesM nodesM.tellC;rw [if_pos ht,List.mem_map]
 constructor
 ·rintro ⟨k,hk,e⟩
  obtain rfl:k=m:=by omega
  exact (List.mem_filter.1 hk).2
 ·intro h
  exact ⟨m,List.mem_filter.2 ⟨List.mem_range.2 (elem_at.1 (Bool.and_eq_true_iff.1 h).1).1,h⟩,rfl⟩
theorem nodesM_nat {p:List Nod} {x:Int} (h:x∈nodesM p):treeB p=true∧∃ m:Nat,x=(m:Int)∧critB p m=true:=by
 unfold nodesM nodesM.tellC at h
 split at h
 ·rename_i ht
  obtain ⟨k,hk,rfl⟩:=List.mem_map.1 h;exact ⟨ht,k,rfl,(List.mem_filter.1 hk).2⟩
 ·simp at h
theorem nodesM_sorted (p:List Nod):(nodesM p).Pairwise (·<·):=by
 unfold nodesM nodesM.tellC
 split
 ·exact List.Pairwise.map _ (fun a b h=>by omega) (List.Pairwise.filter _ List.pairwise_lt_range)
 ·exact List.Pairwise.nil
theorem above_kid {p:List Nod} {n:Nat}:∀ c:Nat,n∈aboveM p c→∃ m:Nat,0<m∧m≤c∧(ndAt p m).up=(n:Int)∧(m=c∨m∈aboveM p c):=by
 intro c
 induction c using Nat.strongRecOn with
 | ind c ih =>
   intro h;rw [Q0x] at h
   split at h
   ·rename_i hc
    rcases List.mem_cons.1 h with e | h
    ·exact ⟨c,by omega,Nat.le_refl _,by omega,.inl rfl⟩
    ·obtain ⟨m,m0,m1,m2,m3⟩:=ih _ (by omega) h
     refine ⟨m,m0,by omega,m2,.inr ?_⟩;rw [Q0x,if_pos hc];exact List.mem_cons.2 m3
   ·simp at h
theorem above_upC {p:List Nod} {n m:Nat} (hT:TreeP p) (h:(ndAt p m).up=(n:Int)) (hn:0<n) (hm:0<m) (hl:m<p.length):n∈aboveM p m:=by
 obtain ⟨h1,h2⟩:=hT.up m hm hl;rw [Q0x,if_pos ⟨by omega,h2⟩,h];simp
def innerB (p:List Nod) (m:Nat):Bool:=(nodesM p).any fun x=>decide (x=(m:Int))||decide (m∈aboveM p x.toNat)
theorem crit_up {p:List Nod} {n:Nat} (ht:treeB p=true) (hn:0<n) (hl:n<p.length) :
 critB p n=((hasC p n||(ndAt p n).kids.any fun k=>critB p k.toNat||(decide ((ndAt p k).name=⟨#[]⟩)&&innerB p k.toNat))&&elemB p (n:Int)):=by
 have hT:=tree_P ht;have hkids:∀ m:Nat,(m:Int)∈(ndAt p n).kids↔0<m∧m<p.length∧(ndAt p m).up=(n:Int):=fun m=>by
  rw [hT.kids n hl];unfold kidsR;rw [List.mem_map]
  constructor
  ·rintro ⟨i,hi,e⟩
   obtain rfl:i=m:=by omega
   have:=List.mem_filter.1 hi;exact ⟨(of_decide_eq_true this.2).1,List.mem_range.1 this.1,(of_decide_eq_true this.2).2⟩
  ·rintro ⟨h1,h2,h3⟩
   exact ⟨m,List.mem_filter.2 ⟨List.mem_range.2 h2,decide_eq_true ⟨h1,h3⟩⟩,rfl⟩
 have hnat:∀ k∈(ndAt p n).kids,∃ m:Nat,k=(m:Int):=fun k hk=>by
  rw [hT.kids n hl] at hk;unfold kidsR at hk;obtain ⟨i,-,rfl⟩:=List.mem_map.1 hk;exact ⟨i,rfl⟩
 rw [Bool.eq_iff_iff,Bool.and_eq_true,Bool.or_eq_true,Q1y,List.any_eq_true]
 constructor
 ·rintro ⟨he,c,hc,h⟩
  refine ⟨?_,he⟩;rcases h with rfl | h
  ·exact .inl hc
  ·right
   have hce:=hasC_elem hc;obtain ⟨cl,-⟩:=elem_at.1 hce;obtain ⟨m,m0,m1,m2,m3⟩:=above_kid c h;refine ⟨m,(hkids m).2 ⟨m0,by omega,m2⟩,?_⟩;rw [Int.toNat_natCast]
   by_cases hem:elemB p (m:Int)=true
   ·rw [Q1y.2 ⟨hem,c,hc,m3.imp Eq.symm id⟩,Bool.true_or]
   ·have hnm:(ndAt p (m:Int)).name=⟨#[]⟩:=by
     by_cases h9:(ndAt p (m:Int)).name=⟨#[]⟩
     ·exact h9
     ·have hml:m<p.length:=by omega
      rw [Q0p hml] at h9;exact absurd (elem_at.2 ⟨hml,h9⟩) hem
    have hin:innerB p m=true:=by
     unfold innerB;rw [List.any_eq_true];refine ⟨(c:Int),(mem_nodesM ht).2 (Q1y.2 ⟨hce,c,hc,.inl rfl⟩),?_⟩;rw [Int.toNat_natCast,Bool.or_eq_true,decide_eq_true_eq,decide_eq_true_eq];exact m3.imp (fun e=>by rw [e]) id
    rw [decide_eq_true hnm,hin,Bool.true_and,Bool.or_true]
 ·rintro ⟨h,he⟩
  refine ⟨he,?_⟩;rcases h with h | ⟨k,hk,h⟩
  ·exact ⟨n,h,.inl rfl⟩
  ·obtain ⟨m,rfl⟩:=hnat k hk
   obtain ⟨m0,m1,m2⟩:=(hkids m).1 hk;have hnm:=above_upC hT m2 hn m0 m1;rw [Int.toNat_natCast,Bool.or_eq_true,Bool.and_eq_true] at h;rcases h with h | ⟨-,h⟩
   ·obtain ⟨-,c,hc,h3⟩:=Q1y.1 h
    refine ⟨c,hc,.inr ?_⟩;rcases h3 with rfl | h3
    ·exact hnm
    ·exact above_trans c m n h3 hnm
   ·unfold innerB at h
    obtain ⟨x,hx,h⟩:=List.any_eq_true.1 h;obtain ⟨-,y,rfl,hy⟩:=nodesM_nat hx;rw [Int.toNat_natCast,Bool.or_eq_true,decide_eq_true_eq,decide_eq_true_eq] at h;obtain ⟨-,c,hc,h3⟩:=Q1y.1 hy;have hny:n∈aboveM p y:=by
     rcases h with h | h
     ·obtain rfl:y=m:=by omega
      exact hnm
     ·exact above_trans y m n h hnm
    refine ⟨c,hc,.inr ?_⟩;rcases h3 with rfl | h3
    ·exact hny
    ·exact above_trans c y n h3 hny
end Go.Proofs.YtabliahkhafddaaGreat
namespace Go.Proofs.YtabliahkhafddaaGreat
open Go.RowKit Go.Ev
open Go.Ev.AV renaming any→aN
attribute [local go_sem] eq_self false_and and_false Bool.false_eq_true List.set_cons_succ List.set_cons_zero List.getD_cons_succ List.getD_cons_zero List.getElem?_cons_succ List.getElem?_cons_zero true_and and_true and_self Bool.not_true Bool.not_false Nat.add_zero Nat.zero_add Nat.mul_one Int.toNat_natCast Int.natCast_nonneg Int.ofNat_lt Option.bind_some Option.map_some List.map_cons List.map_nil decide_true decide_false BEq.rfl Bool.and_self Bool.and_true Bool.and_false beq_self_eq_true List.cons_append List.nil_append List.take_zero List.take_succ_cons List.take_nil List.drop_succ_cons List.drop_zero List.drop_nil List.append_nil List.length_cons List.length_nil List.all_cons List.all_nil Nat.le_refl Int.le_refl Option.map_none List.replicate_zero List.replicate_succ Nat.zero_mul Nat.sub_zero Nat.zero_le Nat.le_zero_eq Q1z Option.some_or Option.none_or Option.or_none Option.isSome_some Option.isSome_none Option.getD_some Option.getD_none Int.toNat_zero Int.natCast_zero Int.natCast_one Int.cast_ofNat_Int List.toList_toArray
attribute [go_sem] appL newsA isSlice
theorem zi_int:zeroO Tryz.prog 3=some [.g (.int .i64 0)]:=by kernel_rfl
theorem ze_simp6:zeroO Tryz.prog 141=some [.g (.int .i64 0),.g (.string ⟨#[]⟩),.g (.string ⟨#[]⟩),.g (.int .i64 0),.g (.int .i64 0),.g (.slice none 0 0)]:=by kernel_rfl
attribute [go_sem] ze_simp6 zi_int
theorem VSdrop {GT:GTab} {l l':List AV} {m m':ML} {n n':Nat} (hm:∀ p∈m',p.1<n'∧ltB n' p.2∧getL m p.1=some p.2) (hl:keepT n' l' l):VS GT .none (stL l m n) (stL l' m' n') :=
 VS.drop (fun c k hc=>hm (c,k) (getL_mem hc)) hl
def simps (PT:List Part):Nat:=(PT.map fun p=>p.l.length).sum
end Go.Proofs.YtabliahkhafddaaGreat
namespace Go.Proofs.YtabliahkhafddaaGreat
open Go.RowKit Go.Ev Go.Sort
open Go.Ev.AV renaming any→aN
attribute [local go_sem] eq_self false_and and_false Bool.false_eq_true List.set_cons_succ List.set_cons_zero List.getD_cons_succ List.getD_cons_zero List.getElem?_cons_succ List.getElem?_cons_zero true_and and_true and_self Bool.not_true Bool.not_false Nat.add_zero Nat.zero_add Nat.mul_one Int.toNat_natCast Int.natCast_nonneg Int.ofNat_lt Option.bind_some Option.map_some List.map_cons List.map_nil decide_true decide_false BEq.rfl Bool.and_self Bool.and_true Bool.and_false beq_self_eq_true List.cons_append List.nil_append List.take_zero List.take_succ_cons List.take_nil List.drop_succ_cons List.drop_zero List.drop_nil List.append_nil List.length_cons List.length_nil List.all_cons List.all_nil Nat.le_refl Int.le_refl Option.map_none List.replicate_zero List.replicate_succ Nat.zero_mul Nat.sub_zero Nat.zero_le Nat.le_zero_eq Q1z Option.some_or Option.none_or Option.or_none Option.isSome_some Option.isSome_none Option.getD_some Option.getD_none Int.toNat_zero Int.natCast_zero Int.natCast_one Int.cast_ofNat_Int List.toList_toArray
end Go.Proofs.YtabliahkhafddaaGreat
namespace Go.Proofs.YtabliahkhafddaaGreat
open Go.RowKit Go.Ev
open Go.Ev.AV renaming any→aN
attribute [local go_sem] eq_self false_and and_false Bool.false_eq_true List.set_cons_succ List.set_cons_zero List.getD_cons_succ List.getD_cons_zero List.getElem?_cons_succ List.getElem?_cons_zero true_and and_true and_self Bool.not_true Bool.not_false Nat.add_zero Nat.zero_add Nat.mul_one Int.toNat_natCast Int.natCast_nonneg Int.ofNat_lt Option.bind_some Option.map_some List.map_cons List.map_nil decide_true decide_false BEq.rfl Bool.and_self Bool.and_true Bool.and_false beq_self_eq_true List.cons_append List.nil_append List.take_zero List.take_succ_cons List.take_nil List.drop_succ_cons List.drop_zero List.drop_nil List.append_nil List.length_cons List.length_nil List.all_cons List.all_nil Nat.le_refl Int.le_refl Option.map_none List.replicate_zero List.replicate_succ Nat.zero_mul Nat.sub_zero Nat.zero_le Nat.le_zero_eq Q1z Option.some_or Option.none_or Option.or_none Option.isSome_some Option.isSome_none Option.getD_some Option.getD_none Int.toNat_zero Int.natCast_zero Int.natCast_one Int.cast_ofNat_Int List.toList_toArray
attribute [go_sem] appL newsA isSlice
section
variable {P:Program} {GT:GTab} {rd:List Mem}
end
attribute [go_sem] appL newsA isSlice
attribute [go_sem] appL newsA isSlice
def TinyPg (p:List Nod):Prop:=∀ x∈p,x.name.size≤999999∧∀ a∈x.attrs,a.value.size≤999999
attribute [go_sem] appL newsA isSlice
abbrev Ky:=Int×ByteArray
abbrev En:=Cx×Nat
abbrev Gr:=List (Ky×List En)
def encEn (e:En):List AV:=[.sl e.1.parts.length 2 (e.1.parts.flatMap encP),.g (.string e.1.pseudo),.g (.int .i64 (e.2:Int)),.sl (wordsC e.1).length 1 ((wordsC e.1).flatMap encN)]
def keyAg (k:Ky):AV:=.agg [.g (.int .i64 k.1),.g (.string k.2)]
def encG (val:Nat→List En→AV):Nat→Gr→List (Nat×AV×AV)
 | _,[]=>[]
 | o,e::G=>(o,keyAg e.1,val o e.2)::encG val (o+1) G
def sealV4 (_:Nat) (es:List En):AV:=.sl es.length 4 (es.flatMap encEn)
attribute [go_sem] appL newsA isSlice
theorem sz_cx:szO Tryz.prog 39=some 2:=by kernel_rfl
theorem ze_cx:zeroO Tryz.prog 39=some [.g (.slice none 0 0),.g (.string ⟨#[]⟩)]:=by kernel_rfl
attribute [go_sem] sz_cx ze_cx
attribute [go_sem] appL newsA isSlice
attribute [go_sem] appL newsA isSlice
attribute [go_sem] appL newsA isSlice
def okQ (c:Cx):Prop:=okPT c.parts∧simps c.parts≤1000000∧∀ pt∈c.parts,∀ x∈pt.l,x.name.size≤999999
structure Asked (p:List Nod) (st:List Stt) (l:List Cx):Prop where
 pg:OkPg p
 tiny:TinyPg p
 st:st.length≤1000000
 len:l.length≤1000000
 sel:∀ c∈l,okQ c
attribute [go_sem] appL newsA isSlice
theorem un_rowsA:slOrStr (Tryz.prog.underlying 50)=true:=by kernel_rfl
attribute [go_sem] un_rowsA
def encRow (x:List Int):List AV:=[.sl x.length 1 (x.flatMap encZ)]
def memA (G:Gr) (acc:List (List Int)):ML:=(0,.map (encG sealV4 0 G) G.length)::(1,.cells [.mp 0])::rowsM encRow 2 (fun _=>acc) 1
theorem getA {G:Gr} {acc:List (List Int)} {c:Nat} {k:Blk} (h:getL (memA G acc) c=some k):(c=0∧k=.map (encG sealV4 0 G) G.length)∨(c=1∧k=.cells [.mp 0])∨(c=2∧acc≠[]∧k=.cells (acc.flatMap encRow)):=by
 unfold memA at h;rw [getL] at h
 split at h
 ·rename_i e;cases h;exact .inl ⟨e.symm,rfl⟩
 ·rw [getL] at h
  split at h
  ·rename_i e;cases h;exact .inr (.inl ⟨e.symm,rfl⟩)
  ·rw [Q2e] at h
   split at h
   ·rename_i e;cases h;exact .inr (.inr ⟨by omega,e.2.2,rfl⟩)
   ·cases h
attribute [go_sem] appL newsA isSlice
set_option maxRecDepth 100000 in
set_option maxHeartbeats 4000000 in
theorem ints_p (xs ys:List Int) (hx:xs.length≤1000000):PureN Tryz.prog gt0 42 [.sl xs.length 1 (xs.flatMap encZ),.sl ys.length 1 (ys.flatMap encZ)] (.g (.bool (decide (xs=ys)))):=by
 refine PureN.of_w (c:=_) Tryz.func42 rfl (by kernel_rfl) rfl ?_;simp only [Tryz.f42,List.replicate,List.length_cons,List.length_nil,Nat.reduceAdd,Nat.reduceSub,List.cons_append,List.nil_append]
 by_cases hl:xs.length=ys.length
 ·have fl:((xs.length:Int)=(ys.length:Int))=True:=eq_true (by omega)
  (repeat ((try with_reducible refine W.step (b:=false) ?_);simp (decide:=true) only [go_sem,↓reduceIte,Nat.reduceAdd,Nat.reduceSub,fl];try with_reducible refine drawn hmix (by kernel_rfl) ?_))
  refine W.loop (s1:=stL [(.sl xs.length 1 (xs.flatMap encZ)),(.sl ys.length 1 (ys.flatMap encZ)),aN,aN,(.g (.bool false)),(.g (.int .i64 ((0:Nat):Int))),aN,aN,aN,aN,aN,aN,aN,aN,aN,aN,aN,aN,aN,aN,aN,aN,aN,aN,aN,aN] [] 0)
   (fun (k:Nat) t=>k≤xs.length∧xs.take k=ys.take k∧t=stL [(.sl xs.length 1 (xs.flatMap encZ)),(.sl ys.length 1 (ys.flatMap encZ)),aN,aN,(.g (.bool false)),(.g (.int .i64 (k:Int))),aN,aN,aN,aN,aN,aN,aN,aN,aN,aN,aN,aN,aN,aN,aN,aN,aN,aN,aN,aN] [] 0) (fun k=>xs.length - k) 0 ⟨Nat.zero_le _,by simp,rfl⟩ (VS.tm (by simp [leL])) ?_
  rintro k t ⟨hk,hq,rfl⟩
  by_cases hlt:k<xs.length
  ·have hlt2:k<ys.length:=by omega
   have r1:=rowZ hlt;have r2:=rowZ hlt2
   by_cases he:xs[k]=ys[k]
   ·have fe:=eq_true he
    (repeat ((try with_reducible refine W.step (b:=false) ?_);simp (decide:=true) only [go_sem,↓reduceIte,Nat.reduceAdd,Nat.reduceSub,hlt,hlt2,r1,r2,fe];try with_reducible refine drawn hmix (by kernel_rfl) ?_))
    refine ⟨k+1,_,⟨by omega,by rw [List.take_succ_eq_append_getElem hlt,List.take_succ_eq_append_getElem hlt2,hq,he],rfl⟩,by show xs.length - (k+1)<xs.length - k;omega,VS.tm ?_⟩;rw [up1 (by omega)];simp [leL]
   ·have fe:=eq_false he
    have hne:decide (xs=ys)=false:=decide_eq_false (fun e=>he (by subst e;rfl));rw [hne]
    (repeat ((try with_reducible refine W.step (b:=false) ?_);simp (decide:=true) only [go_sem,↓reduceIte,Nat.reduceAdd,Nat.reduceSub,hlt,hlt2,r1,r2,fe];try with_reducible refine drawn hmix (by kernel_rfl) ?_))
    exact Q0c _ (.inr rfl) rfl (.plain rfl)
  ·have heq:decide (xs=ys)=true:=decide_eq_true (by rw [List.take_of_length_le (by omega),List.take_of_length_le (by omega)] at hq;exact hq)
   rw [heq]
   (repeat ((try with_reducible refine W.step (b:=false) ?_);simp (decide:=true) only [go_sem,↓reduceIte,Nat.reduceAdd,Nat.reduceSub,hlt];try with_reducible refine drawn hmix (by kernel_rfl) ?_))
   exact Q0c _ (.inr rfl) rfl (.plain rfl)
 ·have hne:decide (xs=ys)=false:=decide_eq_false (fun e=>hl (by rw [e]))
  have fl:((xs.length:Int)=(ys.length:Int))=False:=eq_false (by omega);rw [hne]
  (repeat ((try with_reducible refine W.step (b:=false) ?_);simp (decide:=true) only [go_sem,↓reduceIte,Nat.reduceAdd,Nat.reduceSub,fl];try with_reducible refine drawn hmix (by kernel_rfl) ?_))
  exact Q0c _ (.inr rfl) rfl (.plain rfl)
theorem fl_st1:fldO Tryz.prog 108 1=some (1,9):=by kernel_rfl
attribute [go_sem] fl_st1
def ndSm (m:Nat) (x:Nod):Bool:=decide (x.name.size≤100)&&(decide (x.text.size≤300)&&(decide (x.attrs.length≤20)&&(decide (x.kids.length≤m)&&x.attrs.all fun a=>decide (a.name.size≤100)&&decide (a.value.size≤100))))
def pgSm (m:Nat) (p:List Nod):Bool:=decide (p.length≤m)&&p.all (ndSm m)
theorem rowNdS {l:List Nod} {k:Nat} (hk:k<l.length):((l.flatMap encNd).drop (k*5)).take 5=[.g (.string l[k].name),.sl l[k].attrs.length 2 (l[k].attrs.flatMap encA),.g (.string l[k].text),.g (.int .i64 l[k].up),.sl l[k].kids.length 1 (l[k].kids.flatMap encZ)]∧k*5+5≤(l.flatMap encNd).length :=
 ⟨row_part encNd 5 (fun _=>rfl) l k hk 0 5 (by decide),row_fit encNd 5 (fun _=>rfl) l k hk (j:=0) (by decide)⟩
set_option maxRecDepth 100000 in
set_option maxHeartbeats 4000000 in
theorem small10_p (p:List Nod) (m:Nat) (hm:m≤1000):PureN Tryz.prog gt0 11 [.sl p.length 5 (p.flatMap encNd),.g (.int .i64 (m:Int))] (.g (.bool (pgSm m p))):=by
 refine PureN.of_w (c:=_) Tryz.func11 rfl (by kernel_rfl) rfl ?_;simp only [Tryz.f11,List.replicate,List.length_cons,List.length_nil,Nat.reduceAdd,Nat.reduceSub,List.cons_append,List.nil_append];unfold pgSm
 (repeat ((try with_reducible refine W.step (b:=false) ?_);simp (decide:=true) only [go_sem,↓reduceIte,Nat.reduceAdd,Nat.reduceSub]))
 refine W.loop (s1:=stL [(.sl p.length 5 (p.flatMap encNd)),(.g (.int .i64 (m:Int))),aN,aN,(.g (.bool false)),(.g (.int .i64 ((0:Nat):Int))),aN,aN,aN,aN,aN,aN,aN,aN,aN,aN,aN,aN,aN,aN,aN,aN,aN,aN,aN,aN,aN,aN,aN,aN,aN,aN,aN,aN,aN,aN,aN,aN,aN,aN,aN,aN,aN,aN,aN,aN,aN,aN,aN,aN,aN,aN,aN,aN,aN,aN,aN,aN,aN,aN,aN,aN,aN,aN,aN,aN,aN,aN,aN,aN,aN,aN,aN,aN,aN,aN] [] 0)
  (fun (k:Nat) t=>(k≤p.length∧∀ y∈p.take k,ndSm m y=true)∧t=stL [(.sl p.length 5 (p.flatMap encNd)),(.g (.int .i64 (m:Int))),aN,aN,(.g (.bool false)),(.g (.int .i64 (k:Int))),aN,aN,aN,aN,aN,aN,aN,aN,aN,aN,aN,aN,aN,aN,aN,aN,aN,aN,aN,aN,aN,aN,aN,aN,aN,aN,aN,aN,aN,aN,aN,aN,aN,aN,aN,aN,aN,aN,aN,aN,aN,aN,aN,aN,aN,aN,aN,aN,aN,aN,aN,aN,aN,aN,aN,aN,aN,aN,aN,aN,aN,aN,aN,aN,aN,aN,aN,aN,aN,aN] [] 0) (fun k=>p.length - k) 0 ⟨⟨Nat.zero_le _,by simp⟩,rfl⟩ (VS.tm (by simp [leL])) ?_
 rintro k t ⟨⟨hk,hq⟩,rfl⟩
 by_cases hlt:k<p.length
 ·obtain ⟨s1,s2⟩:=rowNdS hlt
  by_cases hlm:p.length≤m
  ·have fm:((p.length:Int)≤(m:Int))=True:=eq_true (by omega)
   have bad:ndSm m p[k]=false→(decide (p.length≤m)&&p.all (ndSm m))=false:=fun h=>by
    rw [show p.all (ndSm m)=false from List.all_eq_false.2 ⟨_,List.getElem_mem hlt,by rw [h];decide⟩,Bool.and_false]
   by_cases h1:p[k].name.size≤100
   rotate_left
   ·have f1:((100:Int)<(p[k].name.size:Int))=True:=eq_true (by omega)
    rw [bad (by unfold ndSm;rw [decide_eq_false h1];rfl)]
    (repeat ((try with_reducible refine W.step (b:=false) ?_);simp (decide:=true) only [go_sem,↓reduceIte,Nat.reduceAdd,Nat.reduceSub,hlt,fm,s1,s2,f1]))
    exact Q0c _ (.inr rfl) rfl (.plain rfl)
   have f1:((100:Int)<(p[k].name.size:Int))=False:=eq_false (by omega)
   by_cases h2:p[k].text.size≤300
   rotate_left
   ·have f2:((300:Int)<(p[k].text.size:Int))=True:=eq_true (by omega)
    rw [bad (by unfold ndSm;rw [decide_eq_false h2];simp)]
    (repeat ((try with_reducible refine W.step (b:=false) ?_);simp (decide:=true) only [go_sem,↓reduceIte,Nat.reduceAdd,Nat.reduceSub,hlt,fm,s1,s2,f1,f2]))
    exact Q0c _ (.inr rfl) rfl (.plain rfl)
   have f2:((300:Int)<(p[k].text.size:Int))=False:=eq_false (by omega)
   by_cases h3:p[k].attrs.length≤20
   rotate_left
   ·have f3:((20:Int)<(p[k].attrs.length:Int))=True:=eq_true (by omega)
    rw [bad (by unfold ndSm;rw [decide_eq_false h3];simp)]
    (repeat ((try with_reducible refine W.step (b:=false) ?_);simp (decide:=true) only [go_sem,↓reduceIte,Nat.reduceAdd,Nat.reduceSub,hlt,fm,s1,s2,f1,f2,f3]))
    exact Q0c _ (.inr rfl) rfl (.plain rfl)
   have f3:((20:Int)<(p[k].attrs.length:Int))=False:=eq_false (by omega)
   by_cases h4:p[k].kids.length≤m
   rotate_left
   ·have f4:((m:Int)<(p[k].kids.length:Int))=True:=eq_true (by omega)
    rw [bad (by unfold ndSm;rw [decide_eq_false h4];simp)]
    (repeat ((try with_reducible refine W.step (b:=false) ?_);simp (decide:=true) only [go_sem,↓reduceIte,Nat.reduceAdd,Nat.reduceSub,hlt,fm,s1,s2,f1,f2,f3,f4]))
    exact Q0c _ (.inr rfl) rfl (.plain rfl)
   have f4:((m:Int)<(p[k].kids.length:Int))=False:=eq_false (by omega)
   (repeat ((try with_reducible refine W.step (b:=false) ?_);simp (decide:=true) only [go_sem,↓reduceIte,Nat.reduceAdd,Nat.reduceSub,hlt,fm,s1,s2,f1,f2,f3,f4]))
   refine W.loop (s1:=stL [(.sl p.length 5 (p.flatMap encNd)),(.g (.int .i64 (m:Int))),aN,aN,(.g (.bool false)),(.g (.int .i64 (k:Int))),(.ptr 0 0),(.g (.int .i64 ((0:Nat):Int))),aN,aN,aN,aN,aN,aN,aN,aN,aN,aN,aN,aN,aN,aN,aN,aN,aN,aN,aN,aN,aN,aN,aN,aN,aN,aN,aN,aN,aN,aN,aN,aN,aN,aN,aN,aN,aN,aN,aN,aN,aN,aN,aN,aN,aN,aN,aN,aN,aN,aN,aN,aN,aN,aN,aN,aN,aN,aN,aN,aN,aN,aN,aN,aN,aN,aN,aN,aN] [(0,.cells [.g (.string p[k].name),.sl p[k].attrs.length 2 (p[k].attrs.flatMap encA),.g (.string p[k].text),.g (.int .i64 p[k].up),.sl p[k].kids.length 1 (p[k].kids.flatMap encZ)])] 1)
    (fun (j:Nat) t=>(j≤p[k].attrs.length∧∀ y∈p[k].attrs.take j,(decide (y.name.size≤100)&&decide (y.value.size≤100))=true)∧t=stL [(.sl p.length 5 (p.flatMap encNd)),(.g (.int .i64 (m:Int))),aN,aN,(.g (.bool false)),(.g (.int .i64 (k:Int))),(.ptr 0 0),(.g (.int .i64 (j:Int))),aN,aN,aN,aN,aN,aN,aN,aN,aN,aN,aN,aN,aN,aN,aN,aN,aN,aN,aN,aN,aN,aN,aN,aN,aN,aN,aN,aN,aN,aN,aN,aN,aN,aN,aN,aN,aN,aN,aN,aN,aN,aN,aN,aN,aN,aN,aN,aN,aN,aN,aN,aN,aN,aN,aN,aN,aN,aN,aN,aN,aN,aN,aN,aN,aN,aN,aN,aN] [(0,.cells [.g (.string p[k].name),.sl p[k].attrs.length 2 (p[k].attrs.flatMap encA),.g (.string p[k].text),.g (.int .i64 p[k].up),.sl p[k].kids.length 1 (p[k].kids.flatMap encZ)])] 1) (fun j=>p[k].attrs.length - j) 0 ⟨⟨Nat.zero_le _,by simp⟩,rfl⟩ (VS.tm (by simp [leL])) ?_
   rintro j t ⟨⟨hj,hqa⟩,rfl⟩
   by_cases hlj:j<p[k].attrs.length
   ·obtain ⟨a1,a2,-⟩:=rowA hlj
    by_cases g1:p[k].attrs[j].name.size≤100
    rotate_left
    ·have e1:((100:Int)<(p[k].attrs[j].name.size:Int))=True:=eq_true (by omega)
     have hf:(p[k].attrs.all fun a=>decide (a.name.size≤100)&&decide (a.value.size≤100))=false:=List.all_eq_false.2 ⟨_,List.getElem_mem hlj,by rw [decide_eq_false g1];simp⟩;rw [bad (by unfold ndSm;rw [hf];simp)]
     (repeat ((try with_reducible refine W.step (b:=true) ?_);simp (decide:=true) only [go_sem,↓reduceIte,Nat.reduceAdd,Nat.reduceSub,hlj,a1,a2,e1];(try with_reducible refine drawn hmix (by kernel_rfl) ?_);try with_reducible refine ⟨by kernel_rfl,?_⟩))
     exact Q0c _ (.inr rfl) rfl (.plain rfl)
    have e1:((100:Int)<(p[k].attrs[j].name.size:Int))=False:=eq_false (by omega)
    by_cases g2:p[k].attrs[j].value.size≤100
    rotate_left
    ·have e2:((100:Int)<(p[k].attrs[j].value.size:Int))=True:=eq_true (by omega)
     have hf:(p[k].attrs.all fun a=>decide (a.name.size≤100)&&decide (a.value.size≤100))=false:=List.all_eq_false.2 ⟨_,List.getElem_mem hlj,by rw [decide_eq_false g2];simp⟩;rw [bad (by unfold ndSm;rw [hf];simp)]
     (repeat ((try with_reducible refine W.step (b:=true) ?_);simp (decide:=true) only [go_sem,↓reduceIte,Nat.reduceAdd,Nat.reduceSub,hlj,a1,a2,e1,e2];(try with_reducible refine drawn hmix (by kernel_rfl) ?_);try with_reducible refine ⟨by kernel_rfl,?_⟩))
     exact Q0c _ (.inr rfl) rfl (.plain rfl)
    have e2:((100:Int)<(p[k].attrs[j].value.size:Int))=False:=eq_false (by omega)
    (repeat ((try with_reducible refine W.step (b:=true) ?_);simp (decide:=true) only [go_sem,↓reduceIte,Nat.reduceAdd,Nat.reduceSub,hlj,a1,a2,e1,e2];(try with_reducible refine drawn hmix (by kernel_rfl) ?_);try with_reducible refine ⟨by kernel_rfl,?_⟩))
    refine ⟨j+1,_,⟨⟨hlj,fun y hy=>?_⟩,rfl⟩,by show p[k].attrs.length - (j+1)<p[k].attrs.length - j;omega,?_⟩
    ·rw [List.take_succ_eq_append_getElem hlj,List.mem_append] at hy
     rcases hy with hy | hy
     ·exact hqa y hy
     ·simp at hy;subst hy;rw [decide_eq_true g1,decide_eq_true g2];rfl
    ·rw [up1 (by omega)]
     exact VS.tm (by simp [leL])
   ·(repeat ((try with_reducible refine W.step (b:=false) ?_);simp (decide:=true) only [go_sem,↓reduceIte,Nat.reduceAdd,Nat.reduceSub,hlj]))
    rw [List.take_of_length_le (by omega)] at hqa;refine ⟨k+1,_,⟨⟨hlt,fun y hy=>?_⟩,rfl⟩,by show p.length - (k+1)<p.length - k;omega,?_⟩
    ·rw [List.take_succ_eq_append_getElem hlt,List.mem_append] at hy
     rcases hy with hy | hy
     ·exact hq y hy
     ·simp at hy;subst hy
      unfold ndSm;rw [decide_eq_true h1,decide_eq_true h2,decide_eq_true h3,decide_eq_true h4,List.all_eq_true.2 hqa];rfl
    ·rw [up1 (by omega)]
     exact VSdrop (by simp) (by simp [keepT_cons,keepT_nil,ltA])
  ·have fm:((p.length:Int)≤(m:Int))=False:=eq_false (by omega)
   rw [decide_eq_false hlm,Bool.false_and]
   (repeat ((try with_reducible refine W.step (b:=false) ?_);simp (decide:=true) only [go_sem,↓reduceIte,Nat.reduceAdd,Nat.reduceSub,hlt,fm]))
   exact Q0c _ (.inr rfl) rfl (.plain rfl)
 ·rw [List.take_of_length_le (by omega)] at hq
  rw [List.all_eq_true.2 hq,Bool.and_true]
  by_cases hlm:p.length≤m
  ·have fm:((p.length:Int)≤(m:Int))=True:=eq_true (by omega)
   rw [decide_eq_true hlm]
   (repeat ((try with_reducible refine W.step (b:=false) ?_);simp (decide:=true) only [go_sem,↓reduceIte,Nat.reduceAdd,Nat.reduceSub,hlt,fm]))
   exact Q0c _ (.inr rfl) rfl (.plain rfl)
  ·have fm:((p.length:Int)≤(m:Int))=False:=eq_false (by omega)
   rw [decide_eq_false hlm]
   (repeat ((try with_reducible refine W.step (b:=false) ?_);simp (decide:=true) only [go_sem,↓reduceIte,Nat.reduceAdd,Nat.reduceSub,hlt,fm]))
   exact Q0c _ (.inr rfl) rfl (.plain rfl)
end Go.Proofs.YtabliahkhafddaaGreat
end
