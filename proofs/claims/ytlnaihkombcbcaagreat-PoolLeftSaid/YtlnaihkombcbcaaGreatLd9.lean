/- Sheets that come in, with what their selectors are bounded by. -/
import Derived.Test.YtlnaihkombcbcaaGreatLc6
import Derived.Test.YtlnaihkombcbcaaGreatLd5
import Derived.IntWalk
import Derived.Test.YtlnaihkombcbcaaGreatLd8
import Derived.ProofKit
set_option linter.unusedSimpArgs false
noncomputable section
namespace Go.Proofs.YtlnaihkombcbcaaGreat
open Go.RowKit Go.Ev
abbrev gt0 : GTab := fun _ => none
theorem hmix : Tryz.prog.follows .mixedOrders = true := by kernel_rfl
theorem ag_int : aggO Tryz.prog 3 = some (false, 1) := by kernel_rfl
theorem ag_bool : aggO Tryz.prog 4 = some (false, 1) := by kernel_rfl
theorem ag_str : aggO Tryz.prog 9 = some (false, 1) := by kernel_rfl
theorem ag_strs : aggO Tryz.prog 25 = some (false, 1) := by kernel_rfl
theorem ag_vals : aggO Tryz.prog 27 = some (false, 1) := by kernel_rfl
theorem ag_items : aggO Tryz.prog 46 = some (false, 1) := by kernel_rfl
theorem ag_cxs : aggO Tryz.prog 50 = some (false, 1) := by kernel_rfl
theorem ag_decls : aggO Tryz.prog 51 = some (false, 1) := by kernel_rfl
theorem ag_parts : aggO Tryz.prog 88 = some (false, 1) := by kernel_rfl
theorem ag_simps : aggO Tryz.prog 178 = some (false, 1) := by kernel_rfl
theorem ag_item : aggO Tryz.prog 53 = some (true, 8) := by kernel_rfl
theorem ag_tok : aggO Tryz.prog 65 = some (true, 3) := by kernel_rfl
theorem ag_val : aggO Tryz.prog 67 = some (true, 5) := by kernel_rfl
theorem ag_cx : aggO Tryz.prog 90 = some (true, 2) := by kernel_rfl
theorem ag_decl : aggO Tryz.prog 134 = some (true, 3) := by kernel_rfl
theorem ag_part : aggO Tryz.prog 180 = some (true, 2) := by kernel_rfl
theorem ag_simp : aggO Tryz.prog 239 = some (true, 6) := by kernel_rfl
theorem el_strs : elemO Tryz.prog 25 = some 1 := by kernel_rfl
theorem el_vals : elemO Tryz.prog 27 = some 5 := by kernel_rfl
theorem el_items : elemO Tryz.prog 46 = some 8 := by kernel_rfl
theorem el_cxs : elemO Tryz.prog 50 = some 2 := by kernel_rfl
theorem el_decls : elemO Tryz.prog 51 = some 3 := by kernel_rfl
theorem el_parts : elemO Tryz.prog 88 = some 2 := by kernel_rfl
theorem el_simps : elemO Tryz.prog 178 = some 6 := by kernel_rfl
theorem fl_val0 : fldO Tryz.prog 67 0 = some (0, 3) := by kernel_rfl
theorem fl_val1 : fldO Tryz.prog 67 1 = some (1, 65) := by kernel_rfl
theorem fl_val2 : fldO Tryz.prog 67 2 = some (4, 27) := by kernel_rfl
theorem fl_tok0 : fldO Tryz.prog 65 0 = some (0, 3) := by kernel_rfl
theorem fl_tok1 : fldO Tryz.prog 65 1 = some (1, 9) := by kernel_rfl
theorem fl_tok2 : fldO Tryz.prog 65 2 = some (2, 3) := by kernel_rfl
theorem fl_decl0 : fldO Tryz.prog 134 0 = some (0, 9) := by kernel_rfl
theorem fl_decl1 : fldO Tryz.prog 134 1 = some (1, 27) := by kernel_rfl
theorem fl_decl2 : fldO Tryz.prog 134 2 = some (2, 4) := by kernel_rfl
theorem fl_item0 : fldO Tryz.prog 53 0 = some (0, 3) := by kernel_rfl
theorem fl_item1 : fldO Tryz.prog 53 1 = some (1, 50) := by kernel_rfl
theorem fl_item2 : fldO Tryz.prog 53 2 = some (2, 51) := by kernel_rfl
theorem fl_item3 : fldO Tryz.prog 53 3 = some (3, 25) := by kernel_rfl
theorem fl_item4 : fldO Tryz.prog 53 4 = some (4, 3) := by kernel_rfl
theorem fl_item5 : fldO Tryz.prog 53 5 = some (5, 3) := by kernel_rfl
theorem fl_item6 : fldO Tryz.prog 53 6 = some (6, 27) := by kernel_rfl
theorem fl_item7 : fldO Tryz.prog 53 7 = some (7, 46) := by kernel_rfl
theorem fl_cx0 : fldO Tryz.prog 90 0 = some (0, 88) := by kernel_rfl
theorem fl_cx1 : fldO Tryz.prog 90 1 = some (1, 9) := by kernel_rfl
theorem fl_part0 : fldO Tryz.prog 180 0 = some (0, 3) := by kernel_rfl
theorem fl_part1 : fldO Tryz.prog 180 1 = some (1, 178) := by kernel_rfl
theorem fl_simp0 : fldO Tryz.prog 239 0 = some (0, 3) := by kernel_rfl
theorem fl_simp1 : fldO Tryz.prog 239 1 = some (1, 9) := by kernel_rfl
theorem fl_simp2 : fldO Tryz.prog 239 2 = some (2, 9) := by kernel_rfl
theorem fl_simp3 : fldO Tryz.prog 239 3 = some (3, 3) := by kernel_rfl
theorem fl_simp4 : fldO Tryz.prog 239 4 = some (4, 3) := by kernel_rfl
theorem fl_simp5 : fldO Tryz.prog 239 5 = some (5, 178) := by kernel_rfl
theorem sz_item : szO Tryz.prog 53 = some 8 := by kernel_rfl
theorem sz_part : szO Tryz.prog 180 = some 2 := by kernel_rfl
theorem ze_item : zeroO Tryz.prog 53 = some [.g (.int .i64 0), .g (.slice none 0 0), .g (.slice none 0 0), .g (.slice none 0 0), .g (.int .i64 0), .g (.int .i64 0), .g (.slice none 0 0), .g (.slice none 0 0)] := by kernel_rfl
theorem ze_part : zeroO Tryz.prog 180 = some [.g (.int .i64 0), .g (.slice none 0 0)] := by kernel_rfl
theorem un_bool : Tryz.prog.underlying 4 = some .bool := by kernel_rfl
theorem eqg_tok : Tryz.prog.eqGuardType Tryz.prog.depth 65 = false := by kernel_rfl
attribute [go_sem] ag_int ag_bool ag_str ag_strs ag_vals ag_items ag_cxs ag_decls ag_parts ag_simps ag_item ag_tok ag_val ag_cx ag_decl ag_part ag_simp el_strs el_vals el_items el_cxs el_decls el_parts el_simps
 fl_val0 fl_val1 fl_val2 fl_tok0 fl_tok1 fl_tok2 fl_decl0 fl_decl1 fl_decl2 fl_item0 fl_item1 fl_item2 fl_item3 fl_item4 fl_item5 fl_item6 fl_item7 fl_cx0 fl_cx1 fl_part0 fl_part1 fl_simp0 fl_simp1 fl_simp2 fl_simp3 fl_simp4 fl_simp5
 sz_item sz_part ze_item ze_part un_bool eqg_tok
theorem up1 {k : Nat} (h : k < 1000000000000000000) : IntKind.i64.wrap ((k : Int) + 1) = ((k + 1 : Nat) : Int) := by rw [IntWalk.i64_in _ (by omega)]; push_cast; rfl
section
variable {α : Type}
theorem row_part (enc : α → List AV) (sz : Nat) (hsz : ∀ x, (enc x).length = sz) : ∀ (l : List α) (k : Nat) (hk : k < l.length) (j c : Nat), j + c ≤ sz → ((l.flatMap enc).drop (k * sz + j)).take c = ((enc l[k]).drop j).take c
 | x :: l, 0, _, j, c, h => by
   rw [List.flatMap_cons, Nat.zero_mul, Nat.zero_add, List.drop_append, List.take_append]
   have h1 : c - (List.drop j (enc x)).length = 0 := by rw [List.length_drop, hsz]; omega
   rw [h1, List.take_zero, List.append_nil]; rfl
 | x :: l, k + 1, hk, j, c, h => by
   rw [List.flatMap_cons, List.drop_append, List.drop_of_length_le (by rw [hsz, Nat.succ_mul]; omega), List.nil_append, hsz, show (k + 1) * sz + j - sz = k * sz + j by rw [Nat.succ_mul]; omega]
   exact row_part enc sz hsz l k (by simpa using hk) j c h
theorem row_len (enc : α → List AV) (sz : Nat) (hsz : ∀ x, (enc x).length = sz) : ∀ (l : List α), (l.flatMap enc).length = l.length * sz
 | [] => by simp
 | x :: l => by rw [List.flatMap_cons, List.length_append, hsz, row_len enc sz hsz l, List.length_cons, Nat.succ_mul, Nat.add_comm]
theorem row_fit (enc : α → List AV) (sz : Nat) (hsz : ∀ x, (enc x).length = sz) (l : List α) (k : Nat) (hk : k < l.length) {j c : Nat} (h : j + c ≤ sz) : k * sz + j + c ≤ (l.flatMap enc).length := by
 rw [row_len enc sz hsz]
 have : (k + 1) * sz ≤ l.length * sz := Nat.mul_le_mul_right sz hk
 rw [Nat.succ_mul] at this
 omega
end
theorem encV_eq (x : Vl) : encV x = [.g (.int .i64 x.kind), .g (.int .i64 x.tk), .g (.string x.text), .g (.int .i64 x.n), .sl x.l.length 5 (x.l.flatMap encV)] := by cases x; rw [encV, encVs_flat]; rfl
theorem encS_eq (x : Simp) : ∃ a b, encS x = [.g (.int .i64 x.kind), .g (.string x.name), .g (.string x.value), .g (.int .i64 a), .g (.int .i64 b), .sl x.l.length 6 (x.l.flatMap encS)] := by
 obtain ⟨k, n, v, a, b, l⟩ := x
 exact ⟨a, b, by rw [encS, encSs_flat]; rfl⟩
theorem encI_eq (x : Itm) : encI x = [.g (.int .i64 x.kind), .sl x.sels.length 2 (x.sels.flatMap encC), .sl x.decls.length 3 (x.decls.flatMap encD), .sl x.names.length 1 (x.names.flatMap encN), .g (.int .i64 x.mn), .g (.int .i64 x.mx), .sl x.vals.length 5 (x.vals.flatMap encV), .sl x.l.length 8 (x.l.flatMap encI)] := by
 cases x; rw [encI, encIs_flat]; rfl
theorem rowN {l : List ByteArray} {k : Nat} (hk : k < l.length) : (l.flatMap encN)[k]? = some (.g (.string l[k])) := by
 have := flat_get encN 1 (fun _ => rfl) l k hk 0 (by decide)
 rwa [Nat.mul_one, Nat.add_zero] at this
theorem rowV {l : List Vl} {k : Nat} (hk : k < l.length) : (l.flatMap encV)[k * 5]? = some (.g (.int .i64 l[k].kind)) ∧ (l.flatMap encV)[k * 5 + 1]? = some (.g (.int .i64 l[k].tk)) ∧ (l.flatMap encV)[k * 5 + 1 + 1]? = some (.g (.string l[k].text)) ∧
 (l.flatMap encV)[k * 5 + 1 + 2]? = some (.g (.int .i64 l[k].n)) ∧ (l.flatMap encV)[k * 5 + 4]? = some (.sl l[k].l.length 5 (l[k].l.flatMap encV)) ∧
 ((l.flatMap encV).drop (k * 5 + 1)).take 3 = [.g (.int .i64 l[k].tk), .g (.string l[k].text), .g (.int .i64 l[k].n)] ∧ k * 5 + 1 + 3 ≤ (l.flatMap encV).length := by
 have h := flat_get encV 5 encV_len l k hk
 have h2 := row_part encV 5 encV_len l k hk 1 3 (by decide)
 rw [encV_eq] at h h2
 exact ⟨h 0 (by decide), h 1 (by decide), h 2 (by decide), h 3 (by decide), h 4 (by decide), h2, row_fit encV 5 encV_len l k hk (by decide)⟩
theorem rowD {l : List Dl} {k : Nat} (hk : k < l.length) : (l.flatMap encD)[k * 3]? = some (.g (.string l[k].name)) ∧ (l.flatMap encD)[k * 3 + 1]? = some (.sl l[k].l.length 5 (l[k].l.flatMap encV)) ∧ (l.flatMap encD)[k * 3 + 2]? = some (.g (.bool l[k].imp)) := by
 have h := flat_get encD 3 encD_len l k hk
 exact ⟨h 0 (by decide), h 1 (by decide), h 2 (by decide)⟩
theorem rowC {l : List Cx} {k : Nat} (hk : k < l.length) : (l.flatMap encC)[k * 2]? = some (.sl l[k].parts.length 2 (l[k].parts.flatMap encP)) ∧ (l.flatMap encC)[k * 2 + 1]? = some (.g (.string l[k].pseudo)) := by
 have h := flat_get encC 2 (fun _ => rfl) l k hk
 exact ⟨h 0 (by decide), h 1 (by decide)⟩
theorem rowP {l : List Part} {k : Nat} (hk : k < l.length) : ((l.flatMap encP).drop (k * 2)).take 2 = [.g (.int .i64 l[k].comb), .sl l[k].l.length 6 (l[k].l.flatMap encS)] ∧ k * 2 + 2 ≤ (l.flatMap encP).length := by
 have h2 := row_part encP 2 (fun _ => rfl) l k hk 0 2 (by decide)
 exact ⟨h2, row_fit encP 2 (fun _ => rfl) l k hk (j := 0) (by decide)⟩
theorem rowI {l : List Itm} {k : Nat} (hk : k < l.length) : ((l.flatMap encI).drop (k * 8)).take 8 = encI l[k] ∧ k * 8 + 8 ≤ (l.flatMap encI).length := by
 have h2 := row_part encI 8 encI_len l k hk 0 8 (by decide)
 rw [Nat.add_zero, List.drop_zero, List.take_of_length_le (l := encI l[k]) (by rw [encI_len]; decide)] at h2
 exact ⟨h2, row_fit encI 8 encI_len l k hk (j := 0) (by decide)⟩
theorem tok_neq9 (k1 n1 k2 n2 : Int) (s1 s2 : ByteArray) : pv Tryz.prog (binOp .neq 65 (.agg #[.int .i64 k1, .string s1, .int .i64 n1]) (.agg #[.int .i64 k2, .string s2, .int .i64 n2])) = some (.bool (!(decide (k1 = k2) && (decide (s1 = s2) && (decide (n1 = n2) && true))))) :=
 pv_neq_agg Tryz.underlying65 (by kernel_rfl) (by simp [eqFs, Tryz.underlying3, Tryz.underlying9])
end Go.Proofs.YtlnaihkombcbcaaGreat
end
set_option linter.unusedSimpArgs false
noncomputable section
namespace Go.Proofs.YtlnaihkombcbcaaGreat
open Go.RowKit Go.Ev
attribute [local go_sem] eq_self Bool.false_eq_true List.set_cons_succ List.set_cons_zero List.getD_cons_succ List.getD_cons_zero List.getElem?_cons_succ List.getElem?_cons_zero true_and and_true and_self Bool.not_true Bool.not_false Nat.add_zero Nat.zero_add Nat.mul_one Int.toNat_natCast Int.natCast_nonneg Int.ofNat_lt Option.bind_some Option.map_some List.map_cons List.map_nil decide_true decide_false BEq.rfl Bool.and_self Bool.and_true Bool.and_false beq_self_eq_true List.cons_append List.nil_append List.take_zero List.take_succ_cons List.take_nil List.drop_succ_cons List.drop_zero List.drop_nil List.append_nil List.length_cons List.length_nil List.all_cons List.all_nil Nat.le_refl Option.map_none List.replicate_zero List.replicate_succ Nat.zero_mul Nat.sub_zero Nat.zero_le Nat.le_zero_eq getR_nil Int.toNat_zero Int.natCast_zero Int.natCast_one Int.cast_ofNat_Int List.toList_toArray
set_option maxRecDepth 100000 in
set_option maxHeartbeats 4000000 in
theorem same2_p (N : Nat) : ∀ (l : List Vl), SizeOf.sizeOf l ≤ N → cntVs l ≤ 1000 → PureN Tryz.prog gt0 19 [.sl l.length 5 (l.flatMap encV), .sl l.length 5 (l.flatMap encV)] (.g (.bool true)) := by
 induction N with
 | zero => intro l hl; cases l <;> simp at hl <;> omega
 | succ N ih =>
   intro l hl hcn
   have hlen : l.length ≤ 1000 := Nat.le_trans (cntVs_len l) hcn
   have IH := fun k (hk : k < l.length) => ih l[k].l (by have := vl_lt (List.getElem_mem hk); omega) (by have := cntVs_at hk; omega)
   clear ih hl hcn
   refine PureN.of_w (c := _) Tryz.func19 rfl (by kernel_rfl) rfl ?_
   simp only [Tryz.f19, List.replicate, List.length_cons, List.length_nil, Nat.reduceAdd, Nat.reduceSub, List.cons_append, List.nil_append]
   (repeat (first | (with_reducible first | refine W.seq ?_ | refine W.block ?_ | refine W.scope ?_) | ((first | (with_reducible first | refine W.skip ?_ | refine W.exit ?_ | refine W.ret ?_ | refine W.condL ?_ | refine W.regionA ?_) | ((with_reducible refine W.regionQA hmix ?_ ?_); focus kernel_rfl)); try simp only [go_sem, ↓reduceIte, Nat.reduceAdd, Nat.reduceSub, Nat.reduceMul, Nat.reduceEqDiff, Nat.reduceLeDiff])))
   refine W.loop (s1 := stL [(.sl l.length 5 (l.flatMap encV)), (.sl l.length 5 (l.flatMap encV)), .any, .any, (.g (.bool false)), (.g (.int .i64 ((0 : Nat) : Int))), .any, .any, .any, .any, .any, .any, .any, .any, .any, .any, .any, .any, .any, .any, .any, .any, .any, .any, .any, .any, .any, .any, .any, .any, .any, .any, .any, .any, .any, .any, .any, .any, .any, .any, .any, .any, .any, .any, .any, .any, .any, .any, .any, .any, .any, .any, .any, .any, .any] [] 0)
    (fun (k : Nat) s => k ≤ l.length ∧ s = stL [(.sl l.length 5 (l.flatMap encV)), (.sl l.length 5 (l.flatMap encV)), .any, .any, (.g (.bool false)), (.g (.int .i64 (k : Int))), .any, .any, .any, .any, .any, .any, .any, .any, .any, .any, .any, .any, .any, .any, .any, .any, .any, .any, .any, .any, .any, .any, .any, .any, .any, .any, .any, .any, .any, .any, .any, .any, .any, .any, .any, .any, .any, .any, .any, .any, .any, .any, .any, .any, .any, .any, .any, .any, .any] [] 0) (fun k => l.length - k) 0 ⟨Nat.zero_le _, rfl⟩ (VS.tm (by simp [leL])) ?_
   rintro k t ⟨hk, rfl⟩
   by_cases hlt : k < l.length
   ·obtain ⟨r0, r1, r2, r3, r4, r5, r6⟩ := rowV hlt
    (repeat (first | (with_reducible first | refine W.seq ?_ | refine W.block ?_ | refine W.scope ?_) | ((first | (with_reducible first | refine W.skip ?_ | refine W.exit ?_ | refine W.ret ?_ | refine W.condL ?_ | refine W.regionA ?_) | ((with_reducible refine W.regionQA hmix ?_ ?_); focus kernel_rfl)); try simp only [go_sem, ↓reduceIte, Nat.reduceAdd, Nat.reduceSub, Nat.reduceMul, Nat.reduceEqDiff, Nat.reduceLeDiff, hlt, r0, r4, r5, r6, toGs, toG, tok_neq9])))
    refine AtCallQ.mk (IH k hlt) ?_
    simp only [go_sem, ↓reduceIte, Nat.reduceAdd, Nat.reduceSub, Nat.reduceMul, Nat.reduceEqDiff, Nat.reduceLeDiff]
    (repeat (first | (with_reducible first | refine W.seq ?_ | refine W.block ?_ | refine W.scope ?_) | ((first | (with_reducible first | refine W.skip ?_ | refine W.exit ?_ | refine W.ret ?_ | refine W.condL ?_ | refine W.regionA ?_) | ((with_reducible refine W.regionQA hmix ?_ ?_); focus kernel_rfl)); try simp only [go_sem, ↓reduceIte, Nat.reduceAdd, Nat.reduceSub, Nat.reduceMul, Nat.reduceEqDiff, Nat.reduceLeDiff])))
    refine ⟨k + 1, _, ⟨by omega, rfl⟩, by show l.length - (k + 1) < l.length - k; omega, VS.tm ?_⟩
    rw [up1 (by omega)]
    simp [leL]
   ·(repeat (first | (with_reducible first | refine W.seq ?_ | refine W.block ?_ | refine W.scope ?_) | ((first | (with_reducible first | refine W.skip ?_ | refine W.exit ?_ | refine W.ret ?_ | refine W.condL ?_ | refine W.regionA ?_) | ((with_reducible refine W.regionQA hmix ?_ ?_); focus kernel_rfl)); try simp only [go_sem, ↓reduceIte, Nat.reduceAdd, Nat.reduceSub, Nat.reduceMul, Nat.reduceEqDiff, Nat.reduceLeDiff, hlt])))
    exact postP_one _ (.inr rfl) rfl (.plain rfl)
end Go.Proofs.YtlnaihkombcbcaaGreat
end
set_option linter.unusedSimpArgs false
noncomputable section
namespace Go.Proofs.YtlnaihkombcbcaaGreat
open Go.RowKit Go.Ev
attribute [local go_sem] eq_self Bool.false_eq_true List.set_cons_succ List.set_cons_zero List.getD_cons_succ List.getD_cons_zero List.getElem?_cons_succ List.getElem?_cons_zero true_and and_true and_self Bool.not_true Bool.not_false Nat.add_zero Nat.zero_add Nat.mul_one Int.toNat_natCast Int.natCast_nonneg Int.ofNat_lt Option.bind_some Option.map_some List.map_cons List.map_nil decide_true decide_false BEq.rfl Bool.and_self Bool.and_true Bool.and_false beq_self_eq_true List.cons_append List.nil_append List.take_zero List.take_succ_cons List.take_nil List.drop_succ_cons List.drop_zero List.drop_nil List.append_nil List.length_cons List.length_nil List.all_cons List.all_nil Nat.le_refl Option.map_none List.replicate_zero List.replicate_succ Nat.zero_mul Nat.sub_zero Nat.zero_le Nat.le_zero_eq getR_nil Int.toNat_zero Int.natCast_zero Int.natCast_one Int.cast_ofNat_Int List.toList_toArray
theorem ag_bare : aggO Tryz.prog 293 = some (true, 5) := by kernel_rfl
theorem sz_bare : szO Tryz.prog 293 = some 5 := by kernel_rfl
theorem ze_bare : zeroO Tryz.prog 293 = some [.g (.int .i64 0), .g (.string ⟨#[]⟩), .g (.string ⟨#[]⟩), .g (.int .i64 0), .g (.int .i64 0)] := by kernel_rfl
theorem bl_bare (parts : List (Nat × AV)) : evBuild Tryz.prog 293 parts = aggM (fillL [(0, 1), (1, 1), (2, 1), (3, 1), (4, 1)] [.g (.int .i64 0), .g (.string ⟨#[]⟩), .g (.string ⟨#[]⟩), .g (.int .i64 0), .g (.int .i64 0)] parts) := evBuild_eq (by kernel_rfl) parts
theorem eqg_bare : Tryz.prog.eqGuardType Tryz.prog.depth 293 = false := by kernel_rfl
theorem bare_neq (k1 k2 a1 a2 b1 b2 : Int) (n1 n2 v1 v2 : ByteArray) : pv Tryz.prog (binOp .neq 293 (.agg #[.int .i64 k1, .string n1, .string v1, .int .i64 a1, .int .i64 b1]) (.agg #[.int .i64 k2, .string n2, .string v2, .int .i64 a2, .int .i64 b2])) =
 some (.bool (!(decide (k1 = k2) && (decide (n1 = n2) && (decide (v1 = v2) && (decide (a1 = a2) && (decide (b1 = b2) && true))))))) :=
 pv_neq_agg Tryz.underlying293 (by kernel_rfl) (by simp [eqFs, Tryz.underlying3, Tryz.underlying9])
attribute [go_sem] ag_bare sz_bare ze_bare eqg_bare
set_option maxRecDepth 100000 in
set_option maxHeartbeats 4000000 in
theorem plain4_p (k a b : Int) (n v : ByteArray) (n5 s5 : Nat) (cs5 : List AV) : PureN Tryz.prog gt0 207 [.agg [.g (.int .i64 k), .g (.string n), .g (.string v), .g (.int .i64 a), .g (.int .i64 b), .sl n5 s5 cs5]] (.agg [.g (.int .i64 k), .g (.string n), .g (.string v), .g (.int .i64 a), .g (.int .i64 b)]) := by
 refine PureN.of_w (c := _) Tryz.func207 rfl (by kernel_rfl) rfl ?_
 simp only [Tryz.f207, List.replicate, List.length_cons, List.length_nil, Nat.reduceAdd, Nat.reduceSub, List.cons_append, List.nil_append]
 (repeat (first | (with_reducible first | refine W.seq ?_ | refine W.block ?_ | refine W.scope ?_) | ((first | (with_reducible first | refine W.skip ?_ | refine W.exit ?_ | refine W.ret ?_ | refine W.condL ?_ | refine W.regionA ?_) | ((with_reducible refine W.regionQA hmix ?_ ?_); focus kernel_rfl)); try simp only [go_sem, ↓reduceIte, Nat.reduceAdd, Nat.reduceSub, Nat.reduceMul, Nat.reduceEqDiff, Nat.reduceLeDiff, bl_bare])))
 refine postP_one _ (.inr rfl) ?_ (.agg ?_)
 ·simp only [resV, go_sem, ↓reduceIte, Nat.reduceAdd, Nat.reduceSub, Nat.reduceMul, Nat.reduceEqDiff, Nat.reduceLeDiff]
 ·simp [plainA]
set_option maxRecDepth 100000 in
set_option maxHeartbeats 4000000 in
theorem same7_p (l : List Dl) (hlen : l.length ≤ 1000) (hcn : ∀ d ∈ l, cntVs d.l ≤ 1000) : PureN Tryz.prog gt0 79 [.sl l.length 3 (l.flatMap encD), .sl l.length 3 (l.flatMap encD)] (.g (.bool true)) := by
 refine PureN.of_w (c := _) Tryz.func79 rfl (by kernel_rfl) rfl ?_
 simp only [Tryz.f79, List.replicate, List.length_cons, List.length_nil, Nat.reduceAdd, Nat.reduceSub, List.cons_append, List.nil_append]
 (repeat (first | (with_reducible first | refine W.seq ?_ | refine W.block ?_ | refine W.scope ?_) | ((first | (with_reducible first | refine W.skip ?_ | refine W.exit ?_ | refine W.ret ?_ | refine W.condL ?_ | refine W.regionA ?_) | ((with_reducible refine W.regionQA hmix ?_ ?_); focus kernel_rfl)); try simp only [go_sem, ↓reduceIte, Nat.reduceAdd, Nat.reduceSub, Nat.reduceMul, Nat.reduceEqDiff, Nat.reduceLeDiff])))
 refine W.loop (s1 := stL [(.sl l.length 3 (l.flatMap encD)), (.sl l.length 3 (l.flatMap encD)), .any, .any, (.g (.bool false)), (.g (.int .i64 ((0 : Nat) : Int))), .any, .any, .any, .any, .any, .any, .any, .any, .any, .any, .any, .any, .any, .any, .any, .any, .any, .any, .any, .any, .any, .any, .any, .any, .any, .any, .any, .any, .any, .any, .any, .any, .any, .any, .any, .any, .any, .any, .any, .any, .any, .any, .any, .any, .any, .any, .any, .any, .any] [] 0)
  (fun (k : Nat) s => k ≤ l.length ∧ s = stL [(.sl l.length 3 (l.flatMap encD)), (.sl l.length 3 (l.flatMap encD)), .any, .any, (.g (.bool false)), (.g (.int .i64 (k : Int))), .any, .any, .any, .any, .any, .any, .any, .any, .any, .any, .any, .any, .any, .any, .any, .any, .any, .any, .any, .any, .any, .any, .any, .any, .any, .any, .any, .any, .any, .any, .any, .any, .any, .any, .any, .any, .any, .any, .any, .any, .any, .any, .any, .any, .any, .any, .any, .any, .any] [] 0) (fun k => l.length - k) 0 ⟨Nat.zero_le _, rfl⟩ (VS.tm (by simp [leL])) ?_
 rintro k t ⟨hk, rfl⟩
 by_cases hlt : k < l.length
 ·obtain ⟨r0, r1, r2⟩ := rowD hlt
  (repeat (first | (with_reducible first | refine W.seq ?_ | refine W.block ?_ | refine W.scope ?_) | ((first | (with_reducible first | refine W.skip ?_ | refine W.exit ?_ | refine W.ret ?_ | refine W.condL ?_ | refine W.regionA ?_) | ((with_reducible refine W.regionQA hmix ?_ ?_); focus kernel_rfl)); try simp only [go_sem, ↓reduceIte, Nat.reduceAdd, Nat.reduceSub, Nat.reduceMul, Nat.reduceEqDiff, Nat.reduceLeDiff, hlt, r0, r1, r2])))
  refine AtCallQ.mk (same2_p _ l[k].l (Nat.le_refl _) (hcn _ (List.getElem_mem hlt))) ?_
  simp only [go_sem, ↓reduceIte, Nat.reduceAdd, Nat.reduceSub, Nat.reduceMul, Nat.reduceEqDiff, Nat.reduceLeDiff]
  (repeat (first | (with_reducible first | refine W.seq ?_ | refine W.block ?_ | refine W.scope ?_) | ((first | (with_reducible first | refine W.skip ?_ | refine W.exit ?_ | refine W.ret ?_ | refine W.condL ?_ | refine W.regionA ?_) | ((with_reducible refine W.regionQA hmix ?_ ?_); focus kernel_rfl)); try simp only [go_sem, ↓reduceIte, Nat.reduceAdd, Nat.reduceSub, Nat.reduceMul, Nat.reduceEqDiff, Nat.reduceLeDiff])))
  refine ⟨k + 1, _, ⟨by omega, rfl⟩, by show l.length - (k + 1) < l.length - k; omega, VS.tm ?_⟩
  rw [up1 (by omega)]
  simp [leL]
 ·(repeat (first | (with_reducible first | refine W.seq ?_ | refine W.block ?_ | refine W.scope ?_) | ((first | (with_reducible first | refine W.skip ?_ | refine W.exit ?_ | refine W.ret ?_ | refine W.condL ?_ | refine W.regionA ?_) | ((with_reducible refine W.regionQA hmix ?_ ?_); focus kernel_rfl)); try simp only [go_sem, ↓reduceIte, Nat.reduceAdd, Nat.reduceSub, Nat.reduceMul, Nat.reduceEqDiff, Nat.reduceLeDiff, hlt])))
  exact postP_one _ (.inr rfl) rfl (.plain rfl)
mutual
def wdS : Simp → Bool
 | .mk _ _ _ _ _ l => decide (l.length ≤ 140737488351232) && wdSs l
def wdSs : List Simp → Bool
 | [] => true
 | x :: xs => wdS x && wdSs xs
end
theorem wdSs_at : ∀ {l : List Simp}, wdSs l = true → ∀ x ∈ l, x.l.length ≤ 140737488351232 ∧ wdSs x.l = true
 | [], _, x, hx => by simp at hx
 | y :: l, h, x, hx => by
   rw [wdSs, Bool.and_eq_true] at h
   rcases List.mem_cons.1 hx with rfl | hx
   ·cases x
    rw [wdS, Bool.and_eq_true] at h
    exact ⟨of_decide_eq_true h.1.1, h.1.2⟩
   ·exact wdSs_at h.2 x hx
theorem rowS {l : List Simp} {k : Nat} (hk : k < l.length) : ∃ a b, ((l.flatMap encS).drop (k * 6)).take 6 = [.g (.int .i64 l[k].kind), .g (.string l[k].name), .g (.string l[k].value), .g (.int .i64 a), .g (.int .i64 b), .sl l[k].l.length 6 (l[k].l.flatMap encS)] ∧ k * 6 + 6 ≤ (l.flatMap encS).length ∧
 (l.flatMap encS)[k * 6 + 5]? = some (.sl l[k].l.length 6 (l[k].l.flatMap encS)) ∧ (l.flatMap encS)[k * 6]? = some (.g (.int .i64 l[k].kind)) ∧ (l.flatMap encS)[k * 6 + 1]? = some (.g (.string l[k].name)) ∧ (l.flatMap encS)[k * 6 + 2]? = some (.g (.string l[k].value)) ∧
 (l.flatMap encS)[k * 6 + 3]? = some (.g (.int .i64 a)) ∧ (l.flatMap encS)[k * 6 + 4]? = some (.g (.int .i64 b)) := by
 have h := flat_get encS 6 encS_len l k hk
 have h2 := row_part encS 6 encS_len l k hk 0 6 (by decide)
 obtain ⟨a, b, e⟩ := encS_eq l[k]
 rw [e] at h h2
 exact ⟨a, b, h2, row_fit encS 6 encS_len l k hk (j := 0) (by decide), h 5 (by decide), h 0 (by decide), h 1 (by decide), h 2 (by decide), h 3 (by decide), h 4 (by decide)⟩
set_option maxRecDepth 100000 in
set_option maxHeartbeats 4000000 in
theorem simples_p (N : Nat) : ∀ (l : List Simp), SizeOf.sizeOf l ≤ N → l.length ≤ 140737488351232 → wdSs l = true → PureN Tryz.prog gt0 139 [.sl l.length 6 (l.flatMap encS), .sl l.length 6 (l.flatMap encS)] (.g (.bool true)) := by
 induction N with
 | zero => intro l hl; cases l <;> simp at hl <;> omega
 | succ N ih =>
   intro l hl hlen hw
   have IH := fun k (hk : k < l.length) => ih l[k].l (by have := simp_lt (List.getElem_mem hk); omega) (wdSs_at hw _ (List.getElem_mem hk)).1 (wdSs_at hw _ (List.getElem_mem hk)).2
   clear ih hl hw
   refine PureN.of_w (c := _) Tryz.func139 rfl (by kernel_rfl) rfl ?_
   simp only [Tryz.f139, List.replicate, List.length_cons, List.length_nil, Nat.reduceAdd, Nat.reduceSub, List.cons_append, List.nil_append]
   (repeat (first | (with_reducible first | refine W.seq ?_ | refine W.block ?_ | refine W.scope ?_) | ((first | (with_reducible first | refine W.skip ?_ | refine W.exit ?_ | refine W.ret ?_ | refine W.condL ?_ | refine W.regionA ?_) | ((with_reducible refine W.regionQA hmix ?_ ?_); focus kernel_rfl)); try simp only [go_sem, ↓reduceIte, Nat.reduceAdd, Nat.reduceSub, Nat.reduceMul, Nat.reduceEqDiff, Nat.reduceLeDiff])))
   refine W.loop (s1 := stL [(.sl l.length 6 (l.flatMap encS)), (.sl l.length 6 (l.flatMap encS)), .any, .any, (.g (.bool false)), (.g (.int .i64 ((0 : Nat) : Int))), .any, .any, .any, .any, .any, .any, .any, .any, .any, .any, .any, .any, .any, .any, .any, .any, .any, .any, .any, .any, .any, .any, .any, .any, .any, .any, .any, .any, .any, .any, .any, .any, .any, .any, .any, .any] [] 0)
    (fun (k : Nat) s => k ≤ l.length ∧ s = stL [(.sl l.length 6 (l.flatMap encS)), (.sl l.length 6 (l.flatMap encS)), .any, .any, (.g (.bool false)), (.g (.int .i64 (k : Int))), .any, .any, .any, .any, .any, .any, .any, .any, .any, .any, .any, .any, .any, .any, .any, .any, .any, .any, .any, .any, .any, .any, .any, .any, .any, .any, .any, .any, .any, .any, .any, .any, .any, .any, .any, .any] [] 0) (fun k => l.length - k) 0 ⟨Nat.zero_le _, rfl⟩ (VS.tm (by simp [leL])) ?_
   rintro k t ⟨hk, rfl⟩
   by_cases hlt : k < l.length
   ·obtain ⟨a, b, r6, r7, r5, -⟩ := rowS hlt
    (repeat (first | (with_reducible first | refine W.seq ?_ | refine W.block ?_ | refine W.scope ?_) | ((first | (with_reducible first | refine W.skip ?_ | refine W.exit ?_ | refine W.ret ?_ | refine W.condL ?_ | refine W.regionA ?_) | ((with_reducible refine W.regionQA hmix ?_ ?_); focus kernel_rfl)); try simp only [go_sem, ↓reduceIte, Nat.reduceAdd, Nat.reduceSub, Nat.reduceMul, Nat.reduceEqDiff, Nat.reduceLeDiff, hlt, r5, r6, r7])))
    refine AtCallQ.mk (plain4_p _ a b _ _ _ _ _) ?_
    simp only [go_sem, ↓reduceIte, Nat.reduceAdd, Nat.reduceSub, Nat.reduceMul, Nat.reduceEqDiff, Nat.reduceLeDiff, hlt, r5, r6, r7]
    refine AtCallQ.mk (plain4_p _ a b _ _ _ _ _) ?_
    simp only [go_sem, ↓reduceIte, Nat.reduceAdd, Nat.reduceSub, Nat.reduceMul, Nat.reduceEqDiff, Nat.reduceLeDiff, hlt, r5, r6, r7, bare_neq]
    refine AtCallQ.mk (IH k hlt) ?_
    simp only [go_sem, ↓reduceIte, Nat.reduceAdd, Nat.reduceSub, Nat.reduceMul, Nat.reduceEqDiff, Nat.reduceLeDiff]
    (repeat (first | (with_reducible first | refine W.seq ?_ | refine W.block ?_ | refine W.scope ?_) | ((first | (with_reducible first | refine W.skip ?_ | refine W.exit ?_ | refine W.ret ?_ | refine W.condL ?_ | refine W.regionA ?_) | ((with_reducible refine W.regionQA hmix ?_ ?_); focus kernel_rfl)); try simp only [go_sem, ↓reduceIte, Nat.reduceAdd, Nat.reduceSub, Nat.reduceMul, Nat.reduceEqDiff, Nat.reduceLeDiff])))
    refine ⟨k + 1, _, ⟨by omega, rfl⟩, by show l.length - (k + 1) < l.length - k; omega, VS.tm ?_⟩
    rw [up1 (by omega)]
    simp [leL]
   ·(repeat (first | (with_reducible first | refine W.seq ?_ | refine W.block ?_ | refine W.scope ?_) | ((first | (with_reducible first | refine W.skip ?_ | refine W.exit ?_ | refine W.ret ?_ | refine W.condL ?_ | refine W.regionA ?_) | ((with_reducible refine W.regionQA hmix ?_ ?_); focus kernel_rfl)); try simp only [go_sem, ↓reduceIte, Nat.reduceAdd, Nat.reduceSub, Nat.reduceMul, Nat.reduceEqDiff, Nat.reduceLeDiff, hlt])))
    exact postP_one _ (.inr rfl) rfl (.plain rfl)
def wdC (c : Cx) : Prop := c.parts.length ≤ 140737488351232 ∧ ∀ p ∈ c.parts, p.l.length ≤ 140737488351232 ∧ wdSs p.l = true
set_option maxRecDepth 100000 in
set_option maxHeartbeats 4000000 in
theorem same4_p (l : List Cx) (hlen : l.length ≤ 140737488351232) (hw : ∀ c ∈ l, wdC c) : PureN Tryz.prog gt0 78 [.sl l.length 2 (l.flatMap encC), .sl l.length 2 (l.flatMap encC)] (.g (.bool true)) := by
 refine PureN.of_w (c := _) Tryz.func78 rfl (by kernel_rfl) rfl ?_
 simp only [Tryz.f78, List.replicate, List.length_cons, List.length_nil, Nat.reduceAdd, Nat.reduceSub, List.cons_append, List.nil_append]
 (repeat (first | (with_reducible first | refine W.seq ?_ | refine W.block ?_ | refine W.scope ?_) | ((first | (with_reducible first | refine W.skip ?_ | refine W.exit ?_ | refine W.ret ?_ | refine W.condL ?_ | refine W.regionA ?_) | ((with_reducible refine W.regionQA hmix ?_ ?_); focus kernel_rfl)); try simp only [go_sem, ↓reduceIte, Nat.reduceAdd, Nat.reduceSub, Nat.reduceMul, Nat.reduceEqDiff, Nat.reduceLeDiff])))
 refine W.loop (s1 := stL [(.sl l.length 2 (l.flatMap encC)), (.sl l.length 2 (l.flatMap encC)), .any, .any, (.g (.bool false)), (.g (.int .i64 ((0 : Nat) : Int))), .any, .any, .any, .any, .any, .any, .any, .any, .any, .any, .any, .any, .any, .any, .any, .any, .any, .any, .any, .any, .any, .any, .any, .any, .any, .any, .any, .any, .any, .any, .any, .any, .any, .any, .any, .any, .any, .any, .any, .any, .any, .any, .any, .any, .any, .any, .any, .any, .any, .any, .any, .any, .any, .any, .any, .any, .any, .any, .any, .any, .any, .any, .any, .any, .any, .any, .any, .any, .any, .any, .any, .any, .any, .any, .any, .any, .any, .any, .any] [] 0)
  (fun (k : Nat) s => k ≤ l.length ∧ s = stL [(.sl l.length 2 (l.flatMap encC)), (.sl l.length 2 (l.flatMap encC)), .any, .any, (.g (.bool false)), (.g (.int .i64 (k : Int))), .any, .any, .any, .any, .any, .any, .any, .any, .any, .any, .any, .any, .any, .any, .any, .any, .any, .any, .any, .any, .any, .any, .any, .any, .any, .any, .any, .any, .any, .any, .any, .any, .any, .any, .any, .any, .any, .any, .any, .any, .any, .any, .any, .any, .any, .any, .any, .any, .any, .any, .any, .any, .any, .any, .any, .any, .any, .any, .any, .any, .any, .any, .any, .any, .any, .any, .any, .any, .any, .any, .any, .any, .any, .any, .any, .any, .any, .any, .any] [] 0) (fun k => l.length - k) 0 ⟨Nat.zero_le _, rfl⟩ (VS.tm (by simp [leL])) ?_
 rintro k t ⟨hk, rfl⟩
 by_cases hlt : k < l.length
 ·obtain ⟨r0, r1⟩ := rowC hlt
  obtain ⟨hw1, hw2⟩ := hw _ (List.getElem_mem hlt)
  (repeat (first | (with_reducible first | refine W.seq ?_ | refine W.block ?_ | refine W.scope ?_) | ((first | (with_reducible first | refine W.skip ?_ | refine W.exit ?_ | refine W.ret ?_ | refine W.condL ?_ | refine W.regionA ?_) | ((with_reducible refine W.regionQA hmix ?_ ?_); focus kernel_rfl)); try simp only [go_sem, ↓reduceIte, Nat.reduceAdd, Nat.reduceSub, Nat.reduceMul, Nat.reduceEqDiff, Nat.reduceLeDiff, hlt, r0, r1])))
  refine W.loop (s1 := stL [(.sl l.length 2 (l.flatMap encC)), (.sl l.length 2 (l.flatMap encC)), .any, .any, (.g (.bool false)), (.g (.int .i64 (k : Int))), (.g (.int .i64 ((0 : Nat) : Int))), .any, .any, .any, .any, .any, .any, .any, .any, .any, .any, .any, .any, .any, .any, .any, .any, .any, .any, .any, .any, .any, .any, .any, .any, .any, .any, .any, .any, .any, .any, .any, .any, .any, .any, .any, .any, .any, .any, .any, .any, .any, .any, .any, .any, .any, .any, .any, .any, .any, .any, .any, .any, .any, .any, .any, .any, .any, .any, .any, .any, .any, .any, .any, .any, .any, .any, .any, .any, .any, .any, .any, .any, .any, .any, .any, .any, .any, .any] [] 0)
   (fun (i : Nat) s => i ≤ l[k].parts.length ∧ s = stL [(.sl l.length 2 (l.flatMap encC)), (.sl l.length 2 (l.flatMap encC)), .any, .any, (.g (.bool false)), (.g (.int .i64 (k : Int))), (.g (.int .i64 (i : Int))), .any, .any, .any, .any, .any, .any, .any, .any, .any, .any, .any, .any, .any, .any, .any, .any, .any, .any, .any, .any, .any, .any, .any, .any, .any, .any, .any, .any, .any, .any, .any, .any, .any, .any, .any, .any, .any, .any, .any, .any, .any, .any, .any, .any, .any, .any, .any, .any, .any, .any, .any, .any, .any, .any, .any, .any, .any, .any, .any, .any, .any, .any, .any, .any, .any, .any, .any, .any, .any, .any, .any, .any, .any, .any, .any, .any, .any, .any] [] 0) (fun i => l[k].parts.length - i) 0 ⟨Nat.zero_le _, rfl⟩ (VS.tm (by simp [leL])) ?_
  rintro i t ⟨hi, rfl⟩
  by_cases hli : i < l[k].parts.length
  ·obtain ⟨s0, s1⟩ := rowP hli
   obtain ⟨hw3, hw4⟩ := hw2 _ (List.getElem_mem hli)
   (repeat (first | (with_reducible first | refine W.seq ?_ | refine W.block ?_ | refine W.scope ?_) | ((first | (with_reducible first | refine W.skip ?_ | refine W.exit ?_ | refine W.ret ?_ | refine W.condL ?_ | refine W.regionA ?_) | ((with_reducible refine W.regionDA hmix ?_ ?_); focus kernel_rfl)); (try simp only [go_sem, ↓reduceIte, Nat.reduceAdd, Nat.reduceSub, Nat.reduceMul, Nat.reduceEqDiff, Nat.reduceLeDiff, hlt, hli, r0, r1, s0, s1]); try (with_reducible refine ⟨by kernel_rfl, ?_⟩))))
   refine AtCall.mk (simples_p _ l[k].parts[i].l (Nat.le_refl _) hw3 hw4) ?_
   simp only [go_sem, ↓reduceIte, Nat.reduceAdd, Nat.reduceSub, Nat.reduceMul, Nat.reduceEqDiff, Nat.reduceLeDiff]
   (repeat (first | (with_reducible first | refine W.seq ?_ | refine W.block ?_ | refine W.scope ?_) | ((first | (with_reducible first | refine W.skip ?_ | refine W.exit ?_ | refine W.ret ?_ | refine W.condL ?_ | refine W.regionA ?_) | ((with_reducible refine W.regionDA hmix ?_ ?_); focus kernel_rfl)); (try simp only [go_sem, ↓reduceIte, Nat.reduceAdd, Nat.reduceSub, Nat.reduceMul, Nat.reduceEqDiff, Nat.reduceLeDiff]); try (with_reducible refine ⟨by kernel_rfl, ?_⟩))))
   refine ⟨i + 1, _, ⟨by omega, rfl⟩, by show l[k].parts.length - (i + 1) < l[k].parts.length - i; omega, VS.ren [] (by simp) (by simp) (Nat.le_refl _) ?_ trivial⟩
   rw [up1 (by omega)]
   simp only [go_sem, ↓reduceIte, Nat.reduceAdd, Nat.reduceSub, Nat.reduceMul, Nat.reduceEqDiff, Nat.reduceLeDiff]
  ·(repeat (first | (with_reducible first | refine W.seq ?_ | refine W.block ?_ | refine W.scope ?_) | ((first | (with_reducible first | refine W.skip ?_ | refine W.exit ?_ | refine W.ret ?_ | refine W.condL ?_ | refine W.regionA ?_) | ((with_reducible refine W.regionQA hmix ?_ ?_); focus kernel_rfl)); try simp only [go_sem, ↓reduceIte, Nat.reduceAdd, Nat.reduceSub, Nat.reduceMul, Nat.reduceEqDiff, Nat.reduceLeDiff, hlt, hli, r0, r1])))
   refine ⟨k + 1, _, ⟨by omega, rfl⟩, by show l.length - (k + 1) < l.length - k; omega, VS.tm ?_⟩
   rw [up1 (by omega)]
   simp [leL]
 ·(repeat (first | (with_reducible first | refine W.seq ?_ | refine W.block ?_ | refine W.scope ?_) | ((first | (with_reducible first | refine W.skip ?_ | refine W.exit ?_ | refine W.ret ?_ | refine W.condL ?_ | refine W.regionA ?_) | ((with_reducible refine W.regionQA hmix ?_ ?_); focus kernel_rfl)); try simp only [go_sem, ↓reduceIte, Nat.reduceAdd, Nat.reduceSub, Nat.reduceMul, Nat.reduceEqDiff, Nat.reduceLeDiff, hlt])))
  exact postP_one _ (.inr rfl) rfl (.plain rfl)
set_option maxRecDepth 100000 in
set_option maxHeartbeats 4000000 in
theorem texts8_p (l : List ByteArray) (hlen : l.length ≤ 1000000) : PureN Tryz.prog gt0 77 [.sl l.length 1 (l.flatMap encN), .sl l.length 1 (l.flatMap encN)] (.g (.bool true)) := by
 refine PureN.of_w (c := _) Tryz.func77 rfl (by kernel_rfl) rfl ?_
 simp only [Tryz.f77, List.replicate, List.length_cons, List.length_nil, Nat.reduceAdd, Nat.reduceSub, List.cons_append, List.nil_append]
 (repeat (first | (with_reducible first | refine W.seq ?_ | refine W.block ?_ | refine W.scope ?_) | ((first | (with_reducible first | refine W.skip ?_ | refine W.exit ?_ | refine W.ret ?_ | refine W.condL ?_ | refine W.regionA ?_) | ((with_reducible refine W.regionQA hmix ?_ ?_); focus kernel_rfl)); try simp only [go_sem, ↓reduceIte, Nat.reduceAdd, Nat.reduceSub, Nat.reduceMul, Nat.reduceEqDiff, Nat.reduceLeDiff])))
 refine W.loop (s1 := stL [(.sl l.length 1 (l.flatMap encN)), (.sl l.length 1 (l.flatMap encN)), .any, .any, (.g (.bool false)), (.g (.int .i64 ((0 : Nat) : Int))), .any, .any, .any, .any, .any, .any, .any, .any, .any, .any, .any, .any, .any, .any, .any, .any, .any, .any, .any, .any] [] 0)
  (fun (k : Nat) s => k ≤ l.length ∧ s = stL [(.sl l.length 1 (l.flatMap encN)), (.sl l.length 1 (l.flatMap encN)), .any, .any, (.g (.bool false)), (.g (.int .i64 (k : Int))), .any, .any, .any, .any, .any, .any, .any, .any, .any, .any, .any, .any, .any, .any, .any, .any, .any, .any, .any, .any] [] 0) (fun k => l.length - k) 0 ⟨Nat.zero_le _, rfl⟩ (VS.tm (by simp [leL])) ?_
 rintro k t ⟨hk, rfl⟩
 by_cases hlt : k < l.length
 ·have r0 := rowN hlt
  (repeat (first | (with_reducible first | refine W.seq ?_ | refine W.block ?_ | refine W.scope ?_) | ((first | (with_reducible first | refine W.skip ?_ | refine W.exit ?_ | refine W.ret ?_ | refine W.condL ?_ | refine W.regionA ?_) | ((with_reducible refine W.regionQA hmix ?_ ?_); focus kernel_rfl)); try simp only [go_sem, ↓reduceIte, Nat.reduceAdd, Nat.reduceSub, Nat.reduceMul, Nat.reduceEqDiff, Nat.reduceLeDiff, hlt, r0])))
  refine ⟨k + 1, _, ⟨by omega, rfl⟩, by show l.length - (k + 1) < l.length - k; omega, VS.tm ?_⟩
  rw [up1 (by omega)]
  simp [leL]
 ·(repeat (first | (with_reducible first | refine W.seq ?_ | refine W.block ?_ | refine W.scope ?_) | ((first | (with_reducible first | refine W.skip ?_ | refine W.exit ?_ | refine W.ret ?_ | refine W.condL ?_ | refine W.regionA ?_) | ((with_reducible refine W.regionQA hmix ?_ ?_); focus kernel_rfl)); try simp only [go_sem, ↓reduceIte, Nat.reduceAdd, Nat.reduceSub, Nat.reduceMul, Nat.reduceEqDiff, Nat.reduceLeDiff, hlt])))
  exact postP_one _ (.inr rfl) rfl (.plain rfl)
mutual
def wdI : Itm → Prop
 | .mk _ s d n _ _ v l => (s.length ≤ 140737488351232 ∧ ∀ c ∈ s, wdC c) ∧ (d.length ≤ 1000 ∧ ∀ x ∈ d, cntVs x.l ≤ 1000) ∧ n.length ≤ 1000000 ∧ cntVs v ≤ 1000 ∧ l.length ≤ 1000000 ∧ wdIs l
def wdIs : List Itm → Prop
 | [] => True
 | x :: xs => wdI x ∧ wdIs xs
end
theorem wdI_eq (x : Itm) : wdI x ↔ (x.sels.length ≤ 140737488351232 ∧ ∀ c ∈ x.sels, wdC c) ∧ (x.decls.length ≤ 1000 ∧ ∀ y ∈ x.decls, cntVs y.l ≤ 1000) ∧ x.names.length ≤ 1000000 ∧ cntVs x.vals ≤ 1000 ∧ x.l.length ≤ 1000000 ∧ wdIs x.l := by cases x; rw [wdI]; rfl
theorem wdIs_at : ∀ {l : List Itm}, wdIs l → ∀ x ∈ l, wdI x
 | [], _, x, hx => by simp at hx
 | y :: l, h, x, hx => by
   rw [wdIs] at h
   rcases List.mem_cons.1 hx with rfl | hx
   ·exact h.1
   ·exact wdIs_at h.2 x hx
set_option maxRecDepth 100000 in
set_option maxHeartbeats 4000000 in
theorem same8_p (N : Nat) : ∀ (l : List Itm), SizeOf.sizeOf l ≤ N → l.length ≤ 1000000 → wdIs l → PureN Tryz.prog gt0 27 [.sl l.length 8 (l.flatMap encI), .sl l.length 8 (l.flatMap encI)] (.g (.bool true)) := by
 induction N with
 | zero => intro l hl; cases l <;> simp at hl <;> omega
 | succ N ih =>
   intro l hl hlen hw
   have IH := fun k (hk : k < l.length) (h1 : l[k].l.length ≤ 1000000) (h2 : wdIs l[k].l) => ih l[k].l (by have := itm_lt (List.getElem_mem hk); omega) h1 h2
   clear ih hl
   refine PureN.of_w (c := _) Tryz.func27 rfl (by kernel_rfl) rfl ?_
   simp only [Tryz.f27, List.replicate, List.length_cons, List.length_nil, Nat.reduceAdd, Nat.reduceSub, List.cons_append, List.nil_append]
   (repeat (first | (with_reducible first | refine W.seq ?_ | refine W.block ?_ | refine W.scope ?_) | ((first | (with_reducible first | refine W.skip ?_ | refine W.exit ?_ | refine W.ret ?_ | refine W.condL ?_ | refine W.regionA ?_) | ((with_reducible refine W.regionQA hmix ?_ ?_); focus kernel_rfl)); try simp only [go_sem, ↓reduceIte, Nat.reduceAdd, Nat.reduceSub, Nat.reduceMul, Nat.reduceEqDiff, Nat.reduceLeDiff])))
   refine W.loop (s1 := stL [(.sl l.length 8 (l.flatMap encI)), (.sl l.length 8 (l.flatMap encI)), .any, .any, (.g (.bool false)), (.g (.int .i64 ((0 : Nat) : Int))), .any, .any, .any, .any, .any, .any, .any, .any, .any, .any, .any, .any, .any, .any, .any, .any, .any, .any, .any, .any, .any, .any, .any, .any, .any, .any, .any, .any, .any, .any, .any, .any, .any, .any, .any, .any, .any, .any, .any, .any, .any, .any, .any, .any, .any, .any, .any, .any, .any, .any, .any, .any, .any, .any, .any, .any, .any, .any, .any, .any, .any, .any, .any, .any, .any, .any, .any, .any, .any, .any, .any, .any, .any, .any, .any, .any, .any, .any] [] 0)
    (fun (k : Nat) s => k ≤ l.length ∧ s = stL [(.sl l.length 8 (l.flatMap encI)), (.sl l.length 8 (l.flatMap encI)), .any, .any, (.g (.bool false)), (.g (.int .i64 (k : Int))), .any, .any, .any, .any, .any, .any, .any, .any, .any, .any, .any, .any, .any, .any, .any, .any, .any, .any, .any, .any, .any, .any, .any, .any, .any, .any, .any, .any, .any, .any, .any, .any, .any, .any, .any, .any, .any, .any, .any, .any, .any, .any, .any, .any, .any, .any, .any, .any, .any, .any, .any, .any, .any, .any, .any, .any, .any, .any, .any, .any, .any, .any, .any, .any, .any, .any, .any, .any, .any, .any, .any, .any, .any, .any, .any, .any, .any, .any] [] 0) (fun k => l.length - k) 0 ⟨Nat.zero_le _, rfl⟩ (VS.tm (by simp [leL])) ?_
   rintro k t ⟨hk, rfl⟩
   by_cases hlt : k < l.length
   ·obtain ⟨r0, r1⟩ := rowI hlt
    rw [encI_eq] at r0
    obtain ⟨⟨a1, a2⟩, ⟨b1, b2⟩, c1, d1, e1, e2⟩ := (wdI_eq _).1 (wdIs_at hw _ (List.getElem_mem hlt))
    have IHk := IH k hlt e1 e2
    (repeat (first | (with_reducible first | refine W.seq ?_ | refine W.block ?_ | refine W.scope ?_) | ((first | (with_reducible first | refine W.skip ?_ | refine W.exit ?_ | refine W.ret ?_ | refine W.condL ?_ | refine W.regionA ?_) | ((with_reducible refine W.regionDA hmix ?_ ?_); focus kernel_rfl)); (try simp only [go_sem, ↓reduceIte, Nat.reduceAdd, Nat.reduceSub, Nat.reduceMul, Nat.reduceEqDiff, Nat.reduceLeDiff, hlt, r0, r1]); try (with_reducible refine ⟨by kernel_rfl, ?_⟩))))
    refine AtCall.mk (texts8_p _ c1) ?_
    simp only [go_sem, ↓reduceIte, Nat.reduceAdd, Nat.reduceSub, Nat.reduceMul, Nat.reduceEqDiff, Nat.reduceLeDiff]
    refine AtCall.mk (same4_p _ a1 a2) ?_
    simp only [go_sem, ↓reduceIte, Nat.reduceAdd, Nat.reduceSub, Nat.reduceMul, Nat.reduceEqDiff, Nat.reduceLeDiff]
    (repeat (first | (with_reducible first | refine W.seq ?_ | refine W.block ?_ | refine W.scope ?_) | ((first | (with_reducible first | refine W.skip ?_ | refine W.exit ?_ | refine W.ret ?_ | refine W.condL ?_ | refine W.regionA ?_) | ((with_reducible refine W.regionDA hmix ?_ ?_); focus kernel_rfl)); (try simp only [go_sem, ↓reduceIte, Nat.reduceAdd, Nat.reduceSub, Nat.reduceMul, Nat.reduceEqDiff, Nat.reduceLeDiff]); try (with_reducible refine ⟨by kernel_rfl, ?_⟩))))
    refine AtCall.mk (same7_p _ b1 b2) ?_
    simp only [go_sem, ↓reduceIte, Nat.reduceAdd, Nat.reduceSub, Nat.reduceMul, Nat.reduceEqDiff, Nat.reduceLeDiff]
    refine AtCall.mk (same2_p _ _ (Nat.le_refl _) d1) ?_
    simp only [go_sem, ↓reduceIte, Nat.reduceAdd, Nat.reduceSub, Nat.reduceMul, Nat.reduceEqDiff, Nat.reduceLeDiff]
    refine AtCall.mk IHk ?_
    simp only [go_sem, ↓reduceIte, Nat.reduceAdd, Nat.reduceSub, Nat.reduceMul, Nat.reduceEqDiff, Nat.reduceLeDiff]
    (repeat (first | (with_reducible first | refine W.seq ?_ | refine W.block ?_ | refine W.scope ?_) | ((first | (with_reducible first | refine W.skip ?_ | refine W.exit ?_ | refine W.ret ?_ | refine W.condL ?_ | refine W.regionA ?_) | ((with_reducible refine W.regionDA hmix ?_ ?_); focus kernel_rfl)); (try simp only [go_sem, ↓reduceIte, Nat.reduceAdd, Nat.reduceSub, Nat.reduceMul, Nat.reduceEqDiff, Nat.reduceLeDiff]); try (with_reducible refine ⟨by kernel_rfl, ?_⟩))))
    refine ⟨k + 1, _, ⟨by omega, rfl⟩, by show l.length - (k + 1) < l.length - k; omega, VS.ren [] (by simp) (by simp) (Nat.le_refl _) ?_ trivial⟩
    rw [up1 (by omega)]
    simp only [go_sem, ↓reduceIte, Nat.reduceAdd, Nat.reduceSub, Nat.reduceMul, Nat.reduceEqDiff, Nat.reduceLeDiff]
   ·(repeat (first | (with_reducible first | refine W.seq ?_ | refine W.block ?_ | refine W.scope ?_) | ((first | (with_reducible first | refine W.skip ?_ | refine W.exit ?_ | refine W.ret ?_ | refine W.condL ?_ | refine W.regionA ?_) | ((with_reducible refine W.regionQA hmix ?_ ?_); focus kernel_rfl)); try simp only [go_sem, ↓reduceIte, Nat.reduceAdd, Nat.reduceSub, Nat.reduceMul, Nat.reduceEqDiff, Nat.reduceLeDiff, hlt])))
    exact postP_one _ (.inr rfl) rfl (.plain rfl)
end Go.Proofs.YtlnaihkombcbcaaGreat
end
set_option linter.unusedSimpArgs false
noncomputable section
namespace Go.Proofs.YtlnaihkombcbcaaGreat
open Go.RowKit Go.Ev
attribute [local go_sem] eq_self Bool.false_eq_true List.set_cons_succ List.set_cons_zero List.getD_cons_succ List.getD_cons_zero List.getElem?_cons_succ List.getElem?_cons_zero true_and and_true and_self Bool.not_true Bool.not_false Nat.add_zero Nat.zero_add Nat.mul_one Int.toNat_natCast Int.natCast_nonneg Int.ofNat_lt Option.bind_some Option.map_some List.map_cons List.map_nil decide_true decide_false BEq.rfl Bool.and_self Bool.and_true Bool.and_false beq_self_eq_true List.cons_append List.nil_append List.take_zero List.take_succ_cons List.take_nil List.drop_succ_cons List.drop_zero List.drop_nil List.append_nil List.length_cons List.length_nil List.all_cons List.all_nil Nat.le_refl Option.map_none List.replicate_zero List.replicate_succ Nat.zero_mul Nat.sub_zero Nat.zero_le Nat.le_zero_eq getR_nil Int.toNat_zero Int.natCast_zero Int.natCast_one Int.cast_ofNat_Int List.toList_toArray
attribute [go_sem] appL newsA isSlice
theorem ei_vals : elemI Tryz.prog 27 = some (5, 64, true) := by kernel_rfl
theorem ss_vals : slOrStr (Tryz.prog.underlying 27) = true := by kernel_rfl
theorem sz_val : szO Tryz.prog 67 = some 5 := by kernel_rfl
attribute [go_sem] ei_vals ss_vals sz_val
def inA (l : List ByteArray) (x : ByteArray) : Bool := l.any fun y => decide (y = x)
theorem inA_iff {l : List ByteArray} {x : ByteArray} : inA l x = true ↔ x ∈ l := by
 unfold inA
 rw [List.any_eq_true]
 exact ⟨fun ⟨y, h1, h2⟩ => of_decide_eq_true h2 ▸ h1, fun h => ⟨x, h, decide_eq_true rfl⟩⟩
set_option maxRecDepth 100000 in
set_option maxHeartbeats 4000000 in
theorem in11_p (l : List ByteArray) (x : ByteArray) (hlen : l.length ≤ 1000000) : PureN Tryz.prog gt0 22 [.sl l.length 1 (l.flatMap encN), .g (.string x)] (.g (.bool (inA l x))) := by
 refine PureN.of_w (c := _) Tryz.func22 rfl (by kernel_rfl) rfl ?_
 simp only [Tryz.f22, List.replicate, List.length_cons, List.length_nil, Nat.reduceAdd, Nat.reduceSub, List.cons_append, List.nil_append]
 (repeat (first | (with_reducible first | refine W.seq ?_ | refine W.block ?_ | refine W.scope ?_) | ((first | (with_reducible first | refine W.skip ?_ | refine W.exit ?_ | refine W.ret ?_ | refine W.condL ?_ | refine W.regionA ?_) | ((with_reducible refine W.regionQA hmix ?_ ?_); focus kernel_rfl)); try simp only [go_sem, ↓reduceIte, Nat.reduceAdd, Nat.reduceSub, Nat.reduceMul, Nat.reduceEqDiff, Nat.reduceLeDiff, Nat.reduceLT, Int.reduceLE, Int.reduceLT, Int.reduceToNat, Int.reduceEq])))
 refine W.loop (s1 := stL [(.sl l.length 1 (l.flatMap encN)), (.g (.string x)), .any, .any, (.g (.bool false)), (.g (.int .i64 ((0 : Nat) : Int))), .any, .any, .any, .any, .any, .any, .any, .any, .any, .any, .any, .any] [] 0)
  (fun (k : Nat) s => k ≤ l.length ∧ x ∉ l.take k ∧ s = stL [(.sl l.length 1 (l.flatMap encN)), (.g (.string x)), .any, .any, (.g (.bool false)), (.g (.int .i64 (k : Int))), .any, .any, .any, .any, .any, .any, .any, .any, .any, .any, .any, .any] [] 0) (fun k => l.length - k) 0 ⟨Nat.zero_le _, by simp, rfl⟩ (VS.tm (by simp [leL])) ?_
 rintro k t ⟨hk, hnx, rfl⟩
 by_cases hlt : k < l.length
 ·have r0 := rowN hlt
  (repeat (first | (with_reducible first | refine W.seq ?_ | refine W.block ?_ | refine W.scope ?_) | ((first | (with_reducible first | refine W.skip ?_ | refine W.exit ?_ | refine W.ret ?_ | refine W.condL ?_ | refine W.regionA ?_) | ((with_reducible refine W.regionQA hmix ?_ ?_); focus kernel_rfl)); try simp only [go_sem, ↓reduceIte, Nat.reduceAdd, Nat.reduceSub, Nat.reduceMul, Nat.reduceEqDiff, Nat.reduceLeDiff, Nat.reduceLT, Int.reduceLE, Int.reduceLT, Int.reduceToNat, Int.reduceEq, hlt, r0])))
  refine condK_split (fun h => ?_) (fun h => ?_)
  ·have hm : x ∈ l := by
    have e : l[k] = x := of_decide_eq_true h
    rw [← e]; exact List.getElem_mem hlt
   rw [inA_iff.2 hm]
   (repeat (first | (with_reducible first | refine W.seq ?_ | refine W.block ?_ | refine W.scope ?_) | ((first | (with_reducible first | refine W.skip ?_ | refine W.exit ?_ | refine W.ret ?_ | refine W.condL ?_ | refine W.regionA ?_) | ((with_reducible refine W.regionQA hmix ?_ ?_); focus kernel_rfl)); try simp only [go_sem, ↓reduceIte, Nat.reduceAdd, Nat.reduceSub, Nat.reduceMul, Nat.reduceEqDiff, Nat.reduceLeDiff, Nat.reduceLT, Int.reduceLE, Int.reduceLT, Int.reduceToNat, Int.reduceEq])))
   exact postP_one _ (.inr rfl) rfl (.plain rfl)
  ·have hne : l[k] ≠ x := of_decide_eq_false h
   (repeat (first | (with_reducible first | refine W.seq ?_ | refine W.block ?_ | refine W.scope ?_) | ((first | (with_reducible first | refine W.skip ?_ | refine W.exit ?_ | refine W.ret ?_ | refine W.condL ?_ | refine W.regionA ?_) | ((with_reducible refine W.regionQA hmix ?_ ?_); focus kernel_rfl)); try simp only [go_sem, ↓reduceIte, Nat.reduceAdd, Nat.reduceSub, Nat.reduceMul, Nat.reduceEqDiff, Nat.reduceLeDiff, Nat.reduceLT, Int.reduceLE, Int.reduceLT, Int.reduceToNat, Int.reduceEq])))
   refine ⟨k + 1, _, ⟨by omega, ?_, rfl⟩, by show l.length - (k + 1) < l.length - k; omega, VS.tm ?_⟩
   ·rw [List.take_succ_eq_append_getElem hlt, List.mem_append, not_or]
    exact ⟨hnx, fun h => hne (List.mem_singleton.1 h).symm⟩
   ·rw [up1 (by omega)]
    simp only [go_sem, ↓reduceIte, Nat.reduceAdd, Nat.reduceSub, Nat.reduceMul, Nat.reduceEqDiff, Nat.reduceLeDiff, Nat.reduceLT, Int.reduceLE, Int.reduceLT, Int.reduceToNat, Int.reduceEq, or_true, true_or]
 ·(repeat (first | (with_reducible first | refine W.seq ?_ | refine W.block ?_ | refine W.scope ?_) | ((first | (with_reducible first | refine W.skip ?_ | refine W.exit ?_ | refine W.ret ?_ | refine W.condL ?_ | refine W.regionA ?_) | ((with_reducible refine W.regionQA hmix ?_ ?_); focus kernel_rfl)); try simp only [go_sem, ↓reduceIte, Nat.reduceAdd, Nat.reduceSub, Nat.reduceMul, Nat.reduceEqDiff, Nat.reduceLeDiff, Nat.reduceLT, Int.reduceLE, Int.reduceLT, Int.reduceToNat, Int.reduceEq, hlt])))
  have hm : ¬ x ∈ l := by
   obtain rfl : k = l.length := by omega
   rwa [List.take_length] at hnx
  rw [show inA l x = false from by rw [← Bool.not_eq_true, inA_iff]; exact hm]
  exact postP_one _ (.inr rfl) rfl (.plain rfl)
set_option maxRecDepth 100000 in
set_option maxHeartbeats 4000000 in
theorem blank3_p (x : Vl) : PureN Tryz.prog gt0 128 [.agg [.g (.int .i64 x.kind), .g (.int .i64 x.tk), .g (.string x.text), .g (.int .i64 x.n), .sl x.l.length 5 (x.l.flatMap encV)]] (.g (.bool (blankB x))) := by
 refine PureN.of_w (c := _) Tryz.func128 rfl (by kernel_rfl) rfl ?_
 simp only [Tryz.f128, List.replicate, List.length_cons, List.length_nil, Nat.reduceAdd, Nat.reduceSub, List.cons_append, List.nil_append]
 by_cases hk : x.kind = 1
 ·(repeat (first | (with_reducible first | refine W.seq ?_ | refine W.block ?_ | refine W.scope ?_) | ((first | (with_reducible first | refine W.skip ?_ | refine W.exit ?_ | refine W.ret ?_ | refine W.condL ?_ | refine W.regionA ?_) | ((with_reducible refine W.regionQA hmix ?_ ?_); focus kernel_rfl)); try simp only [go_sem, ↓reduceIte, Nat.reduceAdd, Nat.reduceSub, Nat.reduceMul, Nat.reduceEqDiff, Nat.reduceLeDiff, Nat.reduceLT, Int.reduceLE, Int.reduceLT, Int.reduceToNat, Int.reduceEq, hk])))
  have e : blankB x = decide (x.tk = 8) := by unfold blankB; rw [hk]; exact (Bool.true_and _).trans (int_beq _ _)
  rw [e]
  exact postP_one _ (.inr rfl) rfl (.plain rfl)
 ·(repeat (first | (with_reducible first | refine W.seq ?_ | refine W.block ?_ | refine W.scope ?_) | ((first | (with_reducible first | refine W.skip ?_ | refine W.exit ?_ | refine W.ret ?_ | refine W.condL ?_ | refine W.regionA ?_) | ((with_reducible refine W.regionQA hmix ?_ ?_); focus kernel_rfl)); try simp only [go_sem, ↓reduceIte, Nat.reduceAdd, Nat.reduceSub, Nat.reduceMul, Nat.reduceEqDiff, Nat.reduceLeDiff, Nat.reduceLT, Int.reduceLE, Int.reduceLT, Int.reduceToNat, Int.reduceEq, hk])))
  have e : blankB x = false := by unfold blankB; rw [Bool.and_eq_false_iff]; exact .inl (by simpa using hk)
  rw [e]
  exact postP_one _ (.inr rfl) rfl (.plain rfl)
theorem row_cut {α : Type} (enc : α → List AV) (sz : Nat) (hsz : ∀ x, (enc x).length = sz) : ∀ (l : List α) (k c : Nat), ((l.flatMap enc).drop (k * sz)).take (c * sz) = ((l.drop k).take c).flatMap enc
 | l, 0, c => by
   rw [Nat.zero_mul, List.drop_zero, List.drop_zero]
   induction c generalizing l with
   | zero => simp
   | succ c ih =>
     cases l with
     | nil => simp
     | cons x l =>
       rw [List.flatMap_cons, List.take_succ_cons, List.flatMap_cons, List.take_append, List.take_of_length_le (by rw [hsz, Nat.succ_mul]; omega), hsz, show (c + 1) * sz - sz = c * sz by rw [Nat.succ_mul]; omega, ih]
 | [], k + 1, c => by simp
 | x :: l, k + 1, c => by
   rw [List.flatMap_cons, List.drop_append, List.drop_of_length_le (by rw [hsz, Nat.succ_mul]; omega), List.nil_append, hsz, show (k + 1) * sz - sz = k * sz by rw [Nat.succ_mul]; omega, List.drop_succ_cons]
   exact row_cut enc sz hsz l k c
theorem row_all {α : Type} (enc : α → List AV) (sz : Nat) (hsz : ∀ x, (enc x).length = sz) (l : List α) : (l.flatMap enc).take (l.length * sz) = l.flatMap enc := by
 rw [List.take_of_length_le (by rw [row_len enc sz hsz]; exact Nat.le_refl _)]
theorem row_cells {α : Type} (enc : α → List AV) (h : ∀ x, (enc x).all isCell = true) (l : List α) : (l.flatMap enc).all isCell = true := by
 rw [List.all_eq_true]
 intro a ha
 obtain ⟨x, hx, hax⟩ := List.mem_flatMap.1 ha
 exact List.all_eq_true.1 (h x) a hax
theorem row_plain {α : Type} (enc : α → List AV) (h : ∀ x, ∀ a ∈ enc x, plainA a = true) (l : List α) : ∀ a ∈ l.flatMap enc, plainA a = true := by
 intro a ha
 obtain ⟨x, hx, hax⟩ := List.mem_flatMap.1 ha
 exact h x a hax
theorem encV_cells (x : Vl) : (encV x).all isCell = true := by rw [encV_eq]; rfl
theorem encV_plain (x : Vl) : ∀ a ∈ encV x, plainA a = true := by rw [encV_eq]; simp [plainA]
theorem dropWhile_of {α : Type} (p : α → Bool) : ∀ (l : List α) (k : Nat), k ≤ l.length → (∀ x ∈ l.take k, p x = true) → (∀ h : k < l.length, p l[k] = false) → l.dropWhile p = l.drop k
 | l, 0, _, _, h => by
   cases l with
   | nil => rfl
   | cons x l => rw [List.dropWhile_cons_of_neg (by have := h (by simp); simpa using this)]; rfl
 | [], k + 1, hk, _, _ => by simp at hk
 | x :: l, k + 1, hk, h1, h2 => by
   rw [List.dropWhile_cons_of_pos (h1 x (by simp)), List.drop_succ_cons]
   exact dropWhile_of p l k (by simpa using hk) (fun y hy => h1 y (by rw [List.take_succ_cons]; exact List.mem_cons_of_mem _ hy)) (fun h => h2 (by simpa using h))
theorem trim_at {l : List Vl} {k j : Nat} (hkj : k ≤ j) (hj : j ≤ l.length) (h1 : ∀ x ∈ l.take k, blankB x = true) (h2 : ∀ h : k < l.length, k < j → blankB l[k] = false) (h3 : ∀ x ∈ l.drop j, blankB x = true) (h4 : ∀ h : j - 1 < l.length, k < j → blankB l[j - 1] = false) :
 trimM l = (l.drop k).take (j - k) := by
 unfold trimM
 by_cases he : k = j
 ·subst he
  have hall : ∀ x ∈ l, blankB x = true := fun x hx => by
   rw [← List.take_append_drop k l] at hx
   rcases List.mem_append.1 hx with h | h
   ·exact h1 x h
   ·exact h3 x h
  have : l.dropWhile blankB = [] := by
   have := dropWhile_of blankB l l.length (Nat.le_refl _) (fun x hx => hall x (by rwa [List.take_length] at hx)) (fun h => absurd h (Nat.lt_irrefl _))
   rw [this, List.drop_length]
  rw [this]; simp
 ·rw [dropWhile_of blankB l k (by omega) h1 (fun h => h2 h (by omega))]
  have hl : (l.drop k).length = l.length - k := List.length_drop
  have e : (l.drop k).reverse.dropWhile blankB = (l.drop k).reverse.drop (l.length - j) := by
   refine dropWhile_of blankB _ _ (by simp; omega) (fun x hx => ?_) (fun h => ?_)
   ·rw [List.take_reverse] at hx
    have hx' := List.mem_reverse.1 hx
    rw [List.drop_drop, hl] at hx'
    refine h3 x ?_
    rwa [show k + (l.length - k - (l.length - j)) = j by omega] at hx'
   ·rw [List.getElem_reverse, List.getElem_drop]
    have := h4 (by omega) (by omega)
    have e9 : k + ((l.drop k).length - 1 - (l.length - j)) = j - 1 := by omega
    simp only [e9]
    exact this
  rw [e, List.drop_reverse, List.reverse_reverse, hl, show l.length - k - (l.length - j) = j - k by omega]
set_option maxRecDepth 100000 in
set_option maxHeartbeats 4000000 in
theorem trim3_p (l : List Vl) (hlen : l.length ≤ 1000) : PureN Tryz.prog gt0 67 [.sl l.length 5 (l.flatMap encV)] (.sl (trimM l).length 5 ((trimM l).flatMap encV)) := by
 refine PureN.of_w (c := _) Tryz.func67 rfl (by kernel_rfl) rfl ?_
 simp only [Tryz.f67, List.replicate, List.length_cons, List.length_nil, Nat.reduceAdd, Nat.reduceSub, List.cons_append, List.nil_append]
 (repeat (first | (with_reducible first | refine W.seq ?_ | refine W.block ?_ | refine W.scope ?_) | ((first | (with_reducible first | refine W.skip ?_ | refine W.exit ?_ | refine W.ret ?_ | refine W.condL ?_ | refine W.regionA ?_) | ((with_reducible refine W.regionQA hmix ?_ ?_); focus kernel_rfl)); try simp only [go_sem, ↓reduceIte, Nat.reduceAdd, Nat.reduceSub, Nat.reduceMul, Nat.reduceEqDiff, Nat.reduceLeDiff, Nat.reduceLT, Int.reduceLE, Int.reduceLT, Int.reduceToNat, Int.reduceEq])))
 have RP : ∀ k (hk : k < l.length), ((l.flatMap encV).drop (k * 5)).take 5 = [.g (.int .i64 l[k].kind), .g (.int .i64 l[k].tk), .g (.string l[k].text), .g (.int .i64 l[k].n), .sl l[k].l.length 5 (l[k].l.flatMap encV)] ∧ k * 5 + 5 ≤ (l.flatMap encV).length := by
  intro k hlt
  have rp := row_part encV 5 encV_len l k hlt 0 5 (by decide)
  rw [Nat.add_zero, List.drop_zero, List.take_of_length_le (l := encV l[k]) (by rw [encV_len]; decide), encV_eq] at rp
  exact ⟨rp, row_fit encV 5 encV_len l k hlt (j := 0) (c := 5) (by decide)⟩
 refine W.after 0 (fun k : Nat => k ≤ l.length ∧ (∀ x ∈ l.take k, blankB x = true) ∧ ∀ h : k < l.length, blankB l[k] = false) (fun k => stL [(.sl l.length 5 (l.flatMap encV)), .any, .any, (.g (.int .i64 (k : Int))), (.g (.int .i64 (l.length : Int))), .any, .any, .any, .any, .any, .any, .any, .any, .any, .any, .any, .any, .any, .any, .any, .any, .any, .any, .any, .any, .any, .any, .any, .any, .any, .any, .any, .any, .any, .any, .any, .any, .any] [] 0) ?_ ?_
 ·refine W.loop (s1 := stL [(.sl l.length 5 (l.flatMap encV)), .any, .any, (.g (.int .i64 ((0 : Nat) : Int))), (.g (.int .i64 (l.length : Int))), .any, .any, .any, .any, .any, .any, .any, .any, .any, .any, .any, .any, .any, .any, .any, .any, .any, .any, .any, .any, .any, .any, .any, .any, .any, .any, .any, .any, .any, .any, .any, .any, .any] [] 0)
   (fun (k : Nat) s => k ≤ l.length ∧ (∀ x ∈ l.take k, blankB x = true) ∧ s = stL [(.sl l.length 5 (l.flatMap encV)), .any, .any, (.g (.int .i64 (k : Int))), (.g (.int .i64 (l.length : Int))), .any, .any, .any, .any, .any, .any, .any, .any, .any, .any, .any, .any, .any, .any, .any, .any, .any, .any, .any, .any, .any, .any, .any, .any, .any, .any, .any, .any, .any, .any, .any, .any, .any] [] 0) (fun k => l.length - k) 0 ⟨Nat.zero_le _, by simp, rfl⟩ (VS.tm (by simp [leL])) ?_
  rintro k t ⟨hk, hbl, rfl⟩
  by_cases hlt : k < l.length
  ·obtain ⟨rp, rl⟩ := RP k hlt
   (repeat (first | (with_reducible first | refine W.seq ?_ | refine W.block ?_ | refine W.scope ?_) | ((first | (with_reducible first | refine W.skip ?_ | refine W.exit ?_ | refine W.ret ?_ | refine W.condL ?_ | refine W.regionA ?_) | ((with_reducible refine W.regionQA hmix ?_ ?_); focus kernel_rfl)); try simp only [go_sem, ↓reduceIte, Nat.reduceAdd, Nat.reduceSub, Nat.reduceMul, Nat.reduceEqDiff, Nat.reduceLeDiff, Nat.reduceLT, Int.reduceLE, Int.reduceLT, Int.reduceToNat, Int.reduceEq, hlt, rp, rl])))
   refine AtCall.mk (blank3_p l[k]) ?_
   simp only [go_sem, ↓reduceIte, Nat.reduceAdd, Nat.reduceSub, Nat.reduceMul, Nat.reduceEqDiff, Nat.reduceLeDiff, Nat.reduceLT, Int.reduceLE, Int.reduceLT, Int.reduceToNat, Int.reduceEq]
   cases hb : blankB l[k]
   ·(repeat (first | (with_reducible first | refine W.seq ?_ | refine W.block ?_ | refine W.scope ?_) | ((first | (with_reducible first | refine W.skip ?_ | refine W.exit ?_ | refine W.ret ?_ | refine W.condL ?_ | refine W.regionA ?_) | ((with_reducible refine W.regionQA hmix ?_ ?_); focus kernel_rfl)); try simp only [go_sem, ↓reduceIte, Nat.reduceAdd, Nat.reduceSub, Nat.reduceMul, Nat.reduceEqDiff, Nat.reduceLeDiff, Nat.reduceLT, Int.reduceLE, Int.reduceLT, Int.reduceToNat, Int.reduceEq])))
    exact ⟨rfl, k, ⟨hk, hbl, fun _ => hb⟩, VS.tm (by simp only [go_sem, ↓reduceIte, Nat.reduceAdd, Nat.reduceSub, Nat.reduceMul, Nat.reduceEqDiff, Nat.reduceLeDiff, Nat.reduceLT, Int.reduceLE, Int.reduceLT, Int.reduceToNat, Int.reduceEq, or_true, true_or])⟩
   ·(repeat (first | (with_reducible first | refine W.seq ?_ | refine W.block ?_ | refine W.scope ?_) | ((first | (with_reducible first | refine W.skip ?_ | refine W.exit ?_ | refine W.ret ?_ | refine W.condL ?_ | refine W.regionA ?_) | ((with_reducible refine W.regionQA hmix ?_ ?_); focus kernel_rfl)); try simp only [go_sem, ↓reduceIte, Nat.reduceAdd, Nat.reduceSub, Nat.reduceMul, Nat.reduceEqDiff, Nat.reduceLeDiff, Nat.reduceLT, Int.reduceLE, Int.reduceLT, Int.reduceToNat, Int.reduceEq])))
    refine ⟨k + 1, _, ⟨by omega, fun x hx => ?_, rfl⟩, by show l.length - (k + 1) < l.length - k; omega, VS.tm ?_⟩
    ·rw [List.take_succ_eq_append_getElem hlt, List.mem_append, List.mem_singleton] at hx
     rcases hx with hx | rfl
     ·exact hbl x hx
     ·exact hb
    ·rw [up1 (by omega)]
     simp only [go_sem, ↓reduceIte, Nat.reduceAdd, Nat.reduceSub, Nat.reduceMul, Nat.reduceEqDiff, Nat.reduceLeDiff, Nat.reduceLT, Int.reduceLE, Int.reduceLT, Int.reduceToNat, Int.reduceEq, or_true, true_or]
  ·(repeat (first | (with_reducible first | refine W.seq ?_ | refine W.block ?_ | refine W.scope ?_) | ((first | (with_reducible first | refine W.skip ?_ | refine W.exit ?_ | refine W.ret ?_ | refine W.condL ?_ | refine W.regionA ?_) | ((with_reducible refine W.regionQA hmix ?_ ?_); focus kernel_rfl)); try simp only [go_sem, ↓reduceIte, Nat.reduceAdd, Nat.reduceSub, Nat.reduceMul, Nat.reduceEqDiff, Nat.reduceLeDiff, Nat.reduceLT, Int.reduceLE, Int.reduceLT, Int.reduceToNat, Int.reduceEq, hlt])))
   exact ⟨rfl, k, ⟨hk, hbl, fun h => absurd h hlt⟩, VS.tm (by simp only [go_sem, ↓reduceIte, Nat.reduceAdd, Nat.reduceSub, Nat.reduceMul, Nat.reduceEqDiff, Nat.reduceLeDiff, Nat.reduceLT, Int.reduceLE, Int.reduceLT, Int.reduceToNat, Int.reduceEq, or_true, true_or])⟩
 ·rintro k s ⟨hk, hbl, hnb⟩ hv
  simp only [go_sem, ↓reduceIte, Nat.reduceAdd, Nat.reduceSub, Nat.reduceMul, Nat.reduceEqDiff, Nat.reduceLeDiff, Nat.reduceLT, Int.reduceLE, Int.reduceLT, Int.reduceToNat, Int.reduceEq]
  refine W.vs hv ?_
  clear hv
  (repeat (first | (with_reducible first | refine W.seq ?_ | refine W.block ?_ | refine W.scope ?_) | ((first | (with_reducible first | refine W.skip ?_ | refine W.exit ?_ | refine W.ret ?_ | refine W.condL ?_ | refine W.regionA ?_) | ((with_reducible refine W.regionQA hmix ?_ ?_); focus kernel_rfl)); try simp only [go_sem, ↓reduceIte, Nat.reduceAdd, Nat.reduceSub, Nat.reduceMul, Nat.reduceEqDiff, Nat.reduceLeDiff, Nat.reduceLT, Int.reduceLE, Int.reduceLT, Int.reduceToNat, Int.reduceEq])))
  refine W.after 2 (fun j : Nat => k ≤ j ∧ j ≤ l.length ∧ (∀ x ∈ l.drop j, blankB x = true) ∧ ∀ h : j - 1 < l.length, k < j → blankB l[j - 1] = false) (fun j => stL [(.sl l.length 5 (l.flatMap encV)), .any, .any, (.g (.int .i64 (k : Int))), (.g (.int .i64 (j : Int))), .any, .any, .any, .any, .any, .any, .any, .any, .any, .any, .any, .any, .any, .any, .any, .any, .any, .any, .any, .any, .any, .any, .any, .any, .any, .any, .any, .any, .any, .any, .any, .any, .any] [] 0) ?_ ?_
  ·refine W.loop (s1 := stL [(.sl l.length 5 (l.flatMap encV)), .any, .any, (.g (.int .i64 (k : Int))), (.g (.int .i64 (l.length : Int))), .any, .any, .any, .any, .any, .any, .any, .any, .any, .any, .any, .any, .any, .any, .any, .any, .any, .any, .any, .any, .any, .any, .any, .any, .any, .any, .any, .any, .any, .any, .any, .any, .any] [] 0)
    (fun (j : Nat) s => k ≤ j ∧ j ≤ l.length ∧ (∀ x ∈ l.drop j, blankB x = true) ∧ s = stL [(.sl l.length 5 (l.flatMap encV)), .any, .any, (.g (.int .i64 (k : Int))), (.g (.int .i64 (j : Int))), .any, .any, .any, .any, .any, .any, .any, .any, .any, .any, .any, .any, .any, .any, .any, .any, .any, .any, .any, .any, .any, .any, .any, .any, .any, .any, .any, .any, .any, .any, .any, .any, .any] [] 0) (fun j => j) l.length ⟨hk, Nat.le_refl _, by simp, rfl⟩ (VS.tm (by simp only [go_sem, ↓reduceIte, Nat.reduceAdd, Nat.reduceSub, Nat.reduceMul, Nat.reduceEqDiff, Nat.reduceLeDiff, Nat.reduceLT, Int.reduceLE, Int.reduceLT, Int.reduceToNat, Int.reduceEq, or_true, true_or])) ?_
   rintro j t ⟨hkj, hj, hbl2, rfl⟩
   by_cases hlt : k < j
   ·have hj1 : j - 1 < l.length := by omega
    obtain ⟨rp, rl⟩ := RP (j - 1) hj1
    have e1 : IntKind.i64.wrap ((j : Int) - 1) = ((j - 1 : Nat) : Int) := by rw [IntWalk.i64_in _ (by omega)]; omega
    (repeat (first | (with_reducible first | refine W.seq ?_ | refine W.block ?_ | refine W.scope ?_) | ((first | (with_reducible first | refine W.skip ?_ | refine W.exit ?_ | refine W.ret ?_ | refine W.condL ?_ | refine W.regionA ?_) | ((with_reducible refine W.regionQA hmix ?_ ?_); focus kernel_rfl)); try simp only [go_sem, ↓reduceIte, Nat.reduceAdd, Nat.reduceSub, Nat.reduceMul, Nat.reduceEqDiff, Nat.reduceLeDiff, Nat.reduceLT, Int.reduceLE, Int.reduceLT, Int.reduceToNat, Int.reduceEq, hlt, rp, rl, e1, hj1])))
    refine AtCall.mk (blank3_p l[j - 1]) ?_
    simp only [go_sem, ↓reduceIte, Nat.reduceAdd, Nat.reduceSub, Nat.reduceMul, Nat.reduceEqDiff, Nat.reduceLeDiff, Nat.reduceLT, Int.reduceLE, Int.reduceLT, Int.reduceToNat, Int.reduceEq]
    cases hb : blankB l[j - 1]
    ·(repeat (first | (with_reducible first | refine W.seq ?_ | refine W.block ?_ | refine W.scope ?_) | ((first | (with_reducible first | refine W.skip ?_ | refine W.exit ?_ | refine W.ret ?_ | refine W.condL ?_ | refine W.regionA ?_) | ((with_reducible refine W.regionQA hmix ?_ ?_); focus kernel_rfl)); try simp only [go_sem, ↓reduceIte, Nat.reduceAdd, Nat.reduceSub, Nat.reduceMul, Nat.reduceEqDiff, Nat.reduceLeDiff, Nat.reduceLT, Int.reduceLE, Int.reduceLT, Int.reduceToNat, Int.reduceEq])))
     exact ⟨rfl, j, ⟨hkj, hj, hbl2, fun _ _ => hb⟩, VS.tm (by simp only [go_sem, ↓reduceIte, Nat.reduceAdd, Nat.reduceSub, Nat.reduceMul, Nat.reduceEqDiff, Nat.reduceLeDiff, Nat.reduceLT, Int.reduceLE, Int.reduceLT, Int.reduceToNat, Int.reduceEq, or_true, true_or])⟩
    ·(repeat (first | (with_reducible first | refine W.seq ?_ | refine W.block ?_ | refine W.scope ?_) | ((first | (with_reducible first | refine W.skip ?_ | refine W.exit ?_ | refine W.ret ?_ | refine W.condL ?_ | refine W.regionA ?_) | ((with_reducible refine W.regionQA hmix ?_ ?_); focus kernel_rfl)); try simp only [go_sem, ↓reduceIte, Nat.reduceAdd, Nat.reduceSub, Nat.reduceMul, Nat.reduceEqDiff, Nat.reduceLeDiff, Nat.reduceLT, Int.reduceLE, Int.reduceLT, Int.reduceToNat, Int.reduceEq, e1])))
     refine ⟨j - 1, _, ⟨by omega, by omega, fun x hx => ?_, rfl⟩, by show j - 1 < j; omega, VS.tm ?_⟩
     ·rw [List.drop_eq_getElem_cons hj1, show j - 1 + 1 = j by omega] at hx
      rcases List.mem_cons.1 hx with rfl | hx
      ·exact hb
      ·exact hbl2 x hx
     ·simp only [go_sem, ↓reduceIte, Nat.reduceAdd, Nat.reduceSub, Nat.reduceMul, Nat.reduceEqDiff, Nat.reduceLeDiff, Nat.reduceLT, Int.reduceLE, Int.reduceLT, Int.reduceToNat, Int.reduceEq, or_true, true_or]
   ·(repeat (first | (with_reducible first | refine W.seq ?_ | refine W.block ?_ | refine W.scope ?_) | ((first | (with_reducible first | refine W.skip ?_ | refine W.exit ?_ | refine W.ret ?_ | refine W.condL ?_ | refine W.regionA ?_) | ((with_reducible refine W.regionQA hmix ?_ ?_); focus kernel_rfl)); try simp only [go_sem, ↓reduceIte, Nat.reduceAdd, Nat.reduceSub, Nat.reduceMul, Nat.reduceEqDiff, Nat.reduceLeDiff, Nat.reduceLT, Int.reduceLE, Int.reduceLT, Int.reduceToNat, Int.reduceEq, hlt])))
    exact ⟨rfl, j, ⟨hkj, hj, hbl2, fun _ h => absurd h hlt⟩, VS.tm (by simp only [go_sem, ↓reduceIte, Nat.reduceAdd, Nat.reduceSub, Nat.reduceMul, Nat.reduceEqDiff, Nat.reduceLeDiff, Nat.reduceLT, Int.reduceLE, Int.reduceLT, Int.reduceToNat, Int.reduceEq, or_true, true_or])⟩
  ·rintro j s ⟨hkj, hj, hbl2, hnb2⟩ hv
   have HT := trim_at hkj hj hbl (fun h _ => hnb h) hbl2 hnb2
   simp only [go_sem, ↓reduceIte, Nat.reduceAdd, Nat.reduceSub, Nat.reduceMul, Nat.reduceEqDiff, Nat.reduceLeDiff, Nat.reduceLT, Int.reduceLE, Int.reduceLT, Int.reduceToNat, Int.reduceEq]
   refine W.vs hv ?_
   clear hv
   have hT : ((l.drop k).take (j - k)).length = j - k := by rw [List.length_take, List.length_drop]; omega
   have e1 : ((l.flatMap encV).drop (k * 5)).take ((j - k) * 5) = (trimM l).flatMap encV := by rw [row_cut encV 5 encV_len, HT]
   have hT2 : (trimM l).length = j - k := by rw [HT]; exact hT
   have e2 : ((trimM l).flatMap encV).take ((j - k) * 5) = (trimM l).flatMap encV := by rw [← hT2]; exact row_all encV 5 encV_len _
   have e3 : (j - k) * 5 ≤ ((trimM l).flatMap encV).length := by rw [row_len encV 5 encV_len, hT2]; exact Nat.le_refl _
   have e4 := row_cells encV encV_cells (trimM l)
   have e5 := row_plain encV encV_plain (trimM l)
   have e6 : (j - k) * (64 + 1) ≤ 17179869184 := by omega
   by_cases hz : j - k = 0
   ·(repeat (first | (with_reducible first | refine W.seq ?_ | refine W.block ?_ | refine W.scope ?_) | ((first | (with_reducible first | refine W.skip ?_ | refine W.exit ?_ | refine W.ret ?_ | refine W.condL ?_ | refine W.regionA ?_) | ((with_reducible refine W.regionQA hmix ?_ ?_); focus kernel_rfl)); try simp only [go_sem, ↓reduceIte, Nat.reduceAdd, Nat.reduceSub, Nat.reduceMul, Nat.reduceEqDiff, Nat.reduceLeDiff, Nat.reduceLT, Int.reduceLE, Int.reduceLT, Int.reduceToNat, Int.reduceEq, e1, e2, e3, hkj, hj, hz])))
    have : trimM l = [] := List.eq_nil_of_length_eq_zero (by rw [hT2]; exact hz)
    rw [this]
    exact postP_one _ (.inr rfl) rfl (SealTo.gs (b := 0) (o := 0) (k := 0) (sz := 5) (c := 0) (cs := []) rfl (by simp) (by simp))
   ·(repeat (first | (with_reducible first | refine W.seq ?_ | refine W.block ?_ | refine W.scope ?_) | ((first | (with_reducible first | refine W.skip ?_ | refine W.exit ?_ | refine W.ret ?_ | refine W.condL ?_ | refine W.regionA ?_) | ((with_reducible refine W.regionQA hmix ?_ ?_); focus kernel_rfl)); try simp only [go_sem, ↓reduceIte, Nat.reduceAdd, Nat.reduceSub, Nat.reduceMul, Nat.reduceEqDiff, Nat.reduceLeDiff, Nat.reduceLT, Int.reduceLE, Int.reduceLT, Int.reduceToNat, Int.reduceEq, e1, e2, e3, e4, e6, hkj, hj, hz])))
    have hS := SealTo.gs (m := [(1, .cells ((trimM l).flatMap encV))]) (b := 1) (o := 0) (k := j - k) (sz := 5) (c := j - k) (cs := (trimM l).flatMap encV) rfl (by rw [Nat.zero_add]; exact e3) (by rw [List.drop_zero, e2]; exact e5)
    rw [List.drop_zero, e2] at hS
    rw [hT2]
    exact postP_one _ (.inr rfl) rfl hS
end Go.Proofs.YtlnaihkombcbcaaGreat
end
set_option linter.unusedSimpArgs false
noncomputable section
namespace Go.Proofs.YtlnaihkombcbcaaGreat
open Go.RowKit Go.Ev
attribute [local go_sem] eq_self Bool.false_eq_true List.set_cons_succ List.set_cons_zero List.getD_cons_succ List.getD_cons_zero List.getElem?_cons_succ List.getElem?_cons_zero true_and and_true and_self Bool.not_true Bool.not_false Nat.add_zero Nat.zero_add Nat.mul_one Int.toNat_natCast Int.natCast_nonneg Int.ofNat_lt Option.bind_some Option.map_some List.map_cons List.map_nil decide_true decide_false BEq.rfl Bool.and_self Bool.and_true Bool.and_false beq_self_eq_true List.cons_append List.nil_append List.take_zero List.take_succ_cons List.take_nil List.drop_succ_cons List.drop_zero List.drop_nil List.append_nil List.length_cons List.length_nil List.all_cons List.all_nil Nat.le_refl Option.map_none List.replicate_zero List.replicate_succ Nat.zero_mul Nat.sub_zero Nat.zero_le Nat.le_zero_eq getR_nil Int.toNat_zero Int.natCast_zero Int.natCast_one Int.cast_ofNat_Int List.toList_toArray
theorem ff_iff {s : ByteArray} : decide (s = ⟨#[102, 111, 110, 116, 45, 102, 97, 109, 105, 108, 121]⟩) = ffB s := by
 rw [← ba_eq]
 unfold ffB
 rw [ByteArray.toList_eq (⟨#[102, 111, 110, 116, 45, 102, 97, 109, 105, 108, 121]⟩ : ByteArray)]
set_option maxRecDepth 100000 in
set_option maxHeartbeats 400000 in
theorem fam15_p (k mn mx : Int) (n1 s1 n3 s3 n6 s6 n7 s7 : Nat) (c1 c3 c6 c7 : List AV) (ds : List Dl) (hlen : ds.length ≤ 1000) (hcn : ∀ d ∈ ds, d.l.length ≤ 1000) : PureN Tryz.prog gt0 83 [.agg [.g (.int .i64 k), .sl n1 s1 c1, .sl ds.length 3 (ds.flatMap encD), .sl n3 s3 c3, .g (.int .i64 mn), .g (.int .i64 mx), .sl n6 s6 c6, .sl n7 s7 c7]]
 (.tup [.g (.string (famR ds.reverse).1), .g (.bool (famR ds.reverse).2)]) := by
 refine PureN.of_w (c := _) Tryz.func83 rfl (by kernel_rfl) rfl ?_
 simp only [Tryz.f83, List.replicate, List.length_cons, List.length_nil, Nat.reduceAdd, Nat.reduceSub, List.cons_append, List.nil_append]
 have e0 : IntKind.i64.wrap ((ds.length : Int) - 1) = (ds.length : Int) - 1 := IntWalk.i64_in _ (by omega)
 (repeat (first | (with_reducible first | refine W.seq ?_ | refine W.block ?_ | refine W.scope ?_) | ((first | (with_reducible first | refine W.skip ?_ | refine W.exit ?_ | refine W.ret ?_ | refine W.condL ?_ | refine W.regionA ?_) | ((with_reducible refine W.regionQA hmix ?_ ?_); focus kernel_rfl)); try simp only [go_sem, ↓reduceIte, Nat.reduceAdd, Nat.reduceSub, Nat.reduceMul, Nat.reduceEqDiff, Nat.reduceLeDiff, Nat.reduceLT, Int.reduceLE, Int.reduceLT, Int.reduceToNat, Int.reduceEq, e0])))
 refine W.loop (s1 := stL [.any, (.ptr 0 0), (.g (.string ⟨#[]⟩)), (.g (.bool false)), (.g (.int .i64 ((ds.length : Int) - 1))), .any, .any, .any, .any, .any, .any, .any, .any, .any, .any, .any, .any, .any, .any, .any, .any, .any, .any, .any, .any, .any, .any, .any, .any, .any, .any, .any, .any, .any, .any, .any, .any, .any, .any, .any, .any, .any, .any, .any, .any, .any, .any, .any, .any, .any, .any, .any, .any, .any, .any, .any, .any, .any, .any] [(0, .cells [.g (.int .i64 k), .sl n1 s1 c1, .sl ds.length 3 (ds.flatMap encD), .sl n3 s3 c3, .g (.int .i64 mn), .g (.int .i64 mx), .sl n6 s6 c6, .sl n7 s7 c7])] 1)
  (fun (j : Nat) s => j ≤ ds.length ∧ famR ds.reverse = famR (ds.take j).reverse ∧ s = stL [.any, (.ptr 0 0), (.g (.string ⟨#[]⟩)), (.g (.bool false)), (.g (.int .i64 ((j : Int) - 1))), .any, .any, .any, .any, .any, .any, .any, .any, .any, .any, .any, .any, .any, .any, .any, .any, .any, .any, .any, .any, .any, .any, .any, .any, .any, .any, .any, .any, .any, .any, .any, .any, .any, .any, .any, .any, .any, .any, .any, .any, .any, .any, .any, .any, .any, .any, .any, .any, .any, .any, .any, .any, .any, .any] [(0, .cells [.g (.int .i64 k), .sl n1 s1 c1, .sl ds.length 3 (ds.flatMap encD), .sl n3 s3 c3, .g (.int .i64 mn), .g (.int .i64 mx), .sl n6 s6 c6, .sl n7 s7 c7])] 1) (fun j => j) ds.length ⟨Nat.le_refl _, by rw [List.take_length], rfl⟩ (VS.tm (by simp only [go_sem, ↓reduceIte, Nat.reduceAdd, Nat.reduceSub, Nat.reduceMul, Nat.reduceEqDiff, Nat.reduceLeDiff, Nat.reduceLT, Int.reduceLE, Int.reduceLT, Int.reduceToNat, Int.reduceEq, or_true, true_or])) ?_
 rintro j t ⟨hj, hf, rfl⟩
 by_cases hpos : 0 < j
 ·obtain ⟨i, rfl⟩ : ∃ i, j = i + 1 := ⟨j - 1, by omega⟩
  have hlt : i < ds.length := by omega
  have ei : ((i + 1 : Nat) : Int) - 1 = (i : Int) := by omega
  have e1 : IntKind.i64.wrap ((i : Int) - 1) = (i : Int) - 1 := IntWalk.i64_in _ (by omega)
  obtain ⟨r0, r1, r2⟩ := rowD hlt
  have hfi : famR (ds.take (i + 1)).reverse = if ffB ds[i].name = true then pickM (trimM ds[i].l) else famR (ds.take i).reverse := by
   rw [List.take_succ_eq_append_getElem hlt, List.reverse_append]; rfl
  rw [hfi] at hf
  by_cases hn : ds[i].name = ⟨#[102, 111, 110, 116, 45, 102, 97, 109, 105, 108, 121]⟩
  ·have hff : ffB ds[i].name = true := by rw [← ff_iff]; exact decide_eq_true hn
   rw [if_pos hff] at hf
   rw [hf]
   (repeat (first | (with_reducible first | refine W.seq ?_ | refine W.block ?_ | refine W.scope ?_) | ((first | (with_reducible first | refine W.skip ?_ | refine W.exit ?_ | refine W.ret ?_ | refine W.condL ?_ | refine W.regionA ?_) | ((with_reducible refine W.regionQA hmix ?_ ?_); focus kernel_rfl)); try simp only [go_sem, ↓reduceIte, Nat.reduceAdd, Nat.reduceSub, Nat.reduceMul, Nat.reduceEqDiff, Nat.reduceLeDiff, Nat.reduceLT, Int.reduceLE, Int.reduceLT, Int.reduceToNat, Int.reduceEq, ei, hlt, r0, r1, hn])))
   refine AtCall.mk (trim3_p ds[i].l (hcn _ (List.getElem_mem hlt))) ?_
   simp only [go_sem, ↓reduceIte, Nat.reduceAdd, Nat.reduceSub, Nat.reduceMul, Nat.reduceEqDiff, Nat.reduceLeDiff, Nat.reduceLT, Int.reduceLE, Int.reduceLT, Int.reduceToNat, Int.reduceEq]
   generalize trimM ds[i].l = T
   by_cases hl : T.length = 1
   ·obtain ⟨y, rfl⟩ := List.length_eq_one_iff.1 hl
    have hrow : [y].flatMap encV = [.g (.int .i64 y.kind), .g (.int .i64 y.tk), .g (.string y.text), .g (.int .i64 y.n), .sl y.l.length 5 (y.l.flatMap encV)] := by rw [List.flatMap_cons, List.flatMap_nil, List.append_nil, encV_eq]
    have h1 : (([y] : List Vl).length : Int) = 1 := rfl
    by_cases hk : y.kind = 1
    ·by_cases h11 : y.tk = 1
     ·have hp : pickM [y] = (y.text, true) := by simp [pickM, hk, h11]
      rw [hp]
      (repeat (first | (with_reducible first | refine W.seq ?_ | refine W.block ?_ | refine W.scope ?_) | ((first | (with_reducible first | refine W.skip ?_ | refine W.exit ?_ | refine W.ret ?_ | refine W.condL ?_ | refine W.regionA ?_) | ((with_reducible refine W.regionQA hmix ?_ ?_); focus kernel_rfl)); try simp only [go_sem, ↓reduceIte, Nat.reduceAdd, Nat.reduceSub, Nat.reduceMul, Nat.reduceEqDiff, Nat.reduceLeDiff, Nat.reduceLT, Int.reduceLE, Int.reduceLT, Int.reduceToNat, Int.reduceEq, hrow, h1, hk, h11])))
      ((with_reducible refine postP_pl2 _ (.inr rfl) ?_ ?_ ?_ ?_) <;> rfl)
     ·by_cases h6 : y.tk = 6
      ·have hp : pickM [y] = (y.text, true) := by simp [pickM, hk, h6]
       rw [hp]
       (repeat (first | (with_reducible first | refine W.seq ?_ | refine W.block ?_ | refine W.scope ?_) | ((first | (with_reducible first | refine W.skip ?_ | refine W.exit ?_ | refine W.ret ?_ | refine W.condL ?_ | refine W.regionA ?_) | ((with_reducible refine W.regionQA hmix ?_ ?_); focus kernel_rfl)); try simp only [go_sem, ↓reduceIte, Nat.reduceAdd, Nat.reduceSub, Nat.reduceMul, Nat.reduceEqDiff, Nat.reduceLeDiff, Nat.reduceLT, Int.reduceLE, Int.reduceLT, Int.reduceToNat, Int.reduceEq, hrow, h1, hk, h11, h6])))
       ((with_reducible refine postP_pl2 _ (.inr rfl) ?_ ?_ ?_ ?_) <;> rfl)
      ·have hp : pickM [y] = (⟨#[]⟩, false) := by simp [pickM, h11, h6]
       rw [hp]
       (repeat (first | (with_reducible first | refine W.seq ?_ | refine W.block ?_ | refine W.scope ?_) | ((first | (with_reducible first | refine W.skip ?_ | refine W.exit ?_ | refine W.ret ?_ | refine W.condL ?_ | refine W.regionA ?_) | ((with_reducible refine W.regionQA hmix ?_ ?_); focus kernel_rfl)); try simp only [go_sem, ↓reduceIte, Nat.reduceAdd, Nat.reduceSub, Nat.reduceMul, Nat.reduceEqDiff, Nat.reduceLeDiff, Nat.reduceLT, Int.reduceLE, Int.reduceLT, Int.reduceToNat, Int.reduceEq, hrow, h1, hk, h11, h6])))
       ((with_reducible refine postP_pl2 _ (.inr rfl) ?_ ?_ ?_ ?_) <;> rfl)
    ·have hp : pickM [y] = (⟨#[]⟩, false) := by simp [pickM, hk]
     rw [hp]
     (repeat (first | (with_reducible first | refine W.seq ?_ | refine W.block ?_ | refine W.scope ?_) | ((first | (with_reducible first | refine W.skip ?_ | refine W.exit ?_ | refine W.ret ?_ | refine W.condL ?_ | refine W.regionA ?_) | ((with_reducible refine W.regionQA hmix ?_ ?_); focus kernel_rfl)); try simp only [go_sem, ↓reduceIte, Nat.reduceAdd, Nat.reduceSub, Nat.reduceMul, Nat.reduceEqDiff, Nat.reduceLeDiff, Nat.reduceLT, Int.reduceLE, Int.reduceLT, Int.reduceToNat, Int.reduceEq, hrow, h1, hk])))
     ((with_reducible refine postP_pl2 _ (.inr rfl) ?_ ?_ ?_ ?_) <;> rfl)
   ·have hp : pickM T = (⟨#[]⟩, false) := by
     cases T with
     | nil => rfl
     | cons a T =>
       cases T with
       | nil => exact absurd rfl hl
       | cons b T => rfl
    have hl' : ¬ (T.length : Int) = 1 := by omega
    rw [hp]
    (repeat (first | (with_reducible first | refine W.seq ?_ | refine W.block ?_ | refine W.scope ?_) | ((first | (with_reducible first | refine W.skip ?_ | refine W.exit ?_ | refine W.ret ?_ | refine W.condL ?_ | refine W.regionA ?_) | ((with_reducible refine W.regionQA hmix ?_ ?_); focus kernel_rfl)); try simp only [go_sem, ↓reduceIte, Nat.reduceAdd, Nat.reduceSub, Nat.reduceMul, Nat.reduceEqDiff, Nat.reduceLeDiff, Nat.reduceLT, Int.reduceLE, Int.reduceLT, Int.reduceToNat, Int.reduceEq, hl'])))
    ((with_reducible refine postP_pl2 _ (.inr rfl) ?_ ?_ ?_ ?_) <;> rfl)
  ·have hff : ¬ ffB ds[i].name = true := by rw [← ff_iff]; exact fun h => hn (of_decide_eq_true h)
   rw [if_neg hff] at hf
   (repeat (first | (with_reducible first | refine W.seq ?_ | refine W.block ?_ | refine W.scope ?_) | ((first | (with_reducible first | refine W.skip ?_ | refine W.exit ?_ | refine W.ret ?_ | refine W.condL ?_ | refine W.regionA ?_) | ((with_reducible refine W.regionQA hmix ?_ ?_); focus kernel_rfl)); try simp only [go_sem, ↓reduceIte, Nat.reduceAdd, Nat.reduceSub, Nat.reduceMul, Nat.reduceEqDiff, Nat.reduceLeDiff, Nat.reduceLT, Int.reduceLE, Int.reduceLT, Int.reduceToNat, Int.reduceEq, ei, hlt, r0, r1, hn, e1])))
   exact ⟨i, _, ⟨by omega, hf, rfl⟩, Nat.lt_succ_self i, VS.tm (by simp only [go_sem, ↓reduceIte, Nat.reduceAdd, Nat.reduceSub, Nat.reduceMul, Nat.reduceEqDiff, Nat.reduceLeDiff, Nat.reduceLT, Int.reduceLE, Int.reduceLT, Int.reduceToNat, Int.reduceEq, or_true, true_or])⟩
 ·obtain rfl : j = 0 := by omega
  have hneg : ¬ (0 : Int) ≤ ((0 : Nat) : Int) - 1 := by omega
  have hf0 : famR ds.reverse = (⟨#[]⟩, false) := hf
  rw [hf0]
  clear hf hf0
  have e9 : (0 : Int) - 1 = -1 := rfl
  have e8 : ¬ (0 : Int) ≤ -1 := by omega
  (repeat (first | (with_reducible first | refine W.seq ?_ | refine W.block ?_ | refine W.scope ?_) | ((first | (with_reducible first | refine W.skip ?_ | refine W.exit ?_ | refine W.ret ?_ | refine W.condL ?_ | refine W.regionA ?_) | ((with_reducible refine W.regionQA hmix ?_ ?_); focus kernel_rfl)); try simp only [go_sem, ↓reduceIte, Nat.reduceAdd, Nat.reduceSub, Nat.reduceMul, Nat.reduceEqDiff, Nat.reduceLeDiff, Nat.reduceLT, Int.reduceLE, Int.reduceLT, Int.reduceToNat, Int.reduceEq, hneg, e9, e8])))
  ((with_reducible refine postP_pl2 _ (.inr rfl) ?_ ?_ ?_ ?_) <;> rfl)
end Go.Proofs.YtlnaihkombcbcaaGreat
end
set_option linter.unusedSimpArgs false
noncomputable section
namespace Go.Proofs.YtlnaihkombcbcaaGreat
open Go.RowKit Go.Ev
attribute [local go_sem] eq_self Bool.false_eq_true List.set_cons_succ List.set_cons_zero List.getD_cons_succ List.getD_cons_zero List.getElem?_cons_succ List.getElem?_cons_zero true_and and_true and_self Bool.not_true Bool.not_false Nat.add_zero Nat.zero_add Nat.mul_one Int.toNat_natCast Int.natCast_nonneg Int.ofNat_lt Option.bind_some Option.map_some List.map_cons List.map_nil decide_true decide_false BEq.rfl Bool.and_self Bool.and_true Bool.and_false beq_self_eq_true List.cons_append List.nil_append List.take_zero List.take_succ_cons List.take_nil List.drop_succ_cons List.drop_zero List.drop_nil List.append_nil List.length_cons List.length_nil List.all_cons List.all_nil Nat.le_refl Option.map_none List.replicate_zero List.replicate_succ Nat.zero_mul Nat.sub_zero Nat.zero_le Nat.le_zero_eq getR_nil Int.toNat_zero Int.natCast_zero Int.natCast_one Int.cast_ofNat_Int List.toList_toArray
theorem ag_pool : aggO Tryz.prog 41 = some (true, 3) := by kernel_rfl
theorem fl_pool0 : fldO Tryz.prog 41 0 = some (0, 25) := by kernel_rfl
theorem fl_pool1 : fldO Tryz.prog 41 1 = some (1, 25) := by kernel_rfl
theorem fl_pool2 : fldO Tryz.prog 41 2 = some (2, 25) := by kernel_rfl
theorem un_str : Tryz.prog.underlying 9 = some .string := by kernel_rfl
attribute [go_sem] ag_pool fl_pool0 fl_pool1 fl_pool2 un_str
set_option maxRecDepth 100000 in
set_option maxHeartbeats 4000000 in
theorem fam18_p (k mn mx : Int) (n1 s1 n3 s3 n6 s6 n7 s7 : Nat) (c1 c3 c6 c7 : List AV) (ds : List Dl) (hlen : ds.length ≤ 1000) (hcn : ∀ d ∈ ds, d.l.length ≤ 1000) : PureN Tryz.prog gt0 31 [.agg [.g (.int .i64 k), .sl n1 s1 c1, .sl ds.length 3 (ds.flatMap encD), .sl n3 s3 c3, .g (.int .i64 mn), .g (.int .i64 mx), .sl n6 s6 c6, .sl n7 s7 c7]]
 (.tup [.g (.string (famM k ds).1), .g (.bool (famM k ds).2)]) := by
 refine PureN.of_w (c := _) Tryz.func31 rfl (by kernel_rfl) rfl ?_
 simp only [Tryz.f31, List.replicate, List.length_cons, List.length_nil, Nat.reduceAdd, Nat.reduceSub, List.cons_append, List.nil_append]
 unfold famM
 by_cases hk : k = 6
 ·rw [if_pos hk]
  (repeat (first | (with_reducible first | refine W.seq ?_ | refine W.block ?_ | refine W.scope ?_) | ((first | (with_reducible first | refine W.skip ?_ | refine W.exit ?_ | refine W.ret ?_ | refine W.condL ?_ | refine W.regionA ?_) | ((with_reducible refine W.regionQA hmix ?_ ?_); focus kernel_rfl)); try simp only [go_sem, ↓reduceIte, Nat.reduceAdd, Nat.reduceSub, Nat.reduceMul, Nat.reduceEqDiff, Nat.reduceLeDiff, Nat.reduceLT, Int.reduceLE, Int.reduceLT, Int.reduceToNat, Int.reduceEq, hk])))
  refine AtCall.mk (fam15_p 6 mn mx n1 s1 n3 s3 n6 s6 n7 s7 c1 c3 c6 c7 ds hlen hcn) ?_
  simp only [go_sem, ↓reduceIte, Nat.reduceAdd, Nat.reduceSub, Nat.reduceMul, Nat.reduceEqDiff, Nat.reduceLeDiff, Nat.reduceLT, Int.reduceLE, Int.reduceLT, Int.reduceToNat, Int.reduceEq]
  (repeat (first | (with_reducible first | refine W.seq ?_ | refine W.block ?_ | refine W.scope ?_) | ((first | (with_reducible first | refine W.skip ?_ | refine W.exit ?_ | refine W.ret ?_ | refine W.condL ?_ | refine W.regionA ?_) | ((with_reducible refine W.regionQA hmix ?_ ?_); focus kernel_rfl)); try simp only [go_sem, ↓reduceIte, Nat.reduceAdd, Nat.reduceSub, Nat.reduceMul, Nat.reduceEqDiff, Nat.reduceLeDiff, Nat.reduceLT, Int.reduceLE, Int.reduceLT, Int.reduceToNat, Int.reduceEq])))
  ((with_reducible refine postP_pl2 _ (.inr rfl) ?_ ?_ ?_ ?_) <;> rfl)
 ·rw [if_neg hk]
  (repeat (first | (with_reducible first | refine W.seq ?_ | refine W.block ?_ | refine W.scope ?_) | ((first | (with_reducible first | refine W.skip ?_ | refine W.exit ?_ | refine W.ret ?_ | refine W.condL ?_ | refine W.regionA ?_) | ((with_reducible refine W.regionQA hmix ?_ ?_); focus kernel_rfl)); try simp only [go_sem, ↓reduceIte, Nat.reduceAdd, Nat.reduceSub, Nat.reduceMul, Nat.reduceEqDiff, Nat.reduceLeDiff, Nat.reduceLT, Int.reduceLE, Int.reduceLT, Int.reduceToNat, Int.reduceEq, hk])))
  ((with_reducible refine postP_pl2 _ (.inr rfl) ?_ ?_ ?_ ?_) <;> rfl)
abbrev stA (c : List Str) : AV := .sl (c.map bs).length 1 ((c.map bs).flatMap encN)
theorem inA_str (c : List Str) (x : ByteArray) : inA (c.map bs) x = c.contains (sOf x) := by
 rw [Bool.eq_iff_iff, inA_iff, List.contains_iff_mem]
 have hb : ∀ s : Str, bs s = x ↔ s = sOf x := fun s => by
  constructor
  ·rintro rfl
   rw [← bs_toList s, ByteArray.toList_eq]; rfl
  ·rintro rfl; rfl
 constructor
 ·intro h
  obtain ⟨s, hs, he⟩ := List.mem_map.1 h
  rw [← (hb s).1 he]; exact hs
 ·intro h
  exact List.mem_map.2 ⟨_, h, (hb _).2 rfl⟩
theorem cut2 (s : ByteArray) : decide (cutS s 0 2 = ⟨#[45, 45]⟩) = ((s.extract 0 2).toList == [45, 45]) := by
 rw [← ba_eq]
 unfold cutS
 rw [ByteArray.toList_eq, ByteArray.toList_eq, ByteArray.toList_eq]
 simp [ByteArray.data_extract]
set_option maxRecDepth 100000 in
set_option maxHeartbeats 4000000 in
theorem used_p {p : S3} {x : Itm} (hp : smallP p) (hd : x.decls.length ≤ 1000) (hdl : ∀ d ∈ x.decls, d.l.length ≤ 1000) (hu : usedP p x) :
 PureN Tryz.prog gt0 41 [.agg [stA p.c, stA p.f, stA p.g], .agg (encI x)] (.g (.bool true)) := by
 obtain ⟨hu1, hu5, hu6⟩ := hu
 obtain ⟨hp1, hp2, hp3⟩ := hp
 have i1 := in11_p (p.c.map bs)
 have i2 := in11_p (p.f.map bs)
 have i3 := in11_p (p.g.map bs)
 have l1 : (p.c.map bs).length ≤ 1000000 := by rw [List.length_map]; exact hp1
 have l2 : (p.f.map bs).length ≤ 1000000 := by rw [List.length_map]; exact hp2
 have l3 : (p.g.map bs).length ≤ 1000000 := by rw [List.length_map]; exact hp3
 have IC := fun x => i1 x l1
 have IF := fun x => i2 x l2
 have IG := fun x => i3 x l3
 simp only [inA_str] at IC IF IG
 clear i1 i2 i3 l1 l2 l3
 rw [encI_eq]
 unfold stA
 generalize (p.c.map bs).flatMap encN = PC at *
 generalize (p.f.map bs).flatMap encN = PF at *
 generalize (p.g.map bs).flatMap encN = PG at *
 generalize (p.c.map bs).length = NC at *
 generalize (p.f.map bs).length = NF at *
 generalize (p.g.map bs).length = NG at *
 refine PureN.of_w (c := _) Tryz.func41 rfl (by kernel_rfl) rfl ?_
 simp only [Tryz.f41, List.replicate, List.length_cons, List.length_nil, Nat.reduceAdd, Nat.reduceSub, List.cons_append, List.nil_append]
 (repeat (first | (with_reducible first | refine W.seq ?_ | refine W.block ?_ | refine W.scope ?_) | ((first | (with_reducible first | refine W.skip ?_ | refine W.exit ?_ | refine W.ret ?_ | refine W.condL ?_ | refine W.regionA ?_) | ((with_reducible refine W.regionQA hmix ?_ ?_); focus kernel_rfl)); try simp only [go_sem, ↓reduceIte, Nat.reduceAdd, Nat.reduceSub, Nat.reduceMul, Nat.reduceEqDiff, Nat.reduceLeDiff, Nat.reduceLT, Int.reduceLE, Int.reduceLT, Int.reduceToNat, Int.reduceEq])))
 refine W.after 0 (fun _ : Unit => True) (fun _ => stL [.any, .any, (.ptr 0 0), (.ptr 1 0), (.g (.bool false)), .any, .any, .any, .any, .any, .any, .any, .any, .any, .any, .any, .any, .any, .any, .any, .any, .any, .any, .any, .any, .any, .any, .any, .any, .any, .any, .any, .any, .any, .any, .any, .any, .any, .any, .any, .any, .any, .any, .any, .any, .any, .any, .any, .any, .any, .any, .any, .any, .any, .any, .any, .any, .any, .any, .any, .any, .any, .any, .any, .any, .any, .any, .any, .any, .any, .any, .any, .any, .any, .any] [(1, .cells [.g (.int .i64 x.kind), .sl x.sels.length 2 (x.sels.flatMap encC), .sl x.decls.length 3 (x.decls.flatMap encD), .sl x.names.length 1 (x.names.flatMap encN), .g (.int .i64 x.mn), .g (.int .i64 x.mx), .sl x.vals.length 5 (x.vals.flatMap encV), .sl x.l.length 8 (x.l.flatMap encI)]), (0, .cells [.sl NC 1 PC, .sl NF 1 PF, .sl NG 1 PG])] 2) ?_ ?_
 ·refine W.loop (s1 := stL [.any, .any, (.ptr 0 0), (.ptr 1 0), (.g (.bool false)), (.g (.int .i64 ((0 : Nat) : Int))), .any, .any, .any, .any, .any, .any, .any, .any, .any, .any, .any, .any, .any, .any, .any, .any, .any, .any, .any, .any, .any, .any, .any, .any, .any, .any, .any, .any, .any, .any, .any, .any, .any, .any, .any, .any, .any, .any, .any, .any, .any, .any, .any, .any, .any, .any, .any, .any, .any, .any, .any, .any, .any, .any, .any, .any, .any, .any, .any, .any, .any, .any, .any, .any, .any, .any, .any, .any, .any] [(1, .cells [.g (.int .i64 x.kind), .sl x.sels.length 2 (x.sels.flatMap encC), .sl x.decls.length 3 (x.decls.flatMap encD), .sl x.names.length 1 (x.names.flatMap encN), .g (.int .i64 x.mn), .g (.int .i64 x.mx), .sl x.vals.length 5 (x.vals.flatMap encV), .sl x.l.length 8 (x.l.flatMap encI)]), (0, .cells [.sl NC 1 PC, .sl NF 1 PF, .sl NG 1 PG])] 2)
   (fun (k : Nat) s => k ≤ x.decls.length ∧ s = stL [.any, .any, (.ptr 0 0), (.ptr 1 0), (.g (.bool false)), (.g (.int .i64 (k : Int))), .any, .any, .any, .any, .any, .any, .any, .any, .any, .any, .any, .any, .any, .any, .any, .any, .any, .any, .any, .any, .any, .any, .any, .any, .any, .any, .any, .any, .any, .any, .any, .any, .any, .any, .any, .any, .any, .any, .any, .any, .any, .any, .any, .any, .any, .any, .any, .any, .any, .any, .any, .any, .any, .any, .any, .any, .any, .any, .any, .any, .any, .any, .any, .any, .any, .any, .any, .any, .any] [(1, .cells [.g (.int .i64 x.kind), .sl x.sels.length 2 (x.sels.flatMap encC), .sl x.decls.length 3 (x.decls.flatMap encD), .sl x.names.length 1 (x.names.flatMap encN), .g (.int .i64 x.mn), .g (.int .i64 x.mx), .sl x.vals.length 5 (x.vals.flatMap encV), .sl x.l.length 8 (x.l.flatMap encI)]), (0, .cells [.sl NC 1 PC, .sl NF 1 PF, .sl NG 1 PG])] 2) (fun k => x.decls.length - k) 0 ⟨Nat.zero_le _, rfl⟩ (VS.tm (by simp [leL])) ?_
  rintro k t ⟨hk, rfl⟩
  by_cases hlt : k < x.decls.length
  ·by_cases h1 : x.kind = 1
   ·obtain ⟨r0, r1, r2⟩ := rowD hlt
    have hkp := hu1 h1 x.decls[k] (List.getElem_mem hlt)
    have HR : ∀ s : St, VS gt0 .none s (stL [.any, .any, (.ptr 0 0), (.ptr 1 0), (.g (.bool false)), (.g (.int .i64 ((k + 1 : Nat) : Int))), .any, .any, .any, .any, .any, .any, .any, .any, .any, .any, .any, .any, .any, .any, .any, .any, .any, .any, .any, .any, .any, .any, .any, .any, .any, .any, .any, .any, .any, .any, .any, .any, .any, .any, .any, .any, .any, .any, .any, .any, .any, .any, .any, .any, .any, .any, .any, .any, .any, .any, .any, .any, .any, .any, .any, .any, .any, .any, .any, .any, .any, .any, .any, .any, .any, .any, .any, .any, .any] [(1, .cells [.g (.int .i64 x.kind), .sl x.sels.length 2 (x.sels.flatMap encC), .sl x.decls.length 3 (x.decls.flatMap encD), .sl x.names.length 1 (x.names.flatMap encN), .g (.int .i64 x.mn), .g (.int .i64 x.mx), .sl x.vals.length 5 (x.vals.flatMap encV), .sl x.l.length 8 (x.l.flatMap encI)]), (0, .cells [.sl NC 1 PC, .sl NF 1 PF, .sl NG 1 PG])] 2) → True := fun _ _ => trivial
    clear HR
    have e1 := up1 (k := k) (by omega)
    have t1 := eq_true h1
    unfold kpD customB at hkp
    generalize x.decls[k].name = nm at *
    by_cases hs : (1 : Int) < (nm.size : Int)
    ·have hs2 : 2 ≤ nm.size := by omega
     by_cases hc : cutS nm 0 2 = ⟨#[45, 45]⟩
     ·have hin : p.c.contains (sOf nm) = true := by
       rw [← cut2, decide_eq_true hc, decide_eq_true hs2] at hkp
       simpa using hkp
      clear hkp
      have ICn := IC nm
      rw [hin] at ICn
      (repeat (first | (with_reducible first | refine W.seq ?_ | refine W.block ?_ | refine W.scope ?_) | ((first | (with_reducible first | refine W.skip ?_ | refine W.exit ?_ | refine W.ret ?_ | refine W.condL ?_ | refine W.regionA ?_) | ((with_reducible refine W.regionQA hmix ?_ ?_); focus kernel_rfl)); try simp only [go_sem, ↓reduceIte, Nat.reduceAdd, Nat.reduceSub, Nat.reduceMul, Nat.reduceEqDiff, Nat.reduceLeDiff, Nat.reduceLT, Int.reduceLE, Int.reduceLT, Int.reduceToNat, Int.reduceEq, hlt, t1, r0, hs, hs2, hc])))
      refine AtCall.mk ICn ?_
      simp only [go_sem, ↓reduceIte, Nat.reduceAdd, Nat.reduceSub, Nat.reduceMul, Nat.reduceEqDiff, Nat.reduceLeDiff, Nat.reduceLT, Int.reduceLE, Int.reduceLT, Int.reduceToNat, Int.reduceEq]
      (repeat (first | (with_reducible first | refine W.seq ?_ | refine W.block ?_ | refine W.scope ?_) | ((first | (with_reducible first | refine W.skip ?_ | refine W.exit ?_ | refine W.ret ?_ | refine W.condL ?_ | refine W.regionA ?_) | ((with_reducible refine W.regionQA hmix ?_ ?_); focus kernel_rfl)); try simp only [go_sem, ↓reduceIte, Nat.reduceAdd, Nat.reduceSub, Nat.reduceMul, Nat.reduceEqDiff, Nat.reduceLeDiff, Nat.reduceLT, Int.reduceLE, Int.reduceLT, Int.reduceToNat, Int.reduceEq, e1])))
      exact ⟨k + 1, _, ⟨by omega, rfl⟩, by show x.decls.length - (k + 1) < x.decls.length - k; omega, VS.tm (by simp only [go_sem, ↓reduceIte, Nat.reduceAdd, Nat.reduceSub, Nat.reduceMul, Nat.reduceEqDiff, Nat.reduceLeDiff, Nat.reduceLT, Int.reduceLE, Int.reduceLT, Int.reduceToNat, Int.reduceEq, or_true, true_or])⟩
     ·clear hkp
      (repeat (first | (with_reducible first | refine W.seq ?_ | refine W.block ?_ | refine W.scope ?_) | ((first | (with_reducible first | refine W.skip ?_ | refine W.exit ?_ | refine W.ret ?_ | refine W.condL ?_ | refine W.regionA ?_) | ((with_reducible refine W.regionQA hmix ?_ ?_); focus kernel_rfl)); try simp only [go_sem, ↓reduceIte, Nat.reduceAdd, Nat.reduceSub, Nat.reduceMul, Nat.reduceEqDiff, Nat.reduceLeDiff, Nat.reduceLT, Int.reduceLE, Int.reduceLT, Int.reduceToNat, Int.reduceEq, hlt, t1, r0, hs, hs2, hc, e1])))
      exact ⟨k + 1, _, ⟨by omega, rfl⟩, by show x.decls.length - (k + 1) < x.decls.length - k; omega, VS.tm (by simp only [go_sem, ↓reduceIte, Nat.reduceAdd, Nat.reduceSub, Nat.reduceMul, Nat.reduceEqDiff, Nat.reduceLeDiff, Nat.reduceLT, Int.reduceLE, Int.reduceLT, Int.reduceToNat, Int.reduceEq, or_true, true_or])⟩
    ·clear hkp
     (repeat (first | (with_reducible first | refine W.seq ?_ | refine W.block ?_ | refine W.scope ?_) | ((first | (with_reducible first | refine W.skip ?_ | refine W.exit ?_ | refine W.ret ?_ | refine W.condL ?_ | refine W.regionA ?_) | ((with_reducible refine W.regionQA hmix ?_ ?_); focus kernel_rfl)); try simp only [go_sem, ↓reduceIte, Nat.reduceAdd, Nat.reduceSub, Nat.reduceMul, Nat.reduceEqDiff, Nat.reduceLeDiff, Nat.reduceLT, Int.reduceLE, Int.reduceLT, Int.reduceToNat, Int.reduceEq, hlt, t1, r0, hs, e1])))
     exact ⟨k + 1, _, ⟨by omega, rfl⟩, by show x.decls.length - (k + 1) < x.decls.length - k; omega, VS.tm (by simp only [go_sem, ↓reduceIte, Nat.reduceAdd, Nat.reduceSub, Nat.reduceMul, Nat.reduceEqDiff, Nat.reduceLeDiff, Nat.reduceLT, Int.reduceLE, Int.reduceLT, Int.reduceToNat, Int.reduceEq, or_true, true_or])⟩
   ·(repeat (first | (with_reducible first | refine W.seq ?_ | refine W.block ?_ | refine W.scope ?_) | ((first | (with_reducible first | refine W.skip ?_ | refine W.exit ?_ | refine W.ret ?_ | refine W.condL ?_ | refine W.regionA ?_) | ((with_reducible refine W.regionQA hmix ?_ ?_); focus kernel_rfl)); try simp only [go_sem, ↓reduceIte, Nat.reduceAdd, Nat.reduceSub, Nat.reduceMul, Nat.reduceEqDiff, Nat.reduceLeDiff, Nat.reduceLT, Int.reduceLE, Int.reduceLT, Int.reduceToNat, Int.reduceEq, hlt, h1])))
    exact ⟨rfl, (), trivial, VS.tm (by simp only [go_sem, ↓reduceIte, Nat.reduceAdd, Nat.reduceSub, Nat.reduceMul, Nat.reduceEqDiff, Nat.reduceLeDiff, Nat.reduceLT, Int.reduceLE, Int.reduceLT, Int.reduceToNat, Int.reduceEq, or_true, true_or])⟩
  ·(repeat (first | (with_reducible first | refine W.seq ?_ | refine W.block ?_ | refine W.scope ?_) | ((first | (with_reducible first | refine W.skip ?_ | refine W.exit ?_ | refine W.ret ?_ | refine W.condL ?_ | refine W.regionA ?_) | ((with_reducible refine W.regionQA hmix ?_ ?_); focus kernel_rfl)); try simp only [go_sem, ↓reduceIte, Nat.reduceAdd, Nat.reduceSub, Nat.reduceMul, Nat.reduceEqDiff, Nat.reduceLeDiff, Nat.reduceLT, Int.reduceLE, Int.reduceLT, Int.reduceToNat, Int.reduceEq, hlt])))
   exact ⟨rfl, (), trivial, VS.tm (by simp only [go_sem, ↓reduceIte, Nat.reduceAdd, Nat.reduceSub, Nat.reduceMul, Nat.reduceEqDiff, Nat.reduceLeDiff, Nat.reduceLT, Int.reduceLE, Int.reduceLT, Int.reduceToNat, Int.reduceEq, or_true, true_or])⟩
 ·rintro - s - hv
  simp only [go_sem, ↓reduceIte, Nat.reduceAdd, Nat.reduceSub, Nat.reduceMul, Nat.reduceEqDiff, Nat.reduceLeDiff, Nat.reduceLT, Int.reduceLE, Int.reduceLT, Int.reduceToNat, Int.reduceEq]
  refine W.vs hv ?_
  clear hv
  by_cases h5 : x.kind = 5
  ·have t5 := eq_true h5
   have h6 : ¬ x.kind = 6 := by omega
   by_cases hn : (x.names.length : Int) = 1
   ·obtain ⟨nm, hnm⟩ := List.length_eq_one_iff.1 (show x.names.length = 1 by omega)
    have hk5 := hu5 h5
    rw [hnm, kpF] at hk5
    have r0 : (x.names.flatMap encN)[0]? = some (.g (.string nm)) := by rw [hnm]; rfl
    have IFn := IF nm
    rw [hk5] at IFn
    have tn := eq_true hn
    have hlt : (0 : Int) < (x.names.length : Int) := by omega
    (repeat (first | (with_reducible first | refine W.seq ?_ | refine W.block ?_ | refine W.scope ?_) | ((first | (with_reducible first | refine W.skip ?_ | refine W.exit ?_ | refine W.ret ?_ | refine W.condL ?_ | refine W.regionA ?_) | ((with_reducible refine W.regionQA hmix ?_ ?_); focus kernel_rfl)); try simp only [go_sem, ↓reduceIte, Nat.reduceAdd, Nat.reduceSub, Nat.reduceMul, Nat.reduceEqDiff, Nat.reduceLeDiff, Nat.reduceLT, Int.reduceLE, Int.reduceLT, Int.reduceToNat, Int.reduceEq, t5, tn, r0, hlt])))
    refine AtCallQ.mk IFn ?_
    simp only [go_sem, ↓reduceIte, Nat.reduceAdd, Nat.reduceSub, Nat.reduceMul, Nat.reduceEqDiff, Nat.reduceLeDiff, Nat.reduceLT, Int.reduceLE, Int.reduceLT, Int.reduceToNat, Int.reduceEq]
    (repeat (first | (with_reducible first | refine W.seq ?_ | refine W.block ?_ | refine W.scope ?_) | ((first | (with_reducible first | refine W.skip ?_ | refine W.exit ?_ | refine W.ret ?_ | refine W.condL ?_ | refine W.regionA ?_) | ((with_reducible refine W.regionQA hmix ?_ ?_); focus kernel_rfl)); try simp only [go_sem, ↓reduceIte, Nat.reduceAdd, Nat.reduceSub, Nat.reduceMul, Nat.reduceEqDiff, Nat.reduceLeDiff, Nat.reduceLT, Int.reduceLE, Int.reduceLT, Int.reduceToNat, Int.reduceEq])))
    ((with_reducible refine postP_pl1 _ (.inr rfl) ?_ ?_) <;> rfl)
   ·have FM := fam18_p x.kind x.mn x.mx x.sels.length 2 x.names.length 1 x.vals.length 5 x.l.length 8 (x.sels.flatMap encC) (x.names.flatMap encN) (x.vals.flatMap encV) (x.l.flatMap encI) x.decls hd hdl
    have FM' : famM x.kind x.decls = (⟨#[]⟩, false) := by unfold famM; rw [if_neg h6]
    rw [FM'] at FM
    (repeat (first | (with_reducible first | refine W.seq ?_ | refine W.block ?_ | refine W.scope ?_) | ((first | (with_reducible first | refine W.skip ?_ | refine W.exit ?_ | refine W.ret ?_ | refine W.condL ?_ | refine W.regionA ?_) | ((with_reducible refine W.regionQA hmix ?_ ?_); focus kernel_rfl)); try simp only [go_sem, ↓reduceIte, Nat.reduceAdd, Nat.reduceSub, Nat.reduceMul, Nat.reduceEqDiff, Nat.reduceLeDiff, Nat.reduceLT, Int.reduceLE, Int.reduceLT, Int.reduceToNat, Int.reduceEq, t5, hn])))
    refine AtCall.mk FM ?_
    simp only [go_sem, ↓reduceIte, Nat.reduceAdd, Nat.reduceSub, Nat.reduceMul, Nat.reduceEqDiff, Nat.reduceLeDiff, Nat.reduceLT, Int.reduceLE, Int.reduceLT, Int.reduceToNat, Int.reduceEq, h6]
    (repeat (first | (with_reducible first | refine W.seq ?_ | refine W.block ?_ | refine W.scope ?_) | ((first | (with_reducible first | refine W.skip ?_ | refine W.exit ?_ | refine W.ret ?_ | refine W.condL ?_ | refine W.regionA ?_) | ((with_reducible refine W.regionQA hmix ?_ ?_); focus kernel_rfl)); try simp only [go_sem, ↓reduceIte, Nat.reduceAdd, Nat.reduceSub, Nat.reduceMul, Nat.reduceEqDiff, Nat.reduceLeDiff, Nat.reduceLT, Int.reduceLE, Int.reduceLT, Int.reduceToNat, Int.reduceEq, h6])))
    ((with_reducible refine postP_pl1 _ (.inr rfl) ?_ ?_) <;> rfl)
  ·have FM := fam18_p x.kind x.mn x.mx x.sels.length 2 x.names.length 1 x.vals.length 5 x.l.length 8 (x.sels.flatMap encC) (x.names.flatMap encN) (x.vals.flatMap encV) (x.l.flatMap encI) x.decls hd hdl
   by_cases h6 : x.kind = 6
   ·have hk6 := hu6 h6
    unfold kpG at hk6
    rw [Bool.and_eq_true] at hk6
    rw [hk6.1] at FM
    have IGn := IG (famM x.kind x.decls).1
    rw [hk6.2] at IGn
    have t6 := eq_true h6
    (repeat (first | (with_reducible first | refine W.seq ?_ | refine W.block ?_ | refine W.scope ?_) | ((first | (with_reducible first | refine W.skip ?_ | refine W.exit ?_ | refine W.ret ?_ | refine W.condL ?_ | refine W.regionA ?_) | ((with_reducible refine W.regionQA hmix ?_ ?_); focus kernel_rfl)); try simp only [go_sem, ↓reduceIte, Nat.reduceAdd, Nat.reduceSub, Nat.reduceMul, Nat.reduceEqDiff, Nat.reduceLeDiff, Nat.reduceLT, Int.reduceLE, Int.reduceLT, Int.reduceToNat, Int.reduceEq, h5])))
    refine AtCall.mk FM ?_
    simp only [go_sem, ↓reduceIte, Nat.reduceAdd, Nat.reduceSub, Nat.reduceMul, Nat.reduceEqDiff, Nat.reduceLeDiff, Nat.reduceLT, Int.reduceLE, Int.reduceLT, Int.reduceToNat, Int.reduceEq, t6]
    (repeat (first | (with_reducible first | refine W.seq ?_ | refine W.block ?_ | refine W.scope ?_) | ((first | (with_reducible first | refine W.skip ?_ | refine W.exit ?_ | refine W.ret ?_ | refine W.condL ?_ | refine W.regionA ?_) | ((with_reducible refine W.regionQA hmix ?_ ?_); focus kernel_rfl)); try simp only [go_sem, ↓reduceIte, Nat.reduceAdd, Nat.reduceSub, Nat.reduceMul, Nat.reduceEqDiff, Nat.reduceLeDiff, Nat.reduceLT, Int.reduceLE, Int.reduceLT, Int.reduceToNat, Int.reduceEq, t6])))
    refine AtCall.mk IGn ?_
    simp only [go_sem, ↓reduceIte, Nat.reduceAdd, Nat.reduceSub, Nat.reduceMul, Nat.reduceEqDiff, Nat.reduceLeDiff, Nat.reduceLT, Int.reduceLE, Int.reduceLT, Int.reduceToNat, Int.reduceEq]
    (repeat (first | (with_reducible first | refine W.seq ?_ | refine W.block ?_ | refine W.scope ?_) | ((first | (with_reducible first | refine W.skip ?_ | refine W.exit ?_ | refine W.ret ?_ | refine W.condL ?_ | refine W.regionA ?_) | ((with_reducible refine W.regionQA hmix ?_ ?_); focus kernel_rfl)); try simp only [go_sem, ↓reduceIte, Nat.reduceAdd, Nat.reduceSub, Nat.reduceMul, Nat.reduceEqDiff, Nat.reduceLeDiff, Nat.reduceLT, Int.reduceLE, Int.reduceLT, Int.reduceToNat, Int.reduceEq])))
    ((with_reducible refine postP_pl1 _ (.inr rfl) ?_ ?_) <;> rfl)
   ·have FM' : famM x.kind x.decls = (⟨#[]⟩, false) := by unfold famM; rw [if_neg h6]
    rw [FM'] at FM
    (repeat (first | (with_reducible first | refine W.seq ?_ | refine W.block ?_ | refine W.scope ?_) | ((first | (with_reducible first | refine W.skip ?_ | refine W.exit ?_ | refine W.ret ?_ | refine W.condL ?_ | refine W.regionA ?_) | ((with_reducible refine W.regionQA hmix ?_ ?_); focus kernel_rfl)); try simp only [go_sem, ↓reduceIte, Nat.reduceAdd, Nat.reduceSub, Nat.reduceMul, Nat.reduceEqDiff, Nat.reduceLeDiff, Nat.reduceLT, Int.reduceLE, Int.reduceLT, Int.reduceToNat, Int.reduceEq, h5])))
    refine AtCall.mk FM ?_
    simp only [go_sem, ↓reduceIte, Nat.reduceAdd, Nat.reduceSub, Nat.reduceMul, Nat.reduceEqDiff, Nat.reduceLeDiff, Nat.reduceLT, Int.reduceLE, Int.reduceLT, Int.reduceToNat, Int.reduceEq, h6]
    (repeat (first | (with_reducible first | refine W.seq ?_ | refine W.block ?_ | refine W.scope ?_) | ((first | (with_reducible first | refine W.skip ?_ | refine W.exit ?_ | refine W.ret ?_ | refine W.condL ?_ | refine W.regionA ?_) | ((with_reducible refine W.regionQA hmix ?_ ?_); focus kernel_rfl)); try simp only [go_sem, ↓reduceIte, Nat.reduceAdd, Nat.reduceSub, Nat.reduceMul, Nat.reduceEqDiff, Nat.reduceLeDiff, Nat.reduceLT, Int.reduceLE, Int.reduceLT, Int.reduceToNat, Int.reduceEq, h6])))
    ((with_reducible refine postP_pl1 _ (.inr rfl) ?_ ?_) <;> rfl)
end Go.Proofs.YtlnaihkombcbcaaGreat
end
noncomputable section
namespace Go.Proofs.YtlnaihkombcbcaaGreat
open Go.ChangeShapes Go.WideShapes Go.RowKit Go.Ev
theorem b_simp : Tryz.prog.bytesOf 239 = 80 := by kernel_rfl
theorem b_cx : Tryz.prog.bytesOf 90 = 40 := by kernel_rfl
mutual
def wsI : Itm → Prop
 | .mk _ s _ _ _ _ _ l => s.length ≤ 140737488351232 ∧ (∀ c ∈ s, wdC c) ∧ wsIs l
def wsIs : List Itm → Prop
 | [] => True
 | x :: xs => wsI x ∧ wsIs xs
end
theorem wsI_eq (x : Itm) : wsI x ↔ x.sels.length ≤ 140737488351232 ∧ (∀ c ∈ x.sels, wdC c) ∧ wsIs x.l := by cases x; rw [wsI]; rfl
theorem wsIs_all : ∀ {l : List Itm}, (∀ x ∈ l, wsI x) → wsIs l
 | [], _ => by rw [wsIs]; trivial
 | x :: l, h => by rw [wsIs]; exact ⟨h x List.mem_cons_self, wsIs_all fun y hy => h y (List.mem_cons_of_mem _ hy)⟩
theorem ws_len {n b : Nat} (h : n * (b + 1) ≤ reachBytes) : n ≤ 140737488351232 :=
 Nat.le_trans (Nat.le_trans (Nat.le_mul_of_pos_right _ (Nat.succ_pos b)) h) (by decide)
theorem wdSs_all : ∀ {l : List Simp}, (∀ x ∈ l, wdS x = true) → wdSs l = true
 | [], _ => by rw [wdSs]
 | x :: l, h => by rw [wdSs, h x List.mem_cons_self, wdSs_all fun y hy => h y (List.mem_cons_of_mem _ hy)]; rfl
theorem wdS_mk {k : Int} {n v : ByteArray} {a b : Int} {l : List Simp} (hb : l.length * 80 ≤ reachBytes) (hg : ∀ x ∈ l, wdS x = true) : wdS (.mk k n v a b l) = true := by
 rw [wdS, wdSs_all hg, Bool.and_true]
 exact decide_eq_true (ws_len hb)
def wdP (p : Part) : Prop := p.l.length ≤ 140737488351232 ∧ wdSs p.l = true
theorem wdP_mk {k : Int} {l : List Simp} (hb : l.length * 80 ≤ reachBytes) (hg : ∀ x ∈ l, wdS x = true) : wdP ⟨k, l⟩ := ⟨ws_len hb, wdSs_all hg⟩
theorem wdC_mk {s : ByteArray} {l : List Part} (hb : l.length * 32 ≤ reachBytes) (hg : ∀ x ∈ l, wdP x) : wdC ⟨l, s⟩ := ⟨ws_len hb, hg⟩
section
variable {H : Type} {enc : TypeId × Value → H} {W : World} {sp : Nat → Bool} {held : Bool}
set_option maxRecDepth 100000 in
theorem openw_simp : ∀ (fuel : Nat) (cs : List Value) (x : DataW H × List MemPlace), DataW.trod enc Tryz.prog W 0 sp held fuel 239 cs = some x → Fits Tryz.prog 239 x.1 → ∃ a : Simp, Ats W (encS a) cs ∧ wdS a = true := by
 intro fuel
 induction fuel using Nat.strongRecOn with
 | ind fuel ih =>
   intro cs x h hfit
   obtain ⟨hl, n, rfl, hf⟩ := field_of Tryz.underlying239 h
   rw [c_simp] at hl
   obtain ⟨c0, c1, c2, c3, c4, c5, rfl⟩ : ∃ c0 c1 c2 c3 c4 c5, cs = [c0, c1, c2, c3, c4, c5] := by
    match cs, hl with
    | [a, b, c, d, e, f], _ => exact ⟨a, b, c, d, e, f, rfl⟩
   obtain ⟨y0, h0, f0⟩ : ∃ y, DataW.trod enc Tryz.prog W 0 sp held n 3 ((List.drop 0 [c0, c1, c2, c3, c4, c5]).take (Tryz.prog.cellsOf 3)) = some y ∧ (Fits Tryz.prog 239 x.1 → Fits Tryz.prog 3 y.1) := hf 0 _ rfl
   obtain ⟨y1, h1, f1⟩ : ∃ y, DataW.trod enc Tryz.prog W 0 sp held n 9 ((List.drop 1 [c0, c1, c2, c3, c4, c5]).take (Tryz.prog.cellsOf 9)) = some y ∧ (Fits Tryz.prog 239 x.1 → Fits Tryz.prog 9 y.1) := hf 1 _ rfl
   obtain ⟨y2, h2, f2⟩ : ∃ y, DataW.trod enc Tryz.prog W 0 sp held n 9 ((List.drop 2 [c0, c1, c2, c3, c4, c5]).take (Tryz.prog.cellsOf 9)) = some y ∧ (Fits Tryz.prog 239 x.1 → Fits Tryz.prog 9 y.1) := hf 2 _ rfl
   obtain ⟨y3, h3, f3⟩ : ∃ y, DataW.trod enc Tryz.prog W 0 sp held n 3 ((List.drop 3 [c0, c1, c2, c3, c4, c5]).take (Tryz.prog.cellsOf 3)) = some y ∧ (Fits Tryz.prog 239 x.1 → Fits Tryz.prog 3 y.1) := hf 3 _ rfl
   obtain ⟨y4, h4, f4⟩ : ∃ y, DataW.trod enc Tryz.prog W 0 sp held n 3 ((List.drop 4 [c0, c1, c2, c3, c4, c5]).take (Tryz.prog.cellsOf 3)) = some y ∧ (Fits Tryz.prog 239 x.1 → Fits Tryz.prog 3 y.1) := hf 4 _ rfl
   obtain ⟨y5, h5, f5⟩ : ∃ y, DataW.trod enc Tryz.prog W 0 sp held n 178 ((List.drop 5 [c0, c1, c2, c3, c4, c5]).take (Tryz.prog.cellsOf 178)) = some y ∧ (Fits Tryz.prog 239 x.1 → Fits Tryz.prog 178 y.1) := hf 5 _ rfl
   simp only [c_int, c_str, c_simps, List.drop, List.take] at h0 h1 h2 h3 h4 h5
   obtain ⟨k, e0, -⟩ := DataW.trod_int Tryz.underlying3 h0
   obtain ⟨nm, e1, -⟩ := DataW.trod_string Tryz.underlying9 h1
   obtain ⟨vl, e2, -⟩ := DataW.trod_string Tryz.underlying9 h2
   obtain ⟨a, e3, -⟩ := DataW.trod_int Tryz.underlying3 h3
   obtain ⟨b, e4, -⟩ := DataW.trod_int Tryz.underlying3 h4
   obtain ⟨l, v, e5, hv, hg, hb⟩ := open_sl (fun a : Simp => wdS a = true) encS 6 encS_len (by decide) Tryz.underlying178 c_simp (fun m hm => ih m (by omega)) h5 (f5 hfit)
   simp only [List.cons.injEq, and_true] at e0 e1 e2 e3 e4 e5
   subst e0 e1 e2 e3 e4 e5
   rw [b_simp] at hb
   refine ⟨.mk k nm vl a b l, ?_, wdS_mk hb hg⟩
   rw [encS, encSs_flat]
   exact VRs.cons_mk rfl (VRs.cons_mk rfl (VRs.cons_mk rfl (VRs.cons_mk rfl (VRs.cons_mk rfl (VRs.cons_mk hv (by rw [VRs]))))))
set_option maxRecDepth 100000 in
theorem openw_part (fuel : Nat) (cs : List Value) (x : DataW H × List MemPlace) (h : DataW.trod enc Tryz.prog W 0 sp held fuel 180 cs = some x) (hfit : Fits Tryz.prog 180 x.1) : ∃ a : Part, Ats W (encP a) cs ∧ wdP a := by
 obtain ⟨hl, n, rfl, hf⟩ := field_of Tryz.underlying180 h
 rw [c_part] at hl
 obtain ⟨c0, c1, rfl⟩ : ∃ c0 c1, cs = [c0, c1] := by
  match cs, hl with
  | [a, b], _ => exact ⟨a, b, rfl⟩
 obtain ⟨y0, h0, f0⟩ : ∃ y, DataW.trod enc Tryz.prog W 0 sp held n 3 ((List.drop 0 [c0, c1]).take (Tryz.prog.cellsOf 3)) = some y ∧ (Fits Tryz.prog 180 x.1 → Fits Tryz.prog 3 y.1) := hf 0 _ rfl
 obtain ⟨y1, h1, f1⟩ : ∃ y, DataW.trod enc Tryz.prog W 0 sp held n 178 ((List.drop 1 [c0, c1]).take (Tryz.prog.cellsOf 178)) = some y ∧ (Fits Tryz.prog 180 x.1 → Fits Tryz.prog 178 y.1) := hf 1 _ rfl
 simp only [c_int, c_simps, List.drop, List.take] at h0 h1
 obtain ⟨k, e0, -⟩ := DataW.trod_int Tryz.underlying3 h0
 obtain ⟨l, v, e1, hv, hg, hb⟩ := open_sl (fun a : Simp => wdS a = true) encS 6 encS_len (by decide) Tryz.underlying178 c_simp (fun m _ => openw_simp m) h1 (f1 hfit)
 simp only [List.cons.injEq, and_true] at e0 e1
 subst e0 e1
 rw [b_simp] at hb
 exact ⟨⟨k, l⟩, VRs.cons_mk rfl (VRs.cons_mk hv (by rw [VRs])), wdP_mk hb hg⟩
set_option maxRecDepth 100000 in
theorem openw_cx (fuel : Nat) (cs : List Value) (x : DataW H × List MemPlace) (h : DataW.trod enc Tryz.prog W 0 sp held fuel 90 cs = some x) (hfit : Fits Tryz.prog 90 x.1) : ∃ a : Cx, Ats W (encC a) cs ∧ wdC a := by
 obtain ⟨hl, n, rfl, hf⟩ := field_of Tryz.underlying90 h
 rw [c_cx] at hl
 obtain ⟨c0, c1, rfl⟩ : ∃ c0 c1, cs = [c0, c1] := by
  match cs, hl with
  | [a, b], _ => exact ⟨a, b, rfl⟩
 obtain ⟨y0, h0, f0⟩ : ∃ y, DataW.trod enc Tryz.prog W 0 sp held n 88 ((List.drop 0 [c0, c1]).take (Tryz.prog.cellsOf 88)) = some y ∧ (Fits Tryz.prog 90 x.1 → Fits Tryz.prog 88 y.1) := hf 0 _ rfl
 obtain ⟨y1, h1, f1⟩ : ∃ y, DataW.trod enc Tryz.prog W 0 sp held n 9 ((List.drop 1 [c0, c1]).take (Tryz.prog.cellsOf 9)) = some y ∧ (Fits Tryz.prog 90 x.1 → Fits Tryz.prog 9 y.1) := hf 1 _ rfl
 simp only [c_str, c_parts, List.drop, List.take] at h0 h1
 obtain ⟨l, v, e0, hv, hg, hb⟩ := open_sl (fun a : Part => wdP a) encP 2 (fun _ => rfl) (by decide) Tryz.underlying88 c_part (fun m _ => openw_part m) h0 (f0 hfit)
 obtain ⟨s, e1, -⟩ := DataW.trod_string Tryz.underlying9 h1
 simp only [List.cons.injEq, and_true] at e0 e1
 subst e0 e1
 rw [b_part] at hb
 exact ⟨⟨l, s⟩, VRs.cons_mk hv (VRs.cons_mk rfl (by rw [VRs])), wdC_mk hb hg⟩
set_option maxRecDepth 100000 in
theorem openw_item : ∀ (fuel : Nat) (cs : List Value) (x : DataW H × List MemPlace), DataW.trod enc Tryz.prog W 0 sp held fuel 53 cs = some x → Fits Tryz.prog 53 x.1 → ∃ a : Itm, Ats W (encI a) cs ∧ gsI a = true ∧ wsI a := by
 intro fuel
 induction fuel using Nat.strongRecOn with
 | ind fuel ih =>
   intro cs x h hfit
   obtain ⟨hl, n, rfl, hf⟩ := field_of Tryz.underlying53 h
   rw [c_item] at hl
   obtain ⟨c0, c1, c2, c3, c4, c5, c6, c7, rfl⟩ : ∃ c0 c1 c2 c3 c4 c5 c6 c7, cs = [c0, c1, c2, c3, c4, c5, c6, c7] := by
    match cs, hl with
    | [a, b, c, d, e, f, g, i], _ => exact ⟨a, b, c, d, e, f, g, i, rfl⟩
   obtain ⟨y0, h0, f0⟩ : ∃ y, DataW.trod enc Tryz.prog W 0 sp held n 3 ((List.drop 0 [c0, c1, c2, c3, c4, c5, c6, c7]).take (Tryz.prog.cellsOf 3)) = some y ∧ (Fits Tryz.prog 53 x.1 → Fits Tryz.prog 3 y.1) := hf 0 _ rfl
   obtain ⟨y1, h1, f1⟩ : ∃ y, DataW.trod enc Tryz.prog W 0 sp held n 50 ((List.drop 1 [c0, c1, c2, c3, c4, c5, c6, c7]).take (Tryz.prog.cellsOf 50)) = some y ∧ (Fits Tryz.prog 53 x.1 → Fits Tryz.prog 50 y.1) := hf 1 _ rfl
   obtain ⟨y2, h2, f2⟩ : ∃ y, DataW.trod enc Tryz.prog W 0 sp held n 51 ((List.drop 2 [c0, c1, c2, c3, c4, c5, c6, c7]).take (Tryz.prog.cellsOf 51)) = some y ∧ (Fits Tryz.prog 53 x.1 → Fits Tryz.prog 51 y.1) := hf 2 _ rfl
   obtain ⟨y3, h3, f3⟩ : ∃ y, DataW.trod enc Tryz.prog W 0 sp held n 25 ((List.drop 3 [c0, c1, c2, c3, c4, c5, c6, c7]).take (Tryz.prog.cellsOf 25)) = some y ∧ (Fits Tryz.prog 53 x.1 → Fits Tryz.prog 25 y.1) := hf 3 _ rfl
   obtain ⟨y4, h4, f4⟩ : ∃ y, DataW.trod enc Tryz.prog W 0 sp held n 3 ((List.drop 4 [c0, c1, c2, c3, c4, c5, c6, c7]).take (Tryz.prog.cellsOf 3)) = some y ∧ (Fits Tryz.prog 53 x.1 → Fits Tryz.prog 3 y.1) := hf 4 _ rfl
   obtain ⟨y5, h5, f5⟩ : ∃ y, DataW.trod enc Tryz.prog W 0 sp held n 3 ((List.drop 5 [c0, c1, c2, c3, c4, c5, c6, c7]).take (Tryz.prog.cellsOf 3)) = some y ∧ (Fits Tryz.prog 53 x.1 → Fits Tryz.prog 3 y.1) := hf 5 _ rfl
   obtain ⟨y6, h6, f6⟩ : ∃ y, DataW.trod enc Tryz.prog W 0 sp held n 27 ((List.drop 6 [c0, c1, c2, c3, c4, c5, c6, c7]).take (Tryz.prog.cellsOf 27)) = some y ∧ (Fits Tryz.prog 53 x.1 → Fits Tryz.prog 27 y.1) := hf 6 _ rfl
   obtain ⟨y7, h7, f7⟩ : ∃ y, DataW.trod enc Tryz.prog W 0 sp held n 46 ((List.drop 7 [c0, c1, c2, c3, c4, c5, c6, c7]).take (Tryz.prog.cellsOf 46)) = some y ∧ (Fits Tryz.prog 53 x.1 → Fits Tryz.prog 46 y.1) := hf 7 _ rfl
   simp only [c_int, c_strs, c_cxs, c_decls, c_vals, c_items, List.drop, List.take] at h0 h1 h2 h3 h4 h5 h6 h7
   obtain ⟨k, e0, -⟩ := DataW.trod_int Tryz.underlying3 h0
   obtain ⟨l1, v1, e1, hv1, hg1, hb1⟩ := open_sl (fun c : Cx => wdC c) encC 2 (fun _ => rfl) (by decide) Tryz.underlying50 c_cx (fun m _ => openw_cx m) h1 (f1 hfit)
   obtain ⟨l2, v2, e2, hv2, -, -⟩ := open_sl (fun _ => True) encD 3 encD_len (by decide) Tryz.underlying51 c_decl (fun m _ => open_decl m) h2 (f2 hfit)
   obtain ⟨l3, v3, e3, hv3, -, -⟩ := open_sl (fun _ => True) encN 1 (fun _ => rfl) (by decide) Tryz.underlying25 c_str (fun m _ => open_name m) h3 (f3 hfit)
   obtain ⟨mn, e4, -⟩ := DataW.trod_int Tryz.underlying3 h4
   obtain ⟨mx, e5, -⟩ := DataW.trod_int Tryz.underlying3 h5
   obtain ⟨l6, v6, e6, hv6, -, -⟩ := open_sl (fun _ => True) encV 5 encV_len (by decide) Tryz.underlying27 c_val (fun m _ => open_val m) h6 (f6 hfit)
   obtain ⟨l7, v7, e7, hv7, hg7, -⟩ := open_sl (fun x : Itm => gsI x = true ∧ wsI x) encI 8 encI_len (by decide) Tryz.underlying46 c_item (fun m hm => ih m (by omega)) h7 (f7 hfit)
   simp only [List.cons.injEq, and_true] at e0 e1 e2 e3 e4 e5 e6 e7
   subst e0 e1 e2 e3 e4 e5 e6 e7
   refine ⟨.mk k l1 l2 l3 mn mx l6 l7, ?_, ?_⟩
   rotate_left
   ·rw [b_cx] at hb1
    refine ⟨?_, ?_⟩
    ·rw [gsI, gsIs_all (fun x hx => (hg7 x hx).1), Bool.and_true, List.all_eq_true]
     exact fun c hc => decide_eq_true (hg1 c hc).1
    ·rw [wsI]
     exact ⟨ws_len hb1, hg1, wsIs_all fun x hx => (hg7 x hx).2⟩
   rw [encI, encIs_flat]
   exact VRs.cons_mk rfl (VRs.cons_mk hv1 (VRs.cons_mk hv2 (VRs.cons_mk hv3 (VRs.cons_mk rfl (VRs.cons_mk rfl (VRs.cons_mk hv6 (VRs.cons_mk hv7 (by rw [VRs]))))))))
set_option maxRecDepth 100000 in
theorem openw_sheet (fuel : Nat) (cs : List Value) (x : DataW H × List MemPlace) (h : DataW.trod enc Tryz.prog W 0 sp held fuel 46 cs = some x) (hfit : Fits Tryz.prog 46 x.1) : ∃ a : List Itm, Ats W (encSh a) cs ∧ gsIs a = true ∧ wsIs a := by
 obtain ⟨l, v, e, hv, hg, -⟩ := open_sl (fun x : Itm => gsI x = true ∧ wsI x) encI 8 encI_len (by decide) Tryz.underlying46 c_item (fun m _ => openw_item m) h hfit
 subst e
 exact ⟨l, VRs.cons_mk hv (by rw [VRs]), gsIs_all fun x hx => (hg x hx).1, wsIs_all fun x hx => (hg x hx).2⟩
set_option maxRecDepth 1000000 in
theorem openw_sheets {base : Nat} {v : Value} {d : DataW H} {ps : List MemPlace} (hval : Value.okWide Tryz.prog W .any base 39 v) (h : DataW.Trod enc Tryz.prog W 0 sp held 39 v d ps) (hfit : Fits Tryz.prog 39 d) :
 ∃ l : List (List Itm), At W (.sl l.length 1 (l.flatMap encSh)) v ∧ (∀ x ∈ l, gsIs x = true) ∧ ∀ x ∈ l, wsIs x := by
 obtain ⟨fuel, hv⟩ := h
 obtain ⟨a, n, c, rfl⟩ := okWide_slice Tryz.underlying39 hval
 obtain ⟨l, v, e, hl, hg, -⟩ := open_sl (fun x : List Itm => gsIs x = true ∧ wsIs x) encSh 1 (fun _ => rfl) (by decide) Tryz.underlying39 c_items (fun m _ => openw_sheet m) hv hfit
 simp only [Value.cells, List.cons.injEq, and_true] at e
 subst e
 exact ⟨l, hl, fun x hx => (hg x hx).1, fun x hx => (hg x hx).2⟩
end
theorem drop_ws (p : S3) (N : Nat) : ∀ (l : List Itm), SizeOf.sizeOf l ≤ N → wsIs l → wsIs (dropIs p l) := by
 induction N with
 | zero => intro l hl; cases l <;> simp at hl <;> omega
 | succ N ihN =>
   intro l hl hok
   have key : ∀ (a : List Itm), (∀ x ∈ a, SizeOf.sizeOf x.l ≤ N) → wsIs a → wsIs (dropIs p a) := by
    intro a ha hoa
    induction a with
    | nil => rw [dropIs_nil]; exact hoa
    | cons y a ih =>
      rw [wsIs] at hoa
      have h2 := ih (fun z hz => ha z (List.mem_cons_of_mem _ hz)) hoa.2
      cases h : keepI p y with
      | none => rw [dropIs_none h]; exact h2
      | some y' =>
        have hk := kp_of h
        obtain ⟨g1, g2, g3⟩ := (wsI_eq y).1 hoa.1
        have g4 := ihN _ (ha y List.mem_cons_self) g3
        rw [dropIs_some h, wsIs]
        refine ⟨?_, h2⟩
        cases hk with
        | same => exact hoa.1
        | rule h1 hne => exact (wsI_eq _).2 ⟨g1, g2, g3⟩
        | block hk hne => exact (wsI_eq _).2 ⟨g1, g2, g4⟩
        | layer hk he => exact (wsI_eq _).2 ⟨by simp [Itm.sels], by simp [Itm.sels], trivial⟩
   exact key l (fun x hx => by have := itm_lt hx; omega) hok
theorem left_ws (p : S3) {l : List Itm} (h : wsIs l) : wsIs (dropIs p l) := drop_ws p _ l (Nat.le_refl _) h
theorem wd_of (N : Nat) : ∀ (l : List Itm), SizeOf.sizeOf l ≤ N → okIs l → cntIs l ≤ 1000 → wsIs l → wdIs l := by
 induction N with
 | zero => intro l hl; cases l <;> simp at hl <;> omega
 | succ N ihN =>
   intro l hl h1 h2 h3
   have key : ∀ (a : List Itm), (∀ x ∈ a, SizeOf.sizeOf x.l ≤ N) → okIs a → cntIs a ≤ 1000 → wsIs a → wdIs a := by
    intro a ha h1 h2 h3
    induction a with
    | nil => rw [wdIs]; trivial
    | cons y a ih =>
      rw [okIs] at h1
      rw [wsIs] at h3
      rw [cntIs, cntI_eq] at h2
      obtain ⟨g1, g2, g3, g4, g5⟩ := (okI_eq y).1 h1.1
      obtain ⟨f1, f2, f3⟩ := (wsI_eq y).1 h3.1
      rw [wdIs]
      refine ⟨(wdI_eq y).2 ⟨⟨f1, f2⟩, ⟨by have := g1.1; omega, fun d hd => by have := (g1.2 d hd).1; omega⟩, by omega, by omega, by have := cntIs_len y.l; omega, ihN _ (ha y List.mem_cons_self) g5 (by omega) f3⟩, ih (fun z hz => ha z (List.mem_cons_of_mem _ hz)) h1.2 (by omega) h3.2⟩
   exact key l (fun x hx => by have := itm_lt hx; omega) h1 h2 h3
theorem wd_all {l : List Itm} (h1 : okIs l) (h2 : cntIs l ≤ 1000) (h3 : wsIs l) : wdIs l := wd_of _ l (Nat.le_refl _) h1 h2 h3
end Go.Proofs.YtlnaihkombcbcaaGreat
end
