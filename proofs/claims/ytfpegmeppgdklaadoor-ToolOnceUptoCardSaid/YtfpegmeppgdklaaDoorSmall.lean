/-
  R22.May, R22.Small.
-/
import Derived.Test.YtfpegmeppgdklaaDoorFew
import Derived.Test.YtfpegmeppgdklaaDoorOpen
import Derived.Laws.OwnMore
import Derived.Deep.RegionHeld3
import Derived.Deep.RegionLaw
namespace Go.Proofs.YtfpegmeppgdklaaDoor
open Go.RowKit
theorem rmay_any (v : Value) (c : Cfg) (w : World) (hv : CfgAt w v c) (hz : c.szd) :
    Calls Tryd.prog 12 #[v] w fun e w' => e = .returned (.bool (mayB c)) ∧ Below w.heap.size w w' := by
  obtain ⟨a1, a2, rfl, ha1, ha2, la1, la2⟩ := hv
  have e0 : kindB false = nameB := funext kind_false
  have e1 : kindB true = attrB := funext kind_true
  have hA := fun (x : Obj) => below_alloc w x
  have H1 := Lib.hid fun w' hb => few_any a1 c.cls false w' (ha1.below (w' := w') hb) la1 hz.1
  have H2 := Lib.hid fun w' hb => few_any a2 c.att true w' (ha2.below (w' := w') hb) la2 hz.2
  rw [e0] at H1
  rw [e1] at H2
  unfold mayB
  obtain ⟨q1, h1⟩ : ∃ q, apartB nameB c.cls = q := ⟨_, rfl⟩
  obtain ⟨q2, h2⟩ : ∃ q, apartB attrB c.att = q := ⟨_, rfl⟩
  rw [h1] at H1 ⊢
  rw [h2] at H2 ⊢
  clear h1 h2 e0 e1
  cases q1
  · go_enter Tryd.func12, Tryd.ntmps12
    go_wp2_with fail
    refine (H1.out _ (hA _)).mono ?_
    rintro e w1 ⟨rfl, hB⟩
    go_wp2
    go_ret
    exact ⟨rfl, bup (hA _) hB⟩
  · go_enter Tryd.func12, Tryd.ntmps12
    go_wp2_with fail
    refine (H1.out _ (hA _)).mono ?_
    rintro e w1 ⟨rfl, hB⟩
    obtain ⟨hc, hf⟩ := bcell hB
    have hz0 : w.heap.size < w1.heap.size := by have := hB.size; simp at this; omega
    go_wp2_with fail
    refine (H2.out _ (bup (hA _) hB)).mono ?_
    rintro e w2 ⟨rfl, hB2⟩
    go_wp2
    go_ret
    exact ⟨ret_bool (by simp), bup (bup (hA _) hB) hB2⟩
/-- append onto a row of the call's own, of what a slice of strings holds, as one step of a region that draws -/
theorem step_append_sat {P : Program} {ops : Array Oper} {o : Oper} {a : Act} {w : World} {K : Act → World → Prop} {Q : Exit → Act → World → Prop} {E : Prop}
    (hg : o.guard = none) (s x : Operand) (t : TypeId) (hop : o.op = Op.call { callee := Callee.builtin Builtin.append, args := #[s, x], argTypes := #[t, t] })
    (base : Nat) (e : TypeId) (i : TypeInfo) (z : Value) (bytes : Nat) (ht : P.underlying t = some (.slice e)) (hi : P.info? e = some i) (hz : i.zero = some z) (hsize : i.size = 1) (hby : i.bytes = bytes) (hzs : z.cells.size = 1)
    (v : Value) (n : Nat) (xs : List Value) (hs : a.eval s = v) (hown : w.ownsRow base e 1 v n xs)
    (y : Value) (ss : List Str) (hx : a.eval x = y) (hy : SAt w y ss) (hf : y = .slice none 0 0 ∨ ∃ a n c, y = .slice (some a) n c)
    (h63 : n + ss.length ≤ maxLen) (hbytes : (n + ss.length) * bytes ≤ 140737488355328) (hbase : base ≤ w.heap.size)
    (hK : ∀ v' w', w'.ownsRow base e 1 v' (n + ss.length) (xs ++ (ss.map bs).map Value.string) → w.grownBy w' v.ownBlock → K (a.put o.dst v') w') :
    if Region.wanted o (yielded ops a.tmps) = true then Oper.wp P o a w K Q else E := by
  have hw : Region.wanted o (yielded ops a.tmps) = true := by simp [Region.wanted, hg]
  rw [if_pos hw]
  have key : ∃ v' w', (Builtin.append_ #[t, t] o.type #[v, y]).run P w = .ok v' w' ∧ w'.ownsRow base e 1 v' (n + ss.length) (xs ++ (ss.map bs).map Value.string) ∧ w.grownBy w' v.ownBlock := by
    rcases hf with rfl | ⟨ad, m, c, rfl⟩
    · have h0 : ss = [] := by
        rcases hy with ⟨h, -⟩ | ⟨b, off, cap, h, -⟩
        · simpa using h
        · cases h
      subst h0
      exact ⟨v, w, run_append_owned_none w base t o.type e i 1 ht hi v n xs hown, by simpa using hown, ⟨rfl, rfl, rfl, Nat.le_refl _, fun _ _ _ => rfl⟩⟩
    · have hm : m = ss.length ∧ ∀ j u, ((ss.map bs).map Value.string)[j]? = some u → w.cell? (ad.add j) = some u := by
        rcases hy with ⟨h, a', c', h2⟩ | ⟨b, off, cap, h2, -, -, h3⟩
        · obtain rfl : ss = [] := by simpa using h
          cases h2
          exact ⟨rfl, fun j u hj => by simp at hj⟩
        · cases h2
          refine ⟨by simp, fun j u hj => ?_⟩
          obtain ⟨hj', rfl⟩ := List.getElem?_eq_some_iff.1 hj
          rw [List.getElem_map]
          have := h3 j (by simpa using hj')
          rw [show (⟨b, off, none⟩ : Addr).add j = ⟨b, off + j, none⟩ by simp [Addr.add]]
          exact this
      obtain ⟨rfl, hc⟩ := hm
      obtain ⟨v', w', h1, h2, h3, -⟩ := run_append_own (P := P) (w := w) base t o.type e i z 1 bytes ht hi hz hsize hby hzs (by decide) v n xs hown ad ss.length c ((ss.map bs).map Value.string) (by simp) hc (by simp [Value.oneCell']) h63 hbytes hbase
      exact ⟨v', w', h1, h2, h3⟩
  obtain ⟨v', w', hrun, r1, r2⟩ := key
  unfold Oper.wp
  simp [execOp, hop, resolve, invoke, builtin, hs, hx, hrun, Result.andThen]
  exact hK v' w' r1 r2
/-- what the loads of R22.Small read -/
theorem sS_start (w : World) (v1 v2 b : Value) (t : TypeId) : (w.alloc (.cells #[v1, v2, b] t)).cell? ⟨w.heap.size, 0, none⟩ = some v1 ∧ (w.alloc (.cells #[v1, v2, b] t)).cell? ⟨w.heap.size, 1, none⟩ = some v2 ∧ Below w.heap.size w (w.alloc (.cells #[v1, v2, b] t)) ∧ w.heap.size < (w.alloc (.cells #[v1, v2, b] t)).heap.size :=
  ⟨by simp, by simp, below_alloc _ _, by simp⟩
theorem sS_step {w w0 w1 : World} {v1 v2 : Value} (h : w0.cell? ⟨w.heap.size, 0, none⟩ = some v1 ∧ w0.cell? ⟨w.heap.size, 1, none⟩ = some v2 ∧ Below w.heap.size w w0 ∧ w.heap.size < w0.heap.size) (hb : Below (w.heap.size + 1) w0 w1) :
    w1.cell? ⟨w.heap.size, 0, none⟩ = some v1 ∧ w1.cell? ⟨w.heap.size, 1, none⟩ = some v2 ∧ Below w.heap.size w w1 ∧ w.heap.size < w1.heap.size :=
  ⟨by rw [hb.cell (by simp)]; exact h.1, by rw [hb.cell (by simp)]; exact h.2.1, h.2.2.1.trans (hb.mono (Nat.le_succ _)), Nat.lt_of_lt_of_le h.2.2.2 hb.size⟩
theorem owns_grown {B : Nat} {e : TypeId} {v : Value} {n : Nat} {xs : List Value} {w0 w1 : World} (h : w0.ownsRow B e 1 v n xs) (hg : w0.grownBy w1 v.ownBlock) (hB : B ≤ w0.heap.size) : Below B w0 w1 :=
  (Below.refl B w0).grown hg hB (fun g e => (h.lt g e).1)
def smallB (l : List Str) : Bool := decide (l.length ≤ 60) && l.all fun x => decide (x.length ≤ 100)
set_option maxRecDepth 100000 in
set_option maxHeartbeats 2000000 in
theorem small_any (v1 v2 : Value) (cls att : List Str) (crit : Bool) (w : World) (h1 : SAt w v1 cls) (h2 : SAt w v2 att) (f1 : v1 = .slice none 0 0 ∨ ∃ a n c, v1 = .slice (some a) n c) (f2 : v2 = .slice none 0 0 ∨ ∃ a n c, v2 = .slice (some a) n c)
    (hl : cls.length + att.length ≤ 2000000) :
    Calls Tryd.prog 8 #[.agg #[v1, v2, .bool crit]] w fun e w' => e = .returned (.bool (smallB (cls ++ att))) ∧ Below w.heap.size w w' := by
  obtain ⟨i0, hi, hz0, hz1, hz2⟩ := info_parts Tryd.infoStr
  obtain ⟨ll, hll⟩ : ∃ ll, cls ++ att = ll := ⟨_, rfl⟩
  rw [hll]
  go_enter Tryd.func8, Tryd.ntmps8
  have hO : (((w.alloc (.cells #[v1, v2, .bool crit] 26)).alloc (.cells #[] 9)).drew).ownsRow (w.heap.size + 1) 9 1 (.slice (some ⟨w.heap.size + 1, 0, none⟩) 0 0) 0 [] := by
    have := World.ownsRow_lit (base := w.heap.size + 1) (e := 9) (size := 1) (w.alloc (.cells #[v1, v2, .bool crit] 26)) #[] 0 (by simp) (by decide) rfl
    rw [World.size_alloc] at this
    exact this
  have hS1 : SAt (((w.alloc (.cells #[v1, v2, .bool crit] 26)).alloc (.cells #[] 9)).drew) v1 cls := h1.below (Below.drew (Below.alloc (below_alloc _ _) (by simp) _))
  have hz : w.heap.size + 1 ≤ (((w.alloc (.cells #[v1, v2, .bool crit] 26)).alloc (.cells #[] 9)).drew).heap.size := by
    show w.heap.size + 1 ≤ ((w.alloc _).alloc _).heap.size
    simp
  have l1 : 0 + cls.length ≤ maxLen := by unfold maxLen; omega
  have l2 : 0 + cls.length + att.length ≤ maxLen := by unfold maxLen; omega
  have l3 : (0 + cls.length) * 16 ≤ 140737488355328 := by omega
  have l4 : (0 + cls.length + att.length) * 16 ≤ 140737488355328 := by omega
  have hfin : ∀ w', Below (w.heap.size + 1) (((w.alloc (.cells #[v1, v2, .bool crit] 26)).alloc (.cells #[] 9)).drew) w' → Below w.heap.size w w' := fun w' h => (Below.drew (Below.alloc (below_alloc _ _) (by simp) _)).trans (h.mono (Nat.le_succ _))
  have HF := Lib.hid hfin
  clear hfin
  go_upto_region 1 with fail
  go_region_held3 (fun w' => w'.cell? ⟨w.heap.size, 0, none⟩ = some v1 ∧ w'.cell? ⟨w.heap.size, 1, none⟩ = some v2 ∧ Below w.heap.size w w' ∧ w.heap.size < w'.heap.size)
    (first | exact sS_start _ _ _ _ _ | exact sS_step (sS_start _ _ _ _ _) (Below.drew (Below.refl _ _)) | exact sS_step (sS_start _ _ _ _ _) (Below.drew (Below.alloc (Below.refl _ _) (by simp) _)) | exact sS_step (sS_step (sS_start _ _ _ _ _) (Below.drew (Below.alloc (Below.refl _ _) (by simp) _))) hBg | exact sS_step (sS_step (sS_start _ _ _ _ _) (Below.drew (Below.alloc (Below.refl _ _) (by simp) _))) (hBg.trans hBg2) | (trace_state; fail "keep"))
    ((first
      | (refine step_append_sat rfl (.tmp 5) (.tmp 8) 22 rfl (w.heap.size + 1) 9 i0 (.string ByteArray.empty) 16 Tryd.underlying22 hi hz0 hz1 hz2 rfl _ 0 [] rfl hO v1 cls rfl hS1 f1 l1 l3 hz ?_
         intro v' w1 hown hgrow
         have hBg := owns_grown hO hgrow hz)
      | (refine step_append_sat rfl (.tmp 9) (.tmp 12) 22 rfl (w.heap.size + 1) 9 i0 (.string ByteArray.empty) 16 Tryd.underlying22 hi hz0 hz1 hz2 rfl _ _ _ rfl hown v2 att rfl (h2.below (HF.out _ hBg)) f2 l2 l4 (Nat.le_trans hz hBg.size) ?_
         intro v'' w2 hown2 hgrow2
         have hBg2 := owns_grown hown hgrow2 (Nat.le_trans hz hBg.size))
      | (trace_state; fail "tac")))
  rename_i hh
  obtain ⟨-, -, hBw, -⟩ := hh
  have hs : SAt w2 v'' (cls ++ att) := owns_at (by simpa using hown2)
  have hsz : (cls ++ att).length ≤ 2000000 := by simpa using hl
  rw [hll] at hs hsz
  clear hgrow hgrow2 hown hown2 hBg hBg2 HF hS1 hO hz h1 h2 f1 f2 l1 l2 l3 l4 hl hll
  rcases hs with ⟨hnil, a, c, rfl⟩ | ⟨b, off, cap, rfl, hcap, hpos, hc⟩
  · obtain rfl : ll = [] := by simpa using hnil
    go_wp2
    go_loop [4] (fun i => i = .int .i64 0) (fun i => 0)
    case atStart => rfl
    case round =>
      subst hrel
      go_wp2
      go_ret
      exact ⟨ret_bool (by simp [smallB]), hBw⟩
  · simp only [List.length_map] at hcap hpos ⊢
    have hcs : ∀ j (hj : j < ll.length), w2.cell? ⟨b, off + j, none⟩ = some (.string (bs ll[j])) := fun j hj => by have := hc j (by simpa using hj); simpa using this
    have HC := Lib.hid hcs
    clear hc hcs
    by_cases h60 : ll.length ≤ 60
    · go_wp2
      go_loopw [2, 4] (fun _ i wr => ∃ k : Nat, k ≤ ll.length ∧ i = .int .i64 k ∧ Hid ((ll.take k).all (fun x => decide (x.length ≤ 100)) = true) ∧ wr = w2) (fun _ i _ => ll.length - (intOf i).toNat)
      case atStart => exact ⟨0, Nat.zero_le _, rfl, Lib.hid (by simp), rfl⟩
      case round =>
        obtain ⟨k, hk, rfl, hall, rfl⟩ := hrel
        by_cases hlt : k < ll.length
        · have hck := HC.out k hlt
          have hsk : (bs ll[k]).size = ll[k].length := bs_size _
          have HALL := Lib.hid (all_take_succ' (fun x : Str => decide (x.length ≤ 100)) ll k hlt)
          have HFALSE := Lib.hid (all_false_at' (fun x : Str => decide (x.length ≤ 100)) ll k hlt)
          generalize bs ll[k] = sk at hck hsk
          by_cases h100 : sk.size ≤ 100
          · go_wp2
            go_roundw
            case rel => exact ⟨k + 1, by omega, by go_num, Lib.hid (by rw [HALL.out, hall.out]; simp; omega), trivial⟩
            case measure => simp [intOf]; omega
          · go_wp2
            go_ret
            exact ⟨ret_bool (by rw [smallB, HFALSE.out (by simp; omega)]; simp), hBw⟩
        · have h9 := hall.out
          rw [List.take_of_length_le (by omega)] at h9
          have H9 := Lib.hid h9
          clear h9 hall
          go_wp2
          go_ret
          exact ⟨ret_bool (by rw [smallB, H9.out, Bool.and_true]; exact decide_eq_decide.2 (by omega)), hBw⟩
    · go_wp2
      go_loopw [2, 4] (fun _ i wr => i = .int .i64 0 ∧ wr = w2) (fun _ i _ => 0)
      case atStart => exact ⟨rfl, rfl⟩
      case round =>
        obtain ⟨rfl, rfl⟩ := hrel
        go_wp2
        go_ret
        exact ⟨ret_bool (by rw [smallB, show decide (ll.length ≤ 60) = false by simpa using h60, Bool.false_and]; simp; omega), hBw⟩
theorem smallB_iff (l : List Str) : smallB l = true ↔ l.length ≤ 60 ∧ ∀ x ∈ l, x.length ≤ 100 := by simp [smallB]
theorem szd_of {K : Nat} {c : Cfg} (h : ShortC K c) (hK : K ≤ 1000000) : c.szd := ⟨fun x hx => Nat.le_trans (h.1 x hx) hK, fun x hx => Nat.le_trans (h.2 x hx) hK⟩
theorem text_len {K : Nat} {c : Cfg} (h : ShortC K c) (hK : K ≤ 1000) (hn : c.cls.length + c.att.length ≤ 60) : (textM c).length ≤ 100000 := by
  have h1 := textM_len h
  have h2 : (c.cls.length + c.att.length) * (K + 7) ≤ 60 * 1007 := Nat.mul_le_mul hn (by omega)
  omega
end Go.Proofs.YtfpegmeppgdklaaDoor
