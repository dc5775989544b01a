/-
  pool.texts: what it hands on.
-/
import Derived.Test.YtlnaihkombcbcaaGreatPAll
namespace Go.Proofs.YtlnaihkombcbcaaGreat
open Go.RowKit Go.Ev
attribute [local go_sem] Oper.semAt_some
mutual
def txV (κ : Int) : Vl → List ByteArray
  | .mk k t s _ l => (if k = 1 ∧ t = κ then [s] else []) ++ (if 2 ≤ k ∧ k ≤ 5 then txVs κ l else [])
def txVs (κ : Int) : List Vl → List ByteArray
  | [] => []
  | x :: xs => txV κ x ++ txVs κ xs
end
theorem txV_eq (κ : Int) (x : Vl) : txV κ x = (if x.kind = 1 ∧ x.tk = κ then [x.text] else []) ++ (if 2 ≤ x.kind ∧ x.kind ≤ 5 then txVs κ x.l else []) := by cases x; rw [txV]; rfl
theorem txVs_append (κ : Int) : ∀ (a b : List Vl), txVs κ (a ++ b) = txVs κ a ++ txVs κ b
  | [], b => by simp [txVs]
  | x :: a, b => by simp only [List.cons_append, txVs, txVs_append κ a b, List.append_assoc]
theorem txVs_snoc (κ : Int) {l : List Vl} {k : Nat} (hk : k < l.length) : txVs κ (l.take (k + 1)) = txVs κ (l.take k) ++ txV κ l[k] := by
  rw [List.take_succ_eq_append_getElem hk, txVs_append]
  simp only [txVs, List.append_nil]
theorem cntVs_at {l : List Vl} {k : Nat} (hk : k < l.length) : cntVs l[k].l < cntVs l := by
  have h := cntVs_snoc hk
  have h2 := cntVs_append (l.take (k + 1)) (l.drop (k + 1))
  rw [List.take_append_drop] at h2
  omega
theorem txVs_le (κ : Int) {l : List Vl} (k : Nat) : (txVs κ (l.take k)).length ≤ (txVs κ l).length := by
  have h := txVs_append κ (l.take k) (l.drop k)
  rw [List.take_append_drop] at h
  rw [h, List.length_append]; omega
set_option maxHeartbeats 4000000 in
theorem texts_in (l z m0 Nb : Nat) (κ : Int) (Ow : World → Nat → Prop) (J : List ByteArray → World → Prop) (hJ : ∀ s A B, J s A → Below A.heap.size A B → J s B) (hO : ∀ A B k, m0 ≤ A.heap.size → Below A.heap.size A B → Ow B k → Ow A k) (hzm : z ≤ m0)
    (hY : ∀ m pre x A, J pre A → pre.length < Nb → m0 ≤ A.heap.size → YieldAt Fence.wide m Tryz.prog l #[.string x] A fun e B => e = .returned (.bool true) ∧ J (pre ++ [x]) B ∧ KO Ow z A B) (N : Nat) :
    ∀ (vs : List Vl), SizeOf.sizeOf vs ≤ N → cntVs vs ≤ 1000000 → ∀ (n : Nat) (v : Value) (pre : List ByteArray) (W : World), pre.length + (txVs κ vs).length ≤ Nb → m0 ≤ W.heap.size → AtB z W (.sl vs.length 5 (vs.flatMap encV)) v → J pre W → (∀ k, Ow W k → k < W.heap.size) →
      CallsIn Fence.wide n Tryz.prog 153 #[v, .int .i64 κ, .func (.yield l) #[] #[]] W fun e B => e = .returned (.bool true) ∧ J (pre ++ txVs κ vs) B ∧ KO Ow z W B := by
  induction N with
  | zero => intro vs hl; cases vs <;> simp at hl <;> omega
  | succ N ih =>
    intro vs hl hcn n v pre W hNb hm hv hj hOW
    have hlen := cntVs_len vs
    rcases slB_cells encV 5 encV_len (by decide) hv with ⟨rfl, ad, cap, rfl⟩ | ⟨b, o, cap, rfl, hcap, hpos, hbz, hc⟩
    · refine callsIn_of_wp Tryz.func153 rfl trivial ?_ rfl
      simp only [Tryz.ntmps153, List.size_toArray, List.length_cons, List.length_nil, Nat.reduceAdd, Nat.reduceSub, Array.replicate_succ, Array.replicate_zero, List.push_toArray, List.append_toArray, List.nil_append, List.cons_append]
      gi_wp2
      gi_loopw [11] (fun i wr => i = .int .i64 0 ∧ J pre wr ∧ KO Ow z W wr) (fun _ _ => 0)
      case atStart => exact ⟨rfl, hj, KO.refl hOW⟩
      case round =>
        obtain ⟨rfl, hj2, hB⟩ := hrel
        gi_wp2
        go_ret
        exact ⟨rfl, by simpa [txVs] using hj2, hB⟩
    · have IH := Lib.hid fun k (hk : k < vs.length) => ih vs[k].l (by have := vl_lt (List.getElem_mem hk); omega) (by have := cntVs_at hk; omega)
      have HC := Lib.hid fun k (hk : k < vs.length) => vlB_cells hc hk
      have HS := Lib.hid fun k (hk : k < vs.length) => txVs_snoc κ hk
      clear ih hc hl hv
      refine callsIn_of_wp Tryz.func153 rfl trivial ?_ rfl
      simp only [Tryz.ntmps153, List.size_toArray, List.length_cons, List.length_nil, Nat.reduceAdd, Nat.reduceSub, Array.replicate_succ, Array.replicate_zero, List.push_toArray, List.append_toArray, List.nil_append, List.cons_append]
      gi_wp2
      gi_loopw [11] (fun i wr => ∃ k : Nat, k ≤ vs.length ∧ i = .int .i64 k ∧ J (pre ++ txVs κ (vs.take k)) wr ∧ KO Ow z W wr) (fun i _ => vs.length - (intOf i).toNat)
      case atStart => exact ⟨0, Nat.zero_le _, rfl, by simpa [txVs] using hj, KO.refl hOW⟩
      case round =>
        obtain ⟨k, hk, rfl, hj2, hK⟩ := hrel
        have hB := hK.below
        by_cases hlt : k < vs.length
        · obtain ⟨c0, c1, c2, c3, ad, cp, c4, ha⟩ := HC.out k hlt
          have c0' := (hB.cell (p := ⟨b, o + k * 5, none⟩) hbz).trans c0
          have c1' := (hB.cell (p := ⟨b, o + k * 5 + 1, none⟩) hbz).trans c1
          have c2' := (hB.cell (p := ⟨b, o + k * 5 + 2, none⟩) hbz).trans c2
          have c3' := (hB.cell (p := ⟨b, o + k * 5 + 3, none⟩) hbz).trans c3
          have c4' := (hB.cell (p := ⟨b, o + k * 5 + 4, none⟩) hbz).trans c4
          have ha' := ha.below hB
          have HSN := HS.out k hlt
          rw [txV_eq] at HSN
          have HREC := Lib.hid (IH.out k hlt)
          have hmr : m0 ≤ wr.heap.size := Nat.le_trans hm hB.size
          have hzr : z ≤ wr.heap.size := Nat.le_trans hzm hmr
          clear c0 c1 c2 c3 c4 ha IH HC HS
          generalize vs[k].kind = kd at *
          generalize vs[k].tk = tk at *
          generalize vs[k].text = tx at *
          generalize vs[k].n = nn at *
          generalize vs[k].l = ll at *
          -- the new variable, and what a round leaves of it
          have hnew : ∀ (x : Obj) (B : World), KO Ow z (wr.alloc x) B → B.heap[wr.heap.size]? = some x ∧ KO Ow z W B := by
            intro x B hKB
            have hka : KO Ow z wr (wr.alloc x) := KO.grow (below_alloc wr x) hzr (fun k hk => hO _ _ _ hmr (below_alloc _ _) hk) hK.lt
            refine ⟨(hKB.same _ (by simp) fun ho => ?_).trans (World.alloc_heap_new wr x), hK.trans (hka.trans hKB)⟩
            have := hK.lt _ (hO _ _ _ hmr (below_alloc _ _) ho)
            omega
          by_cases hk1 : kd = 1
          · subst hk1
            simp only [true_and, show ¬ ((2 : Int) ≤ 1 ∧ (1 : Int) ≤ 5) by omega, if_false, List.append_nil] at HSN
            by_cases ht : tk = κ
            · subst ht
              rw [if_pos rfl] at HSN
              have hpb : (pre ++ txVs tk (vs.take k)).length < Nb := by
                have h9 := congrArg List.length HSN
                simp only [List.length_append, List.length_cons, List.length_nil] at h9 ⊢
                have h8 := txVs_le tk (l := vs) (k + 1)
                omega
              gi_wp2_with fail
              refine upon_yield rfl (hY _ _ _ _ (hJ _ _ _ hj2 (below_alloc _ _)) hpb (by simp; omega)) ?_
              rintro W2 ⟨hj3, hK3⟩
              obtain ⟨hcell, hK4⟩ := hnew _ _ hK3
              rw [List.append_assoc, ← HSN] at hj3
              have d0 : W2.cell? ⟨wr.heap.size, 0, none⟩ = some (.int .i64 1) := by rw [Lib.cell_of_heap hcell]; rfl
              clear hnew hcell HREC
              gi_wp2
              refine ⟨trivial, ?_⟩
              gi_wp2
              go_roundw
              case rel => exact ⟨k + 1, by omega, by go_num, hj3, hK4⟩
              case measure => simp [intOf]; omega
            · rw [if_neg ht, List.append_nil] at HSN
              have hj3 := hJ _ _ (wr.alloc (.cells #[.int .i64 1, .int .i64 tk, .string tx, .int .i64 nn, .slice ad ll.length cp] 67)) hj2 (below_alloc _ _)
              have hK4 := (hnew (.cells #[.int .i64 1, .int .i64 tk, .string tx, .int .i64 nn, .slice ad ll.length cp] 67) _ (KO.refl fun k hk => by have := hK.lt k (hO _ _ _ hmr (below_alloc _ _) hk); simp; omega)).2
              rw [← HSN] at hj3
              clear hnew HREC
              gi_wp2
              refine ⟨fun _ h => (by cases h), ?_⟩
              gi_wp2
              refine ⟨trivial, ?_⟩
              gi_wp2
              go_roundw
              case rel => exact ⟨k + 1, by omega, by go_num, hj3, hK4⟩
              case measure => simp [intOf]; omega
          · by_cases hkk : 2 ≤ kd ∧ kd ≤ 5
            · obtain ⟨hk2, hk5⟩ := hkk
              rw [if_neg (fun h => hk1 h.1), if_pos ⟨hk2, hk5⟩, List.nil_append] at HSN
              have hpb : (pre ++ txVs κ (vs.take k)).length + (txVs κ ll).length ≤ Nb := by
                have h9 := congrArg List.length HSN
                simp only [List.length_append] at h9 ⊢
                have h8 := txVs_le κ (l := vs) (k + 1)
                omega
              have hr2 := HREC.out (n - 1) (.slice ad ll.length cp) (pre ++ txVs κ (vs.take k)) (wr.alloc (.cells #[.int .i64 kd, .int .i64 tk, .string tx, .int .i64 nn, .slice ad ll.length cp] 67)) hpb (by simp; omega)
                (ha'.below ((Below.refl _ wr).alloc hzr _)) (hJ _ _ _ hj2 (below_alloc _ _)) (fun k hk => by have := hK.lt k (hO _ _ _ hmr (below_alloc _ _) hk); simp; omega)
              have HR := Lib.hid hr2
              clear hr2 HREC
              gi_wp2_with fail
              refine ⟨fun _ h => (by cases h), ?_⟩
              gi_wp2_with fail
              refine ⟨trivial, ?_⟩
              gi_wp2_with fail
              refine ⟨fun h => (by cases h), HR.out.mono ?_⟩
              rintro e W2 ⟨rfl, hj3, hK3⟩
              obtain ⟨-, hK4⟩ := hnew _ _ hK3
              rw [List.append_assoc, ← HSN] at hj3
              clear hnew
              gi_wp2
              go_roundw
              case rel => exact ⟨k + 1, by omega, by go_num, hj3, hK4⟩
              case measure => simp [intOf]; omega
            · rw [if_neg (fun h => hk1 h.1), if_neg hkk, List.append_nil, List.append_nil] at HSN
              have hj3 := hJ _ _ (wr.alloc (.cells #[.int .i64 kd, .int .i64 tk, .string tx, .int .i64 nn, .slice ad ll.length cp] 67)) hj2 (below_alloc _ _)
              have hK4 := (hnew (.cells #[.int .i64 kd, .int .i64 tk, .string tx, .int .i64 nn, .slice ad ll.length cp] 67) _ (KO.refl fun k hk => by have := hK.lt k (hO _ _ _ hmr (below_alloc _ _) hk); simp; omega)).2
              rw [← HSN] at hj3
              clear hnew HREC
              by_cases hk2 : 2 ≤ kd
              · have hk5 : ¬ kd ≤ 5 := fun h => hkk ⟨hk2, h⟩
                gi_wp2
                refine ⟨fun _ h => (by cases h), ?_⟩
                gi_wp2
                refine ⟨trivial, ?_⟩
                gi_wp2
                go_roundw
                case rel => exact ⟨k + 1, by omega, by go_num, hj3, hK4⟩
                case measure => simp [intOf]; omega
              · gi_wp2
                refine ⟨fun _ h => (by cases h), ?_⟩
                gi_wp2
                refine ⟨trivial, ?_⟩
                gi_wp2
                go_roundw
                case rel => exact ⟨k + 1, by omega, by go_num, hj3, hK4⟩
                case measure => simp [intOf]; omega
        · obtain rfl : k = vs.length := by omega
          rw [List.take_length] at hj2
          gi_wp2
          go_ret
          exact ⟨rfl, hj2, hK⟩
end Go.Proofs.YtlnaihkombcbcaaGreat
