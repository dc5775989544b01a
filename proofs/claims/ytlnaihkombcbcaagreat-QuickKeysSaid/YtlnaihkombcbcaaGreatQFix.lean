/-
  winnowinglaw13.fixed comes out true: by the evaluator; (*Index).Keys and IndexByte are known ahead.
-/
import Derived.Test.YtlnaihkombcbcaaGreatQKeys
import Derived.Test.YtlnaihkombcbcaaGreatShelf
import Derived.Test.YtlnaihkombcbcaaGreatEvA
import Derived.KernelRfl
noncomputable section
namespace Go.Proofs.YtlnaihkombcbcaaGreat
open Go.RowKit Go.Ev
def kindA (a : AV) : Option Int := match toG a with
  | some (.agg cs) => match cs.toList with
    | [.int .i64 k, .string _] => some k
    | _ => none
  | _ => none
def lenV : AV → Option Nat
  | .gs _ _ n _ _ => some n
  | .sl n _ _ => some n
  | .z0 => some 0
  | .g (.slice _ n _) => some n
  | _ => none
/-- of each entry its kind, its length -/
def partsA : List (Nat × AV × AV) → Option (List (Int × Nat))
  | [] => some []
  | e :: es => match kindA e.2.1, lenV e.2.2, partsA es with
    | some k, some n, some l => some ((k, n) :: l)
    | _, _, _ => none
def sumP (p : Int → Bool) : List (Int × Nat) → Nat
  | [] => 0
  | x :: l => (if p x.1 then x.2 else 0) + sumP p l
def distinctB : List Nat → Bool
  | [] => true
  | a :: l => !l.contains a && distinctB l
theorem distinctB_nodup : ∀ {l : List Nat}, distinctB l = true → l.Nodup
  | [], _ => List.nodup_nil
  | a :: l, h => by
    simp only [distinctB, Bool.and_eq_true, Bool.not_eq_true', List.contains_eq_mem, decide_eq_false_iff_not] at h
    exact List.nodup_cons.2 ⟨h.1, distinctB_nodup h.2⟩
def keysA (es : List (Nat × AV × AV)) (clk : Nat) : Option AV :=
  match es.all (fun e => Nat.blt e.1 clk) && distinctB (es.map (·.1)), partsA es with
  | true, some l => match Nat.ble (sumP (fun _ => true) l) 1000000000 with
    | true => some (.tup [.g (.int .i64 (sumP (isK 3) l : Nat)), .g (.int .i64 (sumP (isK 4) l : Nat)), .g (.int .i64 (sumP (isK 2) l : Nat)), .g (.int .i64 (sumP isRest l : Nat))])
    | false => none
  | _, _ => none
def keysCH : CH := fun f args rd cur nx => match Nat.beq f 47, args with
  | true, [.ptr b 0] => match getR (cur :: rd) b with
    | some (.cells (.mp m :: _)) => match getR (cur :: rd) m with
      | some (.map es clk) => match keysA es clk with
        | some a => some (.ret a, cur, nx)
        | none => none
      | _ => none
    | _ => none
  | _, _ => none
section
variable {w : World} {G : Gh}
theorem kindA_spec {a : AV} {v : Value} {k : Int} (h : kindA a = some k) (hv : VR w G a v) : ∃ s, v = .agg #[.int .i64 k, .string s] := by
  unfold kindA at h
  split at h
  · rename_i cs hg
    obtain rfl := toG_spec a hg hv
    split at h
    · rename_i k' s hl
      cases h
      exact ⟨s, congrArg Value.agg (Array.toList_inj.1 hl)⟩
    · cases h
  · cases h
theorem lenV_spec {a : AV} {v : Value} {n : Nat} (h : lenV a = some n) (hv : VR w G a v) : ∃ ad c, v = .slice ad n c := by
  unfold lenV at h
  split at h
  · cases h
    obtain ⟨rb, ro, o', cap, c, e, fr, -, rfl, -⟩ := hv
    exact ⟨_, _, rfl⟩
  · cases h
    obtain ⟨ad, cap, rfl, -⟩ := hv
    exact ⟨_, _, rfl⟩
  · cases h
    obtain ⟨ad, rfl⟩ := hv
    exact ⟨_, _, rfl⟩
  · cases h
    obtain rfl : v = _ := hv
    exact ⟨_, _, rfl⟩
  · cases h
theorem partsA_spec : ∀ {es : List (Nat × AV × AV)} {l : List MapEntry} {r : List (Int × Nat)}, EntR w G es l → partsA es = some r →
    (∀ x ∈ l, ∃ k s ad n c, x.key = .agg #[.int .i64 k, .string s] ∧ x.val = .slice ad n c) ∧ (∀ p, sumK p l = sumP p r) ∧ l.map (·.born) = es.map (·.1)
  | [], l, r, he, h => by
    rw [EntR] at he; subst he
    simp only [partsA, Option.some.injEq] at h; subst h
    exact ⟨by simp, fun p => rfl, rfl⟩
  | e :: es, l, r, he, h => by
    obtain ⟨x, xs, rfl, ⟨h1, h2, h3⟩, h4⟩ := he
    simp only [partsA] at h
    split at h
    · rename_i k n r' e1 e2 e3
      cases h
      obtain ⟨i1, i2, i3⟩ := partsA_spec h4 e3
      obtain ⟨s, hk⟩ := kindA_spec e1 h2
      obtain ⟨ad, c, hv⟩ := lenV_spec e2 h3
      refine ⟨fun y hy => ?_, fun p => ?_, by simp [h1, i3]⟩
      · rcases List.mem_cons.1 hy with rfl | hy
        · exact ⟨_, _, _, _, _, hk, hv⟩
        · exact i1 y hy
      · show partK p x + sumK p xs = _
        rw [part_of p hk hv, i2 p]; rfl
    · cases h
end
theorem keysCH_spec {f : FuncId} {args : List AV} {rd : List Mem} {cur : Mem} {nx : Nat} {r : AO × Mem × Nat} (h : keysCH f args rd cur nx = some r) :
    f = 47 ∧ ∃ b m es clk a tl, args = [.ptr b 0] ∧ getR (cur :: rd) b = some (.cells (.mp m :: tl)) ∧ getR (cur :: rd) m = some (.map es clk) ∧ keysA es clk = some a ∧ r = (.ret a, cur, nx) := by
  unfold keysCH at h
  split at h
  · rename_i b hf
    split at h
    · rename_i m tl hb
      split at h
      · rename_i es clk hm
        split at h
        · rename_i a ha
          cases h
          exact ⟨Nat.eq_of_beq_eq_true hf, b, m, es, clk, a, tl, rfl, hb, hm, ha, rfl⟩
        · cases h
      · cases h
    · cases h
  · cases h
theorem keysCH_ok {GT : GTab} : ChOk Tryz.prog GT keysCH := by
  refine ⟨fun {f args rd cur nx out cur' nx'} h => ?_, fun {f args rd cur nx out cur' nx'} h => ?_, fun {f args rd cur nx r} h => ?_⟩
  · obtain ⟨rfl, b, m, es, clk, a, tl, rfl, hb, hm, ha, e⟩ := keysCH_spec h
    cases e
    intro base F w G rargs hmr hargs hF
    obtain ⟨v0, vs, e0, hv0, hvs⟩ := hargs
    rw [VRs] at hvs
    subst hvs
    obtain rfl : rargs = #[v0] := by rw [← Array.toList_inj]; exact e0
    obtain ⟨rb, ro, hmu, rfl⟩ := hv0
    obtain ⟨rb', ro', e1, -, -, c, ty, fr, hc, -, hcs⟩ := hmr.blk b _ hb
    rw [hmu] at e1; cases e1
    obtain ⟨v1, hc1, hv1⟩ := hcs 0 (.mp m) rfl
    obtain ⟨rm, hmm, rfl⟩ := hv1
    obtain ⟨rm', rm0, e2, -, -, -, l, hl, hent⟩ := hmr.blk m _ hm
    rw [hmm] at e2; cases e2
    unfold keysA at ha
    split at ha
    · rename_i r hchk hpa
      split at ha
      · rename_i hsum
        cases ha
        simp only [Bool.and_eq_true] at hchk
        obtain ⟨i1, i2, i3⟩ := partsA_spec hent hpa
        have hcell : w.cell? ⟨rb, ro + 0, none⟩ = some (.map (some rm)) := by
          rw [Lib.cell_of_heap hc]; exact hc1
        have hmo : MapOf w rm l clk := by
          refine ⟨hl, fun x hx => ?_, ?_, i1⟩
          · have hxb : x.born ∈ es.map (·.1) := by rw [← i3]; exact List.mem_map.2 ⟨x, hx, rfl⟩
            obtain ⟨y, hy, e3⟩ := List.mem_map.1 hxb
            have := List.all_eq_true.1 hchk.1 y hy
            rw [Nat.blt_eq] at this
            omega
          · rw [i3]; exact distinctB_nodup hchk.2
        refine (keys_any w rb (ro + 0) rm clk l hcell hmo (by rw [i2]; exact Nat.le_of_ble_eq_true hsum)).mono ?_
        rintro e w' ⟨rfl, hB⟩
        refine ⟨G, Stp.world hmr hB.os hB.tape hB.output hB.size hB.block, _, rfl, _, rfl, ?_⟩
        simp only [i2]
        exact VRs.cons_mk rfl (VRs.cons_mk rfl (VRs.cons_mk rfl (VRs.cons_mk rfl (by rw [VRs]))))
      · cases ha
    · cases ha
  · obtain ⟨rfl, b, m, es, clk, a, tl, rfl, hb, hm, ha, e⟩ := keysCH_spec h
    cases e
    exact Nat.le_refl _
  · obtain ⟨rfl, -⟩ := keysCH_spec h
    exact ⟨_, Tryz.func47, by kernel_rfl, by kernel_rfl⟩
end Go.Proofs.YtlnaihkombcbcaaGreat
end
