/-
  R22.few, R22.May, R22.Small.
-/
import Derived.Test.YtfpegmeppgdklaaDoorPlainB
import Derived.Laws.AppendOwn
import Derived.TacticsInMore
import Derived.Deep.RegionWith
import Derived.Deep.Cut
namespace Go.Proofs.YtfpegmeppgdklaaDoor
open Go.RowKit
/-- a name of that kind -/
def kindB (b : Bool) (x : Str) : Bool := nameB x && !(b && x == classS)
theorem kind_false (x : Str) : kindB false x = nameB x := by simp [kindB]
theorem kind_true (x : Str) : kindB true x = attrB x := by simp [kindB, attrB, bne]
theorem few_step (p : Str → Bool) (l : List Str) (k : Nat) (h : k < l.length) (h1 : (l.take k).all p = true) (h2 : (l.take k).Nodup) (h3 : p l[k] = true) (h4 : inB (l.take k) l[k] = false) :
    (l.take (k + 1)).all p = true ∧ (l.take (k + 1)).Nodup := by
  rw [List.take_succ_eq_append_getElem h]
  refine ⟨by rw [List.all_append, h1, List.all_cons, h3]; rfl, (nodup_snoc _ _).2 ⟨h2, fun hm => ?_⟩⟩
  rw [(inB_iff _ _).2 hm] at h4
  cases h4
theorem few_bad (p : Str → Bool) (l : List Str) (k : Nat) (h : k < l.length) (h3 : p l[k] = false ∨ inB (l.take k) l[k] = true) : apartB p l = false := by
  rw [← Bool.not_eq_true, apartB_iff]
  rintro ⟨-, h5, h6⟩
  rcases h3 with h3 | h3
  · rw [h6 _ (List.getElem_mem h)] at h3; cases h3
  · rw [inB_iff] at h3
    have e : l = l.take k ++ l[k] :: l.drop (k + 1) := by
      conv => lhs; rw [← List.take_append_drop k l, List.drop_eq_getElem_cons h]
    rw [e, List.nodup_append] at h5
    exact h5.2.2 _ h3 _ List.mem_cons_self rfl
theorem few_end (p : Str → Bool) (l : List Str) (h1 : l.all p = true) (h2 : l.Nodup) : apartB p l = decide (l.length ≤ 20) := by
  simp [apartB, h1, h2]
theorem sat_take {w : World} {b off cap k : Nat} {ss : List Str} (hc : ∀ j (hj : j < ss.length), w.cell? ⟨b, off + j, none⟩ = some (.string (bs ss[j]))) (hk : k ≤ ss.length) (hcap : k ≤ cap) :
    SAt w (.slice (some ⟨b, off, none⟩) k cap) (ss.take k) := by
  by_cases h0 : k = 0
  · subst h0; exact .inl ⟨by simp, _, _, rfl⟩
  · have hl : (ss.take k).length = k := by simp; omega
    refine .inr ⟨b, off, cap, by rw [List.length_map, hl], by rw [List.length_map, hl]; exact hcap, by rw [List.length_map, hl]; omega, fun j hj => ?_⟩
    rw [List.length_map, hl] at hj
    rw [hc j (by omega)]
    simp
set_option maxHeartbeats 2000000 in
theorem few_any (v : Value) (ss : List Str) (b : Bool) (w : World) (hv : SAt w v ss) (hl : ss.length ≤ 1000000) (hz : ∀ x ∈ ss, x.length ≤ 1000000) :
    Calls Tryd.prog 23 #[v, .bool b] w fun e w' => e = .returned (.bool (apartB (kindB b) ss)) ∧ Below w.heap.size w w' := by
  rcases hv with ⟨hnil, a, c, rfl⟩ | ⟨bk, off, cap, rfl, hcap, hpos, hc⟩
  · obtain rfl : ss = [] := by simpa using hnil
    go_enter Tryd.func23, Tryd.ntmps23
    go_wp2
    go_loop [5] (fun i => i = .int .i64 0) (fun i => 0)
    case atStart => rfl
    case round =>
      subst hrel
      go_wp2
      go_ret
      exact ⟨ret_bool (by simp [apartB]), Below.refl _ _⟩
  · simp only [List.length_map] at hcap hpos ⊢
    have hcs : ∀ j (hj : j < ss.length), w.cell? ⟨bk, off + j, none⟩ = some (.string (bs ss[j])) := fun j hj => by have := hc j (by simpa using hj); simpa using this
    have HC := Lib.hid hcs
    clear hc hcs
    have HZ := Lib.hid hz
    clear hz
    go_enter Tryd.func23, Tryd.ntmps23
    go_wp2
    go_loopw [4, 5] (fun _ i wr => ∃ k : Nat, k ≤ ss.length ∧ i = .int .i64 k ∧ Hid ((ss.take k).all (kindB b) = true ∧ (ss.take k).Nodup) ∧ Below w.heap.size w wr) (fun _ i _ => ss.length - (intOf i).toNat)
    case atStart => exact ⟨0, Nat.zero_le _, rfl, Lib.hid (by simp), Below.refl _ _⟩
    case round =>
      obtain ⟨k, hk, rfl, hall, hB⟩ := hrel
      by_cases hlt : k < ss.length
      · have hck := cell_up (HC.out k hlt) hB
        obtain ⟨q1, h1⟩ : ∃ q, nameB ss[k] = q := ⟨_, rfl⟩
        obtain ⟨q2, h2⟩ : ∃ q, (ss[k] == classS) = q := ⟨_, rfl⟩
        obtain ⟨q3, h3⟩ : ∃ q, inB (ss.take k) ss[k] = q := ⟨_, rfl⟩
        have hn := fun w => name_any (bs ss[k]) w (by rw [bs_size]; have := HZ.out _ (List.getElem_mem hlt); unfold maxLen; omega)
        rw [bs_data, h1] at hn
        have hin := fun (w' : World) (hb : Below w.heap.size w w') => in_any (.slice (some ⟨bk, off, none⟩) k cap) (ss.take k) ss[k] w' (sat_take (fun j hj => cell_up (HC.out j hj) hb) (by omega) (by omega)) (by simp; omega)
        rw [h3] at hin
        have hbt := bs_toList ss[k]
        have hcl : ((bs ss[k]).toList == [99, 108, 97, 115, 115]) = q2 := by rw [hbt]; exact h2
        have hbad := few_bad (kindB b) ss k hlt
        have hok := few_step (kindB b) ss k hlt hall.out.1 hall.out.2
        rw [h3] at hbad hok
        have hkd : kindB b ss[k] = (q1 && !(b && q2)) := by rw [kindB, h1, h2]
        rw [hkd] at hbad hok
        generalize bs ss[k] = sk at hck hn hin hcl
        have HN := Lib.hid hn
        have HI := Lib.hid hin
        have HBAD := Lib.hid hbad
        have HOK := Lib.hid hok
        clear hn hin hbad hok hall hbt h1 h2 h3 hkd
        have H1 : (k : Int) ≤ (ss.length : Int) := by omega
        have H2 : (k : Int) ≤ (cap : Int) := by omega
        have HQ := fun n => below_drewN hB n
        have HQQ := Lib.hid HQ
        clear HQ
        cases q1
        · go_wp2
          go_quiet ((go_at_call 16; exact Calls.quiet_of_same (HN.out _)))
          go_wp2
          go_ret
          exact ⟨ret_bool (HBAD.out (.inl rfl)).symm, below_drewN hB _⟩
        · cases q3
          · cases b
            · go_wp2
              go_quiet (first | (go_at_call 16; exact Calls.quiet_of_same (HN.out _)) | (go_at_call 38; exact Calls.quiet_of_same (HI.out _ (HQQ.out _))))
              go_wp2
              go_roundw
              case rel => exact ⟨k + 1, by omega, by go_num, Lib.hid (HOK.out (by simp) trivial), below_drewN hB _⟩
              case measure => simp [intOf]; omega
            · cases q2
              · go_wp2
                go_quiet (first | (go_at_call 16; exact Calls.quiet_of_same (HN.out _)) | (go_at_call 38; exact Calls.quiet_of_same (HI.out _ (HQQ.out _))))
                go_wp2
                go_roundw
                case rel => exact ⟨k + 1, by omega, by go_num, Lib.hid (HOK.out (by simp) trivial), below_drewN hB _⟩
                case measure => simp [intOf]; omega
              · go_wp2
                go_quiet ((go_at_call 16; exact Calls.quiet_of_same (HN.out _)))
                go_wp2
                go_ret
                exact ⟨ret_bool (HBAD.out (.inl (by simp))).symm, below_drewN hB _⟩
          · cases b
            · go_wp2
              go_quiet (first | (go_at_call 16; exact Calls.quiet_of_same (HN.out _)) | (go_at_call 38; exact Calls.quiet_of_same (HI.out _ (HQQ.out _))))
              go_wp2
              go_ret
              exact ⟨ret_bool (HBAD.out (.inr trivial)).symm, below_drewN hB _⟩
            · cases q2
              · go_wp2
                go_quiet (first | (go_at_call 16; exact Calls.quiet_of_same (HN.out _)) | (go_at_call 38; exact Calls.quiet_of_same (HI.out _ (HQQ.out _))))
                go_wp2
                go_ret
                exact ⟨ret_bool (HBAD.out (.inr trivial)).symm, below_drewN hB _⟩
              · go_wp2
                go_quiet ((go_at_call 16; exact Calls.quiet_of_same (HN.out _)))
                go_wp2
                go_ret
                exact ⟨ret_bool (HBAD.out (.inr trivial)).symm, below_drewN hB _⟩
      · have hall' := hall.out
        rw [List.take_of_length_le (by omega)] at hall'
        have HF := Lib.hid (few_end (kindB b) ss hall'.1 hall'.2)
        clear hall hall'
        go_wp2
        go_ret
        exact ⟨ret_bool (by rw [HF.out]; exact decide_eq_decide.2 (by omega)), hB⟩
end Go.Proofs.YtfpegmeppgdklaaDoor
