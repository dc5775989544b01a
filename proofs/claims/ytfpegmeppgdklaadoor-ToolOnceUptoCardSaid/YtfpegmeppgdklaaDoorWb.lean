/-
  Walks of the references' functions that compare lists of strings.
-/
import Derived.Test.YtfpegmeppgdklaaDoorWa
namespace Go.Proofs.YtfpegmeppgdklaaDoor
open Go.RowKit
theorem texts_strs (v1 v2 : Value) (xs ys : List ByteArray) (w : World) (h1 : StrsAt w v1 xs) (h2 : StrsAt w v2 ys) (hl : xs.length ≤ 4611686018427387904) (hl2 : ys.length ≤ 4611686018427387904) :
    Calls Tryd.prog 24 #[v1, v2] w fun e w' => e = .returned (.bool (xs.map ByteArray.toList == ys.map ByteArray.toList)) ∧ Below w.heap.size w w' := by
  by_cases hlen : xs.length = ys.length
  · rcases h1 with ⟨rfl, a, c, rfl⟩ | ⟨b, off, cap, rfl, hcap, h0, hc⟩
    · have hy : ys = [] := List.eq_nil_of_length_eq_zero hlen.symm
      subst hy
      rcases h2 with ⟨_, a2, c2, rfl⟩ | ⟨b2, off2, cap2, rfl, hcap2, h02, hc2⟩
      · go_enter Tryd.func24, Tryd.ntmps24
        go_wp2
        go_loop [5] (fun i => i = .int .i64 0) (fun i => 0)
        case atStart => rfl
        case round =>
          subst hrel
          go_wp2
          go_ret
          exact ⟨rfl, Below.refl _ _⟩
      · simp at h02
    · rcases h2 with ⟨rfl, a2, c2, rfl⟩ | ⟨b2, off2, cap2, rfl, hcap2, h02, hc2⟩
      · rw [hlen] at h0; simp at h0
      · rw [← hlen] at hcap2 h02 hl2 ⊢
        have HL := Lib.hid hlen; clear hlen
        go_enter Tryd.func24, Tryd.ntmps24
        go_wp2
        go_loopw [5] (fun i wr => ∃ k : Nat, k ≤ xs.length ∧ i = .int .i64 k ∧ ((xs.take k).map ByteArray.toList = (ys.take k).map ByteArray.toList) ∧ Below w.heap.size w wr) (fun i _ => xs.length - (intOf i).toNat)
        case atStart => exact ⟨0, Nat.zero_le _, rfl, rfl, Below.refl _ _⟩
        case round =>
          obtain ⟨k, hk, rfl, hb, hB⟩ := hrel
          have HB := Lib.hid hb; clear hb
          by_cases hlt : k < xs.length
          · have hlt2 : k < ys.length := HL.out ▸ hlt
            have hck := cell_up (hc k hlt) hB
            have hck2 := cell_up (hc2 k hlt2) hB
            clear hc hc2
            cases hb : xs[k].toList == ys[k].toList
            · have hb' : (xs[k].toList != ys[k].toList) = true := by simp [bne, hb]
              go_wp2
              go_quiet (fail)
              go_wp2
              go_ret
              exact ⟨ret_bool (map_ne_at _ _ _ k hlt hlt2 hb).symm, (below_drewN hB _)⟩
            · have hb' : (xs[k].toList != ys[k].toList) = false := by simp [bne, hb]
              go_wp2
              go_quiet (fail)
              go_wp2
              go_roundw
              case rel => exact ⟨k + 1, by omega, by go_num, by rw [map_take_succ _ _ _ hlt, map_take_succ _ _ _ hlt2, HB.out, eq_of_beq hb], (below_drewN hB _)⟩
              case measure => simp [intOf]; omega
          · go_wp2
            go_ret
            have := HB.out
            have h9 := HL.out
            rw [List.take_of_length_le (by omega), List.take_of_length_le (by omega)] at this
            exact ⟨ret_bool (by rw [this]; simp), hB⟩
  · have hne : ((xs.length : Int) != (ys.length : Int)) = true := by rw [bne_iff_ne]; omega
    have key := map_ne_len ByteArray.toList xs ys hlen
    have e1 : ∃ a c, v1 = .slice a xs.length c := by
      rcases h1 with ⟨rfl, a, c, rfl⟩ | ⟨b, off, cap, rfl, _⟩
      · exact ⟨a, c, rfl⟩
      · exact ⟨_, _, rfl⟩
    have e2 : ∃ a c, v2 = .slice a ys.length c := by
      rcases h2 with ⟨rfl, a, c, rfl⟩ | ⟨b, off, cap, rfl, _⟩
      · exact ⟨a, c, rfl⟩
      · exact ⟨_, _, rfl⟩
    obtain ⟨a, c, rfl⟩ := e1
    obtain ⟨a2, c2, rfl⟩ := e2
    clear h1 h2
    go_enter Tryd.func24, Tryd.ntmps24
    go_wp2
    go_ret
    exact ⟨ret_bool key.symm, Below.refl _ _⟩
end Go.Proofs.YtfpegmeppgdklaaDoor
