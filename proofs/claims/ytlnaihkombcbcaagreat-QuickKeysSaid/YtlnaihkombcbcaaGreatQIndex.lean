/-
  slices.IndexFunc at simple selectors of a kind.
-/
import Derived.Test.YtlnaihkombcbcaaGreatQSmall
namespace Go.Proofs.YtlnaihkombcbcaaGreat
open Go.RowKit Go.Ev
theorem kind_closure (kd a b κ : Int) (nm vl : ByteArray) (ad : Option Addr) (n c Bp : Nat) (w : World) (hb : w.cell? ⟨Bp, 0, none⟩ = some (.int .i64 κ)) :
    Calls Tryz.prog 167 #[.agg #[.int .i64 kd, .string nm, .string vl, .int .i64 a, .int .i64 b, .slice ad n c], .pointer (some ⟨Bp, 0, none⟩)] w fun e w' => e = .returned (.bool (kd == κ)) ∧ Below w.heap.size w w' := by
  have hlt := cell_lt hb
  simp only at hlt
  have hb' := fun o => cell_alloc_far w o Bp 0 hlt
  have hA := below_alloc w
  go_enter Tryz.func167, Tryz.ntmps167
  go_wp2
  go_ret
  exact ⟨rfl, hA _⟩
/-- what slices.IndexFunc tells -/
def IdxPost (l : List Simp) (κ : Int) (w : World) (e : Ending) (w' : World) : Prop :=
  ∃ z : Int, e = .returned (.int .i64 z) ∧ ((z = -1 ∧ Hid (l.any (fun x => x.kind == κ) = false)) ∨ ∃ i : Nat, z = (i : Int) ∧ i < l.length ∧ Hid (l.any (fun x => x.kind == κ) = true)) ∧ Below w.heap.size w w'
set_option maxHeartbeats 2000000 in
theorem index_any (l : List Simp) (κ : Int) (Bp : Nat) (v : Value) (w : World) (hv : At w (.sl l.length 6 (l.flatMap encS)) v) (hl : l.length ≤ 1000000) (hb : w.cell? ⟨Bp, 0, none⟩ = some (.int .i64 κ)) :
    Calls Tryz.prog 166 #[v, .func (.func 167) #[] #[.pointer (some ⟨Bp, 0, none⟩)]] w (IdxPost l κ w) := by
  rcases sl_cells encS 6 encS_len hv with ⟨rfl, ad, cap, rfl⟩ | ⟨b, o, cap, rfl, hcap, hpos, hc⟩
  · go_enter Tryz.func166, Tryz.ntmps166
    go_wp2
    go_loop [8] (fun i => i = .int .i64 0) (fun i => 0)
    case atStart => rfl
    case round =>
      subst hrel
      go_wp2
      go_ret
      exact ⟨-1, rfl, .inl ⟨rfl, Lib.hid rfl⟩, Below.refl _ _⟩
  · have HC := Lib.hid fun k (hk : k < l.length) => simp_cells hc hk
    have HB := Lib.hid hb
    clear hc hb hv
    go_enter Tryz.func166, Tryz.ntmps166
    go_wp2
    go_loopw [5, 8] (fun _ i wr => ∃ k : Nat, k ≤ l.length ∧ i = .int .i64 k ∧ Hid ((l.take k).any (fun x => x.kind == κ) = false) ∧ Below w.heap.size w wr) (fun _ i _ => l.length - (intOf i).toNat)
    case atStart => exact ⟨0, Nat.zero_le _, rfl, Lib.hid (by simp), Below.refl _ _⟩
    case round =>
      obtain ⟨k, hk, rfl, hall, hB⟩ := hrel
      by_cases hlt : k < l.length
      · obtain ⟨c0, c1, c2, ⟨a3, c3⟩, ⟨a4, c4⟩, ad, cp, c5, -⟩ := HC.out k hlt
        have c0' := cell_up c0 hB
        have c1' := cell_up c1 hB
        have c2' := cell_up c2 hB
        have c3' := cell_up c3 hB
        have c4' := cell_up c4 hB
        have c5' := cell_up c5 hB
        have hany := any_take_succ (fun x : Simp => x.kind == κ) l k hlt
        have htrue := any_true_at (fun x : Simp => x.kind == κ) l k hlt
        have HANY := Lib.hid hany
        have HTRUE := Lib.hid htrue
        have HQ := Lib.hid (kind_closure l[k].kind a3 a4 κ l[k].name l[k].value ad l[k].l.length cp Bp _ (cell_up HB.out hB))
        clear c0 c1 c2 c3 c4 c5 hany htrue
        obtain ⟨q, hq⟩ : ∃ q, (l[k].kind == κ) = q := ⟨_, rfl⟩
        rw [hq] at HQ HANY HTRUE
        generalize l[k].kind = kd at *
        generalize l[k].name = nm at *
        generalize l[k].value = vl at *
        generalize l[k].l.length = ln at *
        cases q
        · go_wp2_with fail
          refine HQ.out.mono ?_
          rintro e w1 ⟨rfl, hB1⟩
          go_wp2
          go_roundw
          case rel => exact ⟨k + 1, by omega, by go_num, Lib.hid (by rw [HANY.out, hall.out]; rfl), bup hB hB1⟩
          case measure => simp [intOf]; omega
        · go_wp2_with fail
          refine HQ.out.mono ?_
          rintro e w1 ⟨rfl, hB1⟩
          go_wp2
          go_ret
          exact ⟨k, rfl, .inr ⟨k, rfl, hlt, Lib.hid (HTRUE.out trivial)⟩, bup hB hB1⟩
      · have h9 := hall.out
        rw [List.take_of_length_le (by omega)] at h9
        have H9 := Lib.hid h9
        clear h9 hall
        go_wp2
        go_ret
        exact ⟨-1, rfl, .inl ⟨rfl, H9⟩, hB⟩
end Go.Proofs.YtlnaihkombcbcaaGreat
