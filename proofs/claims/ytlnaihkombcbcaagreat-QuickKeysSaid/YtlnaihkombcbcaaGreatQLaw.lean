/-
  winnowinglaw13.QuickKeys, walked.
-/
import Derived.Test.YtlnaihkombcbcaaGreatQTop
namespace Go.Proofs.YtlnaihkombcbcaaGreat
open Go.RowKit Go.Ev Go.ChangeMaps
theorem Tryz.infoCx : (Tryz.prog.info? 90).map (fun i => (i.zero, i.size, i.bytes)) = some (some (.agg #[.slice none 0 0, .string ByteArray.empty]), 2, 40) := by kernel_rfl
theorem SrcOf.below {w w' : World} {y : Value} {m size : Nat} {news : List Value} (h : SrcOf w y m size news) (hb : Below w.heap.size w w') : SrcOf w' y m size news := by
  rcases h with h | ⟨ad, c, h1, h2, h3, h4⟩
  · exact .inl h
  · exact .inr ⟨ad, c, h1, h2, fun j u hj => cell_up (h3 j u hj) hb, h4⟩
set_option maxRecDepth 100000 in
set_option maxHeartbeats 8000000 in
theorem quickKeys_any (a b : List Cx) (va vb : Value) (w : World) (ha : At w (.sl a.length 2 (a.flatMap encC)) va) (hb : At w (.sl b.length 2 (b.flatMap encC)) vb)
    (ga : ∀ c ∈ a, c.parts.length ≤ 140737488351232) (gb : ∀ c ∈ b, c.parts.length ≤ 140737488351232) (fa : va = .slice none 0 0 ∨ ∃ a n c, va = .slice (some a) n c) (fb : vb = .slice none 0 0 ∨ ∃ a n c, vb = .slice (some a) n c) :
    Calls Tryz.prog 13 #[va, vb] w fun e w' => e = .returned (.bool true) ∧ Below w.heap.size w w' := by
  obtain ⟨i0, hi, hz0, hz1, hz2⟩ := info_parts Tryz.infoCx
  obtain ⟨pa, ca, rfl, -⟩ := At.sl_form ha
  obtain ⟨pb, cb, rfl, -⟩ := At.sl_form hb
  have FX := Lib.hid fixed13_any
  have SA := Lib.hid fun w' (h : Below w.heap.size w w') => small4_any a _ 40 w' (ha.below h) ga (by decide) (by decide)
  have SB := Lib.hid fun w' (h : Below w.heap.size w w') => small4_any b _ 40 w' (hb.below h) gb (by decide) (by decide)
  obtain ⟨na, hna, hsa⟩ := src_of ha fa
  obtain ⟨nb, hnb, hsb⟩ := src_of hb fb
  have HA := Lib.hid ha
  have HB := Lib.hid hb
  have HSA := Lib.hid (And.intro hna hsa)
  have HSB := Lib.hid (And.intro hnb hsb)
  clear ga gb ha hb fa fb hna hsa hnb hsb
  go_enter Tryz.func13, Tryz.ntmps13
  go_wp2_with fail
  refine (FX.out _).mono ?_
  rintro e w1 ⟨rfl, hB1⟩
  go_wp2_with fail
  refine (SA.out _ hB1).mono ?_
  rintro e w2 ⟨q1, rfl, hq1, hB2⟩
  have hC2 := bup hB1 hB2
  cases q1
  · go_wp2_with fail
    refine (FX.out _).mono ?_
    rintro e w3 ⟨rfl, hB3⟩
    go_wp2
    go_ret
    exact ⟨rfl, bup hC2 hB3⟩
  · go_wp2_with fail
    refine (SB.out _ hC2).mono ?_
    rintro e w3 ⟨q2, rfl, hq2, hB3⟩
    have hC3 := bup hC2 hB3
    cases q2
    · go_wp2_with fail
      refine (FX.out _).mono ?_
      rintro e w4 ⟨rfl, hB4⟩
      go_wp2
      go_ret
      exact ⟨rfl, bup hC3 hB4⟩
    · obtain ⟨ta1, ta2⟩ := hq1.out trivial
      obtain ⟨tb1, tb2⟩ := hq2.out rfl
      obtain ⟨la, la40, ba⟩ := wt_bounds ta1 ta2
      obtain ⟨lb, lb40, bb⟩ := wt_bounds tb1 tb2
      have NA := Lib.hid fun w' (h : Below w.heap.size w w') => new_any a _ w' (HA.out.below h) la ba
      have NB := Lib.hid fun w' (h : Below w.heap.size w w') => new_any b _ w' (HB.out.below h) lb bb
      have bab : ∀ c ∈ a ++ b, c.parts.length ≤ 1000 ∧ ∀ p ∈ c.parts, p.l.length ≤ 1000 ∧ shortS p.l := fun c hc => (List.mem_append.1 hc).elim (ba c) (bb c)
      have NAB := Lib.hid fun v w' (h : At w' (.sl (a ++ b).length 2 ((a ++ b).flatMap encC)) v) => new_any (a ++ b) v w' h (by rw [List.length_append]; omega) bab
      have hall := cnt_all a
      have p3 := cnt_app (isK 3) a b
      have p4 := cnt_app (isK 4) a b
      have p2 := cnt_app (isK 2) a b
      have pr := cnt_app isRest a b
      have q3 := cnt_le (isK 3) b
      have q4 := cnt_le (isK 4) b
      have q2 := cnt_le (isK 2) b
      have qr := cnt_le isRest b
      have KA := Lib.hid fun (W : World) (B clk : Nat) (es : Array MapEntry) (h : Grp W B es clk a) hc => keys_grp h hc la
      have KB := Lib.hid fun (W : World) (B clk : Nat) (es : Array MapEntry) (h : Grp W B es clk b) hc => keys_grp h hc lb
      have KAB := Lib.hid fun (W : World) (B clk : Nat) (es : Array MapEntry) (h : Grp W B es clk (a ++ b)) hc => keys_grp h hc (by rw [List.length_append]; omega)
      rw [p3, p4, p2, pr] at KAB
      simp only [Int.natCast_add] at KAB
      clear hq1 hq2 ta1 ta2 tb1 tb2 ba bb bab p3 p4 p2 pr
      generalize cnt (isK 3) a = a3 at *
      generalize cnt (isK 4) a = a4 at *
      generalize cnt (isK 2) a = a2 at *
      generalize cnt isRest a = ar at *
      generalize cnt (isK 3) b = b3 at *
      generalize cnt (isK 4) b = b4 at *
      generalize cnt (isK 2) b = b2 at *
      generalize cnt isRest b = br at *
      go_wp2_with fail
      refine (NA.out _ hC3).mono ?_
      rintro e w4 ⟨es4, clk4, rfl, hG4, hx4, hB4⟩
      have hC4 := bup hC3 hB4
      go_wp2_with fail
      refine (KA.out _ _ _ _ hG4 hx4).mono ?_
      rintro e w5 ⟨rfl, hB5⟩
      have hC5 := bup hC4 hB5
      go_wp2_with fail
      refine (NB.out _ hC5).mono ?_
      rintro e w6 ⟨es6, clk6, rfl, hG6, hx6, hB6⟩
      have hC6 := bup hC5 hB6
      go_wp2_with fail
      refine (KB.out _ _ _ _ hG6 hx6).mono ?_
      rintro e w7 ⟨rfl, hB7⟩
      have hC7 := bup hC6 hB7
      have hsz7 := hC7.size
      have hsa := HSA.out.2.below (hC7.alloc hsz7 (.cells #[] 90))
      have hO := World.ownsRow_lit (base := w.heap.size) (e := 90) (size := 2) w7 #[] 0 hsz7 (by decide) rfl
      go_wp2_with (at_builtin; refine wpList_append_src rfl _ _ 50 rfl w.heap.size 90 i0 _ 2 40 Tryz.underlying50 hi hz0 hz1 hz2 rfl (by decide) (.slice (some ⟨w7.heap.size, 0, none⟩) 0 0) 0 _ rfl hO _ a.length na rfl hsa (by unfold maxLen; omega) (by omega) (by simp; omega) ?_)
      intro v8 w8 hown8 hgrow8
      have hC8 : Below w.heap.size w w8 := (hC7.alloc hsz7 _).grown hgrow8 (by simp; omega) (fun g e => by cases e; exact hsz7)
      have hsz8 := hC8.size
      have hsb := HSB.out.2.below hC8
      go_wp2_with (at_builtin; refine wpList_append_src rfl _ _ 50 rfl w.heap.size 90 i0 _ 2 40 Tryz.underlying50 hi hz0 hz1 hz2 rfl (by decide) v8 a.length na rfl hown8 _ b.length nb rfl hsb (by unfold maxLen; omega) (by omega) hsz8 ?_)
      intro v9 w9 hown9 hgrow9
      have hC9 : Below w.heap.size w w9 := hC8.grown hgrow9 hsz8 (fun g e => (hown8.lt g e).1)
      have hat : At w9 (.sl (a ++ b).length 2 ((a ++ b).flatMap encC)) v9 := at_of_owns (by rw [List.length_append]; exact hown9) (by rw [List.flatMap_append]; exact (HSA.out.1.below hC9).append (HSB.out.1.below hC9))
      obtain ⟨a9, c9, rfl⟩ := owns_slice hown9
      go_wp2_with fail
      refine (NAB.out _ _ hat).mono ?_
      rintro e w10 ⟨es10, clk10, rfl, hG10, hx10, hB10⟩
      have hC10 := bup hC9 hB10
      go_wp2_with fail
      refine (KAB.out _ _ _ _ hG10 hx10).mono ?_
      rintro e w11 ⟨rfl, hB11⟩
      have hC11 := bup hC10 hB11
      have e1 : ((a3 : Int) + a4 + a2 + ar == (a.length : Int)) = true := by rw [beq_iff_eq]; omega
      go_wp2
      go_ret
      exact ⟨rfl, hC11⟩
end Go.Proofs.YtlnaihkombcbcaaGreat
