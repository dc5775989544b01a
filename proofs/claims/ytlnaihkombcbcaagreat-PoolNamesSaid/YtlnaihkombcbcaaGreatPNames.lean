/-
  winnowinglaw18.PoolNames, walked.
-/
import Derived.Test.YtlnaihkombcbcaaGreatPStrs
import Derived.Test.YtlnaihkombcbcaaGreatPTrim
import Derived.Test.YtlnaihkombcbcaaGreatPFixed
namespace Go.Proofs.YtlnaihkombcbcaaGreat
open Go.RowKit Go.Ev Go.Sort
theorem at_block {w : World} {l : List Vl} {v : Value} (h : At w (.sl l.length 5 (l.flatMap encV)) v) :
    At (w.alloc (.cells #[.int .i64 4, .int .i64 0, .string ⟨#[]⟩, .int .i64 0, v] 67)) (.sl 1 5 ([Vl.mk 4 0 ByteArray.empty 0 l].flatMap encV)) (.slice (some ⟨w.heap.size, 0, none⟩) 1 1) := by
  have hO := World.ownsRow_lit (base := w.heap.size) (e := 67) (size := 5) w #[.int .i64 4, .int .i64 0, .string ⟨#[]⟩, .int .i64 0, v] 1 (Nat.le_refl _) (by decide) rfl
  refine at_of_owns (l := [Vl.mk 4 0 ByteArray.empty 0 l]) hO ?_
  rw [List.flatMap_cons, List.flatMap_nil, List.append_nil, encV, encVs_flat]
  exact VRs.cons_mk rfl (VRs.cons_mk rfl (VRs.cons_mk rfl (VRs.cons_mk rfl (VRs.cons_mk (h.below (below_alloc _ _)) (by rw [VRs])))))
set_option maxRecDepth 100000 in
set_option maxHeartbeats 8000000 in
theorem poolNames_any (a b : List Vl) (va vb : Value) (w : World) (ha : At w (.sl a.length 5 (a.flatMap encV)) va) (hb : At w (.sl b.length 5 (b.flatMap encV)) vb)
    (fa : va = .slice none 0 0 ∨ ∃ a n c, va = .slice (some a) n c) (fb : vb = .slice none 0 0 ∨ ∃ a n c, vb = .slice (some a) n c) :
    Calls Tryz.prog 9 #[va, vb] w fun e w' => e = .returned (.bool true) ∧ Below w.heap.size w w' := by
  obtain ⟨i0, hi, hz0, hz1, hz2⟩ := info_parts Tryz.infoVal
  obtain ⟨pa, ca, rfl, -⟩ := At.sl_form ha
  obtain ⟨pb, cb, rfl, -⟩ := At.sl_form hb
  have FX := Lib.hid fixed18_any
  have SA := Lib.hid fun w' (h : Below w.heap.size w w') => small2_any a _ 99 w' (ha.below h) (by decide) (by decide)
  have SB := Lib.hid fun w' (h : Below w.heap.size w w') => small2_any b _ 99 w' (hb.below h) (by decide) (by decide)
  obtain ⟨na, hna, hsa⟩ := src_of ha fa
  obtain ⟨nb, hnb, hsb⟩ := src_of hb fb
  have HA := Lib.hid ha
  have HB := Lib.hid hb
  have HSA := Lib.hid (And.intro hna hsa)
  have HSB := Lib.hid (And.intro hnb hsb)
  clear ha hb fa fb hna hsa hnb hsb
  go_enter Tryz.func9, Tryz.ntmps9
  go_wp2_with fail
  refine (FX.out _).mono ?_
  rintro e w1 ⟨rfl, hB1⟩
  go_wp2_with fail
  refine (SA.out _ hB1).mono ?_
  rintro e w2 ⟨q1, rfl, hq1, hB2⟩
  have hC2 := bup hB1 hB2
  cases q1
  · go_wp2_with fail
    refine (FX.out _).mono ?_
    rintro e w3 ⟨rfl, hB3⟩
    go_wp2
    go_ret
    exact ⟨rfl, bup hC2 hB3⟩
  · go_wp2_with fail
    refine (SB.out _ hC2).mono ?_
    rintro e w3 ⟨q2, rfl, hq2, hB3⟩
    have hC3 := bup hC2 hB3
    cases q2
    · go_wp2_with fail
      refine (FX.out _).mono ?_
      rintro e w4 ⟨rfl, hB4⟩
      go_wp2
      go_ret
      exact ⟨rfl, bup hC3 hB4⟩
    · have ca1 : cntVs a ≤ 99 := by have := hq1.out trivial; omega
      have cb1 : cntVs b ≤ 99 := by have := hq2.out rfl; omega
      have la := cntVs_len a
      have lb := cntVs_len b
      have cab : cntVs (a ++ b) ≤ 198 := by rw [cntVs_append]; omega
      have cblk : cntVs [.mk 4 0 ByteArray.empty 0 (a ++ b)] ≤ 199 := by simp only [cntVs, cntV]; omega
      have IA := Lib.hid fun w' (h : Below w.heap.size w w') => idents_any _ a w' (by omega) (HA.out.below h)
      have IB := Lib.hid fun w' (h : Below w.heap.size w w') => idents_any _ b w' (by omega) (HB.out.below h)
      have TA := Lib.hid fun w' (h : Below w.heap.size w w') => strings_any _ a w' (by omega) (HA.out.below h)
      have IAB := Lib.hid fun v w' (h : At w' (.sl (a ++ b).length 5 ((a ++ b).flatMap encV)) v) => idents_any v (a ++ b) w' (by omega) h
      have TAB := Lib.hid fun v w' (h : At w' (.sl (a ++ b).length 5 ((a ++ b).flatMap encV)) v) => strings_any v (a ++ b) w' (by omega) h
      have IK := Lib.hid fun v w' (h : At w' (.sl 1 5 ([.mk 4 0 ByteArray.empty 0 (a ++ b)].flatMap encV)) v) => idents_any v [.mk 4 0 ByteArray.empty 0 (a ++ b)] w' (by omega) h
      have TK := Lib.hid fun v w' (h : At w' (.sl 1 5 ([.mk 4 0 ByteArray.empty 0 (a ++ b)].flatMap encV)) v) => strings_any v [.mk 4 0 ByteArray.empty 0 (a ++ b)] w' (by omega) h
      rw [ofM_block] at IK TK
      have l1 := ofM_le 1 (a ++ b)
      have l2 := ofM_le 6 (a ++ b)
      have l3 := ofM_le 1 a
      have l4 := ofM_le 1 b
      have l5 := ofM_le 6 a
      have l6 := ofM_len 1 a b
      have r1 := Lib.hid (ofM_rises 1 (a ++ b))
      have r2 := Lib.hid (ofM_rises 6 (a ++ b))
      have i1 := Lib.hid (ofM_left 1 a b)
      have i2 := Lib.hid (ofM_right 1 a b)
      have i3 := Lib.hid (ofM_left 6 a b)
      clear hq1 hq2
      generalize ofM 1 (a ++ b) = x1 at *
      generalize ofM 6 (a ++ b) = y1 at *
      generalize ofM 1 a = x2 at *
      generalize ofM 1 b = x3 at *
      generalize ofM 6 a = y2 at *
      have hsz3 := hC3.size
      have hsa := HSA.out.2.below (hC3.alloc hsz3 (.cells #[] 67))
      have hO := World.ownsRow_lit (base := w.heap.size) (e := 67) (size := 5) w3 #[] 0 hsz3 (by decide) rfl
      go_wp2_with (at_builtin; refine wpList_append_src rfl _ _ 27 rfl w.heap.size 67 i0 _ 5 64 Tryz.underlying27 hi hz0 hz1 hz2 rfl (by decide) (.slice (some ⟨w3.heap.size, 0, none⟩) 0 0) 0 _ rfl hO _ a.length na rfl hsa (by unfold maxLen; omega) (by omega) (by simp; omega) ?_)
      intro v4 w4 hown4 hgrow4
      have hC4 : Below w.heap.size w w4 := (hC3.alloc hsz3 _).grown hgrow4 (by simp; omega) (fun g e => by cases e; exact hsz3)
      have hsz4 := hC4.size
      have hsb := HSB.out.2.below hC4
      go_wp2_with (at_builtin; refine wpList_append_src rfl _ _ 27 rfl w.heap.size 67 i0 _ 5 64 Tryz.underlying27 hi hz0 hz1 hz2 rfl (by decide) v4 a.length na rfl hown4 _ b.length nb rfl hsb (by unfold maxLen; omega) (by omega) hsz4 ?_)
      intro v5 w5 hown5 hgrow5
      have hC5 : Below w.heap.size w w5 := hC4.grown hgrow5 hsz4 (fun g e => (hown4.lt g e).1)
      have hat5 : At w5 (.sl (a ++ b).length 5 ((a ++ b).flatMap encV)) v5 := at_of_owns (by rw [List.length_append]; exact hown5) (by rw [List.flatMap_append]; exact (HSA.out.1.below hC5).append (HSB.out.1.below hC5))
      obtain ⟨a5, c5, rfl⟩ := owns_slice hown5
      have HAT5 := Lib.hid hat5
      clear hat5 hown5 hown4 hgrow4 hgrow5 hO hsa hsb
      have hC6 : Below w.heap.size w (w5.alloc (.cells #[.int .i64 4, .int .i64 0, .string ⟨#[]⟩, .int .i64 0, .slice a5 (a.length + b.length) c5] 67)) := hC5.alloc hC5.size _
      have HAT6 := Lib.hid (HAT5.out.below (below_alloc w5 (.cells #[.int .i64 4, .int .i64 0, .string ⟨#[]⟩, .int .i64 0, .slice a5 (a.length + b.length) c5] 67)))
      have HBK6 := Lib.hid (at_block HAT5.out)
      go_wp2_with fail
      refine (IAB.out _ _ HAT6.out).mono ?_
      rintro e w7 ⟨vx, rfl, hox, hB7⟩
      obtain ⟨ax, cx, rfl⟩ := owns_slice hox
      have hC7 := bup hC6 hB7
      have Sx7 := Lib.hid (sat_owns hox)
      clear hox
      have HAT7 := Lib.hid (HAT6.out.below hB7)
      have HBK7 := Lib.hid (HBK6.out.below hB7)
      go_wp2_with fail
      refine (TAB.out _ _ HAT7.out).mono ?_
      rintro e w8 ⟨vy, rfl, hoy, hB8⟩
      obtain ⟨ay, cy, rfl⟩ := owns_slice hoy
      have hC8 := bup hC7 hB8
      have Sy8 := Lib.hid (sat_owns hoy)
      clear hoy
      have Sx8 := Lib.hid (Sx7.out.below hB8)
      have HAT8 := Lib.hid (HAT7.out.below hB8)
      have HBK8 := Lib.hid (HBK7.out.below hB8)
      go_wp2_with fail
      refine (rises_any _ x1 _ Sx8.out r1.out (by omega)).mono ?_
      rintro e w9 ⟨rfl, hB9⟩
      have hC9 := bup hC8 hB9
      have Sx9 := Lib.hid (Sx8.out.below hB9)
      have Sy9 := Lib.hid (Sy8.out.below hB9)
      have HAT9 := Lib.hid (HAT8.out.below hB9)
      have HBK9 := Lib.hid (HBK8.out.below hB9)
      go_wp2_with fail
      refine (rises_any _ y1 _ Sy9.out r2.out (by omega)).mono ?_
      rintro e w10 ⟨rfl, hB10⟩
      have hC10 := bup hC9 hB10
      have Sx10 := Lib.hid (Sx9.out.below hB10)
      have Sy10 := Lib.hid (Sy9.out.below hB10)
      have HAT10 := Lib.hid (HAT9.out.below hB10)
      have HBK10 := Lib.hid (HBK9.out.below hB10)
      go_wp2_with fail
      refine (IA.out _ hC10).mono ?_
      rintro e w11 ⟨vp, rfl, hop, hB11⟩
      obtain ⟨ap, cp, rfl⟩ := owns_slice hop
      have hC11 := bup hC10 hB11
      have Sp11 := Lib.hid (sat_owns hop)
      clear hop
      have Sx11 := Lib.hid (Sx10.out.below hB11)
      have Sy11 := Lib.hid (Sy10.out.below hB11)
      have HAT11 := Lib.hid (HAT10.out.below hB11)
      have HBK11 := Lib.hid (HBK10.out.below hB11)
      go_wp2_with fail
      refine (within_any _ _ x2 x1 _ Sp11.out Sx11.out i1.out (by omega) (by omega)).mono ?_
      rintro e w12 ⟨rfl, hB12⟩
      have hC12 := bup hC11 hB12
      have Sx12 := Lib.hid (Sx11.out.below hB12)
      have Sy12 := Lib.hid (Sy11.out.below hB12)
      have Sp12 := Lib.hid (Sp11.out.below hB12)
      have HAT12 := Lib.hid (HAT11.out.below hB12)
      have HBK12 := Lib.hid (HBK11.out.below hB12)
      go_wp2_with fail
      refine (IB.out _ hC12).mono ?_
      rintro e w13 ⟨vq, rfl, hoq, hB13⟩
      obtain ⟨aq, cq, rfl⟩ := owns_slice hoq
      have hC13 := bup hC12 hB13
      have Sq13 := Lib.hid (sat_owns hoq)
      clear hoq
      have Sx13 := Lib.hid (Sx12.out.below hB13)
      have Sy13 := Lib.hid (Sy12.out.below hB13)
      have Sp13 := Lib.hid (Sp12.out.below hB13)
      have HAT13 := Lib.hid (HAT12.out.below hB13)
      have HBK13 := Lib.hid (HBK12.out.below hB13)
      go_wp2_with fail
      refine (within_any _ _ x3 x1 _ Sq13.out Sx13.out i2.out (by omega) (by omega)).mono ?_
      rintro e w14 ⟨rfl, hB14⟩
      have hC14 := bup hC13 hB14
      have Sx14 := Lib.hid (Sx13.out.below hB14)
      have Sy14 := Lib.hid (Sy13.out.below hB14)
      have Sp14 := Lib.hid (Sp13.out.below hB14)
      have Sq14 := Lib.hid (Sq13.out.below hB14)
      have HAT14 := Lib.hid (HAT13.out.below hB14)
      have HBK14 := Lib.hid (HBK13.out.below hB14)
      go_wp2_with fail
      refine (IA.out _ hC14).mono ?_
      rintro e w15 ⟨vla, rfl, hola, hB15⟩
      obtain ⟨ala, cla, rfl⟩ := owns_slice hola
      have hC15 := bup hC14 hB15
      have Sla15 := Lib.hid (sat_owns hola)
      clear hola
      have Sx15 := Lib.hid (Sx14.out.below hB15)
      have Sy15 := Lib.hid (Sy14.out.below hB15)
      have Sp15 := Lib.hid (Sp14.out.below hB15)
      have Sq15 := Lib.hid (Sq14.out.below hB15)
      have HAT15 := Lib.hid (HAT14.out.below hB15)
      have HBK15 := Lib.hid (HBK14.out.below hB15)
      go_wp2_with fail
      refine (IB.out _ hC15).mono ?_
      rintro e w16 ⟨vlb, rfl, holb, hB16⟩
      obtain ⟨alb, clb, rfl⟩ := owns_slice holb
      have hC16 := bup hC15 hB16
      have Slb16 := Lib.hid (sat_owns holb)
      clear holb
      have Sx16 := Lib.hid (Sx15.out.below hB16)
      have Sy16 := Lib.hid (Sy15.out.below hB16)
      have Sp16 := Lib.hid (Sp15.out.below hB16)
      have Sq16 := Lib.hid (Sq15.out.below hB16)
      have Sla16 := Lib.hid (Sla15.out.below hB16)
      have HAT16 := Lib.hid (HAT15.out.below hB16)
      have HBK16 := Lib.hid (HBK15.out.below hB16)
      go_wp2_with fail
      refine (IK.out _ _ HBK16.out).mono ?_
      rintro e w17 ⟨vbx, rfl, hobx, hB17⟩
      obtain ⟨abx, cbx, rfl⟩ := owns_slice hobx
      have hC17 := bup hC16 hB17
      have Sbx17 := Lib.hid (sat_owns hobx)
      clear hobx
      have Sx17 := Lib.hid (Sx16.out.below hB17)
      have Sy17 := Lib.hid (Sy16.out.below hB17)
      have Sp17 := Lib.hid (Sp16.out.below hB17)
      have Sq17 := Lib.hid (Sq16.out.below hB17)
      have Sla17 := Lib.hid (Sla16.out.below hB17)
      have Slb17 := Lib.hid (Slb16.out.below hB17)
      have HAT17 := Lib.hid (HAT16.out.below hB17)
      have HBK17 := Lib.hid (HBK16.out.below hB17)
      go_wp2_with fail
      refine (texts_any _ _ x1 x1 _ Sbx17.out Sx17.out (by omega) (by omega)).mono ?_
      rintro e w18 ⟨rfl, hB18⟩
      have hC18 := bup hC17 hB18
      rw [beq_self_eq_true]
      have Sx18 := Lib.hid (Sx17.out.below hB18)
      have Sy18 := Lib.hid (Sy17.out.below hB18)
      have Sp18 := Lib.hid (Sp17.out.below hB18)
      have Sq18 := Lib.hid (Sq17.out.below hB18)
      have Sla18 := Lib.hid (Sla17.out.below hB18)
      have Slb18 := Lib.hid (Slb17.out.below hB18)
      have Sbx18 := Lib.hid (Sbx17.out.below hB18)
      have HAT18 := Lib.hid (HAT17.out.below hB18)
      have HBK18 := Lib.hid (HBK17.out.below hB18)
      go_wp2_with fail
      refine (TK.out _ _ HBK18.out).mono ?_
      rintro e w19 ⟨vby, rfl, hoby, hB19⟩
      obtain ⟨aby, cby, rfl⟩ := owns_slice hoby
      have hC19 := bup hC18 hB19
      have Sby19 := Lib.hid (sat_owns hoby)
      clear hoby
      have Sx19 := Lib.hid (Sx18.out.below hB19)
      have Sy19 := Lib.hid (Sy18.out.below hB19)
      have Sp19 := Lib.hid (Sp18.out.below hB19)
      have Sq19 := Lib.hid (Sq18.out.below hB19)
      have Sla19 := Lib.hid (Sla18.out.below hB19)
      have Slb19 := Lib.hid (Slb18.out.below hB19)
      have Sbx19 := Lib.hid (Sbx18.out.below hB19)
      have HAT19 := Lib.hid (HAT18.out.below hB19)
      have HBK19 := Lib.hid (HBK18.out.below hB19)
      go_wp2_with fail
      refine (texts_any _ _ y1 y1 _ Sby19.out Sy19.out (by omega) (by omega)).mono ?_
      rintro e w20 ⟨rfl, hB20⟩
      have hC20 := bup hC19 hB20
      rw [beq_self_eq_true]
      have Sx20 := Lib.hid (Sx19.out.below hB20)
      have Sy20 := Lib.hid (Sy19.out.below hB20)
      have Sp20 := Lib.hid (Sp19.out.below hB20)
      have Sq20 := Lib.hid (Sq19.out.below hB20)
      have Sla20 := Lib.hid (Sla19.out.below hB20)
      have Slb20 := Lib.hid (Slb19.out.below hB20)
      have Sbx20 := Lib.hid (Sbx19.out.below hB20)
      have Sby20 := Lib.hid (Sby19.out.below hB20)
      have HAT20 := Lib.hid (HAT19.out.below hB20)
      have HBK20 := Lib.hid (HBK19.out.below hB20)
      go_wp2_with fail
      refine (TA.out _ hC20).mono ?_
      rintro e w21 ⟨vr, rfl, hor, hB21⟩
      obtain ⟨ar, cr, rfl⟩ := owns_slice hor
      have hC21 := bup hC20 hB21
      have Sr21 := Lib.hid (sat_owns hor)
      clear hor
      have Sx21 := Lib.hid (Sx20.out.below hB21)
      have Sy21 := Lib.hid (Sy20.out.below hB21)
      have Sp21 := Lib.hid (Sp20.out.below hB21)
      have Sq21 := Lib.hid (Sq20.out.below hB21)
      have Sla21 := Lib.hid (Sla20.out.below hB21)
      have Slb21 := Lib.hid (Slb20.out.below hB21)
      have Sbx21 := Lib.hid (Sbx20.out.below hB21)
      have Sby21 := Lib.hid (Sby20.out.below hB21)
      have HAT21 := Lib.hid (HAT20.out.below hB21)
      have HBK21 := Lib.hid (HBK20.out.below hB21)
      go_wp2_with fail
      refine (within_any _ _ y2 y1 _ Sr21.out Sy21.out i3.out (by omega) (by omega)).mono ?_
      rintro e w22 ⟨rfl, hB22⟩
      have hC22 := bup hC21 hB22
      have Sx22 := Lib.hid (Sx21.out.below hB22)
      have Sy22 := Lib.hid (Sy21.out.below hB22)
      have Sp22 := Lib.hid (Sp21.out.below hB22)
      have Sq22 := Lib.hid (Sq21.out.below hB22)
      have Sla22 := Lib.hid (Sla21.out.below hB22)
      have Slb22 := Lib.hid (Slb21.out.below hB22)
      have Sbx22 := Lib.hid (Sbx21.out.below hB22)
      have Sby22 := Lib.hid (Sby21.out.below hB22)
      have Sr22 := Lib.hid (Sr21.out.below hB22)
      have HAT22 := Lib.hid (HAT21.out.below hB22)
      have HBK22 := Lib.hid (HBK21.out.below hB22)
      go_wp2
      go_ret
      exact ⟨rfl, hC22⟩
end Go.Proofs.YtlnaihkombcbcaaGreat
