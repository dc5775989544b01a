/- pool.Drop, walked. -/
import Derived.Test.YtlnaihkombcbcaaGreatLd6
import Derived.RegionTactic
import Derived.ChangeAlike
import Derived.BigRegion
import Derived.Maps.AppendAt
noncomputable section
namespace Go.Proofs.YtlnaihkombcbcaaGreat
open Go.RowKit Go.Sort Go.Ev
def GPost (z Bu Bg : Nat) (t : S3) (g : Bool) (w : World) (e : Ending) (w' : World) : Prop := e = .returned (.bool true) ∧ StG z Bu Bg t g w' ∧ KO (OwG Bu Bg) z w w'
def cloV (Bu Bg : Nat) : Value := .func (.func 87) #[] #[.pointer (some ⟨Bu, 0, none⟩), .pointer (some ⟨Bg, 0, none⟩)]
theorem gO_cell {W : World} {Bg : Nat} {g : Bool} (h : W.heap[Bg]? = some (gO g)) : W.cell? ⟨Bg, 0, none⟩ = some (.bool g) ∧ W.frozen? ⟨Bg, 0, none⟩ = false := by
 refine ⟨by rw [Lib.cell_of_heap h]; rfl, Lib.frozen_of_heap h 0⟩
theorem cntIs_at {l : List Itm} {k : Nat} (hk : k < l.length) : cntIs l[k].l < cntIs l := by
 have h := cntIs_snoc hk
 have h2 := cntIs_append (l.take (k + 1)) (l.drop (k + 1))
 rw [List.take_append_drop] at h2
 omega
section
variable {z Bu Bg : Nat} {G : S3 → Prop} {s : S3} {g : Bool} {a1 a2 a3 a6 a7 : Option Addr} {n1 c1 c2 c3 c6 n7 c7 : Nat} {w : World}
set_option maxRecDepth 100000 in
set_option maxHeartbeats 4000000 in
theorem clo_any (hG : ∀ s, G s → Sz s) (x : Itm) (hst : StG z Bu Bg s g w) (hz : z ≤ w.heap.size) (hx : ItOk G x) (hs : G s)
 (h2 : AtB z w (.sl x.decls.length 3 (x.decls.flatMap encD)) (.slice a2 x.decls.length c2)) (h3 : AtB z w (.sl x.names.length 1 (x.names.flatMap encN)) (.slice a3 x.names.length c3)) (h6 : AtB z w (.sl x.vals.length 5 (x.vals.flatMap encV)) (.slice a6 x.vals.length c6)) :
 Calls Tryz.prog 87 #[itV x.kind a1 n1 c1 a2 x.decls.length c2 a3 x.names.length c3 x.mn x.mx a6 x.vals.length c6 a7 n7 c7, .pointer (some ⟨Bu, 0, none⟩), .pointer (some ⟨Bg, 0, none⟩)] w
  (GPost z Bu Bg (itemM s x) (grewB s (itemM s x) || g) w) := by
 have hb := below_alloc w (itmO x.kind a1 n1 c1 a2 x.decls.length c2 a3 x.names.length c3 x.mn x.mx a6 x.vals.length c6 a7 n7 c7)
 have S1 := hst.below hb
 have K1 := hst.ko hb hz
 have HI := Lib.hid (item_any (a1 := a1) (n1 := n1) (c1 := c1) (a7 := a7) (n7 := n7) (c7 := c7) hG x S1.u (Nat.le_trans hz hb.size) hx hs (h2.below (hb.mono hz)) (h3.below (hb.mono hz)) (h6.below (hb.mono hz)))
 have HX := Lib.hid (itmO_cells (World.alloc_heap_new w (itmO x.kind a1 n1 c1 a2 x.decls.length c2 a3 x.names.length c3 x.mn x.mx a6 x.vals.length c6 a7 n7 c7)))
 have HS := Lib.hid (And.intro S1 K1)
 clear hst hz hx hs h2 h3 h6 hb S1 K1 hG
 generalize itemM s x = t at *
 generalize x.names.length = n3 at *
 generalize x.vals.length = n6 at *
 generalize x.decls.length = n2 at *
 generalize x.mn = mn at *
 generalize x.mx = mx at *
 generalize x.kind = kd at *
 unfold itmO at HX HI HS
 unfold itV at HI ⊢
 obtain ⟨x0, x1, x2, x3, x4, x5, x6, x7⟩ := HX.out
 generalize hq : grewB s t = q at *
 have HQ := Lib.hid hq
 clear hq HX
 cases q
 ·go_enter Tryz.func87, Tryz.ntmps87
  go_wp2_with fail
  refine HI.out.mono ?_
  rintro e w2 ⟨rfl, hu2, hk2⟩
  rw [HQ.out]
  obtain ⟨S2, K2⟩ := HS.out.1.turn hu2 hk2
  obtain ⟨g1, g2⟩ := gO_cell S2.g
  obtain ⟨S3, K3⟩ := S2.put g
  have HE := Lib.hid (And.intro S3 ((HS.out.2.trans K2).trans K3))
  clear x0 x1 x2 x3 x4 x5 x6 x7 S2 K2 S3 K3 hu2 hk2
  go_wp2
  go_ret
  exact ⟨rfl, HE.out.1, HE.out.2⟩
 ·go_enter Tryz.func87, Tryz.ntmps87
  go_wp2_with fail
  refine HI.out.mono ?_
  rintro e w2 ⟨rfl, hu2, hk2⟩
  rw [HQ.out]
  obtain ⟨S2, K2⟩ := HS.out.1.turn hu2 hk2
  obtain ⟨g1, g2⟩ := gO_cell S2.g
  obtain ⟨S3, K3⟩ := S2.put true
  have HE := Lib.hid (And.intro S3 ((HS.out.2.trans K2).trans K3))
  clear x0 x1 x2 x3 x4 x5 x6 x7 S2 K2 S3 K3 hu2 hk2
  go_wp2
  go_ret
  exact ⟨rfl, HE.out.1, HE.out.2⟩
set_option maxRecDepth 100000 in
set_option maxHeartbeats 8000000 in
theorem inner_any (hG : ∀ s, G s → Sz s) (N : Nat) : ∀ (l : List Itm), SizeOf.sizeOf l ≤ N → cntIs l ≤ 1000000 → (∀ x ∈ flatIs l, ItOk G x) → ∀ (v : Value) (s : S3) (g : Bool) (w : World), RdI Bu Bg z w l v → StG z Bu Bg s g w → z ≤ w.heap.size → G s →
 Calls Tryz.prog 86 #[v, cloV Bu Bg] w (GPost z Bu Bg (passM s l) (grewB s (passM s l) || g) w) := by
 induction N with
 | zero => intro l hl; cases l <;> simp at hl <;> omega
 | succ N ih =>
   intro l hl hcn hit v s g w hv hst hz hs
   have hlen : l.length ≤ 1000000 := Nat.le_trans (cntIs_len l) hcn
   rcases hv with ⟨rfl, ad, cap, rfl⟩ | ⟨b, o, cap, rfl, hcap, hpos, hbs, hno, hc⟩
   ·have HS := Lib.hid (And.intro hst (KO.refl (z := z) fun k hk => (hst.own hk).2))
    have HG := Lib.hid (grewB_self s)
    clear ih hl hit hst hz hs hG
    unfold cloV
    go_enter Tryz.func86, Tryz.ntmps86
    go_wp2
    go_loopw [6, 9] (fun _ i wr => i = .int .i64 0 ∧ wr = w) (fun _ _ _ => 0)
    case atStart => exact ⟨rfl, rfl⟩
    case round =>
     obtain ⟨rfl, rfl⟩ := hrel
     go_wp2
     go_ret
     refine ⟨rfl, ?_, HS.out.2⟩
     rw [pass_nil, HG.out]; exact HS.out.1
   ·have IH := Lib.hid fun k (hk : k < l.length) => ih l[k].l (by have := itm_lt (List.getElem_mem hk); omega) (by have := cntIs_at hk; omega)
    have HIT := Lib.hid fun k (hk : k < l.length) => hit l[k] (flat_self (List.getElem_mem hk)).1
    have HIN := Lib.hid fun k (hk : k < l.length) (h : l[k].kind = 2 ∨ l[k].kind = 3) x (hx : x ∈ flatIs l[k].l) => hit x ((flat_self (List.getElem_mem hk)).2 h x hx)
    have HP := Lib.hid fun k (hk : k < l.length) => pass_snoc hk s
    have HGk := Lib.hid fun k => pass_ok (l := l.take k) (fun x hx => hit x (flat_take x hx)) hs
    have HU := Lib.hid fun k => up_pass s (l.take k)
    have HC := Lib.hid fun (W : World) (h : KO (OwG Bu Bg) z w W) k (hk : k < l.length) => itB_cells (rd_ko hbs hno hc h) hk
    have HS0 := Lib.hid (And.intro hst (KO.refl (z := z) fun k hk => (hst.own hk).2))
    have HZ := Lib.hid hz
    have HB := Lib.hid (And.intro hbs hno)
    have HGG := Lib.hid hG
    have HG0 := Lib.hid (grewB_self s)
    clear ih hl hit hst hz hs hG hc hbs hno hcn
    unfold cloV
    go_enter Tryz.func86, Tryz.ntmps86
    go_wp2
    go_loopw [6, 9] (fun _ i wr => ∃ k : Nat, k ≤ l.length ∧ i = .int .i64 k ∧ Hid (StG z Bu Bg (passM s (l.take k)) (grewB s (passM s (l.take k)) || g) wr ∧ KO (OwG Bu Bg) z w wr)) (fun _ i _ => l.length - (intOf i).toNat)
    case atStart => exact ⟨0, Nat.zero_le _, rfl, Lib.hid (by rw [List.take_zero, pass_nil, HG0.out]; exact HS0.out)⟩
    case round =>
     obtain ⟨k, hk, rfl, hSK⟩ := hrel
     by_cases hlt : k < l.length
     ·obtain ⟨a1, c1, a2, c2, a3, c3, a6, c6, a7, c7, y0, y1, y2, y3, y4, y5, y6, y7, v1, v2, v3, v6, v7⟩ := HC.out wr hSK.out.2 k hlt
      have hxok := HIT.out k hlt
      have hsz := hSK.out.2.below.size
      have hzr : z ≤ wr.heap.size := Nat.le_trans HZ.out hsz
      have hba := below_alloc wr (itmO l[k].kind a1 l[k].sels.length c1 a2 l[k].decls.length c2 a3 l[k].names.length c3 l[k].mn l[k].mx a6 l[k].vals.length c6 a7 l[k].l.length c7)
      have S1 := hSK.out.1.below hba
      have K1 := hSK.out.1.ko hba hzr
      have HCL := Lib.hid (clo_any (a1 := a1) (n1 := l[k].sels.length) (c1 := c1) (a7 := a7) (n7 := l[k].l.length) (c7 := c7) HGG.out l[k] S1 (Nat.le_trans hzr hba.size) hxok (HGk.out k) (v2.below (hba.mono hzr)) (v3.below (hba.mono hzr)) (v6.below (hba.mono hzr)))
      have hX := World.alloc_heap_new wr (itmO l[k].kind a1 l[k].sels.length c1 a2 l[k].decls.length c2 a3 l[k].names.length c3 l[k].mn l[k].mx a6 l[k].vals.length c6 a7 l[k].l.length c7)
      have hXn : ¬ OwG Bu Bg (wr.alloc (itmO l[k].kind a1 l[k].sels.length c1 a2 l[k].decls.length c2 a3 l[k].names.length c3 l[k].mn l[k].mx a6 l[k].vals.length c6 a7 l[k].l.length c7)) wr.heap.size := fun ho => by
       rcases ho with ho | ho
       ·have := hSK.out.1.ltg; omega
       ·have := (hSK.out.1.u.own (OwU_below hSK.out.1.u.lt hba _ ho)).2; omega
      have HXB := Lib.hid fun (W : World) (h : KO (OwG Bu Bg) z (wr.alloc (itmO l[k].kind a1 l[k].sels.length c1 a2 l[k].decls.length c2 a3 l[k].names.length c3 l[k].mn l[k].mx a6 l[k].vals.length c6 a7 l[k].l.length c7)) W) =>
       itmO_cells ((h.same _ (Array.getElem?_eq_some_iff.1 hX).1 hXn).trans hX)
      obtain ⟨x0, x1, x2, x3, x4, x5, x6, x7⟩ := itmO_cells hX
      have HK1 := Lib.hid (hSK.out.2.trans K1)
      have HPk := HP.out k hlt
      have HREC := Lib.hid (IH.out k hlt)
      have HINk := Lib.hid (HIN.out k hlt)
      have hUp1 := up_item (passM s (l.take k)) l[k]
      have hUp2 := fun h : l[k].kind = 2 ∨ l[k].kind = 3 => up_pass (itemM (passM s (l.take k)) l[k]) l[k].l
      have HGI := Lib.hid (item_ok hxok (HGk.out k))
      have hg1 := grew_or (HU.out k) hUp1
      have hg2 := fun h => grew_or ((HU.out k).trans hUp1) (hUp2 h)
      have HG1 := Lib.hid hg1
      have HG2 := Lib.hid hg2
      have V7 := Lib.hid v7
      have HPk' := Lib.hid HPk
      clear hxok v1 v2 v3 v6 v7 S1 K1 hX hXn hUp1 hUp2 hg1 hg2 HPk hba
      unfold itmO at HCL HXB HK1 x0 x1 x2 x3 x4 x5 x6 x7
      unfold itV at HCL
      have y0' := y0
      generalize passM s (l.take k) = sk at *
      generalize hsk1 : passM s (l.take (k + 1)) = sk1 at *
      have HSK1 := Lib.hid hsk1
      clear hsk1
      generalize itemM sk l[k] = ti at *
      generalize l[k].kind = kd at *
      generalize l[k].sels.length = n1 at *
      generalize l[k].decls.length = n2 at *
      generalize l[k].names.length = n3 at *
      generalize l[k].vals.length = n6 at *
      generalize l[k].mn = mn at *
      generalize l[k].mx = mx at *
      generalize l[k].l = ll at *
      by_cases hkk : kd = 2 ∨ kd = 3
      ·have HG2k := Lib.hid (HG2.out hkk)
       have HPk2 : Hid (sk1 = passM ti ll) := Lib.hid (by rw [HPk'.out, if_pos hkk])
       have HIN2 := Lib.hid (HINk.out hkk)
       clear HPk' HG2 HINk
       rcases hkk with rfl | rfl
       all_goals
        go_wp2_with fail
        refine HCL.out.mono ?_
        rintro e w2 ⟨rfl, hS2, hK2⟩
        obtain ⟨x0', -, -, -, -, -, -, x7'⟩ := HXB.out w2 hK2
        have hK02 := HK1.out.trans hK2
        have hz2 : z ≤ w2.heap.size := Nat.le_trans HZ.out hK02.below.size
        have HR := Lib.hid (HREC.out HIN2.out _ ti _ w2 (rd_of hS2 hz2 ((V7.out.below (below_alloc wr _ |>.mono hzr)).below hK2.below)) hS2 hz2 HGI.out)
        have HK02 := Lib.hid hK02
        clear x0 x1 x2 x3 x4 x5 x6 x7 y0 y1 y2 y3 y4 y5 y6 y7 hS2 hK2 hK02 HXB HCL
        unfold cloV at HR
        go_wp2_with fail
        refine HR.out.mono ?_
        rintro e w3 ⟨rfl, hS3, hK3⟩
        have HE : Hid (StG z Bu Bg sk1 (grewB s sk1 || g) w3 ∧ KO (OwG Bu Bg) z w w3) := Lib.hid ⟨by
         rw [HPk2.out, HG2k.out, HG1.out, Bool.or_assoc, Bool.or_assoc]
         exact hS3, HK02.out.trans hK3⟩
        clear hS3 hK3 x0' x7' HR HK02
        go_wp2
        go_roundw
        case rel => exact ⟨k + 1, by omega, by go_num, by rw [HSK1.out]; exact HE⟩
        case measure => simp [intOf]; omega
      ·have HPk2 : Hid (sk1 = ti) := Lib.hid (by rw [HPk'.out, if_neg hkk])
       obtain ⟨hk2, hk3⟩ := not_or.1 hkk
       clear HPk' HG2 HINk hkk HREC
       go_wp2_with fail
       refine HCL.out.mono ?_
       rintro e w2 ⟨rfl, hS2, hK2⟩
       obtain ⟨x0', -, -, -, -, -, -, x7'⟩ := HXB.out w2 hK2
       have HE : Hid (StG z Bu Bg sk1 (grewB s sk1 || g) w2 ∧ KO (OwG Bu Bg) z w w2) := Lib.hid ⟨by
        rw [HPk2.out, HG1.out, Bool.or_assoc]
        exact hS2, HK1.out.trans hK2⟩
       clear x0 x1 x2 x3 x4 x5 x6 x7 y0 y1 y2 y3 y4 y5 y6 y7 hS2 hK2 HXB HCL
       go_wp2
       go_roundw
       case rel => exact ⟨k + 1, by omega, by go_num, by rw [HSK1.out]; exact HE⟩
       case measure => simp [intOf]; omega
     ·obtain rfl : k = l.length := by omega
      have hSK' := hSK.out
      rw [List.take_length] at hSK'
      have HE := Lib.hid hSK'
      clear hSK hSK'
      go_wp2
      go_ret
      exact ⟨rfl, HE.out.1, HE.out.2⟩
end
end Go.Proofs.YtlnaihkombcbcaaGreat
end
noncomputable section
namespace Go.Proofs.YtlnaihkombcbcaaGreat
open Go.RowKit Go.Sort Go.Ev
theorem RowP.sat {w : World} {v : Value} {ss : List Str} (h : RowP w v ss) : SAt w v ss := by
 rcases h with ⟨rfl, rfl⟩ | ⟨b, o, cap, c, e, fr, rfl, h1, h2, h3, h4, h5, h6, h7⟩
 ·exact .inl ⟨rfl, _, _, rfl⟩
 ·refine .inr ⟨b, o, cap, by simp, by simpa using h2, by simpa using h1, fun j hj => ?_⟩
  have hj' : j < ss.length := by simpa using hj
  rw [cell_of h4, h7 j hj']
  simp [hj']
  rfl
def PlAt (w : World) (v : Value) (s : S3) : Prop := ∃ va vb vc, v = .agg #[va, vb, vc] ∧ SAt w va s.c ∧ SAt w vb s.f ∧ SAt w vc s.g
theorem PlAt.below {w w' : World} {v : Value} {s : S3} (h : PlAt w v s) (hb : Below w.heap.size w w') : PlAt w' v s := by
 obtain ⟨va, vb, vc, rfl, h1, h2, h3⟩ := h
 exact ⟨va, vb, vc, rfl, h1.below hb, h2.below hb, h3.below hb⟩
theorem RowP.set3 {wr : World} {b : Nat} {u : Value} {ss : List Str} (h : RowP wr u ss) (x y z : Value) (hk : ∀ k, u.ownBlock = some k → k ≠ b) :
 RowP (((wr.setCell ⟨b, 0, none⟩ x).setCell ⟨b, 1, none⟩ y).setCell ⟨b, 2, none⟩ z) u ss :=
 h.keep fun k e => (put_far _ rfl (hk k e)).trans ((put_far _ rfl (hk k e)).trans (put_far _ rfl (hk k e)))
section
variable {z Bu Bg : Nat} {s : S3} {g : Bool} {W W' : World}
theorem PcAt.below {v : Value} {ps : List Pc} {size : Nat} (h : PcAt W v ps size) (hb : Below W.heap.size W W') : PcAt W' v ps size := by
 refine ⟨h.1.imp id ?_, fun p hp => (h.2 p hp).below hb⟩
 rintro ⟨b, o, cap, h1, h2, h3⟩
 exact ⟨b, o, cap, h1, h2, fun k hk => cell_up (h3 k hk) hb⟩
theorem rd_owns {B : Nat} {v : Value} {l : List Itm} {news : List Value} (ho : W.ownsRow B 53 8 v l.length news) (hb : Below W.heap.size W W') (ha : VRs W' ⟨fun _ => none, fun b => b < z⟩ (l.flatMap encI) news) (hn : ∀ b, B ≤ b → b < W.heap.size → ¬ OwG Bu Bg W' b) : RdI Bu Bg z W' l v := by
 by_cases hl : l = []
 ·subst hl
  obtain ⟨a, c, rfl⟩ := owns_slice ho
  exact .inl ⟨rfl, a, c, rfl⟩
 ·have hpos : 0 < l.length := List.length_pos_iff.2 hl
  rcases ho.2 with ⟨rfl, h0⟩ | ⟨g, cap, cur, rfl, hgB, hg, hc, -, -, ht⟩
  ·omega
  ·have hgl := (Array.getElem?_eq_some_iff.1 hg).1
   refine .inr ⟨g, 0, cap, rfl, hc, hpos, Nat.lt_of_lt_of_le hgl hb.size, hn g hgB hgl, fun k hk j a hj => ?_⟩
   have hjs : j < 8 := by have := (List.getElem?_eq_some_iff.1 hj).1; rw [encI_len] at this; exact this
   have hfl := flat_get encI 8 encI_len l k hk j hjs
   rw [hj] at hfl
   obtain ⟨v, h1, h2⟩ := VRs.get ha hfl
   refine ⟨v, ?_, h2⟩
   rw [Nat.zero_add, Lib.cell_of_heap ((hb.block g hgl).trans hg)]
   have hlt : k * 8 + j < l.length * 8 := by omega
   rw [← ht, List.getElem?_take, if_pos hlt] at h1
   simpa using h1
theorem RdI.ko {l : List Itm} {v : Value} (h : RdI Bu Bg z W l v) (hk : KO (OwG Bu Bg) z W W') : RdI Bu Bg z W' l v := by
 rcases h with h | ⟨b, o, cap, rfl, h1, h2, h3, h4, h5⟩
 ·exact .inl h
 ·exact .inr ⟨b, o, cap, rfl, h1, h2, Nat.lt_of_lt_of_le h3 hk.below.size, fun ho => h4 (hk.own b h3 ho), rd_ko h3 h4 h5 hk⟩
theorem RdI.next {l : List Itm} {v : Value} (h : RdI Bu Bg z W l v) (hs : StG z Bu Bg s g W) (o : Obj) (hz : z ≤ W.heap.size) : RdI Bu W.heap.size z (W.alloc o) l v := by
 have hb := below_alloc W o
 rcases h with h | ⟨b, o', cap, rfl, h1, h2, h3, h4, h5⟩
 ·exact .inl h
 ·refine .inr ⟨b, o', cap, rfl, h1, h2, Nat.lt_of_lt_of_le h3 hb.size, fun ho => ?_, fun k hk j a hj => ?_⟩
  ·rcases ho with ho | ho
   ·omega
   ·exact h4 (.inr (OwU_below hs.u.lt hb b ho))
  ·obtain ⟨x, e1, e2⟩ := h5 k hk j a hj
   exact ⟨x, (hb.cell (p := ⟨b, o' + (k * 8 + j), none⟩) h3).trans e1, e2.below (hb.mono hz)⟩
theorem StG.next (hs : StG z Bu Bg s g W) (g' : Bool) (hz : z ≤ W.heap.size) : StG z Bu W.heap.size s g' (W.alloc (gO g')) :=
 ⟨hs.u.below (below_alloc _ _), World.alloc_heap_new W _, hz, fun ho => by have := (hs.u.own (OwU_below hs.u.lt (below_alloc _ _) _ ho)).2; omega⟩
structure OfSt (z Bu Bg : Nat) (R : List Ru) (l : List Itm) (v : Value) (s : S3) (g : Bool) (W0 W : World) : Prop where
 st : StG z Bu Bg s g W
 inu : InU R s
 fix : g = false → passM s l = s
 rd : RdI Bu Bg z W l v
 below : Below z W0 W
 size : z ≤ W.heap.size
theorem uO_cells {va vb vc : Value} (h : W.heap[Bu]? = some (UO va vb vc)) : W.cell? ⟨Bu, 0, none⟩ = some va ∧ W.cell? ⟨Bu, 1, none⟩ = some vb ∧ W.cell? ⟨Bu, 2, none⟩ = some vc := by
 unfold UO at h
 refine ⟨?_, ?_, ?_⟩ <;> (rw [Lib.cell_of_heap h]; rfl)
end
theorem pass_in {L : List (List Itm)} {s : S3} (h : InU (rulesOf L.flatten) s) : InU (rulesOf L.flatten) (passM s L.flatten) := by
 rw [pass_rules]; exact inU_fold _ (fun r hr => hr) h
theorem pass_fin {L : List (List Itm)} {s : S3} (h : InU (rulesOf L.flatten) s) (hf : passM s L.flatten = s) : FinU (rulesOf L.flatten) s := by
 rw [pass_rules] at hf
 exact fin_of h (fold_fix _ _ hf)
theorem tot_small {L : List (List Itm)} (h : ∀ l ∈ L, okSh l) (h4 : L.length ≤ 4) {s : S3} (hs : InU (rulesOf L.flatten) s) : totM s ≤ 720000 := by
 have h0 : s.c.length ≤ 240000 := small_len h h4 hs 0
 have h1 : s.f.length ≤ 240000 := small_len h h4 hs 1
 have h2 : s.g.length ≤ 240000 := small_len h h4 hs 2
 unfold totM; omega
def twoG (s : S3) (g : Bool) : Nat := 2 * (720001 - totM s) + if g = true then 1 else 0
theorem two_less {L : List (List Itm)} (h : ∀ l ∈ L, okSh l) (h4 : L.length ≤ 4) {s : S3} (hs : InU (rulesOf L.flatten) s) : twoG (passM s L.flatten) (grewB s (passM s L.flatten)) < twoG s true := by
 have h1 := tot_small h h4 hs
 have h2 := tot_small h h4 (pass_in hs)
 have hu := up_pass s L.flatten
 unfold twoG
 cases hg : grewB s (passM s L.flatten)
 ·rw [grew_false hu hg]; simp
 ·have := grew_true hu hg
  simp; omega
theorem PlAt.nil (w : World) : PlAt w (.agg #[.slice none 0 0, .slice none 0 0, .slice none 0 0]) ⟨[], [], []⟩ := ⟨_, _, _, rfl, .inl ⟨rfl, _, _, rfl⟩, .inl ⟨rfl, _, _, rfl⟩, .inl ⟨rfl, _, _, rfl⟩⟩
theorem Tryz.sizePool : (Tryz.prog.info? 41).map (·.size) = some 3 := by kernel_rfl
set_option maxRecDepth 100000 in
set_option maxHeartbeats 8000000 in
theorem of18_any (L : List (List Itm)) (v : Value) (w : World) (hv : At w (.sl L.length 1 (L.flatMap encSh)) v) (hok : ∀ l ∈ L, okSh l) (h4 : L.length ≤ 4) :
 Calls Tryz.prog 33 #[v] w fun e w' => ∃ pv s, e = .returned pv ∧ PlAt w' pv s ∧ FinU (rulesOf L.flatten) s ∧ Below w.heap.size w w' := by
 obtain ⟨ps, hp, hpl, hsum, hats⟩ := pcs_of hv
 obtain ⟨h5, h6⟩ := okIs_flatten L hok
 have hlen := cntIs_len L.flatten
 have hb1 := below_alloc w (.cells #[.slice none 0 0, .slice none 0 0, .slice none 0 0] 41)
 have hs1 : (w.alloc (.cells #[.slice none 0 0, .slice none 0 0, .slice none 0 0] 41)).heap.size = w.heap.size + 1 := by simp
 obtain ⟨w1, hw1⟩ : ∃ w1, w1 = w.alloc (.cells #[.slice none 0 0, .slice none 0 0, .slice none 0 0] 41) := ⟨_, rfl⟩
 rw [← hw1] at hb1 hs1
 have hn1 : w1.heap[w.heap.size]? = some (.cells #[.slice none 0 0, .slice none 0 0, .slice none 0 0] 41) := by rw [hw1]; exact World.alloc_heap_new _ _
 have hb2 := below_alloc w1 (UO (.slice none 0 0) (.slice none 0 0) (.slice none 0 0))
 have hs2 : (w1.alloc (UO (.slice none 0 0) (.slice none 0 0) (.slice none 0 0))).heap.size = w.heap.size + 2 := by simp [hs1]
 have hU : UAt (w.heap.size + 1) (w.heap.size + 1) ⟨[], [], []⟩ (w1.alloc (UO (.slice none 0 0) (.slice none 0 0) (.slice none 0 0))) := by
  have hnew := World.alloc_heap_new w1 (UO (.slice none 0 0) (.slice none 0 0) (.slice none 0 0))
  rw [hs1] at hnew
  refine ⟨_, _, _, hnew, .inl ⟨rfl, rfl⟩, .inl ⟨rfl, rfl⟩, .inl ⟨rfl, rfl⟩, Nat.le_refl _, fun k hk => ?_, fun k hk => ?_, fun k hk => ?_⟩
  ·rcases hk with hk | hk | hk <;> simp [Value.ownBlock] at hk
  ·simp [Value.ownBlock] at hk
  ·simp [Value.ownBlock] at hk
 obtain ⟨w2, hw2⟩ : ∃ w2, w2 = w1.alloc (UO (.slice none 0 0) (.slice none 0 0) (.slice none 0 0)) := ⟨_, rfl⟩
 have hU0 : w2.heap[w.heap.size + 1]? = some (UO (.slice none 0 0) (.slice none 0 0) (.slice none 0 0)) := by rw [hw2, ← hs1]; exact World.alloc_heap_new _ _
 rw [← hw2] at hb2 hs2 hU
 have hb12 : Below w.heap.size w w2 := bup hb1 hb2
 have HCC := Lib.hid (concatI_any ps v w2 (hp.below hb12) (by omega) (by omega))
 have hrow : ∀ (w3 : World) (v' : Value), w3.ownsRow w2.heap.size 53 8 v' (sumM ps) (allN ps) → Below w2.heap.size w2 w3 → OfSt (w.heap.size + 1) (w.heap.size + 1) w3.heap.size (rulesOf L.flatten) L.flatten v' ⟨[], [], []⟩ true w1 (w3.alloc (gO true)) := by
  intro w3 v' ho hb3
  have hu3 := hU.below hb3
  have hs3 := hb3.size
  have hz3 : w.heap.size + 1 ≤ w3.heap.size := by omega
  have hb4 := below_alloc w3 (gO true)
  have hst : StG (w.heap.size + 1) (w.heap.size + 1) w3.heap.size ⟨[], [], []⟩ true (w3.alloc (gO true)) :=
   ⟨hu3.below hb4, World.alloc_heap_new _ _, hz3, fun hq => by have := (hu3.own (OwU_below hu3.lt hb4 _ hq)).2; omega⟩
  have hB13 : Below w.heap.size w w3 := bup hb12 hb3
  have hB14 : Below w.heap.size w (w3.alloc (gO true)) := bup hB13 hb4
  refine ⟨hst, inU_nil _, fun h => Bool.noConfusion h, ?_, ?_, Nat.le_trans hz3 hb4.size⟩
  ·rw [hsum] at ho
   refine rd_owns ho hb4 ?_ fun b h1 h2 hq => ?_
   ·exact VRs_keep (I := fun b => b < w.heap.size) (fun rb h => Nat.lt_succ_of_lt h) (fun rb h => hB14.block rb h) _ hats
   ·rcases hq with hq | hq
    ·omega
    ·rcases (OwU_iff (hb4.block _ (by omega) |>.trans (hb3.block _ (by omega) |>.trans hU0)) b).1 hq with hq | hq
     ·omega
     ·rcases hq with hq | hq | hq <;> simp [Value.ownBlock] at hq
  ·exact (by rw [← hs1]; exact (hb2.trans (hb3.mono (by omega))).trans (hb4.mono (by omega)))
 have HRow := Lib.hid hrow
 have HCN : Hid (cntIs L.flatten ≤ 1000000) := Lib.hid (by omega)
 have HSM := Lib.hid fun s (h : InU (rulesOf L.flatten) s) => sz_of hok h4 h
 have HIT := Lib.hid (itok_of hok)
 have HLE := Lib.hid fun s (h : InU (rulesOf L.flatten) s) => two_less hok h4 h
 have HPI := Lib.hid fun s (h : InU (rulesOf L.flatten) s) => pass_in h
 have HPF := Lib.hid fun s (h : InU (rulesOf L.flatten) s) (hf : passM s L.flatten = s) => pass_fin h hf
 have HN1 := Lib.hid hn1
 have HB1 := Lib.hid hb1
 obtain ⟨av, nv, cv, rfl⟩ : ∃ a n c, v = .slice a n c := by obtain ⟨ad, cap, rfl, -⟩ := At.sl_form hv; exact ⟨_, _, _, rfl⟩
 have HW1 := Lib.hid hw1
 have HS1 := Lib.hid hs1
 clear hrow hv hp hats hok h4 h5 h6 hlen hn1 hb1 hb2 hU hU0 hb12 hsum hpl
 generalize hR : rulesOf L.flatten = R at *
 generalize hI : L.flatten = items at *
 clear hR hI
 go_enter Tryz.func33, Tryz.ntmps33
 go_wp2_with fail
 rw [← HW1.out]
 subst hw2
 unfold UO at HCC HRow
 refine HCC.out.mono ?_
 rintro e w3 ⟨v', rfl, ho, hb3⟩
 have S0 := Lib.hid (HRow.out w3 v' ho hb3)
 obtain ⟨a3, c3, rfl⟩ := owns_slice ho
 clear ho hb3 HCC HRow hs1
 have hst0 : Hid (OfSt (w.heap.size + 1) (w.heap.size + 1) w3.heap.size R items (.slice a3 (sumM ps) c3) ⟨[], [], []⟩ true w1 (w3.alloc (.cells #[.bool true] 4))) := S0
 clear S0
 generalize sumM ps = n3 at *
 go_wp2_with fail
 go_loopg [5] 2000000 (fun gg v5 wr => ∃ (Bg : Nat) (s : S3) (g : Bool), v5 = .pointer (some ⟨Bg, 0, none⟩) ∧ Hid (twoG s g ≤ gg) ∧ Hid (OfSt (w.heap.size + 1) (w.heap.size + 1) Bg R items (.slice a3 n3 c3) s g w1 wr))
 case atStart => exact ⟨_, _, _, rfl, Lib.hid (by decide), hst0⟩
 case round =>
  clear hst0
  obtain ⟨Bg, s, g, rfl, hgg, S⟩ := hrel
  obtain ⟨g1, g2⟩ := gO_cell S.out.st.g
  cases g
  ·obtain ⟨va, vb, vc, hu1, hr1, hr2, hr3, -, hu6, -⟩ := S.out.st.u
   obtain ⟨u0, u1, u2⟩ := uO_cells hu1
   have hp0 := (S.out.below.block w.heap.size (Nat.lt_succ_self _)).trans HN1.out
   have p0 : wr.cell? ⟨w.heap.size, 0, none⟩ = some (.slice none 0 0) := by rw [Lib.cell_of_heap hp0]; rfl
   have p1 : wr.cell? ⟨w.heap.size, 1, none⟩ = some (.slice none 0 0) := by rw [Lib.cell_of_heap hp0]; rfl
   have p2 : wr.cell? ⟨w.heap.size, 2, none⟩ = some (.slice none 0 0) := by rw [Lib.cell_of_heap hp0]; rfl
   have f0 := Lib.frozen_of_heap hp0
   obtain ⟨xa, ya, rfl⟩ := hr1.form
   obtain ⟨xb, yb, rfl⟩ := hr2.form
   obtain ⟨xc, yc, rfl⟩ := hr3.form
   have HE : Hid (FinU R s) := Lib.hid (HPF.out s S.out.inu (S.out.fix rfl))
   have hne : ∀ k, OwV (.slice xa s.c.length ya) (.slice xb s.f.length yb) (.slice xc s.g.length yc) k → k ≠ w.heap.size := fun k hk => by have := (hu6 k hk).1; omega
   have HP := Lib.hid fun x y z => And.intro (hr1.set3 x y z fun k hk => hne k (.inl hk)) (And.intro (hr2.set3 x y z fun k hk => hne k (.inr (.inl hk))) (hr3.set3 x y z fun k hk => hne k (.inr (.inr hk))))
   have HH := Lib.hid (S.out.below)
   have HSZ := Lib.hid S.out.size
   have HP0 := Lib.hid hp0
   clear hu1 hr1 hr2 hr3 hp0 S hu6 hne
   go_wp2
   refine bodyPost_ret (results_cell_row rfl _ _ w.heap.size 41 _ (0, 0) _ rfl (set3 _ _ _ HP0.out rfl) Tryz.underlying41 rfl Tryz.sizePool) rfl ?_
   have hB : Below w.heap.size w wr := HB1.out.trans (HH.out.mono (Nat.le_succ _))
   obtain ⟨k1, k2, k3⟩ := HP.out (.slice xa s.c.length ya) (.slice xb s.f.length yb) (.slice xc s.g.length yc)
   exact ⟨_, s, rfl, ⟨_, _, _, rfl, k1.sat, k2.sat, k3.sat⟩, HE.out, below3 _ _ _ hB (Nat.le_refl _)⟩
  ·have hz := S.out.size
   obtain ⟨S1, K1⟩ := S.out.st.put false
   have HR1 := S.out.rd.ko K1
   have HI := Lib.hid (inner_any HSM.out _ items (Nat.le_refl _) HCN.out HIT.out _ s false _ HR1 S1 (Nat.le_trans hz K1.below.size) S.out.inu)
   have HK1 := Lib.hid K1
   unfold cloV at HI
   have HRD1 := Lib.hid HR1
   clear S1 K1 HR1
   go_wp2_with fail
   refine HI.out.mono ?_
   rintro e w4 ⟨rfl, hS4, hK4⟩
   rw [Bool.or_false] at hS4
   obtain ⟨g3, g4⟩ := gO_cell hS4.g
   have hz4 : w.heap.size + 1 ≤ w4.heap.size := Nat.le_trans hz (Nat.le_trans HK1.out.below.size hK4.below.size)
   have hOf : OfSt (w.heap.size + 1) (w.heap.size + 1) w4.heap.size R items (.slice a3 n3 c3) (passM s items) (grewB s (passM s items)) w1 (w4.alloc (gO (grewB s (passM s items)))) :=
    { st := hS4.next _ hz4
      inu := HPI.out s S.out.inu
      fix := fun h => by rw [grew_false (up_pass s items) h, grew_false (up_pass s items) h]
      rd := (HRD1.out.ko hK4).next hS4 _ hz4
      below := (S.out.below.trans (HK1.out.below.trans hK4.below)).trans ((below_alloc _ _).mono hz4)
      size := Nat.le_trans hz4 (below_alloc _ _).size }
   have HOF := Lib.hid hOf
   have HLT := Lib.hid (Nat.lt_of_lt_of_le (HLE.out s S.out.inu) hgg.out)
   clear hOf hS4 hK4 hz4 hz HRD1 HK1 HI S hgg g1 g2
   unfold gO at HOF
   generalize passM s items = s' at *
   generalize grewB s s' = q at *
   go_wp2_with fail
   go_roundg (twoG s' q)
   case measure => exact HLT.out
   case rel => exact ⟨_, _, _, rfl, Lib.hid (Nat.le_refl _), HOF⟩
end Go.Proofs.YtlnaihkombcbcaaGreat
end
noncomputable section
namespace Go.Proofs.YtlnaihkombcbcaaGreat
open Go.RowKit Go.Sort Go.Ev
def gNw (z B : Nat) (W : World) : Gh := ⟨fun _ => none, fun b => (b < z ∨ B ≤ b) ∧ b < W.heap.size⟩
theorem vr_old {z B : Nat} {w W : World} {a : AV} {v : Value} (h : AtB z w a v) (hb : Below z w W) (hz : z ≤ W.heap.size) : VR W (gNw z B W) a v :=
 VR_keep (fun _ hr => ⟨.inl hr, Nat.lt_of_lt_of_le hr hz⟩) (fun rb hr => hb.block rb hr) a h
theorem tri_vr {z B g : Nat} {W : World} (xs : List Dc) (cap : Nat) (hz : z ≤ W.heap.size) (hg : B ≤ g) (hgl : g < W.heap.size) (hcap : xs.length ≤ cap) (ht : ∀ t (ht : t < xs.length), Tri W g t xs[t]) (hi : ∀ x ∈ xs, AtB z W (.sl x.d.l.length 5 (x.d.l.flatMap encV)) (.slice x.ad x.d.l.length x.cp)) :
 VR W (gNw z B W) (.sl xs.length 3 ((xs.map (·.d)).flatMap encD)) (.slice (some ⟨g, 0, none⟩) xs.length cap) := by
 have hI : (gNw z B W).I g := ⟨.inr hg, hgl⟩
 refine ⟨_, cap, rfl, hcap, .inr ⟨g, 0, rfl, RowR.mk hI fun i a hia => ?_⟩⟩
 have hlt : i < xs.length * 3 := by have := (List.getElem?_eq_some_iff.1 hia).1; rw [len_flatD, List.length_map] at this; exact this
 obtain ⟨q, r, hr, rfl⟩ : ∃ q r, r < 3 ∧ i = q * 3 + r := ⟨i / 3, i % 3, by omega, by omega⟩
 have hq : q < xs.length := by omega
 rw [flat_get encD 3 encD_len _ q (by rw [List.length_map]; exact hq) r hr] at hia
 simp only [List.getElem_map] at hia
 obtain ⟨e0, e1, e2⟩ := ht _ hq
 have h3 : r = 0 ∨ r = 1 ∨ r = 2 := by omega
 rw [Nat.zero_add]
 rcases h3 with rfl | rfl | rfl
 ·obtain rfl : AV.g (.string xs[q].d.name) = a := by simpa [encD] using hia
  exact ⟨_, e0, rfl⟩
 ·obtain rfl : AV.sl xs[q].d.l.length 5 (xs[q].d.l.flatMap encV) = a := by simpa [encD] using hia
  exact ⟨_, e1, vr_old (hi _ (List.getElem_mem hq)) (Below.refl _ _) hz⟩
 ·obtain rfl : AV.g (.bool xs[q].d.imp) = a := by simpa [encD] using hia
  exact ⟨_, e2, rfl⟩
def KeepPost (p : S3) (x : Itm) (z : Nat) (w : World) (e : Ending) (w' : World) : Prop :=
 ∃ kd a1 n1 c1 a2 n2 c2 a3 n3 c3 mn mx a6 n6 c6 a7 n7 c7, e = .returned (.tuple #[itV kd a1 n1 c1 a2 n2 c2 a3 n3 c3 mn mx a6 n6 c6 a7 n7 c7, .bool (keepI p x).isSome]) ∧
   Hid (∀ y, keepI p x = some y → VRs w' (gNw z w.heap.size w') (encI y) [.int .i64 kd, .slice a1 n1 c1, .slice a2 n2 c2, .slice a3 n3 c3, .int .i64 mn, .int .i64 mx, .slice a6 n6 c6, .slice a7 n7 c7]) ∧ Below w.heap.size w w'
theorem vrs_item {W : World} {G : Gh} {x : Itm} {a1 a2 a3 a6 a7 : Option Addr} {c1 c2 c3 c6 c7 : Nat} (h1 : VR W G (.sl x.sels.length 2 (x.sels.flatMap encC)) (.slice a1 x.sels.length c1)) (h2 : VR W G (.sl x.decls.length 3 (x.decls.flatMap encD)) (.slice a2 x.decls.length c2))
 (h3 : VR W G (.sl x.names.length 1 (x.names.flatMap encN)) (.slice a3 x.names.length c3)) (h6 : VR W G (.sl x.vals.length 5 (x.vals.flatMap encV)) (.slice a6 x.vals.length c6)) (h7 : VR W G (.sl x.l.length 8 (x.l.flatMap encI)) (.slice a7 x.l.length c7)) :
 VRs W G (encI x) [.int .i64 x.kind, .slice a1 x.sels.length c1, .slice a2 x.decls.length c2, .slice a3 x.names.length c3, .int .i64 x.mn, .int .i64 x.mx, .slice a6 x.vals.length c6, .slice a7 x.l.length c7] := by
 cases x
 rw [encI, encIs_flat]
 exact VRs.cons_mk rfl (VRs.cons_mk h1 (VRs.cons_mk h2 (VRs.cons_mk h3 (VRs.cons_mk rfl (VRs.cons_mk rfl (VRs.cons_mk h6 (VRs.cons_mk h7 (by rw [VRs]))))))))
theorem set8 {W : World} {g : Nat} {t : TypeId} {cs : Array Value} (x0 x1 x2 x3 x4 x5 x6 x7 : Value) (h : W.heap[g]? = some (.cells cs t (0, 0))) (hs : cs.size = 8) :
 ((((((((W.setCell ⟨g, 0, none⟩ x0).setCell ⟨g, 1, none⟩ x1).setCell ⟨g, 2, none⟩ x2).setCell ⟨g, 3, none⟩ x3).setCell ⟨g, 4, none⟩ x4).setCell ⟨g, 5, none⟩ x5).setCell ⟨g, 6, none⟩ x6).setCell ⟨g, 7, none⟩ x7).heap[g]? = some (.cells #[x0, x1, x2, x3, x4, x5, x6, x7] t (0, 0)) := by
 have h0 := put_same (o := 0) x0 h
 have h1 := put_same (o := 1) x1 h0
 have h2 := put_same (o := 2) x2 h1
 have h3 := put_same (o := 3) x3 h2
 have h4 := put_same (o := 4) x4 h3
 have h5 := put_same (o := 5) x5 h4
 have h6 := put_same (o := 6) x6 h5
 have h7 := put_same (o := 7) x7 h6
 refine h7.trans ?_
 clear h h0 h1 h2 h3 h4 h5 h6 h7
 obtain ⟨l⟩ := cs
 match l, hs with
 | [a, b, c, d, e, f, g, i], _ => simp
theorem below8 {z : Nat} {w W : World} {g : Nat} (x0 x1 x2 x3 x4 x5 x6 x7 : Value) (h : Below z w W) (hg : z ≤ g) :
 Below z w ((((((((W.setCell ⟨g, 0, none⟩ x0).setCell ⟨g, 1, none⟩ x1).setCell ⟨g, 2, none⟩ x2).setCell ⟨g, 3, none⟩ x3).setCell ⟨g, 4, none⟩ x4).setCell ⟨g, 5, none⟩ x5).setCell ⟨g, 6, none⟩ x6).setCell ⟨g, 7, none⟩ x7) :=
 (((((((h.setCell hg _).setCell hg _).setCell hg _).setCell hg _).setCell hg _).setCell hg _).setCell hg _).setCell hg _
theorem far8 {W : World} {g k : Nat} (x0 x1 x2 x3 x4 x5 x6 x7 : Value) (h : k ≠ g) :
 ((((((((W.setCell ⟨g, 0, none⟩ x0).setCell ⟨g, 1, none⟩ x1).setCell ⟨g, 2, none⟩ x2).setCell ⟨g, 3, none⟩ x3).setCell ⟨g, 4, none⟩ x4).setCell ⟨g, 5, none⟩ x5).setCell ⟨g, 6, none⟩ x6).setCell ⟨g, 7, none⟩ x7).heap[k]? = W.heap[k]? := by
 rw [put_far _ rfl h, put_far _ rfl h, put_far _ rfl h, put_far _ rfl h, put_far _ rfl h, put_far _ rfl h, put_far _ rfl h, put_far _ rfl h]
theorem Tryz.sizeItem : (Tryz.prog.info? 53).map (·.size) = some 8 := by kernel_rfl
def zO : Obj := .cells #[.int .i64 0, .slice none 0 0, .slice none 0 0, .slice none 0 0, .int .i64 0, .int .i64 0, .slice none 0 0, .slice none 0 0] 53
def plO (va vb vc : Value) : Obj := .cells #[va, vb, vc] 127
structure KSt (B : Nat) (va vb vc : Value) (o : Obj) (w W : World) : Prop where
 below : Below B w W
 p : W.heap[B]? = some (plO va vb vc)
 x : W.heap[B + 1]? = some o
 r : W.heap[B + 2]? = some zO
 size : B + 3 ≤ W.heap.size
theorem KSt.step {B : Nat} {va vb vc : Value} {o : Obj} {w W W' : World} (h : KSt B va vb vc o w W) (hb : Below (B + 3) W W') : KSt B va vb vc o w W' :=
 ⟨h.below.trans (hb.mono (by omega)), (hb.block _ (by omega)).trans h.p, (hb.block _ (by omega)).trans h.x, (hb.block _ (by omega)).trans h.r, Nat.le_trans h.size hb.size⟩
theorem KSt.new (w : World) (va vb vc : Value) (o : Obj) : KSt w.heap.size va vb vc o w (((w.alloc (plO va vb vc)).alloc o).alloc zO) := by
 have s1 : (w.alloc (plO va vb vc)).heap.size = w.heap.size + 1 := by simp
 have s2 : ((w.alloc (plO va vb vc)).alloc o).heap.size = w.heap.size + 2 := by simp
 refine ⟨((((Below.refl _ w).alloc (Nat.le_refl _) _).alloc (by omega) _).alloc (by omega) _), ?_, ?_, ?_, by simp⟩
 ·rw [Below.heap_alloc _ _ _ (by omega), Below.heap_alloc _ _ _ (by omega)]; exact World.alloc_heap_new _ _
 ·rw [Below.heap_alloc _ _ _ (by omega)]
  have := World.alloc_heap_new (w.alloc (plO va vb vc)) o
  rwa [s1] at this
 ·have := World.alloc_heap_new ((w.alloc (plO va vb vc)).alloc o) zO
  rwa [s2] at this
theorem plO_cells {W : World} {B : Nat} {va vb vc : Value} (h : W.heap[B]? = some (plO va vb vc)) : W.cell? ⟨B, 0, none⟩ = some va ∧ W.cell? ⟨B, 1, none⟩ = some vb ∧ W.cell? ⟨B, 2, none⟩ = some vc := by
 unfold plO at h
 refine ⟨?_, ?_, ?_⟩ <;> (rw [Lib.cell_of_heap h]; rfl)
theorem zO_cells {W : World} {B : Nat} (h : W.heap[B]? = some zO) : W.cell? ⟨B, 0, none⟩ = some (.int .i64 0) ∧ W.cell? ⟨B, 1, none⟩ = some (.slice none 0 0) ∧ W.cell? ⟨B, 2, none⟩ = some (.slice none 0 0) ∧ W.cell? ⟨B, 3, none⟩ = some (.slice none 0 0) ∧
 W.cell? ⟨B, 4, none⟩ = some (.int .i64 0) ∧ W.cell? ⟨B, 5, none⟩ = some (.int .i64 0) ∧ W.cell? ⟨B, 6, none⟩ = some (.slice none 0 0) ∧ W.cell? ⟨B, 7, none⟩ = some (.slice none 0 0) ∧ ∀ o, W.frozen? ⟨B, o, none⟩ = false := by
 unfold zO at h
 refine ⟨?_, ?_, ?_, ?_, ?_, ?_, ?_, ?_, fun o => Lib.frozen_of_heap h o⟩ <;> (rw [Lib.cell_of_heap h]; rfl)
theorem KSt.putD {B : Nat} {va vb vc : Value} {w W : World} {kd mn mx : Int} {a1 a2 a3 a6 a7 : Option Addr} {n1 c1 n2 c2 n3 c3 n6 c6 n7 c7 : Nat} (h : KSt B va vb vc (itmO kd a1 n1 c1 a2 n2 c2 a3 n3 c3 mn mx a6 n6 c6 a7 n7 c7) w W) (a : Option Addr) (n c : Nat) :
 KSt B va vb vc (itmO kd a1 n1 c1 a n c a3 n3 c3 mn mx a6 n6 c6 a7 n7 c7) w (W.setCell ⟨B + 1, 2, none⟩ (.slice a n c)) := by
 refine ⟨h.below.setCell (Nat.le_succ _) _, (put_far _ rfl (by omega)).trans h.p, ?_, (put_far _ rfl (by omega)).trans h.r, by simp [World.setCell]; exact h.size⟩
 have := put_same (o := 2) (.slice a n c) h.x
 rw [this]; rfl
theorem KSt.putL {B : Nat} {va vb vc : Value} {w W : World} {kd mn mx : Int} {a1 a2 a3 a6 a7 : Option Addr} {n1 c1 n2 c2 n3 c3 n6 c6 n7 c7 : Nat} (h : KSt B va vb vc (itmO kd a1 n1 c1 a2 n2 c2 a3 n3 c3 mn mx a6 n6 c6 a7 n7 c7) w W) (a : Option Addr) (n c : Nat) :
 KSt B va vb vc (itmO kd a1 n1 c1 a2 n2 c2 a3 n3 c3 mn mx a6 n6 c6 a n c) w (W.setCell ⟨B + 1, 7, none⟩ (.slice a n c)) := by
 refine ⟨h.below.setCell (Nat.le_succ _) _, (put_far _ rfl (by omega)).trans h.p, ?_, (put_far _ rfl (by omega)).trans h.r, by simp [World.setCell]; exact h.size⟩
 have := put_same (o := 7) (.slice a n c) h.x
 rw [this]; rfl
theorem keep_end {p : S3} {x : Itm} {z : Nat} {va vb vc : Value} {o : Obj} {w W : World} {b : Bool} {kd mn mx : Int} {a1 a2 a3 a6 a7 : Option Addr} {n1 c1 n2 c2 n3 c3 n6 c6 n7 c7 : Nat} (h : KSt w.heap.size va vb vc o w W) (hz : z ≤ w.heap.size) (hb : b = (keepI p x).isSome)
 (hV : ∀ y, keepI p x = some y → VRs W (gNw z (w.heap.size + 3) W) (encI y) [.int .i64 kd, .slice a1 n1 c1, .slice a2 n2 c2, .slice a3 n3 c3, .int .i64 mn, .int .i64 mx, .slice a6 n6 c6, .slice a7 n7 c7]) :
 KeepPost p x z w (.returned (.tuple #[.agg #[.int .i64 kd, .slice a1 n1 c1, .slice a2 n2 c2, .slice a3 n3 c3, .int .i64 mn, .int .i64 mx, .slice a6 n6 c6, .slice a7 n7 c7], .bool b]))
  ((((((((W.setCell ⟨w.heap.size + 1 + 1, 0, none⟩ (.int .i64 kd)).setCell ⟨w.heap.size + 1 + 1, 1, none⟩ (.slice a1 n1 c1)).setCell ⟨w.heap.size + 1 + 1, 2, none⟩ (.slice a2 n2 c2)).setCell ⟨w.heap.size + 1 + 1, 3, none⟩ (.slice a3 n3 c3)).setCell ⟨w.heap.size + 1 + 1, 4, none⟩ (.int .i64 mn)).setCell ⟨w.heap.size + 1 + 1, 5, none⟩ (.int .i64 mx)).setCell ⟨w.heap.size + 1 + 1, 6, none⟩ (.slice a6 n6 c6)).setCell ⟨w.heap.size + 1 + 1, 7, none⟩ (.slice a7 n7 c7)) := by
 refine ⟨kd, a1, n1, c1, a2, n2, c2, a3, n3, c3, mn, mx, a6, n6, c6, a7, n7, c7, by rw [hb]; rfl, Lib.hid fun y hy => ?_, below8 _ _ _ _ _ _ _ _ h.below (by omega)⟩
 have hs := (below8 (z := w.heap.size) (.int .i64 kd) (.slice a1 n1 c1) (.slice a2 n2 c2) (.slice a3 n3 c3) (.int .i64 mn) (.int .i64 mx) (.slice a6 n6 c6) (.slice a7 n7 c7) (Below.refl w.heap.size W) (show w.heap.size ≤ w.heap.size + 1 + 1 by omega)).size
 exact VRs_keep (I := (gNw z (w.heap.size + 3) W).I) (I' := (gNw z w.heap.size _).I) (fun _ hr => ⟨hr.1.imp id fun h => by omega, Nat.lt_of_lt_of_le hr.2 hs⟩) (fun rb hr => far8 _ _ _ _ _ _ _ _ (by rcases hr.1 with h | h <;> omega)) _ (hV y hy)
theorem prAt_of {c : List Str} {va vb vc : Value} {o : Obj} {w W : World} (hs : SAt w va c) (h : KSt w.heap.size va vb vc o w W) : PrAt c w.heap.size (w.heap.size + 3) W :=
 ⟨va, fun _ hb => ⟨(plO_cells (h.step hb).p).1, hs.below (h.step hb).below⟩⟩
theorem heapDrew (W : World) (g : Nat) : W.drew.heap[g]? = W.heap[g]? := rfl
theorem set8d {W : World} {g : Nat} {t : TypeId} {cs : Array Value} (x0 x1 x2 x3 x4 x5 x6 x7 : Value) (h : W.heap[g]? = some (.cells cs t (0, 0))) (hs : cs.size = 8) :
 ((((((((W.setCell ⟨g, 0, none⟩ x0).setCell ⟨g, 1, none⟩ x1).setCell ⟨g, 2, none⟩ x2).setCell ⟨g, 3, none⟩ x3).setCell ⟨g, 4, none⟩ x4).setCell ⟨g, 5, none⟩ x5).setCell ⟨g, 6, none⟩ x6).setCell ⟨g, 7, none⟩ x7).drew.heap[g]? = some (.cells #[x0, x1, x2, x3, x4, x5, x6, x7] t (0, 0)) :=
 (heapDrew _ g).trans (set8 x0 x1 x2 x3 x4 x5 x6 x7 h hs)
theorem KeepPost.drew {p : S3} {x : Itm} {z : Nat} {w : World} {e : Ending} {W : World} (h : KeepPost p x z w e W) : KeepPost p x z w e W.drew := by
 obtain ⟨kd, a1, n1, c1, a2, n2, c2, a3, n3, c3, mn, mx, a6, n6, c6, a7, n7, c7, he, hv, hb⟩ := h
 exact ⟨kd, a1, n1, c1, a2, n2, c2, a3, n3, c3, mn, mx, a6, n6, c6, a7, n7, c7, he, Lib.hid fun y hy => VRs_keep (w := W) (w' := W.drew) (I := (gNw z w.heap.size W).I) (I' := (gNw z w.heap.size W.drew).I) (fun _ h => h) (fun _ _ => rfl) _ (hv.out y hy), hb.trans (Below.refl _ _).drew⟩
end Go.Proofs.YtlnaihkombcbcaaGreat
end
noncomputable section
namespace Go.Proofs.YtlnaihkombcbcaaGreat
open Go.RowKit Go.Sort Go.Ev
theorem vr_new {z B C : Nat} {W W' : World} {a : AV} {v : Value} (h : VR W (gNw z C W) a v) (hC : B ≤ C) (hs : ∀ rb, rb < z ∨ C ≤ rb → rb < W.heap.size → W'.heap[rb]? = W.heap[rb]?) (hz : W.heap.size ≤ W'.heap.size) : VR W' (gNw z B W') a v :=
 VR_keep (fun _ hr => ⟨hr.1.imp id fun h => Nat.le_trans hC h, Nat.lt_of_lt_of_le hr.2 hz⟩) (fun rb hr => hs rb hr.1 hr.2) a h
theorem map_filter_dc (c : List Str) (xs : List Dc) : (xs.filter (prF c)).map (·.d) = (xs.map (·.d)).filter (kpD c) := by
 rw [List.filter_map]; rfl
set_option maxRecDepth 100000 in
set_option maxHeartbeats 1000000 in
theorem del_empty (a : Option Addr) (cp Bp : Nat) (w : World) :
 Calls Tryz.prog 140 #[.slice a 0 cp, prV Bp] w fun e w' => e = .returned (.slice a 0 cp) ∧ w' = w := by
 have HI : Calls Tryz.prog 208 #[.slice a 0 cp, .func (.func 142) #[] #[.pointer (some ⟨Bp, 0, none⟩)]] w fun e w' => e = .returned (.int .i64 (-1)) ∧ w' = w := by
  go_enter Tryz.func208, Tryz.ntmps208
  go_wp2
  go_loop [5, 8] (fun _ i => i = .int .i64 0) (fun _ _ => 0)
  case atStart => rfl
  case round =>
   subst hrel
   go_wp2
   go_ret
   exact ⟨rfl, rfl⟩
 have HH := Lib.hid HI
 clear HI
 unfold prV
 go_enter Tryz.func140, Tryz.ntmps140
 go_wp2_with fail
 refine HH.out.mono ?_
 rintro e w1 ⟨rfl, rfl⟩
 go_wp2
 go_ret
 exact ⟨rfl, rfl⟩
theorem cdel_any {c : List Str} {Bp z0 z : Nat} {w : World} (v : Value) (ds : List Dl) (h : PrAt c Bp z0 w) (hl : c.length ≤ 1000000) (hz : z ≤ z0) (hz0 : z0 ≤ w.heap.size) (hrow : RowC z z0 w v ds) (hn : ds.length ≤ 1000000) :
 Calls Tryz.prog 140 #[v, prV Bp] w fun e w' => ∃ a cp, e = .returned (.slice a (ds.filter (kpD c)).length cp) ∧ VR w' (gNw z z0 w') (.sl (ds.filter (kpD c)).length 3 ((ds.filter (kpD c)).flatMap encD)) (.slice a (ds.filter (kpD c)).length cp) ∧ Below z0 w w' := by
 rcases hrow with ⟨rfl, a, cp, rfl⟩ | ⟨g, cap, xs, rfl, hpos, hcap, hg, hgl, rfl, ht, hi, hfr⟩
 ·refine (del_empty a cp Bp w).mono ?_
  rintro e w' ⟨rfl, rfl⟩
  exact ⟨a, cp, rfl, ⟨a, cp, rfl, Nat.zero_le _, .inl rfl⟩, Below.refl _ _⟩
 ·rw [List.length_map] at hcap hn hfr hpos ⊢
  refine (delfunc_any (xs := xs) cap h hl hg hgl hn hcap ht hfr).mono ?_
  rintro e w' ⟨rfl, hB, hgl', htri⟩
  rw [← map_filter_dc, List.length_map]
  have hle : (xs.filter (prF c)).length ≤ xs.length := List.length_filter_le _ _
  refine ⟨_, cap, rfl, tri_vr _ cap (Nat.le_trans (Nat.le_trans hz hz0) hB.size) hg hgl' (by omega) htri fun x hx => ?_, hB⟩
  exact (hi x (List.mem_filter.1 hx).1).below (hB.mono hz)
section
variable {p : S3} {x : Itm} {z : Nat} {va vb vc : Value} {a1 a2 a3 a6 a7 : Option Addr} {c1 c2 c3 c6 c7 : Nat} {w : World}
set_option maxRecDepth 100000 in
set_option maxHeartbeats 8000000 in
theorem keep_rule (hp : SAt w va p.c) (fb : ∃ a n c, vb = .slice a n c) (fc : ∃ a n c, vc = .slice a n c) (hpc : p.c.length ≤ 1000000) (hz : z ≤ w.heap.size) (hk1 : x.kind = 1) (hn : x.decls.length ≤ 1000000)
 (h1 : AtB z w (.sl x.sels.length 2 (x.sels.flatMap encC)) (.slice a1 x.sels.length c1)) (h2 : AtB z w (.sl x.decls.length 3 (x.decls.flatMap encD)) (.slice a2 x.decls.length c2)) (h3 : AtB z w (.sl x.names.length 1 (x.names.flatMap encN)) (.slice a3 x.names.length c3))
 (h6 : AtB z w (.sl x.vals.length 5 (x.vals.flatMap encV)) (.slice a6 x.vals.length c6)) (h7 : AtB z w (.sl x.l.length 8 (x.l.flatMap encI)) (.slice a7 x.l.length c7)) :
 Calls Tryz.prog 80 #[.agg #[va, vb, vc], itV x.kind a1 x.sels.length c1 a2 x.decls.length c2 a3 x.names.length c3 x.mn x.mx a6 x.vals.length c6 a7 x.l.length c7] w (KeepPost p x z w) := by
 obtain ⟨W3, hW3⟩ : ∃ W3, W3 = ((w.alloc (plO va vb vc)).alloc (itmO x.kind a1 x.sels.length c1 a2 x.decls.length c2 a3 x.names.length c3 x.mn x.mx a6 x.vals.length c6 a7 x.l.length c7)).alloc zO := ⟨_, rfl⟩
 have K0 : KSt w.heap.size va vb vc (itmO x.kind a1 x.sels.length c1 a2 x.decls.length c2 a3 x.names.length c3 x.mn x.mx a6 x.vals.length c6 a7 x.l.length c7) w W3 := by rw [hW3]; exact KSt.new w va vb vc _
 have s0 : W3.heap.size = w.heap.size + 3 := by rw [hW3]; simp
 have HCL := cloneD_any z x.decls (.slice a2 x.decls.length c2) W3 (Nat.le_trans hz K0.below.size) (h2.below (K0.below.mono hz)) hn
 rw [s0] at HCL
 obtain ⟨x0, -, x2, -, -, -, -, -⟩ := itmO_cells K0.x
 rw [hW3] at x0 x2
 have HC := Lib.hid HCL
 have HD := Lib.hid fun (W : World) (va' vb' vc' : Value) (o : Obj) (v : Value) (hk : KSt w.heap.size va' vb' vc' o w W) (hs : SAt w va' p.c) (hr : RowC z (w.heap.size + 3) W v x.decls) =>
  cdel_any v x.decls (prAt_of hs hk) hpc (by omega) hk.size hr hn
 have HV := Lib.hid fun (W : World) (hb : Below w.heap.size w W) => And.intro (vr_old (B := w.heap.size + 3) h1 (hb.mono hz) (Nat.le_trans hz hb.size)) (And.intro (vr_old (B := w.heap.size + 3) h3 (hb.mono hz) (Nat.le_trans hz hb.size)) (And.intro (vr_old (B := w.heap.size + 3) h6 (hb.mono hz) (Nat.le_trans hz hb.size)) (vr_old (B := w.heap.size + 3) h7 (hb.mono hz) (Nat.le_trans hz hb.size))))
 have HP := Lib.hid hp
 have HZ := Lib.hid hz
 obtain ⟨va1, va2, va3, rfl⟩ := hp.form
 obtain ⟨vb1, vb2, vb3, rfl⟩ := fb
 obtain ⟨vc1, vc2, vc3, rfl⟩ := fc
 have HKI := Lib.hid (keepI_eq p x)
 have HK1 := Lib.hid hk1
 have HK0 := Lib.hid K0
 have HW3 := Lib.hid hW3
 clear hp hz h1 h2 h3 h6 h7 K0 s0 HCL hW3
 rw [hk1] at x0 x2 HW3 HK0 ⊢
 clear hk1
 unfold itV
 unfold itmO plO zO at x0 x2 HW3
 go_enter Tryz.func80, Tryz.ntmps80
 go_wp2_with fail
 rw [← HW3.out]
 refine HC.out.mono ?_
 rintro e w4 ⟨v4, rfl, hr4, hB4⟩
 have K4 := HK0.out.step hB4
 have HDL := HD.out w4 _ _ _ _ v4 K4 HP.out hr4
 have hf4 : ∃ a n c, v4 = .slice a n c := by
  rcases hr4 with ⟨-, a, c, rfl⟩ | ⟨g, cap, xs, rfl, -⟩
  ·exact ⟨_, _, _, rfl⟩
  ·exact ⟨_, _, _, rfl⟩
 obtain ⟨a4, n4, c4, rfl⟩ := hf4
 have HDL := Lib.hid HDL
 have HK4 := Lib.hid K4
 unfold prV at HDL
 clear x0 x2 HC HD HW3 K4 hr4 hB4 HK0
 go_wp2_with fail
 refine HDL.out.mono ?_
 rintro e w5 ⟨a5, c5, rfl, hv5, hB5⟩
 have K5 := HK4.out.step hB5
 have K6 := K5.putD a5 (x.decls.filter (kpD p.c)).length c5
 have hX5 := itmO_cells K5.x
 have f52 := Lib.frozen_of_heap (show w5.heap[w.heap.size + 1]? = some (.cells _ _ (0, 0)) from K5.x) 2
 obtain ⟨-, -, y2, -, -, -, -, -⟩ := hX5
 have HV6 := Lib.hid hv5
 have HK6 := Lib.hid K6
 clear HDL HK4 K5 K6 hv5 hB5
 generalize hm : (x.decls.filter (kpD p.c)).length = m at *
 go_wp2_with fail
 have HX6 := itmO_cells HK6.out.x
 have HR6 := zO_cells (B := w.heap.size + 1 + 1) HK6.out.r
 have HK6' := HK6
 have HW6 := Lib.hid (show w5.heap.size ≤ (w5.setCell ⟨w.heap.size + 1, 2, none⟩ (.slice a5 m c5)).heap.size from by simp [World.setCell])
 have HW6b := Lib.hid fun rb (h : rb ≠ w.heap.size + 1) => (put_far (W := w5) (b := w.heap.size + 1) (o := 2) (.slice a5 m c5) rfl h)
 clear HK6 y2 f52
 generalize w5.setCell ⟨w.heap.size + 1, 2, none⟩ (.slice a5 m c5) = w6 at *
 obtain ⟨x0, x1, x2, x3, x4, x5, x6, x7⟩ := HX6
 obtain ⟨r0, r1, r2, r3, r4, r5, r6, r7, rf⟩ := HR6
 have HRS := Lib.hid (show w6.heap[w.heap.size + 1 + 1]? = some (.cells #[.int .i64 0, .slice none 0 0, .slice none 0 0, .slice none 0 0, .int .i64 0, .int .i64 0, .slice none 0 0, .slice none 0 0] 53 (0, 0)) from HK6'.out.r)
 have HE := Lib.hid fun (b : Bool) (hb : b = (keepI p x).isSome) => keep_end (p := p) (x := x) (z := z) (kd := 1) (a1 := a1) (n1 := x.sels.length) (c1 := c1) (a2 := a5) (n2 := m) (c2 := c5) (a3 := a3) (n3 := x.names.length) (c3 := c3) (mn := x.mn) (mx := x.mx) (a6 := a6) (n6 := x.vals.length) (c6 := c6) (a7 := a7) (n7 := x.l.length) (c7 := c7) (b := b) HK6'.out HZ.out hb fun y hy => by
  have hV := HV.out w6 HK6'.out.below
  have hI := HKI.out
  rw [if_pos HK1.out] at hI
  by_cases hm0 : m = 0
  ·rw [if_pos hm0] at hI
   rw [hI] at hy; cases hy
  ·rw [if_neg hm0] at hI
   rw [hI] at hy
   cases hy
   have hm' : (x.decls.filter (kpD p.c)).length = m := hm
   have hd : VR w6 (gNw z (w.heap.size + 3) w6) (.sl (x.decls.filter (kpD p.c)).length 3 ((x.decls.filter (kpD p.c)).flatMap encD)) (.slice a5 (x.decls.filter (kpD p.c)).length c5) := by
    rw [hm']
    exact vr_new HV6.out (Nat.le_refl _) (fun rb h _ => HW6b.out rb (by have := HZ.out; omega)) HW6.out
   have h9 := vrs_item (x := .mk x.kind x.sels (x.decls.filter (kpD p.c)) x.names x.mn x.mx x.vals x.l) hV.1 hd hV.2.1 hV.2.2.1 hV.2.2.2
   have e1 : (1 : Int) = x.kind := HK1.out.symm
   rw [e1, ← hm']
   exact h9
 have HM : Hid ((keepI p x).isSome = decide (m ≠ 0)) := Lib.hid (by
  rw [HKI.out, if_pos HK1.out]
  by_cases hm0 : m = 0
  ·rw [if_pos hm0]; simp [hm0]
  ·rw [if_neg hm0]; simp [hm0])
 clear hm
 rcases Nat.eq_zero_or_pos m with hm0 | hm0
 ·subst hm0
  have HM0 : Hid (false = (keepI p x).isSome) := Lib.hid (by rw [HM.out]; rfl)
  go_region
  all_goals
   go_wp2
   refine bodyPost_ret (results_row_tmp rfl _ _ (w.heap.size + 1 + 1) 53 _ (0, 0) _ rfl (set8d _ _ _ _ _ _ _ _ HRS.out rfl) Tryz.underlying53 rfl Tryz.sizeItem) rfl ?_
   exact (HE.out false HM0.out).drew
 ·have HM0 : Hid (true = (keepI p x).isSome) := Lib.hid (by rw [HM.out]; simp; omega)
  go_region
  all_goals
   go_wp2
   refine bodyPost_ret (results_row_tmp rfl _ _ (w.heap.size + 1 + 1) 53 _ (0, 0) _ rfl (set8d _ _ _ _ _ _ _ _ HRS.out rfl) Tryz.underlying53 rfl Tryz.sizeItem) rfl ?_
   exact (HE.out true HM0.out).drew
end
end Go.Proofs.YtlnaihkombcbcaaGreat
end
noncomputable section
namespace Go.Proofs.YtlnaihkombcbcaaGreat
open Go.RowKit Go.Sort Go.Ev
structure ItB (z : Nat) (w : World) (x : Itm) (a1 : Option Addr) (c1 : Nat) (a2 : Option Addr) (c2 : Nat) (a3 : Option Addr) (c3 : Nat) (a6 : Option Addr) (c6 : Nat) (a7 : Option Addr) (c7 : Nat) : Prop where
 s : AtB z w (.sl x.sels.length 2 (x.sels.flatMap encC)) (.slice a1 x.sels.length c1)
 d : AtB z w (.sl x.decls.length 3 (x.decls.flatMap encD)) (.slice a2 x.decls.length c2)
 n : AtB z w (.sl x.names.length 1 (x.names.flatMap encN)) (.slice a3 x.names.length c3)
 v : AtB z w (.sl x.vals.length 5 (x.vals.flatMap encV)) (.slice a6 x.vals.length c6)
 l : AtB z w (.sl x.l.length 8 (x.l.flatMap encI)) (.slice a7 x.l.length c7)
section
variable {p : S3} {x : Itm} {z : Nat} {va vb vc : Value} {a1 a2 a3 a6 a7 : Option Addr} {c1 c2 c3 c6 c7 : Nat} {w : World}
theorem ItB.vrs {W : World} (h : ItB z w x a1 c1 a2 c2 a3 c3 a6 c6 a7 c7) (hz : z ≤ w.heap.size) (hb : Below w.heap.size w W) (C : Nat) :
 VRs W (gNw z C W) (encI x) [.int .i64 x.kind, .slice a1 x.sels.length c1, .slice a2 x.decls.length c2, .slice a3 x.names.length c3, .int .i64 x.mn, .int .i64 x.mx, .slice a6 x.vals.length c6, .slice a7 x.l.length c7] :=
 vrs_item (vr_old h.s (hb.mono hz) (Nat.le_trans hz hb.size)) (vr_old h.d (hb.mono hz) (Nat.le_trans hz hb.size)) (vr_old h.n (hb.mono hz) (Nat.le_trans hz hb.size)) (vr_old h.v (hb.mono hz) (Nat.le_trans hz hb.size)) (vr_old h.l (hb.mono hz) (Nat.le_trans hz hb.size))
theorem ItB.below {W : World} (h : ItB z w x a1 c1 a2 c2 a3 c3 a6 c6 a7 c7) (hb : Below z w W) : ItB z W x a1 c1 a2 c2 a3 c3 a6 c6 a7 c7 := ⟨h.s.below hb, h.d.below hb, h.n.below hb, h.v.below hb, h.l.below hb⟩
theorem keep_same {o : Obj} {W : World} {b : Bool} (hi : ItB z w x a1 c1 a2 c2 a3 c3 a6 c6 a7 c7) (h : KSt w.heap.size va vb vc o w W) (hz : z ≤ w.heap.size) (hk : keepI p x = if b = true then some x else none) :
 KeepPost p x z w (.returned (.tuple #[.agg #[.int .i64 x.kind, .slice a1 x.sels.length c1, .slice a2 x.decls.length c2, .slice a3 x.names.length c3, .int .i64 x.mn, .int .i64 x.mx, .slice a6 x.vals.length c6, .slice a7 x.l.length c7], .bool b]))
  ((((((((W.setCell ⟨w.heap.size + 1 + 1, 0, none⟩ (.int .i64 x.kind)).setCell ⟨w.heap.size + 1 + 1, 1, none⟩ (.slice a1 x.sels.length c1)).setCell ⟨w.heap.size + 1 + 1, 2, none⟩ (.slice a2 x.decls.length c2)).setCell ⟨w.heap.size + 1 + 1, 3, none⟩ (.slice a3 x.names.length c3)).setCell ⟨w.heap.size + 1 + 1, 4, none⟩ (.int .i64 x.mn)).setCell ⟨w.heap.size + 1 + 1, 5, none⟩ (.int .i64 x.mx)).setCell ⟨w.heap.size + 1 + 1, 6, none⟩ (.slice a6 x.vals.length c6)).setCell ⟨w.heap.size + 1 + 1, 7, none⟩ (.slice a7 x.l.length c7)) := by
 refine keep_end h hz (by rw [hk]; cases b <;> rfl) fun y hy => ?_
 rw [hk] at hy
 cases b
 ·cases hy
 ·cases hy
  exact hi.vrs hz h.below _
theorem keepI_other (h1 : x.kind ≠ 1) (h2 : x.kind ≠ 2) (h3 : x.kind ≠ 3) (h5 : x.kind ≠ 5) (h6 : x.kind ≠ 6) : keepI p x = if true = true then some x else none := by
 rw [keepI_eq, if_neg h1, if_neg h2, if_neg h3, if_neg h5, if_neg h6]; rfl
theorem keep_alloc (o1 o2 o3 : Obj) (hi : ItB z w x a1 c1 a2 c2 a3 c3 a6 c6 a7 c7) (hz : z ≤ w.heap.size) (hk : keepI p x = some x) :
 KeepPost p x z w (.returned (.tuple #[.agg #[.int .i64 x.kind, .slice a1 x.sels.length c1, .slice a2 x.decls.length c2, .slice a3 x.names.length c3, .int .i64 x.mn, .int .i64 x.mx, .slice a6 x.vals.length c6, .slice a7 x.l.length c7], .bool true])) (((w.alloc o1).alloc o2).alloc o3) := by
 have hb : Below w.heap.size w (((w.alloc o1).alloc o2).alloc o3) := (((Below.refl _ w).alloc (Nat.le_refl _) _).alloc (by simp) _).alloc (by simp; omega) _
 refine ⟨_, _, _, _, _, _, _, _, _, _, _, _, _, _, _, _, _, _, by rw [hk]; rfl, Lib.hid fun y hy => ?_, hb⟩
 rw [hk] at hy; cases hy
 exact hi.vrs hz hb _
theorem third_heap (w : World) (o1 o2 o3 : Obj) : (((w.alloc o1).alloc o2).alloc o3).heap[w.heap.size + 1 + 1]? = some o3 := by
 have := World.alloc_heap_new ((w.alloc o1).alloc o2) o3
 simpa using this
set_option maxRecDepth 100000 in
set_option maxHeartbeats 4000000 in
theorem keep_other (fa : ∃ a n c, va = .slice a n c) (fb : ∃ a n c, vb = .slice a n c) (fc : ∃ a n c, vc = .slice a n c) (hz : z ≤ w.heap.size) (h1 : x.kind ≠ 1) (h2 : x.kind ≠ 2) (h3 : x.kind ≠ 3) (h5 : x.kind ≠ 5) (h6 : x.kind ≠ 6)
 (hi : ItB z w x a1 c1 a2 c2 a3 c3 a6 c6 a7 c7) :
 Calls Tryz.prog 80 #[.agg #[va, vb, vc], itV x.kind a1 x.sels.length c1 a2 x.decls.length c2 a3 x.names.length c3 x.mn x.mx a6 x.vals.length c6 a7 x.l.length c7] w (KeepPost p x z w) := by
 have HE := Lib.hid fun o1 o2 o3 => keep_alloc (p := p) o1 o2 o3 hi hz (keepI_other h1 h2 h3 h5 h6)
 obtain ⟨va1, va2, va3, rfl⟩ := fa
 obtain ⟨vb1, vb2, vb3, rfl⟩ := fb
 obtain ⟨vc1, vc2, vc3, rfl⟩ := fc
 clear hi hz
 unfold itV
 go_enter Tryz.func80, Tryz.ntmps80
 go_wp2
 refine bodyPost_ret (results_row_tmp rfl _ _ (w.heap.size + 1 + 1) 53 _ (0, 0) _ rfl (third_heap _ _ _ _) Tryz.underlying53 rfl Tryz.sizeItem) rfl ?_
 exact HE.out _ _ _
theorem keepI_frames (h5 : x.kind = 5) : keepI p x = if kpF p.f x.names = true then some x else none := by
 rw [keepI_eq, if_neg (by omega), if_neg (by omega), if_neg (by omega), if_pos h5]
set_option maxRecDepth 100000 in
set_option maxHeartbeats 4000000 in
theorem keep_frames0 (fa : ∃ a n c, va = .slice a n c) (fb : ∃ a n c, vb = .slice a n c) (fc : ∃ a n c, vc = .slice a n c) (hz : z ≤ w.heap.size) (h5 : x.kind = 5) (hn : x.names.length ≠ 1)
 (hi : ItB z w x a1 c1 a2 c2 a3 c3 a6 c6 a7 c7) :
 Calls Tryz.prog 80 #[.agg #[va, vb, vc], itV x.kind a1 x.sels.length c1 a2 x.decls.length c2 a3 x.names.length c3 x.mn x.mx a6 x.vals.length c6 a7 x.l.length c7] w (KeepPost p x z w) := by
 obtain ⟨W3, hW3⟩ : ∃ W3, W3 = ((w.alloc (plO va vb vc)).alloc (itmO x.kind a1 x.sels.length c1 a2 x.decls.length c2 a3 x.names.length c3 x.mn x.mx a6 x.vals.length c6 a7 x.l.length c7)).alloc zO := ⟨_, rfl⟩
 have K0 : KSt w.heap.size va vb vc (itmO x.kind a1 x.sels.length c1 a2 x.decls.length c2 a3 x.names.length c3 x.mn x.mx a6 x.vals.length c6 a7 x.l.length c7) w W3 := by rw [hW3]; exact KSt.new w va vb vc _
 have hke : keepI p x = if true = true then some x else none := by
  rw [keepI_frames h5]
  have : kpF p.f x.names = true := by
   unfold kpF
   split
   ·rename_i n e; rw [e] at hn; simp at hn
   ·rfl
  rw [this]
 obtain ⟨x0, x1, x2, x3, x4, x5, x6, x7⟩ := itmO_cells K0.x
 obtain ⟨r0, r1, r2, r3, r4, r5, r6, r7, rf⟩ := zO_cells (B := w.heap.size + 1 + 1) K0.r
 have HRS := Lib.hid (show W3.heap[w.heap.size + 1 + 1]? = some (.cells #[.int .i64 0, .slice none 0 0, .slice none 0 0, .slice none 0 0, .int .i64 0, .int .i64 0, .slice none 0 0, .slice none 0 0] 53 (0, 0)) from K0.r)
 have HE := Lib.hid (keep_same (p := p) hi K0 hz hke)
 have HW3 := Lib.hid hW3
 obtain ⟨va1, va2, va3, rfl⟩ := fa
 obtain ⟨vb1, vb2, vb3, rfl⟩ := fb
 obtain ⟨vc1, vc2, vc3, rfl⟩ := fc
 have x0' := x0
 rw [hW3] at x0'
 have hd : ((x.names.length : Int) == 1) = false := beq_eq_false_iff_ne.2 (by omega)
 have hd2 : ((x.names.length : Int) != 1) = true := by simp; omega
 clear hi hz K0 hW3 hke
 rw [h5] at HE HW3 x0 x0' ⊢
 clear h5
 unfold itV
 unfold itmO plO zO at x0' HW3
 go_enter Tryz.func80, Tryz.ntmps80
 go_wp2_with fail
 rw [← HW3.out]
 clear x0' HW3
 go_region
 all_goals
  go_wp2
  refine bodyPost_ret (results_row_tmp rfl _ _ (w.heap.size + 1 + 1) 53 _ (0, 0) _ rfl (set8d _ _ _ _ _ _ _ _ HRS.out rfl) Tryz.underlying53 rfl Tryz.sizeItem) rfl ?_
  exact HE.out.drew
end
end Go.Proofs.YtlnaihkombcbcaaGreat
end
noncomputable section
namespace Go.Proofs.YtlnaihkombcbcaaGreat
open Go.RowKit Go.Sort Go.Ev
section
variable {p : S3} {x : Itm} {z : Nat} {va vb vc : Value} {a1 a2 a3 a6 a7 : Option Addr} {c1 c2 c3 c6 c7 : Nat} {w : World}
set_option maxRecDepth 100000 in
set_option maxHeartbeats 4000000 in
theorem keep_frames1 (fa : ∃ a n c, va = .slice a n c) (hp : SAt w vb p.f) (hpc : p.f.length ≤ 1000000) (fc : ∃ a n c, vc = .slice a n c) (hz : z ≤ w.heap.size) (h5 : x.kind = 5) {nm : ByteArray} (hn : x.names = [nm])
 (hi : ItB z w x a1 c1 a2 c2 a3 c3 a6 c6 a7 c7) :
 Calls Tryz.prog 80 #[.agg #[va, vb, vc], itV x.kind a1 x.sels.length c1 a2 x.decls.length c2 a3 x.names.length c3 x.mn x.mx a6 x.vals.length c6 a7 x.l.length c7] w (KeepPost p x z w) := by
 obtain ⟨b, o, e, hbz, hcell⟩ : ∃ b o, a3 = some ⟨b, o, none⟩ ∧ b < z ∧ w.cell? ⟨b, o, none⟩ = some (.string nm) := by
  rcases slB_cells encN 1 (fun _ => rfl) (by decide) hi.n with ⟨h0, -⟩ | ⟨b, o, cap, e, -, -, hbz, hc⟩
  ·rw [hn] at h0; cases h0
  ·cases e
   refine ⟨b, o, rfl, hbz, ?_⟩
   obtain ⟨u, e0, v0⟩ := hc 0 (by rw [hn]; simp) 0 _ rfl
   obtain rfl : u = _ := v0
   simp only [Nat.zero_mul, Nat.add_zero] at e0
   rw [e0]
   simp [hn]
 subst e
 have hn1 : x.names.length = 1 := by rw [hn]; rfl
 obtain ⟨W3, hW3⟩ : ∃ W3, W3 = ((w.alloc (plO va vb vc)).alloc (itmO x.kind a1 x.sels.length c1 a2 x.decls.length c2 (some ⟨b, o, none⟩) x.names.length c3 x.mn x.mx a6 x.vals.length c6 a7 x.l.length c7)).alloc zO := ⟨_, rfl⟩
 have K0 : KSt w.heap.size va vb vc (itmO x.kind a1 x.sels.length c1 a2 x.decls.length c2 (some ⟨b, o, none⟩) x.names.length c3 x.mn x.mx a6 x.vals.length c6 a7 x.l.length c7) w W3 := by rw [hW3]; exact KSt.new w va vb vc _
 have hke : keepI p x = if (p.f.contains (sOf nm)) = true then some x else none := by
  rw [keepI_frames h5, hn]; rfl
 obtain ⟨x0, x1, x2, x3, x4, x5, x6, x7⟩ := itmO_cells K0.x
 obtain ⟨p0, p1, p2⟩ := plO_cells K0.p
 obtain ⟨r0, r1, r2, r3, r4, r5, r6, r7, rf⟩ := zO_cells (B := w.heap.size + 1 + 1) K0.r
 have hcell' := ((K0.below.mono hz).cell (p := ⟨b, o, none⟩) hbz).trans hcell
 have HC := Lib.hid fun (W : World) (h : Below w.heap.size w W) => contains_sat (hp.below h) nm hpc
 have HB3 := Lib.hid K0.below
 have HRS := Lib.hid (show W3.heap[w.heap.size + 1 + 1]? = some (.cells #[.int .i64 0, .slice none 0 0, .slice none 0 0, .slice none 0 0, .int .i64 0, .int .i64 0, .slice none 0 0, .slice none 0 0] 53 (0, 0)) from K0.r)
 have HE := Lib.hid (keep_same (p := p) hi K0 hz hke)
 have HW3 := Lib.hid hW3
 obtain ⟨va1, va2, va3, rfl⟩ := fa
 obtain ⟨vb1, vb2, vb3, rfl⟩ := hp.form
 obtain ⟨vc1, vc2, vc3, rfl⟩ := fc
 have x0' := x0
 rw [hW3] at x0'
 clear hi hz K0 hW3 hke hcell hp hn hbz
 rw [hn1] at HE HW3 x3 x0' ⊢
 rw [h5] at HE HW3 x0 x0' ⊢
 clear h5 hn1
 generalize p.f.contains (sOf nm) = q at *
 unfold itV
 unfold itmO plO zO at x0' HW3
 go_enter Tryz.func80, Tryz.ntmps80
 go_wp2_with fail
 rw [← HW3.out]
 clear x0' HW3
 go_region_with ((go_at_call 115; refine (HC.out _ (by first | exact HB3.out | exact HB3.out.trans (Below.refl _ _).drew | exact below8 _ _ _ _ _ _ _ _ HB3.out (by omega) | exact (below8 _ _ _ _ _ _ _ _ HB3.out (by omega)).trans (Below.refl _ _).drew)).mono ?_; rintro e w' ⟨rfl, rfl⟩))
 all_goals
  go_wp2
  refine bodyPost_ret (results_row_tmp rfl _ _ (w.heap.size + 1 + 1) 53 _ (0, 0) _ rfl (set8d _ _ _ _ _ _ _ _ HRS.out rfl) Tryz.underlying53 rfl Tryz.sizeItem) rfl ?_
  exact HE.out.drew
theorem keepI_font (h6 : x.kind = 6) : keepI p x = if kpG p.g x.kind x.decls = true then some x else none := by
 rw [keepI_eq, if_neg (by omega), if_neg (by omega), if_neg (by omega), if_neg (by omega), if_pos h6]
set_option maxRecDepth 100000 in
set_option maxHeartbeats 4000000 in
theorem keep_font (fa : ∃ a n c, va = .slice a n c) (fb : ∃ a n c, vb = .slice a n c) (hp : SAt w vc p.g) (hpc : p.g.length ≤ 1000000) (hz : z ≤ w.heap.size) (h6 : x.kind = 6) (hn : x.decls.length ≤ 1000000) (hnl : ∀ d ∈ x.decls, d.l.length ≤ 1000000)
 (hi : ItB z w x a1 c1 a2 c2 a3 c3 a6 c6 a7 c7) :
 Calls Tryz.prog 80 #[.agg #[va, vb, vc], itV x.kind a1 x.sels.length c1 a2 x.decls.length c2 a3 x.names.length c3 x.mn x.mx a6 x.vals.length c6 a7 x.l.length c7] w (KeepPost p x z w) := by
 obtain ⟨W3, hW3⟩ : ∃ W3, W3 = ((w.alloc (plO va vb vc)).alloc (itmO x.kind a1 x.sels.length c1 a2 x.decls.length c2 a3 x.names.length c3 x.mn x.mx a6 x.vals.length c6 a7 x.l.length c7)).alloc zO := ⟨_, rfl⟩
 have K0 : KSt w.heap.size va vb vc (itmO x.kind a1 x.sels.length c1 a2 x.decls.length c2 a3 x.names.length c3 x.mn x.mx a6 x.vals.length c6 a7 x.l.length c7) w W3 := by rw [hW3]; exact KSt.new w va vb vc _
 have s0 : W3.heap.size = w.heap.size + 3 := by rw [hW3]; simp
 have HFM := (callsIn_wide (n := 7)).1 (family_in 7 (Nat.le_refl 7) x.kind x.mn x.mx a1 a3 a6 a7 a2 x.sels.length c1 x.names.length c3 x.vals.length c6 x.l.length c7 c2 x.decls W3 ((hi.d.below (K0.below.mono hz)).toAt (Nat.le_trans hz K0.below.size)) hn hnl)
 have HKI := Lib.hid (keepI_font (p := p) h6)
 obtain ⟨x0, x1, x2, x3, x4, x5, x6, x7⟩ := itmO_cells K0.x
 rw [hW3] at x0 x1 x2 x3 x4 x5 x6 x7
 have HC := Lib.hid fun (W : World) (h : Below w.heap.size w W) nm => contains_sat (hp.below h) nm hpc
 have HS := Lib.hid fun (W : World) (b : Bool) (h : KSt w.heap.size va vb vc (itmO x.kind a1 x.sels.length c1 a2 x.decls.length c2 a3 x.names.length c3 x.mn x.mx a6 x.vals.length c6 a7 x.l.length c7) w W) (hk : keepI p x = if b = true then some x else none) => keep_same (p := p) hi h hz hk
 have HK0 := Lib.hid K0
 have HW3 := Lib.hid hW3
 have HS0 := Lib.hid s0
 have HKG : Hid (kpG p.g x.kind x.decls = ((famM x.kind x.decls).2 && p.g.contains (sOf (famM x.kind x.decls).1))) := Lib.hid rfl
 generalize hfm : famM x.kind x.decls = fm at *
 obtain ⟨fn, fi⟩ := fm
 have HF := Lib.hid HFM
 obtain ⟨va1, va2, va3, rfl⟩ := fa
 obtain ⟨vb1, vb2, vb3, rfl⟩ := fb
 obtain ⟨vc1, vc2, vc3, rfl⟩ := hp.form
 clear hi hz K0 hW3 hp HFM hfm hn hnl s0
 rw [h6] at x0 HF HW3 HS HK0 ⊢
 clear h6
 unfold itV
 unfold itmO plO zO at x0 x1 x2 x3 x4 x5 x6 x7 HW3
 go_enter Tryz.func80, Tryz.ntmps80
 go_wp2_with fail
 rw [← HW3.out]
 refine HF.out.mono ?_
 rintro e w4 ⟨rfl, hB4⟩
 have K4 := HK0.out.step (by rw [← HS0.out]; exact hB4)
 clear x0 x1 x2 x3 x4 x5 x6 x7 HF HW3 HK0 HS0 hB4
 obtain ⟨x0, x1, x2, x3, x4, x5, x6, x7⟩ := itmO_cells K4.x
 obtain ⟨p0, p1, p2⟩ := plO_cells K4.p
 obtain ⟨r0, r1, r2, r3, r4, r5, r6, r7, rf⟩ := zO_cells (B := w.heap.size + 1 + 1) K4.r
 have HRS := Lib.hid (show w4.heap[w.heap.size + 1 + 1]? = some (.cells #[.int .i64 0, .slice none 0 0, .slice none 0 0, .slice none 0 0, .int .i64 0, .int .i64 0, .slice none 0 0, .slice none 0 0] 53 (0, 0)) from K4.r)
 have HB4 := Lib.hid K4.below
 have HK4 := Lib.hid K4
 clear K4
 cases fi
 ·have HE := Lib.hid (HS.out w4 false HK4.out (by rw [HKI.out, HKG.out]; rfl))
  clear HS HKI HKG HC
  go_wp2_with fail
  go_region
  all_goals
   go_wp2
   refine bodyPost_ret (results_row_tmp rfl _ _ (w.heap.size + 1 + 1) 53 _ (0, 0) _ rfl (set8d _ _ _ _ _ _ _ _ HRS.out rfl) Tryz.underlying53 rfl Tryz.sizeItem) rfl ?_
   exact HE.out.drew
 ·have HE := Lib.hid (HS.out w4 (p.g.contains (sOf fn)) HK4.out (by rw [HKI.out, HKG.out]; rfl))
  have HCF := Lib.hid fun (W : World) (h : Below w.heap.size w W) => HC.out W h fn
  clear HS HKI HKG HC
  generalize p.g.contains (sOf fn) = q at *
  go_wp2_with fail
  go_region_with ((go_at_call 115; refine (HCF.out _ (by first | exact HB4.out | exact HB4.out.trans (Below.refl _ _).drew | exact below8 _ _ _ _ _ _ _ _ HB4.out (by omega) | exact (below8 _ _ _ _ _ _ _ _ HB4.out (by omega)).trans (Below.refl _ _).drew)).mono ?_; rintro e w' ⟨rfl, rfl⟩))
  all_goals
   go_wp2
   refine bodyPost_ret (results_row_tmp rfl _ _ (w.heap.size + 1 + 1) 53 _ (0, 0) _ rfl (set8d _ _ _ _ _ _ _ _ HRS.out rfl) Tryz.underlying53 rfl Tryz.sizeItem) rfl ?_
   exact HE.out.drew
end
end Go.Proofs.YtlnaihkombcbcaaGreat
end
noncomputable section
namespace Go.Proofs.YtlnaihkombcbcaaGreat
open Go.RowKit Go.Sort Go.Ev
def DropPost (p : S3) (l : List Itm) (z : Nat) (w : World) (e : Ending) (w' : World) : Prop :=
 ∃ a c, e = .returned (.slice a (dropIs p l).length c) ∧ VR w' (gNw z w.heap.size w') (.sl (dropIs p l).length 8 ((dropIs p l).flatMap encI)) (.slice a (dropIs p l).length c) ∧ Below w.heap.size w w'
theorem KSt.putI {B : Nat} {va vb vc : Value} {o : Obj} {w W : World} (h : KSt B va vb vc o w W) {cs : Array Value} (ho : o = .cells cs 53 (0, 0)) (hs : cs.size = 8) (x0 x1 x2 x3 x4 x5 x6 x7 : Value) :
 KSt B va vb vc (.cells #[x0, x1, x2, x3, x4, x5, x6, x7] 53) w ((((((((W.setCell ⟨B + 1, 0, none⟩ x0).setCell ⟨B + 1, 1, none⟩ x1).setCell ⟨B + 1, 2, none⟩ x2).setCell ⟨B + 1, 3, none⟩ x3).setCell ⟨B + 1, 4, none⟩ x4).setCell ⟨B + 1, 5, none⟩ x5).setCell ⟨B + 1, 6, none⟩ x6).setCell ⟨B + 1, 7, none⟩ x7) := by
 subst ho
 refine ⟨below8 _ _ _ _ _ _ _ _ h.below (Nat.le_succ _), ?_, set8 _ _ _ _ _ _ _ _ h.x hs, ?_, ?_⟩
 ·rw [far8 _ _ _ _ _ _ _ _ (by omega)]; exact h.p
 ·rw [far8 _ _ _ _ _ _ _ _ (by omega)]; exact h.r
 ·have := (below8 (z := 0) x0 x1 x2 x3 x4 x5 x6 x7 (Below.refl 0 W) (Nat.zero_le (B + 1))).size
  exact Nat.le_trans h.size this
section
variable {p : S3} {x : Itm} {z : Nat} {va vb vc : Value} {a1 a2 a3 a6 a7 : Option Addr} {c1 c2 c3 c6 c7 : Nat} {w : World}
theorem keepI_media (h2 : x.kind = 2) : keepI p x = if (dropIs p x.l).length = 0 then none else some (.mk x.kind x.sels x.decls x.names x.mn x.mx x.vals (dropIs p x.l)) := by
 rw [keepI_eq, if_neg (by omega), if_pos h2]
theorem keepI_layer (h3 : x.kind = 3) : keepI p x = if (dropIs p x.l).length = 0 then some (.mk 4 [] [] x.names 0 0 [] []) else some (.mk x.kind x.sels x.decls x.names x.mn x.mx x.vals (dropIs p x.l)) := by
 rw [keepI_eq, if_neg (by omega), if_neg (by omega), if_pos h3]
theorem vrs_block {W : World} {a5 : Option Addr} {c5 : Nat} (hi : ItB z w x a1 c1 a2 c2 a3 c3 a6 c6 a7 c7) (hz : z ≤ w.heap.size) (hb : Below w.heap.size w W) (hv : VR W (gNw z (w.heap.size + 3) W) (.sl (dropIs p x.l).length 8 ((dropIs p x.l).flatMap encI)) (.slice a5 (dropIs p x.l).length c5)) :
 VRs W (gNw z (w.heap.size + 3) W) (encI (.mk x.kind x.sels x.decls x.names x.mn x.mx x.vals (dropIs p x.l))) [.int .i64 x.kind, .slice a1 x.sels.length c1, .slice a2 x.decls.length c2, .slice a3 x.names.length c3, .int .i64 x.mn, .int .i64 x.mx, .slice a6 x.vals.length c6, .slice a5 (dropIs p x.l).length c5] :=
 vrs_item (x := .mk x.kind x.sels x.decls x.names x.mn x.mx x.vals (dropIs p x.l)) (vr_old hi.s (hb.mono hz) (Nat.le_trans hz hb.size)) (vr_old hi.d (hb.mono hz) (Nat.le_trans hz hb.size)) (vr_old hi.n (hb.mono hz) (Nat.le_trans hz hb.size)) (vr_old hi.v (hb.mono hz) (Nat.le_trans hz hb.size)) hv
theorem vrs_layer {W : World} (hi : ItB z w x a1 c1 a2 c2 a3 c3 a6 c6 a7 c7) (hz : z ≤ w.heap.size) (hb : Below w.heap.size w W) (C : Nat) :
 VRs W (gNw z C W) (encI (.mk 4 [] [] x.names 0 0 [] [])) [.int .i64 4, .slice none 0 0, .slice none 0 0, .slice a3 x.names.length c3, .int .i64 0, .int .i64 0, .slice none 0 0, .slice none 0 0] :=
 vrs_item (x := .mk 4 [] [] x.names 0 0 [] []) ⟨none, 0, rfl, Nat.le_refl _, .inl rfl⟩ ⟨none, 0, rfl, Nat.le_refl _, .inl rfl⟩ (vr_old hi.n (hb.mono hz) (Nat.le_trans hz hb.size)) ⟨none, 0, rfl, Nat.le_refl _, .inl rfl⟩ ⟨none, 0, rfl, Nat.le_refl _, .inl rfl⟩
set_option maxRecDepth 100000 in
set_option maxHeartbeats 8000000 in
theorem keep_media (fa : ∃ a n c, va = .slice a n c) (fb : ∃ a n c, vb = .slice a n c) (fc : ∃ a n c, vc = .slice a n c) (hz : z ≤ w.heap.size) (hk : x.kind = 2)
 (hi : ItB z w x a1 c1 a2 c2 a3 c3 a6 c6 a7 c7) (hrec : ∀ W, Below w.heap.size w W → Calls Tryz.prog 28 #[.agg #[va, vb, vc], .slice a7 x.l.length c7] W (DropPost p x.l z W)) :
 Calls Tryz.prog 80 #[.agg #[va, vb, vc], itV x.kind a1 x.sels.length c1 a2 x.decls.length c2 a3 x.names.length c3 x.mn x.mx a6 x.vals.length c6 a7 x.l.length c7] w (KeepPost p x z w) := by
 obtain ⟨W3, hW3⟩ : ∃ W3, W3 = ((w.alloc (plO va vb vc)).alloc (itmO x.kind a1 x.sels.length c1 a2 x.decls.length c2 a3 x.names.length c3 x.mn x.mx a6 x.vals.length c6 a7 x.l.length c7)).alloc zO := ⟨_, rfl⟩
 have K0 : KSt w.heap.size va vb vc (itmO x.kind a1 x.sels.length c1 a2 x.decls.length c2 a3 x.names.length c3 x.mn x.mx a6 x.vals.length c6 a7 x.l.length c7) w W3 := by rw [hW3]; exact KSt.new w va vb vc _
 have s0 : W3.heap.size = w.heap.size + 3 := by rw [hW3]; simp
 have HR := Lib.hid (hrec W3 K0.below)
 obtain ⟨x0, -, -, -, -, -, -, x7⟩ := itmO_cells K0.x
 obtain ⟨p0, p1, p2⟩ := plO_cells K0.p
 rw [hW3] at x0 x7 p0 p1 p2
 have HKI := Lib.hid (keepI_media (p := p) hk)
 have HVB := Lib.hid fun (W : World) (a5 : Option Addr) (c5 : Nat) (hb : Below w.heap.size w W) hv => vrs_block (p := p) (a5 := a5) (c5 := c5) hi hz hb hv
 have HVL := Lib.hid fun (W : World) (hb : Below w.heap.size w W) => vrs_layer hi hz hb (w.heap.size + 3)
 have HZ := Lib.hid hz
 obtain ⟨va1, va2, va3, rfl⟩ := fa
 obtain ⟨vb1, vb2, vb3, rfl⟩ := fb
 obtain ⟨vc1, vc2, vc3, rfl⟩ := fc
 have HK0 := Lib.hid K0
 have HW3 := Lib.hid hW3
 have HS0 := Lib.hid s0
 clear hrec hi hz K0 hW3 s0
 rw [hk] at x0 HW3 HK0 HVB HKI ⊢
 clear hk
 unfold itV
 unfold itmO plO zO at x0 x7 p0 p1 p2 HW3
 go_enter Tryz.func80, Tryz.ntmps80
 go_wp2_with fail
 rw [← HW3.out]
 refine HR.out.mono ?_
 rintro e w5 ⟨a5, c5, rfl, hv5, hB5⟩
 rw [HS0.out] at hv5 hB5
 have K5 := HK0.out.step hB5
 have K6 := K5.putL a5 (dropIs p x.l).length c5
 have hX5 := itmO_cells K5.x
 have f57 := Lib.frozen_of_heap (show w5.heap[w.heap.size + 1]? = some (.cells _ _ (0, 0)) from K5.x) 7
 obtain ⟨-, -, -, -, -, -, -, y7⟩ := hX5
 have HV5 := Lib.hid hv5
 have HK6 := Lib.hid K6
 have HWS := Lib.hid (show w5.heap.size ≤ (w5.setCell ⟨w.heap.size + 1, 7, none⟩ (.slice a5 (dropIs p x.l).length c5)).heap.size from by simp [World.setCell])
 have HWB := Lib.hid fun rb (h : rb ≠ w.heap.size + 1) => (put_far (W := w5) (b := w.heap.size + 1) (o := 7) (.slice a5 (dropIs p x.l).length c5) rfl h)
 have HV6 : Hid (VR (w5.setCell ⟨w.heap.size + 1, 7, none⟩ (.slice a5 (dropIs p x.l).length c5)) (gNw z (w.heap.size + 3) (w5.setCell ⟨w.heap.size + 1, 7, none⟩ (.slice a5 (dropIs p x.l).length c5))) (.sl (dropIs p x.l).length 8 ((dropIs p x.l).flatMap encI)) (.slice a5 (dropIs p x.l).length c5)) :=
  Lib.hid (vr_new HV5.out (Nat.le_refl _) (fun rb h _ => HWB.out rb (by have := HZ.out; omega)) HWS.out)
 clear x0 x7 p0 p1 p2 HR HW3 HS0 HK0 K5 K6 hv5 hB5 HV5 HWS HWB
 have HE := Lib.hid fun (b : Bool) (hb : b = (keepI p x).isSome) =>
  keep_end (p := p) (x := x) (z := z) (kd := 2) (a1 := a1) (n1 := x.sels.length) (c1 := c1) (a2 := a2) (n2 := x.decls.length) (c2 := c2) (a3 := a3) (n3 := x.names.length) (c3 := c3) (mn := x.mn) (mx := x.mx) (a6 := a6) (n6 := x.vals.length) (c6 := c6) (a7 := a5) (n7 := (dropIs p x.l).length) (c7 := c5) (b := b) HK6.out HZ.out hb fun y hy => by
   have hI := HKI.out
   by_cases hm0 : (dropIs p x.l).length = 0
   ·rw [if_pos hm0] at hI
    rw [hI] at hy; cases hy
   ·rw [if_neg hm0] at hI
    rw [hI] at hy
    cases hy
    exact HVB.out _ a5 c5 HK6.out.below HV6.out
 have HM : Hid ((keepI p x).isSome = decide ((dropIs p x.l).length ≠ 0)) := Lib.hid (by
  rw [HKI.out]
  by_cases hm0 : (dropIs p x.l).length = 0
  ·rw [if_pos hm0]; simp [hm0]
  ·rw [if_neg hm0]; simp [hm0])
 clear HKI HVB HVL HV6
 generalize (dropIs p x.l).length = m at *
 go_wp2_with fail
 obtain ⟨x0, x1, x2, x3, x4, x5, x6, x7⟩ := itmO_cells HK6.out.x
 obtain ⟨r0, r1, r2, r3, r4, r5, r6, r7, rf⟩ := zO_cells (B := w.heap.size + 1 + 1) HK6.out.r
 have HRS := Lib.hid (show (w5.setCell ⟨w.heap.size + 1, 7, none⟩ (.slice a5 m c5)).heap[w.heap.size + 1 + 1]? = some (.cells #[.int .i64 0, .slice none 0 0, .slice none 0 0, .slice none 0 0, .int .i64 0, .int .i64 0, .slice none 0 0, .slice none 0 0] 53 (0, 0)) from HK6.out.r)
 clear HK6 y7 f57
 generalize w5.setCell ⟨w.heap.size + 1, 7, none⟩ (.slice a5 m c5) = w6 at *
 rcases Nat.eq_zero_or_pos m with hm0 | hm0
 ·subst hm0
  have HM0 : Hid (false = (keepI p x).isSome) := Lib.hid (by rw [HM.out]; rfl)
  go_region
  all_goals
   go_wp2
   refine bodyPost_ret (results_row_tmp rfl _ _ (w.heap.size + 1 + 1) 53 _ (0, 0) _ rfl (set8d _ _ _ _ _ _ _ _ HRS.out rfl) Tryz.underlying53 rfl Tryz.sizeItem) rfl ?_
   exact (HE.out false HM0.out).drew
 ·have HM0 : Hid (true = (keepI p x).isSome) := Lib.hid (by rw [HM.out]; simp; omega)
  go_region
  all_goals
   go_wp2
   refine bodyPost_ret (results_row_tmp rfl _ _ (w.heap.size + 1 + 1) 53 _ (0, 0) _ rfl (set8d _ _ _ _ _ _ _ _ HRS.out rfl) Tryz.underlying53 rfl Tryz.sizeItem) rfl ?_
   exact (HE.out true HM0.out).drew
end
end Go.Proofs.YtlnaihkombcbcaaGreat
end
noncomputable section
namespace Go.Proofs.YtlnaihkombcbcaaGreat
open Go.RowKit Go.Sort Go.Ev
section
variable {p : S3} {x : Itm} {z : Nat} {va vb vc : Value} {a1 a2 a3 a6 a7 : Option Addr} {c1 c2 c3 c6 c7 : Nat} {w : World}
set_option maxRecDepth 100000 in
set_option maxHeartbeats 8000000 in
theorem keep_layer (fa : ∃ a n c, va = .slice a n c) (fb : ∃ a n c, vb = .slice a n c) (fc : ∃ a n c, vc = .slice a n c) (hz : z ≤ w.heap.size) (hk : x.kind = 3)
 (hi : ItB z w x a1 c1 a2 c2 a3 c3 a6 c6 a7 c7) (hrec : ∀ W, Below w.heap.size w W → Calls Tryz.prog 28 #[.agg #[va, vb, vc], .slice a7 x.l.length c7] W (DropPost p x.l z W)) :
 Calls Tryz.prog 80 #[.agg #[va, vb, vc], itV x.kind a1 x.sels.length c1 a2 x.decls.length c2 a3 x.names.length c3 x.mn x.mx a6 x.vals.length c6 a7 x.l.length c7] w (KeepPost p x z w) := by
 obtain ⟨W3, hW3⟩ : ∃ W3, W3 = ((w.alloc (plO va vb vc)).alloc (itmO x.kind a1 x.sels.length c1 a2 x.decls.length c2 a3 x.names.length c3 x.mn x.mx a6 x.vals.length c6 a7 x.l.length c7)).alloc zO := ⟨_, rfl⟩
 have K0 : KSt w.heap.size va vb vc (itmO x.kind a1 x.sels.length c1 a2 x.decls.length c2 a3 x.names.length c3 x.mn x.mx a6 x.vals.length c6 a7 x.l.length c7) w W3 := by rw [hW3]; exact KSt.new w va vb vc _
 have s0 : W3.heap.size = w.heap.size + 3 := by rw [hW3]; simp
 have HR := Lib.hid (hrec W3 K0.below)
 obtain ⟨x0, -, -, -, -, -, -, x7⟩ := itmO_cells K0.x
 obtain ⟨p0, p1, p2⟩ := plO_cells K0.p
 rw [hW3] at x0 x7 p0 p1 p2
 have HKI := Lib.hid (keepI_layer (p := p) hk)
 have HVB := Lib.hid fun (W : World) (a5 : Option Addr) (c5 : Nat) (hb : Below w.heap.size w W) hv => vrs_block (p := p) (a5 := a5) (c5 := c5) hi hz hb hv
 have HVL := Lib.hid fun (W : World) (hb : Below w.heap.size w W) => vrs_layer hi hz hb (w.heap.size + 3)
 have HZ := Lib.hid hz
 obtain ⟨va1, va2, va3, rfl⟩ := fa
 obtain ⟨vb1, vb2, vb3, rfl⟩ := fb
 obtain ⟨vc1, vc2, vc3, rfl⟩ := fc
 have HK0 := Lib.hid K0
 have HW3 := Lib.hid hW3
 have HS0 := Lib.hid s0
 clear hrec hi hz K0 hW3 s0
 rw [hk] at x0 HW3 HK0 HVB HKI ⊢
 clear hk
 unfold itV
 unfold itmO plO zO at x0 x7 p0 p1 p2 HW3
 go_enter Tryz.func80, Tryz.ntmps80
 go_wp2_with fail
 rw [← HW3.out]
 refine HR.out.mono ?_
 rintro e w5 ⟨a5, c5, rfl, hv5, hB5⟩
 rw [HS0.out] at hv5 hB5
 have K5 := HK0.out.step hB5
 have K6 := K5.putL a5 (dropIs p x.l).length c5
 have hX5 := itmO_cells K5.x
 have f57 := Lib.frozen_of_heap (show w5.heap[w.heap.size + 1]? = some (.cells _ _ (0, 0)) from K5.x) 7
 obtain ⟨-, -, -, -, -, -, -, y7⟩ := hX5
 have HV5 := Lib.hid hv5
 have HK6 := Lib.hid K6
 have HWS := Lib.hid (show w5.heap.size ≤ (w5.setCell ⟨w.heap.size + 1, 7, none⟩ (.slice a5 (dropIs p x.l).length c5)).heap.size from by simp [World.setCell])
 have HWB := Lib.hid fun rb (h : rb ≠ w.heap.size + 1) => (put_far (W := w5) (b := w.heap.size + 1) (o := 7) (.slice a5 (dropIs p x.l).length c5) rfl h)
 have HV6 : Hid (VR (w5.setCell ⟨w.heap.size + 1, 7, none⟩ (.slice a5 (dropIs p x.l).length c5)) (gNw z (w.heap.size + 3) (w5.setCell ⟨w.heap.size + 1, 7, none⟩ (.slice a5 (dropIs p x.l).length c5))) (.sl (dropIs p x.l).length 8 ((dropIs p x.l).flatMap encI)) (.slice a5 (dropIs p x.l).length c5)) :=
  Lib.hid (vr_new HV5.out (Nat.le_refl _) (fun rb h _ => HWB.out rb (by have := HZ.out; omega)) HWS.out)
 clear x0 x7 p0 p1 p2 HR HW3 HS0 HK0 K5 K6 hv5 hB5 HV5 HWS HWB
 have HE1 := Lib.hid fun (hm0 : (dropIs p x.l).length ≠ 0) =>
  keep_end (p := p) (x := x) (z := z) (kd := 3) (a1 := a1) (n1 := x.sels.length) (c1 := c1) (a2 := a2) (n2 := x.decls.length) (c2 := c2) (a3 := a3) (n3 := x.names.length) (c3 := c3) (mn := x.mn) (mx := x.mx) (a6 := a6) (n6 := x.vals.length) (c6 := c6) (a7 := a5) (n7 := (dropIs p x.l).length) (c7 := c5) (b := true) HK6.out HZ.out (by rw [HKI.out, if_neg hm0]; rfl) fun y hy => by
   rw [HKI.out, if_neg hm0] at hy
   cases hy
   exact HVB.out _ a5 c5 HK6.out.below HV6.out
 have HE0 := Lib.hid fun (hm0 : (dropIs p x.l).length = 0) (W : World) (o : Obj) (K7 : KSt w.heap.size (.slice va1 va2 va3) (.slice vb1 vb2 vb3) (.slice vc1 vc2 vc3) o w W) =>
  keep_end (p := p) (x := x) (z := z) (b := true) (kd := 4) (a1 := none) (n1 := 0) (c1 := 0) (a2 := none) (n2 := 0) (c2 := 0) (a3 := a3) (n3 := x.names.length) (c3 := c3) (mn := 0) (mx := 0) (a6 := none) (n6 := 0) (c6 := 0) (a7 := none) (n7 := 0) (c7 := 0) K7 HZ.out (by rw [HKI.out, if_pos hm0]; rfl) fun y hy => by
   rw [HKI.out, if_pos hm0] at hy; cases hy
   exact HVL.out _ K7.below
 clear HKI HVB HVL HV6
 generalize (dropIs p x.l).length = m at *
 go_upto_region 15 with fail
 obtain ⟨x0, x1, x2, x3, x4, x5, x6, x7⟩ := itmO_cells HK6.out.x
 obtain ⟨r0, r1, r2, r3, r4, r5, r6, r7, rf⟩ := zO_cells (B := w.heap.size + 1 + 1) HK6.out.r
 have fx := Lib.frozen_of_heap (show (w5.setCell ⟨w.heap.size + 1, 7, none⟩ (.slice a5 m c5)).heap[w.heap.size + 1]? = some (.cells _ _ (0, 0)) from HK6.out.x)
 have HRS := Lib.hid (show (w5.setCell ⟨w.heap.size + 1, 7, none⟩ (.slice a5 m c5)).heap[w.heap.size + 1 + 1]? = some (.cells #[.int .i64 0, .slice none 0 0, .slice none 0 0, .slice none 0 0, .int .i64 0, .int .i64 0, .slice none 0 0, .slice none 0 0] 53 (0, 0)) from HK6.out.r)
 clear y7 f57
 generalize w5.setCell ⟨w.heap.size + 1, 7, none⟩ (.slice a5 m c5) = w6 at *
 rcases Nat.eq_zero_or_pos m with hm0 | hm0
 ·subst hm0
  clear HE1
  go_upto_region 17 with fail
  have K7 := HK6.out.putI rfl rfl (.int .i64 4) (.slice none 0 0) (.slice none 0 0) (.slice a3 x.names.length c3) (.int .i64 0) (.int .i64 0) (.slice none 0 0) (.slice none 0 0)
  have HE := Lib.hid (HE0.out rfl _ _ K7)
  have HX7 := K7.x
  have HR7 := K7.r
  clear HE0 HRS K7 HK6 x0 x1 x2 x3 x4 x5 x6 x7 r0 r1 r2 r3 r4 r5 r6 r7 rf fx
  generalize ((((((((w6.setCell ⟨w.heap.size + 1, 0, none⟩ (.int .i64 4)).setCell ⟨w.heap.size + 1, 1, none⟩ (.slice none 0 0)).setCell ⟨w.heap.size + 1, 2, none⟩ (.slice none 0 0)).setCell ⟨w.heap.size + 1, 3, none⟩ (.slice a3 x.names.length c3)).setCell ⟨w.heap.size + 1, 4, none⟩ (.int .i64 0)).setCell ⟨w.heap.size + 1, 5, none⟩ (.int .i64 0)).setCell ⟨w.heap.size + 1, 6, none⟩ (.slice none 0 0)).setCell ⟨w.heap.size + 1, 7, none⟩ (.slice none 0 0)) = w7 at *
  obtain ⟨x0, x1, x2, x3, x4, x5, x6, x7⟩ := itmO_cells (a1 := none) (n1 := 0) (c1 := 0) (a2 := none) (n2 := 0) (c2 := 0) (a6 := none) (n6 := 0) (c6 := 0) (a7 := none) (n7 := 0) (c7 := 0) HX7
  obtain ⟨r0, r1, r2, r3, r4, r5, r6, r7, rf⟩ := zO_cells (B := w.heap.size + 1 + 1) HR7
  have HRS := Lib.hid (show w7.heap[w.heap.size + 1 + 1]? = some (.cells #[.int .i64 0, .slice none 0 0, .slice none 0 0, .slice none 0 0, .int .i64 0, .int .i64 0, .slice none 0 0, .slice none 0 0] 53 (0, 0)) from HR7)
  clear HX7 HR7
  go_wp2
  refine bodyPost_ret (results_row_tmp rfl _ _ (w.heap.size + 1 + 1) 53 _ (0, 0) _ rfl (set8 _ _ _ _ _ _ _ _ HRS.out rfl) Tryz.underlying53 rfl Tryz.sizeItem) rfl ?_
  exact HE.out
 ·clear HE0
  go_wp2
  refine bodyPost_ret (results_row_tmp rfl _ _ (w.heap.size + 1 + 1) 53 _ (0, 0) _ rfl (set8 _ _ _ _ _ _ _ _ HRS.out rfl) Tryz.underlying53 rfl Tryz.sizeItem) rfl ?_
  exact HE1.out (by omega)
end
end Go.Proofs.YtlnaihkombcbcaaGreat
end
noncomputable section
namespace Go.Proofs.YtlnaihkombcbcaaGreat
open Go.RowKit Go.Sort Go.Ev
def smallP (s : S3) : Prop := s.c.length ≤ 1000000 ∧ s.f.length ≤ 1000000 ∧ s.g.length ≤ 1000000
section
variable {p : S3} {x : Itm} {z : Nat} {pv : Value} {a1 a2 a3 a6 a7 : Option Addr} {c1 c2 c3 c6 c7 : Nat} {w : World}
theorem keep_any (hp : PlAt w pv p) (hs : smallP p) (hz : z ≤ w.heap.size) (hx : okI x) (hi : ItB z w x a1 c1 a2 c2 a3 c3 a6 c6 a7 c7)
 (hrec : ∀ W, Below w.heap.size w W → Calls Tryz.prog 28 #[pv, .slice a7 x.l.length c7] W (DropPost p x.l z W)) :
 Calls Tryz.prog 80 #[pv, itV x.kind a1 x.sels.length c1 a2 x.decls.length c2 a3 x.names.length c3 x.mn x.mx a6 x.vals.length c6 a7 x.l.length c7] w (KeepPost p x z w) := by
 obtain ⟨va, vb, vc, rfl, p1, p2, p3⟩ := hp
 obtain ⟨s1, s2, s3⟩ := hs
 obtain ⟨⟨hd1, hd2⟩, -⟩ := (okI_eq x).1 hx
 have hn : x.decls.length ≤ 1000000 := by omega
 have hnl : ∀ d ∈ x.decls, d.l.length ≤ 1000000 := fun d hd => by
  have := (hd2 d hd).1
  have h2 := cntVs_len d.l
  omega
 by_cases h1 : x.kind = 1
 ·exact keep_rule p1 p2.form p3.form s1 hz h1 hn hi.s hi.d hi.n hi.v hi.l
 by_cases h2 : x.kind = 2
 ·exact keep_media p1.form p2.form p3.form hz h2 hi hrec
 by_cases h3 : x.kind = 3
 ·exact keep_layer p1.form p2.form p3.form hz h3 hi hrec
 by_cases h5 : x.kind = 5
 ·by_cases h51 : x.names.length = 1
  ·obtain ⟨n, hn⟩ := List.length_eq_one_iff.1 h51
   exact keep_frames1 p1.form p2 s2 p3.form hz h5 hn hi
  ·exact keep_frames0 p1.form p2.form p3.form hz h5 h51 hi
 by_cases h6 : x.kind = 6
 ·exact keep_font p1.form p2.form p3 s3 hz h6 hn hnl hi
 ·exact keep_other p1.form p2.form p3.form hz h1 h2 h3 h5 h6 hi
end
structure DrSt (z B : Nat) (o : Obj) (w : World) (l : List Itm) (v : Value) (W : World) : Prop where
 below : Below B w W
 box : W.heap[B]? = some o
 row : ∃ news, W.ownsRow (B + 1) 53 8 v l.length news ∧ VRs W ⟨fun _ => none, fun b => (b < z ∨ B + 1 ≤ b) ∧ b < W.heap.size ∧ v.ownBlock ≠ some b⟩ (l.flatMap encI) news
 size : B + 1 ≤ W.heap.size
section
variable {z B : Nat} {o : Obj} {w W W' : World} {l : List Itm} {v : Value}
theorem DrSt.step (h : DrSt z B o w l v W) (hb : Below W.heap.size W W') : DrSt z B o w l v W' := by
 obtain ⟨news, h1, h2⟩ := h.row
 refine ⟨h.below.trans (hb.mono (Nat.le_trans (Nat.le_succ _) h.size)), (hb.block _ (Nat.lt_of_lt_of_le (Nat.lt_succ_self _) h.size)).trans h.box, ⟨news, owns_below h1 hb, ?_⟩, Nat.le_trans h.size hb.size⟩
 exact VRs_keep (I := fun b => (b < z ∨ B + 1 ≤ b) ∧ b < W.heap.size ∧ v.ownBlock ≠ some b) (I' := fun b => (b < z ∨ B + 1 ≤ b) ∧ b < W'.heap.size ∧ v.ownBlock ≠ some b) (fun _ hr => ⟨hr.1, Nat.lt_of_lt_of_le hr.2.1 hb.size, hr.2.2⟩) (fun rb hr => hb.block rb hr.2.1) _ h2
theorem DrSt.new (w : World) (o : Obj) : DrSt z w.heap.size o w [] (.slice none 0 0) (w.alloc o) :=
 ⟨below_alloc _ _, World.alloc_heap_new _ _, ⟨[], World.ownsRow_nil _ _ _ _, by rw [List.flatMap_nil, VRs]⟩, by simp⟩
theorem own_lt {C e sz n : Nat} {xs : List Value} (h : W.ownsRow C e sz v n xs) {g : Nat} (hg : v.ownBlock = some g) : C ≤ g ∧ g < W.heap.size := h.lt g hg
theorem DrSt.app {y : Itm} {vs news : List Value} {v' : Value} (h : DrSt z B o w l v W) (h0 : W.ownsRow (B + 1) 53 8 v l.length news) (hv0 : VRs W ⟨fun _ => none, fun b => (b < z ∨ B + 1 ≤ b) ∧ b < W.heap.size ∧ v.ownBlock ≠ some b⟩ (l.flatMap encI) news)
 (hy : VRs W ⟨fun _ => none, fun b => (b < z ∨ B + 1 ≤ b) ∧ b < W.heap.size ∧ v.ownBlock ≠ some b⟩ (encI y) vs)
 (hown : W'.ownsRow (B + 1) 53 8 v' (l.length + 1) (news ++ vs)) (hg : W.grownBy W' v.ownBlock) (hblk : v'.ownBlock = v.ownBlock ∨ v'.ownBlock = some W.heap.size) : DrSt z B o w (l ++ [y]) v' W' := by
 have hb : Below (B + 1) W W' := (Below.refl (B + 1) W).grown hg h.size (fun g e => (own_lt h0 e).1)
 have hsame : ∀ rb, rb < W.heap.size → v.ownBlock ≠ some rb → W'.heap[rb]? = W.heap[rb]? := fun rb h1 h2 => hg.block rb h1 fun e => h2 e.symm
 have hI : ∀ rb, (rb < z ∨ B + 1 ≤ rb) ∧ rb < W.heap.size ∧ v.ownBlock ≠ some rb → (rb < z ∨ B + 1 ≤ rb) ∧ rb < W'.heap.size ∧ v'.ownBlock ≠ some rb := fun rb hr => by
  refine ⟨hr.1, Nat.lt_of_lt_of_le hr.2.1 hb.size, fun e => ?_⟩
  rcases hblk with h9 | h9
  ·exact hr.2.2 (h9 ▸ e)
  ·rw [h9] at e
   have : W.heap.size = rb := by simpa using e
   omega
 refine ⟨h.below.trans (hb.mono (Nat.le_succ _)), (hb.block _ (Nat.lt_succ_self _)).trans h.box, ⟨news ++ vs, by rw [List.length_append]; exact hown, ?_⟩, Nat.le_trans h.size hb.size⟩
 rw [List.flatMap_append, List.flatMap_cons, List.flatMap_nil, List.append_nil]
 exact (VRs_keep (I' := fun b => (b < z ∨ B + 1 ≤ b) ∧ b < W'.heap.size ∧ v'.ownBlock ≠ some b) hI (fun rb hr => hsame rb hr.2.1 hr.2.2) _ hv0).append (VRs_keep (I' := fun b => (b < z ∨ B + 1 ≤ b) ∧ b < W'.heap.size ∧ v'.ownBlock ≠ some b) hI (fun rb hr => hsame rb hr.2.1 hr.2.2) _ hy)
theorem DrSt.new_item {y : Itm} {vs : List Value} {w2 W4 : World} {C : Nat} (h : DrSt z B o w l v W) (hz : z ≤ B) (hC : W.heap.size ≤ C) (hv : VRs w2 (gNw z C w2) (encI y) vs) (hb : Below w2.heap.size w2 W4) :
 VRs W4 ⟨fun _ => none, fun b => (b < z ∨ B + 1 ≤ b) ∧ b < W4.heap.size ∧ v.ownBlock ≠ some b⟩ (encI y) vs := by
 obtain ⟨news, h1, -⟩ := h.row
 have hs := h.size
 refine VRs_keep (I := (gNw z C w2).I) (I' := fun b => (b < z ∨ B + 1 ≤ b) ∧ b < W4.heap.size ∧ v.ownBlock ≠ some b) (fun rb hr => ⟨hr.1.imp id fun h => by omega, Nat.lt_of_lt_of_le hr.2 hb.size, fun e => ?_⟩) (fun rb hr => hb.block rb hr.2) _ hv
 have := own_lt h1 e
 rcases hr.1 with h | h <;> omega
theorem DrSt.done (h : DrSt z w.heap.size o w l v W) : ∃ a c, v = .slice a l.length c ∧ VR W (gNw z w.heap.size W) (.sl l.length 8 (l.flatMap encI)) (.slice a l.length c) ∧ Below w.heap.size w W := by
 obtain ⟨news, h1, h2⟩ := h.row
 rcases h1.2 with ⟨rfl, h0⟩ | ⟨g, cap, cur, rfl, hgB, hg, hc, -, -, ht⟩
 ·refine ⟨none, 0, by rw [h0], ⟨none, 0, rfl, by omega, .inl h0⟩, h.below⟩
 ·have hgl := (Array.getElem?_eq_some_iff.1 hg).1
  have hI : (gNw z w.heap.size W).I g := ⟨.inr (by omega), hgl⟩
  refine ⟨_, cap, rfl, ⟨_, cap, rfl, hc, .inr ⟨g, 0, rfl, RowR.mk hI fun i a hi => ?_⟩⟩, h.below⟩
  obtain ⟨u, e1, e2⟩ := VRs.get h2 hi
  refine ⟨u, ?_, VR_keep (I' := (gNw z w.heap.size W).I) (fun _ hr => ⟨hr.1.imp id fun h => by omega, hr.2.1⟩) (fun _ _ => rfl) a e2⟩
  rw [Nat.zero_add, Lib.cell_of_heap hg]
  have hlt : i < l.length * 8 := by rw [← len_flatI]; exact (List.getElem?_eq_some_iff.1 hi).1
  rw [← ht, List.getElem?_take, if_pos hlt] at e1
  simpa using e1
end
end Go.Proofs.YtlnaihkombcbcaaGreat
end
noncomputable section
namespace Go.Proofs.YtlnaihkombcbcaaGreat
open Go.RowKit Go.Sort Go.Ev
theorem plW_cells {W : World} {B : Nat} {va vb vc : Value} (h : W.heap[B]? = some (.cells #[va, vb, vc] 41)) : W.cell? ⟨B, 0, none⟩ = some va ∧ W.cell? ⟨B, 1, none⟩ = some vb ∧ W.cell? ⟨B, 2, none⟩ = some vc := by
 refine ⟨?_, ?_, ?_⟩ <;> (rw [Lib.cell_of_heap h]; rfl)
theorem item8_cells {W : World} {B : Nat} {t : TypeId} {x0 x1 x2 x3 x4 x5 x6 x7 : Value} (h : W.heap[B]? = some (.cells #[x0, x1, x2, x3, x4, x5, x6, x7] t)) :
 W.cell? ⟨B, 0, none⟩ = some x0 ∧ W.cell? ⟨B, 1, none⟩ = some x1 ∧ W.cell? ⟨B, 2, none⟩ = some x2 ∧ W.cell? ⟨B, 3, none⟩ = some x3 ∧ W.cell? ⟨B, 4, none⟩ = some x4 ∧ W.cell? ⟨B, 5, none⟩ = some x5 ∧ W.cell? ⟨B, 6, none⟩ = some x6 ∧ W.cell? ⟨B, 7, none⟩ = some x7 := by
 refine ⟨?_, ?_, ?_, ?_, ?_, ?_, ?_, ?_⟩ <;> (rw [Lib.cell_of_heap h]; rfl)
theorem list8_cells {W : World} {B : Nat} {t : TypeId} {x0 x1 x2 x3 x4 x5 x6 x7 : Value} (h : W.heap[B]? = some (.cells #[x0, x1, x2, x3, x4, x5, x6, x7] t)) : ∀ j u, [x0, x1, x2, x3, x4, x5, x6, x7][j]? = some u → W.cell? ((⟨B, 0, none⟩ : Addr).add j) = some u := by
 intro j u hj
 rw [Addr.add_lit, Nat.zero_add, Lib.cell_of_heap h]
 simpa using hj
set_option maxRecDepth 100000 in
set_option maxHeartbeats 8000000 in
theorem drop_any (p : S3) (hs : smallP p) (z : Nat) (N : Nat) : ∀ (l : List Itm), SizeOf.sizeOf l ≤ N → okIs l → cntIs l ≤ 1000 → ∀ (v pv : Value) (w : World), AtB z w (.sl l.length 8 (l.flatMap encI)) v → z ≤ w.heap.size → PlAt w pv p →
 Calls Tryz.prog 28 #[pv, v] w (DropPost p l z w) := by
 induction N with
 | zero => intro l hl; cases l <;> simp at hl <;> omega
 | succ N ih =>
   intro l hl hok hcn v pv w hv hz hp
   obtain ⟨i0, hi, hz0, hz1, hz2⟩ := info_parts Tryz.infoItem
   have hlen : l.length ≤ 1000 := Nat.le_trans (cntIs_len l) hcn
   have hp' := hp
   obtain ⟨va, vb, vc, rfl, p1, p2, p3⟩ := hp
   have D0 : DrSt z w.heap.size (.cells #[va, vb, vc] 41) w [] (.slice none 0 0) (w.alloc (.cells #[va, vb, vc] 41)) := DrSt.new w _
   obtain ⟨va1, va2, va3, rfl⟩ := p1.form
   obtain ⟨vb1, vb2, vb3, rfl⟩ := p2.form
   obtain ⟨vc1, vc2, vc3, rfl⟩ := p3.form
   have D0H := Lib.hid D0
   rcases slB_cells encI 8 encI_len (by decide) hv with ⟨rfl, ad, cap, rfl⟩ | ⟨b, o, cap, rfl, hcap, hpos, hbz, hc⟩
   ·clear ih hl hok hcn hv hz hp' p1 p2 p3 D0
    go_enter Tryz.func28, Tryz.ntmps28
    go_wp2
    go_loopw [5, 7, 8, 9, 12] (fun v5 _ _ _ i wr => i = .int .i64 0 ∧ v5 = .slice none 0 0 ∧ wr = (w.alloc (.cells #[.slice va1 va2 va3, .slice vb1 vb2 vb3, .slice vc1 vc2 vc3] 41))) (fun _ _ _ _ _ _ => 0)
    case atStart => exact ⟨rfl, rfl, rfl⟩
    case round =>
     obtain ⟨rfl, rfl, rfl⟩ := hrel
     go_wp2
     go_ret
     refine ⟨none, 0, by rw [dropIs_nil]; rfl, ?_, D0H.out.below⟩
     rw [dropIs_nil]
     exact ⟨none, 0, rfl, Nat.le_refl _, .inl rfl⟩
   ·have IH := Lib.hid fun k (hk : k < l.length) => ih l[k].l (by have := itm_lt (List.getElem_mem hk); omega) ((okI_eq _).1 (okIs_at hok _ (List.getElem_mem hk))).2.2.2.2 (by have := cntIs_at hk; omega)
    have HOK := Lib.hid fun k (hk : k < l.length) => okIs_at hok _ (List.getElem_mem hk)
    have HC := Lib.hid fun k (hk : k < l.length) => itB_cells hc hk
    have HSN := Lib.hid fun k (hk : k < l.length) => dropIs_snoc (p := p) hk
    have HLE := Lib.hid fun k => dropIs_len p (l.take k)
    have HP := Lib.hid hp'
    have HZ := Lib.hid hz
    have HS := Lib.hid hs
    clear ih hl hok hcn hv hz hp' p1 p2 p3 D0 hc
    go_enter Tryz.func28, Tryz.ntmps28
    go_wp2
    go_loopw [5, 7, 8, 9, 12] (fun v5 _ _ _ i wr => ∃ (k : Nat) (oa : Option Addr) (oc : Nat), k ≤ l.length ∧ i = .int .i64 k ∧ v5 = .slice oa (dropIs p (l.take k)).length oc ∧ Hid (DrSt z w.heap.size (.cells #[.slice va1 va2 va3, .slice vb1 vb2 vb3, .slice vc1 vc2 vc3] 41) w (dropIs p (l.take k)) (.slice oa (dropIs p (l.take k)).length oc) wr)) (fun _ _ _ _ i _ => l.length - (intOf i).toNat)
    case atStart => exact ⟨0, none, 0, Nat.zero_le _, rfl, by rw [List.take_zero, dropIs_nil]; rfl, by rw [List.take_zero, dropIs_nil]; exact D0H⟩
    case round =>
     clear D0H
     obtain ⟨k, oa, oc, hk, rfl, rfl, D⟩ := hrel
     by_cases hlt : k < l.length
     ·obtain ⟨a1, c1, a2, c2, a3, c3, a6, c6, a7, c7, y0, y1, y2, y3, y4, y5, y6, y7, g1, g2, g3, g6, g7⟩ := HC.out k hlt
      have hB := D.out.below
      have hBz : Below z w wr := hB.mono HZ.out
      have y0' := (hBz.cell (p := ⟨b, o + k * 8, none⟩) hbz).trans y0
      have y1' := (hBz.cell (p := ⟨b, o + k * 8 + 1, none⟩) hbz).trans y1
      have y2' := (hBz.cell (p := ⟨b, o + k * 8 + 2, none⟩) hbz).trans y2
      have y3' := (hBz.cell (p := ⟨b, o + k * 8 + 3, none⟩) hbz).trans y3
      have y4' := (hBz.cell (p := ⟨b, o + k * 8 + 4, none⟩) hbz).trans y4
      have y5' := (hBz.cell (p := ⟨b, o + k * 8 + 5, none⟩) hbz).trans y5
      have y6' := (hBz.cell (p := ⟨b, o + k * 8 + 6, none⟩) hbz).trans y6
      have y7' := (hBz.cell (p := ⟨b, o + k * 8 + 7, none⟩) hbz).trans y7
      clear y0 y1 y2 y3 y4 y5 y6 y7
      have hba := below_alloc wr (itmO l[k].kind a1 l[k].sels.length c1 a2 l[k].decls.length c2 a3 l[k].names.length c3 l[k].mn l[k].mx a6 l[k].vals.length c6 a7 l[k].l.length c7)
      have D1 := D.out.step hba
      have hnew := World.alloc_heap_new wr (itmO l[k].kind a1 l[k].sels.length c1 a2 l[k].decls.length c2 a3 l[k].names.length c3 l[k].mn l[k].mx a6 l[k].vals.length c6 a7 l[k].l.length c7)
      have hz1' : z ≤ (wr.alloc (itmO l[k].kind a1 l[k].sels.length c1 a2 l[k].decls.length c2 a3 l[k].names.length c3 l[k].mn l[k].mx a6 l[k].vals.length c6 a7 l[k].l.length c7)).heap.size := Nat.le_trans HZ.out D1.below.size
      have hIt : ItB z (wr.alloc (itmO l[k].kind a1 l[k].sels.length c1 a2 l[k].decls.length c2 a3 l[k].names.length c3 l[k].mn l[k].mx a6 l[k].vals.length c6 a7 l[k].l.length c7)) l[k] a1 c1 a2 c2 a3 c3 a6 c6 a7 c7 :=
       ItB.below ⟨g1, g2, g3, g6, g7⟩ (D1.below.mono HZ.out)
      have HKP := Lib.hid (keep_any (HP.out.below D1.below) HS.out hz1' (HOK.out k hlt) hIt fun W hW => IH.out k hlt _ _ W (g7.below ((D1.below.mono HZ.out).trans (hW.mono hz1'))) (Nat.le_trans hz1' hW.size) (HP.out.below (D1.below.trans (hW.mono D1.below.size))))
      obtain ⟨x0, x1, x2, x3, x4, x5, x6, x7⟩ := itmO_cells hnew
      obtain ⟨b0, b1, b2⟩ := plW_cells D1.box
      have HD1 := Lib.hid D1
      have HSN' := Lib.hid (HSN.out k hlt)
      clear g1 g2 g3 g6 g7 hB hBz hnew hIt hz1' D1 hba
      unfold itmO at HKP HD1 x0 x1 x2 x3 x4 x5 x6 x7 b0 b1 b2
      unfold itV at HKP
      have HZ1 := Lib.hid (Nat.le_trans (Nat.le_refl wr.heap.size) (by simp : wr.heap.size ≤ (wr.alloc (.cells #[.int .i64 l[k].kind, .slice a1 l[k].sels.length c1, .slice a2 l[k].decls.length c2, .slice a3 l[k].names.length c3, .int .i64 l[k].mn, .int .i64 l[k].mx, .slice a6 l[k].vals.length c6, .slice a7 l[k].l.length c7] 53)).heap.size))
      have HLk := Lib.hid (show (dropIs p (l.take k)).length ≤ 1000 from by have := HLE.out k; rw [List.length_take] at this; omega)
      go_wp2_with fail
      refine HKP.out.mono ?_
      rintro e w2 ⟨kd', a1', n1', c1', a2', n2', c2', a3', n3', c3', mn', mx', a6', n6', c6', a7', n7', c7', rfl, hv2, hB2⟩
      unfold itV
      have hb3 := below_alloc w2 (.cells #[.int .i64 kd', .slice a1' n1' c1', .slice a2' n2' c2', .slice a3' n3' c3', .int .i64 mn', .int .i64 mx', .slice a6' n6' c6', .slice a7' n7' c7'] 53)
      have hY := World.alloc_heap_new w2 (.cells #[.int .i64 kd', .slice a1' n1' c1', .slice a2' n2' c2', .slice a3' n3' c3', .int .i64 mn', .int .i64 mx', .slice a6' n6' c6', .slice a7' n7' c7'] 53)
      have D3 := (HD1.out.step hB2).step hb3
      obtain ⟨t0, t1, t2, t3, t4, t5, t6, t7⟩ := item8_cells hY
      cases hky : keepI p l[k] with
      | none =>
        have HSE : Hid (dropIs p (l.take (k + 1)) = dropIs p (l.take k)) := Lib.hid (by rw [HSN'.out, hky]; simp)
        have HD3 := Lib.hid D3
        clear x0 x1 x2 x3 x4 x5 x6 x7 b0 b1 b2 y0' y1' y2' y3' y4' y5' y6' y7' D3 hv2 hB2 hb3 hY hky HKP HD1 HSN'
        simp only [Option.isSome_none]
        go_wp2
        go_roundw
        case rel => exact ⟨k + 1, oa, oc, by omega, by go_num, by rw [HSE.out], by rw [HSE.out]; exact HD3.out⟩
        case measure => simp [intOf]; omega
      | some y =>
        have HSE : Hid (dropIs p (l.take (k + 1)) = dropIs p (l.take k) ++ [y]) := Lib.hid (by rw [HSN'.out, hky]; rfl)
        have hy4 := D.out.new_item HZ.out HZ1.out (hv2.out y hky) (hb3.trans ((below_alloc (w2.alloc (.cells #[.int .i64 kd', .slice a1' n1' c1', .slice a2' n2' c2', .slice a3' n3' c3', .int .i64 mn', .int .i64 mx', .slice a6' n6' c6', .slice a7' n7' c7'] 53)) (.cells #[.int .i64 kd', .slice a1' n1' c1', .slice a2' n2' c2', .slice a3' n3' c3', .int .i64 mn', .int .i64 mx', .slice a6' n6' c6', .slice a7' n7' c7'] 53)).mono hb3.size))
        have hb4 := below_alloc (w2.alloc (.cells #[.int .i64 kd', .slice a1' n1' c1', .slice a2' n2' c2', .slice a3' n3' c3', .int .i64 mn', .int .i64 mx', .slice a6' n6' c6', .slice a7' n7' c7'] 53)) (.cells #[.int .i64 kd', .slice a1' n1' c1', .slice a2' n2' c2', .slice a3' n3' c3', .int .i64 mn', .int .i64 mx', .slice a6' n6' c6', .slice a7' n7' c7'] 53)
        have hn4 := World.alloc_heap_new (w2.alloc (.cells #[.int .i64 kd', .slice a1' n1' c1', .slice a2' n2' c2', .slice a3' n3' c3', .int .i64 mn', .int .i64 mx', .slice a6' n6' c6', .slice a7' n7' c7'] 53)) (.cells #[.int .i64 kd', .slice a1' n1' c1', .slice a2' n2' c2', .slice a3' n3' c3', .int .i64 mn', .int .i64 mx', .slice a6' n6' c6', .slice a7' n7' c7'] 53)
        rw [World.size_alloc] at hn4
        have D4 := D3.step hb4
        have hs4 := D4.size
        obtain ⟨news, hr4, hv4⟩ := D4.row
        have HAPP := Lib.hid fun v' W' h1 h2 h3 => D4.app (W' := W') (v' := v') hr4 hv4 hy4 h1 h2 h3
        clear x0 x1 x2 x3 x4 x5 x6 x7 b0 b1 b2 y0' y1' y2' y3' y4' y5' y6' y7' D3 hv2 hB2 hb3 hb4 hY hky HKP HD1 HSN' D4 hv4 hy4 D
        simp only [Option.isSome_some]
        have hlk := HLk.out
        go_wp2_with (at_builtin; refine wpList_append_own_at _ rfl _ _ 46 rfl (w.heap.size + 1) 53 i0 _ 8 144 Tryz.underlying46 hi hz0 hz1 hz2 rfl (by decide) _ _ _ rfl hr4 ⟨w2.heap.size + 1, 0, none⟩ 1 1 [.int .i64 kd', .slice a1' n1' c1', .slice a2' n2' c2', .slice a3' n3' c3', .int .i64 mn', .int .i64 mx', .slice a6' n6' c6', .slice a7' n7' c7'] rfl rfl ?c1 ?c2 ?c3 ?c4 ?c5 ?_)
        case c1 => exact list8_cells hn4
        case c2 => simp [Value.oneCell']
        case c3 => unfold maxLen; omega
        case c4 => omega
        case c5 => exact hs4
        intro v' w5 hown' hgrow _ hblk
        have D5 := HAPP.out v' w5 hown' hgrow (by rw [World.size_alloc, World.size_alloc]; exact hblk)
        obtain ⟨oa', oc', e5⟩ := owns_slice hown'
        subst e5
        have HD5 := Lib.hid D5
        clear hown' hgrow hblk D5 hr4 HAPP hn4 t0 t1 t2 t3 t4 t5 t6 t7
        go_wp2
        go_roundw
        case rel => exact ⟨k + 1, oa', oc', by omega, by go_num, by rw [HSE.out, List.length_append]; rfl, by rw [HSE.out, List.length_append]; exact HD5⟩
        case measure => simp [intOf]; omega
     ·obtain rfl : k = l.length := by omega
      have hD := D.out
      rw [List.take_length] at hD
      have HE := Lib.hid hD.done
      clear D hD
      rw [List.take_length]
      go_wp2
      go_ret
      obtain ⟨a, c, e, hv, hb⟩ := HE.out
      exact ⟨a, c, congrArg Ending.returned e, hv, hb⟩
end Go.Proofs.YtlnaihkombcbcaaGreat
end
