/-
  tool.Line: one line of a config.
-/
import Derived.Test.YtfpegmeppgdklaaDoorAdd
import Derived.Test.YtfpegmeppgdklaaDoorNamed
namespace Go.Proofs.YtfpegmeppgdklaaDoor
open Go.RowKit
def Glob (w : World) : Prop := ∃ m : Int, w.cell? ⟨0, 0, none⟩ = some (.int .i64 m)
theorem Glob.below {w w' : World} (h : Glob w) (hb : Below w.heap.size w w') : Glob w' := by
  obtain ⟨m, hm⟩ := h
  exact ⟨m, cell_up hm hb⟩
def cutW (s : Str) : Str := (Lib.cut s [32]).1
def cutN (s : Str) : Str := (Lib.cut s [32]).2.1
theorem cut_any (s : ByteArray) (w : World) (hs : s.size ≤ 1000000) (hg : Glob w) :
    Calls Tryd.prog 25 #[.string s, .string ⟨#[32]⟩] w fun e w' => ∃ b, e = .returned (.tuple #[.string (bs (cutW s.data.toList)), .string (bs (cutN s.data.toList)), .bool b]) ∧ Below w.heap.size w w' := by
  obtain ⟨m, hm⟩ := hg
  exact (Tryd.strings_Cut s ⟨#[32]⟩ m w (by omega) hm).mono fun e w' ⟨he, n, hw⟩ => ⟨_, he, by subst hw; exact below_drewN (Below.refl _ _) _⟩
def criticalS : Str := [99, 114, 105, 116, 105, 99, 97, 108]
def attrS : Str := [97, 116, 116, 114]
def lineM (c : Cfg) (s : Str) : Cfg × Bool :=
  if s == criticalS then ({ c with crit := true }, true)
  else if cutW s == classS && nameB (cutN s) then
    if (addM c.cls (cutN s)).2 then ({ c with cls := (addM c.cls (cutN s)).1 }, true) else (c, false)
  else if cutW s == attrS && attrB (cutN s) then
    if (addM c.att (cutN s)).2 then ({ c with att := (addM c.att (cutN s)).1 }, true) else (c, false)
  else (c, false)
set_option maxHeartbeats 1000000 in
theorem line_crit (va : Value) (c : Cfg) (s : ByteArray) (w : World) (B : Nat) (ha : CfgIn B w va c) (hs : s.size ≤ 1000000) (hg : Glob w) (h1 : (s.toList == [99, 114, 105, 116, 105, 99, 97, 108]) = true) :
    Calls Tryd.prog 15 #[va, .string s] w fun e w' => ∃ v, e = .returned (.tuple #[v, .bool true]) ∧ CfgIn B w' v { c with crit := true } ∧ Below w.heap.size w w' := by
  obtain ⟨a1, a2, rfl, ha1, ha2, la1, la2⟩ := ha
  obtain ⟨p1, n1, k1, rfl⟩ := ha1.form
  obtain ⟨p2, n2, k2, rfl⟩ := ha2.form
  have hA := fun (x y : Obj) => (below_alloc w x).alloc (Nat.le_of_lt (by simp)) y
  go_enter Tryd.func15, Tryd.ntmps15
  go_wp2_with fail
  refine (cut_any s _ hs (hg.below (hA _ _))).mono ?_
  rintro e w1 ⟨bb, rfl, hB⟩
  obtain ⟨hc1, hf1⟩ := bcell hB
  have hz0 : w.heap.size < w1.heap.size := by have := hB.size; simp at this; omega
  have hz1 : w.heap.size + 1 < w1.heap.size := by have := hB.size; simp at this; omega
  go_wp2
  have hW := ((((bup (hA _ _) hB).setCell (p := ⟨w.heap.size + 1, 0, none⟩) (Nat.le_succ _) (.slice p1 n1 k1)).setCell (p := ⟨w.heap.size + 1, 1, none⟩) (Nat.le_succ _) (.slice p2 n2 k2)).setCell (p := ⟨w.heap.size + 1, 2, none⟩) (Nat.le_succ _) (.bool true)).alloc (by simp; omega) (.cells #[.slice p1 n1 k1, .slice p2 n2 k2, .bool true] 26)
  refine bodyPost_ret (v := .tuple #[.agg #[.slice p1 n1 k1, .slice p2 n2 k2, .bool true], .bool true]) (by simp [results, Tryd.results15, go_sem, hc1, hz1]) rfl ⟨_, rfl, ⟨_, _, rfl, ha1.below hW, ha2.below hW, la1, la2⟩, hW⟩
def CutTo (s : ByteArray) (wd nm : Str) : Prop := ∀ w : World, Glob w → Calls Tryd.prog 25 #[.string s, .string ⟨#[32]⟩] w fun e w' => ∃ b, e = .returned (.tuple #[.string (bs wd), .string (bs nm), .bool b]) ∧ Below w.heap.size w w'
/-- what tool.add hands back is a slice, and reads as it should where what was made stands. -/
theorem added_form {w w1 : World} {v v' : Value} {ss ts : List Str} (hv : SAt w v ss) (h : (v' = v ∧ ts = ss) ∨ StrsFrom w.heap.size w1 v' (ts.map bs)) : ∃ a n c, v' = .slice a n c := by
  rcases h with ⟨rfl, _⟩ | h
  · exact hv.form
  · exact SAt.form (w := w1) h.to
theorem added_at {B : Nat} {w0 w w1 w2 : World} {v v' : Value} {ss ts : List Str} (hB : B ≤ w.heap.size) (hv : SFrom B w0 v ss) (h : (v' = v ∧ ts = ss) ∨ StrsFrom w.heap.size w1 v' (ts.map bs)) (hb : Below w0.heap.size w0 w2)
    (hk : ∀ b o, w.heap.size ≤ b → w2.cell? ⟨b, o, none⟩ = w1.cell? ⟨b, o, none⟩) : SFrom B w2 v' ts := by
  rcases h with ⟨rfl, rfl⟩ | h
  · exact hv.below hb
  · exact SFrom.mono (SFrom.keep h hk) hB
set_option maxHeartbeats 1000000 in
theorem line_cls_yes (va : Value) (c : Cfg) (s : ByteArray) (wd nm : Str) (w : World) (B : Nat) (hB0 : B ≤ w.heap.size) (ha : CfgIn B w va c) (hnm : nm.length ≤ 1000000) (hg : Glob w) (hcut : CutTo s wd nm)
    (h1 : (s.toList == [99, 114, 105, 116, 105, 99, 97, 108]) = false) (h2 : (wd == [99, 108, 97, 115, 115]) = true) (h3 : nameB nm = true) (h4 : (addM c.cls nm).2 = true) (h5 : (addM c.cls nm).1.length ≤ 1000000) :
    Calls Tryd.prog 15 #[va, .string s] w fun e w' => ∃ v, e = .returned (.tuple #[v, .bool true]) ∧ CfgIn B w' v { c with cls := (addM c.cls nm).1 } ∧ Below w.heap.size w w' := by
  obtain ⟨a1, a2, rfl, ha1, ha2, la1, la2⟩ := ha
  obtain ⟨p1, n1, k1, rfl⟩ := ha1.form
  obtain ⟨p2, n2, k2, rfl⟩ := ha2.form
  have hA := fun (x y : Obj) => (below_alloc w x).alloc (Nat.le_of_lt (by simp)) y
  have hbt := bs_toList wd
  have h4' := Lib.hid h4
  clear h4
  go_enter Tryd.func15, Tryd.ntmps15
  go_wp2_with fail
  refine (hcut _ (hg.below (hA _ _))).mono ?_
  rintro e w1 ⟨bb, rfl, hB⟩
  obtain ⟨hc1, hf1⟩ := bcell hB
  have hz0 : w.heap.size < w1.heap.size := by have := hB.size; simp at this; omega
  have hz1 : w.heap.size + 1 < w1.heap.size := by have := hB.size; simp at this; omega
  have hY := bup (hA _ _) hB
  go_wp2_with fail
  refine (named_any (bs nm) _ (by rw [bs_size]; exact hnm)).mono ?_
  rintro e w2 ⟨rfl, hB2⟩
  rw [bs_data, h3]
  obtain ⟨hc2, hf2⟩ := bcell hB2
  have hy0 : w.heap.size < w2.heap.size := by have := hB2.size; simp at this; omega
  have hy1 : w.heap.size + 1 < w2.heap.size := by have := hB2.size; simp at this; omega
  have hy2 : w1.heap.size < w2.heap.size := by have := hB2.size; simp at this; omega
  have hZ := hY.trans ((below_alloc w1 _).mono (by omega) |>.trans (hB2.mono (by simp; omega)))
  go_wp2_with fail
  refine (add_any _ _ _ _ (ha1.below hZ).to la1).mono ?_
  rintro e w3 ⟨v3, rfl, hv3, hB3⟩
  rw [h4'.out]
  obtain ⟨p3, n3, k3, rfl⟩ := added_form (ha1.below hZ).to hv3
  obtain ⟨hc3, hf3⟩ := bcell hB3
  have hx0 : w.heap.size < w3.heap.size := by have := hB3.size; omega
  have hx1 : w.heap.size + 1 < w3.heap.size := by have := hB3.size; omega
  have hx2 : w1.heap.size < w3.heap.size := by have := hB3.size; omega
  have hW := (((((bup hZ hB3).setCell (p := ⟨w1.heap.size, 0, none⟩) (Nat.le_of_lt hz0) (.slice p3 n3 k3)).setCell (p := ⟨w.heap.size + 1, 0, none⟩) (Nat.le_succ _) (.slice p3 n3 k3)).setCell (p := ⟨w.heap.size + 1, 1, none⟩) (Nat.le_succ _) (.slice p2 n2 k2)).setCell (p := ⟨w.heap.size + 1, 2, none⟩) (Nat.le_succ _) (.bool c.crit))
  have hK : ∀ b o, w2.heap.size ≤ b → (((((w3.setCell ⟨w1.heap.size, 0, none⟩ (.slice p3 n3 k3)).setCell ⟨w.heap.size + 1, 0, none⟩ (.slice p3 n3 k3)).setCell ⟨w.heap.size + 1, 1, none⟩ (.slice p2 n2 k2)).setCell ⟨w.heap.size + 1, 2, none⟩ (.bool c.crit))).cell? ⟨b, o, none⟩ = w3.cell? ⟨b, o, none⟩ := by
    intro b o hb
    rw [cell_set_far _ _ _ _ _ (by show b ≠ w.heap.size + 1; omega)]; rw [cell_set_far _ _ _ _ _ (by show b ≠ w.heap.size + 1; omega)]; rw [cell_set_far _ _ _ _ _ (by show b ≠ w.heap.size + 1; omega)]; rw [cell_set_far _ _ _ _ _ (by show b ≠ w1.heap.size; omega)]
  have HK := Lib.hid hK
  clear hK
  go_wp2
  refine bodyPost_ret (v := .tuple #[.agg #[.slice p3 n3 k3, .slice p2 n2 k2, .bool c.crit], .bool true]) (by simp [results, Tryd.results15, go_sem, hc1, hc2, hc3, hz0, hz1, hy1]) rfl ⟨_, rfl, ⟨_, _, rfl, added_at (Nat.le_trans hB0 hZ.size) ha1 hv3 hW HK.out, ha2.below hW, h5, la2⟩, hW⟩
set_option maxHeartbeats 1000000 in
theorem line_cls_no (va : Value) (c : Cfg) (s : ByteArray) (wd nm : Str) (w : World) (B : Nat) (_hB0 : B ≤ w.heap.size) (ha : CfgIn B w va c) (hnm : nm.length ≤ 1000000) (hg : Glob w) (hcut : CutTo s wd nm)
    (h1 : (s.toList == [99, 114, 105, 116, 105, 99, 97, 108]) = false) (h2 : (wd == [99, 108, 97, 115, 115]) = true) (h3 : nameB nm = true) (h4 : (addM c.cls nm).2 = false) :
    Calls Tryd.prog 15 #[va, .string s] w fun e w' => ∃ v, e = .returned (.tuple #[v, .bool false]) ∧ CfgIn B w' v c ∧ Below w.heap.size w w' := by
  obtain ⟨a1, a2, rfl, ha1, ha2, la1, la2⟩ := ha
  obtain ⟨p1, n1, k1, rfl⟩ := ha1.form
  obtain ⟨p2, n2, k2, rfl⟩ := ha2.form
  have hA := fun (x y : Obj) => (below_alloc w x).alloc (Nat.le_of_lt (by simp)) y
  have hbt := bs_toList wd
  have h4' := Lib.hid h4
  clear h4
  go_enter Tryd.func15, Tryd.ntmps15
  go_wp2_with fail
  refine (hcut _ (hg.below (hA _ _))).mono ?_
  rintro e w1 ⟨bb, rfl, hB⟩
  obtain ⟨hc1, hf1⟩ := bcell hB
  have hz0 : w.heap.size < w1.heap.size := by have := hB.size; simp at this; omega
  have hz1 : w.heap.size + 1 < w1.heap.size := by have := hB.size; simp at this; omega
  have hY := bup (hA _ _) hB
  go_wp2_with fail
  refine (named_any (bs nm) _ (by rw [bs_size]; exact hnm)).mono ?_
  rintro e w2 ⟨rfl, hB2⟩
  rw [bs_data, h3]
  obtain ⟨hc2, hf2⟩ := bcell hB2
  have hy0 : w.heap.size < w2.heap.size := by have := hB2.size; simp at this; omega
  have hy1 : w.heap.size + 1 < w2.heap.size := by have := hB2.size; simp at this; omega
  have hy2 : w1.heap.size < w2.heap.size := by have := hB2.size; simp at this; omega
  have hZ := hY.trans ((below_alloc w1 _).mono (by omega) |>.trans (hB2.mono (by simp; omega)))
  go_wp2_with fail
  refine (add_any _ _ _ _ (ha1.below hZ).to la1).mono ?_
  rintro e w3 ⟨v3, rfl, hv3, hB3⟩
  rw [h4'.out]
  obtain ⟨p3, n3, k3, rfl⟩ := added_form (ha1.below hZ).to hv3
  obtain ⟨hc3, hf3⟩ := bcell hB3
  have hx0 : w.heap.size < w3.heap.size := by have := hB3.size; omega
  have hx1 : w.heap.size + 1 < w3.heap.size := by have := hB3.size; omega
  have hx2 : w1.heap.size < w3.heap.size := by have := hB3.size; omega
  have hW := (((((bup hZ hB3).setCell (p := ⟨w1.heap.size, 0, none⟩) (Nat.le_of_lt hz0) (.slice p3 n3 k3)).setCell (p := ⟨w.heap.size + 1, 0, none⟩) (Nat.le_succ _) (.slice p1 n1 k1)).setCell (p := ⟨w.heap.size + 1, 1, none⟩) (Nat.le_succ _) (.slice p2 n2 k2)).setCell (p := ⟨w.heap.size + 1, 2, none⟩) (Nat.le_succ _) (.bool c.crit))
  go_wp2
  refine bodyPost_ret (v := .tuple #[.agg #[.slice p1 n1 k1, .slice p2 n2 k2, .bool c.crit], .bool false]) (by simp [results, Tryd.results15, go_sem, hc1, hc2, hc3, hz0, hz1, hy1]) rfl ⟨_, rfl, ⟨_, _, rfl, ha1.below hW, ha2.below hW, la1, la2⟩, hW⟩
set_option maxHeartbeats 1000000 in
theorem line_cls_bad (va : Value) (c : Cfg) (s : ByteArray) (wd nm : Str) (w : World) (B : Nat) (_hB0 : B ≤ w.heap.size) (ha : CfgIn B w va c) (hnm : nm.length ≤ 1000000) (hg : Glob w) (hcut : CutTo s wd nm)
    (h1 : (s.toList == [99, 114, 105, 116, 105, 99, 97, 108]) = false) (h2 : (wd == [99, 108, 97, 115, 115]) = true) (h2b : (wd == [97, 116, 116, 114]) = false) (h3 : nameB nm = false) :
    Calls Tryd.prog 15 #[va, .string s] w fun e w' => ∃ v, e = .returned (.tuple #[v, .bool false]) ∧ CfgIn B w' v c ∧ Below w.heap.size w w' := by
  obtain ⟨a1, a2, rfl, ha1, ha2, la1, la2⟩ := ha
  obtain ⟨p1, n1, k1, rfl⟩ := ha1.form
  obtain ⟨p2, n2, k2, rfl⟩ := ha2.form
  have hA := fun (x y : Obj) => (below_alloc w x).alloc (Nat.le_of_lt (by simp)) y
  have hbt := bs_toList wd
  go_enter Tryd.func15, Tryd.ntmps15
  go_wp2_with fail
  refine (hcut _ (hg.below (hA _ _))).mono ?_
  rintro e w1 ⟨bb, rfl, hB⟩
  obtain ⟨hc1, hf1⟩ := bcell hB
  have hz0 : w.heap.size < w1.heap.size := by have := hB.size; simp at this; omega
  have hz1 : w.heap.size + 1 < w1.heap.size := by have := hB.size; simp at this; omega
  have hY := bup (hA _ _) hB
  go_wp2_with fail
  refine (named_any (bs nm) _ (by rw [bs_size]; exact hnm)).mono ?_
  rintro e w2 ⟨rfl, hB2⟩
  rw [bs_data, h3]
  obtain ⟨hc2, hf2⟩ := bcell hB2
  have hy0 : w.heap.size < w2.heap.size := by have := hB2.size; simp at this; omega
  have hy1 : w.heap.size + 1 < w2.heap.size := by have := hB2.size; simp at this; omega
  have hy2 : w1.heap.size < w2.heap.size := by have := hB2.size; simp at this; omega
  have hZ := hY.trans ((below_alloc w1 _).mono (by omega) |>.trans (hB2.mono (by simp; omega)))
  have hW := (((hZ.setCell (p := ⟨w.heap.size + 1, 0, none⟩) (Nat.le_succ _) (.slice p1 n1 k1)).setCell (p := ⟨w.heap.size + 1, 1, none⟩) (Nat.le_succ _) (.slice p2 n2 k2)).setCell (p := ⟨w.heap.size + 1, 2, none⟩) (Nat.le_succ _) (.bool c.crit))
  go_wp2
  refine bodyPost_ret (v := .tuple #[.agg #[.slice p1 n1 k1, .slice p2 n2 k2, .bool c.crit], .bool false]) (by simp [results, Tryd.results15, go_sem, hc1, hc2, hz0, hz1]) rfl ⟨_, rfl, ⟨_, _, rfl, ha1.below hW, ha2.below hW, la1, la2⟩, hW⟩
set_option maxHeartbeats 1000000 in
theorem line_att_yes (va : Value) (c : Cfg) (s : ByteArray) (wd nm : Str) (w : World) (B : Nat) (hB0 : B ≤ w.heap.size) (ha : CfgIn B w va c) (hnm : nm.length ≤ 1000000) (hg : Glob w) (hcut : CutTo s wd nm)
    (h1 : (s.toList == [99, 114, 105, 116, 105, 99, 97, 108]) = false) (h2 : (wd == [99, 108, 97, 115, 115]) = false) (h2b : (wd == [97, 116, 116, 114]) = true) (h3 : attrB nm = true) (h4 : (addM c.att nm).2 = true) (h5 : (addM c.att nm).1.length ≤ 1000000) :
    Calls Tryd.prog 15 #[va, .string s] w fun e w' => ∃ v, e = .returned (.tuple #[v, .bool true]) ∧ CfgIn B w' v { c with att := (addM c.att nm).1 } ∧ Below w.heap.size w w' := by
  obtain ⟨a1, a2, rfl, ha1, ha2, la1, la2⟩ := ha
  obtain ⟨p1, n1, k1, rfl⟩ := ha1.form
  obtain ⟨p2, n2, k2, rfl⟩ := ha2.form
  have hA := fun (x y : Obj) => (below_alloc w x).alloc (Nat.le_of_lt (by simp)) y
  have hbt := bs_toList wd
  have h4' := Lib.hid h4
  clear h4
  go_enter Tryd.func15, Tryd.ntmps15
  go_wp2_with fail
  refine (hcut _ (hg.below (hA _ _))).mono ?_
  rintro e w1 ⟨bb, rfl, hB⟩
  obtain ⟨hc1, hf1⟩ := bcell hB
  have hz0 : w.heap.size < w1.heap.size := by have := hB.size; simp at this; omega
  have hz1 : w.heap.size + 1 < w1.heap.size := by have := hB.size; simp at this; omega
  have hY := bup (hA _ _) hB
  go_wp2_with fail
  refine (attr_any (bs nm) _ (by rw [bs_size]; exact hnm)).mono ?_
  rintro e w2 ⟨rfl, hB2⟩
  rw [bs_data, h3]
  obtain ⟨hc2, hf2⟩ := bcell hB2
  have hy0 : w.heap.size < w2.heap.size := by have := hB2.size; simp at this; omega
  have hy1 : w.heap.size + 1 < w2.heap.size := by have := hB2.size; simp at this; omega
  have hy2 : w1.heap.size < w2.heap.size := by have := hB2.size; simp at this; omega
  have hZ := hY.trans ((below_alloc w1 _).mono (by omega) |>.trans (hB2.mono (by simp; omega)))
  go_wp2_with fail
  refine (add_any _ _ _ _ (ha2.below hZ).to la2).mono ?_
  rintro e w3 ⟨v3, rfl, hv3, hB3⟩
  rw [h4'.out]
  obtain ⟨p3, n3, k3, rfl⟩ := added_form (ha2.below hZ).to hv3
  obtain ⟨hc3, hf3⟩ := bcell hB3
  have hx0 : w.heap.size < w3.heap.size := by have := hB3.size; omega
  have hx1 : w.heap.size + 1 < w3.heap.size := by have := hB3.size; omega
  have hx2 : w1.heap.size < w3.heap.size := by have := hB3.size; omega
  have hW := (((((bup hZ hB3).setCell (p := ⟨w1.heap.size, 1, none⟩) (Nat.le_of_lt hz0) (.slice p3 n3 k3)).setCell (p := ⟨w.heap.size + 1, 0, none⟩) (Nat.le_succ _) (.slice p1 n1 k1)).setCell (p := ⟨w.heap.size + 1, 1, none⟩) (Nat.le_succ _) (.slice p3 n3 k3)).setCell (p := ⟨w.heap.size + 1, 2, none⟩) (Nat.le_succ _) (.bool c.crit))
  have hK : ∀ b o, w2.heap.size ≤ b → (((((w3.setCell ⟨w1.heap.size, 1, none⟩ (.slice p3 n3 k3)).setCell ⟨w.heap.size + 1, 0, none⟩ (.slice p1 n1 k1)).setCell ⟨w.heap.size + 1, 1, none⟩ (.slice p3 n3 k3)).setCell ⟨w.heap.size + 1, 2, none⟩ (.bool c.crit))).cell? ⟨b, o, none⟩ = w3.cell? ⟨b, o, none⟩ := by
    intro b o hb
    rw [cell_set_far _ _ _ _ _ (by show b ≠ w.heap.size + 1; omega)]; rw [cell_set_far _ _ _ _ _ (by show b ≠ w.heap.size + 1; omega)]; rw [cell_set_far _ _ _ _ _ (by show b ≠ w.heap.size + 1; omega)]; rw [cell_set_far _ _ _ _ _ (by show b ≠ w1.heap.size; omega)]
  have HK := Lib.hid hK
  clear hK
  go_wp2
  refine bodyPost_ret (v := .tuple #[.agg #[.slice p1 n1 k1, .slice p3 n3 k3, .bool c.crit], .bool true]) (by simp [results, Tryd.results15, go_sem, hc1, hc2, hc3, hz0, hz1, hy1]) rfl ⟨_, rfl, ⟨_, _, rfl, ha1.below hW, added_at (Nat.le_trans hB0 hZ.size) ha2 hv3 hW HK.out, la1, h5⟩, hW⟩
set_option maxHeartbeats 1000000 in
theorem line_att_no (va : Value) (c : Cfg) (s : ByteArray) (wd nm : Str) (w : World) (B : Nat) (_hB0 : B ≤ w.heap.size) (ha : CfgIn B w va c) (hnm : nm.length ≤ 1000000) (hg : Glob w) (hcut : CutTo s wd nm)
    (h1 : (s.toList == [99, 114, 105, 116, 105, 99, 97, 108]) = false) (h2 : (wd == [99, 108, 97, 115, 115]) = false) (h2b : (wd == [97, 116, 116, 114]) = true) (h3 : attrB nm = true) (h4 : (addM c.att nm).2 = false) :
    Calls Tryd.prog 15 #[va, .string s] w fun e w' => ∃ v, e = .returned (.tuple #[v, .bool false]) ∧ CfgIn B w' v c ∧ Below w.heap.size w w' := by
  obtain ⟨a1, a2, rfl, ha1, ha2, la1, la2⟩ := ha
  obtain ⟨p1, n1, k1, rfl⟩ := ha1.form
  obtain ⟨p2, n2, k2, rfl⟩ := ha2.form
  have hA := fun (x y : Obj) => (below_alloc w x).alloc (Nat.le_of_lt (by simp)) y
  have hbt := bs_toList wd
  have h4' := Lib.hid h4
  clear h4
  go_enter Tryd.func15, Tryd.ntmps15
  go_wp2_with fail
  refine (hcut _ (hg.below (hA _ _))).mono ?_
  rintro e w1 ⟨bb, rfl, hB⟩
  obtain ⟨hc1, hf1⟩ := bcell hB
  have hz0 : w.heap.size < w1.heap.size := by have := hB.size; simp at this; omega
  have hz1 : w.heap.size + 1 < w1.heap.size := by have := hB.size; simp at this; omega
  have hY := bup (hA _ _) hB
  go_wp2_with fail
  refine (attr_any (bs nm) _ (by rw [bs_size]; exact hnm)).mono ?_
  rintro e w2 ⟨rfl, hB2⟩
  rw [bs_data, h3]
  obtain ⟨hc2, hf2⟩ := bcell hB2
  have hy0 : w.heap.size < w2.heap.size := by have := hB2.size; simp at this; omega
  have hy1 : w.heap.size + 1 < w2.heap.size := by have := hB2.size; simp at this; omega
  have hy2 : w1.heap.size < w2.heap.size := by have := hB2.size; simp at this; omega
  have hZ := hY.trans ((below_alloc w1 _).mono (by omega) |>.trans (hB2.mono (by simp; omega)))
  go_wp2_with fail
  refine (add_any _ _ _ _ (ha2.below hZ).to la2).mono ?_
  rintro e w3 ⟨v3, rfl, hv3, hB3⟩
  rw [h4'.out]
  obtain ⟨p3, n3, k3, rfl⟩ := added_form (ha2.below hZ).to hv3
  obtain ⟨hc3, hf3⟩ := bcell hB3
  have hx0 : w.heap.size < w3.heap.size := by have := hB3.size; omega
  have hx1 : w.heap.size + 1 < w3.heap.size := by have := hB3.size; omega
  have hx2 : w1.heap.size < w3.heap.size := by have := hB3.size; omega
  have hW := (((((bup hZ hB3).setCell (p := ⟨w1.heap.size, 1, none⟩) (Nat.le_of_lt hz0) (.slice p3 n3 k3)).setCell (p := ⟨w.heap.size + 1, 0, none⟩) (Nat.le_succ _) (.slice p1 n1 k1)).setCell (p := ⟨w.heap.size + 1, 1, none⟩) (Nat.le_succ _) (.slice p2 n2 k2)).setCell (p := ⟨w.heap.size + 1, 2, none⟩) (Nat.le_succ _) (.bool c.crit))
  go_wp2
  refine bodyPost_ret (v := .tuple #[.agg #[.slice p1 n1 k1, .slice p2 n2 k2, .bool c.crit], .bool false]) (by simp [results, Tryd.results15, go_sem, hc1, hc2, hc3, hz0, hz1, hy1]) rfl ⟨_, rfl, ⟨_, _, rfl, ha1.below hW, ha2.below hW, la1, la2⟩, hW⟩
set_option maxHeartbeats 1000000 in
theorem line_att_bad (va : Value) (c : Cfg) (s : ByteArray) (wd nm : Str) (w : World) (B : Nat) (_hB0 : B ≤ w.heap.size) (ha : CfgIn B w va c) (hnm : nm.length ≤ 1000000) (hg : Glob w) (hcut : CutTo s wd nm)
    (h1 : (s.toList == [99, 114, 105, 116, 105, 99, 97, 108]) = false) (h2 : (wd == [99, 108, 97, 115, 115]) = false) (h2b : (wd == [97, 116, 116, 114]) = true) (h3 : attrB nm = false) :
    Calls Tryd.prog 15 #[va, .string s] w fun e w' => ∃ v, e = .returned (.tuple #[v, .bool false]) ∧ CfgIn B w' v c ∧ Below w.heap.size w w' := by
  obtain ⟨a1, a2, rfl, ha1, ha2, la1, la2⟩ := ha
  obtain ⟨p1, n1, k1, rfl⟩ := ha1.form
  obtain ⟨p2, n2, k2, rfl⟩ := ha2.form
  have hA := fun (x y : Obj) => (below_alloc w x).alloc (Nat.le_of_lt (by simp)) y
  have hbt := bs_toList wd
  go_enter Tryd.func15, Tryd.ntmps15
  go_wp2_with fail
  refine (hcut _ (hg.below (hA _ _))).mono ?_
  rintro e w1 ⟨bb, rfl, hB⟩
  obtain ⟨hc1, hf1⟩ := bcell hB
  have hz0 : w.heap.size < w1.heap.size := by have := hB.size; simp at this; omega
  have hz1 : w.heap.size + 1 < w1.heap.size := by have := hB.size; simp at this; omega
  have hY := bup (hA _ _) hB
  go_wp2_with fail
  refine (attr_any (bs nm) _ (by rw [bs_size]; exact hnm)).mono ?_
  rintro e w2 ⟨rfl, hB2⟩
  rw [bs_data, h3]
  obtain ⟨hc2, hf2⟩ := bcell hB2
  have hy0 : w.heap.size < w2.heap.size := by have := hB2.size; simp at this; omega
  have hy1 : w.heap.size + 1 < w2.heap.size := by have := hB2.size; simp at this; omega
  have hy2 : w1.heap.size < w2.heap.size := by have := hB2.size; simp at this; omega
  have hZ := hY.trans ((below_alloc w1 _).mono (by omega) |>.trans (hB2.mono (by simp; omega)))
  have hW := (((hZ.setCell (p := ⟨w.heap.size + 1, 0, none⟩) (Nat.le_succ _) (.slice p1 n1 k1)).setCell (p := ⟨w.heap.size + 1, 1, none⟩) (Nat.le_succ _) (.slice p2 n2 k2)).setCell (p := ⟨w.heap.size + 1, 2, none⟩) (Nat.le_succ _) (.bool c.crit))
  go_wp2
  refine bodyPost_ret (v := .tuple #[.agg #[.slice p1 n1 k1, .slice p2 n2 k2, .bool c.crit], .bool false]) (by simp [results, Tryd.results15, go_sem, hc1, hc2, hz0, hz1]) rfl ⟨_, rfl, ⟨_, _, rfl, ha1.below hW, ha2.below hW, la1, la2⟩, hW⟩
set_option maxHeartbeats 1000000 in
theorem line_none (va : Value) (c : Cfg) (s : ByteArray) (wd nm : Str) (w : World) (B : Nat) (_hB0 : B ≤ w.heap.size) (ha : CfgIn B w va c) (hg : Glob w) (hcut : CutTo s wd nm)
    (h1 : (s.toList == [99, 114, 105, 116, 105, 99, 97, 108]) = false) (h2 : (wd == [99, 108, 97, 115, 115]) = false) (h2b : (wd == [97, 116, 116, 114]) = false) :
    Calls Tryd.prog 15 #[va, .string s] w fun e w' => ∃ v, e = .returned (.tuple #[v, .bool false]) ∧ CfgIn B w' v c ∧ Below w.heap.size w w' := by
  obtain ⟨a1, a2, rfl, ha1, ha2, la1, la2⟩ := ha
  obtain ⟨p1, n1, k1, rfl⟩ := ha1.form
  obtain ⟨p2, n2, k2, rfl⟩ := ha2.form
  have hA := fun (x y : Obj) => (below_alloc w x).alloc (Nat.le_of_lt (by simp)) y
  have hbt := bs_toList wd
  go_enter Tryd.func15, Tryd.ntmps15
  go_wp2_with fail
  refine (hcut _ (hg.below (hA _ _))).mono ?_
  rintro e w1 ⟨bb, rfl, hB⟩
  obtain ⟨hc1, hf1⟩ := bcell hB
  have hz0 : w.heap.size < w1.heap.size := by have := hB.size; simp at this; omega
  have hz1 : w.heap.size + 1 < w1.heap.size := by have := hB.size; simp at this; omega
  have hY := bup (hA _ _) hB
  have hW := ((((hY.setCell (p := ⟨w.heap.size + 1, 0, none⟩) (Nat.le_succ _) (.slice p1 n1 k1)).setCell (p := ⟨w.heap.size + 1, 1, none⟩) (Nat.le_succ _) (.slice p2 n2 k2)).setCell (p := ⟨w.heap.size + 1, 2, none⟩) (Nat.le_succ _) (.bool c.crit)).alloc (by simp; omega) (.cells #[.slice p1 n1 k1, .slice p2 n2 k2, .bool c.crit] 26))
  go_wp2
  refine bodyPost_ret (v := .tuple #[.agg #[.slice p1 n1 k1, .slice p2 n2 k2, .bool c.crit], .bool false]) (by simp [results, Tryd.results15, go_sem, hc1, hz1]) rfl ⟨_, rfl, ⟨_, _, rfl, ha1.below hW, ha2.below hW, la1, la2⟩, hW⟩
theorem cutN_len (s : Str) : (cutN s).length ≤ s.length := by
  unfold cutN Lib.cut
  split
  · simp
  · simp
theorem addM_len (l : List Str) (s : Str) : (addM l s).1.length ≤ l.length + 1 := by
  unfold addM; split <;> simp
theorem line_any (va : Value) (c : Cfg) (s : ByteArray) (w : World) (B : Nat) (hB0 : B ≤ w.heap.size) (ha : CfgIn B w va c) (hs : s.size ≤ 1000000) (hg : Glob w) (hl1 : c.cls.length < 1000000) (hl2 : c.att.length < 1000000) :
    Calls Tryd.prog 15 #[va, .string s] w fun e w' => ∃ v, e = .returned (.tuple #[v, .bool (lineM c s.data.toList).2]) ∧ CfgIn B w' v (lineM c s.data.toList).1 ∧ Below w.heap.size w w' := by
  have hcut : CutTo s (cutW s.data.toList) (cutN s.data.toList) := fun w hg => cut_any s w hs hg
  have hnm : (cutN s.data.toList).length ≤ 1000000 := Nat.le_trans (cutN_len _) (by rw [ba_len]; exact hs)
  have h5 := addM_len c.cls (cutN s.data.toList)
  have h6 := addM_len c.att (cutN s.data.toList)
  have e1 : (s.data.toList == criticalS) = (s.toList == [99, 114, 105, 116, 105, 99, 97, 108]) := by rw [ByteArray.toList_eq]; rfl
  unfold lineM
  rw [e1]
  cases h1 : s.toList == [99, 114, 105, 116, 105, 99, 97, 108]
  · rw [if_neg (by simp)]
    cases h2 : cutW s.data.toList == classS
    · simp only [Bool.false_and, Bool.false_eq_true, if_false]
      cases h3 : cutW s.data.toList == attrS
      · simp only [Bool.false_and, Bool.false_eq_true, if_false]
        exact line_none va c s _ _ w B hB0 ha hg hcut h1 h2 h3
      · cases h4 : attrB (cutN s.data.toList)
        · simp only [Bool.and_false, Bool.false_eq_true, if_false]
          exact line_att_bad va c s _ _ w B hB0 ha hnm hg hcut h1 h2 h3 h4
        · simp only [Bool.and_self, if_true]
          cases h7 : (addM c.att (cutN s.data.toList)).2
          · simp only [Bool.false_eq_true, if_false]
            exact line_att_no va c s _ _ w B hB0 ha hnm hg hcut h1 h2 h3 h4 h7
          · simp only [if_true]
            exact line_att_yes va c s _ _ w B hB0 ha hnm hg hcut h1 h2 h3 h4 h7 (by omega)
    · cases h4 : nameB (cutN s.data.toList)
      · have h3 : (cutW s.data.toList == attrS) = false := by rw [eq_of_beq h2]; rfl
        simp only [Bool.and_false, Bool.false_eq_true, if_false, h3, Bool.false_and]
        exact line_cls_bad va c s _ _ w B hB0 ha hnm hg hcut h1 h2 h3 h4
      · simp only [Bool.and_self, if_true]
        cases h7 : (addM c.cls (cutN s.data.toList)).2
        · simp only [Bool.false_eq_true, if_false]
          exact line_cls_no va c s _ _ w B hB0 ha hnm hg hcut h1 h2 h4 h7
        · simp only [if_true]
          exact line_cls_yes va c s _ _ w B hB0 ha hnm hg hcut h1 h2 h4 h7 (by omega)
  · rw [if_pos rfl]
    exact line_crit va c s w B ha hs hg h1
end Go.Proofs.YtfpegmeppgdklaaDoor
