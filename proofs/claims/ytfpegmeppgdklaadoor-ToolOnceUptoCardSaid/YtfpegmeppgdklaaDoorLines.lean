/-
  R22.Lines: a text, cut at bytes 10.
-/
import Derived.Test.YtfpegmeppgdklaaDoorCfg
import Derived.WalkSpells
namespace Go.Proofs.YtfpegmeppgdklaaDoor
open Go.RowKit
def linesAux (cur : Str) : Str → List Str
  | [] => [cur]
  | c :: r => if c == 10 then cur :: linesAux [] r else linesAux (cur ++ [c]) r
def linesM (s : Str) : List Str := linesAux [] s
theorem linesAux_nl (l : Str) (a k : Nat) (h : k < l.length) (hc : (l[k] == 10) = true) : linesAux ((l.drop a).take (k - a)) (l.drop k) = ((l.drop a).take (k - a)) :: linesAux [] (l.drop (k + 1)) := by
  rw [List.drop_eq_getElem_cons h, linesAux, if_pos hc]
theorem linesAux_on (l : Str) (a k : Nat) (h : k < l.length) (ha : a ≤ k) (hc : (l[k] == 10) = false) : linesAux ((l.drop a).take (k - a)) (l.drop k) = linesAux ((l.drop a).take (k + 1 - a)) (l.drop (k + 1)) := by
  rw [List.drop_eq_getElem_cons h, linesAux, if_neg (by simp [hc])]
  congr 1
  rw [show k + 1 - a = (k - a) + 1 by omega, List.take_succ_eq_append_getElem (by simp; omega)]
  congr 2
  rw [List.getElem_drop]
  congr 1
  omega
theorem linesAux_end (l : Str) (a : Nat) : linesAux ((l.drop a).take (l.length - a)) (l.drop l.length) = [(l.drop a).take (l.length - a)] := by
  rw [List.drop_length]; rfl
theorem Tryd.infoStr : (Tryd.prog.info? 9).map (fun i => (i.zero, i.size, i.bytes)) = some (some (.string ByteArray.empty), 1, 16) := by kernel_rfl
def lrel (s : ByteArray) (w0 wr : World) (v4 v3 v5 : Value) : Prop :=
  ∃ (k a : Nat) (out : List Str), a ≤ k ∧ v5 = .int .i64 k ∧ v4 = .int .i64 a ∧ out.length ≤ k ∧ wr.ownsRow w0.heap.size 9 1 v3 out.length ((out.map bs).map Value.string) ∧ Below w0.heap.size w0 wr ∧
    ((k ≤ s.size ∧ Hid (linesM s.data.toList = out ++ linesAux ((s.data.toList.drop a).take (k - a)) (s.data.toList.drop k))) ∨ (k = s.size + 1 ∧ Hid (linesM s.data.toList = out)))
theorem lrel_snoc (s : ByteArray) (w wr w1 : World) (k a : Nat) (out : List Str) (x : ByteArray) (u3 v' : Value) (hok : out.length ≤ k) (hx : x = bs ((s.data.toList.drop a).take (k - a)))
    (hown : wr.ownsRow w.heap.size 9 1 u3 out.length ((out.map bs).map Value.string)) (hB : Below w.heap.size w wr)
    (hown' : w1.ownsRow w.heap.size 9 1 v' (out.length + 1) (List.map (Value.string ∘ bs) out ++ [Value.string x]))
    (hgrow : (wr.alloc (Obj.cells #[Value.string x] 9)).grownBy w1 u3.ownBlock)
    (hl : (k + 1 ≤ s.size ∧ Hid (linesM s.data.toList = out ++ (s.data.toList.drop a).take (k - a) :: linesAux [] (s.data.toList.drop (k + 1)))) ∨ (k = s.size ∧ Hid (linesM s.data.toList = out ++ [(s.data.toList.drop a).take (k - a)]))) :
    lrel s w w1 (.int .i64 (↑k + 1)) v' (.int .i64 (↑k + 1)) := by
  have hBs := hB.size
  refine ⟨k + 1, k + 1, out ++ [(s.data.toList.drop a).take (k - a)], Nat.le_refl _, by go_num, by go_num, by simp; omega, ?_, ?_, ?_⟩
  · subst hx
    simpa using hown'
  · exact (hB.alloc hBs _).grown hgrow (by simp; omega) (fun g e => (hown.lt g e).1)
  · rcases hl with ⟨h1, h2⟩ | ⟨rfl, h2⟩
    · refine .inl ⟨h1, ?_⟩
      show _ = _
      rw [h2.out, Nat.sub_self, List.take_zero, List.append_assoc]; rfl
    · exact .inr ⟨rfl, h2⟩
set_option maxRecDepth 100000 in
set_option maxHeartbeats 400000 in
theorem lines_any (s : ByteArray) (w : World) (hs : s.size ≤ 1000000) :
    Calls Tryd.prog 14 #[.string s] w fun e w' => ∃ v, e = .returned v ∧ SAt w' v (linesM s.data.toList) ∧ Below w.heap.size w w' := by
  obtain ⟨i0, hi, hz0, hz1, hz2⟩ := info_parts Tryd.infoStr
  go_enter Tryd.func14, Tryd.ntmps14
  go_wp2
  go_loopw [3, 4, 5] (fun v3 v4 v5 wr => lrel s w wr v4 v3 v5) (fun _ _ v5 _ => s.size + 1 - (intOf v5).toNat)
  case atStart => exact ⟨0, 0, [], Nat.le_refl _, rfl, rfl, Nat.le_refl _, World.ownsRow_lit w #[] 0 (Nat.le_refl _) (by decide) rfl, below_alloc _ _, .inl ⟨Nat.zero_le _, rfl⟩⟩
  case round =>
    obtain ⟨k, a, out, hak, rfl, rfl, hok, hown, hB, hcase⟩ := hrel
    have hBs := hB.size
    rcases hcase with ⟨hk, hl⟩ | ⟨rfl, hl⟩
    · by_cases hlt : k < s.size
      · have hne : ((k : Int) == (s.size : Int)) = false := by rw [beq_eq_false_iff_ne]; omega
        have hlt2 : k < s.data.toList.length := by rw [ba_len]; exact hlt
        cases hc : s[k] == 10
        · have hci : ((s[k].toNat : Int) == 10) = false := by rw [u8_beq] at hc; exact hc
          have hl2 := linesAux_on s.data.toList a k hlt2 hak hc
          rw [hl2] at hl
          clear hl2 hc
          go_wp2
          go_roundw
          case rel => exact ⟨k + 1, a, out, by omega, by go_num, rfl, by omega, hown, hB, .inl ⟨by omega, hl⟩⟩
          case measure => simp [intOf]; omega
        · have hci : ((s[k].toNat : Int) == 10) = true := by rw [u8_beq] at hc; exact hc
          have hl2 := linesAux_nl s.data.toList a k hlt2 hc
          rw [hl2] at hl
          clear hl2 hc
          go_wp2_with (at_builtin; refine wpList_append_own _ rfl _ _ 22 rfl w.heap.size 9 i0 (.string ByteArray.empty) 1 16 Tryd.underlying22 hi hz0 hz1 hz2 rfl (by decide) _ _ _ rfl (hown.alloc _) ⟨wr.heap.size, 0, none⟩ 1 1 [.string (s.extract a k)] rfl rfl ?c1 ?c2 ?c3 ?c4 ?c5 ?_)
          case c1 => exact cell_one_new _ _ _
          case c2 => simp [Value.oneCell']
          case c3 => unfold maxLen; omega
          case c4 => omega
          case c5 => simp; omega
          intro v' w1 hown' hgrow _
          go_wp2
          go_roundw
          case rel => exact lrel_snoc s w wr w1 k a out _ u3 v' hok (ext_bs _ _ _) hown hB hown' hgrow (.inl ⟨by omega, hl⟩)
          case measure => simp [intOf]; omega
      · obtain rfl : k = s.size := by omega
        have hl2 := linesAux_end s.data.toList a
        rw [ba_len] at hl2
        rw [hl2] at hl
        clear hl2
        go_wp2_with (at_builtin; refine wpList_append_own _ rfl _ _ 22 rfl w.heap.size 9 i0 (.string ByteArray.empty) 1 16 Tryd.underlying22 hi hz0 hz1 hz2 rfl (by decide) _ _ _ rfl (hown.alloc _) ⟨wr.heap.size, 0, none⟩ 1 1 [.string (s.extract a s.size)] rfl rfl ?c1 ?c2 ?c3 ?c4 ?c5 ?_)
        case c1 => exact cell_one_new _ _ _
        case c2 => simp [Value.oneCell']
        case c3 => unfold maxLen; omega
        case c4 => omega
        case c5 => simp; omega
        intro v' w1 hown' hgrow _
        go_wp2
        go_roundw
        case rel => exact lrel_snoc s w wr w1 s.size a out _ u3 v' hok (ext_bs _ _ _) hown hB hown' hgrow (.inr ⟨rfl, hl⟩)
        case measure => simp [intOf]
    · go_wp2
      go_ret
      exact ⟨_, rfl, by rw [hl.out]; exact owns_at hown, hB⟩
end Go.Proofs.YtfpegmeppgdklaaDoor
