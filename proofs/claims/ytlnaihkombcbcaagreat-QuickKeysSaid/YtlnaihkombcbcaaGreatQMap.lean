/-
  The index's map: an entry found or made, its slice appended to, stored again.
-/
import Derived.Test.YtlnaihkombcbcaaGreatQKeyOf
import Derived.Test.YtlnaihkombcbcaaGreatQKeys
import Derived.Test.YtlnaihkombcbcaaGreatQWords
import Derived.DeepKeys4
import Derived.WideKeyEntry
import Derived.Maps.AppendAt
import Derived.Deep.RegionLaw
namespace Go.Proofs.YtlnaihkombcbcaaGreat
open Go.RowKit Go.Ev Go.ChangeMaps Go.WideElems
theorem laidOutQ : laidOutB Tryz.prog = true := by kernel_rfl
theorem key_law : WideMaps.KeyLaw Tryz.prog 162 := deep_law_laid laidOutQ (m := 4) (by decide) (of_decide_eq_true (by kernel_rfl)) (by kernel_rfl) (by kernel_rfl)
theorem c_key : Tryz.prog.cellsOf 162 = 2 := by kernel_rfl
theorem kt_key : Tryz.prog.keyType 162 = true := by kernel_rfl
theorem c_int' : Tryz.prog.cellsOf 3 = 1 := by kernel_rfl
theorem c_str' : Tryz.prog.cellsOf 9 = 1 := by kernel_rfl
theorem types_pos : ∃ m, Tryz.prog.types.size + 1 = m + 1 + 1 := ⟨Tryz.prog.types.size - 1, by have : 0 < Tryz.prog.types.size := of_decide_eq_true (by kernel_rfl); omega⟩
/-- what is a key -/
def IsQ (v : Value) : Prop := ∃ (k : Int) (nm : ByteArray), v = .agg #[.int .i64 k, .string nm] ∧ ∃ kl, keyOf Tryz.prog 162 v = some kl
theorem key_lit {k : Int} {nm : ByteArray} (hk : (Lit.int .i64 k).wf = true) (hn : nm.size ≤ 100) : IsQ (.agg #[.int .i64 k, .string nm]) := by
  refine ⟨k, nm, rfl, ?_⟩
  obtain ⟨m, hm⟩ := types_pos
  have hn' : nm.size ≤ maxLen := by unfold maxLen; omega
  unfold keyOf
  simp only [Tryz.underlying162]
  rw [if_pos (by simp [kt_key, Value.formed, Tryz.underlying162, c_key]), hm]
  unfold Program.keyLits
  simp only [Tryz.underlying162, Value.cells]
  rw [if_pos ⟨by rw [c_key]; rfl, by simp⟩]
  unfold Program.keyLits
  simp [c_int', c_str', Tryz.underlying3, Tryz.underlying9, hk, hn']
section
variable {P : Program} {w : World} {t k e : TypeId} {b : Nat} {es : Array MapEntry} {clock : Nat}
theorem entry_found (K : WideMaps.KeyLaw P k) (ht : P.underlying t = some (.map k e)) (hb : w.heap[b]? = some (.map es clock)) (hs : MapKept.Stamped es clock) (hks : ∀ x ∈ es.toList, ∃ l, keyOf P k x.key = some l)
    {key : Value} {kl : Lit} (hkey : keyOf P k key = some kl) {j : Nat} {e0 : MapEntry} (hj : es.toList[j]? = some e0) (he0 : e0.key = key) :
    (Instr.mapEntry t (.map (some b)) key).run P w = .ok (.tuple #[e0.val, .int .i64 e0.born]) (setBlock w b (.map es clock)) ∧
      ∀ (w2 : World) (val : Value), w2.heap[b]? = some (.map es clock) → (Instr.entryStore t (.map (some b)) (.int .i64 e0.born) val).run P w2 = .ok () (setBlock w2 b (.map (es.modify j (fun e' => { e' with val := val })) clock)) := by
  obtain ⟨s1, s2, s3⟩ := hs
  rcases K.find w hkey es.toList hks with ⟨h1, h2⟩ | ⟨j', e0', h1, h2, h3⟩
  · exact absurd he0 (h2 e0 (List.mem_of_getElem? hj))
  · have hjj : j' = j := by
      have h4 : (es.toList.map (·.key))[j']? = (es.toList.map (·.key))[j]? := by rw [List.getElem?_map, List.getElem?_map, h2, hj]; simp [h3, he0]
      have hl : j' < (es.toList.map (·.key)).length := by rw [List.length_map]; exact (List.getElem?_eq_some_iff.1 h2).1
      exact (List.getElem?_inj hl s3).1 h4
    subst hjj
    obtain rfl : e0' = e0 := by rw [h2] at hj; exact Option.some.inj hj
    have hj2 : es[j']? = some e0' := by simpa using h2
    have hsame : es.modify j' (fun e => { e with key := key }) = es := by
      apply Array.ext'
      rw [Array.toList_modify, modify_eq_set _ _ _ _ h2]
      have : ({ e0' with key := key } : MapEntry) = e0' := by rw [← h3]
      rw [this]
      exact set_self _ _ _ h2
    refine ⟨?_, fun w2 val hw2 => ?_⟩
    · simp [Instr.mapEntry, run_underlying ht, MapKept.run_getObj_map hb, K.check w false hkey, h1, hj2, h3, K.stays w hkey, hsame, MapKept.run_setObj_map _ hb, Result.andThen, setBlock, goInt]
    · have hidx : es.findIdx? (fun e => ((e.born : Nat) : Int) == ((e0'.born : Nat) : Int)) = some j' := by
        rw [findIdx_arr]
        exact findIdx_born s2 h2
      simp [Instr.entryStore, MapKept.run_getObj_map hw2, asInt, asIntOf, hidx, MapKept.run_setObj_map _ hw2, Result.andThen, setBlock]
theorem entry_new (K : WideMaps.KeyLaw P k) (ht : P.underlying t = some (.map k e)) {z : Value} (hz : ∀ u : World, (zeroValue e).run P u = .ok z u) (hb : w.heap[b]? = some (.map es clock)) (hs : MapKept.Stamped es clock) (hks : ∀ x ∈ es.toList, ∃ l, keyOf P k x.key = some l)
    {key : Value} {kl : Lit} (hkey : keyOf P k key = some kl) (hno : ∀ x ∈ es.toList, x.key ≠ key) :
    (Instr.mapEntry t (.map (some b)) key).run P w = .ok (.tuple #[z, .int .i64 clock]) (setBlock w b (.map (es.push ⟨key, z, clock⟩) (clock + 1))) ∧
      ∀ (w2 : World) (val : Value), w2.heap[b]? = some (.map (es.push ⟨key, z, clock⟩) (clock + 1)) → (Instr.entryStore t (.map (some b)) (.int .i64 clock) val).run P w2 = .ok () (setBlock w2 b (.map (es.push ⟨key, val, clock⟩) (clock + 1))) := by
  obtain ⟨s1, s2, _⟩ := hs
  rcases K.find w hkey es.toList hks with ⟨h1, h2⟩ | ⟨j', e0', h1, h2, h3⟩
  · refine ⟨?_, fun w2 val hw2 => ?_⟩
    · simp [Instr.mapEntry, run_underlying ht, MapKept.run_getObj_map hb, K.check w false hkey, h1, hz, MapKept.run_setObj_map _ hb, Result.andThen, setBlock, goInt]
    · have hidx : (es.push ⟨key, z, clock⟩).findIdx? (fun e => ((e.born : Nat) : Int) == ((clock : Nat) : Int)) = some es.size := by
        rw [findIdx_arr]
        have := findIdx_born (l := (es.push ⟨key, z, clock⟩).toList) (j := es.size) (e0 := ⟨key, z, clock⟩) (by
          simp only [Array.toList_push, List.map_append, List.map_cons, List.map_nil]
          refine List.nodup_append.2 ⟨s2, by simp, fun a ha c hc e1 => ?_⟩
          simp only [List.mem_singleton] at hc
          obtain ⟨x, hx, rfl⟩ := List.mem_map.1 ha
          have := s1 x hx
          omega) (by simp)
        exact this
      have hmod : (es.push ⟨key, z, clock⟩).modify es.size (fun e => { e with val := val }) = es.push ⟨key, val, clock⟩ := by
        apply Array.ext'
        rw [Array.toList_modify, Array.toList_push, Array.toList_push, ← Array.length_toList, modify_last]
      simp [Instr.entryStore, MapKept.run_getObj_map hw2, asInt, asIntOf, hidx, hmod, MapKept.run_setObj_map _ hw2, Result.andThen, setBlock]
  · exact absurd h3 (hno e0' (List.mem_of_getElem? h2))
end
end Go.Proofs.YtlnaihkombcbcaaGreat
