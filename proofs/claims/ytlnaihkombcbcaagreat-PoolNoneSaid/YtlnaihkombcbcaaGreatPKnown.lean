/-
  subst.Refs, pool.of, pool.Family as calls known ahead.
-/
import Derived.Test.YtlnaihkombcbcaaGreatPAdd
import Derived.Test.YtlnaihkombcbcaaGreatPFam
import Derived.Test.YtlnaihkombcbcaaGreatPStrs
noncomputable section
namespace Go.Proofs.YtlnaihkombcbcaaGreat
open Go.RowKit Go.Ev Go.Sort
/-- rising, each once -/
def insU (x : Str) : List Str → List Str
  | [] => [x]
  | y :: r => match Op.bytesLess x y with
    | true => x :: y :: r
    | false => match x == y with
      | true => y :: r
      | false => y :: insU x r
def ofF (κ : Int) (l : List Vl) : List Str := (txVs κ l).foldr (fun b r => insU (sOf b) r) []
theorem mem_insU (x : Str) : ∀ (l : List Str) (z : Str), z ∈ insU x l ↔ z = x ∨ z ∈ l
  | [], z => by simp [insU]
  | y :: r, z => by
    unfold insU
    split
    · simp
    · split
      · rename_i h
        have : x = y := by simpa using h
        subst this; simp
      · rw [List.mem_cons, mem_insU x r z, List.mem_cons]
        constructor
        · rintro (h | h | h)
          · exact .inr (.inl h)
          · exact .inl h
          · exact .inr (.inr h)
        · rintro (h | h | h)
          · exact .inr (.inl h)
          · exact .inl h
          · exact .inr (.inr h)
theorem insU_rises (x : Str) : ∀ {l : List Str}, risesB l → risesB (insU x l)
  | [], _ => by simp [insU, risesB]
  | y :: r, h => by
    obtain ⟨h1, h2⟩ := List.pairwise_cons.1 h
    unfold insU
    split
    · rename_i hb
      rw [bytesLess_eq] at hb
      have hlt := of_decide_eq_true hb
      exact List.pairwise_cons.2 ⟨fun z hz => by
        rcases List.mem_cons.1 hz with rfl | hz
        · exact hlt
        · exact List.lt_trans hlt (h1 z hz), h⟩
    · rename_i hb
      rw [bytesLess_eq] at hb
      have hnl : ¬ x < y := of_decide_eq_false hb
      split
      · exact h
      · rename_i he
        have hne : x ≠ y := by simpa using he
        have hyx : y < x := str_lt (List.not_lt.1 hnl) (fun e => hne e.symm)
        exact List.pairwise_cons.2 ⟨fun z hz => by
          rcases (mem_insU x r z).1 hz with rfl | hz
          · exact hyx
          · exact h1 z hz, insU_rises x h2⟩
theorem rises_unique : ∀ {a b : List Str}, risesB a → risesB b → (∀ x, x ∈ a ↔ x ∈ b) → a = b
  | [], [], _, _, _ => rfl
  | [], y :: b, _, _, h => absurd ((h y).2 List.mem_cons_self) (by simp)
  | x :: a, [], _, _, h => absurd ((h x).1 List.mem_cons_self) (by simp)
  | x :: a, y :: b, ha, hb, h => by
    obtain ⟨a1, a2⟩ := List.pairwise_cons.1 ha
    obtain ⟨b1, b2⟩ := List.pairwise_cons.1 hb
    have hxy : x = y := by
      rcases List.mem_cons.1 ((h x).1 List.mem_cons_self) with e | hx
      · exact e
      · rcases List.mem_cons.1 ((h y).2 List.mem_cons_self) with e | hy
        · exact e.symm
        · exact absurd (List.lt_trans (a1 y hy) (b1 x hx)) (List.lt_irrefl x)
    subst hxy
    congr 1
    refine rises_unique a2 b2 fun z => ⟨fun hz => ?_, fun hz => ?_⟩
    · rcases List.mem_cons.1 ((h z).1 (List.mem_cons_of_mem _ hz)) with e | hz'
      · subst e; exact absurd (a1 _ hz) (List.lt_irrefl _)
      · exact hz'
    · rcases List.mem_cons.1 ((h z).2 (List.mem_cons_of_mem _ hz)) with e | hz'
      · subst e; exact absurd (b1 _ hz) (List.lt_irrefl _)
      · exact hz'
theorem ofF_eq (κ : Int) (l : List Vl) : ofF κ l = ofM κ l := by
  have h : ∀ t : List ByteArray, risesB (t.foldr (fun b r => insU (sOf b) r) []) ∧ ∀ z, z ∈ t.foldr (fun b r => insU (sOf b) r) [] ↔ z ∈ t.map sOf := by
    intro t
    induction t with
    | nil => exact ⟨List.Pairwise.nil, fun z => by simp⟩
    | cons b t ih =>
      refine ⟨insU_rises _ ih.1, fun z => ?_⟩
      rw [List.foldr_cons, mem_insU, ih.2, List.map_cons, List.mem_cons]
  exact rises_unique (h _).1 (ofM_rises κ l) fun z => by rw [ofF, (h _).2, mem_ofM]
/-- declarations, as they are known -/
def decDs : Nat → List AV → Option (List Dl)
  | 0, _ => none
  | _ + 1, [] => some []
  | n + 1, .g (.string s) :: lv :: .g (.bool b) :: rest => match decL n lv, decDs n rest with
    | some l, some r => some (⟨s, l, b⟩ :: r)
    | _, _ => none
  | _ + 1, _ => none
def decD (n : Nat) : AV → Option (List Dl)
  | .sl k 3 cs => match decDs n cs with
    | some l => if l.length = k then some l else none
    | none => none
  | .z0 => some []
  | .g (.slice none 0 0) => some []
  | _ => none
theorem decDs_spec : ∀ (n : Nat) (cs : List AV) (l : List Dl), decDs n cs = some l → Rfns cs (l.flatMap encD)
  | 0, cs, l, h => by simp [decDs] at h
  | n + 1, cs, l, h => by
    unfold decDs at h
    split at h
    · cases h
    · cases h
      rw [List.flatMap_nil, Rfns]
      trivial
    · rename_i n0 s lv b rest he
      obtain rfl : n0 = n := by omega
      split at h
      · rename_i l' r h1 h2
        cases h
        rw [List.flatMap_cons, encD]
        exact ⟨.refl _, (dec_spec n0).2 _ _ h1, .refl _, decDs_spec n0 _ _ h2⟩
      · cases h
    · cases h
theorem decD_spec (n : Nat) (a : AV) (l : List Dl) (h : decD n a = some l) : Rfn a (.sl l.length 3 (l.flatMap encD)) := by
  unfold decD at h
  split at h
  · rename_i k cs
    split at h
    · rename_i l' h1
      split at h
      · rename_i hl
        cases h
        subst hl
        exact rfn_sl (decDs_spec _ _ _ h1)
      · cases h
    · cases h
  · cases h; exact rfn_z0 3
  · cases h; exact rfn_nil 3
  · cases h
/-- a slice of whatever -/
def isSl : AV → Bool
  | .sl _ _ _ => true
  | .z0 => true
  | .g (.slice _ _ _) => true
  | _ => false
theorem isSl_spec {a : AV} {w : World} {G : Gh} {v : Value} (h : isSl a = true) (hv : VR w G a v) : ∃ x n c, v = .slice x n c := by
  unfold isSl at h
  split at h
  · obtain ⟨x, c, rfl, -⟩ := hv; exact ⟨_, _, _, rfl⟩
  · obtain ⟨x, rfl⟩ := hv; exact ⟨_, _, _, rfl⟩
  · obtain rfl : v = _ := hv; exact ⟨_, _, _, rfl⟩
  · cases h
def shortD : List Dl → Bool
  | [] => true
  | d :: r => Nat.ble d.l.length 1000000 && shortD r
theorem shortD_all : ∀ {l : List Dl}, shortD l = true → ∀ d ∈ l, d.l.length ≤ 1000000
  | [], _, d, hd => by simp at hd
  | x :: l, h, d, hd => by
    rw [shortD, Bool.and_eq_true] at h
    rcases List.mem_cons.1 hd with rfl | hd
    · exact Nat.le_of_ble_eq_true h.1
    · exact shortD_all h.2 d hd
def pick18 : FuncId → Bool := fun f => Nat.beq f 58 || (Nat.beq f 91 || Nat.beq f 30)
def refsO (a : AV) : Option AV := match decL 1000 a with
  | some l => match okVs l && Nat.ble (cntVs l) 1000000 with
    | true => some (strsAV ((dd (rfVs l)).map sOf))
    | false => none
  | none => none
def ofO (a : AV) (κ : Int) : Option AV := match decL 1000 a with
  | some l => match Nat.ble (cntVs l) 1000000 with
    | true => some (strsAV (ofF κ l))
    | false => none
  | none => none
def famO (kind mn mx : Int) (a1 a2 a3 a6 a7 : AV) : Option AV := match decD 1000 a2 with
  | some ds => match isSl a1 && (isSl a3 && (isSl a6 && (isSl a7 && (shortD ds && (Nat.ble ds.length 1000000 && (mn == mn && mx == mx)))))) with
    | true => some (.tup [.g (.string (famM kind ds).1), .g (.bool (famM kind ds).2)])
    | false => none
  | none => none
def known18 : FuncId → List AV → Option AV := fun f args => match Nat.beq f 58 with
  | true => match args with
    | [a] => refsO a
    | _ => none
  | false => match Nat.beq f 91 with
    | true => match args with
      | [a, .g (.int .i64 κ)] => ofO a κ
      | _ => none
    | false => match Nat.beq f 30 with
      | true => match args with
        | [.agg [.g (.int .i64 kind), a1, a2, a3, .g (.int .i64 mn), .g (.int .i64 mx), a6, a7]] => famO kind mn mx a1 a2 a3 a6 a7
        | _ => none
      | false => none
theorem refsO_ok {a r : AV} (h : refsO a = some r) : Shut Tryz.prog 58 [a] r := by
  unfold refsO at h
  split at h
  · rename_i l hl
    split at h
    · rename_i hc
      cases h
      rw [Bool.and_eq_true] at hc
      intro w rargs ha
      obtain ⟨v, vs, e, hv, hvs⟩ := ha
      obtain rfl : vs = [] := hvs
      have hra : rargs = #[v] := by cases rargs; simp_all
      rw [hra]
      refine (refs_any v l w (Nat.le_of_ble_eq_true hc.2) hc.1 ((dec_spec 1000).2 a l hl _ _ _ hv)).mono ?_
      rintro e w' ⟨v', rfl, ho, hB⟩
      exact ⟨v', rfl, new_owns (by rw [← map_sOf]; exact ho), hB⟩
    · cases h
  · cases h
theorem ofO_ok {a r : AV} {κ : Int} (h : ofO a κ = some r) : Shut Tryz.prog 91 [a, .g (.int .i64 κ)] r := by
  unfold ofO at h
  split at h
  · rename_i l hl
    split at h
    · rename_i hc
      cases h
      intro w rargs ha
      obtain ⟨v, vs, e, hv, v1, vs1, rfl, hv1, hvs⟩ := ha
      obtain rfl : vs1 = [] := hvs
      obtain rfl : v1 = _ := hv1
      have hra : rargs = #[v, .int .i64 κ] := by cases rargs; simp_all
      rw [hra]
      refine (of_any κ v l w (Nat.le_of_ble_eq_true hc) ((dec_spec 1000).2 a l hl _ _ _ hv)).mono ?_
      rintro e w' ⟨v', rfl, ho, hB⟩
      exact ⟨v', rfl, by rw [ofF_eq]; exact new_owns ho, hB⟩
    · cases h
  · cases h
theorem famO_ok {kind mn mx : Int} {a1 a2 a3 a6 a7 r : AV} (h : famO kind mn mx a1 a2 a3 a6 a7 = some r) : Shut Tryz.prog 30 [.agg [.g (.int .i64 kind), a1, a2, a3, .g (.int .i64 mn), .g (.int .i64 mx), a6, a7]] r := by
  unfold famO at h
  split at h
  · rename_i ds hds
    split at h
    · rename_i hc
      cases h
      simp only [Bool.and_eq_true] at hc
      obtain ⟨c1, c3, c6, c7, cd, cl, -⟩ := hc
      intro w rargs ha
      obtain ⟨v, vs, e, ⟨rc, rfl, hv⟩, hvs⟩ := ha
      obtain rfl : vs = [] := hvs
      have hra : rargs = #[.agg rc] := by cases rargs; simp_all
      rw [hra]
      obtain ⟨x0, t0, e0, y0, x1, t1, rfl, y1, x2, t2, rfl, y2, x3, t3, rfl, y3, x4, t4, rfl, y4, x5, t5, rfl, y5, x6, t6, rfl, y6, x7, t7, rfl, y7, yy⟩ := hv
      obtain rfl : t7 = [] := yy
      obtain rfl : x0 = _ := y0
      obtain rfl : x4 = _ := y4
      obtain rfl : x5 = _ := y5
      obtain ⟨s1, n1, q1, rfl⟩ := isSl_spec c1 y1
      obtain ⟨s3, n3, q3, rfl⟩ := isSl_spec c3 y3
      obtain ⟨s6, n6, q6, rfl⟩ := isSl_spec c6 y6
      obtain ⟨s7, n7, q7, rfl⟩ := isSl_spec c7 y7
      have hd := decD_spec 1000 a2 ds hds _ _ _ y2
      obtain ⟨ad, cap, rfl, -⟩ := At.sl_form hd
      have hrc : rc = #[.int .i64 kind, .slice s1 n1 q1, .slice ad ds.length cap, .slice s3 n3 q3, .int .i64 mn, .int .i64 mx, .slice s6 n6 q6, .slice s7 n7 q7] := by cases rc; simp_all
      rw [hrc]
      refine (callsIn_wide (n := 9).1 (family_in 9 (by omega) kind mn mx s1 s3 s6 s7 ad n1 q1 n3 q3 n6 q6 n7 q7 cap ds w hd (Nat.le_of_ble_eq_true cl) (shortD_all cd))).mono ?_
      rintro e w' ⟨rfl, hB⟩
      refine ⟨_, rfl, ⟨_, rfl, ?_⟩, hB⟩
      exact VRs.cons_mk rfl (VRs.cons_mk rfl (by rw [VRs]))
    · cases h
  · cases h
theorem known18_ok {GT : GTab} : ChOk Tryz.prog GT (shutCH pick18 1000 known18) := by
  refine shutCH_ok fun f args a _ h => ?_
  unfold known18 at h
  split at h
  · rename_i hf
    obtain rfl : f = 58 := Nat.eq_of_beq_eq_true hf
    split at h
    · exact ⟨refsO_ok h, _, Tryz.func58, by kernel_rfl, by kernel_rfl⟩
    · cases h
  · split at h
    · rename_i hf
      obtain rfl : f = 91 := Nat.eq_of_beq_eq_true hf
      split at h
      · exact ⟨ofO_ok h, _, Tryz.func91, by kernel_rfl, by kernel_rfl⟩
      · cases h
    · split at h
      · rename_i hf
        obtain rfl : f = 30 := Nat.eq_of_beq_eq_true hf
        split at h
        · exact ⟨famO_ok h, _, Tryz.func30, by kernel_rfl, by kernel_rfl⟩
        · cases h
      · cases h
end Go.Proofs.YtlnaihkombcbcaaGreat
end
