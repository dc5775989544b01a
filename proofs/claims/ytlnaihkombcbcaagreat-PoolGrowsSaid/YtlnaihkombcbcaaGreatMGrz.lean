/-
  The law PoolGrows is true of every input: the statement of the first form.
  slices.Clone and slices.DeleteFunc at declarations; the function that (dropper).keep hands it.
  What is left of items by a pool, as a list; what its rules are. Of no program but for its data.
  winnowinglaw18.PoolGrows, walked.
-/
import Derived.Test.YtlnaihkombcbcaaGreatMGrc
import Derived.Lib.SliceRun
import Derived.Test.YtlnaihkombcbcaaGreatMGra
import Derived.Test.YtlnaihkombcbcaaGreatPFixed
import Derived.Test.YtlnaihkombcbcaaGreatJRow
import Derived.WalkKit
import Derived.ProofKit
import Derived.OpenShut
import Derived.SizedLaws
import Derived.WideKeyArgs
noncomputable section
namespace Go.Proofs.YtlnaihkombcbcaaGreat
open Go.RowKit Go.Sort Go.Ev
theorem contains_bs (c : List Str) (x : ByteArray) : Lib.containsS (c.map bs) x = c.contains (sOf x) := by
  rw [Bool.eq_iff_iff, Lib.containsS_iff, List.contains_iff_mem, List.mem_map]
  constructor
  · rintro ⟨y, hy, rfl⟩; exact hy
  · exact fun h => ⟨_, h, rfl⟩
theorem contains_sat {w : World} {v : Value} {c : List Str} (h : SAt w v c) (x : ByteArray) (hl : c.length ≤ 1000000) :
    Calls Tryz.prog 115 #[v, .string x] w fun e w' => e = .returned (.bool (c.contains (sOf x))) ∧ w' = w := by
  rcases h with ⟨h0, a, cc, rfl⟩ | ⟨b, off, cap, rfl, h1, h2, h3⟩
  · obtain rfl : c = [] := by simpa using h0
    refine (Tryz.slices_Contains_string_empty a cc x w).mono ?_
    rintro e w' ⟨rfl, rfl⟩
    exact ⟨rfl, rfl⟩
  · have hc : ∀ j, j < (c.map bs).length → w.cell? ⟨b, off + j, none⟩ = some (.string ((c.map bs).getD j ByteArray.empty)) := fun j hj => by
      rw [h3 j hj, List.getD_eq_getElem?_getD, List.getElem?_eq_getElem hj]; rfl
    refine (Tryz.slices_Contains_string b off (c.map bs).length cap (c.map bs) x w (Nat.le_refl _) (by rw [List.length_map]; omega) hc).mono ?_
    rintro e w' ⟨rfl, rfl⟩
    exact ⟨by rw [List.take_length, contains_bs], rfl⟩
/-- is a declaration kept? -/
def kpD (c : List Str) (d : Dl) : Bool := !(customB d.name && !c.contains (sOf d.name))
/-- a declaration, and where its values lie -/
structure Dc where
  d : Dl
  ad : Option Addr
  cp : Nat
def Dc.v (x : Dc) : Value := .agg #[.string x.d.name, .slice x.ad x.d.l.length x.cp, .bool x.d.imp]
def Dc.vs (x : Dc) : List Value := [.string x.d.name, .slice x.ad x.d.l.length x.cp, .bool x.d.imp]
def Tri (W : World) (g t : Nat) (x : Dc) : Prop := W.cell? ⟨g, t * 3, none⟩ = some (.string x.d.name) ∧ W.cell? ⟨g, t * 3 + 1, none⟩ = some (.slice x.ad x.d.l.length x.cp) ∧ W.cell? ⟨g, t * 3 + 2, none⟩ = some (.bool x.d.imp)
theorem Tri.below {W W' : World} {g t : Nat} {x : Dc} (h : Tri W g t x) (hb : Below W.heap.size W W') : Tri W' g t x := ⟨cell_up h.1 hb, cell_up h.2.1 hb, cell_up h.2.2 hb⟩
/-- what the function that is handed on reads -/
def PrAt (c : List Str) (Bp z0 : Nat) (w : World) : Prop := ∃ va, ∀ W, Below z0 w W → W.cell? ⟨Bp, 0, none⟩ = some va ∧ SAt W va c
theorem PrAt.step {c : List Str} {Bp z0 : Nat} {w w' : World} (h : PrAt c Bp z0 w) (hb : Below z0 w w') : PrAt c Bp z0 w' := by
  obtain ⟨va, h⟩ := h
  exact ⟨va, fun W hW => h W (hb.trans hW)⟩
set_option maxRecDepth 100000 in
theorem pred_any {c : List Str} {Bp z0 : Nat} {w : World} (h : PrAt c Bp z0 w) (hl : c.length ≤ 1000000) (hz : z0 ≤ w.heap.size) (x : Dc) :
    Calls Tryz.prog 142 #[x.v, .pointer (some ⟨Bp, 0, none⟩)] w fun e w' => e = .returned (.bool (!kpD c x.d)) ∧ Below w.heap.size w w' := by
  obtain ⟨va, h⟩ := h
  unfold Dc.v
  have hb := below_alloc w (.cells #[.string x.d.name, .slice x.ad x.d.l.length x.cp, .bool x.d.imp] 134)
  obtain ⟨hva, hsa⟩ := h _ (hb.mono hz)
  have HC := Lib.hid (contains_sat hsa x.d.name hl)
  have HB := Lib.hid hb
  obtain ⟨va0, va1, va2, rfl⟩ := hsa.form
  have HK : Hid ((!kpD c x.d) = (customB x.d.name && !c.contains (sOf x.d.name))) := Lib.hid (by rw [kpD, Bool.not_not])
  clear h hb hsa
  generalize (!kpD c x.d) = r at *
  generalize x.d.name = nm at *
  generalize x.d.l.length = n at *
  generalize x.d.imp = im at *
  cases hcu : customB nm
  · have HR : Hid (r = false) := Lib.hid (by rw [HK.out, hcu]; rfl)
    clear HK
    go_enter Tryz.func142, Tryz.ntmps142
    go_wp2_with fail
    refine (custom_any nm _).mono ?_
    rintro e w1 ⟨rfl, rfl⟩
    rw [hcu]
    go_wp2
    go_ret
    exact ⟨by rw [HR.out]; rfl, HB.out⟩
  · have HR : Hid (r = !c.contains (sOf nm)) := Lib.hid (by rw [HK.out, hcu]; rfl)
    clear HK
    generalize c.contains (sOf nm) = q at *
    go_enter Tryz.func142, Tryz.ntmps142
    go_wp2_with fail
    refine (custom_any nm _).mono ?_
    rintro e w1 ⟨rfl, rfl⟩
    rw [hcu]
    go_wp2_with fail
    refine HC.out.mono ?_
    rintro e w1 ⟨rfl, rfl⟩
    go_wp2
    go_ret
    exact ⟨by rw [HR.out]; cases q <;> rfl, HB.out⟩
/-- what slices.IndexFunc gives -/
def IdxPost (p : Dc → Bool) (ds : List Dc) (w : World) (e : Ending) (w' : World) : Prop :=
  ∃ i : Int, e = .returned (.int .i64 i) ∧ Hid ((i = -1 ∧ ∀ x ∈ ds, p x = true) ∨ ∃ (k : Nat) (hk : k < ds.length), i = k ∧ p ds[k] = false ∧ ∀ x ∈ ds.take k, p x = true) ∧ Below w.heap.size w w'
def prV (Bp : Nat) : Value := .func (.func 142) #[] #[.pointer (some ⟨Bp, 0, none⟩)]
theorem all_take {p : Dc → Bool} {ds : List Dc} {k : Nat} (hk : k < ds.length) (h : ∀ x ∈ ds.take k, p x = true) (hp : p ds[k] = true) : ∀ x ∈ ds.take (k + 1), p x = true := fun x hx => by
  rw [List.take_succ_eq_append_getElem hk] at hx
  rcases List.mem_append.1 hx with hx | hx
  · exact h x hx
  · rw [List.mem_singleton.1 hx]; exact hp
set_option maxRecDepth 100000 in
set_option maxHeartbeats 1000000 in
theorem index_any {c : List Str} {Bp z0 g : Nat} {w : World} {ds : List Dc} (cap : Nat) (h : PrAt c Bp z0 w) (hl : c.length ≤ 1000000) (hz : z0 ≤ w.heap.size) (hn : ds.length ≤ 1000000) (ht : ∀ t (ht : t < ds.length), Tri w g t ds[t]) :
    Calls Tryz.prog 208 #[.slice (some ⟨g, 0, none⟩) ds.length cap, prV Bp] w (IdxPost (fun x => kpD c x.d) ds w) := by
  have HP := Lib.hid fun (W : World) (hb : Below w.heap.size w W) x => pred_any (h.step (hb.mono hz)) hl (Nat.le_trans hz hb.size) x
  have HT := Lib.hid fun (W : World) (hb : Below w.heap.size w W) t (h9 : t < ds.length) => (ht t h9).below hb
  clear h ht hz
  unfold prV
  go_enter Tryz.func208, Tryz.ntmps208
  go_wp2
  go_loopw [5, 8] (fun _ i wr => ∃ k : Nat, k ≤ ds.length ∧ i = .int .i64 k ∧ Hid (Below w.heap.size w wr ∧ ∀ x ∈ ds.take k, kpD c x.d = true)) (fun _ i _ => ds.length - (intOf i).toNat)
  case atStart => exact ⟨0, Nat.zero_le _, rfl, Lib.hid ⟨Below.refl _ _, by simp⟩⟩
  case round =>
    obtain ⟨k, hk, rfl, HB⟩ := hrel
    by_cases hlt : k < ds.length
    · obtain ⟨c0, c1, c2⟩ := HT.out wr HB.out.1 k hlt
      have HCL := Lib.hid (HP.out wr HB.out.1 ds[k])
      cases hq : kpD c ds[k].d
      · rw [hq] at HCL
        have HE : Hid (kpD c ds[k].d = false) := Lib.hid hq
        clear hq
        unfold Dc.v at HCL
        generalize ds[k].d.name = nm at *
        generalize ds[k].d.l.length = n at *
        generalize ds[k].d.imp = im at *
        generalize ds[k].ad = ad at *
        generalize ds[k].cp = cp at *
        go_wp2_with fail
        refine HCL.out.mono ?_
        rintro e w2 ⟨rfl, hB2⟩
        clear c0 c1 c2
        go_wp2
        go_ret
        exact ⟨k, rfl, Lib.hid (.inr ⟨k, hlt, rfl, HE.out, HB.out.2⟩), bup HB.out.1 hB2⟩
      · rw [hq] at HCL
        have HE : Hid (∀ x ∈ ds.take (k + 1), kpD c x.d = true) := Lib.hid (all_take (p := fun x : Dc => kpD c x.d) hlt HB.out.2 hq)
        clear hq
        unfold Dc.v at HCL
        generalize ds[k].d.name = nm at *
        generalize ds[k].d.l.length = n at *
        generalize ds[k].d.imp = im at *
        generalize ds[k].ad = ad at *
        generalize ds[k].cp = cp at *
        go_wp2_with fail
        refine HCL.out.mono ?_
        rintro e w2 ⟨rfl, hB2⟩
        have HB2 := Lib.hid (bup HB.out.1 hB2)
        clear c0 c1 c2
        go_wp2
        go_roundw
        case rel => exact ⟨k + 1, by omega, by go_num, Lib.hid ⟨HB2.out, HE.out⟩⟩
        case measure => simp [intOf]; omega
    · obtain rfl : k = ds.length := by omega
      have hh := HB.out
      rw [List.take_length] at hh
      have HH := Lib.hid hh
      clear hh
      go_wp2
      go_ret
      exact ⟨-1, rfl, Lib.hid (.inl ⟨rfl, HH.out.2⟩), HH.out.1⟩
end Go.Proofs.YtlnaihkombcbcaaGreat
end
noncomputable section
namespace Go.Proofs.YtlnaihkombcbcaaGreat
open Go.RowKit Go.Sort Go.Ev
def kpF (f : List Str) : List ByteArray → Bool
  | [n] => f.contains (sOf n)
  | _ => true
def kpG (g : List Str) (k : Int) (ds : List Dl) : Bool := (famM k ds).2 && g.contains (sOf (famM k ds).1)
mutual
def keepI (p : S3) : Itm → Option Itm
  | .mk k s d n mn mx v l =>
    if k = 1 then (if (d.filter (kpD p.c)).length = 0 then none else some (.mk k s (d.filter (kpD p.c)) n mn mx v l))
    else if k = 2 then (if (dropIs p l).length = 0 then none else some (.mk k s d n mn mx v (dropIs p l)))
    else if k = 3 then (if (dropIs p l).length = 0 then some (.mk 4 [] [] n 0 0 [] []) else some (.mk k s d n mn mx v (dropIs p l)))
    else if k = 5 then (if kpF p.f n = true then some (.mk k s d n mn mx v l) else none)
    else if k = 6 then (if kpG p.g k d = true then some (.mk k s d n mn mx v l) else none)
    else some (.mk k s d n mn mx v l)
def dropIs (p : S3) : List Itm → List Itm
  | [] => []
  | x :: xs => match keepI p x with
    | some y => y :: dropIs p xs
    | none => dropIs p xs
end
theorem keepI_eq (p : S3) (x : Itm) : keepI p x = (if x.kind = 1 then (if (x.decls.filter (kpD p.c)).length = 0 then none else some (.mk x.kind x.sels (x.decls.filter (kpD p.c)) x.names x.mn x.mx x.vals x.l))
    else if x.kind = 2 then (if (dropIs p x.l).length = 0 then none else some (.mk x.kind x.sels x.decls x.names x.mn x.mx x.vals (dropIs p x.l)))
    else if x.kind = 3 then (if (dropIs p x.l).length = 0 then some (.mk 4 [] [] x.names 0 0 [] []) else some (.mk x.kind x.sels x.decls x.names x.mn x.mx x.vals (dropIs p x.l)))
    else if x.kind = 5 then (if kpF p.f x.names = true then some x else none)
    else if x.kind = 6 then (if kpG p.g x.kind x.decls = true then some x else none)
    else some x) := by cases x; rw [keepI]; rfl
theorem dropIs_nil (p : S3) : dropIs p [] = [] := by rw [dropIs]
theorem dropIs_some {p : S3} {x y : Itm} {xs : List Itm} (h : keepI p x = some y) : dropIs p (x :: xs) = y :: dropIs p xs := by rw [dropIs, h]
theorem dropIs_none {p : S3} {x : Itm} {xs : List Itm} (h : keepI p x = none) : dropIs p (x :: xs) = dropIs p xs := by rw [dropIs, h]
theorem dropIs_append (p : S3) : ∀ (a b : List Itm), dropIs p (a ++ b) = dropIs p a ++ dropIs p b
  | [], b => by rw [dropIs_nil]; rfl
  | x :: a, b => by
    cases h : keepI p x with
    | none => rw [List.cons_append, dropIs_none h, dropIs_none h, dropIs_append p a b]
    | some y => rw [List.cons_append, dropIs_some h, dropIs_some h, dropIs_append p a b]; rfl
theorem dropIs_snoc {p : S3} {l : List Itm} {k : Nat} (hk : k < l.length) : dropIs p (l.take (k + 1)) = dropIs p (l.take k) ++ (keepI p l[k]).toList := by
  rw [List.take_succ_eq_append_getElem hk, dropIs_append]
  congr 1
  cases h : keepI p l[k] with
  | none => rw [dropIs_none h, dropIs_nil]; rfl
  | some y => rw [dropIs_some h, dropIs_nil]; rfl
theorem dropIs_len (p : S3) : ∀ (l : List Itm), (dropIs p l).length ≤ l.length
  | [] => by rw [dropIs_nil]; exact Nat.le_refl _
  | x :: l => by
    have h1 := dropIs_len p l
    cases h : keepI p x with
    | none => rw [dropIs_none h, List.length_cons]; omega
    | some y => rw [dropIs_some h, List.length_cons, List.length_cons]; omega
theorem kpD_idem (c : List Str) (ds : List Dl) : (ds.filter (kpD c)).filter (kpD c) = ds.filter (kpD c) := by
  rw [List.filter_filter]; congr 1; funext d; simp
/-- what is kept of an item is the item itself, but for its declarations and its items -/
inductive Kp (p : S3) (x : Itm) : Itm → Prop where
  | same (h : x.kind ≠ 1) (h2 : x.kind ≠ 2) (h3 : x.kind ≠ 3) (h5 : x.kind = 5 → kpF p.f x.names = true) (h6 : x.kind = 6 → kpG p.g x.kind x.decls = true) : Kp p x x
  | rule (h : x.kind = 1) (hne : (x.decls.filter (kpD p.c)).length ≠ 0) : Kp p x (.mk x.kind x.sels (x.decls.filter (kpD p.c)) x.names x.mn x.mx x.vals x.l)
  | block (h : x.kind = 2 ∨ x.kind = 3) (hne : (dropIs p x.l).length ≠ 0) : Kp p x (.mk x.kind x.sels x.decls x.names x.mn x.mx x.vals (dropIs p x.l))
  | layer (h : x.kind = 3) (he : (dropIs p x.l).length = 0) : Kp p x (.mk 4 [] [] x.names 0 0 [] [])
theorem kp_of {p : S3} {x y : Itm} (h : keepI p x = some y) : Kp p x y := by
  rw [keepI_eq] at h
  by_cases h1 : x.kind = 1
  · rw [if_pos h1] at h
    by_cases hn : (x.decls.filter (kpD p.c)).length = 0
    · rw [if_pos hn] at h; cases h
    · rw [if_neg hn] at h; cases h; exact .rule h1 hn
  · rw [if_neg h1] at h
    by_cases h2 : x.kind = 2
    · rw [if_pos h2] at h
      by_cases hn : (dropIs p x.l).length = 0
      · rw [if_pos hn] at h; cases h
      · rw [if_neg hn] at h; cases h; exact .block (.inl h2) hn
    · rw [if_neg h2] at h
      by_cases h3 : x.kind = 3
      · rw [if_pos h3] at h
        by_cases hn : (dropIs p x.l).length = 0
        · rw [if_pos hn] at h; cases h; exact .layer h3 hn
        · rw [if_neg hn] at h; cases h; exact .block (.inr h3) hn
      · rw [if_neg h3] at h
        by_cases h5 : x.kind = 5
        · rw [if_pos h5] at h
          by_cases hn : kpF p.f x.names = true
          · rw [if_pos hn] at h; cases h; exact .same h1 h2 h3 (fun _ => hn) (fun h6 => by omega)
          · rw [if_neg hn] at h; cases h
        · rw [if_neg h5] at h
          by_cases h6 : x.kind = 6
          · rw [if_pos h6] at h
            by_cases hn : kpG p.g x.kind x.decls = true
            · rw [if_pos hn] at h; cases h; exact .same h1 h2 h3 (fun h5' => absurd h5' h5) (fun _ => hn)
            · rw [if_neg hn] at h; cases h
          · rw [if_neg h6] at h; cases h
            exact .same h1 h2 h3 (fun h5' => absurd h5' h5) (fun h6' => absurd h6' h6)
/-- what is kept is kept again, as it is -/
theorem kp_self {p : S3} {x y : Itm} (h : Kp p x y) (ih : dropIs p (dropIs p x.l) = dropIs p x.l) : keepI p y = some y := by
  rw [keepI_eq]
  cases h with
  | same h1 h2 h3 h5 h6 =>
    rw [if_neg h1, if_neg h2, if_neg h3]
    by_cases e5 : x.kind = 5
    · rw [if_pos e5, if_pos (h5 e5)]
    · rw [if_neg e5]
      by_cases e6 : x.kind = 6
      · rw [if_pos e6, if_pos (h6 e6)]
      · rw [if_neg e6]
  | rule h1 hne =>
    show (if x.kind = 1 then _ else _) = _
    rw [if_pos h1]
    show (if ((x.decls.filter (kpD p.c)).filter (kpD p.c)).length = 0 then none else some (Itm.mk x.kind x.sels ((x.decls.filter (kpD p.c)).filter (kpD p.c)) x.names x.mn x.mx x.vals x.l)) = _
    rw [kpD_idem, if_neg hne]
  | block hk hne =>
    show (if x.kind = 1 then _ else if x.kind = 2 then (if (dropIs p (dropIs p x.l)).length = 0 then _ else some (Itm.mk x.kind x.sels x.decls x.names x.mn x.mx x.vals (dropIs p (dropIs p x.l)))) else if x.kind = 3 then (if (dropIs p (dropIs p x.l)).length = 0 then _ else some (Itm.mk x.kind x.sels x.decls x.names x.mn x.mx x.vals (dropIs p (dropIs p x.l)))) else _) = _
    rw [ih, if_neg (by omega)]
    rcases hk with hk | hk
    · rw [if_pos hk, if_neg hne]
    · rw [if_neg (by omega), if_pos hk, if_neg hne]
  | layer hk he => rfl
theorem drop_idem (p : S3) (N : Nat) : ∀ (l : List Itm), SizeOf.sizeOf l ≤ N → dropIs p (dropIs p l) = dropIs p l := by
  induction N with
  | zero => intro l hl; cases l <;> simp at hl <;> omega
  | succ N ihN =>
    intro l hl
    have key : ∀ (a : List Itm), (∀ x ∈ a, SizeOf.sizeOf x.l ≤ N) → dropIs p (dropIs p a) = dropIs p a := by
      intro a ha
      induction a with
      | nil => rw [dropIs_nil, dropIs_nil]
      | cons x a ih =>
        have h2 := ih fun y hy => ha y (List.mem_cons_of_mem _ hy)
        cases h : keepI p x with
        | none => rw [dropIs_none h, h2]
        | some y => rw [dropIs_some h, dropIs_some (kp_self (kp_of h) (ihN _ (ha x List.mem_cons_self))), h2]
    exact key l fun x hx => by have := itm_lt hx; omega
theorem dropIs_again (p : S3) (l : List Itm) : dropIs p (dropIs p l) = dropIs p l := drop_idem p _ l (Nat.le_refl _)
/-- an item's own rules, and those within -/
def rlI (x : Itm) : List Ru := ruI x ++ if x.kind = 2 ∨ x.kind = 3 then rulesOf x.l else []
theorem rulesOf_nil : rulesOf [] = [] := by rw [rulesOf, flatIs]; rfl
theorem rulesOf_append (a b : List Itm) : rulesOf (a ++ b) = rulesOf a ++ rulesOf b := by rw [rulesOf, flatIs_append, List.flatMap_append]; rfl
theorem rulesOf_cons (x : Itm) (l : List Itm) : rulesOf (x :: l) = rlI x ++ rulesOf l := by
  rw [rulesOf, flatIs, List.flatMap_append, flatI_eq, List.flatMap_cons, rlI]
  congr 2
  split
  · rfl
  · rfl
theorem kp_rules {p : S3} {x y : Itm} (h : Kp p x y) (ih : ∀ r ∈ rulesOf (dropIs p x.l), r ∈ rulesOf x.l) : ∀ r ∈ rlI y, r ∈ rlI x := by
  intro r hr
  cases h with
  | same => exact hr
  | rule h1 hne =>
    have e2 : ¬ (x.kind = 2 ∨ x.kind = 3) := by omega
    have e1 : rlI (.mk x.kind x.sels (x.decls.filter (kpD p.c)) x.names x.mn x.mx x.vals x.l) = (x.decls.filter (kpD p.c)).map fun d => ruD d.name d.l := by
      show (if x.kind = 1 then _ else _) ++ (if x.kind = 2 ∨ x.kind = 3 then _ else _) = _
      rw [if_pos h1, if_neg e2, List.append_nil]
      rfl
    rw [e1] at hr
    obtain ⟨d, hd, rfl⟩ := List.mem_map.1 hr
    rw [rlI, ruI, if_pos h1, if_neg e2, List.append_nil]
    exact List.mem_map.2 ⟨d, (List.mem_filter.1 hd).1, rfl⟩
  | block hk hne =>
    have e1 : rlI (.mk x.kind x.sels x.decls x.names x.mn x.mx x.vals (dropIs p x.l)) = rulesOf (dropIs p x.l) := by
      show (if x.kind = 1 then _ else if x.kind = 5 then _ else []) ++ (if x.kind = 2 ∨ x.kind = 3 then _ else _) = _
      rw [if_neg (by omega), if_neg (by omega), if_pos hk]
      rfl
    rw [e1] at hr
    rw [rlI, if_pos hk]
    exact List.mem_append.2 (.inr (ih r hr))
  | layer hk he => exact absurd hr (by rw [rlI]; show r ∉ [] ++ []; simp)
theorem drop_rules (p : S3) (N : Nat) : ∀ (l : List Itm), SizeOf.sizeOf l ≤ N → ∀ r ∈ rulesOf (dropIs p l), r ∈ rulesOf l := by
  induction N with
  | zero => intro l hl; cases l <;> simp at hl <;> omega
  | succ N ihN =>
    intro l hl
    have key : ∀ (a : List Itm), (∀ x ∈ a, SizeOf.sizeOf x.l ≤ N) → ∀ r ∈ rulesOf (dropIs p a), r ∈ rulesOf a := by
      intro a ha
      induction a with
      | nil => intro r hr; rw [dropIs_nil] at hr; exact hr
      | cons x a ih =>
        intro r hr
        have h2 := ih fun y hy => ha y (List.mem_cons_of_mem _ hy)
        rw [rulesOf_cons]
        cases h : keepI p x with
        | none => rw [dropIs_none h] at hr; exact List.mem_append.2 (.inr (h2 r hr))
        | some y =>
          rw [dropIs_some h, rulesOf_cons] at hr
          rcases List.mem_append.1 hr with hr | hr
          · exact List.mem_append.2 (.inl (kp_rules (kp_of h) (ihN _ (ha x List.mem_cons_self)) r hr))
          · exact List.mem_append.2 (.inr (h2 r hr))
    exact key l fun x hx => by have := itm_lt hx; omega
/-- rules that hold are kept -/
theorem drop_held (p : S3) (hp : ∀ i, risesB (p.at i)) (N : Nat) : ∀ (l : List Itm), SizeOf.sizeOf l ≤ N → ∀ r ∈ rulesOf l, gdB p r = true → r ∈ rulesOf (dropIs p l) := by
  induction N with
  | zero => intro l hl; cases l <;> simp at hl <;> omega
  | succ N ihN =>
    intro l hl
    have one : ∀ x, SizeOf.sizeOf x.l ≤ N → ∀ r ∈ rlI x, gdB p r = true → ∃ y, keepI p x = some y ∧ r ∈ rlI y := by
      intro x hx r hr hg
      rw [keepI_eq]
      by_cases h1 : x.kind = 1
      · have e2 : ¬ (x.kind = 2 ∨ x.kind = 3) := by omega
        rw [rlI, ruI, if_pos h1, if_neg e2, List.append_nil] at hr
        obtain ⟨d, hd, rfl⟩ := List.mem_map.1 hr
        have hk : kpD p.c d = true := by
          unfold kpD
          cases hc : customB d.name
          · rfl
          · have hg' : hasM p.c (sOf d.name) = true := by
              unfold gdB ruD at hg
              rw [hc] at hg
              exact (by simpa using hg : hasM (p.at 0) (sOf d.name) = true)
            have := (has_rises (sOf d.name) (hp 0)).1 hg'
            simp [show sOf d.name ∈ p.c from this]
        have hm : d ∈ x.decls.filter (kpD p.c) := List.mem_filter.2 ⟨hd, hk⟩
        rw [if_pos h1, if_neg (by have := List.length_pos_of_mem hm; omega)]
        refine ⟨_, rfl, ?_⟩
        show _ ∈ (if x.kind = 1 then _ else _) ++ (if x.kind = 2 ∨ x.kind = 3 then _ else _)
        rw [if_pos h1, if_neg e2, List.append_nil]
        exact List.mem_map.2 ⟨d, hm, rfl⟩
      · by_cases hk : x.kind = 2 ∨ x.kind = 3
        · have e0 : ruI x = [] := by rw [ruI, if_neg h1, if_neg (by omega)]
          rw [rlI, e0, if_pos hk, List.nil_append] at hr
          have hm := ihN _ hx r hr hg
          have hne : ¬ (dropIs p x.l).length = 0 := fun e => by
            rw [List.eq_nil_of_length_eq_zero e, rulesOf_nil] at hm
            simp at hm
          refine ⟨.mk x.kind x.sels x.decls x.names x.mn x.mx x.vals (dropIs p x.l), ?_, ?_⟩
          · rw [if_neg h1]
            rcases hk with hk | hk
            · rw [if_pos hk, if_neg hne]
            · rw [if_neg (by omega), if_pos hk, if_neg hne]
          · show _ ∈ _ ++ (if x.kind = 2 ∨ x.kind = 3 then _ else _)
            rw [if_pos hk]
            exact List.mem_append.2 (.inr hm)
        · rw [rlI, if_neg hk, List.append_nil] at hr
          rw [if_neg h1, if_neg (by omega), if_neg (by omega)]
          by_cases h5 : x.kind = 5
          · rw [ruI, if_neg h1, if_pos h5] at hr
            obtain ⟨n, hn⟩ : ∃ n, x.names = [n] := by
              cases e : x.names with
              | nil => rw [e] at hr; simp [ruN] at hr
              | cons n t =>
                cases t with
                | nil => exact ⟨n, rfl⟩
                | cons _ _ => rw [e] at hr; simp [ruN] at hr
            have hr' := hr
            rw [hn, ruN, List.mem_singleton] at hr'
            subst hr'
            have hg' : hasM p.f (sOf n) = true := hg
            have hkp : kpF p.f x.names = true := by
              rw [hn, kpF, List.contains_iff_mem]
              exact (has_rises (sOf n) (hp 1)).1 hg'
            refine ⟨x, by rw [if_pos h5, if_pos hkp], ?_⟩
            rw [rlI, if_neg hk, List.append_nil, ruI, if_neg h1, if_pos h5]
            exact hr
          · rw [ruI, if_neg h1, if_neg h5] at hr
            simp at hr
    have key : ∀ (a : List Itm), (∀ x ∈ a, SizeOf.sizeOf x.l ≤ N) → ∀ r ∈ rulesOf a, gdB p r = true → r ∈ rulesOf (dropIs p a) := by
      intro a ha
      induction a with
      | nil => intro r hr _; rw [dropIs_nil]; exact hr
      | cons x a ih =>
        intro r hr hg
        have h2 := ih fun y hy => ha y (List.mem_cons_of_mem _ hy)
        rw [rulesOf_cons] at hr
        rcases List.mem_append.1 hr with hr | hr
        · obtain ⟨y, hy, hry⟩ := one x (ha x List.mem_cons_self) r hr hg
          rw [dropIs_some hy, rulesOf_cons]
          exact List.mem_append.2 (.inl hry)
        · have h3 := h2 r hr hg
          cases h : keepI p x with
          | none => rw [dropIs_none h]; exact h3
          | some y => rw [dropIs_some h, rulesOf_cons]; exact List.mem_append.2 (.inr h3)
    exact key l fun x hx => by have := itm_lt hx; omega
theorem rulesOf_flatten : ∀ (L : List (List Itm)), rulesOf L.flatten = L.flatMap rulesOf
  | [] => rulesOf_nil
  | l :: L => by rw [List.flatten_cons, rulesOf_append, rulesOf_flatten L, List.flatMap_cons]
/-- what is left uses the same -/
theorem left_same {L : List (List Itm)} {p q : S3} (h : FinU (rulesOf L.flatten) p) (hq : FinU (rulesOf (L.map (dropIs p)).flatten) q) : q = p := by
  have sub : ∀ r ∈ rulesOf (L.map (dropIs p)).flatten, r ∈ rulesOf L.flatten := by
    intro r hr
    rw [rulesOf_flatten] at hr ⊢
    obtain ⟨l, hl, hr⟩ := List.mem_flatMap.1 hr
    obtain ⟨l0, hl0, rfl⟩ := List.mem_map.1 hl
    exact List.mem_flatMap.2 ⟨l0, hl0, drop_rules p _ l0 (Nat.le_refl _) r hr⟩
  have sup : ∀ r ∈ rulesOf L.flatten, gdB p r = true → r ∈ rulesOf (L.map (dropIs p)).flatten := by
    intro r hr hg
    rw [rulesOf_flatten] at hr ⊢
    obtain ⟨l, hl, hr⟩ := List.mem_flatMap.1 hr
    exact List.mem_flatMap.2 ⟨_, List.mem_map.2 ⟨l, hl, rfl⟩, drop_held p h.1 _ l (Nat.le_refl _) r hr hg⟩
  refine S3.ext_at fun i => rises_unique (hq.1 i) (h.1 i) fun x => ?_
  rw [hq.2, h.2]
  refine ⟨us_mono sub, fun hx => ?_⟩
  induction hx with
  | free r hr hg i x hx => exact .free r (sup r hr (by rw [gdB, hg])) hg i x hx
  | held r hr k y hg hy i x hx ih => exact .held r (sup r hr (by rw [gdB, hg]; exact (has_rises y (h.1 k)).2 ((h.2 k y).2 hy))) k y hg ih i x hx
end Go.Proofs.YtlnaihkombcbcaaGreat
end
noncomputable section
namespace Go.Proofs.YtlnaihkombcbcaaGreat
open Go.RowKit Go.Sort Go.Ev
theorem Tryz.infoSheet : (Tryz.prog.info? 46).map (fun i => (i.zero, i.size, i.bytes)) = some (some (.slice none 0 0), 1, 24) := by kernel_rfl
theorem rules_app (a b : List (List Itm)) : rulesOf (a ++ b).flatten = rulesOf a.flatten ++ rulesOf b.flatten := by rw [List.flatten_append, rulesOf_append]
theorem fin_small {L : List (List Itm)} (h : ∀ l ∈ L, okSh l) (h4 : L.length ≤ 4) {s : S3} (hs : FinU (rulesOf L.flatten) s) : smallS s := by
  have hi : InU (rulesOf L.flatten) s := ⟨hs.1, fun i x hx => (hs.2 i x).1 hx⟩
  have h0 : s.c.length ≤ 240000 := small_len h h4 hi 0
  have h1 : s.f.length ≤ 240000 := small_len h h4 hi 1
  have h2 : s.g.length ≤ 240000 := small_len h h4 hi 2
  exact ⟨by omega, by omega, by omega⟩
theorem ok_app {a b : List (List Itm)} (ha : ∀ l ∈ a, okSh l) (hb : ∀ l ∈ b, okSh l) : ∀ l ∈ a ++ b, okSh l := fun l hl => (List.mem_append.1 hl).elim (ha l) (hb l)
/-- Of, where a pool's variable takes it -/
theorem plat_box {W : World} {va vb vc : Value} (B : Nat) (h : W.heap[B]? = some (.cells #[va, vb, vc] 41)) : W.cell? ⟨B, 0, none⟩ = some va ∧ W.cell? ⟨B, 1, none⟩ = some vb ∧ W.cell? ⟨B, 2, none⟩ = some vc := plBox_cells h
set_option maxRecDepth 100000 in
set_option maxHeartbeats 8000000 in
theorem poolGrows_any (a b : List (List Itm)) (va vb : Value) (w : World) (ha : At w (.sl a.length 1 (a.flatMap encSh)) va) (hb : At w (.sl b.length 1 (b.flatMap encSh)) vb) (ga : ∀ l ∈ a, gsIs l = true) (gb : ∀ l ∈ b, gsIs l = true) :
    Calls Tryz.prog 7 #[va, vb] w fun e w' => e = .returned (.bool true) ∧ Below w.heap.size w w' := by
  obtain ⟨i0, hi, hz0, hz1, hz2⟩ := info_parts Tryz.infoSheet
  obtain ⟨na, hna, hsa⟩ := src_gen (cells_flatSh a) (len_flatSh a) ha
  obtain ⟨nb, hnb, hsb⟩ := src_gen (cells_flatSh b) (len_flatSh b) hb
  obtain ⟨pa, ca, rfl, -⟩ := At.sl_form ha
  obtain ⟨pb, cb, rfl, -⟩ := At.sl_form hb
  have FX := Lib.hid fixed18_any
  have SA := Lib.hid fun w' (h : Below w.heap.size w w') => small18_any a _ w' (ha.below h) ga
  have SB := Lib.hid fun w' (h : Below w.heap.size w w') => small18_any b _ w' (hb.below h) gb
  have HA := Lib.hid ha
  have HNA := Lib.hid (And.intro hna hsa)
  have HNB := Lib.hid (And.intro hnb hsb)
  clear ha hb ga gb hna hsa hnb hsb
  by_cases hla : a.length ≤ 2
  · by_cases hlb : b.length ≤ 2
    · go_enter Tryz.func7, Tryz.ntmps7
      go_wp2_with fail
      refine (FX.out _).mono ?_
      rintro e w1 ⟨rfl, hB1⟩
      go_wp2_with fail
      refine (SA.out _ hB1).mono ?_
      rintro e w2 ⟨q1, rfl, hq1, hB2⟩
      have hC2 := bup hB1 hB2
      cases q1
      · go_wp2_with fail
        refine (FX.out _).mono ?_
        rintro e w3 ⟨rfl, hB3⟩
        go_wp2
        go_ret
        exact ⟨rfl, bup hC2 hB3⟩
      · go_wp2_with fail
        refine (SB.out _ hC2).mono ?_
        rintro e w3 ⟨q2, rfl, hq2, hB3⟩
        have hC3 := bup hC2 hB3
        cases q2
        · go_wp2_with fail
          refine (FX.out _).mono ?_
          rintro e w4 ⟨rfl, hB4⟩
          go_wp2
          go_ret
          exact ⟨rfl, bup hC3 hB4⟩
        · have oka : ∀ l ∈ a, okSh l := (hq1.out (by first | rfl | trivial)).2
          have okb : ∀ l ∈ b, okSh l := (hq2.out (by first | rfl | trivial)).2
          have OA := Lib.hid fun w' (h : Below w.heap.size w w') => of18_any a _ w' (HA.out.below h) oka (by omega)
          have OAB := Lib.hid fun v w' (h : At w' (.sl (a ++ b).length 1 ((a ++ b).flatMap encSh)) v) => of18_any (a ++ b) v w' h (ok_app oka okb) (by rw [List.length_append]; omega)
          have OBA := Lib.hid fun v w' (h : At w' (.sl (b ++ a).length 1 ((b ++ a).flatMap encSh)) v) => of18_any (b ++ a) v w' h (ok_app okb oka) (by rw [List.length_append]; omega)
          have SMA := Lib.hid fun s (h : FinU (rulesOf a.flatten) s) => fin_small oka (by omega) h
          have SMB := Lib.hid fun s (h : FinU (rulesOf (a ++ b).flatten) s) => fin_small (ok_app oka okb) (by rw [List.length_append]; omega) h
          clear hq1 hq2 SA SB oka okb FX
          go_wp2_with fail
          refine (OA.out _ hC3).mono ?_
          rintro e w4 ⟨px, sx, rfl, hpx, hfx, hB4⟩
          obtain ⟨x1, x2, x3, rfl, gx1, gx2, gx3⟩ := hpx
          obtain ⟨x11, x12, x13, rfl⟩ := gx1.form
          obtain ⟨x21, x22, x23, rfl⟩ := gx2.form
          obtain ⟨x31, x32, x33, rfl⟩ := gx3.form
          have hC4 := bup hC3 hB4
          have hba := below_alloc w4 (.cells #[.slice x11 x12 x13, .slice x21 x22 x23, .slice x31 x32 x33] 41)
          have hX := World.alloc_heap_new w4 (.cells #[.slice x11 x12 x13, .slice x21 x22 x23, .slice x31 x32 x33] 41)
          have PX := Lib.hid (And.intro (gx1.below hba) (And.intro (gx2.below hba) (gx3.below hba)))
          have HX := Lib.hid hX
          have hC5 := bup hC4 hba
          have hsz4 := hC4.size
          have HSZ4 := Lib.hid (Array.getElem?_eq_some_iff.1 hX).1
          clear gx1 gx2 gx3 hX hba OA
          have hO5 := World.ownsRow_lit (base := w4.heap.size + 1) (e := 46) (size := 1) (w4.alloc (.cells #[.slice x11 x12 x13, .slice x21 x22 x23, .slice x31 x32 x33] 41)) #[] 0 (by simp) (by decide) rfl
          rw [World.size_alloc] at hO5
          have hL5 := hC5.alloc hC5.size (.cells #[] 46)
          have hD5 : Below (w4.heap.size + 1) (w4.alloc (.cells #[.slice x11 x12 x13, .slice x21 x22 x23, .slice x31 x32 x33] 41)) ((w4.alloc (.cells #[.slice x11 x12 x13, .slice x21 x22 x23, .slice x31 x32 x33] 41)).alloc (.cells #[] 46)) := (Below.refl _ _).alloc (by simp) _
          have hs5 := HNA.out.2.below hL5
          go_wp2_with (at_builtin; refine wpList_append_srcN rfl _ _ 39 rfl (w4.heap.size + 1) 46 i0 _ 1 24 Tryz.underlying39 hi hz0 hz1 hz2 rfl (by decide) (.slice (some ⟨w4.heap.size + 1, 0, none⟩) 0 0) 0 _ rfl hO5 _ a.length na rfl hs5 (by unfold maxLen; omega) (by omega) (by simp) ?_)
          intro v5a w5a hown5a hgrow5a
          have hD5a := hD5.grown hgrow5a (by simp) (fun g e => by cases e; exact Nat.le_refl _)
          have hC5a : Below w.heap.size w w5a := hC5.trans (hD5a.mono (by have := hC5.size; simp at this ⊢; omega))
          have hs5b := HNB.out.2.below hC5a
          have hz5a : w4.heap.size + 1 ≤ w5a.heap.size := by have := hD5a.size; simp at this ⊢; omega
          go_wp2_with (at_builtin; refine wpList_append_srcN rfl _ _ 39 rfl (w4.heap.size + 1) 46 i0 _ 1 24 Tryz.underlying39 hi hz0 hz1 hz2 rfl (by decide) v5a a.length na rfl (by simpa using hown5a) _ b.length nb rfl hs5b (by unfold maxLen; omega) (by omega) hz5a ?_)
          intro v5b w5b hown5b hgrow5b
          have hD5b := hD5a.grown hgrow5b hz5a (fun g e => (hown5a.lt g e).1)
          have hC5b : Below w.heap.size w w5b := hC5.trans (hD5b.mono (by have := hC5.size; simp at this ⊢; omega))
          have hat5 : At w5b (.sl (a ++ b).length 1 ((a ++ b).flatMap encSh)) v5b := at_gen (len_flatSh _) (by rw [List.length_append]; exact hown5b) (by rw [List.flatMap_append]; exact (HNA.out.1.below hC5b).append (HNB.out.1.below hC5b))
          obtain ⟨e51, e52, rfl⟩ := owns_slice hown5b
          have HAT5 := Lib.hid hat5
          have HD5 := Lib.hid hD5b
          clear hat5 hown5b hown5a hgrow5a hgrow5b hO5 hs5 hs5b hD5 hD5a hD5b hL5 hz5a
          go_wp2_with fail
          refine (OAB.out _ _ HAT5.out).mono ?_
          rintro e w6 ⟨py, sy, rfl, hpy, hfy, hB6⟩
          obtain ⟨y1, y2, y3, rfl, gy1, gy2, gy3⟩ := hpy
          obtain ⟨y11, y12, y13, rfl⟩ := gy1.form
          obtain ⟨y21, y22, y23, rfl⟩ := gy2.form
          obtain ⟨y31, y32, y33, rfl⟩ := gy3.form
          have hC6 := bup hC5b hB6
          have hba := below_alloc w6 (.cells #[.slice y11 y12 y13, .slice y21 y22 y23, .slice y31 y32 y33] 41)
          have hY := World.alloc_heap_new w6 (.cells #[.slice y11 y12 y13, .slice y21 y22 y23, .slice y31 y32 y33] 41)
          have PY := Lib.hid (And.intro (gy1.below hba) (And.intro (gy2.below hba) (gy3.below hba)))
          have HY := Lib.hid hY
          have HDX := Lib.hid (HD5.out.trans ((hB6.trans (hba.mono hB6.size)).mono (by have := HD5.out.size; rw [World.size_alloc] at this; exact this)))
          have hC7 := bup hC6 hba
          clear gy1 gy2 gy3 hY hba
          have hO7 := World.ownsRow_lit (base := w6.heap.size + 1) (e := 46) (size := 1) (w6.alloc (.cells #[.slice y11 y12 y13, .slice y21 y22 y23, .slice y31 y32 y33] 41)) #[] 0 (by simp) (by decide) rfl
          rw [World.size_alloc] at hO7
          have hL7 := hC7.alloc hC7.size (.cells #[] 46)
          have hD7 : Below (w6.heap.size + 1) (w6.alloc (.cells #[.slice y11 y12 y13, .slice y21 y22 y23, .slice y31 y32 y33] 41)) ((w6.alloc (.cells #[.slice y11 y12 y13, .slice y21 y22 y23, .slice y31 y32 y33] 41)).alloc (.cells #[] 46)) := (Below.refl _ _).alloc (by simp) _
          have hs7 := HNB.out.2.below hL7
          go_wp2_with (at_builtin; refine wpList_append_srcN rfl _ _ 39 rfl (w6.heap.size + 1) 46 i0 _ 1 24 Tryz.underlying39 hi hz0 hz1 hz2 rfl (by decide) (.slice (some ⟨w6.heap.size + 1, 0, none⟩) 0 0) 0 _ rfl hO7 _ b.length nb rfl hs7 (by unfold maxLen; omega) (by omega) (by simp) ?_)
          intro v7a w7a hown7a hgrow7a
          have hD7a := hD7.grown hgrow7a (by simp) (fun g e => by cases e; exact Nat.le_refl _)
          have hC7a : Below w.heap.size w w7a := hC7.trans (hD7a.mono (by have := hC7.size; simp at this ⊢; omega))
          have hs7b := HNA.out.2.below hC7a
          have hz7a : w6.heap.size + 1 ≤ w7a.heap.size := by have := hD7a.size; simp at this ⊢; omega
          go_wp2_with (at_builtin; refine wpList_append_srcN rfl _ _ 39 rfl (w6.heap.size + 1) 46 i0 _ 1 24 Tryz.underlying39 hi hz0 hz1 hz2 rfl (by decide) v7a b.length nb rfl (by simpa using hown7a) _ a.length na rfl hs7b (by unfold maxLen; omega) (by omega) hz7a ?_)
          intro v7b w7b hown7b hgrow7b
          have hD7b := hD7a.grown hgrow7b hz7a (fun g e => (hown7a.lt g e).1)
          have hC7b : Below w.heap.size w w7b := hC7.trans (hD7b.mono (by have := hC7.size; simp at this ⊢; omega))
          have hat7 : At w7b (.sl (b ++ a).length 1 ((b ++ a).flatMap encSh)) v7b := at_gen (len_flatSh _) (by rw [List.length_append]; exact hown7b) (by rw [List.flatMap_append]; exact (HNB.out.1.below hC7b).append (HNA.out.1.below hC7b))
          obtain ⟨e71, e72, rfl⟩ := owns_slice hown7b
          have HAT7 := Lib.hid hat7
          have HD7 := Lib.hid hD7b
          clear hat7 hown7b hown7a hgrow7a hgrow7b hO7 hs7 hs7b hD7 hD7a hD7b hL7 hz7a
          go_wp2_with fail
          refine (OBA.out _ _ HAT7.out).mono ?_
          rintro e w8 ⟨pz, sz, rfl, hpz, hfz, hB8⟩
          have hse : sz = sy := fin_same hfz hfy fun r => by rw [rules_app, rules_app]; simp [or_comm]
          subst hse
          obtain ⟨z1, z2, z3, rfl, gz1, gz2, gz3⟩ := hpz
          obtain ⟨z11, z12, z13, rfl⟩ := gz1.form
          obtain ⟨z21, z22, z23, rfl⟩ := gz2.form
          obtain ⟨z31, z32, z33, rfl⟩ := gz3.form
          have hC8 := bup hC7b hB8
          have hba := below_alloc w8 (.cells #[.slice z11 z12 z13, .slice z21 z22 z23, .slice z31 z32 z33] 41)
          have hZ := World.alloc_heap_new w8 (.cells #[.slice z11 z12 z13, .slice z21 z22 z23, .slice z31 z32 z33] 41)
          have hZ1 := (Array.getElem?_eq_some_iff.1 hZ).1
          have hDY := HD7.out.trans ((hB8.trans (hba.mono hB8.size)).mono (by have := HD7.out.size; rw [World.size_alloc] at this; exact this))
          have hY1 := (Array.getElem?_eq_some_iff.1 HY.out).1
          have hX1 := (Array.getElem?_eq_some_iff.1 HX.out).1
          have hxy : (w4.alloc (.cells #[.slice x11 x12 x13, .slice x21 x22 x23, .slice x31 x32 x33] 41)).heap.size ≤ (w6.alloc (.cells #[.slice y11 y12 y13, .slice y21 y22 y23, .slice y31 y32 y33] 41)).heap.size := HDX.out.size
          have hDX2 := HDX.out.trans (hDY.mono (by simp at hxy ⊢; omega))
          have hX9 := (hDX2.block w4.heap.size (by omega)).trans HX.out
          have hY9 := (hDY.block w6.heap.size (by omega)).trans HY.out
          have hC9 := bup hC8 hba
          have bx : Below (w4.alloc (.cells #[.slice x11 x12 x13, .slice x21 x22 x23, .slice x31 x32 x33] 41)).heap.size (w4.alloc (.cells #[.slice x11 x12 x13, .slice x21 x22 x23, .slice x31 x32 x33] 41)) (w8.alloc (.cells #[.slice z11 z12 z13, .slice z21 z22 z23, .slice z31 z32 z33] 41)) := hDX2.mono (by simp)
          have by' : Below (w6.alloc (.cells #[.slice y11 y12 y13, .slice y21 y22 y23, .slice y31 y32 y33] 41)).heap.size (w6.alloc (.cells #[.slice y11 y12 y13, .slice y21 y22 y23, .slice y31 y32 y33] 41)) (w8.alloc (.cells #[.slice z11 z12 z13, .slice z21 z22 z23, .slice z31 z32 z33] 41)) := hDY.mono (by simp)
          have QX : SAt (w8.alloc (.cells #[.slice z11 z12 z13, .slice z21 z22 z23, .slice z31 z32 z33] 41)) (.slice x11 x12 x13) sx.c ∧ SAt (w8.alloc (.cells #[.slice z11 z12 z13, .slice z21 z22 z23, .slice z31 z32 z33] 41)) (.slice x21 x22 x23) sx.f ∧ SAt (w8.alloc (.cells #[.slice z11 z12 z13, .slice z21 z22 z23, .slice z31 z32 z33] 41)) (.slice x31 x32 x33) sx.g := ⟨PX.out.1.below bx, PX.out.2.1.below bx, PX.out.2.2.below bx⟩
          have QY : SAt (w8.alloc (.cells #[.slice z11 z12 z13, .slice z21 z22 z23, .slice z31 z32 z33] 41)) (.slice y11 y12 y13) sz.c ∧ SAt (w8.alloc (.cells #[.slice z11 z12 z13, .slice z21 z22 z23, .slice z31 z32 z33] 41)) (.slice y21 y22 y23) sz.f ∧ SAt (w8.alloc (.cells #[.slice z11 z12 z13, .slice z21 z22 z23, .slice z31 z32 z33] 41)) (.slice y31 y32 y33) sz.g := ⟨PY.out.1.below by', PY.out.2.1.below by', PY.out.2.2.below by'⟩
          have QZ : PlAt (w8.alloc (.cells #[.slice z11 z12 z13, .slice z21 z22 z23, .slice z31 z32 z33] 41)) (.agg #[.slice z11 z12 z13, .slice z21 z22 z23, .slice z31 z32 z33]) sz := ⟨_, _, _, rfl, gz1.below hba, gz2.below hba, gz3.below hba⟩
          have smx := SMA.out sx hfx
          have smy := SMB.out sz hfy
          have hin := fin_within hfx hfy (fun r hr => by rw [rules_app]; exact List.mem_append_left _ hr)
          have SAME := Lib.hid (psame_any (v1 := .agg #[.slice y11 y12 y13, .slice y21 y22 y23, .slice y31 y32 y33]) ⟨_, _, _, rfl, QY.1, QY.2.1, QY.2.2⟩ QZ smy)
          have WI1 := Lib.hid fun (W : World) (h : Below (w8.alloc (.cells #[.slice z11 z12 z13, .slice z21 z22 z23, .slice z31 z32 z33] 41)).heap.size (w8.alloc (.cells #[.slice z11 z12 z13, .slice z21 z22 z23, .slice z31 z32 z33] 41)) W) => within_any _ _ sx.c sz.c W (QX.1.below h) (QY.1.below h) (hin 0) smx.1 smy.1
          have WI2 := Lib.hid fun (W : World) (h : Below (w8.alloc (.cells #[.slice z11 z12 z13, .slice z21 z22 z23, .slice z31 z32 z33] 41)).heap.size (w8.alloc (.cells #[.slice z11 z12 z13, .slice z21 z22 z23, .slice z31 z32 z33] 41)) W) => within_any _ _ sx.f sz.f W (QX.2.1.below h) (QY.2.1.below h) (hin 1) smx.2.1 smy.2.1
          have WI3 := Lib.hid fun (W : World) (h : Below (w8.alloc (.cells #[.slice z11 z12 z13, .slice z21 z22 z23, .slice z31 z32 z33] 41)).heap.size (w8.alloc (.cells #[.slice z11 z12 z13, .slice z21 z22 z23, .slice z31 z32 z33] 41)) W) => within_any _ _ sx.g sz.g W (QX.2.2.below h) (QY.2.2.below h) (hin 2) smx.2.2 smy.2.2
          have hX1' : w4.heap.size < (w8.alloc (.cells #[.slice z11 z12 z13, .slice z21 z22 z23, .slice z31 z32 z33] 41)).heap.size := (Array.getElem?_eq_some_iff.1 hX9).1
          have hY1' : w6.heap.size < (w8.alloc (.cells #[.slice z11 z12 z13, .slice z21 z22 z23, .slice z31 z32 z33] 41)).heap.size := (Array.getElem?_eq_some_iff.1 hY9).1
          have BX := Lib.hid fun (W : World) (h : Below (w8.alloc (.cells #[.slice z11 z12 z13, .slice z21 z22 z23, .slice z31 z32 z33] 41)).heap.size (w8.alloc (.cells #[.slice z11 z12 z13, .slice z21 z22 z23, .slice z31 z32 z33] 41)) W) => plBox_cells ((h.block _ hX1').trans hX9)
          have BY := Lib.hid fun (W : World) (h : Below (w8.alloc (.cells #[.slice z11 z12 z13, .slice z21 z22 z23, .slice z31 z32 z33] 41)).heap.size (w8.alloc (.cells #[.slice z11 z12 z13, .slice z21 z22 z23, .slice z31 z32 z33] 41)) W) => plBox_cells ((h.block _ hY1').trans hY9)
          obtain ⟨b0, b1, b2⟩ := plBox_cells hY9
          obtain ⟨d0, d1, d2⟩ := plBox_cells hZ
          have HC9 := Lib.hid hC9
          clear gz1 gz2 gz3 hba hZ hZ1 hDY hY1 hX1 hxy hDX2 hX9 hY9 hC9 bx by' QX QY QZ smx smy hin hX1' hY1' hfx hfy hfz HDX HD5 HD7 HX HY PX PY SMA SMB OAB OBA HAT5 HAT7
          go_wp2_with fail
          refine SAME.out.mono ?_
          rintro e w10 ⟨rfl, hB10⟩
          obtain ⟨i1, i2, i3⟩ := BX.out w10 hB10
          obtain ⟨j1, j2, j3⟩ := BY.out w10 hB10
          clear b0 b1 b2 d0 d1 d2
          have HB10 := Lib.hid hB10
          go_wp2_with fail
          refine (WI1.out _ HB10.out).mono ?_
          rintro e w11 ⟨rfl, hB11⟩
          have HB11 := Lib.hid (bup HB10.out hB11)
          clear i1 i2 i3 j1 j2 j3
          obtain ⟨i1, i2, i3⟩ := BX.out w11 HB11.out
          obtain ⟨j1, j2, j3⟩ := BY.out w11 HB11.out
          go_wp2_with fail
          refine (WI2.out _ HB11.out).mono ?_
          rintro e w12 ⟨rfl, hB12⟩
          have HB12 := Lib.hid (bup HB11.out hB12)
          clear i1 i2 i3 j1 j2 j3
          obtain ⟨i1, i2, i3⟩ := BX.out w12 HB12.out
          obtain ⟨j1, j2, j3⟩ := BY.out w12 HB12.out
          go_wp2_with fail
          refine (WI3.out _ HB12.out).mono ?_
          rintro e w13 ⟨rfl, hB13⟩
          clear i1 i2 i3 j1 j2 j3
          go_wp2
          go_ret
          exact ⟨rfl, bup HC9.out (bup HB12.out hB13)⟩
    · go_enter Tryz.func7, Tryz.ntmps7
      go_wp2_with fail
      refine (FX.out _).mono ?_
      rintro e w1 ⟨rfl, hB1⟩
      go_wp2_with fail
      refine (FX.out _).mono ?_
      rintro e w3 ⟨rfl, hB3⟩
      go_wp2
      go_ret
      exact ⟨rfl, bup hB1 hB3⟩
  · go_enter Tryz.func7, Tryz.ntmps7
    go_wp2_with fail
    refine (FX.out _).mono ?_
    rintro e w1 ⟨rfl, hB1⟩
    go_wp2_with fail
    refine (FX.out _).mono ?_
    rintro e w3 ⟨rfl, hB3⟩
    go_wp2
    go_ret
    exact ⟨rfl, bup hB1 hB3⟩
end Go.Proofs.YtlnaihkombcbcaaGreat
end
namespace Go.Proofs.YtlnaihkombcbcaaGreat
open Go.ChangeShapes Go.WideShapes Go.ChangeAt Go.RowKit Go.Ev
theorem own : ownKnob Tryz.prog.godebug = none := by kernel_rfl
section
variable {H : Type} {enc : TypeId × Value → H} {P : Program}
theorem post_of_below {f : Func} {s : ChangeSpec} {apart fresh handsOn again : Bool} {W W' : World} {args : Array Value} {v : Value} {ds gs : List (DataW H)} {before pa pv : List MemPlace}
    (hW : DataW.Whole enc P f.params.toList s.vars apart W args.toList ds gs before)
    (hres : ∀ (b : Nat) (sp : Nat → Bool) (hd : Bool), DataW.TrodAll enc P W' b sp hd f.resultTypes.toList (v.resultList f.resultTypes.size) (s.fn H (ds ++ gs)).results [])
    (hargs : ∀ sp : Nat → Bool, (∀ p ∈ before, sp p.block = true) → DataW.TrodAll enc P W' 0 sp true f.params.toList args.toList (s.fn H (ds ++ gs)).args pa)
    (hvars : ∀ sp : Nat → Bool, (∀ p ∈ before, sp p.block = true) → DataW.TrodVars enc P W' sp s.vars (s.fn H (ds ++ gs)).vars pv)
    (hps : before = pa ++ pv) (hB : Below W.heap.size W W')
    (hok : ∀ (j : Nat) (t : TypeId) (r : Value), f.resultTypes[j]? = some t → (v.resultList f.resultTypes.size)[j]? = some r → Value.okWide P W' .any 0 t r) :
    s.post enc P f apart fresh handsOn again W args v W' := by
  have hold : ∀ p ∈ before, (fun b => decide (b < W.heap.size)) p.block = true := fun p hp => by simpa using hW.lt p hp
  have hlt := fun p hp => hW.lt p hp
  refine ⟨ds, gs, before, [], pa, pv, hW, hres _ _ _, hargs _ hold, hvars _ hold, World.keptBut_mono (fun p hp => ⟨hp, ?_⟩) (hB.frame (· ∈ before)), fun _ => ?_⟩
  · rw [hps, List.mem_append] at hp
    exact Or.inr hp
  · obtain ⟨_, _, _, _, _, hz, hn⟩ := hW
    refine ⟨hok, _, _, ([] ++ pa) ++ pv, ⟨[] ++ pa, pv, trodAll_append (hargs _ (fun _ _ => rfl)) (hres _ _ _), hvars _ (fun _ _ => rfl), rfl, ?_, ?_⟩, ?_⟩
    · intro b off hp
      have hp' : MemPlace.cell b off ∈ before := by rw [hps]; simpa using hp
      rw [hB.frozen (hlt _ hp')]
      exact hz b off hp'
    · intro ha
      have := hn ha
      rw [hps] at this
      simpa using this
    · intro p hp _
      rw [hps]
      simpa using hp
end
theorem readableSheets : Tryz.prog.readableRec 39 = true := by kernel_rfl
theorem inTableSheets : 39 < Tryz.prog.types.size := of_decide_eq_true (by kernel_rfl)
namespace poolGrows
set_option maxRecDepth 1000000 in
theorem contract (H : Type) (enc : TypeId × Value → H) (W : World) (base : Nat) (args : Array Value) (ds gs : List (DataW H)) (before : List MemPlace)
    (hval : ∀ (j : Nat) t v, Tryz.f7.params[j]? = some t → args[j]? = some v → Value.okWide Tryz.prog W .any base t v)
    (hW : DataW.Whole enc Tryz.prog Tryz.f7.params.toList Rows.poolGrowsSpec.vars false W args.toList ds gs before)
    (hw : (DataW.weightsEach Tryz.prog (Tryz.f7.params.toList ++ Rows.poolGrowsSpec.plain.varTypes Tryz.prog) (ds ++ gs)).all (· ≤ reachBytes) = true) :
    Calls Tryz.prog 7 args W fun e W' => ∃ v, e = .returned v ∧ Rows.poolGrowsSpec.post enc Tryz.prog Tryz.f7 false true false false W args v W' := by
  have hW' := hW
  obtain ⟨p, q, hA0, hV, rfl, hfz, hnd⟩ := hW
  have hA : DataW.TrodAll enc Tryz.prog W 0 (fun _ => true) true Tryz.f7.params.toList args.toList ds p := hA0
  rw [show Tryz.f7.params = #[39, 39] by kernel_rfl] at hA hval hw
  obtain ⟨v0, vs0, d0, ds0, p0, q0, hargs, rfl, rfl, h0, r0⟩ := trodAll_cons hA
  obtain ⟨v1, vs1, d1, ds1, p1, q1, rfl, rfl, rfl, h1, r1⟩ := trodAll_cons r0
  obtain ⟨rfl, rfl, rfl⟩ := trodAll_nil r1
  obtain rfl : args = #[v0, v1] := by cases args; simp_all
  obtain ⟨rfl, rfl⟩ := trodVars_none hV
  have hw' := List.all_eq_true.1 hw
  have fit0 : Fits Tryz.prog 39 d0 := fun x hx => by
    simpa using hw' x (mem_weightsEach (i := 0) rfl rfl x hx)
  have fit1 : Fits Tryz.prog 39 d1 := fun x hx => by
    simpa using hw' x (mem_weightsEach (i := 1) rfl rfl x hx)
  obtain ⟨a, ha, ga⟩ := open_sheets (hval 0 39 v0 (by simp) (by simp)) h0 fit0
  obtain ⟨b, hb, gb⟩ := open_sheets (hval 1 39 v1 (by simp) (by simp)) h1 fit1
  clear hA0
  have hlt0 : ∀ x ∈ p0, x.block < W.heap.size := fun x hx => by simpa using hW'.lt x (by simp [hx])
  have hlt1 : ∀ x ∈ p1, x.block < W.heap.size := fun x hx => by simpa using hW'.lt x (by simp [hx])
  refine (poolGrows_any a b v0 v1 W ha hb ga gb).mono fun e W' ⟨he, hB⟩ => ?_
  subst he
  exact ⟨_, rfl, post_of_below (pa := p0 ++ (p1 ++ [])) (pv := []) hW' (fun _ _ _ => trodAll_cons_mk (shut_bool Tryz.underlying4 _) trodAll_mk0)
    (fun sp hsp => trodAll_cons_mk (WideElems.Trod_stays p_laid readableSheets inTableSheets h0 (fun x hx => hB.same (hlt0 x hx)) (fun x hx => hsp x (by simp [hx])))
      (trodAll_cons_mk (WideElems.Trod_stays p_laid readableSheets inTableSheets h1 (fun x hx => hB.same (hlt1 x hx)) (fun x hx => hsp x (by simp [hx]))) trodAll_mk0))
    (fun _ _ => rfl) rfl hB (ok_one (by kernel_rfl) rfl (okWide_bool_mk Tryz.underlying4 _))⟩
set_option maxRecDepth 100000 in
theorem lifted (os : Os) (started : os.Started) (H : Type) (enc : TypeId × Value → H) :
    ReturnsInHanded {} Tryz.checked os 7 .any (Rows.poolGrowsSpec.pre6 enc Tryz.prog Tryz.f7 Rows.poolGrowsRow.domain false) (Rows.poolGrowsSpec.post enc Tryz.prog Tryz.f7 false true false false) := by
  refine returnsInHanded_of_change_sized (C := Tryz.checked) own started (by kernel_rfl) Tryz.func7
    (ChangeSpec.witness6 (enc := enc) (C := Tryz.checked) false ⟨#[], #[.slice none 0 0, .slice none 0 0], []⟩ 8 (by kernel_rfl) (by kernel_rfl) (by kernel_rfl) (by kernel_rfl)) ?_
  intro W base args ds gs before hval hW _ hw _
  exact contract H enc W base args ds gs before hval hW hw
theorem said : Rows.PoolGrowsSaid :=
  OpenClaim.holds_of_wide 7 Tryz.f7 rfl rfl rfl rfl rfl rfl rfl ⟨rfl, rfl, rfl, rfl, rfl⟩ rfl rfl rfl rfl rfl row_named Tryz.func7 closed
    (of_decide_eq_true (by kernel_rfl)) row_wrapper
    (fun os started H enc _ => lifted os started H enc)
end poolGrows
end Go.Proofs.YtlnaihkombcbcaaGreat
