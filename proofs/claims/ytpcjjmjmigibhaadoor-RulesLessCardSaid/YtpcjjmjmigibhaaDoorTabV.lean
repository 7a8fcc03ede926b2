/- A plan that is taken: what the rules give. Plain: no function of the program is named here. -/
import Derived.Test.YtpcjjmjmigibhaaDoorTabP
namespace Go.Proofs.YtpcjjmjmigibhaaDoor
set_option linter.unusedVariables false
set_option linter.unusedSimpArgs false

def NZ (o : Option Flt) : Prop := ∀ x, o = some x → x.1 ≠ 0
theorem NZ.scan {f : Nat → Option Flt} (h : ∀ k, NZ (f k)) (n : Nat) : NZ (scan f n) := fun x hx => by
  obtain ⟨k, _, hk⟩ := scan_lt hx
  exact h k x hk
theorem NZ.or {a b : Option Flt} (h : NZ a) (k : NZ b) : NZ (orElseF a b) := fun x hx => by
  cases a with
  | none => exact k x hx
  | some y => exact h x hx
theorem nz_if {p : Prop} [Decidable p] {a b : Option Flt} (h : NZ a) (k : NZ b) : NZ (if p then a else b) := by split; exact h; exact k
theorem nz_some {n : Int} {a : Int} (h : n ≠ 0) : NZ (some (n, a)) := fun x hx => by injection hx with e; subst e; exact h
theorem nz_none : NZ none := fun x hx => by cases hx
theorem restF_nz (P : Plan) : NZ (restF P) := by
  refine NZ.or (NZ.scan (fun k => nz_if (nz_some (by decide)) nz_none) _) ?_
  refine NZ.or (NZ.scan (fun k => nz_if (nz_some (by decide)) (nz_if (nz_some (by decide)) nz_none)) _) ?_
  refine NZ.or (NZ.scan (fun k => NZ.or (NZ.scan (fun j => nz_if (nz_some (by decide)) nz_none) _) (NZ.scan (fun j => nz_if nz_none (nz_if (nz_some (by decide)) (nz_if (nz_some (by decide)) nz_none))) _)) _) ?_
  refine NZ.or (NZ.scan (fun k => nz_if (nz_some (by decide)) (NZ.or (NZ.scan (fun j => nz_if (nz_some (by decide)) nz_none) _) (NZ.scan (fun j => NZ.scan (fun i => nz_if (nz_some (by decide)) nz_none) _) _))) _) ?_
  refine NZ.or (NZ.scan (fun k => nz_if nz_none (nz_some (by decide))) _) ?_
  exact NZ.scan (fun k => nz_if nz_none (nz_some (by decide))) _
theorem check_none {P : Plan} (h : (checkS P).1 = 0) : Plan.frame P ≠ 0 ∧ 1 ≤ (Plan.cores P).length ∧ (Plan.cores P).length ≤ 8 ∧ 1 ≤ (Plan.parts P).length ∧ (Plan.parts P).length ≤ 64 ∧ restF P = none := by
  unfold checkS at h
  split at h
  · simp at h
  · rename_i h1
    split at h
    · simp at h
    · rename_i h2
      split at h
      · simp at h
      · rename_i h3
        refine ⟨h1, by omega, by omega, by omega, by omega, ?_⟩
        rcases hr : restF P with _ | x
        · rfl
        · rw [hr] at h
          exact absurd h (restF_nz P x hr)
theorem orElse_both {a b : Option Flt} (h : orElseF a b = none) : a = none ∧ b = none := by
  cases a with
  | none => exact ⟨rfl, h⟩
  | some x => cases h
/-- All rules, each by itself. -/
structure Rules (P : Plan) : Prop where
  frame : Plan.frame P ≠ 0
  c1 : 1 ≤ (Plan.cores P).length
  c8 : (Plan.cores P).length ≤ 8
  p1 : 1 ≤ (Plan.parts P).length
  p64 : (Plan.parts P).length ≤ 64
  many : ∀ c < (Plan.cores P).length, manyF (Plan.cores P) c = none
  order : ∀ i < (allS (Plan.cores P)).length, orderF (Plan.frame P) ((Plan.parts P).length : Int) (allS (Plan.cores P)) i = none
  twice : ∀ i < (allS (Plan.cores P)).length, ∀ k < i, twiceF (allS (Plan.cores P)) i k = none
  cross : ∀ i < (allS (Plan.cores P)).length, ∀ k < (allS (Plan.cores P)).length, crossF (allS (Plan.cores P)) i k = none
  pair : ∀ i < (Plan.pairs P).length, pairF ((Plan.parts P).length : Int) (allS (Plan.cores P)) (Plan.pairs P) i = none
  chan : ∀ i < (Plan.chans P).length, chanF ((Plan.parts P).length : Int) (Plan.chans P) i = none
  part : ∀ i < (Plan.parts P).length, partF (Plan.parts P) i = none
theorem rules_of {P : Plan} (h : (checkS P).1 = 0) : Rules P := by
  obtain ⟨h1, h2, h3, h4, h5, hr⟩ := check_none h
  rw [restF] at hr
  obtain ⟨a1, hr⟩ := orElse_both hr
  obtain ⟨a2, hr⟩ := orElse_both hr
  obtain ⟨a3, hr⟩ := orElse_both hr
  obtain ⟨a4, hr⟩ := orElse_both hr
  obtain ⟨a5, a6⟩ := orElse_both hr
  refine ⟨h1, h2, h3, h4, h5, fun c hc => scan_none a1 c hc, fun i hi => scan_none a2 i hi, fun i hi k hk => ?_, fun i hi k hk => ?_, fun i hi => scan_none a4 i hi, fun i hi => scan_none a5 i hi, fun i hi => scan_none a6 i hi⟩
  · exact scan_none (orElse_both (scan_none a3 i hi)).1 k hk
  · exact scan_none (orElse_both (scan_none a3 i hi)).2 k hk

/-! ### Places in a row -/
theorem allS_prefix (C : List (List Win)) (k m : Nat) (hk : k ≤ m) (hm : m ≤ C.length) : ∃ R, allS (C.take m) = allS (C.take k) ++ R := by
  induction m with
  | zero =>
    obtain rfl : k = 0 := by omega
    exact ⟨[], by simp⟩
  | succ m ih =>
    rcases Nat.lt_or_ge m k with h | h
    · obtain rfl : k = m + 1 := by omega
      exact ⟨[], by simp⟩
    · obtain ⟨R, e⟩ := ih h (by omega)
      exact ⟨R ++ placesS m C[m], by rw [allS_take_succ C m _ (List.getElem?_eq_getElem (by omega)), e, List.append_assoc]⟩
theorem allS_get {C : List (List Win)} {c i : Nat} {L : List Win} {x : Win} (hc : C[c]? = some L) (hi : L[i]? = some x) : (allS C)[(allS (C.take c)).length + i]? = some ((c : Int), 256 * (c : Int) + (i : Int), x) := by
  have hcl := (List.getElem?_eq_some_iff.1 hc).1
  have hil := (List.getElem?_eq_some_iff.1 hi).1
  obtain ⟨R, e⟩ := allS_prefix C (c + 1) C.length (by omega) (Nat.le_refl _)
  rw [List.take_length, allS_take_succ C c L hc] at e
  rw [e, List.append_assoc, List.getElem?_append_right (by omega), Nat.add_sub_cancel_left, List.getElem?_append_left (by rw [placesS_len]; exact hil)]
  simp [placesS, List.getElem?_mapIdx, hi]
end Go.Proofs.YtpcjjmjmigibhaaDoor
