/- The shares of a plan that is taken. Plain: no function of the program is named here. -/
import Derived.Test.YtpcjjmjmigibhaaDoorTabV
namespace Go.Proofs.YtpcjjmjmigibhaaDoor
set_option linter.unusedVariables false
set_option linter.unusedSimpArgs false

theorem order_at {P : Plan} (R : Rules P) {c i : Nat} {L : List Win} {x : Win} (hc : (Plan.cores P)[c]? = some L) (hi : L[i]? = some x) :
    Win.l x ≠ 0 ∧ Win.s x + Win.l x ≤ Plan.frame P ∧ Win.p x < ((Plan.parts P).length : Int) ∧ ∀ j y, i = j + 1 → L[j]? = some y → Win.s y + Win.l y ≤ Win.s x := by
  have hg := allS_get hc hi
  have hlt := (List.getElem?_eq_some_iff.1 hg).1
  have h := R.order _ hlt
  rw [orderF, plAt_some hg] at h
  have h1 := h
  split at h1
  · cases h1
  · rename_i q
    split at h1
    · cases h1
    · rename_i q2
      have e1 : Place.w ((c : Int), 256 * (c : Int) + (i : Int), x) = x := rfl
      rw [e1] at q q2
      refine ⟨fun e => q (.inl e), ?_, by omega, ?_⟩
      · have : ¬ Plan.frame P < endS x := fun e => q (.inr (.inr e))
        unfold endS at this; omega
      · rintro j y rfl hy
        have hb : ¬ Win.s x < behindS (allS (Plan.cores P)) ((allS ((Plan.cores P).take c)).length + (j + 1)) := fun e => q (.inr (.inl e))
        rw [behindS, plAt_some hg, show (allS ((Plan.cores P).take c)).length + (j + 1) - 1 = (allS ((Plan.cores P).take c)).length + j by omega, plAt_some (allS_get hc hy), if_pos ⟨by omega, rfl⟩] at hb
        have e2 : endS (Place.w ((c : Int), 256 * (c : Int) + (j : Int), y)) = Win.s y + Win.l y := rfl
        rw [e2] at hb; omega
/-- Windows in order, from b on, up to F. -/
def Ord (F : Int) : Int → List Win → Prop
  | _, [] => True
  | b, x :: L => b ≤ Win.s x ∧ 1 ≤ Win.l x ∧ Win.s x + Win.l x ≤ F ∧ Ord F (Win.s x + Win.l x) L
theorem ord_of {F b : Int} {L : List Win} (h1 : ∀ (i : Nat) (x : Win), L[i]? = some x → 1 ≤ Win.l x ∧ Win.s x + Win.l x ≤ F) (h2 : ∀ (j : Nat) (x y : Win), L[j]? = some y → L[j + 1]? = some x → Win.s y + Win.l y ≤ Win.s x) (h0 : ∀ x : Win, L[0]? = some x → b ≤ Win.s x) : Ord F b L := by
  induction L generalizing b with
  | nil => trivial
  | cons x L ih =>
    have a := h1 0 x rfl
    exact ⟨h0 x rfl, a.1, a.2, ih (fun i y h => h1 (i + 1) y h) (fun j y z h k => h2 (j + 1) y z h k) (fun y h => h2 0 y x rfl h)⟩
theorem ord_core {P : Plan} (R : Rules P) (hok : ∀ L ∈ Plan.cores P, ∀ x ∈ L, Win.Ok x) {c : Nat} {L : List Win} (hc : (Plan.cores P)[c]? = some L) : Ord (Plan.frame P) 0 L := by
  have ok := hok L (List.mem_of_getElem? hc)
  refine ord_of (fun i x h => ?_) (fun j x y h k => (order_at R hc k).2.2.2 j y rfl h) (fun x h => (ok x (List.mem_of_getElem? h)).s.1)
  have a := order_at R hc h
  have := (ok x (List.mem_of_getElem? h)).l.1
  exact ⟨by omega, a.2.1⟩
theorem scan_cons {α : Type} (f : Nat → Option α) (n : Nat) (h : f 0 = none) : scan f (n + 1) = scan (fun j => f (j + 1)) n := by
  induction n with
  | zero => simp [scan, h]
  | succ n ih =>
    show (match scan f (n + 1) with | some x => some x | none => f (n + 1)) = _
    rw [ih]
    rfl
theorem serves_cons (x : Win) (L : List Win) (t : Int) : servesS (x :: L) t = if hasS x t = true then Win.p x else servesS L t := by
  by_cases h : hasS x t = true
  · rw [if_pos h]
    have : atS (x :: L) t = some 0 := scan_some (k := 0) rfl (by rw [atF, wAt_some (x := x) rfl, if_pos h]) (by simp)
    rw [serves_of this, wAt_some (x := x) rfl]
  · rw [if_neg h]
    have e0 : atF (x :: L) t 0 = none := by rw [atF, wAt_some (x := x) rfl, if_neg h]
    have e : atS (x :: L) t = (atS L t).map (· + 1) := by
      rw [atS, List.length_cons, scan_cons _ _ e0]
      have hm : ∀ n, scan (fun j => atF (x :: L) t (j + 1)) n = (scan (atF L t) n).map (· + 1) := by
        intro n
        induction n with
        | zero => rfl
        | succ n ih =>
          simp only [scan]
          rw [ih]
          have ew : wAt (x :: L) (n + 1) = wAt L n := by simp [wAt]
          rcases scan (atF L t) n with _ | y
          · simp only [Option.map]
            unfold atF
            rw [ew]
            split <;> rfl
          · rfl
      exact hm L.length
    rcases hi : atS L t with _ | i
    · rw [hi] at e
      rw [serves_no e, serves_no hi]
    · rw [hi] at e
      rw [serves_of e, serves_of hi]
      simp [wAt]
theorem serves_below {F b : Int} {L : List Win} (h : Ord F b L) (t : Int) (ht : t < b) : servesS L t = -1 := by
  induction L generalizing b with
  | nil => rfl
  | cons x L ih =>
    obtain ⟨h1, h2, _, h3⟩ := h
    rw [serves_cons, if_neg, ih h3 (by omega)]
    rw [hasS_iff]; omega
end Go.Proofs.YtpcjjmjmigibhaaDoor
