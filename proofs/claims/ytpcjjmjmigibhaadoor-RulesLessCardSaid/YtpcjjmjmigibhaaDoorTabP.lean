/- The table: plain definitions: which window has a tick, what a core serves. -/
import Derived.Test.YtpcjjmjmigibhaaDoorPlanP
namespace Go.Proofs.YtpcjjmjmigibhaaDoor
set_option linter.unusedVariables false
set_option linter.unusedSimpArgs false

def wAt (L : List Win) (i : Nat) : Win := L.getD i (0, 0, 0, 0, ())
theorem wAt_some {L : List Win} {i : Nat} {x : Win} (h : L[i]? = some x) : wAt L i = x := by simp [wAt, List.getD_eq_getElem?_getD, h]
def atF (L : List Win) (t : Int) (i : Nat) : Option Nat := if hasS (wAt L i) t = true then some i else none
/-- The number of the window that has a tick. -/
def atS (L : List Win) (t : Int) : Option Nat := scan (atF L t) L.length
def servesS (L : List Win) (t : Int) : Int := match atS L t with
  | some i => Win.p (wAt L i)
  | none => -1
def turnS (C : List (List Win)) (t : Int) : List Int := C.map fun L => servesS L t
theorem scan_lt {α : Type} {f : Nat → Option α} {n : Nat} {x : α} (h : scan f n = some x) : ∃ k, k < n ∧ f k = some x := by
  induction n with
  | zero => cases h
  | succ n ih =>
    unfold scan at h
    split at h
    · rename_i y e
      obtain ⟨k, hk, hx⟩ := ih (by rw [e]; exact h)
      exact ⟨k, by omega, hx⟩
    · exact ⟨n, by omega, h⟩
theorem atS_some {L : List Win} {t : Int} {i : Nat} (h : atS L t = some i) : i < L.length ∧ hasS (wAt L i) t = true := by
  obtain ⟨k, hk, hx⟩ := scan_lt h
  unfold atF at hx
  split at hx
  · injection hx with e
    subst e
    exact ⟨hk, by assumption⟩
  · cases hx
theorem atS_none {L : List Win} {t : Int} (h : atS L t = none) (i : Nat) (hi : i < L.length) : hasS (wAt L i) t = false := by
  have := scan_none h i hi
  unfold atF at this
  split at this
  · cases this
  · rename_i q
    simpa using q
theorem serves_of {L : List Win} {t : Int} {i : Nat} (h : atS L t = some i) : servesS L t = Win.p (wAt L i) := by unfold servesS; rw [h]
theorem serves_no {L : List Win} {t : Int} (h : atS L t = none) : servesS L t = -1 := by unfold servesS; rw [h]

/-! ### The next beginning or end -/
def nearS (t n e : Int) : Int := if t < e then min n e else n
def edgesS (L : List Win) : List Int := L.flatMap fun x => [Win.s x, Win.s x + Win.l x]
def nearAll (t n : Int) (es : List Int) : Int := es.foldl (nearS t) n
theorem nearAll_append (t n : Int) (a b : List Int) : nearAll t n (a ++ b) = nearAll t (nearAll t n a) b := List.foldl_append ..
theorem nearS_le (t n e : Int) : nearS t n e ≤ n := by unfold nearS; split <;> omega
theorem nearAll_le (t n : Int) (es : List Int) : nearAll t n es ≤ n := by
  induction es generalizing n with
  | nil => exact Int.le_refl _
  | cons e es ih => exact Int.le_trans (ih _) (nearS_le _ _ _)
theorem nearAll_gt (t n : Int) (es : List Int) (h : t < n) : t < nearAll t n es := by
  induction es generalizing n with
  | nil => exact h
  | cons e es ih => refine ih _ ?_; unfold nearS; split <;> omega
theorem nearAll_mem (t n : Int) (es : List Int) : nearAll t n es = n ∨ (nearAll t n es ∈ es ∧ t < nearAll t n es) := by
  induction es generalizing n with
  | nil => exact .inl rfl
  | cons e es ih =>
    rcases ih (nearS t n e) with h | ⟨h, h'⟩
    · show nearAll t (nearS t n e) es = n ∨ _
      rw [h]
      unfold nearS at h ⊢
      by_cases q : t < e
      · rw [if_pos q] at h ⊢
        rcases Int.le_total n e with p | p
        · left; omega
        · right
          refine ⟨List.mem_cons.2 (.inl ?_), ?_⟩
          · show nearAll t (nearS t n e) es = e
            unfold nearS; rw [if_pos q, h]; omega
          · show t < nearAll t (nearS t n e) es
            unfold nearS; rw [if_pos q, h]; omega
      · rw [if_neg q]; exact .inl rfl
    · exact .inr ⟨List.mem_cons_of_mem _ h, h'⟩
theorem nearAll_least (t n : Int) (es : List Int) (e : Int) (he : e ∈ es) (h : t < e) : nearAll t n es ≤ e := by
  induction es generalizing n with
  | nil => cases he
  | cons x es ih =>
    rcases List.mem_cons.1 he with rfl | he
    · show nearAll t (nearS t n e) es ≤ e
      exact Int.le_trans (nearAll_le _ _ _) (by unfold nearS; rw [if_pos h]; omega)
    · exact ih _ he
/-- All edges of some cores. -/
def edgesOf (C : List (List Win)) (cs : List Int) : List Int := cs.flatMap fun c => edgesS (C.getD c.toNat [])
end Go.Proofs.YtpcjjmjmigibhaaDoor
