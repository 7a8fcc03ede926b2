/- Table: shares and gaps of a plan that is taken: all shares come to what all windows have. Plain: no function of the program is named here. -/
import Derived.Test.YtmfddaihepjfeaaTabY
namespace Go.Proofs.Ytmfddaihepjfeaa
set_option linter.unusedVariables false
set_option linter.unusedSimpArgs false

theorem maxN_bound {f : Nat → Nat} {k b : Nat} (h : ∀ j, j < k → f j ≤ b) : maxN f k ≤ b := by
  induction k with
  | zero => simp [maxN]
  | succ k ih =>
    have h1 := ih (fun j hj => h j (by omega))
    have h2 := h k (by omega)
    rw [maxN]
    split <;> omega
theorem sumN_pos {f : Nat → Nat} {n t : Nat} (ht : t < n) (h : 0 < f t) : 0 < sumN f n := by
  induction n with
  | zero => omega
  | succ n ih =>
    rw [sumN]
    rcases Nat.lt_succ_iff_lt_or_eq.1 ht with q | rfl
    · have := ih q; omega
    · omega
theorem cnt_served (C : List (List Win)) (part : Int) (t : Nat) : 0 < cntS C part t ↔ servedB C part t = true := by
  rw [cntS, servedB, List.countP_pos_iff, List.any_eq_true]
/-- What a partition's share and gap are to each other. -/
theorem sums_plain {P : Plan} (hok : ∀ L ∈ Plan.cores P, ∀ x ∈ L, Win.Ok x) (R : Rules P) (n : Nat) (hn : Plan.frame P = (n : Int)) (part : Int) :
    0 ≤ gapV n (matchS (Plan.cores P) part) ∧ gapV n (matchS (Plan.cores P) part) ≤ n ∧ (sumL (matchS (Plan.cores P) part) = 0 ↔ gapV n (matchS (Plan.cores P) part) = n) ∧ 0 ≤ sumL (matchS (Plan.cores P) part) ∧ sumL (matchS (Plan.cores P) part) ≤ ((n * (Plan.cores P).length : Nat) : Int) := by
  have hg := gap_eq hok R part n hn
  have hs := share_eq hok R part n hn
  have h0 : 0 < n := by have := R.frame; omega
  rw [hg, hs]
  have hle : maxN (runL (servedB (Plan.cores P) part) n) n ≤ n := maxN_bound (fun j _ => runL_le _ n j)
  have hsl := sumN_le (cntS (Plan.cores P) part) (Plan.cores P).length (cnt_le _ _) n
  refine ⟨by omega, by omega, ⟨fun h => ?_, fun h => ?_⟩, by omega, by omega⟩
  · have hz : sumN (cntS (Plan.cores P) part) n = 0 := by omega
    have hno : ∀ t, t < n → servedB (Plan.cores P) part t = false := fun t ht => by
      cases q : servedB (Plan.cores P) part t with
      | false => rfl
      | true => have := sumN_pos ht ((cnt_served _ part t).2 q); omega
    have h1 := runL_ge (servedB (Plan.cores P) part) n 0 n (Nat.le_refl _) (fun j hj => hno _ (by rw [Nat.zero_add]; exact Nat.mod_lt _ h0))
    have h2 := maxN_le (f := runL (servedB (Plan.cores P) part) n) 0 h0
    omega
  · rcases Nat.eq_zero_or_pos (sumN (cntS (Plan.cores P) part) n) with q | q
    · omega
    · exfalso
      obtain ⟨t, ht, hst⟩ : ∃ t, t < n ∧ servedB (Plan.cores P) part t = true := by
        rcases Classical.em (∃ t, t < n ∧ servedB (Plan.cores P) part t = true) with q1 | q1
        · exact q1
        · have := sumN_zero (f := cntS (Plan.cores P) part) (n := n) (fun t ht => by
            rcases Nat.eq_zero_or_pos (cntS (Plan.cores P) part t) with q2 | q2
            · exact q2
            · exact absurd ⟨t, ht, (cnt_served _ part t).1 q2⟩ q1)
          omega
      have hb : maxN (runL (servedB (Plan.cores P) part) n) n ≤ n - 1 := maxN_bound (fun a ha => by
        rcases Nat.lt_or_ge (n - 1) (runL (servedB (Plan.cores P) part) n a) with q2 | q2
        · have hj : (t + n - a) % n < n := Nat.mod_lt _ h0
          have hne := runL_not (servedB (Plan.cores P) part) n a ((t + n - a) % n) (by omega)
          have : (a + (t + n - a) % n) % n = t := by
            rw [Nat.add_mod_mod, show a + (t + n - a) = t + n by omega, Nat.add_mod_right, Nat.mod_eq_of_lt ht]
          rw [this, hst] at hne
          cases hne
        · exact q2)
      omega
/-- Numbers summed. -/
def sumI (f : Nat → Int) : Nat → Int
  | 0 => 0
  | n + 1 => sumI f n + f n
theorem sumI_add (f g : Nat → Int) (n : Nat) : sumI (fun p => f p + g p) n = sumI f n + sumI g n := by
  induction n with
  | zero => rfl
  | succ n ih => simp only [sumI, ih]; omega
theorem sumI_one (l : Int) (q n : Nat) : sumI (fun p => if p = q then l else 0) n = if q < n then l else 0 := by
  induction n with
  | zero => rfl
  | succ n ih =>
    rw [sumI, ih]
    by_cases h1 : q < n
    · rw [if_pos h1, if_neg (show ¬ n = q by omega), if_pos (show q < n + 1 by omega)]; omega
    · by_cases h2 : n = q
      · rw [if_neg h1, if_pos h2, if_pos (show q < n + 1 by omega)]; omega
      · rw [if_neg h1, if_neg h2, if_neg (show ¬ q < n + 1 by omega)]; omega
theorem sumI_congr {f g : Nat → Int} {n : Nat} (h : ∀ p, p < n → f p = g p) : sumI f n = sumI g n := by
  induction n with
  | zero => rfl
  | succ n ih => rw [sumI, sumI, ih (fun p hp => h p (by omega)), h n (by omega)]
theorem part_sum (d : List Win) (m : Nat) (h : ∀ x ∈ d, 0 ≤ Win.p x ∧ Win.p x < (m : Int)) : sumI (fun p => sumL (d.filter fun x => decide (Win.p x = (p : Int)))) m = sumL d := by
  induction d with
  | nil =>
    have : ∀ k, sumI (fun p => sumL (([] : List Win).filter fun x => decide (Win.p x = (p : Int)))) k = 0 := fun k => by
      induction k with
      | zero => rfl
      | succ k ih => rw [sumI, ih]; simp [sumL]
    rw [this]; rfl
  | cons x d ih =>
    obtain ⟨h0, h1⟩ := h x (List.mem_cons_self ..)
    obtain ⟨q, hq⟩ := Int.eq_ofNat_of_zero_le h0
    have e : ∀ p, p < m → sumL ((x :: d).filter fun y => decide (Win.p y = (p : Int))) = (if p = q then Win.l x else 0) + sumL (d.filter fun y => decide (Win.p y = (p : Int))) := fun p _ => by
      rw [List.filter_cons]
      by_cases hp : p = q
      · rw [if_pos hp, if_pos (by simp [hq, hp])]
        simp [sumL]
      · rw [if_neg hp, if_neg (by simp [hq]; omega)]
        omega
    rw [sumI_congr e, sumI_add, sumI_one, if_pos (by omega), ih (fun y hy => h y (List.mem_cons_of_mem _ hy))]
    simp [sumL]
end Go.Proofs.Ytmfddaihepjfeaa
