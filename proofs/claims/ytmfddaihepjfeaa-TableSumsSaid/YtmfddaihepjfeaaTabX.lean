/- The shares of a plan that is taken: what all windows have is what is counted tick by tick. Plain. -/
import Derived.Test.YtmfddaihepjfeaaTabW
import Derived.Test.YtmfddaihepjfeaaTabQ
namespace Go.Proofs.Ytmfddaihepjfeaa
open Go.RowKit
set_option linter.unusedVariables false
set_option linter.unusedSimpArgs false

theorem sumN_add (f g : Nat → Nat) (n : Nat) : sumN (fun t => f t + g t) n = sumN f n + sumN g n := by
  induction n with
  | zero => rfl
  | succ n ih => simp only [sumN, ih]; omega
theorem sumN_congr {f g : Nat → Nat} {n : Nat} (h : ∀ t, t < n → f t = g t) : sumN f n = sumN g n := by
  induction n with
  | zero => rfl
  | succ n ih => simp only [sumN]; rw [ih (fun t ht => h t (by omega)), h n (by omega)]
theorem sumN_zero {f : Nat → Nat} {n : Nat} (h : ∀ t, t < n → f t = 0) : sumN f n = 0 := by
  induction n with
  | zero => rfl
  | succ n ih => simp only [sumN]; rw [ih (fun t ht => h t (by omega)), h n (by omega)]
theorem sumN_range (s l n : Nat) : sumN (fun t => if s ≤ t ∧ t < s + l then 1 else 0) n = min n (s + l) - min n s := by
  induction n with
  | zero => simp [sumN]
  | succ n ih =>
    simp only [sumN]
    rw [ih]
    split <;> omega
theorem core_cnt {n : Nat} {b : Int} {L : List Win} (part : Int) (hp : 0 ≤ part) (hb : 0 ≤ b) (h : Ord (n : Int) b L) : ((sumN (fun t => if cellB part t L = true then 1 else 0) n : Nat) : Int) = sumL (L.filter fun x => decide (Win.p x = part)) := by
  induction L generalizing b with
  | nil =>
    rw [sumN_zero]
    · rfl
    · intro t _
      have e : servesS [] (t : Int) = -1 := rfl
      rw [if_neg]
      rw [cellB, e]
      simp; omega
  | cons x L ih =>
    obtain ⟨h1, h2, h3, h4⟩ := h
    have hi := ih (b := Win.s x + Win.l x) (by omega) h4
    obtain ⟨s, hs⟩ := Int.eq_ofNat_of_zero_le (show 0 ≤ Win.s x by omega)
    obtain ⟨l, hl⟩ := Int.eq_ofNat_of_zero_le (show 0 ≤ Win.l x by omega)
    have hx : ∀ t : Nat, hasS x (t : Int) = true ↔ s ≤ t ∧ t < s + l := fun t => by rw [hasS_iff, hs, hl]; omega
    by_cases hpp : Win.p x = part
    · have e : ∀ t, t < n → (if cellB part t (x :: L) = true then 1 else 0) = (if s ≤ t ∧ t < s + l then 1 else 0) + (if cellB part t L = true then 1 else 0) := by
        intro t _
        unfold cellB
        rw [serves_cons]
        by_cases q : hasS x (t : Int) = true
        · have q2 := (hx t).1 q
          rw [if_pos q, if_pos q2, serves_below h4 (t : Int) (by omega)]
          have : ¬ (-1 : Int) = part := by omega
          simp [hp, hpp, this]
        · rw [if_neg q, if_neg (fun z => q ((hx t).2 z))]; simp
      rw [sumN_congr e, sumN_add, sumN_range, Int.natCast_add, hi, List.filter_cons, if_pos (by simpa using hpp)]
      have : sumL (x :: L.filter fun x => decide (Win.p x = part)) = Win.l x + sumL (L.filter fun x => decide (Win.p x = part)) := by simp [sumL]
      rw [this, hl]
      omega
    · have e : ∀ t, t < n → (if cellB part t (x :: L) = true then 1 else 0) = (if cellB part t L = true then 1 else 0) := by
        intro t _
        unfold cellB
        rw [serves_cons]
        by_cases q : hasS x (t : Int) = true
        · have q2 := (hx t).1 q
          rw [if_pos q, serves_below h4 (t : Int) (by omega)]
          have : ¬ (-1 : Int) = part := by omega
          simp [hpp, this]
        · rw [if_neg q]
      rw [sumN_congr e, hi, List.filter_cons, if_neg (by simpa using hpp)]
theorem share_cores {n : Nat} {C : List (List Win)} (part : Int) (hp : 0 ≤ part) (h : ∀ L ∈ C, Ord (n : Int) 0 L) : ((sumN (cntS C part) n : Nat) : Int) = sumL (matchS C part) := by
  induction C with
  | nil => rw [sumN_zero (fun t _ => by simp [cntS])]; rfl
  | cons L C ih =>
    have e : ∀ t, t < n → cntS (L :: C) part t = cntS C part t + (if cellB part t L = true then 1 else 0) := fun t _ => by rw [cntS, List.countP_cons]; rfl
    have hm : matchS (L :: C) part = (L.filter fun x => decide (Win.p x = part)) ++ matchS C part := by simp [matchS]
    have ha : ∀ a b : List Win, sumL (a ++ b) = sumL a + sumL b := fun a b => by simp [sumL]
    rw [sumN_congr e, sumN_add, Int.natCast_add, ih (fun M hM => h M (List.mem_cons_of_mem _ hM)), core_cnt part hp (Int.le_refl 0) (h L (List.mem_cons_self ..)), hm, ha]
    omega
theorem share_eq {P : Plan} (hok : ∀ L ∈ Plan.cores P, ∀ x ∈ L, Win.Ok x) (R : Rules P) (part : Int) (n : Nat) (hn : Plan.frame P = (n : Int)) : sumL (matchS (Plan.cores P) part) = (sumN (cntS (Plan.cores P) part) n : Nat) := by
  by_cases hp : 0 ≤ part
  · rw [share_cores part hp]
    intro L hL
    obtain ⟨c, hc, rfl⟩ := List.getElem_of_mem hL
    have := ord_core R hok (List.getElem?_eq_getElem hc)
    rwa [hn] at this
  · rw [sumN_zero (fun t _ => by
      rw [cntS, List.countP_eq_zero]
      intro L _
      simp [cellB]; omega)]
    have : matchS (Plan.cores P) part = [] := by
      rw [matchS, List.filter_eq_nil_iff]
      intro x hx
      obtain ⟨L, hL, hx⟩ := List.mem_flatten.1 hx
      have := (hok L hL x hx).p.1
      simp; omega
    rw [this]; rfl
theorem many_le {P : Plan} (R : Rules P) : ∀ L ∈ Plan.cores P, L.length ≤ 256 := by
  intro L hL
  obtain ⟨c, hc, rfl⟩ := List.getElem_of_mem hL
  have := R.many c hc
  rw [manyF, List.getD_eq_getElem?_getD, List.getElem?_eq_getElem hc] at this
  simp at this
  omega
theorem cores_ok {w : World} {v : Value} {P : Plan} (hv : PlanV w v P) : ∀ L ∈ Plan.cores P, ∀ x ∈ L, Win.Ok x := by
  obtain ⟨a0, c0, a1, c1, a2, c2, a3, c3, rfl, hp, hlen⟩ := hv.open_
  intro L hL x hx
  obtain ⟨c, hc, rfl⟩ := List.getElem_of_mem hL
  obtain ⟨_, _, _, _, hw⟩ := hp.cores.at_ c _ (List.getElem?_eq_getElem hc)
  obtain ⟨_, _, rfl, _⟩ := hw.len
  obtain ⟨i, hi, rfl⟩ := List.getElem_of_mem hx
  obtain ⟨_, _, _, _, _, _, ok⟩ := hw.at_ i _ (List.getElem?_eq_getElem hi)
  exact ok
theorem shares_any (w : World) (v : Value) (P : Plan) (part : Int) (hv : PlanV w v P) :
    Calls Try.prog 5 #[v, .int .i64 part] w fun e w' => e = .returned (.bool true) ∧ Below w.heap.size w w' :=
  shares_walk w v P part hv (fun tk n hn => share_eq (cores_ok hv) (rules_of tk.check) part n hn) (fun tk => many_le (rules_of tk.check))
end Go.Proofs.Ytmfddaihepjfeaa
