/- Whom the cores of a taken plan serve at a tick. Plain: no function of the program is named here. -/
import Derived.Test.YtpcjjmjmigibhaaDoorTabW
import Derived.Test.YtpcjjmjmigibhaaDoorChkP
namespace Go.Proofs.YtpcjjmjmigibhaaDoor
set_option linter.unusedVariables false
set_option linter.unusedSimpArgs false

/-- The window that has a tick; no window: zeros. -/
def wOf (L : List Win) (t : Int) : Win := match atS L t with
  | some i => wAt L i
  | none => noWin
theorem serve_cases (L : List Win) (t : Int) : (atS L t = none ∧ servesS L t = -1 ∧ wOf L t = noWin) ∨ (∃ (i : Nat) (x : Win), L[i]? = some x ∧ hasS x t = true ∧ servesS L t = Win.p x ∧ wOf L t = x) := by
  rcases h : atS L t with _ | i
  · exact .inl ⟨rfl, serves_no h, by unfold wOf; rw [h]⟩
  · obtain ⟨hi, hh⟩ := atS_some h
    have e := List.getElem?_eq_getElem hi
    have ew := wAt_some e
    exact .inr ⟨i, L[i], e, by rw [← ew]; exact hh, by rw [serves_of h, ew], by unfold wOf; rw [h]; exact ew⟩
/-- At most one window has the tick. -/
def Uniq (L : List Win) (t : Int) : Prop := ∀ (i j : Nat) (x y : Win), L[i]? = some x → L[j]? = some y → hasS x t = true → hasS y t = true → i = j
theorem order_lt {P : Plan} (R : Rules P) (hok : ∀ L ∈ Plan.cores P, ∀ x ∈ L, Win.Ok x) {c : Nat} {L : List Win} (hc : (Plan.cores P)[c]? = some L) (i d : Nat) (x y : Win) (hi : L[i]? = some y) (hj : L[i + 1 + d]? = some x) : Win.s y + Win.l y ≤ Win.s x := by
  induction d generalizing x with
  | zero => exact (order_at R hc hj).2.2.2 i y rfl hi
  | succ d ih =>
    have hl := (List.getElem?_eq_some_iff.1 hj).1
    have e := List.getElem?_eq_getElem (show i + 1 + d < L.length by omega)
    have h1 := ih _ e
    have h2 := (order_at R hc hj).2.2.2 (i + 1 + d) _ rfl e
    have h3 := (hok L (List.mem_of_getElem? hc) _ (List.mem_of_getElem? e)).l
    omega
theorem uniq_core {P : Plan} (R : Rules P) (hok : ∀ L ∈ Plan.cores P, ∀ x ∈ L, Win.Ok x) {c : Nat} {L : List Win} (hc : (Plan.cores P)[c]? = some L) (t : Int) : Uniq L t := by
  intro i j x y hi hj hx hy
  rw [hasS_iff] at hx hy
  rcases Nat.lt_trichotomy i j with h | h | h
  · have := order_lt R hok hc i (j - i - 1) y x hi (by rw [show i + 1 + (j - i - 1) = j by omega]; exact hj)
    omega
  · exact h
  · have := order_lt R hok hc j (i - j - 1) x y hj (by rw [show j + 1 + (i - j - 1) = i by omega]; exact hi)
    omega
theorem both_overlaps {x y : Win} {t : Int} (hx : hasS x t = true) (hy : hasS y t = true) : overlapS x y = true := by
  rw [hasS_iff] at hx hy
  unfold overlapS laterS
  rw [Bool.and_eq_true, hasS_iff, hasS_iff]
  split <;> omega
theorem idx_lt {C : List (List Win)} {c i : Nat} {L : List Win} {x : Win} (hc : C[c]? = some L) (hi : L[i]? = some x) : idx C c + i < (allS C).length := by
  have h1 := idx_le hc hi
  have hcl := (List.getElem?_eq_some_iff.1 hc).1
  have h2 := idx_mono C (a := c + 1) (b := C.length) (by omega) (Nat.le_refl _)
  rw [idx_all] at h2
  omega
theorem cross_at {P : Plan} (R : Rules P) {c d i j : Nat} {L M : List Win} {x y : Win} (hc : (Plan.cores P)[c]? = some L) (hd : (Plan.cores P)[d]? = some M) (hlt : d < c) (hi : L[i]? = some x) (hj : M[j]? = some y) :
    togetherS x y = true ∨ ¬ (Win.p x = Win.p y ∧ overlapS x y = true) := by
  have h := R.cross _ (idx_lt hd hj) _ (idx_lt hc hi)
  unfold crossF at h
  rw [plAt_idx hd hj, plAt_idx hc hi] at h
  have h1 := idx_le hd hj
  have hcl := (List.getElem?_eq_some_iff.1 hc).1
  have h2 := idx_mono (Plan.cores P) (a := d + 1) (b := c) (by omega) (by omega)
  split at h
  · rename_i q
    rcases q with q | q | q
    · omega
    · simp only [Place.c] at q
      omega
    · exact .inl q
  · split at h
    · cases h
    · split at h
      · cases h
      · rename_i q
        exact .inr q
theorem together_eq {x y : Win} (h : togetherS x y = true) : x = y ∧ Win.g x ≠ 0 := by
  unfold togetherS at h
  simp only [Bool.and_eq_true, decide_eq_true_eq] at h
  obtain ⟨⟨⟨⟨h1, h2⟩, h3⟩, h4⟩, h5⟩ := h
  refine ⟨?_, h1⟩
  obtain ⟨a, b, c, d, _⟩ := x
  obtain ⟨a', b', c', d', _⟩ := y
  simp only [Win.s, Win.l, Win.p, Win.g] at h2 h3 h4 h5
  rw [h2, h3, h4, h5]
theorem clash_at {P : Plan} (R : Rules P) {c d i j k : Nat} {L M : List Win} {x y : Win} {q : PairR} (hc : (Plan.cores P)[c]? = some L) (hd : (Plan.cores P)[d]? = some M) (hi : L[i]? = some x) (hj : M[j]? = some y) (hq : (Plan.pairs P)[k]? = some q) :
    ¬ (Win.p x = PairR.a q ∧ Win.p y = PairR.b q ∧ overlapS x y = true) := by
  have h := R.pair k (List.getElem?_eq_some_iff.1 hq).1
  unfold pairF at h
  split at h
  · cases h
  · have h3 := scan_none (scan_none (orElse_both h).2 _ (idx_lt hc hi)) _ (idx_lt hd hj)
    unfold clashF at h3
    rw [plAt_idx hc hi, plAt_idx hd hj, prAt_some hq] at h3
    split at h3
    · cases h3
    · assumption
theorem serves_one {P : Plan} (R : Rules P) (hok : ∀ L ∈ Plan.cores P, ∀ x ∈ L, Win.Ok x) {c : Nat} {L : List Win} (hc : (Plan.cores P)[c]? = some L) (t : Int) : -1 ≤ servesS L t ∧ servesS L t < ((Plan.parts P).length : Int) ∧ (Plan.frame P ≤ t → servesS L t < 0) := by
  rcases serve_cases L t with ⟨_, h, _⟩ | ⟨i, x, hi, hx, h, _⟩
  · rw [h]; exact ⟨by omega, by omega, by omega⟩
  · have ho := order_at R hc hi
    have hp := (hok L (List.mem_of_getElem? hc) _ (List.mem_of_getElem? hi)).p
    rw [hasS_iff] at hx
    rw [h]
    exact ⟨by omega, ho.2.2.1, fun hf => by have := ho.2.1; omega⟩
theorem serves_two {P : Plan} (R : Rules P) (hok : ∀ L ∈ Plan.cores P, ∀ x ∈ L, Win.Ok x) {c d : Nat} {L M : List Win} (hc : (Plan.cores P)[c]? = some L) (hd : (Plan.cores P)[d]? = some M) (hlt : d < c) (t : Int) :
    0 ≤ servesS L t → servesS L t = servesS M t → wOf L t = wOf M t ∧ Win.g (wOf L t) ≠ 0 := by
  intro h0 h1
  rcases serve_cases L t with ⟨_, h, _⟩ | ⟨i, x, hi, hx, h, hw⟩
  · rw [h] at h0; omega
  rcases serve_cases M t with ⟨_, h', _⟩ | ⟨j, y, hj, hy, h', hw'⟩
  · rw [h'] at h1; omega
  rw [h, h'] at h1
  rw [hw, hw']
  rcases cross_at R hc hd hlt hi hj with q | q
  · exact together_eq q
  · exact absurd ⟨h1, both_overlaps hx hy⟩ q
theorem serves_clash {P : Plan} (R : Rules P) {c d k : Nat} {L M : List Win} {q : PairR} (hc : (Plan.cores P)[c]? = some L) (hd : (Plan.cores P)[d]? = some M) (t : Int) (hq : (Plan.pairs P)[k]? = some q) (h0 : 0 ≤ PairR.a q ∧ 0 ≤ PairR.b q) :
    ¬ (servesS L t = PairR.a q ∧ servesS M t = PairR.b q) ∧ ¬ (servesS L t = PairR.b q ∧ servesS M t = PairR.a q) := by
  rcases serve_cases L t with ⟨_, h, _⟩ | ⟨i, x, hi, hx, h, hw⟩
  · rw [h]; omega
  rcases serve_cases M t with ⟨_, h', _⟩ | ⟨j, y, hj, hy, h', hw'⟩
  · rw [h']; omega
  rw [h, h']
  constructor
  · rintro ⟨a, b⟩
    exact clash_at R hc hd hi hj hq ⟨a, b, both_overlaps hx hy⟩
  · rintro ⟨a, b⟩
    exact clash_at R hd hc hj hi hq ⟨b, a, both_overlaps hy hx⟩
theorem wOf_ok {L : List Win} (hok : ∀ x ∈ L, Win.Ok x) (t : Int) : Win.Ok (wOf L t) := by
  rcases serve_cases L t with ⟨_, _, h⟩ | ⟨i, x, hi, _, _, h⟩
  · rw [h]; exact ⟨by decide, by decide, by decide, by decide⟩
  · rw [h]; exact hok x (List.mem_of_getElem? hi)
end Go.Proofs.YtpcjjmjmigibhaaDoor
