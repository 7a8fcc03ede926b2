/- The program's rules: pairs that exclude each other, channels, partitions, as they are asked. Plain: no function of the program is named here. -/
import Derived.Test.YtpcjjmjmigibhaaDoorChkP
namespace Go.Proofs.YtpcjjmjmigibhaaDoor
set_option linter.unusedVariables false
set_option linter.unusedSimpArgs false

theorem scan_some_iff {α : Type} (f : Nat → Option α) (n : Nat) : (scan f n).isSome = true ↔ ∃ k, k < n ∧ (f k).isSome = true := by
  constructor
  · intro h
    obtain ⟨x, hx⟩ := Option.isSome_iff_exists.1 h
    obtain ⟨k, hk, e⟩ := scan_lt hx
    exact ⟨k, hk, by rw [e]; rfl⟩
  · rintro ⟨k, hk, h⟩
    rcases hs : scan f n with _ | x
    · rw [scan_none hs k hk] at h; cases h
    · rfl
theorem hitF_isSome (n a : Int) : (hitF n a).isSome = true ↔ n ≠ 0 := by
  by_cases h : n = 0
  · simp [hitF, h]
  · rw [hitF_pos h]; simp [h]
theorem each_some_iff (f : Nat → Nat → Win → Int) (C : List (List Win)) : (eachF f C).isSome = true ↔ ∃ (c i : Nat) (L : List Win) (x : Win), C[c]? = some L ∧ L[i]? = some x ∧ f c i x ≠ 0 := by
  rw [eachF, scan_some_iff]
  constructor
  · rintro ⟨c, hc, h⟩
    have e := List.getElem?_eq_getElem hc
    rw [rowF, scan_some_iff, coreAt_some e] at h
    obtain ⟨i, hi, h⟩ := h
    have e2 := List.getElem?_eq_getElem hi
    rw [hitF_isSome, winAt_some e2] at h
    exact ⟨c, i, _, _, e, e2, h⟩
  · rintro ⟨c, i, L, x, hc, hi, h⟩
    refine ⟨c, (List.getElem?_eq_some_iff.1 hc).1, ?_⟩
    rw [rowF, scan_some_iff, coreAt_some hc]
    exact ⟨i, (List.getElem?_eq_some_iff.1 hi).1, by rw [hitF_isSome, winAt_some hi]; exact h⟩
theorem each_val {f : Nat → Nat → Win → Int} {C : List (List Win)} {n a : Int} (h : eachF f C = some (n, a)) : ∃ c i x, f c i x = n ∧ n ≠ 0 := by
  obtain ⟨c, _, h⟩ := scan_lt h
  obtain ⟨i, _, h⟩ := scan_lt (show scan _ _ = _ from h)
  unfold hitF at h
  split at h
  · cases h
  · rename_i q
    injection h with e
    injection e with e1 e2
    exact ⟨c, i, _, e1, by rw [← e1]; exact q⟩
/-! ### Clashes -/
def meetN (b : Int) (v w : Win) : Int := if Win.p w = b ∧ overlapS v w = true then 49 else 0
def meetQ (C : List (List Win)) (b : Int) (v : Win) : Option Flt := eachF (fun _ _ w => meetN b v w) C
def clashN (C : List (List Win)) (x : PairR) (v : Win) : Int := if Win.p v = PairR.a x ∧ (meetQ C (PairR.b x) v).isSome = true then 49 else 0
def clashQ (C : List (List Win)) (x : PairR) : Option Flt := eachF (fun _ _ v => clashN C x v) C
theorem meet_val {C : List (List Win)} {b : Int} {v : Win} {n a : Int} (h : meetQ C b v = some (n, a)) : n = 49 := by
  obtain ⟨c, i, x, h1, h2⟩ := each_val h
  unfold meetN at h1
  split at h1
  · exact h1.symm
  · exact absurd h1.symm h2
theorem clash_val {C : List (List Win)} {x : PairR} {n a : Int} (h : clashQ C x = some (n, a)) : n = 49 := by
  obtain ⟨c, i, y, h1, h2⟩ := each_val h
  unfold clashN at h1
  split at h1
  · exact h1.symm
  · exact absurd h1.symm h2
theorem clash_iff (C : List (List Win)) (x : PairR) : (clashQ C x).isSome = true ↔ ∃ v w : Win, (∃ (c i : Nat) (L : List Win), C[c]? = some L ∧ L[i]? = some v) ∧ (∃ (c i : Nat) (L : List Win), C[c]? = some L ∧ L[i]? = some w) ∧ Win.p v = PairR.a x ∧ Win.p w = PairR.b x ∧ overlapS v w = true := by
  rw [clashQ, each_some_iff]
  constructor
  · rintro ⟨c, i, L, v, hc, hi, h⟩
    unfold clashN at h
    split at h
    · rename_i q
      obtain ⟨q1, q2⟩ := q
      rw [meetQ, each_some_iff] at q2
      obtain ⟨d, j, M, w, hd, hj, h⟩ := q2
      unfold meetN at h
      split at h
      · rename_i q
        exact ⟨v, w, ⟨c, i, L, hc, hi⟩, ⟨d, j, M, hd, hj⟩, q1, q.1, q.2⟩
      · exact absurd rfl h
    · exact absurd rfl h
  · rintro ⟨v, w, ⟨c, i, L, hc, hi⟩, ⟨d, j, M, hd, hj⟩, h1, h2, h3⟩
    refine ⟨c, i, L, v, hc, hi, ?_⟩
    have hm : (meetQ C (PairR.b x) v).isSome = true := by
      rw [meetQ, each_some_iff]
      exact ⟨d, j, M, w, hd, hj, by rw [meetN, if_pos ⟨h2, h3⟩]; decide⟩
    rw [clashN, if_pos ⟨h1, hm⟩]
    decide
theorem clash_scan (C : List (List Win)) (x : PairR) (i : Nat) : scan (fun a => scan (clashF (allS C) x i a) (allS C).length) (allS C).length = if (clashQ C x).isSome = true then some (49, (i : Int)) else none := by
  have val : ∀ (a b c j : Nat) (L : List Win) (v : Win) (d k : Nat) (M : List Win) (w : Win), C[c]? = some L → L[j]? = some v → C[d]? = some M → M[k]? = some w → a = idx C c + j → b = idx C d + k → clashF (allS C) x i a b = if Win.p v = PairR.a x ∧ Win.p w = PairR.b x ∧ overlapS v w = true then some (49, (i : Int)) else none := by
    rintro a b c j L v d k M w hc hj hd hk rfl rfl
    unfold clashF
    rw [plAt_idx hc hj, plAt_idx hd hk]
    rfl
  by_cases h : (clashQ C x).isSome = true
  · rw [if_pos h]
    obtain ⟨v, w, ⟨c, j, L, hc, hj⟩, ⟨d, k, M, hd, hk⟩, h1, h2, h3⟩ := (clash_iff C x).1 h
    have lt : ∀ {c j : Nat} {L : List Win} {v : Win}, C[c]? = some L → L[j]? = some v → idx C c + j < (allS C).length := by
      intro c j L v hc hj
      have h1 := idx_le hc hj
      have h2 := idx_mono C (a := c + 1) (b := C.length) (by have := (List.getElem?_eq_some_iff.1 hc).1; omega) (Nat.le_refl _)
      rw [idx_all] at h2
      omega
    rcases hs : scan (fun a => scan (clashF (allS C) x i a) (allS C).length) (allS C).length with _ | z
    · have e1 := scan_none hs (idx C c + j) (lt hc hj)
      have e2 := scan_none e1 (idx C d + k) (lt hd hk)
      rw [val _ _ c j L v d k M w hc hj hd hk rfl rfl, if_pos ⟨h1, h2, h3⟩] at e2
      cases e2
    · obtain ⟨a, ha, e⟩ := scan_lt hs
      obtain ⟨b, hb, e⟩ := scan_lt (show scan _ _ = _ from e)
      unfold clashF at e
      split at e
      · exact e.symm
      · cases e
  · rw [if_neg h]
    refine scan_none_of fun a ha => scan_none_of fun b hb => ?_
    obtain ⟨c, j, L, v, hc, hj, rfl⟩ := place_of C a ha
    obtain ⟨d, k, M, w, hd, hk, rfl⟩ := place_of C b hb
    rw [val _ _ c j L v d k M w hc hj hd hk rfl rfl, if_neg]
    rintro ⟨h1, h2, h3⟩
    exact h ((clash_iff C x).2 ⟨v, w, ⟨c, j, L, hc, hj⟩, ⟨d, k, M, hd, hk⟩, h1, h2, h3⟩)
def dupB (x : PairR) (L : List PairR) : Bool := L.any fun y => decide (PairR.a y = PairR.a x) && decide (PairR.b y = PairR.b x)
theorem dupB_snoc {L : List PairR} {j : Nat} {y : PairR} (h : L[j]? = some y) (x : PairR) : dupB x (L.take (j + 1)) = (dupB x (L.take j) || (decide (PairR.a y = PairR.a x) && decide (PairR.b y = PairR.b x))) := by
  rw [take_snoc h, dupB, dupB, List.any_append]
  simp
/-- Is a pair bad? -/
def badB (np : Int) (Q : List PairR) (i : Nat) (x : PairR) : Bool := decide (np ≤ PairR.b x) || decide (PairR.b x ≤ PairR.a x) || dupB x (Q.take i)
theorem pair_eq (np : Int) (C : List (List Win)) (Q : List PairR) (i : Nat) (x : PairR) (hx : Q[i]? = some x) : pairF np (allS C) Q i = if badB np Q i x = true then some (48, (i : Int)) else if (clashQ C x).isSome = true then some (49, (i : Int)) else none := by
  have hil := (List.getElem?_eq_some_iff.1 hx).1
  have hs : scan (samePairF Q i) i = if dupB x (Q.take i) = true then some (48, (i : Int)) else none := by
    have val : ∀ (k : Nat) (y : PairR), Q[k]? = some y → samePairF Q i k = if PairR.a y = PairR.a x ∧ PairR.b y = PairR.b x then some (48, (i : Int)) else none := by
      intro k y hy
      unfold samePairF
      rw [prAt_some hx, prAt_some hy]
    by_cases h : dupB x (Q.take i) = true
    · rw [if_pos h]
      obtain ⟨y, hy, hq⟩ := List.any_eq_true.1 h
      obtain ⟨k, hk, rfl⟩ := List.getElem_of_mem hy
      rw [List.length_take] at hk
      rw [List.getElem_take] at hq
      simp only [Bool.and_eq_true, decide_eq_true_eq] at hq
      rcases hs : scan (samePairF Q i) i with _ | z
      · have := scan_none hs k (by omega)
        rw [val k _ (List.getElem?_eq_getElem (by omega)), if_pos hq] at this
        cases this
      · obtain ⟨j, hj, e⟩ := scan_lt hs
        unfold samePairF at e
        split at e
        · exact e.symm
        · cases e
    · rw [if_neg h]
      refine scan_none_of fun k hk => ?_
      have e := List.getElem?_eq_getElem (show k < Q.length by omega)
      rw [val k _ e, if_neg]
      rintro ⟨q1, q2⟩
      refine h (List.any_eq_true.2 ⟨Q[k]'(by omega), ?_, by simp [q1, q2]⟩)
      have : (Q.take i)[k]? = some Q[k] := by rw [List.getElem?_take_of_lt hk]; exact e
      exact List.mem_of_getElem? this
  have e : pairF np (allS C) Q i = if np ≤ PairR.a x ∨ np ≤ PairR.b x ∨ PairR.b x ≤ PairR.a x then some (48, (i : Int)) else orElseF (if dupB x (Q.take i) = true then some (48, (i : Int)) else none) (if (clashQ C x).isSome = true then some (49, (i : Int)) else none) := by
    unfold pairF
    rw [prAt_some hx, hs, clash_scan]
  rw [e]
  by_cases h1 : np ≤ PairR.b x ∨ PairR.b x ≤ PairR.a x
  · have hb : badB np Q i x = true := by
      rcases h1 with q | q <;> simp [badB, q]
    rw [if_pos (.inr h1), if_pos hb]
  · have h2 : ¬ (np ≤ PairR.a x ∨ np ≤ PairR.b x ∨ PairR.b x ≤ PairR.a x) := by omega
    rw [if_neg h2]
    have n1 : ¬ np ≤ PairR.b x := by omega
    have n2 : ¬ PairR.b x ≤ PairR.a x := by omega
    by_cases h3 : dupB x (Q.take i) = true
    · have hb : badB np Q i x = true := by simp [badB, h3]
      rw [if_pos h3, if_pos hb]; rfl
    · have hb : ¬ badB np Q i x = true := by simp [badB, n1, n2, h3]
      rw [if_neg h3, if_neg hb]; rfl
/-! ### All rules in order -/
/-- The first broken rule, or none. -/
def checkO (P : Plan) : Option Flt :=
  if Plan.frame P = 0 then some (40, 0)
  else if (Plan.cores P).length < 1 ∨ 8 < (Plan.cores P).length then some (41, ((Plan.cores P).length : Int))
  else if (Plan.parts P).length < 1 ∨ 64 < (Plan.parts P).length then some (42, ((Plan.parts P).length : Int))
  else restF P
theorem check_of (P : Plan) : checkS P = (checkO P).getD (0, 0) := by
  unfold checkS checkO
  split
  · rfl
  · split
    · rfl
    · split <;> rfl
theorem checkO_nz (P : Plan) : NZ (checkO P) := nz_if (nz_some (by decide)) (nz_if (nz_some (by decide)) (nz_if (nz_some (by decide)) (restF_nz P)))
theorem checkO_none {P : Plan} : checkO P = none ↔ (checkS P).1 = 0 := by
  rw [check_of]
  rcases h : checkO P with _ | x
  · simp
  · simp only [Option.getD_some]
    constructor
    · intro q; cases q
    · intro q; exact absurd q (checkO_nz P x h)
def sizesO (P : Plan) : Option Flt :=
  if Plan.frame P = 0 then some (40, 0)
  else if (Plan.cores P).length < 1 ∨ 8 < (Plan.cores P).length then some (41, ((Plan.cores P).length : Int))
  else if (Plan.parts P).length < 1 ∨ 64 < (Plan.parts P).length then some (42, ((Plan.parts P).length : Int))
  else scan (manyF (Plan.cores P)) (Plan.cores P).length
theorem sizes_none {P : Plan} (h : sizesO P = none) : (Plan.cores P).length ≤ 8 ∧ (Plan.parts P).length ≤ 64 ∧ ∀ L ∈ Plan.cores P, L.length ≤ 256 := by
  unfold sizesO at h
  split at h
  · cases h
  · split at h
    · cases h
    · split at h
      · cases h
      · refine ⟨by omega, by omega, fun L hL => ?_⟩
        obtain ⟨c, hc, rfl⟩ := List.getElem_of_mem hL
        have := scan_none h c hc
        unfold manyF at this
        split at this
        · cases this
        · rename_i q
          rw [List.getD_eq_getElem?_getD, List.getElem?_eq_getElem hc] at q
          simp only [Option.getD_some] at q
          omega
theorem check_split (P : Plan) (hs : ∀ L ∈ Plan.cores P, ∀ x ∈ L, 0 ≤ Win.s x) : checkO P = orElseF (sizesO P) (orElseF (eachF (windowsN (Plan.frame P) ((Plan.parts P).length : Int) (Plan.cores P)) (Plan.cores P)) (orElseF (eachF (pairsN (Plan.cores P)) (Plan.cores P)) (orElseF (scan (pairF ((Plan.parts P).length : Int) (allS (Plan.cores P)) (Plan.pairs P)) (Plan.pairs P).length) (orElseF (scan (chanF ((Plan.parts P).length : Int) (Plan.chans P)) (Plan.chans P).length) (scan (partF (Plan.parts P)) (Plan.parts P).length))))) := by
  unfold checkO sizesO
  split
  · rfl
  · split
    · rfl
    · split
      · rfl
      · rw [restF, windows_scan _ _ _ hs, pairs_scan]
end Go.Proofs.YtpcjjmjmigibhaaDoor
