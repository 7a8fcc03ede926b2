/- The program's rules, as they are asked: window by window, each a number. Plain: no function of the program is named here. -/
import Derived.Test.YtpcjjmjmigibhaaDoorTabV
namespace Go.Proofs.YtpcjjmjmigibhaaDoor
set_option linter.unusedVariables false
set_option linter.unusedSimpArgs false

def hitF (n a : Int) : Option Flt := if n = 0 then none else some (n, a)
theorem hitF_zero (a : Int) : hitF 0 a = none := rfl
theorem hitF_pos {n : Int} (h : n ≠ 0) (a : Int) : hitF n a = some (n, a) := if_neg h
def noWin : Win := (0, 0, 0, 0, ())
def winAt (L : List Win) (i : Nat) : Win := L.getD i noWin
theorem winAt_some {L : List Win} {i : Nat} {x : Win} (h : L[i]? = some x) : winAt L i = x := by simp [winAt, List.getD_eq_getElem?_getD, h]
def coreAt (C : List (List Win)) (c : Nat) : List Win := C.getD c []
theorem coreAt_some {C : List (List Win)} {c : Nat} {L : List Win} (h : C[c]? = some L) : coreAt C c = L := by simp [coreAt, List.getD_eq_getElem?_getD, h]
/-- The first that is not 0 of n. -/
def firstN (f : Nat → Int) : Nat → Int
  | 0 => 0
  | n + 1 => if firstN f n = 0 then f n else firstN f n
theorem firstN_zero {f : Nat → Int} {n : Nat} (h : firstN f n = 0) (k : Nat) (hk : k < n) : f k = 0 := by
  induction n with
  | zero => omega
  | succ n ih =>
    unfold firstN at h
    split at h
    · rename_i e
      rcases Nat.lt_succ_iff_lt_or_eq.1 hk with q | rfl
      · exact ih e q
      · exact h
    · exact absurd h (by assumption)
theorem firstN_succ {f : Nat → Int} {n : Nat} (h : firstN f n = 0) : firstN f (n + 1) = f n := by rw [firstN, if_pos h]
theorem firstN_hit {f : Nat → Int} {n k : Nat} (h : firstN f k = 0) (hx : f k ≠ 0) (hk : k < n) : firstN f n = f k := by
  induction n with
  | zero => omega
  | succ n ih =>
    rcases Nat.lt_succ_iff_lt_or_eq.1 hk with q | rfl
    · have := ih q
      rw [firstN, if_neg (by rw [this]; exact hx), this]
    · exact firstN_succ h
theorem scan_hit (f : Nat → Int) (a : Int) (n : Nat) : scan (fun k => hitF (f k) a) n = hitF (firstN f n) a := by
  induction n with
  | zero => rfl
  | succ n ih =>
    by_cases h : firstN f n = 0
    · rw [scan_succ (by rw [ih, h]; rfl), firstN_succ h]
    · unfold scan
      rw [ih, hitF_pos h, firstN, if_neg h, hitF_pos h]
theorem scan_congr {α : Type} {f g : Nat → Option α} {n : Nat} (h : ∀ k, k < n → f k = g k) : scan f n = scan g n := by
  induction n with
  | zero => rfl
  | succ n ih => unfold scan; rw [ih (fun k hk => h k (by omega)), h n (by omega)]
theorem firstN_congr {f g : Nat → Int} {n : Nat} (h : ∀ k, k < n → f k = g k) : firstN f n = firstN g n := by
  induction n with
  | zero => rfl
  | succ n ih => unfold firstN; rw [ih (fun k hk => h k (by omega)), h n (by omega)]
theorem scan_step {α : Type} (f : Nat → Option α) (n : Nat) : scan f (n + 1) = match scan f n with | some x => some x | none => f n := rfl
theorem scan_add (f : Nat → Option Flt) (a b : Nat) : scan f (a + b) = orElseF (scan f a) (scan (fun i => f (a + i)) b) := by
  induction b with
  | zero =>
    show scan f a = orElseF (scan f a) none
    rcases scan f a with _ | x <;> rfl
  | succ b ih =>
    rw [← Nat.add_assoc, scan_step, ih, scan_step]
    rcases scan f a with _ | x <;> rfl
def rowF (f : Nat → Win → Int) (c : Nat) (L : List Win) : Option Flt := scan (fun i => hitF (f i (winAt L i)) (256 * (c : Int) + (i : Int))) L.length
/-- Every window is asked about, core by core: the first number that is not 0, and its place. -/
def eachF (f : Nat → Nat → Win → Int) (C : List (List Win)) : Option Flt := scan (fun c => rowF (f c) c (coreAt C c)) C.length
/-- Where a core's places begin. -/
def idx (C : List (List Win)) (c : Nat) : Nat := (allS (C.take c)).length
theorem idx_succ {C : List (List Win)} {c : Nat} (h : c < C.length) : idx C (c + 1) = idx C c + (coreAt C c).length := by
  have e := List.getElem?_eq_getElem h
  rw [idx, allS_take_succ C c _ e, List.length_append, placesS_len, coreAt_some e]
  rfl
theorem scan_flat (F : Nat → Option Flt) (C : List (List Win)) (k : Nat) (hk : k ≤ C.length) : scan F (idx C k) = scan (fun c => scan (fun i => F (idx C c + i)) (coreAt C c).length) k := by
  induction k with
  | zero => simp [idx, allS_nil, scan]
  | succ k ih =>
    rw [idx_succ (by omega), scan_add, ih (by omega)]
    rcases h : scan (fun c => scan (fun i => F (idx C c + i)) (coreAt C c).length) k with _ | x
    · rw [scan_succ h]; rfl
    · unfold scan; rw [h]; rfl
theorem idx_all (C : List (List Win)) : idx C C.length = (allS C).length := by rw [idx, List.take_length]
theorem plAt_idx {C : List (List Win)} {c i : Nat} {L : List Win} {x : Win} (hc : C[c]? = some L) (hi : L[i]? = some x) : plAt (allS C) (idx C c + i) = ((c : Int), 256 * (c : Int) + (i : Int), x) := plAt_some (allS_get hc hi)
theorem each_scan (F : Nat → Option Flt) (f : Nat → Nat → Win → Int) (C : List (List Win)) (h : ∀ c i L x, C[c]? = some L → L[i]? = some x → F (idx C c + i) = hitF (f c i x) (256 * (c : Int) + (i : Int))) : scan F (allS C).length = eachF f C := by
  rw [← idx_all, scan_flat F C C.length (Nat.le_refl _), eachF]
  refine scan_congr fun c hc => ?_
  have e := List.getElem?_eq_getElem hc
  rw [rowF]
  refine scan_congr fun i hi => ?_
  rw [coreAt_some e] at hi ⊢
  have e2 := List.getElem?_eq_getElem hi
  rw [winAt_some e2]
  exact h c i _ _ e e2
/-! ### Windows by themselves -/
def windowsN (fr np : Int) (C : List (List Win)) (c i : Nat) (x : Win) : Int :=
  if Win.l x = 0 ∨ (0 < i ∧ Win.s x < endS (winAt (coreAt C c) (i - 1))) ∨ fr < endS x then 44 else if np ≤ Win.p x then 45 else 0
theorem behind_idx {C : List (List Win)} {c i : Nat} {L : List Win} {x : Win} (hc : C[c]? = some L) (hi : L[i]? = some x) : behindS (allS C) (idx C c + i) = if 0 < i then endS (winAt L (i - 1)) else 0 := by
  have hcl := (List.getElem?_eq_some_iff.1 hc).1
  have hil := (List.getElem?_eq_some_iff.1 hi).1
  rw [behindS, plAt_idx hc hi]
  by_cases h : 0 < i
  · have e := List.getElem?_eq_getElem (show i - 1 < L.length by omega)
    rw [show idx C c + i - 1 = idx C c + (i - 1) by omega, plAt_idx hc e, if_pos ⟨by omega, rfl⟩, if_pos h, winAt_some e]
    rfl
  · obtain rfl : i = 0 := by omega
    rw [if_neg (by omega : ¬ (0 < 0))]
    split
    · rename_i q
      exfalso
      obtain ⟨q1, q2⟩ := q
      -- the place ahead lies on an earlier core
      have : ∀ k, k ≤ C.length → ∀ j, j < idx C k → Place.c (plAt (allS C) j) < (k : Int) := by
        intro k
        induction k with
        | zero => intro _ j hj; simp [idx, allS_nil] at hj
        | succ k ih =>
          intro hk j hj
          rw [idx_succ (by omega)] at hj
          rcases Nat.lt_or_ge j (idx C k) with h2 | h2
          · have := ih (by omega) j h2; omega
          · have ek := List.getElem?_eq_getElem (show k < C.length by omega)
            rw [coreAt_some ek] at hj
            have ei := List.getElem?_eq_getElem (show j - idx C k < C[k].length by omega)
            have := plAt_idx ek ei
            rw [show idx C k + (j - idx C k) = j by omega] at this
            rw [this]
            simp only [Place.c]
            omega
      have h3 := this c (by omega) (idx C c + 0 - 1) (by omega)
      rw [q2] at h3
      simp [Place.c] at h3
    · rfl
theorem windows_scan (fr np : Int) (C : List (List Win)) (hs : ∀ L ∈ C, ∀ x ∈ L, 0 ≤ Win.s x) : scan (orderF fr np (allS C)) (allS C).length = eachF (windowsN fr np C) C := by
  refine each_scan _ _ C fun c i L x hc hi => ?_
  have h0 := hs L (List.mem_of_getElem? hc) x (List.mem_of_getElem? hi)
  have e : orderF fr np (allS C) (idx C c + i) = if Win.l x = 0 ∨ Win.s x < (if 0 < i then endS (winAt L (i - 1)) else 0) ∨ fr < endS x then some (44, 256 * (c : Int) + (i : Int)) else if np ≤ Win.p x then some (45, 256 * (c : Int) + (i : Int)) else none := by
    unfold orderF
    rw [behind_idx hc hi, plAt_idx hc hi]
    rfl
  rw [e, windowsN, coreAt_some hc]
  have key : (Win.l x = 0 ∨ Win.s x < (if 0 < i then endS (winAt L (i - 1)) else 0) ∨ fr < endS x) ↔ (Win.l x = 0 ∨ (0 < i ∧ Win.s x < endS (winAt L (i - 1))) ∨ fr < endS x) := by
    by_cases h : 0 < i
    · rw [if_pos h]
      simp [h]
    · rw [if_neg h]
      have : ¬ Win.s x < 0 := by omega
      simp [h, this]
  by_cases h1 : Win.l x = 0 ∨ (0 < i ∧ Win.s x < endS (winAt L (i - 1))) ∨ fr < endS x
  · rw [if_pos (key.2 h1), if_pos h1, hitF_pos (by decide)]
  · have h2 := fun q => h1 (key.1 q)
    rw [if_neg h2, if_neg h1]
    by_cases h3 : np ≤ Win.p x
    · rw [if_pos h3, if_pos h3]; rfl
    · rw [if_neg h3, if_neg h3]; rfl
/-! ### Windows of two cores -/
def twiceB (L : List Win) (g : Int) : Bool := L.any fun v => decide (Win.g v = g) && decide (g ≠ 0)
def crossN (v w : Win) : Int := if togetherS v w = true then 0 else if Win.g v ≠ 0 ∧ Win.g v = Win.g w then 46 else if Win.p v = Win.p w ∧ overlapS v w = true then 47 else 0
def rowN (L : List Win) (w : Win) : Int := firstN (fun j => crossN (winAt L j) w) L.length
def laterN (C : List (List Win)) (c : Nat) (w : Win) : Int := firstN (fun k => rowN (coreAt C (c + 1 + k)) w) (C.length - (c + 1))
def pairsN (C : List (List Win)) (c i : Nat) (x : Win) : Int := if twiceB ((coreAt C c).take i) (Win.g x) = true then 46 else laterN C c x
theorem idx_mono (C : List (List Win)) {a b : Nat} (h : a ≤ b) (hb : b ≤ C.length) : idx C a ≤ idx C b := by
  obtain ⟨R, e⟩ := allS_prefix C a b h hb
  rw [idx, idx, e, List.length_append]
  omega
theorem idx_le {C : List (List Win)} {c i : Nat} {L : List Win} {x : Win} (hc : C[c]? = some L) (hi : L[i]? = some x) : idx C c + i < idx C (c + 1) := by
  have hcl := (List.getElem?_eq_some_iff.1 hc).1
  have hil := (List.getElem?_eq_some_iff.1 hi).1
  rw [idx_succ hcl, coreAt_some hc]
  omega
theorem place_of (C : List (List Win)) (j : Nat) (h : j < (allS C).length) : ∃ c i L x, C[c]? = some L ∧ L[i]? = some x ∧ j = idx C c + i := by
  have : ∀ k, k ≤ C.length → j < idx C k → ∃ c i L x, C[c]? = some L ∧ L[i]? = some x ∧ j = idx C c + i := by
    intro k
    induction k with
    | zero => intro _ hj; simp [idx, allS_nil] at hj
    | succ k ih =>
      intro hk hj
      rcases Nat.lt_or_ge j (idx C k) with h2 | h2
      · exact ih (by omega) h2
      · rw [idx_succ (by omega)] at hj
        have ek := List.getElem?_eq_getElem (show k < C.length by omega)
        rw [coreAt_some ek] at hj
        exact ⟨k, j - idx C k, _, _, ek, List.getElem?_eq_getElem (show j - idx C k < C[k].length by omega), by omega⟩
  exact this C.length (Nat.le_refl _) (by rw [idx_all]; exact h)
theorem twice_scan {C : List (List Win)} {c i : Nat} {L : List Win} {x : Win} (hc : C[c]? = some L) (hi : L[i]? = some x) : scan (twiceF (allS C) (idx C c + i)) (idx C c + i) = if twiceB (L.take i) (Win.g x) = true then some (46, 256 * (c : Int) + (i : Int)) else none := by
  have hcl := (List.getElem?_eq_some_iff.1 hc).1
  have hil := (List.getElem?_eq_some_iff.1 hi).1
  have val : ∀ d j M y, C[d]? = some M → M[j]? = some y → twiceF (allS C) (idx C c + i) (idx C d + j) = if d = c ∧ Win.g y = Win.g x ∧ Win.g x ≠ 0 then some (46, 256 * (c : Int) + (i : Int)) else none := by
    intro d j M y hd hj
    have e : twiceF (allS C) (idx C c + i) (idx C d + j) = if (d : Int) = (c : Int) ∧ Win.g y = Win.g x ∧ Win.g x ≠ 0 then some (46, 256 * (c : Int) + (i : Int)) else none := by
      unfold twiceF
      rw [plAt_idx hc hi, plAt_idx hd hj]
      rfl
    rw [e]
    by_cases q : d = c
    · subst q
      simp
    · rw [if_neg (fun h => q (by have := h.1; omega)), if_neg (fun h => q h.1)]
  by_cases h : twiceB (L.take i) (Win.g x) = true
  · rw [if_pos h]
    obtain ⟨y, hy, hq⟩ := List.any_eq_true.1 h
    obtain ⟨j, hj, rfl⟩ := List.getElem_of_mem hy
    rw [List.length_take] at hj
    rw [List.getElem_take] at hq
    simp only [Bool.and_eq_true, decide_eq_true_eq] at hq
    rcases hs : scan (twiceF (allS C) (idx C c + i)) (idx C c + i) with _ | z
    · have := scan_none hs (idx C c + j) (by omega)
      rw [val c j L _ hc (List.getElem?_eq_getElem (by omega)), if_pos ⟨rfl, hq⟩] at this
      cases this
    · obtain ⟨k, hk, he⟩ := scan_lt hs
      have hkl : k < (allS C).length := by
        have := idx_le hc hi
        have := idx_mono C (a := c + 1) (b := C.length) (by omega) (Nat.le_refl _)
        rw [idx_all] at this
        omega
      obtain ⟨d, j', M, y, hd, hj', rfl⟩ := place_of C k hkl
      rw [val d j' M y hd hj'] at he
      split at he
      · exact he.symm
      · cases he
  · rw [if_neg h]
    refine scan_none_of fun k hk => ?_
    have hkl : k < (allS C).length := by
      have := idx_le hc hi
      have := idx_mono C (a := c + 1) (b := C.length) (by omega) (Nat.le_refl _)
      rw [idx_all] at this
      omega
    obtain ⟨d, j, M, y, hd, hj, rfl⟩ := place_of C k hkl
    rw [val d j M y hd hj, if_neg]
    rintro ⟨rfl, q1, q2⟩
    rw [hc] at hd
    obtain rfl := Option.some.inj hd
    refine h (List.any_eq_true.2 ⟨y, ?_, by simp [q1, q2]⟩)
    have hjl := (List.getElem?_eq_some_iff.1 hj).1
    have : (L.take i)[j]? = some y := by rw [List.getElem?_take_of_lt (by omega)]; exact hj
    exact List.mem_of_getElem? this
theorem cross_scan {C : List (List Win)} {c i : Nat} {L : List Win} {x : Win} (hc : C[c]? = some L) (hi : L[i]? = some x) : scan (crossF (allS C) (idx C c + i)) (allS C).length = hitF (laterN C c x) (256 * (c : Int) + (i : Int)) := by
  have hcl := (List.getElem?_eq_some_iff.1 hc).1
  have hil := (List.getElem?_eq_some_iff.1 hi).1
  have val : ∀ d j M y, C[d]? = some M → M[j]? = some y → crossF (allS C) (idx C c + i) (idx C d + j) = if d ≤ c then none else hitF (crossN y x) (256 * (c : Int) + (i : Int)) := by
    intro d j M y hd hj
    have e : crossF (allS C) (idx C c + i) (idx C d + j) = if idx C d + j ≤ idx C c + i ∨ (d : Int) = (c : Int) ∨ togetherS y x = true then none else if Win.g y = Win.g x ∧ Win.g x ≠ 0 then some (46, 256 * (c : Int) + (i : Int)) else if Win.p y = Win.p x ∧ overlapS y x = true then some (47, 256 * (c : Int) + (i : Int)) else none := by
      unfold crossF
      rw [plAt_idx hc hi, plAt_idx hd hj]
      rfl
    rw [e]
    by_cases h : d ≤ c
    · rw [if_pos h, if_pos]
      rcases Nat.lt_or_ge d c with q | q
      · left
        have h1 := idx_le hd hj
        have h2 := idx_mono C (a := d + 1) (b := c) (by omega) (by omega)
        omega
      · exact .inr (.inl (by omega))
    · rw [if_neg h, crossN]
      have h1 := idx_le hc hi
      have h2 := idx_mono C (a := c + 1) (b := d) (by omega) (by have := (List.getElem?_eq_some_iff.1 hd).1; omega)
      by_cases ht : togetherS y x = true
      · rw [if_pos (.inr (.inr ht)), if_pos ht]; rfl
      · rw [if_neg (by rintro (q | q | q); omega; omega; exact ht q), if_neg ht]
        by_cases hg : Win.g y = Win.g x ∧ Win.g x ≠ 0
        · rw [if_pos hg, if_pos ⟨by rw [hg.1]; exact hg.2, hg.1⟩]; rfl
        · have hg2 : ¬ (Win.g y ≠ 0 ∧ Win.g y = Win.g x) := fun q => hg ⟨q.2, by rw [← q.2]; exact q.1⟩
          rw [if_neg hg, if_neg hg2]
          by_cases h3 : Win.p y = Win.p x ∧ overlapS y x = true
          · rw [if_pos h3, if_pos h3]; rfl
          · rw [if_neg h3, if_neg h3]; rfl
  rw [← idx_all, scan_flat _ C C.length (Nat.le_refl _), laterN, ← scan_hit]
  have e : C.length = (c + 1) + (C.length - (c + 1)) := by omega
  have inner : ∀ d, d < C.length → scan (fun j => crossF (allS C) (idx C c + i) (idx C d + j)) (coreAt C d).length = if d ≤ c then none else hitF (rowN (coreAt C d) x) (256 * (c : Int) + (i : Int)) := by
    intro d hd
    have ed := List.getElem?_eq_getElem hd
    rw [coreAt_some ed]
    by_cases h : d ≤ c
    · rw [if_pos h]
      exact scan_none_of fun j hj => by rw [val d j _ _ ed (List.getElem?_eq_getElem hj), if_pos h]
    · rw [if_neg h, rowN, ← scan_hit]
      exact scan_congr fun j hj => by rw [val d j _ _ ed (List.getElem?_eq_getElem hj), if_neg h, winAt_some (List.getElem?_eq_getElem hj)]
  rw [scan_congr inner]
  conv => lhs; rw [e]
  rw [scan_add, scan_none_of (fun k hk => if_pos (by omega))]
  show scan _ _ = _
  exact scan_congr fun k hk => by rw [if_neg (by omega)]
theorem pairs_scan (C : List (List Win)) : scan (gangF (allS C)) (allS C).length = eachF (pairsN C) C := by
  refine each_scan _ _ C fun c i L x hc hi => ?_
  rw [gangF, twice_scan hc hi, cross_scan hc hi, pairsN, coreAt_some hc]
  by_cases h : twiceB (L.take i) (Win.g x) = true
  · rw [if_pos h, if_pos h]; rfl
  · rw [if_neg h, if_neg h]; rfl
end Go.Proofs.YtpcjjmjmigibhaaDoor
