/- The plain side of layer 1: what its functions compute, as numbers. -/
import Derived.Test.YtkgogbadddhlaaaKit
namespace Go.Proofs.Ytkgogbadddhlaaa

/-- Is a number a capacity? -/
def plB (n : Int) : Bool := n == 1 || n == 2 || n == 4 || n == 8 || n == 16 || n == 32 || n == 64 || n == 128 || n == 256 || n == 512 || n == 1024 || n == 2048 || n == 4096 || n == 8192 || n == 16384 || n == 32768

theorem testBit_top (n k : Nat) (h1 : 2 ^ k ≤ n) (h2 : n < 2 ^ (k + 1)) : n.testBit k = true := by
  rw [Nat.testBit_eq_decide_div_mod_eq]
  have : n / 2 ^ k = 1 := by
    rw [Nat.div_eq_of_lt_le]
    · simpa using h1
    · rw [Nat.pow_succ] at h2; omega
  simp [this]
theorem and_pred (n k : Nat) (h1 : 2 ^ k < n) (h2 : n < 2 ^ (k + 1)) : n &&& (n - 1) ≠ 0 := by
  intro h
  have a := testBit_top n k (by omega) h2
  have b := testBit_top (n - 1) k (by omega) (by omega)
  have c : (n &&& (n - 1)).testBit k = true := by rw [Nat.testBit_and, a, b]; rfl
  rw [h] at c
  simp at c
theorem plB_iff (n : Nat) : plB n = true ↔ ∃ k, k < 16 ∧ n = 2 ^ k := by
  constructor
  · intro h
    simp only [plB, Bool.or_eq_true, beq_iff_eq] at h
    rcases h with (((((((((((((((h | h) | h) | h) | h) | h) | h) | h) | h) | h) | h) | h) | h) | h) | h) | h)
    · exact ⟨0, by decide, by omega⟩
    · exact ⟨1, by decide, by omega⟩
    · exact ⟨2, by decide, by omega⟩
    · exact ⟨3, by decide, by omega⟩
    · exact ⟨4, by decide, by omega⟩
    · exact ⟨5, by decide, by omega⟩
    · exact ⟨6, by decide, by omega⟩
    · exact ⟨7, by decide, by omega⟩
    · exact ⟨8, by decide, by omega⟩
    · exact ⟨9, by decide, by omega⟩
    · exact ⟨10, by decide, by omega⟩
    · exact ⟨11, by decide, by omega⟩
    · exact ⟨12, by decide, by omega⟩
    · exact ⟨13, by decide, by omega⟩
    · exact ⟨14, by decide, by omega⟩
    · exact ⟨15, by decide, by omega⟩
  · rintro ⟨k, hk, rfl⟩
    have : ∀ k < 16, plB ((2 ^ k : Nat) : Int) = true := by decide
    exact this k hk
theorem range_pow (n : Nat) (h1 : 1 ≤ n) (h2 : n ≤ 32768) : ∃ k, k < 16 ∧ 2 ^ k ≤ n ∧ n < 2 ^ (k + 1) := by
  have hn : n ≠ 0 := by omega
  refine ⟨Nat.log2 n, ?_, Nat.log2_self_le hn, Nat.lt_log2_self⟩
  rw [Nat.log2_lt hn]
  omega
/-- 'n & (n-1) == 0' asks for a power of two. -/
theorem plB_and (n : Nat) (h1 : 1 ≤ n) (h2 : n ≤ 32768) : (Go.bits .and .u32 (n : Int) ((n : Int) - 1) == 0) = plB n := by
  rw [show ((n : Int) - 1) = ((n - 1 : Nat) : Int) by omega, bits_and32 n (n - 1) (by omega) (by omega)]
  obtain ⟨k, hk, ha, hb⟩ := range_pow n h1 h2
  by_cases e : n = 2 ^ k
  · have h : n &&& (n - 1) = 0 := by
      rw [e, Nat.and_two_pow_sub_one_eq_mod, Nat.mod_self]
    rw [h, (plB_iff n).2 ⟨k, hk, e⟩]
    rfl
  · have h := and_pred n k (by omega) hb
    have hf : plB n = false := by
      rw [Bool.eq_false_iff]
      intro hp
      obtain ⟨j, hj, e'⟩ := (plB_iff n).1 hp
      have : j = k := by
        have x1 := (Nat.pow_lt_pow_iff_right (a := 2) (by decide) (n := j) (m := k + 1)).1 (by omega)
        have x2 := (Nat.pow_le_pow_iff_right (a := 2) (by decide) (n := k) (m := j)).1 (by omega)
        omega
      subst this
      exact e e'
    rw [hf]
    simpa using h
/-- A place: 'i & (n-1)'. -/
theorem slot_and (i n : Nat) (hi : i < 4294967296) (h : plB n = true) : Go.bits .and .u32 (i : Int) ((n : Int) - 1) = ((i % n : Nat) : Int) := by
  obtain ⟨k, hk, rfl⟩ := (plB_iff n).1 h
  have hp : 0 < 2 ^ k := Nat.two_pow_pos k
  have hl : 2 ^ k ≤ 2 ^ 15 := Nat.pow_le_pow_right (by decide) (by omega)
  rw [show (((2 ^ k : Nat) : Int) - 1) = ((2 ^ k - 1 : Nat) : Int) by omega, bits_and32 _ _ hi (by omega), Nat.and_two_pow_sub_one_eq_mod]
theorem plB_range (n : Int) (h : plB n = true) : 1 ≤ n ∧ n ≤ 32768 := by
  simp only [plB, Bool.or_eq_true, beq_iff_eq] at h
  omega

/-- the bits asked for, below c -/
def maskTo (p : Nat → Bool) : Nat → Nat
  | 0 => 0
  | c + 1 => maskTo p c ||| (if p c then 2 ^ c else 0)
theorem maskTo_lt_pow (p : Nat → Bool) (c : Nat) : maskTo p c < 2 ^ c := by
  induction c with
  | zero => simp [maskTo]
  | succ c ih =>
    have h2 : 2 ^ c < 2 ^ (c + 1) := Nat.pow_lt_pow_right (by decide) (by omega)
    have : maskTo p c < 2 ^ (c + 1) := by omega
    unfold maskTo
    apply Nat.or_lt_two_pow this
    split
    · exact h2
    · omega
theorem maskTo_lt (p : Nat → Bool) (c : Nat) (h : c ≤ 8) : maskTo p c < 256 := by
  have h1 := maskTo_lt_pow p c
  have : 2 ^ c ≤ 2 ^ 8 := Nat.pow_le_pow_right (by decide) h
  omega
theorem maskTo_bit (p : Nat → Bool) (c i : Nat) : (maskTo p c).testBit i = (decide (i < c) && p i) := by
  induction c with
  | zero => simp [maskTo]
  | succ c ih =>
    unfold maskTo
    rw [Nat.testBit_or, ih]
    by_cases hp : p c
    · simp only [hp, if_true, Nat.testBit_two_pow]
      by_cases hi : i = c
      · subst hi; simp [hp]
      · by_cases h2 : i < c
        · simp [h2, show i < c + 1 by omega]; intro h; omega
        · simp [h2, show ¬ i < c + 1 by omega]; omega
    · by_cases hi : i = c
      · subst hi; simp [hp]
      · by_cases h2 : i < c
        · simp [hp, h2, show i < c + 1 by omega]
        · simp [hp, h2, show ¬ i < c + 1 by omega]
theorem maskTo_congr (p q : Nat → Bool) (c : Nat) (h : ∀ i < c, p i = q i) : maskTo p c = maskTo q c := by
  apply Nat.eq_of_testBit_eq
  intro i
  rw [maskTo_bit, maskTo_bit]
  by_cases hi : i < c
  · simp [hi, h i hi]
  · simp [hi]
/-- A set of cores is the mask of its members. -/
theorem maskTo_self (s : Nat) (hs : s < 256) : maskTo s.testBit 8 = s := by
  apply Nat.eq_of_testBit_eq
  intro i
  rw [maskTo_bit]
  by_cases hi : i < 8
  · simp [hi]
  · have : s.testBit i = false := Nat.testBit_lt_two_pow (Nat.lt_of_lt_of_le hs (Nat.pow_le_pow_right (n := 2) (by decide) (show 8 ≤ i by omega)))
    simp [hi, this]

/-- Is a core in a set? -/
def hasB (s : Nat) (c : Int) : Bool := decide (0 ≤ c) && decide (c < 8) && s.testBit c.toNat
theorem hasB_nat (s c : Nat) (h : c < 8) : hasB s c = s.testBit c := by simp [hasB]; omega
theorem and_bit : ∀ s < 256, ∀ c < 8, (Go.bits .and .u8 ((s : Nat) : Int) ((2 ^ c : Nat) : Int) != 0) = s.testBit c := by
  intro s hs c hc
  have hp : 2 ^ c < 256 := by
    have : 2 ^ c ≤ 2 ^ 7 := Nat.pow_le_pow_right (by decide) (by omega)
    omega
  have e : s &&& 2 ^ c = if s.testBit c then 2 ^ c else 0 := by
    apply Nat.eq_of_testBit_eq
    intro i
    rw [Nat.testBit_and, Nat.testBit_two_pow]
    by_cases hi : c = i
    · subst hi
      cases hb : s.testBit c <;> simp
    · cases hb : s.testBit c <;> simp [hi]
  rw [bits_and8 s (2 ^ c) hs hp, e]
  cases s.testBit c
  · simp
  · rw [if_pos rfl, bne_iff_ne]
    have := Nat.two_pow_pos c
    omega

/-- The cores of a set, rising, below c. -/
def coresTo (s : Nat) : Nat → List Int
  | 0 => []
  | c + 1 => coresTo s c ++ (if s.testBit c then [(c : Int)] else [])
theorem coresTo_len (s c : Nat) : (coresTo s c).length ≤ c := by
  induction c with
  | zero => simp [coresTo]
  | succ c ih => unfold coresTo; rw [List.length_append]; split <;> simp <;> omega
theorem coresTo_mem (s c : Nat) (x : Int) : x ∈ coresTo s c ↔ ∃ i : Nat, i < c ∧ x = i ∧ s.testBit i = true := by
  induction c with
  | zero => simp [coresTo]
  | succ c ih =>
    unfold coresTo
    rw [List.mem_append, ih]
    constructor
    · rintro (⟨i, h1, h2, h3⟩ | h)
      · exact ⟨i, by omega, h2, h3⟩
      · split at h
        · rename_i hb
          simp at h
          exact ⟨c, by omega, h, hb⟩
        · simp at h
    · rintro ⟨i, h1, h2, h3⟩
      by_cases e : i = c
      · subst e; right; simp [h3, h2]
      · left; exact ⟨i, by omega, h2, h3⟩

/-- The least core of a set from c on. -/
def firstFrom (s : Nat) : Nat → Nat → Option Nat
  | 0, _ => none
  | n + 1, c => if s.testBit c then some c else firstFrom s n (c + 1)

/-- The set of some cores. -/
def allCores (l : List Int) : Bool := l.all fun c => decide (0 ≤ c) && decide (c < 8)
def maskOf (l : List Int) : Nat := maskTo (fun i => l.contains (i : Int)) 8
end Go.Proofs.Ytkgogbadddhlaaa
