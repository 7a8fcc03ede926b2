/- Layer 1: Where, of whatever function. -/
import Derived.Test.YtmfddaihepjfeaaProg
import Derived.Test.YtmfddaihepjfeaaKit
namespace Go.Proofs.Ytmfddaihepjfeaa
open Go.RowKit
set_option linter.unusedVariables false
set_option linter.unusedSimpArgs false

/-- the bits asked for, below c -/
def maskTo (p : Nat → Bool) : Nat → Nat
  | 0 => 0
  | c + 1 => maskTo p c ||| (if p c then 2 ^ c else 0)
theorem maskTo_lt_pow (p : Nat → Bool) (c : Nat) : maskTo p c < 2 ^ c := by
  induction c with
  | zero => simp [maskTo]
  | succ c ih =>
    have h2 : 2 ^ c < 2 ^ (c + 1) := Nat.pow_lt_pow_right (by decide) (by omega)
    have : maskTo p c < 2 ^ (c + 1) := by omega
    unfold maskTo
    apply Nat.or_lt_two_pow this
    split
    · exact h2
    · omega
theorem maskTo_lt (p : Nat → Bool) (c : Nat) (h : c ≤ 8) : maskTo p c < 256 := by
  have h1 := maskTo_lt_pow p c
  have : 2 ^ c ≤ 2 ^ 8 := Nat.pow_le_pow_right (by decide) h
  omega
theorem maskTo_bit (p : Nat → Bool) (c i : Nat) : (maskTo p c).testBit i = (decide (i < c) && p i) := by
  induction c with
  | zero => simp [maskTo]
  | succ c ih =>
    unfold maskTo
    rw [Nat.testBit_or, ih]
    by_cases hp : p c
    · simp only [hp, if_true, Nat.testBit_two_pow]
      by_cases hi : i = c
      · subst hi; simp [hp]
      · by_cases h2 : i < c
        · simp [h2, show i < c + 1 by omega]; intro h; omega
        · simp [h2, show ¬ i < c + 1 by omega]; omega
    · by_cases hi : i = c
      · subst hi; simp [hp]
      · by_cases h2 : i < c
        · simp [hp, h2, show i < c + 1 by omega]
        · simp [hp, h2, show ¬ i < c + 1 by omega]

theorem maskTo_le (p : Nat → Bool) (c : Nat) : maskTo p (c + 1) = maskTo p c + (if p c then 2 ^ c else 0) := by
  have h := maskTo_lt_pow p c
  show maskTo p c ||| (if p c then 2 ^ c else 0) = _
  split
  · rw [Nat.or_comm]
    have := Nat.two_pow_add_eq_or_of_lt h 1
    rw [Nat.mul_one] at this
    rw [← this, Nat.add_comm]
  · simp

theorem bit_any (a : Int) (h0 : 0 ≤ a) (h1 : a < 8) (w : World) :
    Calls Try.prog 42 #[.int .i64 a] w fun e w' => e = .returned (.int .u8 ((2 ^ a.toNat : Nat) : Int)) ∧ w = w' := by
  obtain ⟨n, rfl⟩ := Int.eq_ofNat_of_zero_le h0
  have : n = 0 ∨ n = 1 ∨ n = 2 ∨ n = 3 ∨ n = 4 ∨ n = 5 ∨ n = 6 ∨ n = 7 := by omega
  rcases this with rfl | rfl | rfl | rfl | rfl | rfl | rfl | rfl
  all_goals
    go_enter Try.func42, Try.ntmps42
    go_wp2
    go_ret
    exact ⟨ret_int (by decide), rfl⟩

theorem where_any (n : Int) (hn : n ≤ 9223372036854775807) (g : FuncId) (caps : Array Value) (hg : ∀ args w, (callFunc g args).run Try.prog w = .ok (.enter g args) w) (p : Nat → Bool) (J : Nat → World → Prop)
    (hf : ∀ c : Nat, c < 8 → (c : Int) < n → ∀ w, J c w → Calls Try.prog g (#[.int .i64 c] ++ caps) w fun e w' => e = .returned (.bool (p c)) ∧ J (c + 1) w') (w : World) (hJ : J 0 w) :
    Calls Try.prog 36 #[.int .i64 n, .func (.func g) #[] caps] w fun e w' => e = .returned (.int .u8 (maskTo p (min n.toNat 8))) ∧ J (min n.toNat 8) w' := by
  go_enter Try.func36, Try.ntmps36
  go_wp2_with fail
  go_loopw [5, 6] (fun s c wr => ∃ k : Nat, k ≤ 8 ∧ k ≤ n.toNat ∧ c = .int .i64 k ∧ s = .int .u8 (maskTo p k) ∧ J k wr) (fun _ c _ => 8 - (intOf c).toNat)
  case atStart => exact ⟨0, by omega, by omega, rfl, rfl, hJ⟩
  case round =>
    obtain ⟨k, hk8, hkn, rfl, rfl, hJk⟩ := hrel
    by_cases h1 : (k : Int) < n
    · by_cases h2 : k < 8
      · have hfk := hf k h2 h1 wr hJk
        clear hf
        rcases hp : p k with _ | _
        · rw [hp] at hfk
          have Hp := Aside.mk hp
          clear hp
          go_wp2_with fail
          refine hfk.mono ?_
          rintro e w1 ⟨rfl, hJ1⟩
          clear hfk
          go_wp2_with fail
          go_roundw
          case rel => exact ⟨k + 1, by omega, by omega, by go_num, by simp [maskTo, Hp.out], hJ1⟩
          case measure => simp [intOf]; omega
        · rw [hp] at hfk
          have Hp := Aside.mk hp
          clear hp
          go_wp2_with fail
          refine hfk.mono ?_
          rintro e w1 ⟨rfl, hJ1⟩
          clear hfk
          go_wp2_with (go_at_call 42; refine (bit_any k (by omega) (by omega) _).mono ?_; rintro e w' ⟨rfl, rfl⟩)
          go_roundw
          case rel =>
            refine ⟨k + 1, by omega, by omega, by go_num, ?_, hJ1⟩
            have hl := maskTo_lt p k hk8
            have h3 : 2 ^ k < 256 := Nat.lt_of_le_of_lt (Nat.pow_le_pow_right (by decide) (show k ≤ 7 by omega)) (by decide)
            rw [show ((2 : Int) ^ k) = ((2 ^ k : Nat) : Int) by simp, bits_or8 _ _ hl h3]
            simp [maskTo, Hp.out]
          case measure => simp [intOf]; omega
      · go_wp2_with fail
        go_ret
        have : k = 8 := by omega
        subst this
        rw [show min n.toNat 8 = 8 by omega]
        exact ⟨rfl, hJk⟩
    · go_wp2_with fail
      go_ret
      rw [show min n.toNat 8 = k by omega]
      exact ⟨rfl, hJk⟩

end Go.Proofs.Ytmfddaihepjfeaa
