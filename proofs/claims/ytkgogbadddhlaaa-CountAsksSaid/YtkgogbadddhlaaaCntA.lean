/- Layer 1's functions, and its reference's: each computes what the plain side says; no memory that was there is changed. -/
import Derived.Test.YtkgogbadddhlaaaProg
import Derived.Test.YtkgogbadddhlaaaCntS
namespace Go.Proofs.Ytkgogbadddhlaaa
open Go.RowKit
set_option linter.unusedVariables false
set_option linter.unusedSimpArgs false

def usedS (a b : Int) : Int := (b - a) % 4294967296
theorem usedS_range (a b : Int) : 0 ≤ usedS a b ∧ usedS a b < 4294967296 := by unfold usedS; omega

theorem used_any (a b : Int) (ha : 0 ≤ a) (ha' : a < 4294967296) (hb : 0 ≤ b) (hb' : b < 4294967296) (w : World) :
    Calls Try.prog 12 #[.int .u32 a, .int .u32 b] w fun e w' => e = .returned (.int .u32 (usedS a b)) ∧ w = w' := by
  go_enter Try.func12, Try.ntmps12
  go_wp2
  go_ret
  exact ⟨rfl, rfl⟩

theorem rused_any (a b : Int) (ha : 0 ≤ a) (ha' : a < 4294967296) (hb : 0 ≤ b) (hb' : b < 4294967296) (w : World) :
    Calls Try.prog 13 #[.int .u32 a, .int .u32 b] w fun e w' => e = .returned (.int .u32 (usedS a b)) ∧ w = w' := by
  by_cases h : a ≤ b
  · go_enter Try.func13, Try.ntmps13
    go_wp2
    go_ret
    exact ⟨ret_int (by unfold usedS; omega), rfl⟩
  · go_enter Try.func13, Try.ntmps13
    go_wp2
    go_ret
    exact ⟨ret_int (by unfold usedS; omega), rfl⟩

def beforeS (a b : Int) : Bool := decide (1 ≤ usedS a b) && decide (usedS a b ≤ 2147483647)

theorem before_any (a b : Int) (ha : 0 ≤ a) (ha' : a < 4294967296) (hb : 0 ≤ b) (hb' : b < 4294967296) (w : World) :
    Calls Try.prog 14 #[.int .u32 a, .int .u32 b] w fun e w' => e = .returned (.bool (beforeS a b)) ∧ w = w' := by
  go_enter Try.func14, Try.ntmps14
  go_wp2
  go_ret
  exact ⟨ret_bool (by
    have h := usedS_range a b
    unfold beforeS
    show decide (0 < wrap32 (usedS a b)) = _
    generalize usedS a b = u at *
    rw [← Bool.decide_and, decide_eq_decide]
    unfold wrap32
    omega), rfl⟩

theorem rbefore_any (a b : Int) (ha : 0 ≤ a) (ha' : a < 4294967296) (hb : 0 ≤ b) (hb' : b < 4294967296) (w : World) :
    Calls Try.prog 15 #[.int .u32 a, .int .u32 b] w fun e w' => e = .returned (.bool (beforeS a b)) ∧ w = w' := by
  have h1 := usedS_range a b
  by_cases h : 1 ≤ usedS a b
  · go_enter Try.func15, Try.ntmps15
    go_wp2_with (go_at_call 13; refine (rused_any _ _ ha ha' hb hb' _).mono ?_; rintro e w' ⟨rfl, rfl⟩)
    go_ret
    exact ⟨ret_bool (by simp [beforeS, h]), rfl⟩
  · go_enter Try.func15, Try.ntmps15
    go_wp2_with (go_at_call 13; refine (rused_any _ _ ha ha' hb hb' _).mono ?_; rintro e w' ⟨rfl, rfl⟩)
    go_ret
    exact ⟨ret_bool (by simp [beforeS]; omega), rfl⟩

theorem places_any (n : Int) (h0 : 0 ≤ n) (h1 : n < 4294967296) (w : World) :
    Calls Try.prog 32 #[.int .u32 n] w fun e w' => e = .returned (.bool (plB n)) ∧ w = w' := by
  by_cases h2 : 1 ≤ n
  · by_cases h3 : n ≤ 32768
    · go_enter Try.func32, Try.ntmps32
      go_wp2
      go_ret
      obtain ⟨m, rfl⟩ := Int.eq_ofNat_of_zero_le h0
      exact ⟨ret_bool (plB_and m (by omega) (by omega)), rfl⟩
    · have hp : plB n = false := by rw [Bool.eq_false_iff]; intro h; have := plB_range n h; omega
      go_enter Try.func32, Try.ntmps32
      go_wp2
      go_ret
      exact ⟨rfl, rfl⟩
  · have hp : plB n = false := by rw [Bool.eq_false_iff]; intro h; have := plB_range n h; omega
    go_enter Try.func32, Try.ntmps32
    go_wp2
    go_ret
    exact ⟨rfl, rfl⟩

theorem rplaces_any (n : Int) (h0 : 0 ≤ n) (h1 : n < 4294967296) (w : World) :
    Calls Try.prog 33 #[.int .u32 n] w fun e w' => e = .returned (.bool (plB n)) ∧ w = w' := by
  go_enter Try.func33, Try.ntmps33
  go_wp2
  go_loop [3] (fun p => ∃ (k : Nat) (m : Int), k ≤ 16 ∧ p = .int .u32 m ∧ Aside (m = ((2 ^ k : Nat) : Int)) ∧ ∀ j < k, n ≠ ((2 ^ j : Nat) : Int)) (fun p => 65537 - (intOf p).toNat)
  case atStart => exact ⟨0, 1, by omega, rfl, ⟨rfl⟩, by omega⟩
  case round =>
    obtain ⟨k, m, hk, rfl, hm, hne⟩ := hrel
    have hne' := Aside.mk hne
    clear hne
    by_cases hk16 : k < 16
    · have hm0 : 1 ≤ m ∧ m ≤ 32768 := by
        have x1 := Nat.two_pow_pos k
        have x2 : 2 ^ k ≤ 2 ^ 15 := Nat.pow_le_pow_right (by decide) (by omega)
        rw [hm.out]
        omega
      obtain ⟨hm1, hm2⟩ := hm0
      by_cases he : m = n
      · have hp : plB n = true := by
          have := (plB_iff (2 ^ k)).2 ⟨k, hk16, rfl⟩
          rw [← he, hm.out]
          exact this
        subst he
        go_wp2
        go_ret
        exact ⟨ret_bool rfl, rfl⟩
      · have he' := Aside.mk he
        have heb : (m == n) = false := beq_eq_false_iff_ne.2 he
        clear he
        go_wp2
        go_round
        case rel =>
          refine ⟨k + 1, m + m, by omega, rfl, ⟨?_⟩, ?_⟩
          · rw [hm.out, Nat.pow_succ]; omega
          · intro j hj
            by_cases e : j = k
            · subst e; rw [← hm.out]; exact fun h => he'.out h.symm
            · exact hne'.out j (by omega)
        case measure => simp [intOf]; omega
    · have hm1 : 65536 ≤ m := by
        have : k = 16 := by omega
        subst this
        rw [hm.out]
        decide
      have hp : plB n = false := by
        rw [Bool.eq_false_iff]
        intro h
        obtain ⟨j, hj, e⟩ := (plB_iff n.toNat).1 (by rw [Int.toNat_of_nonneg h0]; exact h)
        exact hne'.out j (by omega) (by omega)
      go_wp2
      go_ret
      exact ⟨ret_bool rfl, rfl⟩

def roomS (h t n : Int) : Int × Int := if plB n then (if n < usedS h t then (0, 11) else (n - usedS h t, 0)) else (0, 10)
def slotS (i n : Int) : Int × Int := if plB n then (i % n, 0) else (0, 10)

theorem room_any (h t n : Int) (h0 : 0 ≤ h) (h1 : h < 4294967296) (t0 : 0 ≤ t) (t1 : t < 4294967296) (n0 : 0 ≤ n) (n1 : n < 4294967296) (w : World) :
    Calls Try.prog 16 #[.int .u32 h, .int .u32 t, .int .u32 n] w fun e w' => e = .returned (.tuple #[.int .u32 (roomS h t n).1, .int .i64 (roomS h t n).2]) ∧ w = w' := by
  have hu := usedS_range h t
  cases hp : plB n
  · go_enter Try.func16, Try.ntmps16
    go_wp2_with (first | (go_at_call 12; refine (used_any _ _ h0 h1 t0 t1 _).mono ?_; rintro e w' ⟨rfl, rfl⟩) | (go_at_call 32; refine (places_any _ n0 n1 _).mono ?_; rintro e w' ⟨rfl, rfl⟩))
    go_ret2
    exact ⟨ret_ints (by simp [roomS, hp]) (by simp [roomS, hp]), rfl⟩
  · by_cases hl : n < usedS h t
    · go_enter Try.func16, Try.ntmps16
      go_wp2_with (first | (go_at_call 12; refine (used_any _ _ h0 h1 t0 t1 _).mono ?_; rintro e w' ⟨rfl, rfl⟩) | (go_at_call 32; refine (places_any _ n0 n1 _).mono ?_; rintro e w' ⟨rfl, rfl⟩))
      go_ret2
      exact ⟨ret_ints (by simp only [roomS, hp, if_true]; first | rw [if_pos hl] | rw [if_neg (Int.not_lt.2 hl)]) (by simp only [roomS, hp, if_true]; first | rw [if_pos hl] | rw [if_neg (Int.not_lt.2 hl)]), rfl⟩
    · go_enter Try.func16, Try.ntmps16
      go_wp2_with (first | (go_at_call 12; refine (used_any _ _ h0 h1 t0 t1 _).mono ?_; rintro e w' ⟨rfl, rfl⟩) | (go_at_call 32; refine (places_any _ n0 n1 _).mono ?_; rintro e w' ⟨rfl, rfl⟩))
      go_ret2
      exact ⟨ret_ints (by simp only [roomS, hp, if_true]; first | rw [if_pos hl] | rw [if_neg (Int.not_lt.2 hl)]) (by simp only [roomS, hp, if_true]; first | rw [if_pos hl] | rw [if_neg (Int.not_lt.2 hl)]), rfl⟩

theorem rroom_any (h t n : Int) (h0 : 0 ≤ h) (h1 : h < 4294967296) (t0 : 0 ≤ t) (t1 : t < 4294967296) (n0 : 0 ≤ n) (n1 : n < 4294967296) (w : World) :
    Calls Try.prog 17 #[.int .u32 h, .int .u32 t, .int .u32 n] w fun e w' => e = .returned (.tuple #[.int .u32 (roomS h t n).1, .int .i64 (roomS h t n).2]) ∧ w = w' := by
  have hu := usedS_range h t
  cases hp : plB n
  · go_enter Try.func17, Try.ntmps17
    go_wp2_with (first | (go_at_call 13; refine (rused_any _ _ h0 h1 t0 t1 _).mono ?_; rintro e w' ⟨rfl, rfl⟩) | (go_at_call 33; refine (rplaces_any _ n0 n1 _).mono ?_; rintro e w' ⟨rfl, rfl⟩))
    go_ret2
    exact ⟨ret_ints (by simp [roomS, hp]) (by simp [roomS, hp]), rfl⟩
  · by_cases hl : n < usedS h t
    · go_enter Try.func17, Try.ntmps17
      go_wp2_with (first | (go_at_call 13; refine (rused_any _ _ h0 h1 t0 t1 _).mono ?_; rintro e w' ⟨rfl, rfl⟩) | (go_at_call 33; refine (rplaces_any _ n0 n1 _).mono ?_; rintro e w' ⟨rfl, rfl⟩))
      go_ret2
      exact ⟨ret_ints (by simp only [roomS, hp, if_true]; first | rw [if_pos hl] | rw [if_neg (Int.not_lt.2 hl)]) (by simp only [roomS, hp, if_true]; first | rw [if_pos hl] | rw [if_neg (Int.not_lt.2 hl)]), rfl⟩
    · go_enter Try.func17, Try.ntmps17
      go_wp2_with (first | (go_at_call 13; refine (rused_any _ _ h0 h1 t0 t1 _).mono ?_; rintro e w' ⟨rfl, rfl⟩) | (go_at_call 33; refine (rplaces_any _ n0 n1 _).mono ?_; rintro e w' ⟨rfl, rfl⟩))
      go_ret2
      exact ⟨ret_ints (by simp only [roomS, hp, if_true]; first | rw [if_pos hl] | rw [if_neg (Int.not_lt.2 hl)]) (by simp only [roomS, hp, if_true]; first | rw [if_pos hl] | rw [if_neg (Int.not_lt.2 hl)]), rfl⟩

theorem slot_any (i n : Int) (i0 : 0 ≤ i) (i1 : i < 4294967296) (n0 : 0 ≤ n) (n1 : n < 4294967296) (w : World) :
    Calls Try.prog 18 #[.int .u32 i, .int .u32 n] w fun e w' => e = .returned (.tuple #[.int .u32 (slotS i n).1, .int .i64 (slotS i n).2]) ∧ w = w' := by
  cases hp : plB n
  · go_enter Try.func18, Try.ntmps18
    go_wp2_with (go_at_call 32; refine (places_any _ n0 n1 _).mono ?_; rintro e w' ⟨rfl, rfl⟩)
    go_ret2
    exact ⟨ret_ints (by simp [slotS, hp]) (by simp [slotS, hp]), rfl⟩
  · have hn := plB_range n hp
    go_enter Try.func18, Try.ntmps18
    go_wp2_with (go_at_call 32; refine (places_any _ n0 n1 _).mono ?_; rintro e w' ⟨rfl, rfl⟩)
    go_ret2
    obtain ⟨a, rfl⟩ := Int.eq_ofNat_of_zero_le i0
    obtain ⟨b, rfl⟩ := Int.eq_ofNat_of_zero_le n0
    exact ⟨ret_ints (by simp only [slotS, hp, if_true]; rw [slot_and a b (by omega) hp]; simp) (by simp [slotS, hp]), rfl⟩

theorem rslot_any (i n : Int) (i0 : 0 ≤ i) (i1 : i < 4294967296) (n0 : 0 ≤ n) (n1 : n < 4294967296) (w : World) :
    Calls Try.prog 19 #[.int .u32 i, .int .u32 n] w fun e w' => e = .returned (.tuple #[.int .u32 (slotS i n).1, .int .i64 (slotS i n).2]) ∧ w = w' := by
  cases hp : plB n
  · go_enter Try.func19, Try.ntmps19
    go_wp2_with (go_at_call 33; refine (rplaces_any _ n0 n1 _).mono ?_; rintro e w' ⟨rfl, rfl⟩)
    go_ret2
    exact ⟨ret_ints (by simp [slotS, hp]) (by simp [slotS, hp]), rfl⟩
  · have hn := plB_range n hp
    go_enter Try.func19, Try.ntmps19
    go_wp2_with (go_at_call 33; refine (rplaces_any _ n0 n1 _).mono ?_; rintro e w' ⟨rfl, rfl⟩)
    go_ret2
    exact ⟨ret_ints (by simp [slotS, hp]) (by simp [slotS, hp]), rfl⟩
end Go.Proofs.Ytkgogbadddhlaaa
