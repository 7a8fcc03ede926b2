/- Layer 7: the reference's functions, and the laws' own. -/
import Derived.Test.YtbllkbcaapeajaaDoorMemB
import Derived.StillTailTactics
namespace Go.Proofs.YtbllkbcaapeajaaDoor
open Go.RowKit
set_option linter.unusedVariables false
set_option linter.unusedSimpArgs false

theorem or_step (A B k : Nat) : (A ||| B) % 2 ^ (k + 1) = (A ||| B) % 2 ^ k + (if A / 2 ^ k % 2 = 1 ∨ B / 2 ^ k % 2 = 1 then 2 ^ k else 0) := by
  rw [Nat.mod_pow_succ]
  congr 1
  have h : (A ||| B) / 2 ^ k % 2 = if A / 2 ^ k % 2 = 1 ∨ B / 2 ^ k % 2 = 1 then 1 else 0 := by
    have h1 := Nat.testBit_or A B k
    simp only [Nat.testBit_eq_decide_div_mod_eq] at h1
    have h2 : (A ||| B) / 2 ^ k % 2 = 0 ∨ (A ||| B) / 2 ^ k % 2 = 1 := by omega
    rcases h2 with h2 | h2
    · rw [h2] at h1 ⊢
      simp at h1
      rw [if_neg (by omega)]
    · rw [h2] at h1 ⊢
      simp at h1
      rw [if_pos h1]
  rw [h]
  split <;> simp

set_option maxHeartbeats 800000 in
set_option maxRecDepth 100000 in
theorem ror_any (a b : Int) (a0 : 0 ≤ a) (a1 : a < 4294967296) (b0 : 0 ≤ b) (b1 : b < 4294967296) (w : World) :
    Calls Tryd.prog 25 #[.int .u32 a, .int .u32 b] w fun e w' => e = .returned (.int .u32 (Go.bits .or .u32 a b)) ∧ w = w' := by
  obtain ⟨A, HA⟩ : ∃ A : Nat, Aside (a = (A : Int) ∧ A < 4294967296) := ⟨a.toNat, ⟨by omega, by omega⟩⟩
  obtain ⟨B, HB⟩ : ∃ B : Nat, Aside (b = (B : Int) ∧ B < 4294967296) := ⟨b.toNat, ⟨by omega, by omega⟩⟩
  go_enter Tryd.func25, Tryd.ntmps25
  go_wp2_with fail
  go_loop [0, 1, 5, 6, 7] (fun x y n p i => ∃ (k : Nat) (x' y' n' p' : Int), k ≤ 32 ∧ i = .int .i64 k ∧ x = .int .u32 x' ∧ y = .int .u32 y' ∧ n = .int .u32 n' ∧ p = .int .u32 p' ∧ 0 ≤ x' ∧ x' < 4294967296 ∧ 0 ≤ y' ∧ y' < 4294967296 ∧ 0 ≤ n' ∧ n' < 4294967296 ∧ 0 ≤ p' ∧ p' < 4294967296 ∧ Aside (x' = ((A / 2 ^ k : Nat) : Int) ∧ y' = ((B / 2 ^ k : Nat) : Int) ∧ n' = (((A ||| B) % 2 ^ k : Nat) : Int) ∧ (k < 32 → p' = ((2 ^ k : Nat) : Int)))) (fun _ _ _ _ i => 32 - (intOf i).toNat)
  case atStart => exact ⟨0, _, _, _, _, by omega, rfl, rfl, rfl, rfl, rfl, by omega, by omega, by omega, by omega, by omega, by omega, by omega, by omega, ⟨by simpa using HA.out.1, by simpa using HB.out.1, by simp [Nat.mod_one], fun _ => rfl⟩⟩
  case round =>
    obtain ⟨k, x, y, n, p, hk, rfl, rfl, rfl, rfl, rfl, x0, x1, y0, y1, n0, n1, p0, p1, H⟩ := hrel
    by_cases hlt : k < 32
    · have hor : A ||| B < 2 ^ 32 := Nat.or_lt_two_pow HA.out.2 HB.out.2
      have hs := or_step A B k
      have hp : 2 ^ k ≤ 2 ^ 31 := Nat.pow_le_pow_right (by decide) (by omega)
      have hm1 : (A ||| B) % 2 ^ k < 2 ^ k := Nat.mod_lt _ (Nat.two_pow_pos k)
      have hm2 : (A ||| B) % 2 ^ (k + 1) < 4294967296 := by
        have : (A ||| B) % 2 ^ (k + 1) ≤ A ||| B := Nat.mod_le _ _
        omega
      have hpp : k + 1 < 32 → 2 ^ (k + 1) = 2 ^ k + 2 ^ k ∧ 2 ^ k ≤ 2 ^ 30 := fun _ => ⟨by rw [Nat.pow_succ]; omega, Nat.pow_le_pow_right (by decide) (by omega)⟩
      have hd1 : A / 2 ^ (k + 1) = A / 2 ^ k / 2 := by rw [Nat.pow_succ, Nat.div_div_eq_div_mul]
      have hd2 : B / 2 ^ (k + 1) = B / 2 ^ k / 2 := by rw [Nat.pow_succ, Nat.div_div_eq_div_mul]
      have h1 := H.out.1
      have h2 := H.out.2.1
      have h3 := H.out.2.2.1
      have h4 := H.out.2.2.2 hlt
      have hP : p ≤ 2147483648 := by omega
      have hN : n < 2147483648 := by omega
      have Hs := Aside.mk (And.intro hs (And.intro hm2 (And.intro hpp (And.intro hd1 (And.intro hd2 (And.intro h1 (And.intro h2 (And.intro h3 h4))))))))
      clear hs hm2 hpp hd1 hd2 h1 h2 h3 h4 hor hp hm1
      by_cases hx : x % 2 = 1
      · have hxb : (x % 2 == 1) = true := beq_iff_eq.2 hx
        have Hx := Aside.mk hx
        clear hx
        go_wp2_with fail
        go_round
        case rel =>
          obtain ⟨hs, hm2, hpp, hd1, hd2, h1, h2, h3, h4⟩ := Hs.out
          have hx := Hx.out
          rw [if_pos (by omega)] at hs
          exact ⟨k + 1, _, _, _, _, by omega, by go_num, rfl, rfl, rfl, rfl, by omega, by omega, by omega, by omega, by omega, by omega, by omega, by omega, ⟨by omega, by omega, by omega, fun h => by have := hpp h; omega⟩⟩
        case measure => simp [intOf]; omega
      · have hxb : (x % 2 == 1) = false := beq_eq_false_iff_ne.2 hx
        have Hx := Aside.mk hx
        clear hx
        by_cases hy : y % 2 = 1
        · have hyb : (y % 2 == 1) = true := beq_iff_eq.2 hy
          have Hy := Aside.mk hy
          clear hy
          go_wp2_with fail
          go_round
          case rel =>
            obtain ⟨hs, hm2, hpp, hd1, hd2, h1, h2, h3, h4⟩ := Hs.out
            have hy := Hy.out
            rw [if_pos (by omega)] at hs
            exact ⟨k + 1, _, _, _, _, by omega, by go_num, rfl, rfl, rfl, rfl, by omega, by omega, by omega, by omega, by omega, by omega, by omega, by omega, ⟨by omega, by omega, by omega, fun h => by have := hpp h; omega⟩⟩
          case measure => simp [intOf]; omega
        · have hyb : (y % 2 == 1) = false := beq_eq_false_iff_ne.2 hy
          have Hy := Aside.mk hy
          clear hy
          go_wp2_with fail
          go_round
          case rel =>
            obtain ⟨hs, hm2, hpp, hd1, hd2, h1, h2, h3, h4⟩ := Hs.out
            have hy := Hy.out
            have hx := Hx.out
            rw [if_neg (by omega)] at hs
            exact ⟨k + 1, _, _, _, _, by omega, by go_num, rfl, rfl, rfl, rfl, by omega, by omega, by omega, by omega, by omega, by omega, by omega, by omega, ⟨by omega, by omega, by omega, fun h => by have := hpp h; omega⟩⟩
          case measure => simp [intOf]; omega
    · have e : k = 32 := by omega
      subst e
      go_wp2_with fail
      go_ret
      refine ⟨ret_int ?_, rfl⟩
      rw [HA.out.1, HB.out.1, bits_or32 A B HA.out.2 HB.out.2, H.out.2.2.1]
      have hor : A ||| B < 2 ^ 32 := Nat.or_lt_two_pow HA.out.2 HB.out.2
      rw [Nat.mod_eq_of_lt hor]

def kindS (k : Int) : Int := if k < 0 ∨ 4 < k then 5 else k
theorem below_two (w : World) (x y : Obj) : Below w.heap.size w ((w.alloc x).alloc y) := ((Below.refl _ _).alloc (Nat.le_refl _) _).alloc (by simp) _
theorem use_any (k at_ o v : Int) (w : World) :
    Calls Tryd.prog 11 #[.agg #[.int .i64 k, .int .i64 at_, .int .u32 o, .int .u32 v]] w fun e w' => e = .returned (.agg #[.int .i64 (kindS k), .int .i64 at_, .int .u32 o, .int .u32 v]) ∧ Below w.heap.size w w' := by
  by_cases h0 : k < 0
  · go_enter Tryd.func11, Tryd.ntmps11
    go_wp2_with fail
    exact bodyPost_ret (v := .agg #[.int .i64 (kindS k), .int .i64 at_, .int .u32 o, .int .u32 v]) (by simp [results, Tryd.results11, go_sem, kindS, h0]) rfl ⟨rfl, below_two _ _ _⟩
  · by_cases h4 : 4 < k
    · go_enter Tryd.func11, Tryd.ntmps11
      go_wp2_with fail
      exact bodyPost_ret (v := .agg #[.int .i64 (kindS k), .int .i64 at_, .int .u32 o, .int .u32 v]) (by simp [results, Tryd.results11, go_sem, kindS, h4]) rfl ⟨rfl, below_two _ _ _⟩
    · go_enter Tryd.func11, Tryd.ntmps11
      go_wp2_with fail
      exact bodyPost_ret (v := .agg #[.int .i64 (kindS k), .int .i64 at_, .int .u32 o, .int .u32 v]) (by simp [results, Tryd.results11, go_sem, kindS]; omega) rfl ⟨rfl, below_two _ _ _⟩

def ansS (k o y : Int) : Int := if k = 1 then 0 else if k = 2 then (if y = o then 1 else 0) else y
def newS (k o v y : Int) : Int := if k = 0 then y else if k = 1 then v else if k = 2 then (if y = o then v else y) else if k = 3 then (y + v) % 4294967296 else if k = 4 then Go.bits .or .u32 y v else 0
theorem newS_range (k o v y : Int) (v0 : 0 ≤ v) (v1 : v < 4294967296) (y0 : 0 ≤ y) (y1 : y < 4294967296) : 0 ≤ newS k o v y ∧ newS k o v y < 4294967296 := by
  have := bits_range .or y v (.inr rfl) y0 y1 v0 v1
  unfold newS
  repeat' split
  all_goals omega

section
variable (w : World) (B G : Nat) (L : List Int) (c : Int) (n : Nat) (hM : MemAt w B G L c) (hl : Look w) (hn : n < L.length) (y : Int) (Hy : Aside (L.getD n 0 = y)) (hc0 : 0 ≤ c) (hc1 : c < 4611686018427387904) (hB : 0 ≠ B) (hG : 0 ≠ G)
  (k v o : Int) (hk : 0 ≤ k ∧ k ≤ 5) (v0 : 0 ≤ v) (v1 : v < 4294967296) (o0 : 0 ≤ o) (o1 : o < 4294967296)
include hM hl hn Hy hc0 hc1 hB hG hk v0 v1 o0 o1
theorem does_yes : Calls Tryd.prog 12 #[.pointer (some ⟨B, 0, none⟩), .agg #[.int .i64 k, .int .i64 n, .int .u32 o, .int .u32 v]] w fun e w' => e = .returned (.tuple #[.int .u32 (ansS k o y), .int .i64 0]) ∧ MemAt w' B G (L.set n (newS k o v y)) (c + 1) ∧ Kept (fun k => k = B ∨ k = G) w w' := by
  have hb : ∀ x : Obj, Below w.heap.size w (w.alloc x) := fun x => (Below.refl _ _).alloc (Nat.le_refl _) x
  have hkk : k = 0 ∨ k = 1 ∨ k = 2 ∨ k = 3 ∨ k = 4 ∨ k = 5 := by omega
  rcases hkk with rfl | rfl | rfl | rfl | rfl | rfl
  · have Hd := Aside.mk (fun x => load_yes (w.alloc x) B G L c n (hM.below (hb x)) (hl.below (hb x)) hn y Hy hc0 hc1 hB hG)
    go_enter Tryd.func12, Tryd.ntmps12
    go_wp2_with fail
    refine (Hd.out _).mono ?_
    rintro e w' ⟨rfl, h1, h2⟩
    go_wp2_with fail
    go_ret2
    exact ⟨rfl, by simpa [newS, set_same L n hn Hy] using h1, (Kept.of_below (hb _)).trans h2⟩
  · have Hd := Aside.mk (fun x => store_yes (w.alloc x) B G L c n (hM.below (hb x)) (hl.below (hb x)) hn y Hy hc0 hc1 hB hG v v0 v1)
    go_enter Tryd.func12, Tryd.ntmps12
    go_wp2_with fail
    refine (Hd.out _).mono ?_
    rintro e w' ⟨rfl, h1, h2⟩
    go_wp2_with fail
    go_ret2
    exact ⟨rfl, by simpa [newS] using h1, (Kept.of_below (hb _)).trans h2⟩
  · have hd := fun x => swap_yes (w.alloc x) B G L c n (hM.below (hb x)) (hl.below (hb x)) hn y Hy hc0 hc1 hB hG v v0 v1 o o0 o1
    by_cases hyo : y = o
    · simp only [hyo, beq_self_eq_true, if_true] at hd
      have Hd := Aside.mk hd
      have Hyo := Aside.mk hyo
      clear hd hyo
      go_enter Tryd.func12, Tryd.ntmps12
      go_wp2_with fail
      refine (Hd.out _).mono ?_
      rintro e w' ⟨rfl, h1, h2⟩
      go_wp2_with fail
      go_ret2
      exact ⟨by simp [ansS, Hyo.out], by simpa [newS, Hyo.out] using h1, (Kept.of_below (hb _)).trans h2⟩
    · have hyb : (y == o) = false := beq_eq_false_iff_ne.2 hyo
      simp only [hyb, if_neg hyo] at hd
      have Hd := Aside.mk hd
      have Hyo := Aside.mk hyo
      clear hd hyo hyb
      go_enter Tryd.func12, Tryd.ntmps12
      go_wp2_with fail
      refine (Hd.out _).mono ?_
      rintro e w' ⟨rfl, h1, h2⟩
      go_wp2_with fail
      go_ret2
      exact ⟨by simp [ansS, Hyo.out], by simpa [newS, Hyo.out, set_same L n hn Hy] using h1, (Kept.of_below (hb _)).trans h2⟩
  · have Hd := Aside.mk (fun x => add_yes (w.alloc x) B G L c n (hM.below (hb x)) (hl.below (hb x)) hn y Hy hc0 hc1 hB hG v v0 v1)
    go_enter Tryd.func12, Tryd.ntmps12
    go_wp2_with fail
    refine (Hd.out _).mono ?_
    rintro e w' ⟨rfl, h1, h2⟩
    go_wp2_with fail
    go_ret2
    exact ⟨rfl, by simpa [newS] using h1, (Kept.of_below (hb _)).trans h2⟩
  · have Hd := Aside.mk (fun x => or_yes (w.alloc x) B G L c n (hM.below (hb x)) (hl.below (hb x)) hn y Hy hc0 hc1 hB hG v v0 v1)
    go_enter Tryd.func12, Tryd.ntmps12
    go_wp2_with fail
    refine (Hd.out _).mono ?_
    rintro e w' ⟨rfl, h1, h2⟩
    go_wp2_with fail
    go_ret2
    exact ⟨rfl, by simpa [newS] using h1, (Kept.of_below (hb _)).trans h2⟩
  · have Hd := Aside.mk (fun x => take_yes (w.alloc x) B G L c n (hM.below (hb x)) (hl.below (hb x)) hn y Hy hc0 hc1 hB hG)
    go_enter Tryd.func12, Tryd.ntmps12
    go_wp2_with fail
    refine (Hd.out _).mono ?_
    rintro e w' ⟨rfl, h1, h2⟩
    go_wp2_with fail
    go_ret2
    exact ⟨rfl, by simpa [newS] using h1, (Kept.of_below (hb _)).trans h2⟩
end

theorem does_no (w : World) (B G : Nat) (L : List Int) (c at_ : Int) (hM : MemAt w B G L c) (hl : Look w) (h : at_ < 0 ∨ (L.length : Int) ≤ at_) (k v o : Int) (hk : 0 ≤ k ∧ k ≤ 5) :
    Calls Tryd.prog 12 #[.pointer (some ⟨B, 0, none⟩), .agg #[.int .i64 k, .int .i64 at_, .int .u32 o, .int .u32 v]] w fun e w' => e = .returned (.tuple #[.int .u32 0, .int .i64 81]) ∧ Below w.heap.size w w' := by
  have hb0 : ∀ x : Obj, Below w.heap.size w (w.alloc x) := fun x => (Below.refl _ _).alloc (Nat.le_refl _) x
  have h0 := Aside.mk (fun x => load_no (w.alloc x) B G L c at_ (hM.below (hb0 x)) (hl.below (hb0 x)) h)
  have h1 := Aside.mk (fun x => store_no (w.alloc x) B G L c at_ (hM.below (hb0 x)) (hl.below (hb0 x)) h v)
  have h2 := Aside.mk (fun x => swap_no (w.alloc x) B G L c at_ (hM.below (hb0 x)) (hl.below (hb0 x)) h v o)
  have h3 := Aside.mk (fun x => add_no (w.alloc x) B G L c at_ (hM.below (hb0 x)) (hl.below (hb0 x)) h v)
  have h4 := Aside.mk (fun x => or_no (w.alloc x) B G L c at_ (hM.below (hb0 x)) (hl.below (hb0 x)) h v)
  have h5 := Aside.mk (fun x => take_no (w.alloc x) B G L c at_ (hM.below (hb0 x)) (hl.below (hb0 x)) h)
  have hkk : k = 0 ∨ k = 1 ∨ k = 2 ∨ k = 3 ∨ k = 4 ∨ k = 5 := by omega
  clear h
  rcases hkk with rfl | rfl | rfl | rfl | rfl | rfl
  all_goals
    go_enter Tryd.func12, Tryd.ntmps12
    go_wp2_with (first | (go_at_call 19; refine (h0.out _).mono ?_; rintro e w' ⟨rfl, hb⟩) | (go_at_call 17; refine (h1.out _).mono ?_; rintro e w' ⟨rfl, hb⟩) | (go_at_call 18; refine (h2.out _).mono ?_; rintro e w' ⟨rfl, hb⟩) | (go_at_call 20; refine (h3.out _).mono ?_; rintro e w' ⟨rfl, hb⟩) | (go_at_call 21; refine (h4.out _).mono ?_; rintro e w' ⟨rfl, hb⟩) | (go_at_call 22; refine (h5.out _).mono ?_; rintro e w' ⟨rfl, hb⟩))
    go_ret2
    exact ⟨rfl, below_then (hb0 _) hb⟩
end Go.Proofs.YtbllkbcaapeajaaDoor
