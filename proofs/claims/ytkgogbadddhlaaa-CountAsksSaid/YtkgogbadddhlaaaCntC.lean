/- Layer 1: the set of some cores, and whether two lists of numbers are the same; the reference's. No memory that was there is changed. -/
import Derived.Test.YtkgogbadddhlaaaCntB
namespace Go.Proofs.Ytkgogbadddhlaaa
open Go.RowKit
set_option linter.unusedVariables false
set_option linter.unusedSimpArgs false

def setS (l : List Int) : Int × Int := if allCores l then ((maskOf l : Nat), 0) else (0, 12)

theorem allCores_split (l : List Int) (k : Nat) (hk : k < l.length) (h : ¬ (0 ≤ l.getD k 0 ∧ l.getD k 0 < 8)) : allCores l = false := by
  rw [Bool.eq_false_iff]
  intro ha
  have := (List.all_eq_true.1 ha) (l.getD k 0) (by rw [List.getD_eq_getElem?_getD, List.getElem?_eq_getElem hk]; simp)
  simp at this
  exact h this
theorem allCores_all (l : List Int) (h : ∀ j < l.length, 0 ≤ l.getD j 0 ∧ l.getD j 0 < 8) : allCores l = true := by
  apply List.all_eq_true.2
  intro x hx
  obtain ⟨j, hj, rfl⟩ := List.mem_iff_getElem.1 hx
  have := h j hj
  rw [List.getD_eq_getElem?_getD, List.getElem?_eq_getElem hj] at this
  simpa using this
theorem maskOf_snoc (l : List Int) (n : Nat) (hn : n < 8) : maskOf (l ++ [(n : Int)]) = maskOf l ||| 2 ^ n := by
  apply Nat.eq_of_testBit_eq
  intro i
  rw [Nat.testBit_or, maskOf, maskOf, maskTo_bit, maskTo_bit, Nat.testBit_two_pow]
  by_cases hi : i < 8
  · by_cases e : n = i
    · subst e; simp [hi]
    · have : ¬ (i : Int) = (n : Int) := by omega
      simp [hi, e, this]
  · have : ¬ n = i := by omega
    simp [hi, this]
theorem maskOf_nil : maskOf [] = 0 := by decide
theorem maskOf_lt (l : List Int) : maskOf l < 256 := maskTo_lt _ 8 (by omega)
theorem take_snoc' (l : List Int) (k : Nat) (hk : k < l.length) : l.take (k + 1) = l.take k ++ [l.getD k 0] := by
  rw [List.take_succ_eq_append_getElem hk, List.getD_eq_getElem?_getD, List.getElem?_eq_getElem hk]
  rfl

theorem of_any (w : World) (v : Value) (l : List Int) (hv : Ints w .i64 v l) :
    Calls Try.prog 20 #[v] w fun e w' => e = .returned (.tuple #[.int .u8 (setS l).1, .int .i64 (setS l).2]) ∧ w = w' := by
  obtain ⟨A, c, rfl, hm, hc⟩ := hv
  have Hc := Aside.mk hc
  clear hc
  go_enter Try.func20, Try.ntmps20
  go_wp2_with fail
  go_loop [4, 9] (fun s i => ∃ k : Nat, k ≤ l.length ∧ i = .int .i64 k ∧ s = .int .u8 ((maskOf (l.take k) : Nat) : Int) ∧ Aside (∀ j < k, 0 ≤ l.getD j 0 ∧ l.getD j 0 < 8)) (fun _ i => l.length - (intOf i).toNat)
  case atStart => exact ⟨0, by omega, rfl, by simp [maskOf_nil], ⟨by omega⟩⟩
  case round =>
    obtain ⟨k, hk, rfl, rfl, hall⟩ := hrel
    by_cases hlt : k < l.length
    · obtain ⟨ad, rfl, hcells⟩ := Hc.out (by omega)
      have hck := hcells k hlt
      have hi := is_any (l.getD k 0) w
      obtain ⟨x, Hx⟩ : ∃ x, Aside (l.getD k 0 = x) := ⟨_, ⟨rfl⟩⟩
      rw [Hx.out] at hck hi
      by_cases hin : 0 ≤ x ∧ x < 8
      · rw [show (decide (0 ≤ x) && decide (x < 8)) = true by simp [hin.1, hin.2]] at hi
        have Hi := Aside.mk hi
        have hx0 := hin.1
        have hx1 := hin.2
        clear hi hin hcells
        go_wp2_with (first | (go_at_call 34; refine Hi.out.mono ?_; rintro e w' ⟨rfl, rfl⟩) | (go_at_call 35; refine (bit_any _ hx0 hx1 _).mono ?_; rintro e w' ⟨rfl, rfl⟩))
        go_round
        case rel =>
          refine ⟨k + 1, by omega, by go_num, ?_, ⟨?_⟩⟩
          · obtain ⟨n, rfl⟩ := Int.eq_ofNat_of_zero_le hx0
            have h3 : 2 ^ n < 256 := Nat.lt_of_le_of_lt (Nat.pow_le_pow_right (by decide) (show n ≤ 7 by omega)) (by decide)
            rw [take_snoc' l k hlt, Hx.out, maskOf_snoc _ n (by omega)]
            simp only [Int.toNat_natCast]
            rw [show ((2 : Int) ^ n) = ((2 ^ n : Nat) : Int) by simp, bits_or8 _ _ (maskOf_lt _) h3]
          · intro j hj
            by_cases e : j = k
            · subst e; rw [Hx.out]; exact ⟨hx0, hx1⟩
            · exact hall.out j (by omega)
        case measure => simp [intOf]; omega
      · rw [show (decide (0 ≤ x) && decide (x < 8)) = false by simp; omega] at hi
        have Hi := Aside.mk hi
        have Hin := Aside.mk hin
        clear hi hin hcells
        go_wp2_with (go_at_call 34; refine Hi.out.mono ?_; rintro e w' ⟨rfl, rfl⟩)
        go_ret2
        have ha := allCores_split l k hlt (by rw [Hx.out]; exact Hin.out)
        exact ⟨ret_ints (by simp [setS, ha]) (by simp [setS, ha]), rfl⟩
    · have e : k = l.length := by omega
      subst e
      go_wp2_with fail
      go_ret2
      have ha := allCores_all l hall.out
      exact ⟨ret_ints (by simp [setS, ha]) (by simp [setS, ha]), rfl⟩

theorem maskTo_le (p : Nat → Bool) (c : Nat) : maskTo p (c + 1) = maskTo p c + (if p c then 2 ^ c else 0) := by
  have h := maskTo_lt_pow p c
  show maskTo p c ||| (if p c then 2 ^ c else 0) = _
  split
  · rw [Nat.or_comm]
    have := Nat.two_pow_add_eq_or_of_lt h 1
    rw [Nat.mul_one] at this
    rw [← this, Nat.add_comm]
  · simp
theorem contains_at (l : List Int) (k : Nat) (hk : k < l.length) : l.contains (l.getD k 0) = true := by
  rw [List.getD_eq_getElem?_getD, List.getElem?_eq_getElem hk]
  simp
theorem contains_none (l : List Int) (x : Int) (h : ∀ j < l.length, l.getD j 0 ≠ x) : l.contains x = false := by
  rw [Bool.eq_false_iff]
  intro hc
  have hm : x ∈ l := by simpa using hc
  obtain ⟨j, hj, e⟩ := List.mem_iff_getElem.1 hm
  apply h j hj
  rw [List.getD_eq_getElem?_getD, List.getElem?_eq_getElem hj]
  simpa using e

set_option maxHeartbeats 800000 in
theorem rof_any (w : World) (v : Value) (l : List Int) (hv : Ints w .i64 v l) :
    Calls Try.prog 21 #[v] w fun e w' => e = .returned (.tuple #[.int .u8 (setS l).1, .int .i64 (setS l).2]) ∧ w = w' := by
  obtain ⟨A, c, rfl, hm, hc⟩ := hv
  have Hc := Aside.mk hc
  clear hc
  obtain ⟨q, Hq⟩ : ∃ q : Nat → Bool, Aside (q = fun i : Nat => l.contains (i : Int)) := ⟨_, ⟨rfl⟩⟩
  go_enter Try.func21, Try.ntmps21
  go_wp2_with fail
  go_loop [4, 5, 6] (fun n p i => ∃ (k : Nat) (m r : Int), k ≤ 8 ∧ i = .int .i64 k ∧ n = .int .i64 m ∧ p = .int .i64 r ∧ 0 ≤ m ∧ m < 256 ∧ 0 ≤ r ∧ r ≤ 256 ∧ Aside (m = ((maskTo q k : Nat) : Int) ∧ r = ((2 ^ k : Nat) : Int))) (fun _ _ i => 8 - (intOf i).toNat)
  case atStart => exact ⟨0, 0, 1, by omega, rfl, rfl, rfl, by omega, by omega, by omega, by omega, ⟨rfl, rfl⟩⟩
  case round =>
    obtain ⟨k, m, r, hk, rfl, rfl, rfl, hm0, hm1, hr0, hr1, hmr⟩ := hrel
    by_cases hk8 : k < 8
    · go_wp2_with fail
      go_loop [4, 7] (fun n i => ∃ j : Nat, j ≤ l.length ∧ n = .int .i64 m ∧ i = .int .i64 j ∧ Aside (∀ t < j, l.getD t 0 ≠ (k : Int))) (fun _ i => l.length - (intOf i).toNat)
      case atStart => exact ⟨0, by omega, rfl, rfl, ⟨by omega⟩⟩
      case round =>
        obtain ⟨j, hj, rfl, rfl, hnone⟩ := hrel
        by_cases hlt : j < l.length
        · obtain ⟨ad, rfl, hcells⟩ := Hc.out (by omega)
          have hck := hcells j hlt
          obtain ⟨x, Hx⟩ : ∃ x, Aside (l.getD j 0 = x) := ⟨_, ⟨rfl⟩⟩
          rw [Hx.out] at hck
          clear hcells
          by_cases hx : x = (k : Int)
          · have hxb : (x == (k : Int)) = true := beq_iff_eq.2 hx
            have Hxk := Aside.mk hx
            clear hx
            go_wp2_with fail
            go_round
            case rel =>
              have hq : q k = true := by
                rw [Hq.out]
                show l.contains (k : Int) = true
                rw [← Hxk.out, ← Hx.out]
                exact contains_at l j hlt
              have hp : 2 ^ k ≤ 2 ^ 7 := Nat.pow_le_pow_right (by decide) (show k ≤ 7 by omega)
              have hml := maskTo_lt_pow q (k + 1)
              have hp8 : 2 ^ (k + 1) ≤ 2 ^ 8 := Nat.pow_le_pow_right (by decide) (show k + 1 ≤ 8 by omega)
              have hs := maskTo_le q k
              rw [hq, if_pos rfl] at hs
              have h1 := hmr.out.1
              have h2 := hmr.out.2
              have h3 := Nat.pow_succ 2 k
              exact ⟨k + 1, _, _, by omega, by go_num, rfl, rfl, by omega, by omega, by omega, by omega, ⟨by omega, by omega⟩⟩
            case measure => simp [intOf]; omega
          · have hxb : (x == (k : Int)) = false := beq_eq_false_iff_ne.2 hx
            have Hxk := Aside.mk hx
            clear hx
            go_wp2_with fail
            go_round
            case rel =>
              refine ⟨j + 1, by omega, rfl, by go_num, ⟨?_⟩⟩
              intro t ht
              by_cases e : t = j
              · subst e; rw [Hx.out]; exact Hxk.out
              · exact hnone.out t (by omega)
            case measure => simp [intOf]; omega
        · have e : j = l.length := by omega
          have He := Aside.mk e
          clear e
          go_wp2_with fail
          go_round
          case rel =>
            have hq : q k = false := by
              rw [Hq.out]
              exact contains_none l k (by rw [← He.out]; exact hnone.out)
            have hs := maskTo_le q k
            rw [hq] at hs
            simp at hs
            have hp : 2 ^ k ≤ 2 ^ 7 := Nat.pow_le_pow_right (by decide) (show k ≤ 7 by omega)
            have h1 := hmr.out.1
            have h2 := hmr.out.2
            have h3 := Nat.pow_succ 2 k
            exact ⟨k + 1, _, _, by omega, by go_num, rfl, rfl, by omega, by omega, by omega, by omega, ⟨by omega, by omega⟩⟩
          case measure => simp [intOf]; omega
    · have hk' : k = 8 := by omega
      have Hk := Aside.mk hk'
      clear hk'
      go_wp2_with fail
      go_loop [8] (fun i => ∃ j : Nat, j ≤ l.length ∧ i = .int .i64 j ∧ Aside (∀ t < j, 0 ≤ l.getD t 0 ∧ l.getD t 0 < 8)) (fun i => l.length - (intOf i).toNat)
      case atStart => exact ⟨0, by omega, rfl, ⟨by omega⟩⟩
      case round =>
        obtain ⟨j, hj, rfl, hall⟩ := hrel
        by_cases hlt : j < l.length
        · obtain ⟨ad, rfl, hcells⟩ := Hc.out (by omega)
          have hck := hcells j hlt
          obtain ⟨x, Hx⟩ : ∃ x, Aside (l.getD j 0 = x) := ⟨_, ⟨rfl⟩⟩
          rw [Hx.out] at hck
          clear hcells
          by_cases hx0 : x < 0
          · have ha := allCores_split l j hlt (by rw [Hx.out]; omega)
            have Ha := Aside.mk ha
            clear ha
            go_wp2_with fail
            go_ret2
            exact ⟨ret_ints (by simp [setS, Ha.out]) (by simp [setS, Ha.out]), rfl⟩
          · by_cases hx7 : 7 < x
            · have ha := allCores_split l j hlt (by rw [Hx.out]; omega)
              have Ha := Aside.mk ha
              clear ha
              go_wp2_with fail
              go_ret2
              exact ⟨ret_ints (by simp [setS, Ha.out]) (by simp [setS, Ha.out]), rfl⟩
            · go_wp2_with fail
              go_round
              case rel =>
                refine ⟨j + 1, by omega, by go_num, ⟨?_⟩⟩
                intro t ht
                by_cases e : t = j
                · subst e; rw [Hx.out]; omega
                · exact hall.out t (by omega)
              case measure => simp [intOf]; omega
        · have e : j = l.length := by omega
          have He := Aside.mk e
          clear e
          go_wp2_with fail
          go_ret2
          have ha := allCores_all l (by rw [← He.out]; exact hall.out)
          have h1 := hmr.out.1
          rw [Hk.out] at h1
          refine ⟨ret_ints ?_ (by simp [setS, ha]), rfl⟩
          simp only [setS, ha, if_true, maskOf]
          rw [← Hq.out, ← h1]

theorem same_lists (xs ys : List Int) (h : xs.length = ys.length) (hd : ∀ j < xs.length, xs.getD j 0 = ys.getD j 0) : xs = ys := by
  apply List.ext_getElem h
  intro i h1 h2
  have := hd i h1
  rw [List.getD_eq_getElem?_getD, List.getElem?_eq_getElem h1, List.getD_eq_getElem?_getD, List.getElem?_eq_getElem h2] at this
  simpa using this

theorem rsame_any (w : World) (v u : Value) (xs ys : List Int) (hv : Ints w .i64 v xs) (hu : Ints w .i64 u ys) :
    Calls Try.prog 26 #[v, u] w fun e w' => e = .returned (.bool (decide (xs = ys))) ∧ Below w.heap.size w w' := by
  obtain ⟨A, c, rfl, hm, hc⟩ := hv
  obtain ⟨A', c', rfl, hm', hc'⟩ := hu
  have Hc := Aside.mk hc
  have Hc' := Aside.mk hc'
  clear hc hc'
  by_cases hl : xs.length = ys.length
  · have hlb : (xs.length == ys.length) = true := beq_iff_eq.2 hl
    have Hl := Aside.mk hl
    clear hl
    go_enter Try.func26, Try.ntmps26
    go_wp2_with fail
    go_loopw [5] (fun i wr => ∃ (k n : Nat), k ≤ xs.length ∧ i = .int .i64 k ∧ w.drewN n = wr ∧ Aside (∀ j < k, xs.getD j 0 = ys.getD j 0)) (fun i _ => xs.length - (intOf i).toNat)
    case atStart => exact ⟨0, 0, by omega, rfl, rfl, ⟨by omega⟩⟩
    case round =>
      obtain ⟨k, n, hk, rfl, rfl, hall⟩ := hrel
      by_cases hlt : k < xs.length
      · obtain ⟨ad, rfl, hcells⟩ := Hc.out (by omega)
        have hlt' : k < ys.length := by have := Hl.out; omega
        obtain ⟨ad', rfl, hcells'⟩ := Hc'.out (by omega)
        have hck := hcells k hlt
        have hck' := hcells' k hlt'
        obtain ⟨x, Hx⟩ : ∃ x, Aside (xs.getD k 0 = x) := ⟨_, ⟨rfl⟩⟩
        obtain ⟨y, Hy⟩ : ∃ y, Aside (ys.getD k 0 = y) := ⟨_, ⟨rfl⟩⟩
        rw [Hx.out] at hck
        rw [Hy.out] at hck'
        clear hcells hcells'
        by_cases hxy : x = y
        · have h1 : (x == y) = true := beq_iff_eq.2 hxy
          have h2 : (x != y) = false := by simp [hxy]
          have Hxy := Aside.mk hxy
          clear hxy
          go_wp2_with fail
          go_quiet (fail)
          go_wp2_with fail
          go_roundw
          case rel =>
            refine ⟨k + 1, _, by omega, by go_num, rfl, ⟨?_⟩⟩
            intro j hj
            by_cases e : j = k
            · subst e; rw [Hx.out, Hy.out]; exact Hxy.out
            · exact hall.out j (by omega)
          case measure => simp [intOf]; omega
        · have h1 : (x == y) = false := beq_eq_false_iff_ne.2 hxy
          have h2 : (x != y) = true := by simp [hxy]
          have Hxy := Aside.mk hxy
          clear hxy
          go_wp2_with fail
          go_quiet (fail)
          go_wp2_with fail
          go_ret
          refine ⟨ret_bool ?_, ?_⟩
          · symm
            rw [decide_eq_false_iff_not]
            rintro rfl
            exact Hxy.out (Hx.out.symm.trans Hy.out)
          · exact below_drewN2 _ _ _
      · have e : k = xs.length := by omega
        have He := Aside.mk e
        clear e
        go_wp2_with fail
        go_ret
        refine ⟨ret_bool ?_, below_drewN _ _⟩
        symm
        rw [decide_eq_true_iff]
        exact same_lists xs ys Hl.out (by rw [← He.out]; exact hall.out)
  · have hlb : (xs.length == ys.length) = false := beq_eq_false_iff_ne.2 hl
    have Hl := Aside.mk hl
    clear hl
    go_enter Try.func26, Try.ntmps26
    go_wp2_with fail
    go_ret
    refine ⟨ret_bool ?_, Below.refl _ _⟩
    symm
    rw [decide_eq_false_iff_not]
    rintro rfl
    exact Hl.out rfl
end Go.Proofs.Ytkgogbadddhlaaa
