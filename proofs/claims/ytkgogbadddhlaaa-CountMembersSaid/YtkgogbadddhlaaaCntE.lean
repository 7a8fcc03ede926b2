/- Layer 1's laws on ring indices and on sets of cores. -/
import Derived.Test.YtkgogbadddhlaaaCntD
namespace Go.Proofs.Ytkgogbadddhlaaa
open Go.RowKit
set_option linter.unusedVariables false
set_option linter.unusedSimpArgs false

theorem used_sum (h u : Int) (u0 : 0 ≤ u) (u1 : u < 4294967296) : usedS h ((h + u) % 4294967296) = u := by unfold usedS; omega
theorem slot_sum (h p : Int) (hp : plB p = true) : ((h + p) % 4294967296) % p = h % p := by
  have hr := plB_range p hp
  obtain ⟨n, rfl⟩ := Int.eq_ofNat_of_zero_le (show 0 ≤ p by omega)
  obtain ⟨k, hk, rfl⟩ := (plB_iff n).1 hp
  have h32 : 2 ^ k ∣ 4294967296 := (show 2 ^ 32 = 4294967296 by decide) ▸ Nat.pow_dvd_pow 2 (show k ≤ 32 by omega)
  have hd : ((2 ^ k : Nat) : Int) ∣ ((4294967296 : Nat) : Int) := Int.natCast_dvd_natCast.2 h32
  generalize ((2 ^ k : Nat) : Int) = q at *
  refine (Int.emod_emod_of_dvd (h + q) hd).trans ?_
  exact Int.add_emod_right h q

theorem makes_any (h u p : Int) (h0 : 0 ≤ h) (h1 : h < 4294967296) (u0 : 0 ≤ u) (u1 : u < 4294967296) (p0 : 0 ≤ p) (p1 : p < 4294967296) (w : World) :
    Calls Try.prog 7 #[.int .u32 h, .int .u32 u, .int .u32 p] w fun e w' => e = .returned (.bool true) ∧ Below w.heap.size w w' := by
  have hm : 0 ≤ (h + u) % 4294967296 ∧ (h + u) % 4294967296 < 4294967296 := by omega
  have cr := fun w => room_any h ((h + u) % 4294967296) p h0 h1 hm.1 hm.2 p0 p1 w
  simp only [roomS, used_sum h u u0 u1] at cr
  cases hp : plB p
  · simp only [hp, Bool.false_eq_true, if_false] at cr
    have Cr := Aside.mk cr
    clear cr hp
    go_enter Try.func7, Try.ntmps7
    go_wp2_with fail
    refine (Cr.out _).mono ?_
    rintro e w' ⟨rfl, rfl⟩
    go_wp2_with fail
    refine (awake_any _).mono ?_
    rintro e w1 ⟨rfl, hb⟩
    go_wp2_with fail
    refine (awake_any _).mono ?_
    rintro e w2 ⟨rfl, hb2⟩
    go_wp2_with fail
    go_ret
    exact ⟨ret_bool (by simp), below_then hb hb2⟩
  · simp only [hp, if_true] at cr
    by_cases hlt : p < u
    · simp only [hlt, if_true] at cr
      have Cr := Aside.mk cr
      clear cr hp
      go_enter Try.func7, Try.ntmps7
      go_wp2_with fail
      refine (Cr.out _).mono ?_
      rintro e w' ⟨rfl, rfl⟩
      go_wp2_with fail
      refine (awake_any _).mono ?_
      rintro e w1 ⟨rfl, hb⟩
      go_wp2_with fail
      refine (awake_any _).mono ?_
      rintro e w2 ⟨rfl, hb2⟩
      go_wp2_with fail
      go_ret
      exact ⟨ret_bool (by simp), below_then hb hb2⟩
    · simp only [hlt, if_false] at cr
      have hr := plB_range p hp
      have cs1 := fun w => slot_any h p h0 h1 p0 p1 w
      have hq : 0 ≤ (h + p) % 4294967296 ∧ (h + p) % 4294967296 < 4294967296 := by omega
      have cs2 := fun w => slot_any ((h + p) % 4294967296) p hq.1 hq.2 p0 p1 w
      simp only [slotS, hp, if_true, slot_sum h p hp] at cs1 cs2
      have cu := fun w => used_any h ((h + u) % 4294967296) h0 h1 hm.1 hm.2 w
      simp only [used_sum h u u0 u1] at cu
      obtain ⟨s, Hs⟩ : ∃ s, Aside (h % p = s) := ⟨_, ⟨rfl⟩⟩
      have hs0 : 0 ≤ s := by rw [← Hs.out]; exact Int.emod_nonneg _ (by omega)
      have hs1 : s < p := by rw [← Hs.out]; exact Int.emod_lt_of_pos _ (by omega)
      rw [Hs.out] at cs1 cs2
      have Cr := Aside.mk cr; have Cs1 := Aside.mk cs1; have Cs2 := Aside.mk cs2; have Cu := Aside.mk cu
      clear cr cs1 cs2 cu hp
      go_enter Try.func7, Try.ntmps7
      go_wp2_with fail
      refine (Cr.out _).mono ?_
      rintro e w' ⟨rfl, rfl⟩
      go_wp2_with fail
      refine (awake_any _).mono ?_
      rintro e w1 ⟨rfl, hb⟩
      go_wp2_with fail
      refine (Cu.out _).mono ?_
      rintro e w' ⟨rfl, rfl⟩
      go_wp2_with fail
      refine (Cs1.out _).mono ?_
      rintro e w' ⟨rfl, rfl⟩
      go_wp2_with fail
      refine (Cs2.out _).mono ?_
      rintro e w' ⟨rfl, rfl⟩
      go_wp2_with fail
      go_ret
      exact ⟨ret_bool (by simp), hb⟩

theorem before_same (a : Int) : beforeS a a = false := by simp [beforeS, usedS]
theorem before_shift (a b c : Int) : beforeS ((a + c) % 4294967296) ((b + c) % 4294967296) = beforeS a b := by
  have : usedS ((a + c) % 4294967296) ((b + c) % 4294967296) = usedS a b := by unfold usedS; omega
  simp [beforeS, this]
theorem before_one (a b : Int) (h : beforeS a b = true) : beforeS b a = false := by
  simp only [beforeS, Bool.and_eq_true, decide_eq_true_eq] at h
  rw [Bool.eq_false_iff]
  intro h'
  simp only [beforeS, Bool.and_eq_true, decide_eq_true_eq] at h'
  unfold usedS at *
  omega
theorem before_none (a b : Int) (a0 : 0 ≤ a) (a1 : a < 4294967296) (b0 : 0 ≤ b) (b1 : b < 4294967296) (h : beforeS a b = false) (h' : beforeS b a = false) (hne : a ≠ b) : (b - a) % 4294967296 = 2147483648 := by
  rw [Bool.eq_false_iff] at h h'
  simp only [beforeS, ne_eq, Bool.and_eq_true, decide_eq_true_eq] at h h'
  unfold usedS at *
  omega

theorem turns_any (a b c : Int) (a0 : 0 ≤ a) (a1 : a < 4294967296) (b0 : 0 ≤ b) (b1 : b < 4294967296) (c0 : 0 ≤ c) (c1 : c < 4294967296) (w : World) :
    Calls Try.prog 8 #[.int .u32 a, .int .u32 b, .int .u32 c] w fun e w' => e = .returned (.bool true) ∧ Below w.heap.size w w' := by
  have k1 := fun w => before_any a b a0 a1 b0 b1 w
  have k2 := fun w => before_any b a b0 b1 a0 a1 w
  have k3 := fun w => before_any a a a0 a1 a0 a1 w
  have k4 := fun w => before_any ((a + c) % 4294967296) ((b + c) % 4294967296) (by omega) (by omega) (by omega) (by omega) w
  rw [before_same] at k3
  rw [before_shift] at k4
  cases h1 : beforeS a b
  · cases h2 : beforeS b a
    · rw [h1] at k1 k4
      rw [h2] at k2
      by_cases hab : a = b
      · have K1 := Aside.mk k1; have K2 := Aside.mk k2; have K3 := Aside.mk k3; have K4 := Aside.mk k4
        have e1 : (a == b) = true := beq_iff_eq.2 hab
        clear k1 k2 k3 k4 h1 h2 hab
        go_enter Try.func8, Try.ntmps8
        go_wp2_with fail
        refine (K1.out _).mono ?_
        rintro e w' ⟨rfl, rfl⟩
        go_wp2_with fail
        refine (K2.out _).mono ?_
        rintro e w' ⟨rfl, rfl⟩
        go_wp2_with fail
        refine (awake_any _).mono ?_
        rintro e w1 ⟨rfl, hb⟩
        go_wp2_with fail
        refine (K3.out _).mono ?_
        rintro e w' ⟨rfl, rfl⟩
        go_wp2_with fail
        refine (K4.out _).mono ?_
        rintro e w' ⟨rfl, rfl⟩
        go_wp2_with fail
        go_ret
        exact ⟨ret_bool (by simp), hb⟩
      · have e2 := before_none a b a0 a1 b0 b1 h1 h2 hab
        have K1 := Aside.mk k1; have K2 := Aside.mk k2; have K3 := Aside.mk k3; have K4 := Aside.mk k4
        have e1 : (a == b) = false := beq_eq_false_iff_ne.2 hab
        clear k1 k2 k3 k4 h1 h2 hab
        go_enter Try.func8, Try.ntmps8
        go_wp2_with fail
        refine (K1.out _).mono ?_
        rintro e w' ⟨rfl, rfl⟩
        go_wp2_with fail
        refine (K2.out _).mono ?_
        rintro e w' ⟨rfl, rfl⟩
        go_wp2_with fail
        refine (awake_any _).mono ?_
        rintro e w1 ⟨rfl, hb⟩
        go_wp2_with fail
        refine (K3.out _).mono ?_
        rintro e w' ⟨rfl, rfl⟩
        go_wp2_with fail
        refine (K4.out _).mono ?_
        rintro e w' ⟨rfl, rfl⟩
        go_wp2_with fail
        go_ret
        exact ⟨ret_bool (by simp [e2]), hb⟩
    · rw [h1] at k1 k4
      rw [h2] at k2
      have K1 := Aside.mk k1; have K2 := Aside.mk k2; have K3 := Aside.mk k3; have K4 := Aside.mk k4
      clear k1 k2 k3 k4 h1 h2
      go_enter Try.func8, Try.ntmps8
      go_wp2_with fail
      refine (K1.out _).mono ?_
      rintro e w' ⟨rfl, rfl⟩
      go_wp2_with fail
      refine (K2.out _).mono ?_
      rintro e w' ⟨rfl, rfl⟩
      go_wp2_with fail
      refine (awake_any _).mono ?_
      rintro e w1 ⟨rfl, hb⟩
      go_wp2_with fail
      refine (K3.out _).mono ?_
      rintro e w' ⟨rfl, rfl⟩
      go_wp2_with fail
      refine (K4.out _).mono ?_
      rintro e w' ⟨rfl, rfl⟩
      go_wp2_with fail
      go_ret
      exact ⟨ret_bool (by simp), hb⟩
  · have h2 := before_one a b h1
    rw [h1] at k1 k4
    rw [h2] at k2
    have K1 := Aside.mk k1; have K2 := Aside.mk k2; have K3 := Aside.mk k3; have K4 := Aside.mk k4
    clear k1 k2 k3 k4 h1 h2
    go_enter Try.func8, Try.ntmps8
    go_wp2_with fail
    refine (K1.out _).mono ?_
    rintro e w' ⟨rfl, rfl⟩
    go_wp2_with fail
    refine (K2.out _).mono ?_
    rintro e w' ⟨rfl, rfl⟩
    go_wp2_with fail
    refine (awake_any _).mono ?_
    rintro e w1 ⟨rfl, hb⟩
    go_wp2_with fail
    refine (K3.out _).mono ?_
    rintro e w' ⟨rfl, rfl⟩
    go_wp2_with fail
    refine (K4.out _).mono ?_
    rintro e w' ⟨rfl, rfl⟩
    go_wp2_with fail
    go_ret
    exact ⟨ret_bool (by simp), hb⟩

theorem members_any (s c : Int) (s0 : 0 ≤ s) (s1 : s < 256) (w : World) :
    Calls Try.prog 6 #[.int .u8 s, .int .i64 c] w fun e w' => e = .returned (.bool true) ∧ Below w.heap.size w w' := by
  have kf := fun w => first_any s s0 s1 w
  have kr := fun w => rcores_any s s0 s1 w
  have kc := fun w => cores_any s s0 s1 w
  have kh := fun w => has_any s c s0 s1 w
  have kg := fun w => rhas_any s c s0 s1 w
  obtain ⟨L, HL⟩ : ∃ L, Aside (coresTo s.toNat 8 = L) := ⟨_, ⟨rfl⟩⟩
  rw [HL.out] at kf
  simp only [HL.out] at kr kc
  have Kc := Aside.mk kc; have Kh := Aside.mk kh; have Kg := Aside.mk kg; have Kr := Aside.mk kr
  clear kc kh kg kr
  have fin : ∀ (w0 w1 : World) (A : Option Addr) (n cc : Nat) (hl : L.length = n) (hv : Ints w1 .i64 (.slice A n cc) L) (hb : Below w0.heap.size w0 w1), True := fun _ _ _ _ _ _ _ _ => trivial
  cases L with
  | nil =>
    have Kf := Aside.mk kf
    clear kf fin
    go_enter Try.func6, Try.ntmps6
    go_wp2_with fail
    refine (Kf.out _).mono ?_
    rintro e w' ⟨rfl, rfl⟩
    go_wp2_with fail
    refine (Kr.out _).mono ?_
    rintro e w1 ⟨v, rfl, hv, hb⟩
    have Hv := Aside.mk hv
    obtain ⟨A, cc, rfl, hm, hcc⟩ := hv
    clear hcc
    go_wp2_with fail
    refine (awake_any _).mono ?_
    rintro e w2 ⟨rfl, hb2⟩
    go_wp2_with fail
    refine (Kh.out _).mono ?_
    rintro e w' ⟨rfl, rfl⟩
    go_wp2_with fail
    refine (Kg.out _).mono ?_
    rintro e w' ⟨rfl, rfl⟩
    go_wp2_with fail
    refine (Kc.out _).mono ?_
    rintro e w3 ⟨v3, rfl, hv3, hb3⟩
    go_wp2_with fail
    refine (rsame_any _ _ _ _ _ hv3 ((Hv.out.below hb2).below hb3)).mono ?_
    rintro e w4 ⟨rfl, hb4⟩
    go_wp2_with fail
    go_ret
    exact ⟨ret_bool (by simp), below_then hb (below_then hb2 (below_then hb3 hb4))⟩
  | cons x r =>
    have Kf := Aside.mk kf
    clear kf fin
    go_enter Try.func6, Try.ntmps6
    go_wp2_with fail
    refine (Kf.out _).mono ?_
    rintro e w' ⟨rfl, rfl⟩
    go_wp2_with fail
    refine (Kr.out _).mono ?_
    rintro e w1 ⟨v, rfl, hv, hb⟩
    have Hv := Aside.mk hv
    obtain ⟨A, cc, rfl, hm, hcc⟩ := hv
    obtain ⟨ad, rfl, hcells⟩ := hcc (by simp)
    have hc0 : w1.cell? ad = some (.int .i64 x) := by simpa [Addr.add] using hcells 0 (by simp)
    clear hcc hcells
    go_wp2_with fail
    refine (awake_any _).mono ?_
    rintro e w2 ⟨rfl, hb2⟩
    go_wp2_with fail
    refine (Kh.out _).mono ?_
    rintro e w' ⟨rfl, rfl⟩
    go_wp2_with fail
    refine (Kg.out _).mono ?_
    rintro e w' ⟨rfl, rfl⟩
    go_wp2_with fail
    refine (Kc.out _).mono ?_
    rintro e w3 ⟨v3, rfl, hv3, hb3⟩
    go_wp2_with fail
    refine (rsame_any _ _ _ _ _ hv3 ((Hv.out.below hb2).below hb3)).mono ?_
    rintro e w4 ⟨rfl, hb4⟩
    go_wp2_with fail
    go_ret
    exact ⟨ret_bool (by simp), below_then hb (below_then hb2 (below_then hb3 hb4))⟩
end Go.Proofs.Ytkgogbadddhlaaa
