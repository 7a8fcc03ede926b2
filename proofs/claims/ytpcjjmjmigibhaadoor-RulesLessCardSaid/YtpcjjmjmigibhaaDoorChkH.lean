/- The program's rules: may a channel be? (written by wip/chkH.py) -/
import Derived.Test.YtpcjjmjmigibhaaDoorChkG
namespace Go.Proofs.YtpcjjmjmigibhaaDoor
open Go.RowKit
set_option linter.unusedVariables false
set_option linter.unusedSimpArgs false

/-- May a channel be? -/
def chB (np : Int) (c : ChanR) : Bool := (queueB c || sampleB c) && decide (ChanR.f c < np) && decide (ChanR.t c < np) && decide (ChanR.f c ≠ ChanR.t c) && decide (1 ≤ ChanR.z c) && decide (ChanR.z c ≤ 32)
theorem chanOk_eq (np : Int) (c : ChanR) (i : Nat) : chanOk np c i = (decide (i ≤ 63) && chB np c) := by
  simp only [chanOk, chB, Bool.and_assoc]
theorem pow_bits (d : Int) (h1 : 1 ≤ d) (h2 : d ≤ 16) : Go.bits .and .u8 d (d - 1) = 0 ↔ (d = 1 ∨ d = 2 ∨ d = 4 ∨ d = 8 ∨ d = 16) := by
  have h : d = 1 ∨ d = 2 ∨ d = 3 ∨ d = 4 ∨ d = 5 ∨ d = 6 ∨ d = 7 ∨ d = 8 ∨ d = 9 ∨ d = 10 ∨ d = 11 ∨ d = 12 ∨ d = 13 ∨ d = 14 ∨ d = 15 ∨ d = 16 := by omega
  rcases h with rfl | rfl | rfl | rfl | rfl | rfl | rfl | rfl | rfl | rfl | rfl | rfl | rfl | rfl | rfl | rfl <;> decide
set_option maxHeartbeats 6400000 in
set_option maxRecDepth 100000 in
theorem channel_any (w : World) (c : ChanR) (ok : ChanR.Ok c) (np : Int) :
    Calls Tryd.prog 42 #[ChanR.val c, .int .i64 np] w fun e w' => e = .returned (.bool (chB np c)) ∧ Below w.heap.size w w' := by
  obtain ⟨⟨k0, k1⟩, ⟨f0, f1⟩, ⟨t0, t1⟩, ⟨z0, z1⟩, ⟨d0, d1⟩, ⟨y0, y1⟩⟩ := ok
  unfold ChanR.val chB queueB sampleB
  generalize ChanR.k c = k at *
  generalize ChanR.f c = f at *
  generalize ChanR.t c = t at *
  generalize ChanR.z c = z at *
  generalize ChanR.d c = d at *
  generalize ChanR.y c = y at *
  have w1 : IntKind.i64.wrap f = f := IntWalk.i64_in _ (by omega)
  have w2 : IntKind.i64.wrap t = t := IntWalk.i64_in _ (by omega)
  have w3 : IntKind.i64.wrap z = z := IntWalk.i64_in _ (by omega)
  have w4 : IntKind.i64.wrap d = d := IntWalk.i64_in _ (by omega)
  by_cases hk1 : k = 1
  · have n1 : (k == 1) = true := beq_iff_eq.2 hk1
    subst hk1
    by_cases hd : d = 0
    · have n2 : (d == 0) = true := beq_iff_eq.2 hd
      have n3 : (d != 0) = false := by simp [hd]
      by_cases hy : y = 0
      · have n4 : (y == 0) = true := beq_iff_eq.2 hy
        subst hy hd
        go_enter Tryd.func42, Tryd.ntmps42
        go_wp2_with fail
        go_ret
        exact ⟨ret_bool (by first | (simp []; done) | (simp []; omega) | (rw [Bool.eq_iff_iff]; simp []; omega)), lone _ _⟩
      · have n4 : (y == 0) = false := beq_eq_false_iff_ne.2 hy
        have n5 : 0 < y := by omega
        have HY := Aside.mk hy
        clear hy
        subst hd
        by_cases h5 : f < np
        · by_cases h6 : t < np
          · by_cases h7 : f = t
            · have h7b : (f == t) = true := beq_iff_eq.2 h7
              subst h7
              go_enter Tryd.func42, Tryd.ntmps42
              go_wp2_with fail
              refine (within_any 1 1 16 _).mono ?_
              rintro e w9 ⟨rfl, rfl⟩
              go_wp2_with fail
              go_ret
              exact ⟨ret_bool (by first | (simp [n5, h5]; done) | (simp [n5, h5]; omega) | (rw [Bool.eq_iff_iff]; simp [n5, h5]; omega)), lone _ _⟩
            · have h7b : (f == t) = false := beq_eq_false_iff_ne.2 h7
              have h7c : (f != t) = true := by simp [h7]
              by_cases h8 : 1 ≤ z
              · by_cases h9 : z ≤ 32
                · have H := Aside.mk h7; clear h7
                  go_enter Tryd.func42, Tryd.ntmps42
                  go_wp2_with fail
                  refine (within_any 1 1 16 _).mono ?_
                  rintro e w9 ⟨rfl, rfl⟩
                  go_wp2_with fail
                  refine (within_any z 1 32 _).mono ?_
                  rintro e w9 ⟨rfl, rfl⟩
                  go_wp2_with fail
                  go_ret
                  exact ⟨ret_bool (by first | (simp [n5, h5, h6, H.out, h8, h9]; done) | (simp [n5, h5, h6, H.out, h8, h9]; omega) | (rw [Bool.eq_iff_iff]; simp [n5, h5, h6, H.out, h8, h9]; omega)), lone _ _⟩
                · have H := Aside.mk h7; clear h7
                  go_enter Tryd.func42, Tryd.ntmps42
                  go_wp2_with fail
                  refine (within_any 1 1 16 _).mono ?_
                  rintro e w9 ⟨rfl, rfl⟩
                  go_wp2_with fail
                  refine (within_any z 1 32 _).mono ?_
                  rintro e w9 ⟨rfl, rfl⟩
                  go_wp2_with fail
                  go_ret
                  exact ⟨ret_bool (by first | (simp [n5, h5, h6, H.out, h8, h9]; done) | (simp [n5, h5, h6, H.out, h8, h9]; omega) | (rw [Bool.eq_iff_iff]; simp [n5, h5, h6, H.out, h8, h9]; omega)), lone _ _⟩
              · have H := Aside.mk h7; clear h7
                go_enter Tryd.func42, Tryd.ntmps42
                go_wp2_with fail
                refine (within_any 1 1 16 _).mono ?_
                rintro e w9 ⟨rfl, rfl⟩
                go_wp2_with fail
                refine (within_any z 1 32 _).mono ?_
                rintro e w9 ⟨rfl, rfl⟩
                go_wp2_with fail
                go_ret
                exact ⟨ret_bool (by first | (simp [n5, h5, h6, H.out, h8]; done) | (simp [n5, h5, h6, H.out, h8]; omega) | (rw [Bool.eq_iff_iff]; simp [n5, h5, h6, H.out, h8]; omega)), lone _ _⟩
          · skip
            go_enter Tryd.func42, Tryd.ntmps42
            go_wp2_with fail
            refine (within_any 1 1 16 _).mono ?_
            rintro e w9 ⟨rfl, rfl⟩
            go_wp2_with fail
            go_ret
            exact ⟨ret_bool (by first | (simp [n5, h5, h6]; done) | (simp [n5, h5, h6]; omega) | (rw [Bool.eq_iff_iff]; simp [n5, h5, h6]; omega)), lone _ _⟩
        · skip
          go_enter Tryd.func42, Tryd.ntmps42
          go_wp2_with fail
          refine (within_any 1 1 16 _).mono ?_
          rintro e w9 ⟨rfl, rfl⟩
          go_wp2_with fail
          go_ret
          exact ⟨ret_bool (by first | (simp [n5, h5]; done) | (simp [n5, h5]; omega) | (rw [Bool.eq_iff_iff]; simp [n5, h5]; omega)), lone _ _⟩
    · have n2 : (d == 0) = false := beq_eq_false_iff_ne.2 hd
      have n3 : (d != 0) = true := by simp [hd]
      have HD := Aside.mk hd; clear hd
      go_enter Tryd.func42, Tryd.ntmps42
      go_wp2_with fail
      go_ret
      exact ⟨ret_bool (by first | (simp [HD.out]; done) | (simp [HD.out]; omega) | (rw [Bool.eq_iff_iff]; simp [HD.out]; omega)), lone _ _⟩
  · have n1 : (k == 1) = false := beq_eq_false_iff_ne.2 hk1
    by_cases hk0 : k = 0
    · have n0 : (k == 0) = true := beq_iff_eq.2 hk0
      subst hk0
      clear hk1
      by_cases hy : y = 0
      · have n4 : (y == 0) = true := beq_iff_eq.2 hy
        subst hy
        by_cases h1 : 1 ≤ d
        · by_cases h2 : d ≤ 16
          · have hp := pow_bits d h1 h2
            have w5 : IntKind.u8.wrap (d - 1) = d - 1 := IntWalk.u8_in _ (by omega)
            obtain ⟨r, hr⟩ : ∃ r, Go.bits .and .u8 d (d - 1) = r := ⟨_, rfl⟩
            rw [hr] at hp
            by_cases h3 : r = 0
            · have H3 := Aside.mk (hp.1 h3)
              have n5 : (r == 0) = true := beq_iff_eq.2 h3
              clear hp
              subst h3
              by_cases h5 : f < np
              · by_cases h6 : t < np
                · by_cases h7 : f = t
                  · have h7b : (f == t) = true := beq_iff_eq.2 h7
                    subst h7
                    go_enter Tryd.func42, Tryd.ntmps42
                    go_wp2_with fail
                    refine (within_any d 1 16 _).mono ?_
                    rintro e w9 ⟨rfl, rfl⟩
                    go_wp2_with fail
                    go_ret
                    exact ⟨ret_bool (by have H4 := H3.out; first | (simp [h5]; done) | (simp [h5]; omega) | (rw [Bool.eq_iff_iff]; simp [h5]; omega)), lone _ _⟩
                  · have h7b : (f == t) = false := beq_eq_false_iff_ne.2 h7
                    have h7c : (f != t) = true := by simp [h7]
                    by_cases h8 : 1 ≤ z
                    · by_cases h9 : z ≤ 32
                      · have H := Aside.mk h7; clear h7
                        go_enter Tryd.func42, Tryd.ntmps42
                        go_wp2_with fail
                        refine (within_any d 1 16 _).mono ?_
                        rintro e w9 ⟨rfl, rfl⟩
                        go_wp2_with fail
                        refine (within_any z 1 32 _).mono ?_
                        rintro e w9 ⟨rfl, rfl⟩
                        go_wp2_with fail
                        go_ret
                        exact ⟨ret_bool (by have H4 := H3.out; first | (simp [h5, h6, H.out, h8, h9]; done) | (simp [h5, h6, H.out, h8, h9]; omega) | (rw [Bool.eq_iff_iff]; simp [h5, h6, H.out, h8, h9]; omega)), lone _ _⟩
                      · have H := Aside.mk h7; clear h7
                        go_enter Tryd.func42, Tryd.ntmps42
                        go_wp2_with fail
                        refine (within_any d 1 16 _).mono ?_
                        rintro e w9 ⟨rfl, rfl⟩
                        go_wp2_with fail
                        refine (within_any z 1 32 _).mono ?_
                        rintro e w9 ⟨rfl, rfl⟩
                        go_wp2_with fail
                        go_ret
                        exact ⟨ret_bool (by have H4 := H3.out; first | (simp [h5, h6, H.out, h8, h9]; done) | (simp [h5, h6, H.out, h8, h9]; omega) | (rw [Bool.eq_iff_iff]; simp [h5, h6, H.out, h8, h9]; omega)), lone _ _⟩
                    · have H := Aside.mk h7; clear h7
                      go_enter Tryd.func42, Tryd.ntmps42
                      go_wp2_with fail
                      refine (within_any d 1 16 _).mono ?_
                      rintro e w9 ⟨rfl, rfl⟩
                      go_wp2_with fail
                      refine (within_any z 1 32 _).mono ?_
                      rintro e w9 ⟨rfl, rfl⟩
                      go_wp2_with fail
                      go_ret
                      exact ⟨ret_bool (by have H4 := H3.out; first | (simp [h5, h6, H.out, h8]; done) | (simp [h5, h6, H.out, h8]; omega) | (rw [Bool.eq_iff_iff]; simp [h5, h6, H.out, h8]; omega)), lone _ _⟩
                · skip
                  go_enter Tryd.func42, Tryd.ntmps42
                  go_wp2_with fail
                  refine (within_any d 1 16 _).mono ?_
                  rintro e w9 ⟨rfl, rfl⟩
                  go_wp2_with fail
                  go_ret
                  exact ⟨ret_bool (by have H4 := H3.out; first | (simp [h5, h6]; done) | (simp [h5, h6]; omega) | (rw [Bool.eq_iff_iff]; simp [h5, h6]; omega)), lone _ _⟩
              · skip
                go_enter Tryd.func42, Tryd.ntmps42
                go_wp2_with fail
                refine (within_any d 1 16 _).mono ?_
                rintro e w9 ⟨rfl, rfl⟩
                go_wp2_with fail
                go_ret
                exact ⟨ret_bool (by have H4 := H3.out; first | (simp [h5]; done) | (simp [h5]; omega) | (rw [Bool.eq_iff_iff]; simp [h5]; omega)), lone _ _⟩
            · have H3 : Aside (¬ (d = 1 ∨ d = 2 ∨ d = 4 ∨ d = 8 ∨ d = 16)) := ⟨fun q => h3 (hp.2 q)⟩
              have n5 : (r == 0) = false := beq_eq_false_iff_ne.2 h3
              clear hp h3
              go_enter Tryd.func42, Tryd.ntmps42
              go_wp2_with fail
              refine (within_any d 1 16 _).mono ?_
              rintro e w9 ⟨rfl, rfl⟩
              go_wp2_with fail
              go_ret
              exact ⟨ret_bool (by have H4 := H3.out; first | (simp []; done) | (simp []; omega) | (rw [Bool.eq_iff_iff]; simp []; omega)), lone _ _⟩
          · skip
            go_enter Tryd.func42, Tryd.ntmps42
            go_wp2_with fail
            refine (within_any d 1 16 _).mono ?_
            rintro e w9 ⟨rfl, rfl⟩
            go_wp2_with fail
            go_ret
            exact ⟨ret_bool (by first | (simp [show ¬ (d = 1 ∨ d = 2 ∨ d = 4 ∨ d = 8 ∨ d = 16) by omega]; done) | (simp [show ¬ (d = 1 ∨ d = 2 ∨ d = 4 ∨ d = 8 ∨ d = 16) by omega]; omega) | (rw [Bool.eq_iff_iff]; simp [show ¬ (d = 1 ∨ d = 2 ∨ d = 4 ∨ d = 8 ∨ d = 16) by omega]; omega)), lone _ _⟩
        · skip
          go_enter Tryd.func42, Tryd.ntmps42
          go_wp2_with fail
          refine (within_any d 1 16 _).mono ?_
          rintro e w9 ⟨rfl, rfl⟩
          go_wp2_with fail
          go_ret
          exact ⟨ret_bool (by first | (simp [show ¬ (d = 1 ∨ d = 2 ∨ d = 4 ∨ d = 8 ∨ d = 16) by omega]; done) | (simp [show ¬ (d = 1 ∨ d = 2 ∨ d = 4 ∨ d = 8 ∨ d = 16) by omega]; omega) | (rw [Bool.eq_iff_iff]; simp [show ¬ (d = 1 ∨ d = 2 ∨ d = 4 ∨ d = 8 ∨ d = 16) by omega]; omega)), lone _ _⟩
      · have n4 : (y == 0) = false := beq_eq_false_iff_ne.2 hy
        have HY := Aside.mk hy; clear hy
        go_enter Tryd.func42, Tryd.ntmps42
        go_wp2_with fail
        go_ret
        exact ⟨ret_bool (by first | (simp [HY.out]; done) | (simp [HY.out]; omega) | (rw [Bool.eq_iff_iff]; simp [HY.out]; omega)), lone _ _⟩
    · have n0 : (k == 0) = false := beq_eq_false_iff_ne.2 hk0
      have H0 := Aside.mk (And.intro hk0 hk1); clear hk0 hk1
      go_enter Tryd.func42, Tryd.ntmps42
      go_wp2_with fail
      go_ret
      exact ⟨ret_bool (by first | (simp [H0.out.1, H0.out.2]; done) | (simp [H0.out.1, H0.out.2]; omega) | (rw [Bool.eq_iff_iff]; simp [H0.out.1, H0.out.2]; omega)), lone _ _⟩
end Go.Proofs.YtpcjjmjmigibhaaDoor
