/- The table's laws: whom each core serves. -/
import Derived.Test.YtmfddaihepjfeaaTabK
namespace Go.Proofs.Ytmfddaihepjfeaa
open Go.RowKit
set_option linter.unusedVariables false
set_option linter.unusedSimpArgs false

set_option maxHeartbeats 3200000 in
set_option maxRecDepth 100000 in
theorem turns_any (w : World) (v : Value) (P : Plan) (t : Int) (hv : PlanV w v P) :
    Calls Try.prog 3 #[v, .int .i64 t] w fun e w' => e = .returned (.bool true) ∧ Below w.heap.size w w' := by
  have hv0 := hv
  obtain ⟨a0, c0, a1, c1, a2, c2, a3, c3, rfl, hp, hlen⟩ := hv.open_
  obtain ⟨f0, f1⟩ := hp.frame
  obtain ⟨W1, HW⟩ : ∃ W1, Aside (W1 = w.alloc (.cells #[.int .u16 (Plan.frame P), .slice a0 (Plan.cores P).length c0, .slice a1 (Plan.parts P).length c1, .slice a2 (Plan.chans P).length c2, .slice a3 (Plan.pairs P).length c3] 28)) := ⟨_, ⟨rfl⟩⟩
  have hb1 : Aside (Below w.heap.size w W1 ∧ W1.heap[w.heap.size]? = some (.cells #[.int .u16 (Plan.frame P), .slice a0 (Plan.cores P).length c0, .slice a1 (Plan.parts P).length c1, .slice a2 (Plan.chans P).length c2, .slice a3 (Plan.pairs P).length c3] 28 (0, 0))) := ⟨by rw [HW.out]; exact ⟨bel_one _ _, heap_alloc_new _ _⟩⟩
  have hP1 := hv0.below hb1.out.1
  have K1 := Aside.mk (taken_any W1 _ P hP1)
  have HV := Aside.mk hv0
  have HC := Aside.mk hp.cores
  obtain ⟨g0, g1, g2, g3, g4⟩ := box5 hb1.out.2
  clear hp hv hv0 hP1
  go_enter Try.func3, Try.ntmps3
  go_wp2_with fail
  rw [← HW.out]
  refine K1.out.mono ?_
  rintro e w2 ⟨b, rfl, htk, b2⟩
  have B2 := Aside.mk (bel_then hb1.out.1 b2)
  have X2 := Aside.mk ((b2.block _ (lt_of_block hb1.out.2)).trans hb1.out.2)
  clear b2 g0 g1 g2 g3 g4
  obtain ⟨g0, g1, g2, g3, g4⟩ := box5 X2.out
  cases b
  · clear htk
    go_wp2_with fail
    refine (awake_any w2).mono ?_
    rintro e w3 ⟨rfl, b3⟩
    have B3 := Aside.mk (bel_then B2.out b3)
    clear b3 g0 g1 g2 g3 g4
    go_wp2_with fail
    go_ret
    exact ⟨rfl, B3.out⟩
  · have tk := htk rfl
    have h8 := tk.cores
    clear htk tk
    by_cases ht : t < 0 ∨ Plan.frame P ≤ t
    · have K2 := Aside.mk (turn_out w2 _ P t (HV.out.below B2.out) ht)
      rcases ht with ht | ht
      all_goals
        go_wp2_with fail
        refine K2.out.mono ?_
        rintro e w3 ⟨rfl, b3⟩
        have X3 := Aside.mk ((b3.block _ (lt_of_block X2.out)).trans X2.out)
        have B3 := Aside.mk (bel_then B2.out b3)
        clear b3 g0 g1 g2 g3 g4
        obtain ⟨g0, g1, g2, g3, g4⟩ := box5 X3.out
        go_wp2_with fail
        refine (awake_any w3).mono ?_
        rintro e w4 ⟨rfl, b4⟩
        have B4 := Aside.mk (bel_then B3.out b4)
        clear b4 g0 g1 g2 g3 g4
        go_wp2_with fail
        go_ret
        exact ⟨rfl, B4.out⟩
    · have ht1 : 0 ≤ t := by omega
      have ht2 : t < Plan.frame P := by omega
      have K2 := Aside.mk (turn_in w2 _ P t (HV.out.below B2.out) ht1 ht2 (by omega))
      clear ht
      go_wp2_with fail
      refine K2.out.mono ?_
      rintro e w3 ⟨r, rfl, hr, _, b3⟩
      have X3 := Aside.mk ((b3.block _ (lt_of_block X2.out)).trans X2.out)
      have B3 := Aside.mk (bel_then B2.out b3)
      have R3 := Aside.mk hr
      obtain ⟨ra, rc, rfl, _, _⟩ := hr
      clear b3 g0 g1 g2 g3 g4
      obtain ⟨g0, g1, g2, g3, g4⟩ := box5 X3.out
      go_wp2_with fail
      clear g0 g1 g2 g3 g4
      go_loopw [7] (fun i wr => ∃ k : Nat, k ≤ (Plan.cores P).length ∧ i = .int .i64 k ∧ Aside (Below w3.heap.size w3 wr)) (fun i _ => (Plan.cores P).length - (intOf i).toNat)
      case atStart => exact ⟨0, by omega, rfl, ⟨Below.refl _ _⟩⟩
      case round =>
        obtain ⟨k, hk, rfl, S⟩ := hrel
        have BR := Aside.mk (bel_then B3.out S.out)
        have XR := Aside.mk ((S.out.block _ (lt_of_block X3.out)).trans X3.out)
        obtain ⟨g0, g1, g2, g3, g4⟩ := box5 XR.out
        by_cases hkl : k < (Plan.cores P).length
        · have hl := List.getElem?_eq_getElem hkl
          obtain ⟨L, hL⟩ : ∃ L, (Plan.cores P)[k] = L := ⟨_, rfl⟩
          rw [hL] at hl
          have HL := Aside.mk hl
          obtain ⟨ad, lv, rfl, hlv, hwins⟩ := (HC.out.below BR.out).at_ k L hl
          have KA := Aside.mk (at_any wr lv L t hwins)
          have HW1 := Aside.mk hwins
          obtain ⟨la, lc, rfl, hlL⟩ := hwins.len
          clear hl hL hwins
          go_wp2_with fail
          refine KA.out.mono ?_
          rintro e w4 ⟨rfl, b4⟩
          have S4 := Aside.mk (bel_then S.out b4)
          have X4 := Aside.mk ((b4.block _ (lt_of_block XR.out)).trans XR.out)
          have hlv4 := (Kept.of_below (S := fun _ => False) b4).cell hlv id
          have HW4 := Aside.mk (HW1.out.below b4)
          have KS := Aside.mk (rserves_any w4 _ L t HW4.out)
          clear b4 g0 g1 g2 g3 g4 hlv
          obtain ⟨g0, g1, g2, g3, g4⟩ := box5 X4.out
          rcases hi : atS L t with _ | i
          · rw [serves_no hi] at KS
            clear hi
            unfold atV
            go_wp2_with fail
            refine KS.out.mono ?_
            rintro e w5 ⟨rfl, b5⟩
            have S5 := Aside.mk (bel_then S4.out b5)
            clear b5 g0 g1 g2 g3 g4 hlv4
            go_wp2_with fail
            go_roundw
            case rel => exact ⟨k + 1, by omega, by go_num, S5⟩
            case measure => simp [intOf]; omega
          · obtain ⟨hil, hh⟩ := atS_some hi
            rw [serves_of hi] at KS
            have hx := List.getElem?_eq_getElem hil
            obtain ⟨X, hX⟩ : ∃ X, L[i] = X := ⟨_, rfl⟩
            rw [hX] at hx
            rw [wAt_some hx] at KS hh
            have HX := Aside.mk hx
            have HH := Aside.mk hh
            have ok : Win.Ok X := by
              obtain ⟨_, _, _, _, _, _, ok⟩ := HW4.out.at_ i X hx
              exact ok
            obtain ⟨p0, p1⟩ := ok.p
            have OK := Aside.mk ok
            have hil2 : (i : Int) < (L.length : Int) := by omega
            clear hi hx hX hh ok
            unfold atV
            go_wp2_with fail
            refine KS.out.mono ?_
            rintro e w5 ⟨rfl, b5⟩
            have S5 := Aside.mk (bel_then S4.out b5)
            have X5 := Aside.mk ((b5.block _ (lt_of_block X4.out)).trans X4.out)
            have hlv5 := (Kept.of_below (S := fun _ => False) b5).cell hlv4 id
            obtain ⟨ad3, q, d0, d1, d2, d3, _⟩ := (HW4.out.below b5).at_ i X HX.out
            subst q
            have KH := has_any X OK.out t w5
            rw [HH.out] at KH
            unfold Win.val at KH
            have KH := Aside.mk KH
            clear b5 g0 g1 g2 g3 g4 hlv4
            obtain ⟨g0, g1, g2, g3, g4⟩ := box5 X5.out
            go_wp2_with fail
            refine KH.out.mono ?_
            rintro e w6 ⟨rfl, b6⟩
            have S6 := Aside.mk (bel_then S5.out b6)
            clear b6 g0 g1 g2 g3 g4 hlv5 d0 d1 d2 d3
            go_wp2_with fail
            go_roundw
            case rel => exact ⟨k + 1, by omega, by go_num, S6⟩
            case measure => simp [intOf]; omega
        · obtain rfl : k = (Plan.cores P).length := by omega
          go_wp2_with fail
          refine (awake_any wr).mono ?_
          rintro e w4 ⟨rfl, b4⟩
          have B4 := Aside.mk (bel_then BR.out b4)
          have X4 := Aside.mk ((b4.block _ (lt_of_block XR.out)).trans XR.out)
          have R4 := Aside.mk (R3.out.below (bel_then S.out b4))
          have KT := Aside.mk (rturn_any w4 _ P t (HV.out.below B4.out) (by omega))
          clear b4 g0 g1 g2 g3 g4
          obtain ⟨g0, g1, g2, g3, g4⟩ := box5 X4.out
          go_wp2_with fail
          refine KT.out.mono ?_
          rintro e w5 ⟨r2, rfl, hr2, b5⟩
          have KSm := rsame_any w5 _ r2 _ _ (R4.out.below b5) hr2
          rw [show decide (turnS (Plan.cores P) t = turnS (Plan.cores P) t) = true by simp] at KSm
          have KSm := Aside.mk KSm
          have B5 := Aside.mk (bel_then B4.out b5)
          clear b5 hr2 g0 g1 g2 g3 g4
          go_wp2_with fail
          refine KSm.out.mono ?_
          rintro e w6 ⟨rfl, b6⟩
          have B6 := Aside.mk (bel_then B5.out b6)
          clear b6
          go_wp2_with fail
          go_ret
          exact ⟨rfl, B6.out⟩
end Go.Proofs.Ytmfddaihepjfeaa
