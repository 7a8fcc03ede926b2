/- The program's rules: partitions, sizes, Check. -/
import Derived.Test.YtpcjjmjmigibhaaDoorChkI
namespace Go.Proofs.YtpcjjmjmigibhaaDoor
open Go.RowKit
set_option linter.unusedVariables false
set_option linter.unusedSimpArgs false

set_option maxHeartbeats 3200000 in
set_option maxRecDepth 100000 in
theorem objects_any (w : World) (v : Value) (P : Plan) (hv : PlanV w v P) :
    Calls Tryd.prog 26 #[v] w (ErrR w (scan (partF (Plan.parts P)) (Plan.parts P).length)) := by
  obtain ⟨a0, n0, c0, a1, n1, c1, a2, n2, c2, a3, n3, c3, rfl, hp⟩ := hv
  obtain ⟨_, _, q, hlen1⟩ := Elems.len hp.parts
  obtain ⟨rfl, rfl, rfl⟩ : a1 = _ ∧ n1 = _ ∧ c1 = _ := by injection q with q1 q2 q3; exact ⟨q1, q2, q3⟩
  clear q
  have HQ := Aside.mk hp.parts
  have HE : Aside (∀ (i : Nat) (x : PartR), (Plan.parts P)[i]? = some x → partF (Plan.parts P) i = if objectS x = true then none else some (51, (i : Int))) := ⟨fun i x h => by rw [partF, ptAt_some h]⟩
  generalize Plan.frame P = fr at *
  generalize Plan.parts P = Q at *
  generalize partF Q = F at *
  obtain ⟨W1, HW⟩ : ∃ W1, Aside (W1 = w.alloc (.cells #[.int .u16 fr, .slice a0 n0 c0, .slice a1 Q.length c1, .slice a2 n2 c2, .slice a3 n3 c3] 28)) := ⟨_, ⟨rfl⟩⟩
  have hb1 : Aside (Below w.heap.size w W1 ∧ W1.heap[w.heap.size]? = some (.cells #[.int .u16 fr, .slice a0 n0 c0, .slice a1 Q.length c1, .slice a2 n2 c2, .slice a3 n3 c3] 28 (0, 0))) := ⟨by rw [HW.out]; exact ⟨lone _ _, heap_alloc_new _ _⟩⟩
  obtain ⟨p0, p1, p2, p3, p4⟩ := lbox5 hb1.out.2
  clear hp
  go_enter Tryd.func26, Tryd.ntmps26
  go_upto_region 1 with (fail)
  rw [← HW.out]
  go_wp2_with fail
  clear p0 p1 p2 p3 p4
  go_loopg [8] Q.length (fun q i wr => ∃ k : Nat, k ≤ Q.length ∧ q = Q.length - k ∧ i = .int .i64 k ∧ Aside (scan F k = none ∧ Below W1.heap.size W1 wr))
  case atStart => exact ⟨0, by omega, rfl, rfl, ⟨rfl, Below.refl _ _⟩⟩
  case round =>
    obtain ⟨k, hk, rfl, rfl, S⟩ := hrel
    by_cases hkl : k < Q.length
    · have hl := List.getElem?_eq_getElem hkl
      obtain ⟨x, hx⟩ : ∃ x, Q[k] = x := ⟨_, rfl⟩
      rw [hx] at hl
      have B0 := Aside.mk (lthen hb1.out.1 S.out.2)
      obtain ⟨ad, sv, pv, rfl, d0, d1, d2, d3, d4, d5, ok⟩ := Parts.at_ (elems_below HQ.out B0.out) k x hl
      obtain ⟨sa, sc, pa, pc, es, ep, _, _⟩ := ok.lens
      have HEk := HE.out k x hl
      obtain ⟨W2, HW2⟩ : ∃ W2, Aside (W2 = wr.alloc (.cells #[sv, .int .u8 (PartR.events x), pv, .int .u8 (PartR.a0 x), .int .u8 (PartR.a1 x), .int .u8 (PartR.a2 x)] 54)) := ⟨_, ⟨rfl⟩⟩
      have B2 : Aside (Below W1.heap.size W1 W2) := ⟨by rw [HW2.out]; exact lthen S.out.2 (lone _ _)⟩
      have HX : Aside (W2.heap[wr.heap.size]? = some (.cells #[sv, .int .u8 (PartR.events x), pv, .int .u8 (PartR.a0 x), .int .u8 (PartR.a1 x), .int .u8 (PartR.a2 x)] 54 (0, 0))) := ⟨by rw [HW2.out]; exact heap_alloc_new _ _⟩
      have KC := Aside.mk (pobject_any W2 sv pv x (ok.below (by rw [HW2.out]; exact lone _ _)))
      subst es ep
      obtain ⟨e0, e1, e2, e3, e4, e5⟩ := lbox6 HX.out
      obtain ⟨cb, hcb⟩ : ∃ cb, objectS x = cb := ⟨_, rfl⟩
      rw [hcb] at KC HEk
      have HEk := Aside.mk HEk
      clear hl hx ok hcb
      go_upto_region 4 with (fail)
      rw [← HW2.out]
      clear d0 d1 d2 d3 d4 d5
      go_wp2_with fail
      refine KC.out.mono ?_
      rintro e w5 ⟨rfl, b5⟩
      have B5 := Aside.mk (lthen B2.out b5)
      clear b5 e0 e1 e2 e3 e4 e5
      cases cb
      · have HN : Aside (scan F Q.length = some (51, (k : Int))) := ⟨scan_some S.out.1 (by rw [HEk.out, if_neg (by simp)]) hkl⟩
        go_wp2_with fail
        refine (fault_any 51 (k : Int) w5).mono ?_
        rintro e w6 ⟨r, rfl, hr, b6⟩
        have HR := Aside.mk (And.intro hr (lthen (lthen hb1.out.1 B5.out) b6))
        clear hr b6
        go_wp2_with fail
        go_ret
        exact ⟨_, rfl, by rw [HN.out]; exact HR.out.1, HR.out.2⟩
      · have HN : Aside (scan F (k + 1) = none) := ⟨by rw [scan_succ S.out.1, HEk.out, if_pos rfl]⟩
        go_wp2_with fail
        go_roundg (Q.length - (k + 1))
        case measure => omega
        case rel => exact ⟨k + 1, by omega, rfl, by go_num, ⟨HN.out, B5.out⟩⟩
    · obtain rfl : k = Q.length := by omega
      clear hkl hk
      go_wp2_with fail
      go_ret
      exact ⟨_, rfl, by rw [S.out.1]; rfl, lthen hb1.out.1 S.out.2⟩
set_option maxHeartbeats 3200000 in
set_option maxRecDepth 100000 in
theorem sizes_any (w : World) (v : Value) (P : Plan) (hv : PlanV w v P) : Calls Tryd.prog 21 #[v] w (ErrR w (sizesO P)) := by
  obtain ⟨a0, n0, c0, a1, n1, c1, a2, n2, c2, a3, n3, c3, rfl, hp⟩ := hv
  obtain ⟨_, _, q, hlen⟩ := hp.cores.len
  obtain ⟨rfl, rfl, rfl⟩ : a0 = _ ∧ n0 = _ ∧ c0 = _ := by injection q with q1 q2 q3; exact ⟨q1, q2, q3⟩
  clear q
  obtain ⟨_, _, q, hlen1⟩ := Elems.len hp.parts
  obtain ⟨rfl, rfl, rfl⟩ : a1 = _ ∧ n1 = _ ∧ c1 = _ := by injection q with q1 q2 q3; exact ⟨q1, q2, q3⟩
  clear q
  have HC := Aside.mk hp.cores
  have HS : Aside (sizesO P = if Plan.frame P = 0 then some (40, 0) else if (Plan.cores P).length < 1 ∨ 8 < (Plan.cores P).length then some (41, ((Plan.cores P).length : Int)) else if (Plan.parts P).length < 1 ∨ 64 < (Plan.parts P).length then some (42, ((Plan.parts P).length : Int)) else scan (manyF (Plan.cores P)) (Plan.cores P).length) := ⟨rfl⟩
  generalize sizesO P = so at *
  generalize Plan.frame P = fr at *
  generalize Plan.cores P = C at *
  obtain ⟨np, hnp⟩ : ∃ np, (Plan.parts P).length = np := ⟨_, rfl⟩
  rw [hnp] at hlen1 HS ⊢
  obtain ⟨W1, HW⟩ : ∃ W1, Aside (W1 = w.alloc (.cells #[.int .u16 fr, .slice a0 C.length c0, .slice a1 np c1, .slice a2 n2 c2, .slice a3 n3 c3] 28)) := ⟨_, ⟨rfl⟩⟩
  have hb1 : Aside (Below w.heap.size w W1 ∧ W1.heap[w.heap.size]? = some (.cells #[.int .u16 fr, .slice a0 C.length c0, .slice a1 np c1, .slice a2 n2 c2, .slice a3 n3 c3] 28 (0, 0))) := ⟨by rw [HW.out]; exact ⟨lone _ _, heap_alloc_new _ _⟩⟩
  obtain ⟨p0, p1, p2, p3, p4⟩ := lbox5 hb1.out.2
  have KW1 : Aside (∀ W, Calls Tryd.prog 36 #[.int .i64 (C.length : Int), .int .i64 1, .int .i64 8] W fun e w' => e = .returned (.bool (!decide (C.length < 1 ∨ 8 < C.length))) ∧ W = w') := ⟨fun W => by
    have h := within_any (C.length : Int) 1 8 W
    have e : (decide ((1 : Int) ≤ (C.length : Int)) && decide ((C.length : Int) ≤ 8)) = !decide (C.length < 1 ∨ 8 < C.length) := by
      rw [Bool.eq_iff_iff]; simp only [Bool.and_eq_true, Bool.not_eq_true', decide_eq_true_eq, decide_eq_false_iff_not]; omega
    rw [e] at h
    exact h⟩
  have KW2 : Aside (∀ W, Calls Tryd.prog 36 #[.int .i64 (np : Int), .int .i64 1, .int .i64 64] W fun e w' => e = .returned (.bool (!decide (np < 1 ∨ 64 < np))) ∧ W = w') := ⟨fun W => by
    have h := within_any (np : Int) 1 64 W
    have e : (decide ((1 : Int) ≤ (np : Int)) && decide ((np : Int) ≤ 64)) = !decide (np < 1 ∨ 64 < np) := by
      rw [Bool.eq_iff_iff]; simp only [Bool.and_eq_true, Bool.not_eq_true', decide_eq_true_eq, decide_eq_false_iff_not]; omega
    rw [e] at h
    exact h⟩
  clear hp hnp
  by_cases h1 : fr = 0
  · have HV := Aside.mk (HS.out.trans (if_pos h1))
    subst h1
    go_enter Tryd.func21, Tryd.ntmps21
    go_upto_region 1 with (fail)
    rw [← HW.out]
    go_wp2_with fail
    refine (fault_any 40 0 W1).mono ?_
    rintro e w6 ⟨r, rfl, hr, b6⟩
    have HR := Aside.mk (And.intro hr (lthen hb1.out.1 b6))
    clear hr b6
    go_wp2_with fail
    go_ret
    exact ⟨_, rfl, by rw [HV.out]; exact HR.out.1, HR.out.2⟩
  · have n1 : (fr == 0) = false := beq_eq_false_iff_ne.2 h1
    have HS2 := Aside.mk (HS.out.trans (if_neg h1))
    clear h1
    obtain ⟨b1, hb⟩ : ∃ b1, decide (C.length < 1 ∨ 8 < C.length) = b1 := ⟨_, rfl⟩
    rw [hb] at KW1
    cases b1
    · have HC8 : C.length ≤ 8 := by have := of_decide_eq_false hb; omega
      have HS3 := Aside.mk (HS2.out.trans (if_neg (of_decide_eq_false hb)))
      clear hb
      obtain ⟨b2, hb⟩ : ∃ b2, decide (np < 1 ∨ 64 < np) = b2 := ⟨_, rfl⟩
      rw [hb] at KW2
      cases b2
      · have HS4 := Aside.mk (HS3.out.trans (if_neg (of_decide_eq_false hb)))
        clear hb
        go_enter Tryd.func21, Tryd.ntmps21
        go_upto_region 1 with (fail)
        rw [← HW.out]
        go_wp2_with fail
        refine (KW1.out _).mono ?_
        rintro e w5 ⟨rfl, rfl⟩
        go_wp2_with fail
        refine (KW2.out _).mono ?_
        rintro e w5 ⟨rfl, rfl⟩
        go_wp2_with fail
        clear p0 p1 p2 p3 p4
        go_loopg [33] C.length (fun q i wr => ∃ k : Nat, k ≤ C.length ∧ q = C.length - k ∧ i = .int .i64 k ∧ W1 = wr ∧ Aside (scan (manyF C) k = none))
        case atStart => exact ⟨0, by omega, rfl, rfl, rfl, ⟨rfl⟩⟩
        case round =>
          obtain ⟨k, hk, rfl, rfl, rfl, S⟩ := hrel
          by_cases hkl : k < C.length
          · have hl := List.getElem?_eq_getElem hkl
            obtain ⟨L, hL⟩ : ∃ L, C[k] = L := ⟨_, rfl⟩
            rw [hL] at hl
            obtain ⟨ad, lv, rfl, hlv, hwins⟩ := (HC.out.below hb1.out.1).at_ k L hl
            obtain ⟨la, lc, rfl, hlL⟩ := hwins.len
            have HM : Aside (manyF C k = if 256 < L.length then some (43, (k : Int)) else none) := ⟨by rw [manyF, List.getD_eq_getElem?_getD, hl]; rfl⟩
            clear hl hL hwins
            by_cases h256 : 256 < L.length
            · have h256' : (256 : Int) < (L.length : Int) := by omega
              have HN : Aside (so = some (43, (k : Int))) := ⟨by rw [HS4.out]; exact scan_some S.out (by rw [HM.out, if_pos h256]) hkl⟩
              go_wp2_with fail
              refine (fault_any 43 (k : Int) W1).mono ?_
              rintro e w6 ⟨r, rfl, hr, b6⟩
              have HR := Aside.mk (And.intro hr (lthen hb1.out.1 b6))
              clear hr b6
              go_wp2_with fail
              go_ret
              exact ⟨_, rfl, by rw [HN.out]; exact HR.out.1, HR.out.2⟩
            · have h256' : ¬ (256 : Int) < (L.length : Int) := by omega
              have HN : Aside (scan (manyF C) (k + 1) = none) := ⟨by rw [scan_succ S.out, HM.out, if_neg h256]⟩
              go_wp2_with fail
              go_roundg (C.length - (k + 1))
              case measure => omega
              case rel => exact ⟨k + 1, by omega, rfl, by go_num, rfl, HN⟩
          · obtain rfl : k = C.length := by omega
            clear hkl hk
            go_wp2_with fail
            go_ret
            exact ⟨_, rfl, by rw [HS4.out, S.out]; rfl, hb1.out.1⟩
      · have HV := Aside.mk (HS3.out.trans (if_pos (of_decide_eq_true hb)))
        clear hb
        go_enter Tryd.func21, Tryd.ntmps21
        go_upto_region 1 with (fail)
        rw [← HW.out]
        go_wp2_with fail
        refine (KW1.out _).mono ?_
        rintro e w5 ⟨rfl, rfl⟩
        go_wp2_with fail
        refine (KW2.out _).mono ?_
        rintro e w5 ⟨rfl, rfl⟩
        go_wp2_with fail
        refine (fault_any 42 (np : Int) W1).mono ?_
        rintro e w6 ⟨r, rfl, hr, b6⟩
        have HR := Aside.mk (And.intro hr (lthen hb1.out.1 b6))
        clear hr b6
        go_wp2_with fail
        go_ret
        exact ⟨_, rfl, by rw [HV.out]; exact HR.out.1, HR.out.2⟩
    · have HV := Aside.mk (HS2.out.trans (if_pos (of_decide_eq_true hb)))
      clear hb
      go_enter Tryd.func21, Tryd.ntmps21
      go_upto_region 1 with (fail)
      rw [← HW.out]
      go_wp2_with fail
      refine (KW1.out _).mono ?_
      rintro e w5 ⟨rfl, rfl⟩
      go_wp2_with fail
      refine (fault_any 41 (C.length : Int) W1).mono ?_
      rintro e w6 ⟨r, rfl, hr, b6⟩
      have HR := Aside.mk (And.intro hr (lthen hb1.out.1 b6))
      clear hr b6
      go_wp2_with fail
      go_ret
      exact ⟨_, rfl, by rw [HV.out]; exact HR.out.1, HR.out.2⟩
end Go.Proofs.YtpcjjmjmigibhaaDoor
