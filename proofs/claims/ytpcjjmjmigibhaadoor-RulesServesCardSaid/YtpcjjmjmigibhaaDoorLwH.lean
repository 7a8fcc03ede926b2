/- Layer 4's laws: RulesServes. -/
import Derived.Test.YtpcjjmjmigibhaaDoorLwG
namespace Go.Proofs.YtpcjjmjmigibhaaDoor
open Go.RowKit
set_option linter.unusedVariables false
set_option linter.unusedSimpArgs false

set_option maxHeartbeats 6400000 in
set_option maxRecDepth 100000 in
theorem rserves_any (w : World) (v : Value) (P : Plan) (t : Int) (t0 : 0 ≤ t) (t1 : t ≤ 65535) (hg : ETy w) (hv : PlanV w v P) : Calls Tryd.prog 6 #[v, .int .u16 t] w fun e w' => e = .returned (.bool true) ∧ Below w.heap.size w w' := by
  obtain ⟨a0, c0, a1, c1, a2, c2, a3, c3, rfl, hp⟩ := planV_lens hv
  have HOK := Aside.mk (plan_ok hv)
  have HG := Aside.mk hg
  have HV := Aside.mk hv
  have HP := Aside.mk hp
  obtain ⟨W1, HW⟩ : ∃ W1, Aside (W1 = w.alloc (.cells #[.int .u16 (Plan.frame P), .slice a0 (Plan.cores P).length c0, .slice a1 (Plan.parts P).length c1, .slice a2 (Plan.chans P).length c2, .slice a3 (Plan.pairs P).length c3] 28)) := ⟨_, ⟨rfl⟩⟩
  have hb1 : Aside (Below w.heap.size w W1 ∧ W1.heap[w.heap.size]? = some (.cells #[.int .u16 (Plan.frame P), .slice a0 (Plan.cores P).length c0, .slice a1 (Plan.parts P).length c1, .slice a2 (Plan.chans P).length c2, .slice a3 (Plan.pairs P).length c3] 28 (0, 0))) := ⟨by rw [HW.out]; exact ⟨lone _ _, heap_alloc_new _ _⟩⟩
  have KF := Aside.mk (fun W (h : Below w.heap.size w W) => few_any W _ P (HV.out.below h))
  have KP := Aside.mk (fun W (h : Below w.heap.size w W) => pcheck_any W _ P (HV.out.below h))
  have KA := Aside.mk (fun W (h : Below w.heap.size w W) => awake_any W (HG.out.below h))
  have HC := Aside.mk hp.cores
  have HQ := Aside.mk hp.pairs
  have HN : Aside (checkO P = none → ∀ c L, (Plan.cores P)[c]? = some L → Uniq L t ∧ (-1 ≤ servesS L t ∧ servesS L t < ((Plan.parts P).length : Int) ∧ (Plan.frame P ≤ t → servesS L t < 0)) ∧
      ∀ d M, (Plan.cores P)[d]? = some M → (d < c → 0 ≤ servesS L t → servesS L t = servesS M t → wOf L t = wOf M t ∧ Win.g (wOf L t) ≠ 0) ∧
        ∀ (i : Nat) q, (Plan.pairs P)[i]? = some q → 0 ≤ PairR.a q → 0 ≤ PairR.b q → ¬ (servesS L t = PairR.a q ∧ servesS M t = PairR.b q) ∧ ¬ (servesS L t = PairR.b q ∧ servesS M t = PairR.a q)) := ⟨fun h c L hc => by
    have R := rules_checkO h
    exact ⟨uniq_core R HOK.out hc t, serves_one R HOK.out hc t, fun d M hd => ⟨fun hlt => serves_two R HOK.out hc hd hlt t, fun i q hq q0 q1 => serves_clash R hc hd t hq ⟨q0, q1⟩⟩⟩⟩
  have hfr := hp.frame
  obtain ⟨hf0, hf1⟩ := hfr
  obtain ⟨_, _, _, hlC⟩ := hp.cores.len
  obtain ⟨_, _, _, hlQ⟩ := Elems.len hp.pairs
  have HOW : Aside (∀ c L, (Plan.cores P)[c]? = some L → ∀ x ∈ L, Win.Ok x) := ⟨fun c L hc => HOK.out L (List.mem_of_getElem? hc)⟩
  generalize checkO P = co at *
  generalize Plan.frame P = fr at *
  generalize Plan.cores P = C at *
  generalize Plan.chans P = H at *
  generalize Plan.parts P = A at *
  generalize Plan.pairs P = Q at *
  obtain ⟨p0, p1, p2, p3, p4⟩ := lbox5 hb1.out.2
  clear hp hg hv
  go_enter Tryd.func6, Tryd.ntmps6
  go_upto_region 1 with (fail)
  rw [← HW.out]
  go_wp2_with fail
  refine (KF.out _ hb1.out.1).mono ?_
  rintro e w2 ⟨b, rfl, b2⟩
  have B2 := Aside.mk (lthen hb1.out.1 b2)
  have X2 := Aside.mk (lup b2 hb1.out.2)
  clear b2 p0 p1 p2 p3 p4
  obtain ⟨p0, p1, p2, p3, p4⟩ := lbox5 X2.out
  cases b
  · go_wp2_with fail
    refine (KA.out _ B2.out).mono ?_
    rintro e w3 ⟨rfl, b3⟩
    have B3 := Aside.mk (lthen B2.out b3)
    clear b3 p0 p1 p2 p3 p4
    go_wp2_with fail
    go_ret
    exact ⟨rfl, B3.out⟩
  · go_wp2_with fail
    refine (KA.out _ B2.out).mono ?_
    rintro e w3 ⟨rfl, b3⟩
    have B3 := Aside.mk (lthen B2.out b3)
    have X3 := Aside.mk (lup b3 X2.out)
    clear b3 p0 p1 p2 p3 p4
    obtain ⟨p0, p1, p2, p3, p4⟩ := lbox5 X3.out
    go_wp2_with fail
    refine (KP.out _ B3.out).mono ?_
    rintro e w4 ⟨r, rfl, hr, b4⟩
    have B4 := Aside.mk (lthen B3.out b4)
    have X4 := Aside.mk (lup b4 X3.out)
    clear b4 p0 p1 p2 p3 p4
    obtain ⟨p0, p1, p2, p3, p4⟩ := lbox5 X4.out
    rcases errF_cases hr with ⟨e1, rfl⟩ | ⟨e1, f, rfl⟩
    rotate_left
    · clear hr e1
      go_wp2_with fail
      refine (KA.out _ B4.out).mono ?_
      rintro e w5 ⟨rfl, b5⟩
      have B5 := Aside.mk (lthen B4.out b5)
      clear b5 p0 p1 p2 p3 p4
      go_wp2_with fail
      go_ret
      exact ⟨rfl, B5.out⟩
    have HN := Aside.mk (HN.out e1)
    clear hr e1
    go_wp2_with fail
    clear p0 p1 p2 p3 p4
    go_loopg [5] C.length (fun q i wr => ∃ k : Nat, k ≤ C.length ∧ q = C.length - k ∧ i = .int .i64 k ∧ Aside (Below w4.heap.size w4 wr))
    case atStart => exact ⟨0, by omega, rfl, rfl, ⟨Below.refl _ _⟩⟩
    case round =>
      obtain ⟨c, hc, rfl, rfl, S⟩ := hrel
      obtain ⟨p0, p1, p2, p3, p4⟩ := lbox5 (lup S.out X4.out)
      by_cases hcl : c < C.length
      · have hl := List.getElem?_eq_getElem hcl
        obtain ⟨L, hL⟩ : ∃ L, C[c] = L := ⟨_, rfl⟩
        rw [hL] at hl
        obtain ⟨ad, lv, rfl, hlv, hwins⟩ := (HC.out.below (lthen B4.out S.out)).at_ c L hl
        obtain ⟨hu, ⟨f1, f2, f3⟩, FN⟩ := HN.out c L hl
        have FN := Aside.mk FN
        have KS := Aside.mk (lserves_any wr lv L t hwins hu)
        have OV := Aside.mk (wOf_ok (HOW.out c L hl) t)
        obtain ⟨la, lc, rfl, hlL⟩ := hwins.len
        obtain ⟨a, ha⟩ : ∃ a, servesS L t = a := ⟨_, rfl⟩
        obtain ⟨V, hV⟩ : ∃ V, wOf L t = V := ⟨_, rfl⟩
        rw [ha] at f1 f2 f3
        rw [ha, hV] at FN KS
        rw [hV] at OV
        clear ha hV hl hL hwins hu
        go_wp2_with fail
        refine KS.out.mono ?_
        rintro e w5 ⟨rfl, b5⟩
        obtain ⟨W2, HW2⟩ : ∃ W2, Aside (W2 = w5.alloc (.cells (winOf V) 39)) := ⟨_, ⟨rfl⟩⟩
        have B5 : Aside (Below w4.heap.size w4 W2) := ⟨by rw [HW2.out]; exact lthen (lthen S.out b5) (lone _ _)⟩
        have XV : Aside (W2.heap[w5.heap.size]? = some (.cells (winOf V) 39 (0, 0))) := ⟨by rw [HW2.out]; exact heap_alloc_new _ _⟩
        clear b5 p0 p1 p2 p3 p4 hlv KS
        have m1 : ¬ a < -1 := by omega
        have m2 : ¬ (A.length : Int) ≤ a := by omega
        unfold Win.val
        unfold winOf at HW2
        go_upto_region 9 with (fail)
        rw [← HW2.out]
        obtain ⟨p0, p1, p2, p3, p4⟩ := lbox5 (lup B5.out X4.out)
        have hfa : (fr ≤ t ∧ ¬ 0 ≤ a) ∨ (¬ fr ≤ t) := by omega
        clear f1 f2 f3
        have X5 := Aside.mk (lup B5.out X4.out)
        go_cut [64] (fun s wc => s = .bool false ∧ W2 = wc)
        case first =>
          rcases hfa with ⟨h1, h2⟩ | h1
          all_goals
            go_wp2_with fail
            go_meet
            case rel => exact ⟨by simp [m1, m2], rfl⟩
        case rest =>
          obtain ⟨rfl, rfl⟩ := hcut
          clear hfa m1 m2 p0 p1 p2 p3 p4
          go_wp2_with fail
          go_loopg [8] c (fun q i wr => ∃ d : Nat, d ≤ c ∧ q = c - d ∧ i = .int .i64 d ∧ Aside (Below W2.heap.size W2 wr))
          case atStart => exact ⟨0, by omega, rfl, rfl, ⟨Below.refl _ _⟩⟩
          case round =>
            obtain ⟨d, hd, rfl, rfl, T⟩ := hrel
            by_cases hdc : d < c
            · have hl := List.getElem?_eq_getElem (show d < C.length by omega)
              obtain ⟨M, hM⟩ : ∃ M, C[d] = M := ⟨_, rfl⟩
              rw [hM] at hl
              obtain ⟨p0, p1, p2, p3, p4⟩ := lbox5 (lup T.out X5.out)
              obtain ⟨ad2, lv2, e2, hlv, hwins⟩ := (HC.out.below (lthen (lthen B4.out B5.out) T.out)).at_ d M hl
              obtain rfl : ad = ad2 := by injection e2
              obtain ⟨hu, _, _⟩ := HN.out d M hl
              obtain ⟨F1, F2⟩ := FN.out d M hl
              have KS := Aside.mk (lserves_any wr lv2 M t hwins hu)
              have OU := Aside.mk (wOf_ok (HOW.out d M hl) t)
              obtain ⟨la2, lc2, rfl, hlM⟩ := hwins.len
              obtain ⟨b, hb⟩ : ∃ b, servesS M t = b := ⟨_, rfl⟩
              obtain ⟨U, hU⟩ : ∃ U, wOf M t = U := ⟨_, rfl⟩
              rw [hb, hU] at F1 KS
              rw [hb] at F2
              rw [hU] at OU
              have F2 := Aside.mk F2
              have F1 := Aside.mk (F1 hdc)
              clear hb hU hl hM hwins hu e2
              have d0 : (d : Int) < (c : Int) := by omega
              have d1 : (d : Int) < (C.length : Int) := by omega
              go_wp2_with fail
              refine KS.out.mono ?_
              rintro e w6 ⟨rfl, b6⟩
              obtain ⟨W3, HW3⟩ : ∃ W3, Aside (W3 = w6.alloc (.cells (winOf U) 39)) := ⟨_, ⟨rfl⟩⟩
              have B6 : Aside (Below W2.heap.size W2 W3) := ⟨by rw [HW3.out]; exact lthen (lthen T.out b6) (lone _ _)⟩
              have XU : Aside (W3.heap[w6.heap.size]? = some (.cells (winOf U) 39 (0, 0))) := ⟨by rw [HW3.out]; exact heap_alloc_new _ _⟩
              have XV3 : Aside (W3.heap[w5.heap.size]? = some (.cells (winOf V) 39 (0, 0))) := ⟨lup B6.out XV.out⟩
              clear b6 p0 p1 p2 p3 p4 hlv KS
              unfold Win.val
              unfold winOf at HW3
              go_upto_region 15 with (fail)
              rw [← HW3.out]
              go_cut [97] (fun s wc => s = .bool false ∧ W3 = wc)
              case first =>
                by_cases h0 : 0 ≤ a
                · by_cases h1 : a = b
                  · obtain ⟨h2, h3⟩ := F1.out h0 h1
                    subst h1 h2
                    have h4 : (Win.g V == 0) = false := beq_eq_false_iff_ne.2 h3
                    obtain ⟨x0, x1, x2, x3⟩ := lbox4 XV3.out
                    obtain ⟨y0, y1, y2, y3⟩ := lbox4 XU.out
                    clear h3
                    go_wp2_with fail
                    go_meet
                    case rel => exact ⟨rfl, rfl⟩
                  · have h2 : (a == b) = false := beq_eq_false_iff_ne.2 h1
                    clear h1
                    go_wp2_with fail
                    go_meet
                    case rel => exact ⟨rfl, rfl⟩
                · go_wp2_with fail
                  go_meet
                  case rel => exact ⟨rfl, rfl⟩
              case rest =>
                obtain ⟨rfl, rfl⟩ := hcut
                go_wp2_with fail
                go_loopg [11] Q.length (fun q i wr => ∃ k : Nat, k ≤ Q.length ∧ q = Q.length - k ∧ i = .int .i64 k ∧ Aside (Below W3.heap.size W3 wr))
                case atStart => exact ⟨0, by omega, rfl, rfl, ⟨Below.refl _ _⟩⟩
                case round =>
                  obtain ⟨k, hk, rfl, rfl, Y⟩ := hrel
                  obtain ⟨p0, p1, p2, p3, p4⟩ := lbox5 (lup Y.out (lup B6.out X5.out))
                  by_cases hkl : k < Q.length
                  · have hl := List.getElem?_eq_getElem hkl
                    obtain ⟨q, hq⟩ : ∃ q, Q[k] = q := ⟨_, rfl⟩
                    rw [hq] at hl
                    obtain ⟨ad3, rfl, z0, z1, okq⟩ := Pairs.at_ (elems_below HQ.out (lthen (lthen (lthen B4.out B5.out) B6.out) Y.out)) k q hl
                    obtain ⟨⟨o0, o1⟩, ⟨o2, o3⟩⟩ := okq
                    obtain ⟨G1, G2⟩ := F2.out k q hl o0 o2
                    generalize PairR.a q = x at *
                    generalize PairR.b q = y at *
                    obtain ⟨b1, hb1⟩ : ∃ b1, (a == x) = b1 := ⟨_, rfl⟩
                    obtain ⟨b2, hb2⟩ : ∃ b2, (b == y) = b2 := ⟨_, rfl⟩
                    obtain ⟨b3, hb3⟩ : ∃ b3, (a == y) = b3 := ⟨_, rfl⟩
                    obtain ⟨b4, hb4⟩ : ∃ b4, (b == x) = b4 := ⟨_, rfl⟩
                    have hc1 : (b1 && b2) = false := by
                      rw [← hb1, ← hb2]
                      simpa using G1
                    have hc2 : (b3 && b4) = false := by
                      rw [← hb3, ← hb4]
                      simpa using G2
                    have wx : IntKind.i64.wrap x = x := IntWalk.i64_in _ (by omega)
                    have wy : IntKind.i64.wrap y = y := IntWalk.i64_in _ (by omega)
                    clear G1 G2 hl hq
                    go_upto_region 20 with (fail)
                    go_quiet (fail)
                    clear p0 p1 p2 p3 p4 z0 z1 wx wy
                    have Y2 : Aside (Below W3.heap.size W3 (wr.drewN nq)) := ⟨lthen Y.out (below_drewN _ _)⟩
                    cases b1 <;> cases b2 <;> cases b3 <;> cases b4
                    all_goals first
                      | (exfalso; revert hc1; decide)
                      | (exfalso; revert hc2; decide)
                      | skip
                    all_goals
                      clear hc1 hc2
                      go_wp2_with fail
                      go_roundg (Q.length - (k + 1))
                      case measure => omega
                      case rel => exact ⟨k + 1, by omega, rfl, by go_num, Y2⟩
                  · obtain rfl : k = Q.length := by omega
                    clear hkl hk
                    go_wp2_with fail
                    go_roundg (c - (d + 1))
                    case measure => omega
                    case rel => exact ⟨d + 1, by omega, rfl, by go_num, ⟨lthen B6.out Y.out⟩⟩
            · obtain rfl : d = c := by omega
              go_wp2_with fail
              go_roundg (C.length - (d + 1))
              case measure => omega
              case rel => exact ⟨d + 1, by omega, rfl, by go_num, ⟨lthen B5.out T.out⟩⟩
      · obtain rfl : c = C.length := by omega
        clear hcl hc
        go_wp2_with fail
        go_ret
        exact ⟨rfl, lthen B4.out S.out⟩
end Go.Proofs.YtpcjjmjmigibhaaDoor
