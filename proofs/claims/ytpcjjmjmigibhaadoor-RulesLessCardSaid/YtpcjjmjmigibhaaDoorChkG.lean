/- The program's rules: pairs that exclude each other. -/
import Derived.Test.YtpcjjmjmigibhaaDoorChkF
namespace Go.Proofs.YtpcjjmjmigibhaaDoor
open Go.RowKit
set_option linter.unusedVariables false
set_option linter.unusedSimpArgs false

theorem Elems.take_ {α : Type} {w : World} {n : Nat} {R : World → List Value → α → Prop} {a : Option Addr} {m cap : Nat} {L : List α} (h : Elems w n R (.slice a m cap) L) (i : Nat) (hi : i ≤ L.length) : Elems w n R (.slice a i cap) (L.take i) := by
  obtain ⟨a', cap', e, h1, h2, h3⟩ := h
  cases e
  have hl : (L.take i).length = i := by rw [List.length_take]; omega
  refine ⟨a, cap, by rw [hl], by omega, h2, fun hp => ?_⟩
  rw [hl] at hp
  obtain ⟨ad, rfl, h4⟩ := h3 (by omega)
  refine ⟨ad, rfl, fun j hj => ?_⟩
  rw [hl] at hj
  obtain ⟨cs, e, hc, hr⟩ := h4 j (by omega)
  exact ⟨cs, e, hc, by rw [List.getElem_take]; exact hr⟩
theorem Elems.cap_ {α : Type} {w : World} {m : Nat} {R : World → List Value → α → Prop} {a : Option Addr} {n cap : Nat} {L : List α} (h : Elems w m R (.slice a n cap) L) : n = L.length ∧ L.length ≤ cap ∧ cap ≤ 9223372036854775807 := by
  obtain ⟨a', cap', e, h1, h2, h3⟩ := h
  cases e
  exact ⟨rfl, h1, h2⟩
set_option maxHeartbeats 6400000 in
set_option maxRecDepth 100000 in
theorem excluded_any (w : World) (v : Value) (P : Plan) (hv : PlanV w v P) (hC8 : (Plan.cores P).length ≤ 8) (hC256 : ∀ L ∈ Plan.cores P, L.length ≤ 256) :
    Calls Tryd.prog 24 #[v] w (ErrR w (scan (pairF ((Plan.parts P).length : Int) (allS (Plan.cores P)) (Plan.pairs P)) (Plan.pairs P).length)) := by
  have hv0 := hv
  obtain ⟨a0, n0, c0, a1, n1, c1, a2, n2, c2, a3, n3, c3, rfl, hp⟩ := hv
  obtain ⟨_, _, q, hlen1⟩ := Elems.len hp.parts
  obtain ⟨rfl, rfl, rfl⟩ : a1 = _ ∧ n1 = _ ∧ c1 = _ := by injection q with q1 q2 q3; exact ⟨q1, q2, q3⟩
  clear q
  obtain ⟨_, _, q, hlen3⟩ := Elems.len hp.pairs
  obtain ⟨rfl, rfl, rfl⟩ : a3 = _ ∧ n3 = _ ∧ c3 = _ := by injection q with q1 q2 q3; exact ⟨q1, q2, q3⟩
  clear q
  have HQ := Aside.mk hp.pairs
  have KC := Aside.mk (fun W (h : Below w.heap.size w W) x => clash_any W _ P (hv0.below h) hC8 hC256 x)
  have HE : Aside (∀ i x, (Plan.pairs P)[i]? = some x → pairF ((Plan.parts P).length : Int) (allS (Plan.cores P)) (Plan.pairs P) i = if badB ((Plan.parts P).length : Int) (Plan.pairs P) i x = true then some (48, (i : Int)) else if (clashQ (Plan.cores P) x).isSome = true then some (49, (i : Int)) else none) := ⟨fun i x h => pair_eq _ _ _ _ _ h⟩
  generalize pairF ((Plan.parts P).length : Int) (allS (Plan.cores P)) (Plan.pairs P) = F at *
  generalize Plan.frame P = fr at *
  generalize Plan.pairs P = Q at *
  obtain ⟨np, hnp⟩ : ∃ np, (Plan.parts P).length = np := ⟨_, rfl⟩
  rw [hnp] at KC HE hlen1 ⊢
  obtain ⟨W1, HW⟩ : ∃ W1, Aside (W1 = w.alloc (.cells #[.int .u16 fr, .slice a0 n0 c0, .slice a1 np c1, .slice a2 n2 c2, .slice a3 Q.length c3] 28)) := ⟨_, ⟨rfl⟩⟩
  have hb1 : Aside (Below w.heap.size w W1 ∧ W1.heap[w.heap.size]? = some (.cells #[.int .u16 fr, .slice a0 n0 c0, .slice a1 np c1, .slice a2 n2 c2, .slice a3 Q.length c3] 28 (0, 0))) := ⟨by rw [HW.out]; exact ⟨lone _ _, heap_alloc_new _ _⟩⟩
  obtain ⟨p0, p1, p2, p3, p4⟩ := lbox5 hb1.out.2
  have hcap := HQ.out.cap_
  obtain ⟨_, hcap1, hcap2⟩ := hcap
  clear hp hv0 hC8 hC256 hnp
  go_enter Tryd.func24, Tryd.ntmps24
  go_upto_region 1 with (fail)
  rw [← HW.out]
  go_wp2_with fail
  clear p0 p1 p2 p3 p4
  go_loopg [11] Q.length (fun q i wr => ∃ k : Nat, k ≤ Q.length ∧ q = Q.length - k ∧ i = .int .i64 k ∧ Aside (scan F k = none ∧ Below W1.heap.size W1 wr))
  case atStart => exact ⟨0, by omega, rfl, rfl, ⟨rfl, Below.refl _ _⟩⟩
  case round =>
    obtain ⟨k, hk, rfl, rfl, S⟩ := hrel
    by_cases hkl : k < Q.length
    · have hl := List.getElem?_eq_getElem hkl
      obtain ⟨x, hx⟩ : ∃ x, Q[k] = x := ⟨_, rfl⟩
      rw [hx] at hl
      have B0 := Aside.mk (lthen hb1.out.1 S.out.2)
      obtain ⟨ad, rfl, d0, d1, ok⟩ := Pairs.at_ (elems_below HQ.out B0.out) k x hl
      obtain ⟨A1, A2⟩ := ok.a
      obtain ⟨A3, A4⟩ := ok.b
      have HL := Aside.mk hl
      have HEk := Aside.mk (HE.out k x hl)
      obtain ⟨W2, HW2⟩ : ∃ W2, Aside (W2 = wr.alloc (.cells #[.int .u8 (PairR.a x), .int .u8 (PairR.b x)] 45)) := ⟨_, ⟨rfl⟩⟩
      have B2 : Aside (Below W1.heap.size W1 W2) := ⟨by rw [HW2.out]; exact lthen S.out.2 (lone _ _)⟩
      have HX : Aside (W2.heap[wr.heap.size]? = some (.cells #[.int .u8 (PairR.a x), .int .u8 (PairR.b x)] 45 (0, 0))) := ⟨by rw [HW2.out]; exact heap_alloc_new _ _⟩
      obtain ⟨e0, e1⟩ := lbox2 HX.out
      obtain ⟨p0, p1, p2, p3, p4⟩ := lbox5 (lup B2.out hb1.out.2)
      obtain ⟨a, ha⟩ : ∃ a, PairR.a x = a := ⟨_, rfl⟩
      obtain ⟨b, hb⟩ : ∃ b, PairR.b x = b := ⟨_, rfl⟩
      have HBad : Aside (∀ j, dupB x (Q.take j) = dupB x (Q.take j) ∧ badB np Q k x = (decide ((np : Int) ≤ b) || decide (b ≤ a) || dupB x (Q.take k))) := ⟨fun j => ⟨rfl, by rw [badB, ha, hb]⟩⟩
      have HAB := Aside.mk (And.intro ha hb)
      have KC2 := Aside.mk (fun W (h : Below W1.heap.size W1 W) => KC.out W (lthen hb1.out.1 h) x)
      unfold PairR.val at KC2
      rw [ha] at d0 e0 HW2 HX A1 A2 KC2
      rw [hb] at d1 e1 HW2 HX A3 A4 KC2
      have w1 : IntKind.i64.wrap b = b := IntWalk.i64_in _ (by omega)
      have i1 : (0 : Int) ≤ (k : Int) := by omega
      have i2 : (k : Int) ≤ (c3 : Int) := by omega
      clear hl hx ok ha hb
      obtain ⟨b0, hb0⟩ : ∃ b0, (decide ((np : Int) ≤ b) || decide (b ≤ a)) = b0 := ⟨_, rfl⟩
      have HB0 := Aside.mk hb0
      clear hb0
      go_upto_region 4 with (fail)
      rw [← HW2.out]
      go_cut [5] (fun y wc => y = .bool b0 ∧ W2 = wc)
      case first =>
        by_cases h1 : (np : Int) ≤ b
        · have H1 : Aside (b0 = true) := ⟨by rw [← HB0.out]; simp [h1]⟩
          go_wp2_with fail
          go_meet
          case rel => exact ⟨by rw [H1.out], rfl⟩
        · by_cases h2 : b ≤ a
          · have H1 : Aside (b0 = true) := ⟨by rw [← HB0.out]; simp [h2]⟩
            go_wp2_with fail
            go_meet
            case rel => exact ⟨by rw [H1.out], rfl⟩
          · have H1 : Aside (b0 = false) := ⟨by rw [← HB0.out]; simp [h1, h2]⟩
            go_wp2_with fail
            go_meet
            case rel => exact ⟨by rw [H1.out], rfl⟩
      case rest =>
        obtain ⟨rfl, rfl⟩ := hcut
        clear e0 e1 d0 d1 p0 p1 p2 p3
        go_wp2_with fail
        clear p4
        go_loopg [5, 35] k (fun q s5 i wr => ∃ j : Nat, j ≤ k ∧ q = k - j ∧ i = .int .i64 j ∧ s5 = .bool (b0 || dupB x (Q.take j)) ∧ Aside (Below W2.heap.size W2 wr))
        case atStart => exact ⟨0, by omega, rfl, rfl, by simp [dupB], ⟨Below.refl _ _⟩⟩
        case round =>
          obtain ⟨j, hj, rfl, rfl, rfl, T⟩ := hrel
          have B3 := Aside.mk (lthen hb1.out.1 (lthen B2.out T.out))
          have HX3 := Aside.mk (lup T.out HX.out)
          obtain ⟨e0, e1⟩ := lbox2 HX3.out
          by_cases hjl : j < k
          · have hl := List.getElem?_eq_getElem (show j < Q.length by omega)
            obtain ⟨y, hy⟩ : ∃ y, Q[j]'(by omega) = y := ⟨_, rfl⟩
            rw [hy] at hl
            obtain ⟨ad2, ead, d0, d1, ok⟩ := Pairs.at_ (elems_below HQ.out B3.out) j y hl
            obtain rfl : ad = ad2 := Option.some.inj ead
            have HD := Aside.mk (dupB_snoc hl x)
            obtain ⟨ya, hya⟩ : ∃ ya, PairR.a y = ya := ⟨_, rfl⟩
            obtain ⟨yb, hyb⟩ : ∃ yb, PairR.b y = yb := ⟨_, rfl⟩
            rw [hya] at d0 HD
            rw [hyb] at d1 HD
            rw [HAB.out.1, HAB.out.2] at HD
            obtain ⟨db, hdb⟩ : ∃ db, (b0 || dupB x (Q.take j)) = db := ⟨_, rfl⟩
            rw [hdb]
            have HDB := Aside.mk hdb
            clear hl hy ok ead hya hyb hdb
            have fin : Aside (∀ r : Bool, r = (decide (ya = a) && decide (yb = b)) → (db || r) = (b0 || dupB x (Q.take (j + 1)))) := ⟨by
              rintro r rfl
              rw [HD.out, ← HDB.out, Bool.or_assoc]⟩
            obtain ⟨W3, HW3⟩ : ∃ W3, Aside (W3 = wr.alloc (.cells #[.int .u8 ya, .int .u8 yb] 45)) := ⟨_, ⟨rfl⟩⟩
            have B4 : Aside (Below W2.heap.size W2 W3) := ⟨by rw [HW3.out]; exact lthen T.out (lone _ _)⟩
            have HX4 := Aside.mk (lup B4.out HX.out)
            have HY4 : Aside (W3.heap[wr.heap.size]? = some (.cells #[.int .u8 ya, .int .u8 yb] 45 (0, 0))) := ⟨by rw [HW3.out]; exact heap_alloc_new _ _⟩
            clear e0 e1
            obtain ⟨e0, e1⟩ := lbox2 HX4.out
            obtain ⟨g0, g1⟩ := lbox2 HY4.out
            go_upto_region 8 with (fail)
            rw [← HW3.out]
            cases db
            · by_cases h1 : ya = a
              · by_cases h2 : yb = b
                · have HF := Aside.mk (fin.out true (by simp [h1, h2]))
                  subst h1 h2
                  go_wp2_with fail
                  go_roundg (k - (j + 1))
                  case measure => omega
                  case rel => exact ⟨j + 1, by omega, rfl, by go_num, by rw [← HF.out] <;> simp, B4⟩
                · have HF := Aside.mk (fin.out false (by simp [h2]))
                  have n2 : (b == yb) = false := by simp; exact fun h => h2 h.symm
                  subst h1
                  go_wp2_with fail
                  go_roundg (k - (j + 1))
                  case measure => omega
                  case rel => exact ⟨j + 1, by omega, rfl, by go_num, by rw [← HF.out] <;> simp, B4⟩
              · have HF := Aside.mk (fin.out false (by simp [h1]))
                have n1 : (a == ya) = false := by simp; exact fun h => h1 h.symm
                go_wp2_with fail
                go_roundg (k - (j + 1))
                case measure => omega
                case rel => exact ⟨j + 1, by omega, rfl, by go_num, by rw [← HF.out] <;> simp, B4⟩
            · have HF := Aside.mk (fin.out _ rfl)
              go_wp2_with fail
              go_roundg (k - (j + 1))
              case measure => omega
              case rel => exact ⟨j + 1, by omega, rfl, by go_num, by rw [← HF.out] <;> simp, B4⟩
          · obtain rfl : j = k := by omega
            have hbad := (HBad.out j).2
            rw [HB0.out] at hbad
            obtain ⟨bad, hb⟩ : ∃ bad, (b0 || dupB x (Q.take j)) = bad := ⟨_, rfl⟩
            rw [hb] at hbad ⊢
            rw [hbad] at HEk
            clear hjl hj hb hbad HBad
            cases bad
            · obtain ⟨p0, p1, p2, p3, p4⟩ := lbox5 (lup (lthen B2.out T.out) hb1.out.2)
              have KD := Aside.mk (KC2.out wr (lthen B2.out T.out))
              have HE2 := Aside.mk (HEk.out.trans (if_neg (by decide)))
              obtain ⟨cl, hcl⟩ : ∃ cl, (clashQ (Plan.cores P) x).isSome = cl := ⟨_, rfl⟩
              rw [hcl] at KD HE2
              clear hcl
              go_wp2_with fail
              refine KD.out.mono ?_
              rintro e w5 ⟨rfl, b5⟩
              have B5 := Aside.mk (lthen (lthen B2.out T.out) b5)
              clear b5 p0 p1 p2 p3 p4 e0 e1
              cases cl
              · have HN : Aside (scan F (j + 1) = none) := ⟨by rw [scan_succ S.out.1, HE2.out]; rfl⟩
                go_wp2_with fail
                go_roundg (Q.length - (j + 1))
                case measure => omega
                case rel => exact ⟨j + 1, by omega, rfl, by go_num, ⟨HN.out, B5.out⟩⟩
              · have HN : Aside (scan F Q.length = some (49, (j : Int))) := ⟨scan_some S.out.1 (by rw [HE2.out]; rfl) hkl⟩
                go_wp2_with fail
                refine (fault_any 49 (j : Int) w5).mono ?_
                rintro e w6 ⟨r, rfl, hr, b6⟩
                have HR := Aside.mk (And.intro hr (lthen (lthen hb1.out.1 B5.out) b6))
                clear hr b6
                go_wp2_with fail
                go_ret
                exact ⟨_, rfl, by rw [HN.out]; exact HR.out.1, HR.out.2⟩
            · have HN : Aside (scan F Q.length = some (48, (j : Int))) := ⟨scan_some S.out.1 (by rw [HEk.out]; rfl) hkl⟩
              clear e0 e1
              go_wp2_with fail
              refine (fault_any 48 (j : Int) wr).mono ?_
              rintro e w6 ⟨r, rfl, hr, b6⟩
              have HR := Aside.mk (And.intro hr (lthen B3.out b6))
              clear hr b6
              go_wp2_with fail
              go_ret
              exact ⟨_, rfl, by rw [HN.out]; exact HR.out.1, HR.out.2⟩
    · obtain rfl : k = Q.length := by omega
      clear hkl hk
      go_wp2_with fail
      go_ret
      exact ⟨_, rfl, by rw [S.out.1]; rfl, lthen hb1.out.1 S.out.2⟩
end Go.Proofs.YtpcjjmjmigibhaaDoor
