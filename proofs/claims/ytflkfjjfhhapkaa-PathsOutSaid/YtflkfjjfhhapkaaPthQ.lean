/- Paths: the law PathsOut. -/
import Derived.Test.YtflkfjjfhhapkaaPthN
namespace Go.Proofs.Ytflkfjjfhhapkaa
open Go.RowKit
set_option linter.unusedVariables false
set_option linter.unusedSimpArgs false

theorem path_sym (n : Nat) (H : List ChanR) (a b : Nat) (ha : a < n) (hb : b < n) : (outL n H a).getD b false = (intoL n H b).getD a false := by
  rw [Bool.eq_iff_iff, outL_get hb, intoL_get ha]
set_option maxHeartbeats 1600000 in
theorem outs_no (w : World) (v : Value) (P : Plan) (a b : Int) (hv : PlanV w v P) (hz : Sz P) (hq : inB (Plan.parts P).length a = false) : Calls Try.prog 4 #[v, .int .i64 a, .int .i64 b] w fun e w' => e = .returned (.bool true) ∧ Below w.heap.size w w' := by
  have HV := Aside.mk hv
  obtain ⟨a0, c0, a1, c1, a2, c2, a3, c3, rfl, hp, hlen⟩ := hv.open_
  obtain ⟨W1, HW⟩ : ∃ W1, Aside (W1 = w.alloc (.cells #[.int .u16 (Plan.frame P), .slice a0 (Plan.cores P).length c0, .slice a1 (Plan.parts P).length c1, .slice a2 (Plan.chans P).length c2, .slice a3 (Plan.pairs P).length c3] 28)) := ⟨_, ⟨rfl⟩⟩
  have hb1 : Aside (Below w.heap.size w W1 ∧ W1.heap[w.heap.size]? = some (.cells #[.int .u16 (Plan.frame P), .slice a0 (Plan.cores P).length c0, .slice a1 (Plan.parts P).length c1, .slice a2 (Plan.chans P).length c2, .slice a3 (Plan.pairs P).length c3] 28 (0, 0))) := ⟨by rw [HW.out]; exact ⟨bel_one _ _, heap_alloc_new _ _⟩⟩
  have K0 := Aside.mk (few_any W1 _ P (HV.out.below hb1.out.1) hz)
  have K1 : Aside (∀ W, Below w.heap.size w W → Calls Try.prog 15 #[.agg #[.int .u16 (Plan.frame P), .slice a0 (Plan.cores P).length c0, .slice a1 (Plan.parts P).length c1, .slice a2 (Plan.chans P).length c2, .slice a3 (Plan.pairs P).length c3], .int .i64 a] W (NoB W)) := ⟨fun W h => outof_out W _ P a (HV.out.below h) hq⟩
  have K2 : Aside (∀ W, Below w.heap.size w W → Calls Try.prog 16 #[.agg #[.int .u16 (Plan.frame P), .slice a0 (Plan.cores P).length c0, .slice a1 (Plan.parts P).length c1, .slice a2 (Plan.chans P).length c2, .slice a3 (Plan.pairs P).length c3], .int .i64 a, .int .i64 b] W (NoA W)) := ⟨fun W h => apart_no1 W _ P a b (HV.out.below h) hq⟩
  have K3 : Aside (∀ W, Below w.heap.size w W → Calls Try.prog 17 #[.agg #[.int .u16 (Plan.frame P), .slice a0 (Plan.cores P).length c0, .slice a1 (Plan.parts P).length c1, .slice a2 (Plan.chans P).length c2, .slice a3 (Plan.pairs P).length c3], .int .i64 a] W fun e w' => e = .returned (.bool false) ∧ Below W.heap.size W w') := ⟨fun W h => by
    have := ris_any W _ P a (HV.out.below h)
    rwa [hq] at this⟩
  clear hp hv hz hq
  go_enter Try.func4, Try.ntmps4
  go_wp2_with fail
  rw [← HW.out]
  refine K0.out.mono ?_
  rintro e w2 ⟨f, rfl, hF, b2⟩
  cases f with
  | false =>
    have B2 := Aside.mk (bel_then hb1.out.1 b2)
    clear b2 hF
    go_wp2_with fail
    refine (awake_any _).mono ?_
    rintro e w3 ⟨rfl, b3⟩
    have B3 := Aside.mk (bel_then B2.out b3)
    clear b3
    go_wp2_with fail
    go_ret
    exact ⟨rfl, B3.out⟩
  | true =>
    have S2 := Aside.mk (And.intro (bel_then hb1.out.1 b2) (hup b2 hb1.out.2))
    clear b2 hF
    obtain ⟨g0, g1, g2, g3, g4⟩ := box5 S2.out.2
    go_wp2_with fail
    refine (K1.out _ S2.out.1).mono ?_
    rintro e w3 ⟨rfl, b3⟩
    have S3 := Aside.mk (And.intro (bel_then S2.out.1 b3) (hup b3 S2.out.2))
    clear b3 g0 g1 g2 g3 g4
    obtain ⟨g0, g1, g2, g3, g4⟩ := box5 S3.out.2
    go_wp2_with fail
    refine (K2.out _ S3.out.1).mono ?_
    rintro e w4 ⟨rfl, b4⟩
    have S4 := Aside.mk (And.intro (bel_then S3.out.1 b4) (hup b4 S3.out.2))
    clear b4 g0 g1 g2 g3 g4
    obtain ⟨g0, g1, g2, g3, g4⟩ := box5 S4.out.2
    go_wp2_with fail
    refine (K3.out _ S4.out.1).mono ?_
    rintro e w5 ⟨rfl, b5⟩
    have S5 := Aside.mk (bel_then S4.out.1 b5)
    clear b5 g0 g1 g2 g3 g4
    go_wp2_with fail
    refine (awake_any _).mono ?_
    rintro e w6 ⟨rfl, b6⟩
    have B6 := Aside.mk (bel_then S5.out b6)
    clear b6
    go_wp2_with fail
    go_ret
    exact ⟨rfl, B6.out⟩

set_option maxHeartbeats 3200000 in
set_option maxRecDepth 100000 in
theorem outs_yes (w : World) (v : Value) (P : Plan) (a : Nat) (b : Int) (hv : PlanV w v P) (hz : Sz P) (ha : a < (Plan.parts P).length) : Calls Try.prog 4 #[v, .int .i64 (a : Int), .int .i64 b] w fun e w' => e = .returned (.bool true) ∧ Below w.heap.size w w' := by
  have HV := Aside.mk hv
  obtain ⟨a0, c0, a1, c1, a2, c2, a3, c3, rfl, hp, hlen⟩ := hv.open_
  obtain ⟨i0, i1⟩ := hp.frame
  have hlenN : (Plan.parts P).length ≤ 9223372036854775807 := (Elems.len hp.parts).choose_spec.choose_spec.2
  obtain ⟨W1, HW⟩ : ∃ W1, Aside (W1 = w.alloc (.cells #[.int .u16 (Plan.frame P), .slice a0 (Plan.cores P).length c0, .slice a1 (Plan.parts P).length c1, .slice a2 (Plan.chans P).length c2, .slice a3 (Plan.pairs P).length c3] 28)) := ⟨_, ⟨rfl⟩⟩
  have hb1 : Aside (Below w.heap.size w W1 ∧ W1.heap[w.heap.size]? = some (.cells #[.int .u16 (Plan.frame P), .slice a0 (Plan.cores P).length c0, .slice a1 (Plan.parts P).length c1, .slice a2 (Plan.chans P).length c2, .slice a3 (Plan.pairs P).length c3] 28 (0, 0))) := ⟨by rw [HW.out]; exact ⟨bel_one _ _, heap_alloc_new _ _⟩⟩
  have K0 := Aside.mk (few_any W1 _ P (HV.out.below hb1.out.1) hz)
  have hqa : inB (Plan.parts P).length (a : Int) = true := by rw [inB_iff]; omega
  have K1 : Aside (∀ W, Below w.heap.size w W → Few P → Calls Try.prog 15 #[.agg #[.int .u16 (Plan.frame P), .slice a0 (Plan.cores P).length c0, .slice a1 (Plan.parts P).length c1, .slice a2 (Plan.chans P).length c2, .slice a3 (Plan.pairs P).length c3], .int .i64 (a : Int)] W (SomeB W (outL (Plan.parts P).length (Plan.chans P) a))) := ⟨fun W h hf => outof_in W _ P a (HV.out.below h) ha (by have := hf.parts; omega)⟩
  have K2 : Aside (∀ W, Below w.heap.size w W → Few P → Calls Try.prog 16 #[.agg #[.int .u16 (Plan.frame P), .slice a0 (Plan.cores P).length c0, .slice a1 (Plan.parts P).length c1, .slice a2 (Plan.chans P).length c2, .slice a3 (Plan.pairs P).length c3], .int .i64 (a : Int), .int .i64 b] W (fun e w' => (inB (Plan.parts P).length b = false → NoA W e w') ∧ (∀ c : Nat, b = (c : Int) → c < (Plan.parts P).length → YesA W (apartB (Plan.parts P).length (Plan.chans P) a c) e w'))) := ⟨fun W h hf => apart_yes W _ P a b (HV.out.below h) ha (by have := hf.parts; omega)⟩
  have K3 : Aside (∀ W (x : Int), Below w.heap.size w W → Calls Try.prog 17 #[.agg #[.int .u16 (Plan.frame P), .slice a0 (Plan.cores P).length c0, .slice a1 (Plan.parts P).length c1, .slice a2 (Plan.chans P).length c2, .slice a3 (Plan.pairs P).length c3], .int .i64 x] W fun e w' => e = .returned (.bool (inB (Plan.parts P).length x)) ∧ Below W.heap.size W w') := ⟨fun W x h => ris_any W _ P x (HV.out.below h)⟩
  have KP : Aside (∀ W (x y : Nat), Below w.heap.size w W → Few P → x < (Plan.parts P).length → y < (Plan.parts P).length → Calls Try.prog 18 #[.agg #[.int .u16 (Plan.frame P), .slice a0 (Plan.cores P).length c0, .slice a1 (Plan.parts P).length c1, .slice a2 (Plan.chans P).length c2, .slice a3 (Plan.pairs P).length c3], .int .i64 (x : Int), .int .i64 (y : Int)] W fun e w' => e = .returned (.bool ((intoL (Plan.parts P).length (Plan.chans P) y).getD x false)) ∧ Below W.heap.size W w') := ⟨fun W x y h hf hx hy => rpath_any W _ P x y (HV.out.below h) hx hy (by have := hf.parts; omega)⟩
  obtain ⟨n, hn⟩ : ∃ n, (Plan.parts P).length = n := ⟨_, rfl⟩
  obtain ⟨H, hH⟩ : ∃ H, Plan.chans P = H := ⟨_, rfl⟩
  obtain ⟨fr, hfr⟩ : ∃ fr, Plan.frame P = fr := ⟨_, rfl⟩
  rw [hn] at K0 K1 K2 K3 KP HW hb1 ha hqa hlenN
  rw [hH] at K0 K1 K2 K3 KP HW hb1
  rw [hfr] at i0 i1 K0 K1 K2 K3 KP HW hb1
  rw [hn, hH, hfr]
  obtain ⟨LO, hLO⟩ : ∃ LO, outL n H a = LO := ⟨_, rfl⟩
  have hlO : LO.length = n := by rw [← hLO]; exact outL_len n H a
  rw [hLO] at K1
  have HS : Aside (∀ k, k < n → LO.getD k false = (intoL n H k).getD a false) := ⟨fun k hk => by rw [← hLO]; exact path_sym n H a k ha hk⟩
  have HA := Aside.mk hqa
  clear hp hv hz hn hH hfr hLO hqa
  go_enter Try.func4, Try.ntmps4
  go_wp2_with fail
  rw [← HW.out]
  refine K0.out.mono ?_
  rintro e w2 ⟨f, rfl, hF, b2⟩
  cases f with
  | false =>
    have B2 := Aside.mk (bel_then hb1.out.1 b2)
    clear b2 hF
    go_wp2_with fail
    refine (awake_any _).mono ?_
    rintro e w3 ⟨rfl, b3⟩
    have B3 := Aside.mk (bel_then B2.out b3)
    clear b3
    go_wp2_with fail
    go_ret
    exact ⟨rfl, B3.out⟩
  | true =>
    have F := Aside.mk (hF rfl)
    have S2 := Aside.mk (And.intro (bel_then hb1.out.1 b2) (hup b2 hb1.out.2))
    clear b2 hF
    obtain ⟨g0, g1, g2, g3, g4⟩ := box5 S2.out.2
    go_wp2_with fail
    refine (K1.out _ S2.out.1 F.out).mono ?_
    rintro e w3 ⟨v1, rfl, h1, b3⟩
    obtain ⟨A1, k1, rfl⟩ : ∃ A k, v1 = .slice A n k := by
      obtain ⟨A, k, e, _⟩ := h1
      exact ⟨A, k, by rw [e, hlO]⟩
    have S3 := Aside.mk (And.intro (bel_then S2.out.1 b3) (And.intro (hup b3 S2.out.2) h1))
    clear b3 h1 g0 g1 g2 g3 g4
    obtain ⟨g0, g1, g2, g3, g4⟩ := box5 S3.out.2.1
    go_wp2_with fail
    refine (K2.out _ S3.out.1 F.out).mono ?_
    rintro e w4 hap
    obtain ⟨d, z, rfl, b4, HD⟩ : ∃ d z, e = .returned (.tuple #[.bool d, .int .i64 z]) ∧ Below w3.heap.size w3 w4 ∧ Aside ((inB n b = false → d = false ∧ z = 70) ∧ (∀ c : Nat, b = (c : Int) → c < n → d = apartB n H a c ∧ z = 0)) := by
      cases hqb : inB n b with
      | false =>
        obtain ⟨rfl, q⟩ := hap.1 hqb
        exact ⟨_, _, rfl, q, Aside.mk (And.intro (fun _ => ⟨rfl, rfl⟩) (fun c hc hl => by rw [hc] at hqb; have : inB n (c : Int) = true := (by rw [inB_iff]; omega); rw [this] at hqb; cases hqb))⟩
      | true =>
        obtain ⟨h0, h1⟩ := inB_iff.1 hqb
        obtain ⟨c, rfl⟩ := Int.eq_ofNat_of_zero_le h0
        obtain ⟨rfl, q⟩ := hap.2 c rfl (by omega)
        exact ⟨_, _, rfl, q, Aside.mk (And.intro (fun h => by cases h) (fun c' hc hl => by
          obtain rfl : c = c' := by omega
          exact ⟨rfl, rfl⟩))⟩
    have S4 := Aside.mk (And.intro (bel_then S3.out.1 b4) (And.intro (hup b4 S3.out.2.1) (S3.out.2.2.below b4)))
    clear b4 hap g0 g1 g2 g3 g4
    obtain ⟨g0, g1, g2, g3, g4⟩ := box5 S4.out.2.1
    go_wp2_with fail
    refine (K3.out _ _ S4.out.1).mono ?_
    rintro e w5 ⟨rfl, b5⟩
    rw [HA.out]
    have S5 := Aside.mk (And.intro (bel_then S4.out.1 b5) (And.intro (hup b5 S4.out.2.1) (S4.out.2.2.below b5)))
    clear b5 g0 g1 g2 g3 g4
    obtain ⟨g0, g1, g2, g3, g4⟩ := box5 S5.out.2.1
    go_wp2_with fail
    go_loopg [11] n (fun g i wr => ∃ k : Nat, k ≤ n ∧ g = n - k ∧ i = .int .i64 k ∧ Aside (Below w.heap.size w wr ∧ wr.heap[w.heap.size]? = some (.cells #[.int .u16 fr, .slice a0 (Plan.cores P).length c0, .slice a1 n c1, .slice a2 H.length c2, .slice a3 (Plan.pairs P).length c3] 28 (0, 0)) ∧ Bools wr (.slice A1 n k1) LO))
    case atStart => exact ⟨0, by omega, rfl, rfl, ⟨S5.out⟩⟩
    case round =>
      obtain ⟨k, hk, rfl, rfl, S⟩ := hrel
      clear g0 g1 g2 g3 g4
      obtain ⟨g0, g1, g2, g3, g4⟩ := box5 S.out.2.1
      by_cases hkn : k < n
      · have hcell : ∃ ad, A1 = some ad ∧ wr.cell? (ad.add k) = some (.bool (LO.getD k false)) := by
          obtain ⟨A', c', e, _, h⟩ := S.out.2.2
          injection e with e1 e2 e3
          subst e1 e3
          obtain ⟨ad, rfl, hc⟩ := h (by omega)
          exact ⟨ad, rfl, hc k (by omega)⟩
        obtain ⟨ad, rfl, hcell⟩ := hcell
        obtain ⟨y, hy⟩ : ∃ y, LO.getD k false = y := ⟨_, rfl⟩
        have KQ : Aside (∀ W, Below w.heap.size w W → Calls Try.prog 18 #[.agg #[.int .u16 fr, .slice a0 (Plan.cores P).length c0, .slice a1 n c1, .slice a2 H.length c2, .slice a3 (Plan.pairs P).length c3], .int .i64 (a : Int), .int .i64 (k : Int)] W fun e w' => e = .returned (.bool y) ∧ Below W.heap.size W w') := ⟨fun W h => by
          have := KP.out W a k h F.out ha hkn
          rwa [← HS.out k hkn, hy] at this⟩
        rw [hy] at hcell
        clear hy
        go_upto_region 12 with (fail)
        go_region_held3 (fun w' => w'.cell? ⟨w.heap.size, 0, none⟩ = some (.int .u16 fr) ∧ w'.cell? ⟨w.heap.size, 1, none⟩ = some (.slice a0 (Plan.cores P).length c0) ∧ w'.cell? ⟨w.heap.size, 2, none⟩ = some (.slice a1 n c1) ∧ w'.cell? ⟨w.heap.size, 3, none⟩ = some (.slice a2 H.length c2) ∧ w'.cell? ⟨w.heap.size, 4, none⟩ = some (.slice a3 (Plan.pairs P).length c3) ∧ w'.cell? (ad.add k) = some (.bool y)) (first | go_keep | (exact ⟨q1 _ _ (by assumption), q1 _ _ (by assumption), q1 _ _ (by assumption), q1 _ _ (by assumption), q1 _ _ (by assumption), q1 _ _ (by assumption)⟩))
          (first | (go_at_call 18; refine (KQ.out _ (bel_drew S.out.1)).mono ?_; rintro e w6 ⟨rfl, b6⟩; have B6 := (bel_then (bel_drew S.out.1) b6); have Z6 := (hup b6 (show wr.drew.heap[w.heap.size]? = _ from S.out.2.1)); have L6 := (S.out.2.2.below (below_then (below_drewN wr 1) b6) : Bools w6 _ _); have q1 := (fun (a : Addr) (v : Value) (h : World.cell? _ a = some v) => (Kept.of_below (S := fun _ => False) b6).cell h id)))
        clear g0 g1 g2 g3 g4 hcell q1
        have S6 := Aside.mk (And.intro B6 (And.intro Z6 L6))
        clear B6 Z6 L6 b6
        go_wp2_with fail
        go_roundg (n - (k + 1))
        case measure => omega
        case rel => exact ⟨k + 1, by omega, rfl, by go_num, ⟨S6.out⟩⟩
      · obtain rfl : k = n := by omega
        go_wp2_with fail
        refine (K3.out _ _ S.out.1).mono ?_
        rintro e w7 ⟨rfl, b7⟩
        have S7 := Aside.mk (And.intro (bel_then S.out.1 b7) (hup b7 S.out.2.1))
        clear b7 g0 g1 g2 g3 g4
        obtain ⟨g0, g1, g2, g3, g4⟩ := box5 S7.out.2
        cases hqb : inB k b with
        | false =>
          obtain ⟨rfl, rfl⟩ := HD.out.1 hqb
          clear hqb
          go_wp2_with fail
          refine (awake_any _).mono ?_
          rintro e w8 ⟨rfl, b8⟩
          have B8 := Aside.mk (bel_then S7.out.1 b8)
          clear b8 g0 g1 g2 g3 g4
          go_wp2_with fail
          go_ret
          exact ⟨rfl, B8.out⟩
        | true =>
          obtain ⟨h0, h1⟩ := inB_iff.1 hqb
          obtain ⟨c, rfl⟩ := Int.eq_ofNat_of_zero_le h0
          have hc : c < k := by omega
          obtain ⟨hd, rfl⟩ := HD.out.2 c rfl hc
          obtain ⟨y1, hy1⟩ : ∃ y, (intoL k H c).getD a false = y := ⟨_, rfl⟩
          obtain ⟨y2, hy2⟩ : ∃ y, (intoL k H a).getD c false = y := ⟨_, rfl⟩
          have hd' : Aside (d = (!y1 && !y2)) := ⟨by rw [hd, apartB, path_sym k H a c ha hc, hy1, hy2]⟩
          have KA1 : Aside (∀ W, Below w.heap.size w W → Calls Try.prog 18 #[.agg #[.int .u16 fr, .slice a0 (Plan.cores P).length c0, .slice a1 k c1, .slice a2 H.length c2, .slice a3 (Plan.pairs P).length c3], .int .i64 (a : Int), .int .i64 (c : Int)] W fun e w' => e = .returned (.bool y1) ∧ Below W.heap.size W w') := ⟨fun W h => by
            have := KP.out W a c h F.out ha hc
            rwa [hy1] at this⟩
          have KA2 : Aside (∀ W, Below w.heap.size w W → Calls Try.prog 18 #[.agg #[.int .u16 fr, .slice a0 (Plan.cores P).length c0, .slice a1 k c1, .slice a2 H.length c2, .slice a3 (Plan.pairs P).length c3], .int .i64 (c : Int), .int .i64 (a : Int)] W fun e w' => e = .returned (.bool y2) ∧ Below W.heap.size W w') := ⟨fun W h => by
            have := KP.out W c a h F.out hc ha
            rwa [hy2] at this⟩
          clear hqb hd hy1 hy2 hc ha
          go_wp2_with fail
          refine (awake_any _).mono ?_
          rintro e w8 ⟨rfl, b8⟩
          have S8 := Aside.mk (And.intro (bel_then S7.out.1 b8) (hup b8 S7.out.2))
          clear b8 g0 g1 g2 g3 g4
          obtain ⟨g0, g1, g2, g3, g4⟩ := box5 S8.out.2
          go_wp2_with fail
          refine (KA1.out _ S8.out.1).mono ?_
          rintro e w9 ⟨rfl, b9⟩
          have S9 := Aside.mk (And.intro (bel_then S8.out.1 b9) (hup b9 S8.out.2))
          clear b9 g0 g1 g2 g3 g4
          obtain ⟨g0, g1, g2, g3, g4⟩ := box5 S9.out.2
          cases y1
          · go_wp2_with fail
            refine (KA2.out _ S9.out.1).mono ?_
            rintro e w10 ⟨rfl, b10⟩
            have B10 := Aside.mk (bel_then S9.out.1 b10)
            clear b10 g0 g1 g2 g3 g4
            obtain rfl : d = !y2 := by simpa using hd'.out
            cases y2
            · go_wp2_with fail
              go_ret
              exact ⟨rfl, B10.out⟩
            · go_wp2_with fail
              go_ret
              exact ⟨rfl, B10.out⟩
          · obtain rfl : d = false := by simpa using hd'.out
            go_wp2_with fail
            go_ret
            exact ⟨rfl, S9.out.1⟩
theorem outs_any (w : World) (v : Value) (P : Plan) (a b : Int) (hv : PlanV w v P) (hz : Sz P) : Calls Try.prog 4 #[v, .int .i64 a, .int .i64 b] w fun e w' => e = .returned (.bool true) ∧ Below w.heap.size w w' := by
  cases hq : inB (Plan.parts P).length a with
  | false => exact outs_no w v P a b hv hz hq
  | true =>
    obtain ⟨h0, h1⟩ := inB_iff.1 hq
    obtain ⟨k, rfl⟩ := Int.eq_ofNat_of_zero_le h0
    exact outs_yes w v P k b hv hz (by omega)
end Go.Proofs.Ytflkfjjfhhapkaa
