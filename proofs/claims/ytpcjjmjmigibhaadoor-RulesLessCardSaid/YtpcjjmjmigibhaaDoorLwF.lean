/- Layer 4's laws: RulesParts. -/
import Derived.Test.YtpcjjmjmigibhaaDoorLwB
namespace Go.Proofs.YtpcjjmjmigibhaaDoor
open Go.RowKit
set_option linter.unusedVariables false
set_option linter.unusedSimpArgs false

/-- What a channel that is taken is. -/
structure ChanT (np : Int) (x : ChanR) : Prop where
  kind : (ChanR.k x = 0 ∧ ChanR.y x = 0 ∧ 1 ≤ ChanR.d x ∧ ChanR.d x ≤ 16) ∨ (ChanR.k x = 1 ∧ ChanR.d x = 0 ∧ 1 ≤ ChanR.y x)
  f : ChanR.f x < np
  t : ChanR.t x < np
  ne : ChanR.f x ≠ ChanR.t x
  z1 : 1 ≤ ChanR.z x
  z2 : ChanR.z x ≤ 32
theorem chan_taken {np : Int} {c : ChanR} {i : Nat} (h : chanOk np c i = true) : i ≤ 63 ∧ ChanT np c := by
  unfold chanOk queueB sampleB at h
  simp only [Bool.and_eq_true, Bool.or_eq_true, decide_eq_true_eq] at h
  obtain ⟨⟨⟨⟨⟨⟨h1, h2⟩, h3⟩, h4⟩, h5⟩, h6⟩, h7⟩ := h
  refine ⟨h1, ?_, h3, h4, h5, h6, h7⟩
  rcases h2 with ⟨⟨a, b⟩, c⟩ | ⟨⟨a, b⟩, c⟩
  · left; refine ⟨a, b, ?_, ?_⟩ <;> omega
  · right; exact ⟨a, b, by omega⟩
theorem chan_at_taken {P : Plan} (R : Rules P) (i : Nat) (x : ChanR) (h : (Plan.chans P)[i]? = some x) : i ≤ 63 ∧ ChanT ((Plan.parts P).length : Int) x := by
  have hi := (List.getElem?_eq_some_iff.1 h).1
  have := R.chan i hi
  rw [chanF, chAt_some h] at this
  split at this
  · exact chan_taken (by assumption)
  · cases this
theorem chans_64 {P : Plan} (R : Rules P) : (Plan.chans P).length ≤ 64 := by
  rcases Nat.lt_or_ge 64 (Plan.chans P).length with h | h
  · have := (chan_at_taken R 64 _ (List.getElem?_eq_getElem h)).1
    omega
  · exact h
theorem part_at_taken {P : Plan} (R : Rules P) (i : Nat) (x : PartR) (h : (Plan.parts P)[i]? = some x) : (PartR.sems x).length ≤ 16 ∧ PartR.events x ≤ 16 ∧ 1 ≤ (PartR.procs x).length ∧ (PartR.procs x).length ≤ 16 := by
  have hi := (List.getElem?_eq_some_iff.1 h).1
  have := R.part i hi
  rw [partF, ptAt_some h] at this
  split at this
  · rename_i q
    unfold objectS sizesOk at q
    simp only [Bool.and_eq_true, decide_eq_true_eq] at q
    obtain ⟨⟨⟨⟨⟨⟨⟨⟨q1, q2⟩, q3⟩, q4⟩, _⟩, _⟩, _⟩, _⟩, _⟩ := q
    exact ⟨q1, q2, q3, q4⟩
  · cases this
theorem rules_checkO {P : Plan} (h : checkO P = none) : Rules P := rules_of (checkO_none.1 h)
set_option maxHeartbeats 6400000 in
set_option maxRecDepth 100000 in
theorem rparts_any (w : World) (v : Value) (P : Plan) (hg : ETy w) (hv : PlanV w v P) : Calls Tryd.prog 7 #[v] w fun e w' => e = .returned (.bool true) ∧ Below w.heap.size w w' := by
  obtain ⟨a0, c0, a1, c1, a2, c2, a3, c3, rfl, hp⟩ := planV_lens hv
  have HG := Aside.mk hg
  have HV := Aside.mk hv
  have HP := Aside.mk hp
  obtain ⟨W1, HW⟩ : ∃ W1, Aside (W1 = w.alloc (.cells #[.int .u16 (Plan.frame P), .slice a0 (Plan.cores P).length c0, .slice a1 (Plan.parts P).length c1, .slice a2 (Plan.chans P).length c2, .slice a3 (Plan.pairs P).length c3] 28)) := ⟨_, ⟨rfl⟩⟩
  have hb1 : Aside (Below w.heap.size w W1 ∧ W1.heap[w.heap.size]? = some (.cells #[.int .u16 (Plan.frame P), .slice a0 (Plan.cores P).length c0, .slice a1 (Plan.parts P).length c1, .slice a2 (Plan.chans P).length c2, .slice a3 (Plan.pairs P).length c3] 28 (0, 0))) := ⟨by rw [HW.out]; exact ⟨lone _ _, heap_alloc_new _ _⟩⟩
  have KF := Aside.mk (fun W (h : Below w.heap.size w W) => few_any W _ P (HV.out.below h))
  have KP := Aside.mk (fun W (h : Below w.heap.size w W) => pcheck_any W _ P (HV.out.below h))
  have KA := Aside.mk (fun W (h : Below w.heap.size w W) => awake_any W (HG.out.below h))
  have HR := Aside.mk (@rules_checkO P)
  have HQ : Aside (∀ (i : Nat) (x : ChanR), Rules P → (Plan.chans P)[i]? = some x → i ≤ 63 ∧ ChanT ((Plan.parts P).length : Int) x) := ⟨fun i x R h => chan_at_taken R i x h⟩
  have HC := Aside.mk hp.chans
  have HA := Aside.mk hp.parts
  have HN : Aside (checkO P = none → (Plan.chans P).length ≤ 64 ∧ 1 ≤ (Plan.cores P).length ∧ (Plan.cores P).length ≤ 8 ∧ 1 ≤ (Plan.parts P).length ∧ (Plan.parts P).length ≤ 64 ∧ 0 < Plan.frame P) := ⟨fun h => by
    have R := rules_checkO h
    have f := R.frame
    have g := HP.out.frame
    exact ⟨chans_64 R, R.c1, R.c8, R.p1, R.p64, by omega⟩⟩
  have HT : Aside (∀ (i : Nat) (x : PartR), Rules P → (Plan.parts P)[i]? = some x → (PartR.sems x).length ≤ 16 ∧ PartR.events x ≤ 16 ∧ 1 ≤ (PartR.procs x).length ∧ (PartR.procs x).length ≤ 16) := ⟨fun i x R h => part_at_taken R i x h⟩
  generalize hR : Rules P = RP at *
  clear hR
  generalize checkO P = co at *
  generalize Plan.frame P = fr at *
  generalize Plan.cores P = C at *
  generalize Plan.chans P = H at *
  generalize Plan.parts P = A at *
  generalize Plan.pairs P = Q at *
  obtain ⟨p0, p1, p2, p3, p4⟩ := lbox5 hb1.out.2
  clear hp hg hv
  go_enter Tryd.func7, Tryd.ntmps7
  go_upto_region 1 with (fail)
  rw [← HW.out]
  go_wp2_with fail
  refine (KF.out _ hb1.out.1).mono ?_
  rintro e w2 ⟨b, rfl, b2⟩
  have B2 := Aside.mk (lthen hb1.out.1 b2)
  have X2 := Aside.mk (lup b2 hb1.out.2)
  clear b2 p0 p1 p2 p3 p4
  obtain ⟨p0, p1, p2, p3, p4⟩ := lbox5 X2.out
  cases b
  · go_wp2_with fail
    refine (KA.out _ B2.out).mono ?_
    rintro e w3 ⟨rfl, b3⟩
    have B3 := Aside.mk (lthen B2.out b3)
    clear b3 p0 p1 p2 p3 p4
    go_wp2_with fail
    go_ret
    exact ⟨rfl, B3.out⟩
  · go_wp2_with fail
    refine (KA.out _ B2.out).mono ?_
    rintro e w3 ⟨rfl, b3⟩
    have B3 := Aside.mk (lthen B2.out b3)
    have X3 := Aside.mk (lup b3 X2.out)
    clear b3 p0 p1 p2 p3 p4
    obtain ⟨p0, p1, p2, p3, p4⟩ := lbox5 X3.out
    go_wp2_with fail
    refine (KP.out _ B3.out).mono ?_
    rintro e w4 ⟨r, rfl, hr, b4⟩
    have B4 := Aside.mk (lthen B3.out b4)
    have X4 := Aside.mk (lup b4 X3.out)
    clear b4 p0 p1 p2 p3 p4
    obtain ⟨p0, p1, p2, p3, p4⟩ := lbox5 X4.out
    rcases errF_cases hr with ⟨e1, rfl⟩ | ⟨e1, f, rfl⟩
    rotate_left
    · clear hr e1
      go_wp2_with fail
      refine (KA.out _ B4.out).mono ?_
      rintro e w5 ⟨rfl, b5⟩
      have B5 := Aside.mk (lthen B4.out b5)
      clear b5 p0 p1 p2 p3 p4
      go_wp2_with fail
      go_ret
      exact ⟨rfl, B5.out⟩
    obtain ⟨n1, n2, n3, n4, n5, n6⟩ := HN.out e1
    have HR := Aside.mk (HR.out e1)
    clear hr e1
    go_wp2_with fail
    clear p0 p1 p2 p3 p4
    go_loopg [4] H.length (fun q i wr => ∃ k : Nat, k ≤ H.length ∧ q = H.length - k ∧ i = .int .i64 k ∧ Aside (Below w4.heap.size w4 wr))
    case atStart => exact ⟨0, by omega, rfl, rfl, ⟨Below.refl _ _⟩⟩
    case round =>
      obtain ⟨k, hk, rfl, rfl, S⟩ := hrel
      obtain ⟨p0, p1, p2, p3, p4⟩ := lbox5 (lup S.out X4.out)
      by_cases hkl : k < H.length
      · have hl := List.getElem?_eq_getElem hkl
        obtain ⟨x, hx⟩ : ∃ x, H[k] = x := ⟨_, rfl⟩
        rw [hx] at hl
        obtain ⟨ad, rfl, d0, d1, d2, d3, d4, d5, ok⟩ := Chans.at_ (elems_below HC.out (lthen B4.out S.out)) k x hl
        obtain ⟨_, kind, q1, q2, q3, q4, q5⟩ := HQ.out k x HR.out hl
        obtain ⟨W2, HW2⟩ : ∃ W2, Aside (W2 = wr.alloc (.cells #[.int .u8 (ChanR.k x), .int .u8 (ChanR.f x), .int .u8 (ChanR.t x), .int .u8 (ChanR.z x), .int .u8 (ChanR.d x), .int .u16 (ChanR.y x)] 48)) := ⟨_, ⟨rfl⟩⟩
        have B5 : Aside (Below w4.heap.size w4 W2) := ⟨by rw [HW2.out]; exact lthen S.out (lone _ _)⟩
        have HX : Aside (W2.heap[wr.heap.size]? = some (.cells #[.int .u8 (ChanR.k x), .int .u8 (ChanR.f x), .int .u8 (ChanR.t x), .int .u8 (ChanR.z x), .int .u8 (ChanR.d x), .int .u16 (ChanR.y x)] 48 (0, 0))) := ⟨by rw [HW2.out]; exact heap_alloc_new _ _⟩
        obtain ⟨o1, o1'⟩ := ok.f
        obtain ⟨o2, o2'⟩ := ok.t
        clear hl hx ok
        go_upto_region 10 with (fail)
        rw [← HW2.out]
        clear d0 d1 d2 d3 d4 d5 p0 p1 p2 p3 p4
        generalize ChanR.f x = xf at *
        generalize ChanR.t x = xt at *
        generalize ChanR.z x = xz at *
        generalize ChanR.k x = xk at *
        generalize ChanR.d x = xd at *
        generalize ChanR.y x = xy at *
        have m1 : ¬ (A.length : Int) ≤ xf := by omega
        have m2 : ¬ (A.length : Int) ≤ xt := by omega
        have m3 : (xf == xt) = false := beq_eq_false_iff_ne.2 q3
        have m4 : ¬ xz < 1 := by omega
        have m5 : ¬ 32 < xz := by omega
        rcases kind with ⟨rfl, rfl, d1, d2⟩ | ⟨rfl, rfl, d1⟩
        · have m6 : ¬ 16 < xd := by omega
          have m7 : (xd == 0) = false := beq_eq_false_iff_ne.2 (by omega)
          obtain ⟨e0, e1, e2, e3, e4, e5⟩ := lbox6 HX.out
          clear q1 q2 q3 q4 q5 d1 d2
          go_wp2_with fail
          go_roundg (H.length - (k + 1))
          case measure => omega
          case rel => exact ⟨k + 1, by omega, rfl, by go_num, B5⟩
        · have m7 : (xy == 0) = false := beq_eq_false_iff_ne.2 (by omega)
          obtain ⟨e0, e1, e2, e3, e4, e5⟩ := lbox6 HX.out
          clear q1 q2 q3 q4 q5 d1
          go_wp2_with fail
          go_roundg (H.length - (k + 1))
          case measure => omega
          case rel => exact ⟨k + 1, by omega, rfl, by go_num, B5⟩
      · obtain rfl : k = H.length := by omega
        clear hkl hk
        have S0 := Aside.mk (lup S.out X4.out)
        go_wp2_with fail
        clear p0 p1 p2 p3 p4
        rename World => w5
        go_loopg [6] A.length (fun q i wr => ∃ k : Nat, k ≤ A.length ∧ q = A.length - k ∧ i = .int .i64 k ∧ Aside (Below w5.heap.size w5 wr))
        case atStart => exact ⟨0, by omega, rfl, rfl, ⟨Below.refl _ _⟩⟩
        case round =>
          obtain ⟨k, hk, rfl, rfl, T⟩ := hrel
          obtain ⟨p0, p1, p2, p3, p4⟩ := lbox5 (lup T.out S0.out)
          by_cases hkl : k < A.length
          · have hl := List.getElem?_eq_getElem hkl
            obtain ⟨x, hx⟩ : ∃ x, A[k] = x := ⟨_, rfl⟩
            rw [hx] at hl
            obtain ⟨ad, sv, pv, rfl, d0, d1, d2, d3, d4, d5, ok⟩ := Parts.at_ (elems_below HA.out (lthen (lthen B4.out S.out) T.out)) k x hl
            obtain ⟨sa, sc, pa, pc, rfl, rfl, _, _⟩ := ok.lens
            obtain ⟨q1, q2, q3, q4⟩ := HT.out k x HR.out hl
            obtain ⟨W2, HW2⟩ : ∃ W2, Aside (W2 = wr.alloc (.cells #[.slice sa (PartR.sems x).length sc, .int .u8 (PartR.events x), .slice pa (PartR.procs x).length pc, .int .u8 (PartR.a0 x), .int .u8 (PartR.a1 x), .int .u8 (PartR.a2 x)] 54)) := ⟨_, ⟨rfl⟩⟩
            have B5 : Aside (Below w5.heap.size w5 W2) := ⟨by rw [HW2.out]; exact lthen T.out (lone _ _)⟩
            have HX : Aside (W2.heap[wr.heap.size]? = some (.cells #[.slice sa (PartR.sems x).length sc, .int .u8 (PartR.events x), .slice pa (PartR.procs x).length pc, .int .u8 (PartR.a0 x), .int .u8 (PartR.a1 x), .int .u8 (PartR.a2 x)] 54 (0, 0))) := ⟨by rw [HW2.out]; exact heap_alloc_new _ _⟩
            obtain ⟨o1, o2⟩ := ok.ev
            clear hl hx ok
            go_upto_region 16 with (fail)
            rw [← HW2.out]
            clear d0 d1 d2 d3 d4 d5 p0 p1 p2 p3 p4
            generalize (PartR.sems x).length = ns at *
            generalize (PartR.procs x).length = nq at *
            generalize PartR.events x = ev at *
            have m1 : ¬ (nq : Int) < 1 := by omega
            have m2 : ¬ (16 : Int) < (nq : Int) := by omega
            have m3 : ¬ (16 : Int) < (ns : Int) := by omega
            have m4 : ¬ (16 : Int) < ev := by omega
            obtain ⟨e0, e1, e2, e3, e4, e5⟩ := lbox6 HX.out
            clear q1 q2 q3 q4
            go_wp2_with fail
            go_roundg (A.length - (k + 1))
            case measure => omega
            case rel => exact ⟨k + 1, by omega, rfl, by go_num, B5⟩
          · obtain rfl : k = A.length := by omega
            clear hkl hk
            have m1 : (A.length : Int) ≤ 64 := by omega
            have m2 : (H.length : Int) ≤ 64 := by omega
            have m3 : (1 : Int) ≤ (C.length : Int) := by omega
            have m4 : (C.length : Int) ≤ 8 := by omega
            go_wp2_with fail
            go_ret
            exact ⟨rfl, lthen (lthen B4.out S.out) T.out⟩
end Go.Proofs.YtpcjjmjmigibhaaDoor
