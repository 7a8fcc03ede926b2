/- The reference's Decode: the walk. -/
import Derived.Test.YtbphlapdhcgikaaDoorRDecA
namespace Go.Proofs.YtbphlapdhcgikaaDoor
open Go.RowKit
set_option linter.unusedVariables false
set_option linter.unusedSimpArgs false

set_option maxHeartbeats 12800000 in
set_option maxRecDepth 100000 in
theorem rdec_any (w : World) (s : ByteArray) (hs : s.size ≤ 140737488355328) : Calls Tryd.prog 16 #[.string s] w (RDecP w s) := by
  obtain ⟨W1, HW⟩ : ∃ W1, Aside (W1 = w.alloc (.cells #[.int .u16 0, .slice none 0 0, .slice none 0 0, .slice none 0 0, .slice none 0 0] 28)) := ⟨_, ⟨rfl⟩⟩
  have B1 : Aside (Below w.heap.size w W1 ∧ W1.heap[w.heap.size]? = some (.cells #[.int .u16 0, .slice none 0 0, .slice none 0 0, .slice none 0 0, .slice none 0 0] 28 (0, 0))) := ⟨by
    rw [HW.out]; exact ⟨bel_one _ _, heap_alloc_new _ _⟩⟩
  obtain ⟨⟨ta, tb⟩, hst⟩ : ∃ p, st0 (strL s) = p := ⟨_, rfl⟩
  obtain ⟨hd, hhd⟩ : ∃ p, headS (strL s) = p := ⟨_, rfl⟩
  have HST := Aside.mk hst
  have HHD := Aside.mk hhd
  have KT : Aside (Calls Tryd.prog 41 #[.agg #[.string s, .int .i64 0, .bool false], .int .i64 4] W1 fun e w' => e = .returned (.tuple #[.agg #[.string s, .int .i64 (ta : Int), .bool tb], .string (strOfNums hd)]) ∧ Below W1.heap.size W1 w') := ⟨by
    have h := Bl.rtake_any W1 s 0 false 4 (by omega) hs (by decide) (by decide)
    unfold Bl.RTakeP Bl.mV at h
    have e1 : Bl.takeA (strL s) 0 false 4 = ta := congrArg Prod.fst hst
    have e2 : Bl.takeB (strL s) 0 false 4 = tb := congrArg Prod.snd hst
    have e3 : Bl.takeL (strL s) 0 false 4 = hd := hhd
    rw [e1, e2, e3] at h
    exact h⟩
  have HTA : ta ≤ s.size := by
    have := rdN_le (s := s) (t := (0, false)) (by omega) 4
    have e1 : Bl.takeA (strL s) 0 false 4 = ta := congrArg Prod.fst hst
    rw [← e1]
    exact this
  have hbool : ((strOfNums hd).toList == [80, 85, 82, 49]) = decide (hd = [80, 85, 82, 49]) := by
    have := head_bool (strL_byte s)
    rw [show Bl.takeL (strL s) 0 false 4 = hd from hhd, hhd] at this
    exact this
  have HBo := Aside.mk hbool
  clear hst hhd hbool
  go_enter Tryd.func16, Tryd.ntmps16
  go_upto_region 1 with (fail)
  rw [← HW.out]
  go_wp2_with fail
  refine KT.out.mono ?_
  rintro e w2 ⟨rfl, b2⟩
  obtain ⟨W3, HW3⟩ : ∃ W3, Aside (W3 = w2.alloc (.cells #[.string s, .int .i64 (ta : Int), .bool tb] 93)) := ⟨_, ⟨rfl⟩⟩
  have B3 : Aside (Below w.heap.size w W3 ∧ W3.heap[w.heap.size]? = some (.cells #[.int .u16 0, .slice none 0 0, .slice none 0 0, .slice none 0 0, .slice none 0 0] 28 (0, 0)) ∧ W3.heap[w2.heap.size]? = some (.cells #[.string s, .int .i64 (ta : Int), .bool tb] 93 (0, 0))) := ⟨by
    rw [HW3.out]
    exact ⟨bel_then (bel_then B1.out.1 b2) (bel_one _ _), heap_up (hup b2 B1.out.2), heap_alloc_new _ _⟩⟩
  have B3b : Aside (Below W1.heap.size W1 W3) := ⟨by rw [HW3.out]; exact bel_then b2 (bel_one _ _)⟩
  clear b2 KT
  obtain ⟨q0, q1, q2, q3, q4, z0, z1, z2, z3, z4⟩ := boxz B3.out.2.1
  obtain ⟨x0, x1, x2, _, _, _⟩ := Bl.box3 B3.out.2.2
  go_upto_region 2 with (fail)
  rw [← HW3.out]
  cases tb with
  | true =>
    have HQ : Aside (decF (strL s) = some (20, (ta : Int))) := ⟨by rw [decF, HST.out, if_pos rfl]⟩
    have HT0 : Aside (ta = 0) := ⟨by
      have h := HST.out
      have e1 : Bl.takeA (strL s) 0 false 4 = ta := congrArg Prod.fst h
      have e2 : Bl.takeB (strL s) 0 false 4 = true := congrArg Prod.snd h
      rw [← e1]
      unfold Bl.takeA
      unfold Bl.takeB at e2
      rw [if_neg (by decide)] at e2
      rw [if_pos (.inr (.inr (of_decide_eq_true e2)))]⟩
    go_wp2_with fail
    obtain ⟨y0, y1, y2, y3⟩ := set5z_facts B3.out.1 B3.out.2.1
    obtain ⟨g0, g1, g2, g3, g4⟩ := box5 y1
    unfold set5z at g0 g1 g2 g3 g4
    exact bodyPost_ret (v := .tuple #[zeroPlan, .int .i64 20, .int .i64 0]) (by simp [results, Tryd.results16, go_sem, g0, g1, g2, g3, g4, zeroPlan]) rfl ⟨_, _, _, rfl, y0, by rw [HQ.out]; rfl, by rw [HQ.out, HT0.out]; rfl, (fun h => by rw [HQ.out] at h; cases h), fun _ => rfl⟩
  | false =>
    by_cases hm : hd = [80, 85, 82, 49]
    rotate_left
    · have HQ : Aside (decF (strL s) = some (30, 0)) := ⟨by rw [decF, HST.out, if_neg (by simp), HHD.out, if_pos hm]⟩
      have hb : ((strOfNums hd).toList == [80, 85, 82, 49]) = false := by rw [HBo.out]; exact decide_eq_false hm
      clear hm
      go_wp2_with fail
      obtain ⟨y0, y1, y2, y3⟩ := set5z_facts B3.out.1 B3.out.2.1
      obtain ⟨g0, g1, g2, g3, g4⟩ := box5 y1
      unfold set5z at g0 g1 g2 g3 g4
      exact bodyPost_ret (v := .tuple #[zeroPlan, .int .i64 30, .int .i64 0]) (by simp [results, Tryd.results16, go_sem, g0, g1, g2, g3, g4, zeroPlan]) rfl ⟨_, _, _, rfl, y0, by rw [HQ.out]; rfl, by rw [HQ.out]; rfl, (fun h => by rw [HQ.out] at h; cases h), fun _ => rfl⟩
    have hb : ((strOfNums hd).toList == [80, 85, 82, 49]) = true := by rw [HBo.out]; exact decide_eq_true hm
    have HM := Aside.mk hm
    clear hm
    go_upto_region 7 with (fail)
    have hZl : W1.heap.size ≤ W3.heap.size := B3b.out.size
    obtain ⟨W4, HW4⟩ : ∃ W4, Aside (W4 = W3.alloc (.cells #[.string s, .int .i64 (ta : Int), .bool false] 98)) := ⟨_, ⟨rfl⟩⟩
    have RD0 : Aside (Rdn W1 s W3.heap.size W4 (ta, false) W4) := ⟨Rdn.refl (by rw [HW4.out]; exact heap_alloc_new _ _) HTA⟩
    have B4 : Aside (Below W1.heap.size W1 W4 ∧ W3.heap.size < W4.heap.size ∧ W4.heap[w.heap.size]? = some (.cells #[.int .u16 0, .slice none 0 0, .slice none 0 0, .slice none 0 0, .slice none 0 0] 28 (0, 0))) := ⟨by rw [HW4.out]; exact ⟨bel_then B3b.out (bel_one _ _), by simp, heap_up B3.out.2.1⟩⟩
    rw [← HW4.out]
    clear q0 q1 q2 q3 q4 z0 z1 z2 z3 z4 x0 x1 x2 hb
    obtain ⟨Z, hZe⟩ : ∃ Z, W3.heap.size = Z := ⟨_, rfl⟩
    rw [hZe] at RD0 B4 hZl ⊢
    have hZ0 := hZl
    clear hZl hZe
    obtain ⟨⟨r1, t1⟩, h1⟩ : ∃ p, rdN (strL s) 2 (ta, false) = p := ⟨_, rfl⟩
    have H1 := Aside.mk h1
    have g1 : 0 ≤ r1 ∧ r1 ≤ 65535 := range2 h1
    obtain ⟨g1l, g1h⟩ := g1
    have a1 := rdN_le' RD0.out.at_ h1
    have KN : Aside (Calls Tryd.prog 42 #[.pointer (some ⟨Z, 0, none⟩), .int .i64 2] W4 (RNumP W4 Z s (r1, t1))) := ⟨by have h := rnum_any W4 Z s (ta, false) 2 (by decide) RD0.out.at_ hs RD0.out.rd; rw [h1] at h; exact h⟩
    have u1 : IntKind.u16.wrap r1 = r1 := by rw [IntKind.wrap_u16]; omega
    clear h1
    go_wp2_with fail
    refine KN.out.mono ?_
    rintro e w1 ⟨rfl, d1, p1⟩
    have RD1 := Aside.mk (Rdn.num' RD0.out hZ0 d1 p1 a1)
    have P1 := Aside.mk p1
    clear d1 p1 a1 KN
    obtain ⟨W5, HW5⟩ : ∃ W5, Aside (W5 = w1.alloc (.cells #[.int .u16 r1, .slice none 0 0, .slice none 0 0, .slice none 0 0, .slice none 0 0] 28)) := ⟨_, ⟨rfl⟩⟩
    have RQ1 : Aside (Rdn W1 s Z W4 t1 W5) := ⟨by rw [HW5.out]; exact RD1.out.below (bel_one _ _)⟩
    have X1 : Aside (W5.heap[w1.heap.size]? = some (.cells #[.int .u16 r1, .slice none 0 0, .slice none 0 0, .slice none 0 0, .slice none 0 0] 28 (0, 0)) ∧ w1.heap.size < W5.heap.size) := ⟨by rw [HW5.out]; exact ⟨heap_alloc_new _ _, by simp⟩⟩
    have hXZ : Z < w1.heap.size := by have := B4.out.2.1; have := RD1.out.tk.size; omega
    have hXw : W1.heap.size ≤ w1.heap.size := by omega
    have h0 : W4.heap.size ≤ w1.heap.size := RD1.out.tk.size
    go_upto_region 8 with (fail)
    rw [← HW5.out]
    clear u1
    obtain ⟨⟨r2, t2⟩, h2⟩ : ∃ p, rdN (strL s) 1 t1 = p := ⟨_, rfl⟩
    have H2 := Aside.mk h2
    have g2 : 0 ≤ r2 ∧ r2 ≤ 255 := range1 h2
    obtain ⟨g2l, g2h⟩ := g2
    have a2 := rdN_le' RQ1.out.at_ h2
    have KN : Aside (Calls Tryd.prog 42 #[.pointer (some ⟨Z, 0, none⟩), .int .i64 1] W5 (RNumP W5 Z s (r2, t2))) := ⟨by have h := rnum_any W5 Z s t1 1 (by decide) RQ1.out.at_ hs RQ1.out.rd; rw [h2] at h; exact h⟩
    have u2 : IntKind.u8.wrap r2 = r2 := by rw [IntKind.wrap_u8]; omega
    clear h2
    go_wp2_with fail
    refine KN.out.mono ?_
    rintro e w2 ⟨rfl, d2, p2⟩
    have RD2 := Aside.mk (Rdn.num' RQ1.out hZ0 d2 p2 a2)
    have P2 := Aside.mk p2
    clear d2 p2 a2 KN
    obtain ⟨⟨r3, t3⟩, h3⟩ : ∃ p, rdN (strL s) 1 t2 = p := ⟨_, rfl⟩
    have H3 := Aside.mk h3
    have g3 : 0 ≤ r3 ∧ r3 ≤ 255 := range1 h3
    obtain ⟨g3l, g3h⟩ := g3
    have a3 := rdN_le' RD2.out.at_ h3
    have KN : Aside (Calls Tryd.prog 42 #[.pointer (some ⟨Z, 0, none⟩), .int .i64 1] w2 (RNumP w2 Z s (r3, t3))) := ⟨by have h := rnum_any w2 Z s t2 1 (by decide) RD2.out.at_ hs RD2.out.rd; rw [h3] at h; exact h⟩
    have u3 : IntKind.u8.wrap r3 = r3 := by rw [IntKind.wrap_u8]; omega
    clear h3
    go_wp2_with fail
    refine KN.out.mono ?_
    rintro e w3 ⟨rfl, d3, p3⟩
    have RD3 := Aside.mk (Rdn.num' RD2.out hZ0 d3 p3 a3)
    have P3 := Aside.mk p3
    clear d3 p3 a3 KN
    obtain ⟨⟨r4, t4⟩, h4⟩ : ∃ p, rdN (strL s) 1 t3 = p := ⟨_, rfl⟩
    have H4 := Aside.mk h4
    have g4 : 0 ≤ r4 ∧ r4 ≤ 255 := range1 h4
    obtain ⟨g4l, g4h⟩ := g4
    have a4 := rdN_le' RD3.out.at_ h4
    have KN : Aside (Calls Tryd.prog 42 #[.pointer (some ⟨Z, 0, none⟩), .int .i64 1] w3 (RNumP w3 Z s (r4, t4))) := ⟨by have h := rnum_any w3 Z s t3 1 (by decide) RD3.out.at_ hs RD3.out.rd; rw [h4] at h; exact h⟩
    have u4 : IntKind.u8.wrap r4 = r4 := by rw [IntKind.wrap_u8]; omega
    clear h4
    go_wp2_with fail
    refine KN.out.mono ?_
    rintro e w4 ⟨rfl, d4, p4⟩
    have RD4 := Aside.mk (Rdn.num' RD3.out hZ0 d4 p4 a4)
    have P4 := Aside.mk p4
    clear d4 p4 a4 KN
    obtain ⟨⟨r5, t5⟩, h5⟩ : ∃ p, rdN (strL s) 1 t4 = p := ⟨_, rfl⟩
    have H5 := Aside.mk h5
    have g5 : 0 ≤ r5 ∧ r5 ≤ 255 := range1 h5
    obtain ⟨g5l, g5h⟩ := g5
    have a5 := rdN_le' RD4.out.at_ h5
    have KN : Aside (Calls Tryd.prog 42 #[.pointer (some ⟨Z, 0, none⟩), .int .i64 1] w4 (RNumP w4 Z s (r5, t5))) := ⟨by have h := rnum_any w4 Z s t4 1 (by decide) RD4.out.at_ hs RD4.out.rd; rw [h5] at h; exact h⟩
    have u5 : IntKind.u8.wrap r5 = r5 := by rw [IntKind.wrap_u8]; omega
    clear h5
    go_wp2_with fail
    refine KN.out.mono ?_
    rintro e w5 ⟨rfl, d5, p5⟩
    have RD5 := Aside.mk (Rdn.num' RD4.out hZ0 d5 p5 a5)
    have P5 := Aside.mk p5
    clear d5 p5 a5 KN
    have X5 : Aside (w5.heap[w1.heap.size]? = some (.cells #[.int .u16 r1, .slice none 0 0, .slice none 0 0, .slice none 0 0, .slice none 0 0] 28 (0, 0))) := ⟨P5.out.heap (P4.out.heap (P3.out.heap (P2.out.heap X1.out.1 (by omega)) (by omega)) (by omega)) (by omega)⟩
    have HC : Aside (frS (strL s) = (r1, t1) ∧ n0S (strL s) = (r2, t2) ∧ n1S (strL s) = (r3, t3) ∧ n2S (strL s) = (r4, t4) ∧ n3S (strL s) = (r5, t5)) := ⟨by
      have e1 : frS (strL s) = (r1, t1) := by unfold frS; rw [HST.out]; exact H1.out
      have e2 : n0S (strL s) = (r2, t2) := by unfold n0S; rw [e1]; exact H2.out
      have e3 : n1S (strL s) = (r3, t3) := by unfold n1S; rw [e2]; exact H3.out
      have e4 : n2S (strL s) = (r4, t4) := by unfold n2S; rw [e3]; exact H4.out
      have e5 : n3S (strL s) = (r5, t5) := by unfold n3S; rw [e4]; exact H5.out
      exact ⟨e1, e2, e3, e4, e5⟩⟩
    have hs5 : W5.heap.size ≤ w5.heap.size := Nat.le_trans (Nat.le_trans (Nat.le_trans P2.out.size P3.out.size) P4.out.size) P5.out.size
    have D0 : Aside (DSt3 W1 s Z w1.heap.size t5 (.int .u16 r1) (.slice none 0 0) (.slice none 0 0) (.slice none 0 0) (.slice none 0 0) w5) := ⟨⟨RD5.out.tk.below B4.out.1, RD5.out.rd, X5.out, hZ0, hXw, RD5.out.at_⟩⟩
    obtain ⟨X, hXe⟩ : ∃ X, w1.heap.size = X := ⟨_, rfl⟩
    obtain ⟨LO, hLO⟩ : ∃ LO, W5.heap.size = LO := ⟨_, rfl⟩
    have hl1 : X < LO := by rw [← hXe, ← hLO]; exact X1.out.2
    rw [hXe] at D0 hXZ hXw ⊢
    rw [hLO] at hs5
    have hl2 : Z < LO := by omega
    have hW0 : Aside (decF (strL s) = (Bl.endQ (strL s) (pairsS (strL s)).2.1 (pairsS (strL s)).2.2).map fun x => (x.2, (x.1 : Int))) := ⟨by
      unfold decF
      rw [HST.out, if_neg (by simp), HHD.out, HM.out, if_neg (by simp)]⟩
    obtain ⟨N0, rfl⟩ := Int.eq_ofNat_of_zero_le g2l
    obtain ⟨N1, rfl⟩ := Int.eq_ofNat_of_zero_le g3l
    obtain ⟨N2, rfl⟩ := Int.eq_ofNat_of_zero_le g4l
    obtain ⟨N3, rfl⟩ := Int.eq_ofNat_of_zero_le g5l
    have hfr : Aside (0 ≤ r1 ∧ r1 ≤ 65535) := ⟨⟨g1l, g1h⟩⟩
    clear u2 u3 u4 u5 h0 hXe hLO g1h g1l
    go_upto_block 0 with (fail)
    go_cut [] (fun wc => ∃ (A : Option Addr) (c : Nat) (C : List (List Win)) (css : List (List Value)) (t : St), Aside (DSt3 W1 s Z X t (.int .u16 r1) (.slice A C.length c) (.slice none 0 0) (.slice none 0 0) (.slice none 0 0) wc ∧ LO ≤ wc.heap.size ∧ RowsR LO 49 1 (E_core Z) wc (.slice A C.length c) C css ∧ t = (coresS (strL s)).2 ∧ (t.2 = false → C = (coresS (strL s)).1)))
    case first =>
      go_wp2_with fail
      go_loopg [13] N0 (fun g s13 wr => ∃ (i : Nat) (C : List (List Win)) (css : List (List Value)) (t : St) (v : Value), i ≤ N0 ∧ g = N0 - i ∧ s13 = .int .i64 i ∧ Aside (DSt3 W1 s Z X t (.int .u16 r1) v (.slice none 0 0) (.slice none 0 0) (.slice none 0 0) wr ∧ LO ≤ wr.heap.size ∧ RowsR LO 49 1 (E_core Z) wr v C css ∧ many_st (coreS (strL s)) (N0 - i) t C (coresS (strL s)) ∧ C.length = i))
      case atStart => exact ⟨0, [], [], t5, _, by omega, rfl, rfl, ⟨D0.out, hs5, RowsR.nil _ _ _ _ _, many_st_start (by unfold coresS; rw [HC.out.2.1, HC.out.2.2.2.2]; rfl) (many_bad' _), rfl⟩⟩
      case round =>
        rename World => a0
        obtain ⟨i, C, css, ⟨ta1, tb1⟩, v, hi, rfl, rfl, M⟩ := hrel
        have hz := M.out.1.rd
        unfold rcells at hz
        obtain ⟨z0, z1, z2, _, _, _⟩ := Bl.box3 hz
        clear hz
        by_cases hlt : i < N0
        · have hlt' : (i : Int) < (N0 : Int) := by omega
          cases tb1 with
          | true =>
            obtain ⟨A, c, hv⟩ := own_len M.out.2.2.1.own
            go_wp2_with fail
            go_meet
            case rel => exact ⟨A, c, C, css, (ta1, true), ⟨by rw [← hv]; exact M.out.1, M.out.2.1, by rw [← hv]; exact M.out.2.2.1, many_st_bad M.out.2.2.2.1 rfl, fun e => by cases e⟩⟩
          | false =>
            obtain ⟨W12, HW12⟩ : ∃ W12, Aside (W12 = a0.alloc (.cells #[] 51)) := ⟨_, ⟨rfl⟩⟩
            have RDc : Aside (Rdn W1 s Z a0 (ta1, false) W12) := ⟨by rw [HW12.out]; exact (Rdn.refl M.out.1.rd M.out.1.at_).below (bel_one _ _)⟩
            have R12 : Aside (RowsR a0.heap.size 51 4 E_win W12 (.slice (some ⟨a0.heap.size, 0, none⟩) 0 0) [] []) := ⟨by
              rw [HW12.out]
              exact ⟨⟨by simp, .inr ⟨_, 0, #[], rfl, Nat.le_refl _, heap_alloc_new _ _, Nat.le_refl _, by decide, by simp, by simp⟩⟩, rfl, fun i cs x h => by simp at h⟩⟩
            go_upto_region 13 with (fail)
            rw [← HW12.out]
            clear z0 z1 z2
            obtain ⟨⟨r6, t6⟩, h6⟩ : ∃ p, rdN (strL s) 2 (ta1, false) = p := ⟨_, rfl⟩
            have H6 := Aside.mk h6
            have g6 : 0 ≤ r6 ∧ r6 ≤ 65535 := range2 h6
            obtain ⟨g6l, g6h⟩ := g6
            have a6 := rdN_le' RDc.out.at_ h6
            have KN : Aside (Calls Tryd.prog 42 #[.pointer (some ⟨Z, 0, none⟩), .int .i64 2] W12 (RNumP W12 Z s (r6, t6))) := ⟨by have h := rnum_any W12 Z s (ta1, false) 2 (by decide) RDc.out.at_ hs RDc.out.rd; rw [h6] at h; exact h⟩
            have u6 : IntKind.u16.wrap r6 = r6 := by rw [IntKind.wrap_u16]; omega
            clear h6
            go_wp2_with fail
            refine KN.out.mono ?_
            rintro e w6 ⟨rfl, d6, p6⟩
            have RD6 := Aside.mk (Rdn.num' RDc.out hZ0 d6 p6 a6)
            have P6 := Aside.mk p6
            clear d6 p6 a6 KN
            have R6 := Aside.mk (R12.out.tk (Tk.of_block (lo := W1.heap.size) (ts := [98]) P6.out RDc.out.rd hZ0 (by simp)) (by decide) (fun _ _ q => q))
            obtain ⟨N6, rfl⟩ := Int.eq_ofNat_of_zero_le g6l
            have hN6 : N6 ≤ 65535 := by omega
            clear u6 g6l g6h
            go_upto_block 2 with (fail)
            go_cut [14] (fun l wc => ∃ (A : Option Addr) (c : Nat) (L : List Win) (css2 : List (List Value)) (t' : St), l = .slice A L.length c ∧ Aside (Rdn W1 s Z a0 t' wc ∧ RowsR a0.heap.size 51 4 E_win wc (.slice A L.length c) L css2 ∧ t' = (coreS (strL s) (ta1, false)).2 ∧ (t'.2 = false → L = (coreS (strL s) (ta1, false)).1)))
            case first =>
              go_wp2_with fail
              go_loopg [14, 15] N6 (fun g s14 s15 wr => ∃ (k : Nat) (acc : List Win) (css2 : List (List Value)) (t2 : St) (vv : Value), k = g ∧ vv = s14 ∧ s15 = .int .i64 k ∧ Aside (Rdn W1 s Z a0 t2 wr ∧ RowsR a0.heap.size 51 4 E_win wr vv acc css2 ∧ manyS (winS (strL s)) k t2 acc = coreS (strL s) (ta1, false)) ∧ acc.length + k = N6)
              case atStart => exact ⟨N6, [], [], t6, _, rfl, rfl, rfl, ⟨RD6.out, R6.out, by unfold coreS; rw [H6.out]; rfl⟩, by simp⟩
              case round =>
                rename World => b0
                obtain ⟨k, acc, css2, ⟨ta2, tb2⟩, vv, rfl, rfl, rfl, M2, hac⟩ := hrel
                have hz := M2.out.1.rd
                unfold rcells at hz
                obtain ⟨z0, z1, z2, _, _, _⟩ := Bl.box3 hz
                obtain ⟨A6, c6, hv6⟩ := own_len M2.out.2.1.own
                clear hz
                by_cases hk : 0 < k
                · have hk' : (0 : Int) < (k : Int) := by omega
                  cases tb2 with
                  | true =>
                    go_wp2_with fail
                    go_meet
                    case rel =>
                      have h := M2.out.2.2
                      rw [many_bad _ _ _ _ rfl hk] at h
                      exact ⟨A6, c6, acc, css2, (ta2, true), (by first | rfl | exact hv6), ⟨M2.out.1, by rw [← hv6]; exact M2.out.2.1, by rw [← h], fun e => by cases e⟩⟩
                  | false =>
                    clear hv6 A6 c6
                    obtain ⟨W16, HW16⟩ : ∃ W16, Aside (W16 = b0.alloc (.cells #[.int .u16 0, .int .u16 0, .int .u8 0, .int .u8 0] 51)) := ⟨_, ⟨rfl⟩⟩
                    have RDd : Aside (Rdn W1 s Z b0 (ta2, false) W16) := ⟨by rw [HW16.out]; exact (Rdn.refl M2.out.1.rd M2.out.1.at_).below (bel_one _ _)⟩
                    have BX : Aside (W16.heap[b0.heap.size]? = some (.cells #[.int .u16 0, .int .u16 0, .int .u8 0, .int .u8 0] 51 (0, 0))) := ⟨by rw [HW16.out]; exact heap_alloc_new _ _⟩
                    have hBZ : b0.heap.size ≠ Z := by have := lt_of_block M2.out.1.rd; omega
                    have hB0 : b0.heap.size ≤ b0.heap.size := Nat.le_refl _
                    go_upto_region 17 with (fail)
                    rw [← HW16.out]
                    clear z0 z1 z2
                    obtain ⟨⟨r11, t11⟩, h11⟩ : ∃ p, rdN (strL s) 2 (ta2, false) = p := ⟨_, rfl⟩
                    have H11 := Aside.mk h11
                    have g11 : 0 ≤ r11 ∧ r11 ≤ 65535 := range2 h11
                    obtain ⟨g11l, g11h⟩ := g11
                    have a11 := rdN_le' RDd.out.at_ h11
                    have KN : Aside (Calls Tryd.prog 42 #[.pointer (some ⟨Z, 0, none⟩), .int .i64 2] W16 (RNumP W16 Z s (r11, t11))) := ⟨by have h := rnum_any W16 Z s (ta2, false) 2 (by decide) RDd.out.at_ hs RDd.out.rd; rw [h11] at h; exact h⟩
                    have u11 : IntKind.u16.wrap r11 = r11 := by rw [IntKind.wrap_u16]; omega
                    clear h11
                    go_wp2_with fail
                    refine KN.out.mono ?_
                    rintro e w11 ⟨rfl, d11, p11⟩
                    have RD11 := Aside.mk (Rdn.num' RDd.out hZ0 d11 p11 a11)
                    have P11 := Aside.mk p11
                    clear d11 p11 a11 KN
                    have Y11 := Aside.mk (P11.out.heap BX.out hBZ)
                    obtain ⟨c0, c1, c2, c3⟩ := boxc4 Y11.out
                    obtain ⟨m0, m1, m2, m3⟩ := marks4 Y11.out
                    obtain ⟨v11, V11⟩ : ∃ v, Aside (v = w11.setCell ⟨b0.heap.size, 0, none⟩ (.int .u16 r11)) := ⟨_, ⟨rfl⟩⟩
                    have X11 : Aside (v11.heap[b0.heap.size]? = some (.cells #[.int .u16 r11, .int .u16 0, .int .u8 0, .int .u8 0] 51 (0, 0))) := ⟨by
                      rw [V11.out]
                      have h := heap_setCell_at (off := 0) Y11.out (.int .u16 r11)
                      simpa using h⟩
                    have RQ11 : Aside (Rdn W1 s Z b0 t11 v11) := ⟨by
                      rw [V11.out]
                      exact RD11.out.put (kset _ _ _ _) hB0 Y11.out (by decide)⟩
                    go_upto_region 18 with (fail)
                    rw [← V11.out]
                    clear c0 c1 c2 c3 m0 m1 m2 m3 u11
                    obtain ⟨⟨r12, t12⟩, h12⟩ : ∃ p, rdN (strL s) 2 t11 = p := ⟨_, rfl⟩
                    have H12 := Aside.mk h12
                    have g12 : 0 ≤ r12 ∧ r12 ≤ 65535 := range2 h12
                    obtain ⟨g12l, g12h⟩ := g12
                    have a12 := rdN_le' RQ11.out.at_ h12
                    have KN : Aside (Calls Tryd.prog 42 #[.pointer (some ⟨Z, 0, none⟩), .int .i64 2] v11 (RNumP v11 Z s (r12, t12))) := ⟨by have h := rnum_any v11 Z s t11 2 (by decide) RQ11.out.at_ hs RQ11.out.rd; rw [h12] at h; exact h⟩
                    have u12 : IntKind.u16.wrap r12 = r12 := by rw [IntKind.wrap_u16]; omega
                    clear h12
                    go_wp2_with fail
                    refine KN.out.mono ?_
                    rintro e w12 ⟨rfl, d12, p12⟩
                    have RD12 := Aside.mk (Rdn.num' RQ11.out hZ0 d12 p12 a12)
                    have P12 := Aside.mk p12
                    clear d12 p12 a12 KN
                    have Y12 := Aside.mk (P12.out.heap X11.out hBZ)
                    obtain ⟨c0, c1, c2, c3⟩ := boxc4 Y12.out
                    obtain ⟨m0, m1, m2, m3⟩ := marks4 Y12.out
                    obtain ⟨v12, V12⟩ : ∃ v, Aside (v = w12.setCell ⟨b0.heap.size, 1, none⟩ (.int .u16 r12)) := ⟨_, ⟨rfl⟩⟩
                    have X12 : Aside (v12.heap[b0.heap.size]? = some (.cells #[.int .u16 r11, .int .u16 r12, .int .u8 0, .int .u8 0] 51 (0, 0))) := ⟨by
                      rw [V12.out]
                      have h := heap_setCell_at (off := 1) Y12.out (.int .u16 r12)
                      simpa using h⟩
                    have RQ12 : Aside (Rdn W1 s Z b0 t12 v12) := ⟨by
                      rw [V12.out]
                      exact RD12.out.put (kset _ _ _ _) hB0 Y12.out (by decide)⟩
                    go_upto_region 19 with (fail)
                    rw [← V12.out]
                    clear c0 c1 c2 c3 m0 m1 m2 m3 u12
                    obtain ⟨⟨r13, t13⟩, h13⟩ : ∃ p, rdN (strL s) 1 t12 = p := ⟨_, rfl⟩
                    have H13 := Aside.mk h13
                    have g13 : 0 ≤ r13 ∧ r13 ≤ 255 := range1 h13
                    obtain ⟨g13l, g13h⟩ := g13
                    have a13 := rdN_le' RQ12.out.at_ h13
                    have KN : Aside (Calls Tryd.prog 42 #[.pointer (some ⟨Z, 0, none⟩), .int .i64 1] v12 (RNumP v12 Z s (r13, t13))) := ⟨by have h := rnum_any v12 Z s t12 1 (by decide) RQ12.out.at_ hs RQ12.out.rd; rw [h13] at h; exact h⟩
                    have u13 : IntKind.u8.wrap r13 = r13 := by rw [IntKind.wrap_u8]; omega
                    clear h13
                    go_wp2_with fail
                    refine KN.out.mono ?_
                    rintro e w13 ⟨rfl, d13, p13⟩
                    have RD13 := Aside.mk (Rdn.num' RQ12.out hZ0 d13 p13 a13)
                    have P13 := Aside.mk p13
                    clear d13 p13 a13 KN
                    have Y13 := Aside.mk (P13.out.heap X12.out hBZ)
                    obtain ⟨c0, c1, c2, c3⟩ := boxc4 Y13.out
                    obtain ⟨m0, m1, m2, m3⟩ := marks4 Y13.out
                    obtain ⟨v13, V13⟩ : ∃ v, Aside (v = w13.setCell ⟨b0.heap.size, 2, none⟩ (.int .u8 r13)) := ⟨_, ⟨rfl⟩⟩
                    have X13 : Aside (v13.heap[b0.heap.size]? = some (.cells #[.int .u16 r11, .int .u16 r12, .int .u8 r13, .int .u8 0] 51 (0, 0))) := ⟨by
                      rw [V13.out]
                      have h := heap_setCell_at (off := 2) Y13.out (.int .u8 r13)
                      simpa using h⟩
                    have RQ13 : Aside (Rdn W1 s Z b0 t13 v13) := ⟨by
                      rw [V13.out]
                      exact RD13.out.put (kset _ _ _ _) hB0 Y13.out (by decide)⟩
                    go_upto_region 20 with (fail)
                    rw [← V13.out]
                    clear c0 c1 c2 c3 m0 m1 m2 m3 u13
                    obtain ⟨⟨r14, t14⟩, h14⟩ : ∃ p, rdN (strL s) 1 t13 = p := ⟨_, rfl⟩
                    have H14 := Aside.mk h14
                    have g14 : 0 ≤ r14 ∧ r14 ≤ 255 := range1 h14
                    obtain ⟨g14l, g14h⟩ := g14
                    have a14 := rdN_le' RQ13.out.at_ h14
                    have KN : Aside (Calls Tryd.prog 42 #[.pointer (some ⟨Z, 0, none⟩), .int .i64 1] v13 (RNumP v13 Z s (r14, t14))) := ⟨by have h := rnum_any v13 Z s t13 1 (by decide) RQ13.out.at_ hs RQ13.out.rd; rw [h14] at h; exact h⟩
                    have u14 : IntKind.u8.wrap r14 = r14 := by rw [IntKind.wrap_u8]; omega
                    clear h14
                    go_wp2_with fail
                    refine KN.out.mono ?_
                    rintro e w14 ⟨rfl, d14, p14⟩
                    have RD14 := Aside.mk (Rdn.num' RQ13.out hZ0 d14 p14 a14)
                    have P14 := Aside.mk p14
                    clear d14 p14 a14 KN
                    have Y14 := Aside.mk (P14.out.heap X13.out hBZ)
                    obtain ⟨c0, c1, c2, c3⟩ := boxc4 Y14.out
                    obtain ⟨m0, m1, m2, m3⟩ := marks4 Y14.out
                    obtain ⟨v14, V14⟩ : ∃ v, Aside (v = w14.setCell ⟨b0.heap.size, 3, none⟩ (.int .u8 r14)) := ⟨_, ⟨rfl⟩⟩
                    have X14 : Aside (v14.heap[b0.heap.size]? = some (.cells #[.int .u16 r11, .int .u16 r12, .int .u8 r13, .int .u8 r14] 51 (0, 0))) := ⟨by
                      rw [V14.out]
                      have h := heap_setCell_at (off := 3) Y14.out (.int .u8 r14)
                      simpa using h⟩
                    have RQ14 : Aside (Rdn W1 s Z b0 t14 v14) := ⟨by
                      rw [V14.out]
                      exact RD14.out.put (kset _ _ _ _) hB0 Y14.out (by decide)⟩
                    go_upto_region 21 with (fail)
                    rw [← V14.out]
                    clear c0 c1 c2 c3 m0 m1 m2 m3 u14
                    have HX : Aside (winS (strL s) (ta2, false) = ((r11, r12, r13, r14, ()), t14)) := ⟨by simp only [winS, H11.out, H12.out, H13.out, H14.out]⟩
                    have EX : Aside (E_win v14 [.int .u16 r11, .int .u16 r12, .int .u8 r13, .int .u8 r14] (r11, r12, r13, r14, ())) := ⟨⟨rfl, ⟨⟨g11l, g11h⟩, ⟨g12l, g12h⟩, ⟨g13l, g13h⟩, ⟨g14l, g14h⟩⟩⟩⟩
                    have R14 := Aside.mk (M2.out.2.1.tk RQ14.out.tk (by decide) (fun _ _ q => q))
                    have L14 : a0.heap.size ≤ v14.heap.size := Nat.le_trans M2.out.1.tk.size RQ14.out.tk.size
                    clear g11l g11h g12l g12h g13l g13h g14l g14h
                    obtain ⟨c0, c1, c2, c3⟩ := boxc4 X14.out
                    go_wp2_with (at_builtin; go_loud (refine append_elem a0.heap.size rfl _ _ 49 51 _ 4 6 rfl Tryd.underlying49 info_win rfl (by decide) (by decide) vv acc.length css2.flatten [.int .u16 r11, .int .u16 r12, .int .u8 r13, .int .u8 r14] rfl rfl rfl (win_one (r11, r12, r13, r14, ())) R14.out.own L14 (by omega) ?_))
                    intro v1 wz o4 g4 _
                    have M4 : Aside (Rdn W1 s Z a0 t14 wz ∧ RowsR a0.heap.size 51 4 E_win wz v1 (acc ++ [(r11, r12, r13, r14, ())]) (css2 ++ [[.int .u16 r11, .int .u16 r12, .int .u8 r13, .int .u8 r14]]) ∧ manyS (winS (strL s)) (k - 1) t14 (acc ++ [(r11, r12, r13, r14, ())]) = coreS (strL s) (ta1, false)) := ⟨by
                      refine ⟨(M2.out.1.comp RQ14.out).grow R14.out.own g4 (Nat.le_refl _) (by decide), R14.out.push o4 (fun _ _ q => q) EX.out rfl, ?_⟩
                      have h := M2.out.2.2
                      rw [show k = (k - 1) + 1 by omega, many_go _ _ _ _ rfl, HX.out] at h
                      exact h⟩
                    have hsub : IntKind.i64.wrap ((k : Int) - 1) = ((k - 1 : Nat) : Int) := by rw [show (k : Int) - 1 = ((k - 1 : Nat) : Int) by omega]; exact IntWalk.i64_in _ (by omega)
                    clear o4 g4 c0 c1 c2 c3
                    go_wp2_with fail
                    go_roundg (k - 1)
                    case measure => omega
                    case rel => exact ⟨k - 1, _, _, _, _, rfl, rfl, rfl, M4, by simp; omega⟩
                · obtain rfl : k = 0 := by omega
                  go_wp2_with fail
                  go_meet
                  case rel =>
                    have h := M2.out.2.2
                    rw [manyS] at h
                    exact ⟨A6, c6, acc, css2, (ta2, tb2), (by first | rfl | exact hv6), ⟨M2.out.1, by rw [← hv6]; exact M2.out.2.1, by rw [← h], fun _ => by rw [← h]⟩⟩
            case rest =>
              obtain ⟨A6, c6, L, css6, t', rfl, M6⟩ := hcut
              have D6 := Aside.mk (M.out.1.step M6.out.1)
              have R6 := Aside.mk (M.out.2.2.1.tk M6.out.1.tk (by decide) (fun _ _ q => q.tk M6.out.1.tk (by decide)))
              have L6 : LO ≤ wc.heap.size := Nat.le_trans M.out.2.1 M6.out.1.tk.size
              obtain ⟨x0, x1, x2, x3, x4⟩ := box5 D6.out.box
              have hb9 : (C.length + 1) * 24 ≤ 140737488355328 := by have := M.out.2.2.2.2; omega
              go_wp2_with (at_builtin; go_loud (refine append_elem LO rfl _ _ 23 49 _ 1 24 rfl Tryd.underlying23 info_core rfl (by decide) (by decide) v C.length css.flatten [.slice A6 L.length c6] rfl rfl rfl (by simp [Value.oneCell']) R6.out.own L6 hb9 ?_))
              intro v1 wy oy gy _
              obtain ⟨A7, c7, rfl⟩ := own_len oy
              obtain ⟨D7, k7⟩ := D6.out.grown R6.out.own gy (by decide) (by decide) (by omega)
              obtain ⟨D8, k8⟩ := D7.set1 (.slice A7 (C.length + 1) c7)
              have M8 : Aside (DSt3 W1 s Z X t' (.int .u16 r1) (.slice A7 (C.length + 1) c7) (.slice none 0 0) (.slice none 0 0) (.slice none 0 0) (wy.setCell ⟨X, 1, none⟩ (.slice A7 (C.length + 1) c7)) ∧ LO ≤ (wy.setCell ⟨X, 1, none⟩ (.slice A7 (C.length + 1) c7)).heap.size ∧ RowsR LO 49 1 (E_core Z) (wy.setCell ⟨X, 1, none⟩ (.slice A7 (C.length + 1) c7)) (.slice A7 (C.length + 1) c7) (C ++ [L]) (css ++ [[.slice A6 L.length c6]])) := ⟨by
                have kk := k7.mono (us := [49, 28]) (by simp)
                have kk := kk.trans (k8.mono (us := [49, 28]) (by simp))
                refine ⟨D8, Nat.le_trans L6 kk.size, ?_⟩
                refine R6.out.push (own_tk oy k8 (by decide)) (fun _ _ q => q.tk kk (by decide)) ?_ rfl
                have hz := lt_of_block M.out.1.rd
                exact ⟨_, css6, a0.heap.size, rfl, hz, M6.out.2.1.tk kk (by decide) (fun _ _ q => q)⟩⟩
              have HS9 : many_st (coreS (strL s)) (N0 - (i + 1)) t' (C ++ [L]) (coresS (strL s)) := many_st_next M.out.2.2.2.1 (by omega) rfl M6.out.2.2.1 M6.out.2.2.2
              obtain ⟨b0', b1', b2', b3', b4', n0, n1, n2, n3, n4⟩ := boxz D7.box
              clear oy gy x0 x1 x2 x3 x4 D7 D8 k7 k8
              go_wp2_with fail
              go_roundg (N0 - (i + 1))
              case measure => omega
              case rel => exact ⟨i + 1, _, _, _, _, by omega, rfl, by go_num, ⟨M8.out.1, M8.out.2.1, M8.out.2.2, HS9, by simp [M.out.2.2.2.2]⟩⟩
        · obtain rfl : i = N0 := by omega
          obtain ⟨A, c, hv⟩ := own_len M.out.2.2.1.own
          go_wp2_with fail
          go_meet
          case rel =>
            have h := M.out.2.2.2.1
            exact ⟨A, c, C, css, (ta1, tb1), ⟨by rw [← hv]; exact M.out.1, M.out.2.1, by rw [← hv]; exact M.out.2.2.1, many_st_end h (by omega), fun e => many_st_list h (by omega) e⟩⟩
    case rest =>
      obtain ⟨AC, cC, C, cssC, tC, MC⟩ := hcut
      rename World => wC
      go_upto_block 4 with (fail)
      go_cut [] (fun wc => ∃ (A : Option Addr) (c : Nat) (xs : List (PartR)) (css : List (List Value)) (t : St), Aside (DSt3 W1 s Z X t (.int .u16 r1) (.slice AC C.length cC) (.slice A xs.length c) (.slice none 0 0) (.slice none 0 0) wc ∧ LO ≤ wc.heap.size ∧ RowsR LO 49 1 (E_core Z) wc (.slice AC C.length cC) C cssC ∧ RowsR LO 56 6 (E_part Z) wc (.slice A xs.length c) xs css ∧ t = (partsS (strL s)).2 ∧ (t.2 = false → xs = (partsS (strL s)).1)))
      case first =>
        go_wp2_with fail
        go_loopg [17] N1 (fun g sc wr => ∃ (i : Nat) (xs : List (PartR)) (css : List (List Value)) (t : St) (v : Value), i ≤ N1 ∧ g = N1 - i ∧ sc = .int .i64 i ∧ Aside (DSt3 W1 s Z X t (.int .u16 r1) (.slice AC C.length cC) v (.slice none 0 0) (.slice none 0 0) wr ∧ LO ≤ wr.heap.size ∧ RowsR LO 49 1 (E_core Z) wr (.slice AC C.length cC) C cssC ∧ RowsR LO 56 6 (E_part Z) wr v xs css ∧ many_st (partS (strL s)) (N1 - i) t xs (partsS (strL s)) ∧ xs.length = i))
        case atStart => exact ⟨0, [], [], tC, _, by omega, rfl, rfl, ⟨MC.out.1, MC.out.2.1, MC.out.2.2.1, RowsR.nil _ _ _ _ _, many_st_start (by unfold partsS; rw [HC.out.2.2.1, ← MC.out.2.2.2.1]; rfl) (many_bad' _), rfl⟩⟩
        case round =>
          rename World => a0
          obtain ⟨i, xs, css, ⟨ta1, tb1⟩, v, hi, rfl, rfl, M⟩ := hrel
          have hz := M.out.1.rd
          unfold rcells at hz
          obtain ⟨z0, z1, z2, _, _, _⟩ := Bl.box3 hz
          clear hz
          by_cases hlt : i < N1
          · have hlt' : (i : Int) < (N1 : Int) := by omega
            cases tb1 with
            | true =>
              obtain ⟨A, c, hv⟩ := own_len M.out.2.2.2.1.own
              go_wp2_with fail
              go_meet
              case rel => exact ⟨A, c, xs, css, (ta1, true), ⟨by rw [← hv]; exact M.out.1, M.out.2.1, M.out.2.2.1, by rw [← hv]; exact M.out.2.2.2.1, many_st_bad M.out.2.2.2.2.1 rfl, fun e => by cases e⟩⟩
            | false =>
              obtain ⟨W26, HW26⟩ : ∃ W26, Aside (W26 = a0.alloc (.cells #[.slice none 0 0, .int .u8 0, .slice none 0 0, .int .u8 0, .int .u8 0, .int .u8 0] 56)) := ⟨_, ⟨rfl⟩⟩
              have RDa : Aside (Rdn W1 s Z a0 (ta1, false) W26) := ⟨by rw [HW26.out]; exact (Rdn.refl M.out.1.rd M.out.1.at_).below (bel_one _ _)⟩
              have BA : Aside (W26.heap[a0.heap.size]? = some (.cells #[.slice none 0 0, .int .u8 0, .slice none 0 0, .int .u8 0, .int .u8 0, .int .u8 0] 56 (0, 0))) := ⟨by rw [HW26.out]; exact heap_alloc_new _ _⟩
              have hBZ : a0.heap.size ≠ Z := by have := lt_of_block M.out.1.rd; omega
              have hB0 : a0.heap.size ≤ a0.heap.size := Nat.le_refl _
              have hBw : W1.heap.size ≤ a0.heap.size := M.out.1.bel.size
              go_upto_region 27 with (fail)
              rw [← HW26.out]
              clear z0 z1 z2
              obtain ⟨⟨r61, t61⟩, h61⟩ : ∃ p, rdN (strL s) 1 (ta1, false) = p := ⟨_, rfl⟩
              have H61 := Aside.mk h61
              have g61 : 0 ≤ r61 ∧ r61 ≤ 255 := range1 h61
              obtain ⟨g61l, g61h⟩ := g61
              have a61 := rdN_le' RDa.out.at_ h61
              have KN : Aside (Calls Tryd.prog 42 #[.pointer (some ⟨Z, 0, none⟩), .int .i64 1] W26 (RNumP W26 Z s (r61, t61))) := ⟨by have h := rnum_any W26 Z s (ta1, false) 1 (by decide) RDa.out.at_ hs RDa.out.rd; rw [h61] at h; exact h⟩
              have u61 : IntKind.u8.wrap r61 = r61 := by rw [IntKind.wrap_u8]; omega
              clear h61
              go_wp2_with fail
              refine KN.out.mono ?_
              rintro e w61 ⟨rfl, d61, p61⟩
              have RD61 := Aside.mk (Rdn.num' RDa.out hZ0 d61 p61 a61)
              have P61 := Aside.mk p61
              clear d61 p61 a61 KN
              have Y61 := Aside.mk (P61.out.heap BA.out hBZ)
              obtain ⟨N7, rfl⟩ := Int.eq_ofNat_of_zero_le g61l
              have hN7 : N7 ≤ 255 := by omega
              clear u61 g61l g61h
              go_upto_block 6 with (fail)
              go_cut [] (fun wc => ∃ (A : Option Addr) (c : Nat) (L : List SemR) (css2 : List (List Value)) (t' : St), Aside (Rdn W1 s Z a0 t' wc ∧ wc.heap[a0.heap.size]? = some (.cells #[.slice A L.length c, .int .u8 0, .slice none 0 0, .int .u8 0, .int .u8 0, .int .u8 0] 56 (0, 0)) ∧ RowsR a0.heap.size 58 2 E_sem wc (.slice A L.length c) L css2 ∧ t' = (semsS (strL s) (ta1, false)).2 ∧ (t'.2 = false → L = (semsS (strL s) (ta1, false)).1)))
              case first =>
                go_wp2_with fail
                go_loopg [19] N7 (fun g sc wr => ∃ (k : Nat) (acc : List SemR) (css2 : List (List Value)) (t2 : St) (vv : Value), k = g ∧ sc = .int .i64 k ∧ Aside (Rdn W1 s Z a0 t2 wr ∧ wr.heap[a0.heap.size]? = some (.cells #[vv, .int .u8 0, .slice none 0 0, .int .u8 0, .int .u8 0, .int .u8 0] 56 (0, 0)) ∧ RowsR a0.heap.size 58 2 E_sem wr vv acc css2 ∧ manyS (semS (strL s)) k t2 acc = semsS (strL s) (ta1, false)) ∧ acc.length + k = N7)
                case atStart => exact ⟨N7, [], [], t61, _, rfl, rfl, ⟨RD61.out, Y61.out, RowsR.nil _ _ _ _ _, by unfold semsS; rw [H61.out]; rfl⟩, by simp⟩
                case round =>
                  rename World => b0
                  obtain ⟨k, acc, css2, ⟨ta2, tb2⟩, vv, rfl, rfl, M2, hac⟩ := hrel
                  have hz := M2.out.1.rd
                  unfold rcells at hz
                  obtain ⟨z0, z1, z2, _, _, _⟩ := Bl.box3 hz
                  clear hz
                  obtain ⟨A6, c6, hv6⟩ := own_len M2.out.2.2.1.own
                  by_cases hk : 0 < k
                  · have hk' : (0 : Int) < (k : Int) := by omega
                    cases tb2 with
                    | true =>
                      go_wp2_with fail
                      go_meet
                      case rel =>
                        have h := M2.out.2.2.2
                        rw [many_bad _ _ _ _ rfl hk] at h
                        exact ⟨A6, c6, acc, css2, (ta2, true), ⟨M2.out.1, by rw [← hv6]; exact M2.out.2.1, by rw [← hv6]; exact M2.out.2.2.1, by rw [← h], fun e => by cases e⟩⟩
                    | false =>
                      clear hv6 A6 c6
                      obtain ⟨W30, HW30⟩ : ∃ W30, Aside (W30 = b0.alloc (.cells #[.int .u8 0, .int .u8 0] 58)) := ⟨_, ⟨rfl⟩⟩
                      have RDd : Aside (Rdn W1 s Z b0 (ta2, false) W30) := ⟨by rw [HW30.out]; exact (Rdn.refl M2.out.1.rd M2.out.1.at_).below (bel_one _ _)⟩
                      have BX : Aside (W30.heap[b0.heap.size]? = some (.cells #[.int .u8 0, .int .u8 0] 58 (0, 0))) := ⟨by rw [HW30.out]; exact heap_alloc_new _ _⟩
                      have hBZ : b0.heap.size ≠ Z := by have := lt_of_block M2.out.1.rd; omega
                      have hB0 : b0.heap.size ≤ b0.heap.size := Nat.le_refl _
                      go_upto_region 31 with (fail)
                      rw [← HW30.out]
                      clear z0 z1 z2
                      obtain ⟨⟨r71, t71⟩, h71⟩ : ∃ p, rdN (strL s) 1 (ta2, false) = p := ⟨_, rfl⟩
                      have H71 := Aside.mk h71
                      have g71 : 0 ≤ r71 ∧ r71 ≤ 255 := range1 h71
                      obtain ⟨g71l, g71h⟩ := g71
                      have a71 := rdN_le' RDd.out.at_ h71
                      have KN : Aside (Calls Tryd.prog 42 #[.pointer (some ⟨Z, 0, none⟩), .int .i64 1] W30 (RNumP W30 Z s (r71, t71))) := ⟨by have h := rnum_any W30 Z s (ta2, false) 1 (by decide) RDd.out.at_ hs RDd.out.rd; rw [h71] at h; exact h⟩
                      have u71 : IntKind.u8.wrap r71 = r71 := by rw [IntKind.wrap_u8]; omega
                      clear h71
                      go_wp2_with fail
                      refine KN.out.mono ?_
                      rintro e w71 ⟨rfl, d71, p71⟩
                      have RD71 := Aside.mk (Rdn.num' RDd.out hZ0 d71 p71 a71)
                      have P71 := Aside.mk p71
                      clear d71 p71 a71 KN
                      have Y71 := Aside.mk (P71.out.heap BX.out hBZ)
                      obtain ⟨c0, c1⟩ := boxc2 Y71.out
                      obtain ⟨m0, m1⟩ := marks2 Y71.out
                      obtain ⟨v71, V71⟩ : ∃ v, Aside (v = w71.setCell ⟨b0.heap.size, 0, none⟩ (.int .u8 r71)) := ⟨_, ⟨rfl⟩⟩
                      have X71 : Aside (v71.heap[b0.heap.size]? = some (.cells #[.int .u8 r71, .int .u8 0] 58 (0, 0))) := ⟨by
                        rw [V71.out]
                        have h := heap_setCell_at (off := 0) Y71.out (.int .u8 r71)
                        simpa using h⟩
                      have RQ71 : Aside (Rdn W1 s Z b0 t71 v71) := ⟨by
                        rw [V71.out]
                        exact RD71.out.put (kset _ _ _ _) hB0 Y71.out (by decide)⟩
                      go_upto_region 32 with (fail)
                      rw [← V71.out]
                      clear c0 c1 m0 m1 u71
                      obtain ⟨⟨r72, t72⟩, h72⟩ : ∃ p, rdN (strL s) 1 t71 = p := ⟨_, rfl⟩
                      have H72 := Aside.mk h72
                      have g72 : 0 ≤ r72 ∧ r72 ≤ 255 := range1 h72
                      obtain ⟨g72l, g72h⟩ := g72
                      have a72 := rdN_le' RQ71.out.at_ h72
                      have KN : Aside (Calls Tryd.prog 42 #[.pointer (some ⟨Z, 0, none⟩), .int .i64 1] v71 (RNumP v71 Z s (r72, t72))) := ⟨by have h := rnum_any v71 Z s t71 1 (by decide) RQ71.out.at_ hs RQ71.out.rd; rw [h72] at h; exact h⟩
                      have u72 : IntKind.u8.wrap r72 = r72 := by rw [IntKind.wrap_u8]; omega
                      clear h72
                      go_wp2_with fail
                      refine KN.out.mono ?_
                      rintro e w72 ⟨rfl, d72, p72⟩
                      have RD72 := Aside.mk (Rdn.num' RQ71.out hZ0 d72 p72 a72)
                      have P72 := Aside.mk p72
                      clear d72 p72 a72 KN
                      have Y72 := Aside.mk (P72.out.heap X71.out hBZ)
                      obtain ⟨c0, c1⟩ := boxc2 Y72.out
                      obtain ⟨m0, m1⟩ := marks2 Y72.out
                      obtain ⟨v72, V72⟩ : ∃ v, Aside (v = w72.setCell ⟨b0.heap.size, 1, none⟩ (.int .u8 r72)) := ⟨_, ⟨rfl⟩⟩
                      have X72 : Aside (v72.heap[b0.heap.size]? = some (.cells #[.int .u8 r71, .int .u8 r72] 58 (0, 0))) := ⟨by
                        rw [V72.out]
                        have h := heap_setCell_at (off := 1) Y72.out (.int .u8 r72)
                        simpa using h⟩
                      have RQ72 : Aside (Rdn W1 s Z b0 t72 v72) := ⟨by
                        rw [V72.out]
                        exact RD72.out.put (kset _ _ _ _) hB0 Y72.out (by decide)⟩
                      go_upto_region 33 with (fail)
                      rw [← V72.out]
                      clear c0 c1 m0 m1 u72
                      have HX : Aside (semS (strL s) (ta2, false) = ((r71, r72, ()), t72)) := ⟨by simp only [semS, H71.out, H72.out]⟩
                      have EX : Aside (E_sem v72 [.int .u8 r71, .int .u8 r72] (r71, r72, ())) := ⟨⟨rfl, ⟨⟨g71l, g71h⟩, ⟨g72l, g72h⟩⟩⟩⟩
                      have PB := Aside.mk (heap_tk M2.out.2.1 RQ72.out.tk (by decide))
                      have R72 := Aside.mk (M2.out.2.2.1.tk RQ72.out.tk (by decide) (fun _ _ q => q))
                      have L72 : a0.heap.size ≤ v72.heap.size := Nat.le_trans M2.out.1.tk.size RQ72.out.tk.size
                      have hb9 : (acc.length + 1) * 2 ≤ 140737488355328 := by omega
                      clear g71l g71h g72l g72h
                      obtain ⟨c0, c1⟩ := boxc2 X72.out
                      obtain ⟨e0, e1, e2, e3, e4, e5⟩ := boxc6 PB.out
                      go_wp2_with (at_builtin; go_loud (refine append_elem a0.heap.size rfl _ _ 52 58 _ 2 2 rfl Tryd.underlying52 info_sem rfl (by decide) (by decide) vv acc.length css2.flatten [.int .u8 r71, .int .u8 r72] rfl rfl rfl (sem_one (r71, r72, ())) R72.out.own L72 hb9 ?_))
                      intro v1 wz o4 g4 _
                      obtain ⟨A7, c7, rfl⟩ := own_len o4
                      have PZ := Aside.mk ((grown_kept g4).heap PB.out (fun q => own_type R72.out.own PB.out (by decide) q rfl))
                      have kq : Tk W1.heap.size [56] wz (wz.setCell ⟨a0.heap.size, 0, none⟩ (.slice A7 (acc.length + 1) c7)) := Tk.of_block (kset _ _ _ _) PZ.out hBw (by simp)
                      have M4 : Aside (Rdn W1 s Z a0 t72 (wz.setCell ⟨a0.heap.size, 0, none⟩ (.slice A7 (acc.length + 1) c7)) ∧ (wz.setCell ⟨a0.heap.size, 0, none⟩ (.slice A7 (acc.length + 1) c7)).heap[a0.heap.size]? = some (.cells #[.slice A7 (acc.length + 1) c7, .int .u8 0, .slice none 0 0, .int .u8 0, .int .u8 0, .int .u8 0] 56 (0, 0)) ∧ RowsR a0.heap.size 58 2 E_sem (wz.setCell ⟨a0.heap.size, 0, none⟩ (.slice A7 (acc.length + 1) c7)) (.slice A7 (acc.length + 1) c7) (acc ++ [(r71, r72, ())]) (css2 ++ [[.int .u8 r71, .int .u8 r72]]) ∧ manyS (semS (strL s)) (k - 1) t72 (acc ++ [(r71, r72, ())]) = semsS (strL s) (ta1, false)) := ⟨by
                        refine ⟨((M2.out.1.comp RQ72.out).grow R72.out.own g4 (Nat.le_refl _) (by decide)).put (kset _ _ _ _) (Nat.le_refl _) PZ.out (by decide), ?_, R72.out.push (own_tk o4 kq (by decide)) (fun _ _ q => q) EX.out rfl, ?_⟩
                        · have h := heap_setCell_at (off := 0) PZ.out (.slice A7 (acc.length + 1) c7)
                          simpa using h
                        · have h := M2.out.2.2.2
                          rw [show k = (k - 1) + 1 by omega, many_go _ _ _ _ rfl, HX.out] at h
                          exact h⟩
                      have hsub : IntKind.i64.wrap ((k : Int) - 1) = ((k - 1 : Nat) : Int) := by rw [show (k : Int) - 1 = ((k - 1 : Nat) : Int) by omega]; exact IntWalk.i64_in _ (by omega)
                      clear o4 g4 c0 c1 e0 e1 e2 e3 e4 e5 kq
                      obtain ⟨e0, e1, e2, e3, e4, e5⟩ := boxc6 PZ.out
                      obtain ⟨m0, m1, m2, m3, m4, m5⟩ := marks6 PZ.out
                      go_wp2_with fail
                      go_roundg (k - 1)
                      case measure => omega
                      case rel => exact ⟨k - 1, _, _, _, _, rfl, rfl, M4, by simp; omega⟩
                  · obtain rfl : k = 0 := by omega
                    go_wp2_with fail
                    go_meet
                    case rel =>
                      have h := M2.out.2.2.2
                      rw [manyS] at h
                      exact ⟨A6, c6, acc, css2, (ta2, tb2), ⟨M2.out.1, by rw [← hv6]; exact M2.out.2.1, by rw [← hv6]; exact M2.out.2.2.1, by rw [← h], fun _ => by rw [← h]⟩⟩
              case rest =>
                obtain ⟨AS, cS, LS, cssS, tS, MS⟩ := hcut
                rename World => wS
                have RDS : Aside (Rdn W1 s Z a0 tS wS) := ⟨MS.out.1⟩
                have BS : Aside (wS.heap[a0.heap.size]? = some (.cells #[.slice AS LS.length cS, .int .u8 0, .slice none 0 0, .int .u8 0, .int .u8 0, .int .u8 0] 56 (0, 0))) := ⟨MS.out.2.1⟩
                obtain ⟨⟨r63, t63⟩, h63⟩ : ∃ p, rdN (strL s) 1 tS = p := ⟨_, rfl⟩
                have H63 := Aside.mk h63
                have g63 : 0 ≤ r63 ∧ r63 ≤ 255 := range1 h63
                obtain ⟨g63l, g63h⟩ := g63
                have a63 := rdN_le' RDS.out.at_ h63
                have KN : Aside (Calls Tryd.prog 42 #[.pointer (some ⟨Z, 0, none⟩), .int .i64 1] wS (RNumP wS Z s (r63, t63))) := ⟨by have h := rnum_any wS Z s tS 1 (by decide) RDS.out.at_ hs RDS.out.rd; rw [h63] at h; exact h⟩
                have u63 : IntKind.u8.wrap r63 = r63 := by rw [IntKind.wrap_u8]; omega
                clear h63
                go_wp2_with fail
                refine KN.out.mono ?_
                rintro e w63 ⟨rfl, d63, p63⟩
                have RD63 := Aside.mk (Rdn.num' RDS.out hZ0 d63 p63 a63)
                have P63 := Aside.mk p63
                clear d63 p63 a63 KN
                have Y63 := Aside.mk (P63.out.heap BS.out hBZ)
                obtain ⟨c0, c1, c2, c3, c4, c5⟩ := boxc6 Y63.out
                obtain ⟨m0, m1, m2, m3, m4, m5⟩ := marks6 Y63.out
                obtain ⟨v63, V63⟩ : ∃ v, Aside (v = w63.setCell ⟨a0.heap.size, 1, none⟩ (.int .u8 r63)) := ⟨_, ⟨rfl⟩⟩
                have X63 : Aside (v63.heap[a0.heap.size]? = some (.cells #[.slice AS LS.length cS, .int .u8 r63, .slice none 0 0, .int .u8 0, .int .u8 0, .int .u8 0] 56 (0, 0))) := ⟨by
                  rw [V63.out]
                  have h := heap_setCell_at (off := 1) Y63.out (.int .u8 r63)
                  simpa using h⟩
                have RQ63 : Aside (Rdn W1 s Z a0 t63 v63) := ⟨by
                  rw [V63.out]
                  exact RD63.out.put (kset _ _ _ _) hB0 Y63.out (by decide)⟩
                go_upto_region 35 with (fail)
                rw [← V63.out]
                clear c0 c1 c2 c3 c4 c5 m0 m1 m2 m3 m4 m5 u63
                have kS : Tk W1.heap.size [98, 56] wS v63 := (Tk.of_block P63.out RDS.out.rd hZ0 (by simp)).trans (by rw [V63.out]; exact Tk.of_block (kset _ _ _ _) Y63.out hBw (by simp))
                have RS63 := Aside.mk (MS.out.2.2.1.tk kS (by decide) (fun _ _ q => q))
                clear kS
                obtain ⟨⟨r64, t64⟩, h64⟩ : ∃ p, rdN (strL s) 1 t63 = p := ⟨_, rfl⟩
                have H64 := Aside.mk h64
                have g64 : 0 ≤ r64 ∧ r64 ≤ 255 := range1 h64
                obtain ⟨g64l, g64h⟩ := g64
                have a64 := rdN_le' RQ63.out.at_ h64
                have KN : Aside (Calls Tryd.prog 42 #[.pointer (some ⟨Z, 0, none⟩), .int .i64 1] v63 (RNumP v63 Z s (r64, t64))) := ⟨by have h := rnum_any v63 Z s t63 1 (by decide) RQ63.out.at_ hs RQ63.out.rd; rw [h64] at h; exact h⟩
                have u64 : IntKind.u8.wrap r64 = r64 := by rw [IntKind.wrap_u8]; omega
                clear h64
                go_wp2_with fail
                refine KN.out.mono ?_
                rintro e w64 ⟨rfl, d64, p64⟩
                have RD64 := Aside.mk (Rdn.num' RQ63.out hZ0 d64 p64 a64)
                have P64 := Aside.mk p64
                clear d64 p64 a64 KN
                have Y64 := Aside.mk (P64.out.heap X63.out hBZ)
                have RS64 := Aside.mk (RS63.out.tk (Tk.of_block (lo := W1.heap.size) (ts := [98]) P64.out RQ63.out.rd hZ0 (by simp)) (by decide) (fun _ _ q => q))
                obtain ⟨N8, rfl⟩ := Int.eq_ofNat_of_zero_le g64l
                have hN8 : N8 ≤ 255 := by omega
                clear u64 g64l g64h
                go_upto_block 8 with (fail)
                go_cut [] (fun wc => ∃ (A : Option Addr) (c : Nat) (L : List Int) (css2 : List (List Value)) (t' : St), Aside (Rdn W1 s Z a0 t' wc ∧ wc.heap[a0.heap.size]? = some (.cells #[.slice AS LS.length cS, .int .u8 r63, .slice A L.length c, .int .u8 0, .int .u8 0, .int .u8 0] 56 (0, 0)) ∧ RowsR a0.heap.size 58 2 E_sem wc (.slice AS LS.length cS) LS cssS ∧ RowsR a0.heap.size 5 1 E_u8 wc (.slice A L.length c) L css2 ∧ t' = (procsS (strL s) t63).2 ∧ (t'.2 = false → L = (procsS (strL s) t63).1)))
                case first =>
                  go_wp2_with fail
                  go_loopg [21] N8 (fun g sc wr => ∃ (k : Nat) (acc : List Int) (css2 : List (List Value)) (t2 : St) (vv : Value), k = g ∧ sc = .int .i64 k ∧ Aside (Rdn W1 s Z a0 t2 wr ∧ wr.heap[a0.heap.size]? = some (.cells #[.slice AS LS.length cS, .int .u8 r63, vv, .int .u8 0, .int .u8 0, .int .u8 0] 56 (0, 0)) ∧ RowsR a0.heap.size 58 2 E_sem wr (.slice AS LS.length cS) LS cssS ∧ RowsR a0.heap.size 5 1 E_u8 wr vv acc css2 ∧ manyS (rdN (strL s) 1) k t2 acc = procsS (strL s) t63) ∧ acc.length + k = N8)
                  case atStart => exact ⟨N8, [], [], t64, _, rfl, rfl, ⟨RD64.out, Y64.out, RS64.out, RowsR.nil _ _ _ _ _, by unfold procsS; rw [H64.out]; rfl⟩, by simp⟩
                  case round =>
                    rename World => b0
                    obtain ⟨k, acc, css2, ⟨ta2, tb2⟩, vv, rfl, rfl, M2, hac⟩ := hrel
                    have hz := M2.out.1.rd
                    unfold rcells at hz
                    obtain ⟨z0, z1, z2, _, _, _⟩ := Bl.box3 hz
                    clear hz
                    obtain ⟨A6, c6, hv6⟩ := own_len M2.out.2.2.2.1.own
                    by_cases hk : 0 < k
                    · have hk' : (0 : Int) < (k : Int) := by omega
                      cases tb2 with
                      | true =>
                        go_wp2_with fail
                        go_meet
                        case rel =>
                          have h := M2.out.2.2.2.2
                          rw [many_bad _ _ _ _ rfl hk] at h
                          exact ⟨A6, c6, acc, css2, (ta2, true), ⟨M2.out.1, by rw [← hv6]; exact M2.out.2.1, M2.out.2.2.1, by rw [← hv6]; exact M2.out.2.2.2.1, by rw [← h], fun e => by cases e⟩⟩
                      | false =>
                        clear hv6 A6 c6
                        obtain ⟨⟨r91, t91⟩, h91⟩ : ∃ p, rdN (strL s) 1 (ta2, false) = p := ⟨_, rfl⟩
                        have H91 := Aside.mk h91
                        have g91 : 0 ≤ r91 ∧ r91 ≤ 255 := range1 h91
                        have aN := rdN_le' M2.out.1.at_ h91
                        have SR := Aside.mk (Below.refl b0.heap.size b0)
                        have KNr : Aside (∀ W, Below b0.heap.size b0 W → Calls Tryd.prog 42 #[.pointer (some ⟨Z, 0, none⟩), .int .i64 1] W (RNumP W Z s (r91, t91))) := ⟨fun W hW => by have h := rnum_any W Z s (ta2, false) 1 (by decide) M2.out.1.at_ hs (hup hW M2.out.1.rd); rw [h91] at h; exact h⟩
                        have u91 : IntKind.u8.wrap r91 = r91 := by rw [IntKind.wrap_u8]; omega
                        have hb9 : (acc.length + 1) * 1 ≤ 140737488355328 := by omega
                        have hsub : IntKind.i64.wrap ((k : Int) - 1) = ((k - 1 : Nat) : Int) := by rw [show (k : Int) - 1 = ((k - 1 : Nat) : Int) by omega]; exact IntWalk.i64_in _ (by omega)
                        clear h91
                        go_upto_region 38 with (fail)
                        clear z0 z1 z2
                        obtain ⟨e0, e1, e2, e3, e4, e5⟩ := boxc6 (hup (bel_drew (Below.refl b0.heap.size b0)) M2.out.2.1)
                        go_region_law (first
                          | (refine step_append_elem a0.heap.size rfl _ _ 31 5 _ 1 1 rfl Tryd.underlying31 info_u8 rfl (by decide) (by decide) vv acc.length css2.flatten [.int .u8 r91] rfl rfl rfl (u8_one r91) R1.own L1 hb9 ?_; intro v1 wz o4 g4; obtain ⟨A7, c7, rfl⟩ := own_len o4; have PZ := (grown_kept g4).heap PB1 (fun q => own_type R1.own PB1 (by decide) q rfl); obtain ⟨e0, e1, e2, e3, e4, e5⟩ := boxc6 PZ; obtain ⟨m0, m1, m2, m3, m4, m5⟩ := marks6 PZ)
                          | (go_simp; first | ((with_reducible refine (KNr.out _ SR.out).mono ?_); rintro e x1 ⟨rfl, d1, p1⟩; have Rq := Rdn.num' ((Rdn.refl M2.out.1.rd M2.out.1.at_).below SR.out) hZ0 d1 p1 aN; have PB1 := heap_tk M2.out.2.1 Rq.tk (by decide); have R1 := M2.out.2.2.2.1.tk Rq.tk (by decide) (fun _ _ q => q); have L1 := Nat.le_trans M2.out.1.tk.size Rq.tk.size; obtain ⟨i0, i1, i2, i3, i4, i5⟩ := boxc6 PB1; have i9 := lt_of_block PB1; obtain ⟨j0, j1, j2, j3, j4, j5⟩ := boxc6 (tu1 (x := .cells #[.int .u8 r91] 5) PB1)) | ((with_reducible refine (KNr.out _ (bel_drew SR.out)).mono ?_); rintro e x1 ⟨rfl, d1, p1⟩; have Rq := Rdn.num' ((Rdn.refl M2.out.1.rd M2.out.1.at_).below (bel_drew SR.out)) hZ0 d1 p1 aN; have PB1 := heap_tk M2.out.2.1 Rq.tk (by decide); have R1 := M2.out.2.2.2.1.tk Rq.tk (by decide) (fun _ _ q => q); have L1 := Nat.le_trans M2.out.1.tk.size Rq.tk.size; obtain ⟨i0, i1, i2, i3, i4, i5⟩ := boxc6 PB1; have i9 := lt_of_block PB1; obtain ⟨j0, j1, j2, j3, j4, j5⟩ := boxc6 (tu1 (x := .cells #[.int .u8 r91] 5) PB1))))
                        all_goals
                          have kq : Tk W1.heap.size [56] wz (wz.setCell ⟨a0.heap.size, 2, none⟩ (.slice A7 (acc.length + 1) c7)) := Tk.of_block (kset _ _ _ _) PZ hBw (by simp)
                          have kz : Tk W1.heap.size [98, 5, 56] b0 (wz.setCell ⟨a0.heap.size, 2, none⟩ (.slice A7 (acc.length + 1) c7)) := ((Rq.tk.mono (by simp)).trans (Tk.grown (own_down R1.own hBw) g4 (by simp))).trans (kq.mono (by simp))
                          have M4 : Aside (Rdn W1 s Z a0 t91 (wz.setCell ⟨a0.heap.size, 2, none⟩ (.slice A7 (acc.length + 1) c7)) ∧ (wz.setCell ⟨a0.heap.size, 2, none⟩ (.slice A7 (acc.length + 1) c7)).heap[a0.heap.size]? = some (.cells #[.slice AS LS.length cS, .int .u8 r63, .slice A7 (acc.length + 1) c7, .int .u8 0, .int .u8 0, .int .u8 0] 56 (0, 0)) ∧ RowsR a0.heap.size 58 2 E_sem (wz.setCell ⟨a0.heap.size, 2, none⟩ (.slice A7 (acc.length + 1) c7)) (.slice AS LS.length cS) LS cssS ∧ RowsR a0.heap.size 5 1 E_u8 (wz.setCell ⟨a0.heap.size, 2, none⟩ (.slice A7 (acc.length + 1) c7)) (.slice A7 (acc.length + 1) c7) (acc ++ [r91]) (css2 ++ [[.int .u8 r91]]) ∧ manyS (rdN (strL s) 1) (k - 1) t91 (acc ++ [r91]) = procsS (strL s) t63) := ⟨by
                            refine ⟨((M2.out.1.comp Rq).grow R1.own g4 (Nat.le_refl _) (by decide)).put (kset _ _ _ _) (Nat.le_refl _) PZ (by decide), ?_, M2.out.2.2.1.tk kz (by decide) (fun _ _ q => q), R1.push (own_tk o4 kq (by decide)) (fun _ _ q => q) ⟨rfl, g91⟩ rfl, ?_⟩
                            · have h := heap_setCell_at (off := 2) PZ (.slice A7 (acc.length + 1) c7)
                              simpa using h
                            · have h := M2.out.2.2.2.2
                              rw [show k = (k - 1) + 1 by omega, many_go _ _ _ _ rfl, H91.out] at h
                              exact h⟩
                          clear o4 g4 kq kz
                          go_wp2_with fail
                          go_roundg (k - 1)
                          case measure => omega
                          case rel => exact ⟨k - 1, _, _, _, _, rfl, rfl, M4, by simp; omega⟩
                    · obtain rfl : k = 0 := by omega
                      go_wp2_with fail
                      go_meet
                      case rel =>
                        have h := M2.out.2.2.2.2
                        rw [manyS] at h
                        exact ⟨A6, c6, acc, css2, (ta2, tb2), ⟨M2.out.1, by rw [← hv6]; exact M2.out.2.1, M2.out.2.2.1, by rw [← hv6]; exact M2.out.2.2.2.1, by rw [← h], fun _ => by rw [← h]⟩⟩
                case rest =>
                  obtain ⟨AO, cO, LO2, cssO, tO, MO⟩ := hcut
                  rename World => wO
                  have RDP : Aside (Rdn W1 s Z a0 tO wO) := ⟨MO.out.1⟩
                  have BP : Aside (wO.heap[a0.heap.size]? = some (.cells #[.slice AS LS.length cS, .int .u8 r63, .slice AO LO2.length cO, .int .u8 0, .int .u8 0, .int .u8 0] 56 (0, 0))) := ⟨MO.out.2.1⟩
                  go_wp2_with fail
                  refine wp_loop_rounds 4 ?_
                  rw [rounds_succ]
                  obtain ⟨⟨r81, t81⟩, h81⟩ : ∃ p, rdN (strL s) 1 tO = p := ⟨_, rfl⟩
                  have H81 := Aside.mk h81
                  have g81 : 0 ≤ r81 ∧ r81 ≤ 255 := range1 h81
                  obtain ⟨g81l, g81h⟩ := g81
                  have a81 := rdN_le' RDP.out.at_ h81
                  have KN : Aside (Calls Tryd.prog 42 #[.pointer (some ⟨Z, 0, none⟩), .int .i64 1] wO (RNumP wO Z s (r81, t81))) := ⟨by have h := rnum_any wO Z s tO 1 (by decide) RDP.out.at_ hs RDP.out.rd; rw [h81] at h; exact h⟩
                  have u81 : IntKind.u8.wrap r81 = r81 := by rw [IntKind.wrap_u8]; omega
                  clear h81
                  go_wp2_with fail
                  refine KN.out.mono ?_
                  rintro e w81 ⟨rfl, d81, p81⟩
                  have RD81 := Aside.mk (Rdn.num' RDP.out hZ0 d81 p81 a81)
                  have P81 := Aside.mk p81
                  clear d81 p81 a81 KN
                  have Y81 := Aside.mk (P81.out.heap BP.out hBZ)
                  obtain ⟨c0, c1, c2, c3, c4, c5⟩ := boxc6 Y81.out
                  obtain ⟨m0, m1, m2, m3, m4, m5⟩ := marks6 Y81.out
                  obtain ⟨v81, V81⟩ : ∃ v, Aside (v = w81.setCell ⟨a0.heap.size, 3, none⟩ (.int .u8 r81)) := ⟨_, ⟨rfl⟩⟩
                  have X81 : Aside (v81.heap[a0.heap.size]? = some (.cells #[.slice AS LS.length cS, .int .u8 r63, .slice AO LO2.length cO, .int .u8 r81, .int .u8 0, .int .u8 0] 56 (0, 0))) := ⟨by
                    rw [V81.out]
                    have h := heap_setCell_at (off := 3) Y81.out (.int .u8 r81)
                    simpa using h⟩
                  have RQ81 : Aside (Rdn W1 s Z a0 t81 v81) := ⟨by
                    rw [V81.out]
                    exact RD81.out.put (kset _ _ _ _) hB0 Y81.out (by decide)⟩
                  go_upto_region 41 with (fail)
                  rw [← V81.out]
                  clear c0 c1 c2 c3 c4 c5 m0 m1 m2 m3 m4 m5 u81
                  have KQ81 : Aside (Tk W1.heap.size [98, 56] wO v81) := ⟨(Tk.of_block P81.out RDP.out.rd hZ0 (by simp)).trans (by rw [V81.out]; exact Tk.of_block (kset _ _ _ _) Y81.out hBw (by simp))⟩
                  go_wp2_with fail
                  rw [rounds_succ]
                  obtain ⟨⟨r82, t82⟩, h82⟩ : ∃ p, rdN (strL s) 1 t81 = p := ⟨_, rfl⟩
                  have H82 := Aside.mk h82
                  have g82 : 0 ≤ r82 ∧ r82 ≤ 255 := range1 h82
                  obtain ⟨g82l, g82h⟩ := g82
                  have a82 := rdN_le' RQ81.out.at_ h82
                  have KN : Aside (Calls Tryd.prog 42 #[.pointer (some ⟨Z, 0, none⟩), .int .i64 1] v81 (RNumP v81 Z s (r82, t82))) := ⟨by have h := rnum_any v81 Z s t81 1 (by decide) RQ81.out.at_ hs RQ81.out.rd; rw [h82] at h; exact h⟩
                  have u82 : IntKind.u8.wrap r82 = r82 := by rw [IntKind.wrap_u8]; omega
                  clear h82
                  go_wp2_with fail
                  refine KN.out.mono ?_
                  rintro e w82 ⟨rfl, d82, p82⟩
                  have RD82 := Aside.mk (Rdn.num' RQ81.out hZ0 d82 p82 a82)
                  have P82 := Aside.mk p82
                  clear d82 p82 a82 KN
                  have Y82 := Aside.mk (P82.out.heap X81.out hBZ)
                  obtain ⟨c0, c1, c2, c3, c4, c5⟩ := boxc6 Y82.out
                  obtain ⟨m0, m1, m2, m3, m4, m5⟩ := marks6 Y82.out
                  obtain ⟨v82, V82⟩ : ∃ v, Aside (v = w82.setCell ⟨a0.heap.size, 4, none⟩ (.int .u8 r82)) := ⟨_, ⟨rfl⟩⟩
                  have X82 : Aside (v82.heap[a0.heap.size]? = some (.cells #[.slice AS LS.length cS, .int .u8 r63, .slice AO LO2.length cO, .int .u8 r81, .int .u8 r82, .int .u8 0] 56 (0, 0))) := ⟨by
                    rw [V82.out]
                    have h := heap_setCell_at (off := 4) Y82.out (.int .u8 r82)
                    simpa using h⟩
                  have RQ82 : Aside (Rdn W1 s Z a0 t82 v82) := ⟨by
                    rw [V82.out]
                    exact RD82.out.put (kset _ _ _ _) hB0 Y82.out (by decide)⟩
                  go_upto_region 41 with (fail)
                  rw [← V82.out]
                  clear c0 c1 c2 c3 c4 c5 m0 m1 m2 m3 m4 m5 u82
                  have KQ82 : Aside (Tk W1.heap.size [98, 56] v81 v82) := ⟨(Tk.of_block P82.out RQ81.out.rd hZ0 (by simp)).trans (by rw [V82.out]; exact Tk.of_block (kset _ _ _ _) Y82.out hBw (by simp))⟩
                  go_wp2_with fail
                  rw [rounds_succ]
                  obtain ⟨⟨r83, t83⟩, h83⟩ : ∃ p, rdN (strL s) 1 t82 = p := ⟨_, rfl⟩
                  have H83 := Aside.mk h83
                  have g83 : 0 ≤ r83 ∧ r83 ≤ 255 := range1 h83
                  obtain ⟨g83l, g83h⟩ := g83
                  have a83 := rdN_le' RQ82.out.at_ h83
                  have KN : Aside (Calls Tryd.prog 42 #[.pointer (some ⟨Z, 0, none⟩), .int .i64 1] v82 (RNumP v82 Z s (r83, t83))) := ⟨by have h := rnum_any v82 Z s t82 1 (by decide) RQ82.out.at_ hs RQ82.out.rd; rw [h83] at h; exact h⟩
                  have u83 : IntKind.u8.wrap r83 = r83 := by rw [IntKind.wrap_u8]; omega
                  clear h83
                  go_wp2_with fail
                  refine KN.out.mono ?_
                  rintro e w83 ⟨rfl, d83, p83⟩
                  have RD83 := Aside.mk (Rdn.num' RQ82.out hZ0 d83 p83 a83)
                  have P83 := Aside.mk p83
                  clear d83 p83 a83 KN
                  have Y83 := Aside.mk (P83.out.heap X82.out hBZ)
                  obtain ⟨c0, c1, c2, c3, c4, c5⟩ := boxc6 Y83.out
                  obtain ⟨m0, m1, m2, m3, m4, m5⟩ := marks6 Y83.out
                  obtain ⟨v83, V83⟩ : ∃ v, Aside (v = w83.setCell ⟨a0.heap.size, 5, none⟩ (.int .u8 r83)) := ⟨_, ⟨rfl⟩⟩
                  have X83 : Aside (v83.heap[a0.heap.size]? = some (.cells #[.slice AS LS.length cS, .int .u8 r63, .slice AO LO2.length cO, .int .u8 r81, .int .u8 r82, .int .u8 r83] 56 (0, 0))) := ⟨by
                    rw [V83.out]
                    have h := heap_setCell_at (off := 5) Y83.out (.int .u8 r83)
                    simpa using h⟩
                  have RQ83 : Aside (Rdn W1 s Z a0 t83 v83) := ⟨by
                    rw [V83.out]
                    exact RD83.out.put (kset _ _ _ _) hB0 Y83.out (by decide)⟩
                  go_upto_region 41 with (fail)
                  rw [← V83.out]
                  clear c0 c1 c2 c3 c4 c5 m0 m1 m2 m3 m4 m5 u83
                  have KQ83 : Aside (Tk W1.heap.size [98, 56] v82 v83) := ⟨(Tk.of_block P83.out RQ82.out.rd hZ0 (by simp)).trans (by rw [V83.out]; exact Tk.of_block (kset _ _ _ _) Y83.out hBw (by simp))⟩
                  go_wp2_with fail
                  rw [rounds_succ]
                  have kA : Tk W1.heap.size [98, 56] wO v83 := (KQ81.out.trans KQ82.out).trans KQ83.out
                  have EX : Aside (E_part Z v83 [.slice AS LS.length cS, .int .u8 r63, .slice AO LO2.length cO, .int .u8 r81, .int .u8 r82, .int .u8 r83] (LS, r63, LO2, [r81, r82, r83], ())) := ⟨⟨_, _, cssS, cssO, a0.heap.size, rfl, lt_of_block M.out.1.rd, MO.out.2.2.1.tk kA (by decide) (fun _ _ q => q), MO.out.2.2.2.1.tk kA (by decide) (fun _ _ q => q), ⟨g63l, g63h⟩, rfl, ⟨g81l, g81h⟩, ⟨g82l, g82h⟩, ⟨g83l, g83h⟩⟩⟩
                  have e1 := MS.out.2.2.2.1.symm
                  have e2 := H63.out
                  have e3 := MO.out.2.2.2.2.1.symm
                  have e4 : actsS (strL s) tO = ([r81, r82, r83], t83) := by simp only [actsS, H81.out, H82.out, H83.out]
                  have hx1 : Aside (t83 = (partS (strL s) (ta1, false)).2) := ⟨by simp only [partS, e1, e2, e3, e4]⟩
                  have hx2 : Aside (t83.2 = false → (LS, r63, LO2, [r81, r82, r83], ()) = (partS (strL s) (ta1, false)).1) := ⟨fun hb => by
                    have f3 : tO.2 = false := by
                      cases h : tO.2 with
                      | false => rfl
                      | true =>
                        have := rdb_acts.bad (strL s) tO h
                        rw [e4] at this
                        rw [← this] at h
                        rw [h] at hb
                        cases hb
                    have f2 : t63.2 = false := by
                      cases h : t63.2 with
                      | false => rfl
                      | true =>
                        have := rdb_procs.bad (strL s) t63 h
                        rw [e3] at this
                        rw [this, h] at f3
                        cases f3
                    have f1 : tS.2 = false := by
                      cases h : tS.2 with
                      | false => rfl
                      | true =>
                        have := rdb_one.bad (strL s) tS h
                        have this : (rdN (strL s) 1 tS).2 = tS := this
                        rw [e2] at this
                        have this : t63 = tS := this
                        rw [this, h] at f2
                        cases f2
                    simp only [partS, e1, e2, e3, e4, ← MS.out.2.2.2.2 f1, ← MO.out.2.2.2.2.2 f3]⟩
                  clear g63l g63h g81l g81h g82l g82h g83l g83h e1 e2 e3 e4 kA
                  obtain ⟨c0, c1, c2, c3, c4, c5⟩ := boxc6 X83.out
                  have D6 := Aside.mk (M.out.1.step RQ83.out)
                  have RO0 := Aside.mk (M.out.2.2.1.tk RQ83.out.tk (by decide) (fun _ _ q => q.tk RQ83.out.tk (by decide)))
                  have R6 := Aside.mk (M.out.2.2.2.1.tk RQ83.out.tk (by decide) (fun _ _ q => q.tk RQ83.out.tk (by decide)))
                  have L6 : LO ≤ v83.heap.size := Nat.le_trans M.out.2.1 RQ83.out.tk.size
                  obtain ⟨x0, x1, x2, x3, x4⟩ := box5 D6.out.box
                  have hb9 : (xs.length + 1) * 64 ≤ 140737488355328 := by have := M.out.2.2.2.2.2; omega

                  go_wp2_with (at_builtin; go_loud (refine append_elem LO rfl _ _ 24 56 _ 6 64 rfl Tryd.underlying24 info_part rfl (by decide) (by decide) v xs.length css.flatten [.slice AS LS.length cS, .int .u8 r63, .slice AO LO2.length cO, .int .u8 r81, .int .u8 r82, .int .u8 r83] rfl rfl rfl (by simp [Value.oneCell']) R6.out.own L6 hb9 ?_))
                  intro v1 wy oy gy _
                  obtain ⟨A7, c7, rfl⟩ := own_len oy
                  obtain ⟨D7, k7⟩ := D6.out.grown R6.out.own gy (by decide) (by decide) (by omega)
                  obtain ⟨D8, k8⟩ := D7.set2 (.slice A7 (xs.length + 1) c7)
                  have kk : Tk W1.heap.size [56, 28] v83 (wy.setCell ⟨X, 2, none⟩ (.slice A7 (xs.length + 1) c7)) := (k7.mono (by simp)).trans (k8.mono (by simp))
                  have M8 : Aside (DSt3 W1 s Z X t83 (.int .u16 r1) (.slice AC C.length cC) (.slice A7 (xs.length + 1) c7) (.slice none 0 0) (.slice none 0 0) (wy.setCell ⟨X, 2, none⟩ (.slice A7 (xs.length + 1) c7)) ∧ LO ≤ (wy.setCell ⟨X, 2, none⟩ (.slice A7 (xs.length + 1) c7)).heap.size ∧ RowsR LO 49 1 (E_core Z) (wy.setCell ⟨X, 2, none⟩ (.slice A7 (xs.length + 1) c7)) (.slice AC C.length cC) C cssC ∧ RowsR LO 56 6 (E_part Z) (wy.setCell ⟨X, 2, none⟩ (.slice A7 (xs.length + 1) c7)) (.slice A7 (xs.length + 1) c7) (xs ++ [(LS, r63, LO2, [r81, r82, r83], ())]) (css ++ [[.slice AS LS.length cS, .int .u8 r63, .slice AO LO2.length cO, .int .u8 r81, .int .u8 r82, .int .u8 r83]])) := ⟨by
                    refine ⟨D8, Nat.le_trans L6 kk.size, RO0.out.tk kk (by decide) (fun _ _ q => q.tk kk (by decide)), ?_⟩
                    exact R6.out.push (own_tk oy k8 (by decide)) (fun _ _ q => q.tk kk (by decide)) (EX.out.tk kk (by decide)) rfl⟩
                  have HS9 : many_st (partS (strL s)) (N1 - (i + 1)) t83 (xs ++ [(LS, r63, LO2, [r81, r82, r83], ())]) (partsS (strL s)) := many_st_next M.out.2.2.2.2.1 (by omega) rfl hx1.out hx2.out
                  obtain ⟨b0', b1', b2', b3', b4', n0, n1, n2, n3, n4⟩ := boxz D7.box
                  clear oy gy x0 x1 x2 x3 x4 D7 D8 k7 k8 kk
                  go_wp2_with fail
                  go_roundg (N1 - (i + 1))
                  case measure => omega
                  case rel => exact ⟨i + 1, _, _, _, _, by omega, rfl, by go_num, ⟨M8.out.1, M8.out.2.1, M8.out.2.2.1, M8.out.2.2.2, HS9, by simp [M.out.2.2.2.2.2]⟩⟩
          · obtain rfl : i = N1 := by omega
            obtain ⟨A, c, hv⟩ := own_len M.out.2.2.2.1.own
            go_wp2_with fail
            go_meet
            case rel =>
              have h := M.out.2.2.2.2.1
              exact ⟨A, c, xs, css, (ta1, tb1), ⟨by rw [← hv]; exact M.out.1, M.out.2.1, M.out.2.2.1, by rw [← hv]; exact M.out.2.2.2.1, many_st_end h (by omega), fun e => many_st_list h (by omega) e⟩⟩
      case rest =>
        obtain ⟨AP, cP, PL, cssP, tP, MP⟩ := hcut
        rename World => wP
        go_upto_block 12 with (fail)
        go_cut [] (fun wc => ∃ (A : Option Addr) (c : Nat) (xs : List (ChanR)) (css : List (List Value)) (t : St), Aside (DSt3 W1 s Z X t (.int .u16 r1) (.slice AC C.length cC) (.slice AP PL.length cP) (.slice A xs.length c) (.slice none 0 0) wc ∧ LO ≤ wc.heap.size ∧ RowsR LO 49 1 (E_core Z) wc (.slice AC C.length cC) C cssC ∧ RowsR LO 56 6 (E_part Z) wc (.slice AP PL.length cP) PL cssP ∧ RowsR LO 60 6 E_chan wc (.slice A xs.length c) xs css ∧ t = (chansS (strL s)).2 ∧ (t.2 = false → xs = (chansS (strL s)).1)))
        case first =>
          go_wp2_with fail
          go_loopg [23] N2 (fun g sc wr => ∃ (i : Nat) (xs : List (ChanR)) (css : List (List Value)) (t : St) (v : Value), i ≤ N2 ∧ g = N2 - i ∧ sc = .int .i64 i ∧ Aside (DSt3 W1 s Z X t (.int .u16 r1) (.slice AC C.length cC) (.slice AP PL.length cP) v (.slice none 0 0) wr ∧ LO ≤ wr.heap.size ∧ RowsR LO 49 1 (E_core Z) wr (.slice AC C.length cC) C cssC ∧ RowsR LO 56 6 (E_part Z) wr (.slice AP PL.length cP) PL cssP ∧ RowsR LO 60 6 E_chan wr v xs css ∧ many_st (chanS (strL s)) (N2 - i) t xs (chansS (strL s)) ∧ xs.length = i))
          case atStart => exact ⟨0, [], [], tP, _, by omega, rfl, rfl, ⟨MP.out.1, MP.out.2.1, MP.out.2.2.1, MP.out.2.2.2.1, RowsR.nil _ _ _ _ _, many_st_start (by unfold chansS; rw [HC.out.2.2.2.1, ← MP.out.2.2.2.2.1]; rfl) (many_bad' _), rfl⟩⟩
          case round =>
            rename World => a0
            obtain ⟨i, xs, css, ⟨ta1, tb1⟩, v, hi, rfl, rfl, M⟩ := hrel
            have hz := M.out.1.rd
            unfold rcells at hz
            obtain ⟨z0, z1, z2, _, _, _⟩ := Bl.box3 hz
            clear hz
            by_cases hlt : i < N2
            · have hlt' : (i : Int) < (N2 : Int) := by omega
              cases tb1 with
              | true =>
                obtain ⟨A, c, hv⟩ := own_len M.out.2.2.2.2.1.own
                go_wp2_with fail
                go_meet
                case rel => exact ⟨A, c, xs, css, (ta1, true), ⟨by rw [← hv]; exact M.out.1, M.out.2.1, M.out.2.2.1, M.out.2.2.2.1, by rw [← hv]; exact M.out.2.2.2.2.1, many_st_bad M.out.2.2.2.2.2.1 rfl, fun e => by cases e⟩⟩
              | false =>
                obtain ⟨W16, HW16⟩ : ∃ W16, Aside (W16 = a0.alloc (.cells #[.int .u8 0, .int .u8 0, .int .u8 0, .int .u8 0, .int .u8 0, .int .u16 0] 60)) := ⟨_, ⟨rfl⟩⟩
                have RDd : Aside (Rdn W1 s Z a0 (ta1, false) W16) := ⟨by rw [HW16.out]; exact (Rdn.refl M.out.1.rd M.out.1.at_).below (bel_one _ _)⟩
                have BX : Aside (W16.heap[a0.heap.size]? = some (.cells #[.int .u8 0, .int .u8 0, .int .u8 0, .int .u8 0, .int .u8 0, .int .u16 0] 60 (0, 0))) := ⟨by rw [HW16.out]; exact heap_alloc_new _ _⟩
                have hBZ : a0.heap.size ≠ Z := by have := lt_of_block M.out.1.rd; omega
                have hB0 : a0.heap.size ≤ a0.heap.size := Nat.le_refl _
                go_upto_region 48 with (fail)
                rw [← HW16.out]
                clear z0 z1 z2
                obtain ⟨⟨r41, t41⟩, h41⟩ : ∃ p, rdN (strL s) 1 (ta1, false) = p := ⟨_, rfl⟩
                have H41 := Aside.mk h41
                have g41 : 0 ≤ r41 ∧ r41 ≤ 255 := range1 h41
                obtain ⟨g41l, g41h⟩ := g41
                have a41 := rdN_le' RDd.out.at_ h41
                have KN : Aside (Calls Tryd.prog 42 #[.pointer (some ⟨Z, 0, none⟩), .int .i64 1] W16 (RNumP W16 Z s (r41, t41))) := ⟨by have h := rnum_any W16 Z s (ta1, false) 1 (by decide) RDd.out.at_ hs RDd.out.rd; rw [h41] at h; exact h⟩
                have u41 : IntKind.u8.wrap r41 = r41 := by rw [IntKind.wrap_u8]; omega
                clear h41
                go_wp2_with fail
                refine KN.out.mono ?_
                rintro e w41 ⟨rfl, d41, p41⟩
                have RD41 := Aside.mk (Rdn.num' RDd.out hZ0 d41 p41 a41)
                have P41 := Aside.mk p41
                clear d41 p41 a41 KN
                have Y41 := Aside.mk (P41.out.heap BX.out hBZ)
                obtain ⟨c0, c1, c2, c3, c4, c5⟩ := boxc6 Y41.out
                obtain ⟨m0, m1, m2, m3, m4, m5⟩ := marks6 Y41.out
                obtain ⟨v41, V41⟩ : ∃ v, Aside (v = w41.setCell ⟨a0.heap.size, 0, none⟩ (.int .u8 r41)) := ⟨_, ⟨rfl⟩⟩
                have X41 : Aside (v41.heap[a0.heap.size]? = some (.cells #[.int .u8 r41, .int .u8 0, .int .u8 0, .int .u8 0, .int .u8 0, .int .u16 0] 60 (0, 0))) := ⟨by
                  rw [V41.out]
                  have h := heap_setCell_at (off := 0) Y41.out (.int .u8 r41)
                  simpa using h⟩
                have RQ41 : Aside (Rdn W1 s Z a0 t41 v41) := ⟨by
                  rw [V41.out]
                  exact RD41.out.put (kset _ _ _ _) hB0 Y41.out (by decide)⟩
                go_upto_region 49 with (fail)
                rw [← V41.out]
                clear c0 c1 c2 c3 c4 c5 m0 m1 m2 m3 m4 m5 u41
                obtain ⟨⟨r42, t42⟩, h42⟩ : ∃ p, rdN (strL s) 1 t41 = p := ⟨_, rfl⟩
                have H42 := Aside.mk h42
                have g42 : 0 ≤ r42 ∧ r42 ≤ 255 := range1 h42
                obtain ⟨g42l, g42h⟩ := g42
                have a42 := rdN_le' RQ41.out.at_ h42
                have KN : Aside (Calls Tryd.prog 42 #[.pointer (some ⟨Z, 0, none⟩), .int .i64 1] v41 (RNumP v41 Z s (r42, t42))) := ⟨by have h := rnum_any v41 Z s t41 1 (by decide) RQ41.out.at_ hs RQ41.out.rd; rw [h42] at h; exact h⟩
                have u42 : IntKind.u8.wrap r42 = r42 := by rw [IntKind.wrap_u8]; omega
                clear h42
                go_wp2_with fail
                refine KN.out.mono ?_
                rintro e w42 ⟨rfl, d42, p42⟩
                have RD42 := Aside.mk (Rdn.num' RQ41.out hZ0 d42 p42 a42)
                have P42 := Aside.mk p42
                clear d42 p42 a42 KN
                have Y42 := Aside.mk (P42.out.heap X41.out hBZ)
                obtain ⟨c0, c1, c2, c3, c4, c5⟩ := boxc6 Y42.out
                obtain ⟨m0, m1, m2, m3, m4, m5⟩ := marks6 Y42.out
                obtain ⟨v42, V42⟩ : ∃ v, Aside (v = w42.setCell ⟨a0.heap.size, 1, none⟩ (.int .u8 r42)) := ⟨_, ⟨rfl⟩⟩
                have X42 : Aside (v42.heap[a0.heap.size]? = some (.cells #[.int .u8 r41, .int .u8 r42, .int .u8 0, .int .u8 0, .int .u8 0, .int .u16 0] 60 (0, 0))) := ⟨by
                  rw [V42.out]
                  have h := heap_setCell_at (off := 1) Y42.out (.int .u8 r42)
                  simpa using h⟩
                have RQ42 : Aside (Rdn W1 s Z a0 t42 v42) := ⟨by
                  rw [V42.out]
                  exact RD42.out.put (kset _ _ _ _) hB0 Y42.out (by decide)⟩
                go_upto_region 50 with (fail)
                rw [← V42.out]
                clear c0 c1 c2 c3 c4 c5 m0 m1 m2 m3 m4 m5 u42
                obtain ⟨⟨r43, t43⟩, h43⟩ : ∃ p, rdN (strL s) 1 t42 = p := ⟨_, rfl⟩
                have H43 := Aside.mk h43
                have g43 : 0 ≤ r43 ∧ r43 ≤ 255 := range1 h43
                obtain ⟨g43l, g43h⟩ := g43
                have a43 := rdN_le' RQ42.out.at_ h43
                have KN : Aside (Calls Tryd.prog 42 #[.pointer (some ⟨Z, 0, none⟩), .int .i64 1] v42 (RNumP v42 Z s (r43, t43))) := ⟨by have h := rnum_any v42 Z s t42 1 (by decide) RQ42.out.at_ hs RQ42.out.rd; rw [h43] at h; exact h⟩
                have u43 : IntKind.u8.wrap r43 = r43 := by rw [IntKind.wrap_u8]; omega
                clear h43
                go_wp2_with fail
                refine KN.out.mono ?_
                rintro e w43 ⟨rfl, d43, p43⟩
                have RD43 := Aside.mk (Rdn.num' RQ42.out hZ0 d43 p43 a43)
                have P43 := Aside.mk p43
                clear d43 p43 a43 KN
                have Y43 := Aside.mk (P43.out.heap X42.out hBZ)
                obtain ⟨c0, c1, c2, c3, c4, c5⟩ := boxc6 Y43.out
                obtain ⟨m0, m1, m2, m3, m4, m5⟩ := marks6 Y43.out
                obtain ⟨v43, V43⟩ : ∃ v, Aside (v = w43.setCell ⟨a0.heap.size, 2, none⟩ (.int .u8 r43)) := ⟨_, ⟨rfl⟩⟩
                have X43 : Aside (v43.heap[a0.heap.size]? = some (.cells #[.int .u8 r41, .int .u8 r42, .int .u8 r43, .int .u8 0, .int .u8 0, .int .u16 0] 60 (0, 0))) := ⟨by
                  rw [V43.out]
                  have h := heap_setCell_at (off := 2) Y43.out (.int .u8 r43)
                  simpa using h⟩
                have RQ43 : Aside (Rdn W1 s Z a0 t43 v43) := ⟨by
                  rw [V43.out]
                  exact RD43.out.put (kset _ _ _ _) hB0 Y43.out (by decide)⟩
                go_upto_region 51 with (fail)
                rw [← V43.out]
                clear c0 c1 c2 c3 c4 c5 m0 m1 m2 m3 m4 m5 u43
                obtain ⟨⟨r44, t44⟩, h44⟩ : ∃ p, rdN (strL s) 1 t43 = p := ⟨_, rfl⟩
                have H44 := Aside.mk h44
                have g44 : 0 ≤ r44 ∧ r44 ≤ 255 := range1 h44
                obtain ⟨g44l, g44h⟩ := g44
                have a44 := rdN_le' RQ43.out.at_ h44
                have KN : Aside (Calls Tryd.prog 42 #[.pointer (some ⟨Z, 0, none⟩), .int .i64 1] v43 (RNumP v43 Z s (r44, t44))) := ⟨by have h := rnum_any v43 Z s t43 1 (by decide) RQ43.out.at_ hs RQ43.out.rd; rw [h44] at h; exact h⟩
                have u44 : IntKind.u8.wrap r44 = r44 := by rw [IntKind.wrap_u8]; omega
                clear h44
                go_wp2_with fail
                refine KN.out.mono ?_
                rintro e w44 ⟨rfl, d44, p44⟩
                have RD44 := Aside.mk (Rdn.num' RQ43.out hZ0 d44 p44 a44)
                have P44 := Aside.mk p44
                clear d44 p44 a44 KN
                have Y44 := Aside.mk (P44.out.heap X43.out hBZ)
                obtain ⟨c0, c1, c2, c3, c4, c5⟩ := boxc6 Y44.out
                obtain ⟨m0, m1, m2, m3, m4, m5⟩ := marks6 Y44.out
                obtain ⟨v44, V44⟩ : ∃ v, Aside (v = w44.setCell ⟨a0.heap.size, 3, none⟩ (.int .u8 r44)) := ⟨_, ⟨rfl⟩⟩
                have X44 : Aside (v44.heap[a0.heap.size]? = some (.cells #[.int .u8 r41, .int .u8 r42, .int .u8 r43, .int .u8 r44, .int .u8 0, .int .u16 0] 60 (0, 0))) := ⟨by
                  rw [V44.out]
                  have h := heap_setCell_at (off := 3) Y44.out (.int .u8 r44)
                  simpa using h⟩
                have RQ44 : Aside (Rdn W1 s Z a0 t44 v44) := ⟨by
                  rw [V44.out]
                  exact RD44.out.put (kset _ _ _ _) hB0 Y44.out (by decide)⟩
                go_upto_region 52 with (fail)
                rw [← V44.out]
                clear c0 c1 c2 c3 c4 c5 m0 m1 m2 m3 m4 m5 u44
                obtain ⟨⟨r45, t45⟩, h45⟩ : ∃ p, rdN (strL s) 1 t44 = p := ⟨_, rfl⟩
                have H45 := Aside.mk h45
                have g45 : 0 ≤ r45 ∧ r45 ≤ 255 := range1 h45
                obtain ⟨g45l, g45h⟩ := g45
                have a45 := rdN_le' RQ44.out.at_ h45
                have KN : Aside (Calls Tryd.prog 42 #[.pointer (some ⟨Z, 0, none⟩), .int .i64 1] v44 (RNumP v44 Z s (r45, t45))) := ⟨by have h := rnum_any v44 Z s t44 1 (by decide) RQ44.out.at_ hs RQ44.out.rd; rw [h45] at h; exact h⟩
                have u45 : IntKind.u8.wrap r45 = r45 := by rw [IntKind.wrap_u8]; omega
                clear h45
                go_wp2_with fail
                refine KN.out.mono ?_
                rintro e w45 ⟨rfl, d45, p45⟩
                have RD45 := Aside.mk (Rdn.num' RQ44.out hZ0 d45 p45 a45)
                have P45 := Aside.mk p45
                clear d45 p45 a45 KN
                have Y45 := Aside.mk (P45.out.heap X44.out hBZ)
                obtain ⟨c0, c1, c2, c3, c4, c5⟩ := boxc6 Y45.out
                obtain ⟨m0, m1, m2, m3, m4, m5⟩ := marks6 Y45.out
                obtain ⟨v45, V45⟩ : ∃ v, Aside (v = w45.setCell ⟨a0.heap.size, 4, none⟩ (.int .u8 r45)) := ⟨_, ⟨rfl⟩⟩
                have X45 : Aside (v45.heap[a0.heap.size]? = some (.cells #[.int .u8 r41, .int .u8 r42, .int .u8 r43, .int .u8 r44, .int .u8 r45, .int .u16 0] 60 (0, 0))) := ⟨by
                  rw [V45.out]
                  have h := heap_setCell_at (off := 4) Y45.out (.int .u8 r45)
                  simpa using h⟩
                have RQ45 : Aside (Rdn W1 s Z a0 t45 v45) := ⟨by
                  rw [V45.out]
                  exact RD45.out.put (kset _ _ _ _) hB0 Y45.out (by decide)⟩
                go_upto_region 53 with (fail)
                rw [← V45.out]
                clear c0 c1 c2 c3 c4 c5 m0 m1 m2 m3 m4 m5 u45
                obtain ⟨⟨r46, t46⟩, h46⟩ : ∃ p, rdN (strL s) 2 t45 = p := ⟨_, rfl⟩
                have H46 := Aside.mk h46
                have g46 : 0 ≤ r46 ∧ r46 ≤ 65535 := range2 h46
                obtain ⟨g46l, g46h⟩ := g46
                have a46 := rdN_le' RQ45.out.at_ h46
                have KN : Aside (Calls Tryd.prog 42 #[.pointer (some ⟨Z, 0, none⟩), .int .i64 2] v45 (RNumP v45 Z s (r46, t46))) := ⟨by have h := rnum_any v45 Z s t45 2 (by decide) RQ45.out.at_ hs RQ45.out.rd; rw [h46] at h; exact h⟩
                have u46 : IntKind.u16.wrap r46 = r46 := by rw [IntKind.wrap_u16]; omega
                clear h46
                go_wp2_with fail
                refine KN.out.mono ?_
                rintro e w46 ⟨rfl, d46, p46⟩
                have RD46 := Aside.mk (Rdn.num' RQ45.out hZ0 d46 p46 a46)
                have P46 := Aside.mk p46
                clear d46 p46 a46 KN
                have Y46 := Aside.mk (P46.out.heap X45.out hBZ)
                obtain ⟨c0, c1, c2, c3, c4, c5⟩ := boxc6 Y46.out
                obtain ⟨m0, m1, m2, m3, m4, m5⟩ := marks6 Y46.out
                obtain ⟨v46, V46⟩ : ∃ v, Aside (v = w46.setCell ⟨a0.heap.size, 5, none⟩ (.int .u16 r46)) := ⟨_, ⟨rfl⟩⟩
                have X46 : Aside (v46.heap[a0.heap.size]? = some (.cells #[.int .u8 r41, .int .u8 r42, .int .u8 r43, .int .u8 r44, .int .u8 r45, .int .u16 r46] 60 (0, 0))) := ⟨by
                  rw [V46.out]
                  have h := heap_setCell_at (off := 5) Y46.out (.int .u16 r46)
                  simpa using h⟩
                have RQ46 : Aside (Rdn W1 s Z a0 t46 v46) := ⟨by
                  rw [V46.out]
                  exact RD46.out.put (kset _ _ _ _) hB0 Y46.out (by decide)⟩
                go_upto_region 54 with (fail)
                rw [← V46.out]
                clear c0 c1 c2 c3 c4 c5 m0 m1 m2 m3 m4 m5 u46
                have HX : Aside (chanS (strL s) (ta1, false) = ((r41, r42, r43, r44, r45, r46, ()), t46)) := ⟨by simp only [chanS, H41.out, H42.out, H43.out, H44.out, H45.out, H46.out]⟩
                have EX : Aside (E_chan v46 [.int .u8 r41, .int .u8 r42, .int .u8 r43, .int .u8 r44, .int .u8 r45, .int .u16 r46] (r41, r42, r43, r44, r45, r46, ())) := ⟨⟨rfl, ⟨⟨g41l, g41h⟩, ⟨g42l, g42h⟩, ⟨g43l, g43h⟩, ⟨g44l, g44h⟩, ⟨g45l, g45h⟩, ⟨g46l, g46h⟩⟩⟩⟩
                clear g41l g41h g42l g42h g43l g43h g44l g44h g45l g45h g46l g46h
                obtain ⟨c0, c1, c2, c3, c4, c5⟩ := boxc6 X46.out
                have D6 := Aside.mk (M.out.1.step RQ46.out)
                have RO0 := Aside.mk (M.out.2.2.1.tk RQ46.out.tk (by decide) (fun _ _ q => q.tk RQ46.out.tk (by decide)))
                have RO1 := Aside.mk (M.out.2.2.2.1.tk RQ46.out.tk (by decide) (fun _ _ q => q.tk RQ46.out.tk (by decide)))
                have R6 := Aside.mk (M.out.2.2.2.2.1.tk RQ46.out.tk (by decide) (fun _ _ q => q))
                have L6 : LO ≤ v46.heap.size := Nat.le_trans M.out.2.1 RQ46.out.tk.size
                obtain ⟨x0, x1, x2, x3, x4⟩ := box5 D6.out.box
                have hb9 : (xs.length + 1) * 8 ≤ 140737488355328 := by have := M.out.2.2.2.2.2.2; omega

                go_wp2_with (at_builtin; go_loud (refine append_elem LO rfl _ _ 25 60 _ 6 8 rfl Tryd.underlying25 info_chan rfl (by decide) (by decide) v xs.length css.flatten [.int .u8 r41, .int .u8 r42, .int .u8 r43, .int .u8 r44, .int .u8 r45, .int .u16 r46] rfl rfl rfl (chan_one (r41, r42, r43, r44, r45, r46, ())) R6.out.own L6 hb9 ?_))
                intro v1 wy oy gy _
                obtain ⟨A7, c7, rfl⟩ := own_len oy
                obtain ⟨D7, k7⟩ := D6.out.grown R6.out.own gy (by decide) (by decide) (by omega)
                obtain ⟨D8, k8⟩ := D7.set3 (.slice A7 (xs.length + 1) c7)
                have kk : Tk W1.heap.size [60, 28] v46 (wy.setCell ⟨X, 3, none⟩ (.slice A7 (xs.length + 1) c7)) := (k7.mono (by simp)).trans (k8.mono (by simp))
                have M8 : Aside (DSt3 W1 s Z X t46 (.int .u16 r1) (.slice AC C.length cC) (.slice AP PL.length cP) (.slice A7 (xs.length + 1) c7) (.slice none 0 0) (wy.setCell ⟨X, 3, none⟩ (.slice A7 (xs.length + 1) c7)) ∧ LO ≤ (wy.setCell ⟨X, 3, none⟩ (.slice A7 (xs.length + 1) c7)).heap.size ∧ RowsR LO 49 1 (E_core Z) (wy.setCell ⟨X, 3, none⟩ (.slice A7 (xs.length + 1) c7)) (.slice AC C.length cC) C cssC ∧ RowsR LO 56 6 (E_part Z) (wy.setCell ⟨X, 3, none⟩ (.slice A7 (xs.length + 1) c7)) (.slice AP PL.length cP) PL cssP ∧ RowsR LO 60 6 E_chan (wy.setCell ⟨X, 3, none⟩ (.slice A7 (xs.length + 1) c7)) (.slice A7 (xs.length + 1) c7) (xs ++ [(r41, r42, r43, r44, r45, r46, ())]) (css ++ [[.int .u8 r41, .int .u8 r42, .int .u8 r43, .int .u8 r44, .int .u8 r45, .int .u16 r46]])) := ⟨by
                  refine ⟨D8, Nat.le_trans L6 kk.size, RO0.out.tk kk (by decide) (fun _ _ q => q.tk kk (by decide)), RO1.out.tk kk (by decide) (fun _ _ q => q.tk kk (by decide)), ?_⟩
                  exact R6.out.push (own_tk oy k8 (by decide)) (fun _ _ q => q) (EX.out) rfl⟩
                have HS9 : many_st (chanS (strL s)) (N2 - (i + 1)) t46 (xs ++ [(r41, r42, r43, r44, r45, r46, ())]) (chansS (strL s)) := many_st_next M.out.2.2.2.2.2.1 (by omega) rfl (by rw [HX.out]) (fun _ => by rw [HX.out])
                obtain ⟨b0', b1', b2', b3', b4', n0, n1, n2, n3, n4⟩ := boxz D7.box
                clear oy gy x0 x1 x2 x3 x4 D7 D8 k7 k8 kk
                go_wp2_with fail
                go_roundg (N2 - (i + 1))
                case measure => omega
                case rel => exact ⟨i + 1, _, _, _, _, by omega, rfl, by go_num, ⟨M8.out.1, M8.out.2.1, M8.out.2.2.1, M8.out.2.2.2.1, M8.out.2.2.2.2, HS9, by simp [M.out.2.2.2.2.2.2]⟩⟩
            · obtain rfl : i = N2 := by omega
              obtain ⟨A, c, hv⟩ := own_len M.out.2.2.2.2.1.own
              go_wp2_with fail
              go_meet
              case rel =>
                have h := M.out.2.2.2.2.2.1
                exact ⟨A, c, xs, css, (ta1, tb1), ⟨by rw [← hv]; exact M.out.1, M.out.2.1, M.out.2.2.1, M.out.2.2.2.1, by rw [← hv]; exact M.out.2.2.2.2.1, many_st_end h (by omega), fun e => many_st_list h (by omega) e⟩⟩
        case rest =>
          obtain ⟨AH, cH, HL, cssH, tH, MH⟩ := hcut
          rename World => wH
          go_upto_block 14 with (fail)
          go_cut [] (fun wc => ∃ (A : Option Addr) (c : Nat) (xs : List (PairR)) (css : List (List Value)) (t : St), Aside (DSt3 W1 s Z X t (.int .u16 r1) (.slice AC C.length cC) (.slice AP PL.length cP) (.slice AH HL.length cH) (.slice A xs.length c) wc ∧ LO ≤ wc.heap.size ∧ RowsR LO 49 1 (E_core Z) wc (.slice AC C.length cC) C cssC ∧ RowsR LO 56 6 (E_part Z) wc (.slice AP PL.length cP) PL cssP ∧ RowsR LO 60 6 E_chan wc (.slice AH HL.length cH) HL cssH ∧ RowsR LO 62 2 E_pair wc (.slice A xs.length c) xs css ∧ t = (pairsS (strL s)).2 ∧ (t.2 = false → xs = (pairsS (strL s)).1)))
          case first =>
            go_wp2_with fail
            go_loopg [25] N3 (fun g sc wr => ∃ (i : Nat) (xs : List (PairR)) (css : List (List Value)) (t : St) (v : Value), i ≤ N3 ∧ g = N3 - i ∧ sc = .int .i64 i ∧ Aside (DSt3 W1 s Z X t (.int .u16 r1) (.slice AC C.length cC) (.slice AP PL.length cP) (.slice AH HL.length cH) v wr ∧ LO ≤ wr.heap.size ∧ RowsR LO 49 1 (E_core Z) wr (.slice AC C.length cC) C cssC ∧ RowsR LO 56 6 (E_part Z) wr (.slice AP PL.length cP) PL cssP ∧ RowsR LO 60 6 E_chan wr (.slice AH HL.length cH) HL cssH ∧ RowsR LO 62 2 E_pair wr v xs css ∧ many_st (pairS (strL s)) (N3 - i) t xs (pairsS (strL s)) ∧ xs.length = i))
            case atStart => exact ⟨0, [], [], tH, _, by omega, rfl, rfl, ⟨MH.out.1, MH.out.2.1, MH.out.2.2.1, MH.out.2.2.2.1, MH.out.2.2.2.2.1, RowsR.nil _ _ _ _ _, many_st_start (by unfold pairsS; rw [HC.out.2.2.2.2, ← MH.out.2.2.2.2.2.1]; rfl) (many_bad' _), rfl⟩⟩
            case round =>
              rename World => a0
              obtain ⟨i, xs, css, ⟨ta1, tb1⟩, v, hi, rfl, rfl, M⟩ := hrel
              have hz := M.out.1.rd
              unfold rcells at hz
              obtain ⟨z0, z1, z2, _, _, _⟩ := Bl.box3 hz
              clear hz
              by_cases hlt : i < N3
              · have hlt' : (i : Int) < (N3 : Int) := by omega
                cases tb1 with
                | true =>
                  obtain ⟨A, c, hv⟩ := own_len M.out.2.2.2.2.2.1.own
                  go_wp2_with fail
                  go_meet
                  case rel => exact ⟨A, c, xs, css, (ta1, true), ⟨by rw [← hv]; exact M.out.1, M.out.2.1, M.out.2.2.1, M.out.2.2.2.1, M.out.2.2.2.2.1, by rw [← hv]; exact M.out.2.2.2.2.2.1, many_st_bad M.out.2.2.2.2.2.2.1 rfl, fun e => by cases e⟩⟩
                | false =>
                  obtain ⟨W16, HW16⟩ : ∃ W16, Aside (W16 = a0.alloc (.cells #[.int .u8 0, .int .u8 0] 62)) := ⟨_, ⟨rfl⟩⟩
                  have RDd : Aside (Rdn W1 s Z a0 (ta1, false) W16) := ⟨by rw [HW16.out]; exact (Rdn.refl M.out.1.rd M.out.1.at_).below (bel_one _ _)⟩
                  have BX : Aside (W16.heap[a0.heap.size]? = some (.cells #[.int .u8 0, .int .u8 0] 62 (0, 0))) := ⟨by rw [HW16.out]; exact heap_alloc_new _ _⟩
                  have hBZ : a0.heap.size ≠ Z := by have := lt_of_block M.out.1.rd; omega
                  have hB0 : a0.heap.size ≤ a0.heap.size := Nat.le_refl _
                  go_upto_region 59 with (fail)
                  rw [← HW16.out]
                  clear z0 z1 z2
                  obtain ⟨⟨r51, t51⟩, h51⟩ : ∃ p, rdN (strL s) 1 (ta1, false) = p := ⟨_, rfl⟩
                  have H51 := Aside.mk h51
                  have g51 : 0 ≤ r51 ∧ r51 ≤ 255 := range1 h51
                  obtain ⟨g51l, g51h⟩ := g51
                  have a51 := rdN_le' RDd.out.at_ h51
                  have KN : Aside (Calls Tryd.prog 42 #[.pointer (some ⟨Z, 0, none⟩), .int .i64 1] W16 (RNumP W16 Z s (r51, t51))) := ⟨by have h := rnum_any W16 Z s (ta1, false) 1 (by decide) RDd.out.at_ hs RDd.out.rd; rw [h51] at h; exact h⟩
                  have u51 : IntKind.u8.wrap r51 = r51 := by rw [IntKind.wrap_u8]; omega
                  clear h51
                  go_wp2_with fail
                  refine KN.out.mono ?_
                  rintro e w51 ⟨rfl, d51, p51⟩
                  have RD51 := Aside.mk (Rdn.num' RDd.out hZ0 d51 p51 a51)
                  have P51 := Aside.mk p51
                  clear d51 p51 a51 KN
                  have Y51 := Aside.mk (P51.out.heap BX.out hBZ)
                  obtain ⟨c0, c1⟩ := boxc2 Y51.out
                  obtain ⟨m0, m1⟩ := marks2 Y51.out
                  obtain ⟨v51, V51⟩ : ∃ v, Aside (v = w51.setCell ⟨a0.heap.size, 0, none⟩ (.int .u8 r51)) := ⟨_, ⟨rfl⟩⟩
                  have X51 : Aside (v51.heap[a0.heap.size]? = some (.cells #[.int .u8 r51, .int .u8 0] 62 (0, 0))) := ⟨by
                    rw [V51.out]
                    have h := heap_setCell_at (off := 0) Y51.out (.int .u8 r51)
                    simpa using h⟩
                  have RQ51 : Aside (Rdn W1 s Z a0 t51 v51) := ⟨by
                    rw [V51.out]
                    exact RD51.out.put (kset _ _ _ _) hB0 Y51.out (by decide)⟩
                  go_upto_region 60 with (fail)
                  rw [← V51.out]
                  clear c0 c1 m0 m1 u51
                  obtain ⟨⟨r52, t52⟩, h52⟩ : ∃ p, rdN (strL s) 1 t51 = p := ⟨_, rfl⟩
                  have H52 := Aside.mk h52
                  have g52 : 0 ≤ r52 ∧ r52 ≤ 255 := range1 h52
                  obtain ⟨g52l, g52h⟩ := g52
                  have a52 := rdN_le' RQ51.out.at_ h52
                  have KN : Aside (Calls Tryd.prog 42 #[.pointer (some ⟨Z, 0, none⟩), .int .i64 1] v51 (RNumP v51 Z s (r52, t52))) := ⟨by have h := rnum_any v51 Z s t51 1 (by decide) RQ51.out.at_ hs RQ51.out.rd; rw [h52] at h; exact h⟩
                  have u52 : IntKind.u8.wrap r52 = r52 := by rw [IntKind.wrap_u8]; omega
                  clear h52
                  go_wp2_with fail
                  refine KN.out.mono ?_
                  rintro e w52 ⟨rfl, d52, p52⟩
                  have RD52 := Aside.mk (Rdn.num' RQ51.out hZ0 d52 p52 a52)
                  have P52 := Aside.mk p52
                  clear d52 p52 a52 KN
                  have Y52 := Aside.mk (P52.out.heap X51.out hBZ)
                  obtain ⟨c0, c1⟩ := boxc2 Y52.out
                  obtain ⟨m0, m1⟩ := marks2 Y52.out
                  obtain ⟨v52, V52⟩ : ∃ v, Aside (v = w52.setCell ⟨a0.heap.size, 1, none⟩ (.int .u8 r52)) := ⟨_, ⟨rfl⟩⟩
                  have X52 : Aside (v52.heap[a0.heap.size]? = some (.cells #[.int .u8 r51, .int .u8 r52] 62 (0, 0))) := ⟨by
                    rw [V52.out]
                    have h := heap_setCell_at (off := 1) Y52.out (.int .u8 r52)
                    simpa using h⟩
                  have RQ52 : Aside (Rdn W1 s Z a0 t52 v52) := ⟨by
                    rw [V52.out]
                    exact RD52.out.put (kset _ _ _ _) hB0 Y52.out (by decide)⟩
                  go_upto_region 61 with (fail)
                  rw [← V52.out]
                  clear c0 c1 m0 m1 u52
                  have HX : Aside (pairS (strL s) (ta1, false) = ((r51, r52, ()), t52)) := ⟨by simp only [pairS, H51.out, H52.out]⟩
                  have EX : Aside (E_pair v52 [.int .u8 r51, .int .u8 r52] (r51, r52, ())) := ⟨⟨rfl, ⟨⟨g51l, g51h⟩, ⟨g52l, g52h⟩⟩⟩⟩
                  clear g51l g51h g52l g52h
                  obtain ⟨c0, c1⟩ := boxc2 X52.out
                  have D6 := Aside.mk (M.out.1.step RQ52.out)
                  have RO0 := Aside.mk (M.out.2.2.1.tk RQ52.out.tk (by decide) (fun _ _ q => q.tk RQ52.out.tk (by decide)))
                  have RO1 := Aside.mk (M.out.2.2.2.1.tk RQ52.out.tk (by decide) (fun _ _ q => q.tk RQ52.out.tk (by decide)))
                  have RO2 := Aside.mk (M.out.2.2.2.2.1.tk RQ52.out.tk (by decide) (fun _ _ q => q))
                  have R6 := Aside.mk (M.out.2.2.2.2.2.1.tk RQ52.out.tk (by decide) (fun _ _ q => q))
                  have L6 : LO ≤ v52.heap.size := Nat.le_trans M.out.2.1 RQ52.out.tk.size
                  obtain ⟨x0, x1, x2, x3, x4⟩ := box5 D6.out.box
                  have hb9 : (xs.length + 1) * 2 ≤ 140737488355328 := by have := M.out.2.2.2.2.2.2.2; omega

                  go_wp2_with (at_builtin; go_loud (refine append_elem LO rfl _ _ 26 62 _ 2 2 rfl Tryd.underlying26 info_pair rfl (by decide) (by decide) v xs.length css.flatten [.int .u8 r51, .int .u8 r52] rfl rfl rfl (pair_one (r51, r52, ())) R6.out.own L6 hb9 ?_))
                  intro v1 wy oy gy _
                  obtain ⟨A7, c7, rfl⟩ := own_len oy
                  obtain ⟨D7, k7⟩ := D6.out.grown R6.out.own gy (by decide) (by decide) (by omega)
                  obtain ⟨D8, k8⟩ := D7.set4 (.slice A7 (xs.length + 1) c7)
                  have kk : Tk W1.heap.size [62, 28] v52 (wy.setCell ⟨X, 4, none⟩ (.slice A7 (xs.length + 1) c7)) := (k7.mono (by simp)).trans (k8.mono (by simp))
                  have M8 : Aside (DSt3 W1 s Z X t52 (.int .u16 r1) (.slice AC C.length cC) (.slice AP PL.length cP) (.slice AH HL.length cH) (.slice A7 (xs.length + 1) c7) (wy.setCell ⟨X, 4, none⟩ (.slice A7 (xs.length + 1) c7)) ∧ LO ≤ (wy.setCell ⟨X, 4, none⟩ (.slice A7 (xs.length + 1) c7)).heap.size ∧ RowsR LO 49 1 (E_core Z) (wy.setCell ⟨X, 4, none⟩ (.slice A7 (xs.length + 1) c7)) (.slice AC C.length cC) C cssC ∧ RowsR LO 56 6 (E_part Z) (wy.setCell ⟨X, 4, none⟩ (.slice A7 (xs.length + 1) c7)) (.slice AP PL.length cP) PL cssP ∧ RowsR LO 60 6 E_chan (wy.setCell ⟨X, 4, none⟩ (.slice A7 (xs.length + 1) c7)) (.slice AH HL.length cH) HL cssH ∧ RowsR LO 62 2 E_pair (wy.setCell ⟨X, 4, none⟩ (.slice A7 (xs.length + 1) c7)) (.slice A7 (xs.length + 1) c7) (xs ++ [(r51, r52, ())]) (css ++ [[.int .u8 r51, .int .u8 r52]])) := ⟨by
                    refine ⟨D8, Nat.le_trans L6 kk.size, RO0.out.tk kk (by decide) (fun _ _ q => q.tk kk (by decide)), RO1.out.tk kk (by decide) (fun _ _ q => q.tk kk (by decide)), RO2.out.tk kk (by decide) (fun _ _ q => q), ?_⟩
                    exact R6.out.push (own_tk oy k8 (by decide)) (fun _ _ q => q) (EX.out) rfl⟩
                  have HS9 : many_st (pairS (strL s)) (N3 - (i + 1)) t52 (xs ++ [(r51, r52, ())]) (pairsS (strL s)) := many_st_next M.out.2.2.2.2.2.2.1 (by omega) rfl (by rw [HX.out]) (fun _ => by rw [HX.out])
                  obtain ⟨b0', b1', b2', b3', b4', n0, n1, n2, n3, n4⟩ := boxz D7.box
                  clear oy gy x0 x1 x2 x3 x4 D7 D8 k7 k8 kk
                  go_wp2_with fail
                  go_roundg (N3 - (i + 1))
                  case measure => omega
                  case rel => exact ⟨i + 1, _, _, _, _, by omega, rfl, by go_num, ⟨M8.out.1, M8.out.2.1, M8.out.2.2.1, M8.out.2.2.2.1, M8.out.2.2.2.2.1, M8.out.2.2.2.2.2, HS9, by simp [M.out.2.2.2.2.2.2.2]⟩⟩
              · obtain rfl : i = N3 := by omega
                obtain ⟨A, c, hv⟩ := own_len M.out.2.2.2.2.2.1.own
                go_wp2_with fail
                go_meet
                case rel =>
                  have h := M.out.2.2.2.2.2.2.1
                  exact ⟨A, c, xs, css, (ta1, tb1), ⟨by rw [← hv]; exact M.out.1, M.out.2.1, M.out.2.2.1, M.out.2.2.2.1, M.out.2.2.2.2.1, by rw [← hv]; exact M.out.2.2.2.2.2.1, many_st_end h (by omega), fun e => many_st_list h (by omega) e⟩⟩
          case rest =>
            obtain ⟨AQ, cQ, QL, cssQ, tQ, MQ⟩ := hcut
            rename World => wQ
            obtain ⟨qa, qb⟩ := tQ
            have hz := MQ.out.1.rd
            unfold rcells at hz
            obtain ⟨z0, z1, z2, _, _, _⟩ := Bl.box3 hz
            clear hz
            have KE := Aside.mk (Bl.rend_any wQ s qa qb)
            unfold Bl.mV at KE
            have HP := Aside.mk MQ.out.2.2.2.2.2.2.1
            have hDF : Aside (decF (strL s) = (Bl.endQ (strL s) qa qb).map fun x => (x.2, (x.1 : Int))) := ⟨by rw [hW0.out, ← HP.out]⟩
            have hlen := strL_len s
            go_upto_region 62 with (fail)
            cases qb with
            | true =>
              have hq : Bl.endQ (strL s) qa true = some (qa, 20) := by unfold Bl.endQ; rw [if_pos rfl]
              rw [hq] at KE hDF
              go_wp2_with fail
              refine KE.out.mono ?_
              rintro e wE ⟨rfl, bE⟩
              have BW := Aside.mk (bel_then MQ.out.1.bel bE)
              have n1 : Bl.numR (some (qa, 20)) = 20 := rfl
              have n2 : ((Bl.atR (some (qa, 20)) : Nat) : Int) = (qa : Int) := rfl
              have H2 := hup BW.out B1.out.2
              obtain ⟨q0, q1, q2, q3, q4, y0, y1, y2, y3, y4⟩ := boxz H2
              clear z0 z1 z2 bE
              go_wp2_with fail
              obtain ⟨y0, y1, y2, y3⟩ := set5z_facts (bel_then B1.out.1 BW.out) H2
              obtain ⟨g0, g1, g2, g3, g4⟩ := box5 y1
              unfold set5z at g0 g1 g2 g3 g4
              exact bodyPost_ret (v := .tuple #[zeroPlan, .int .i64 20, .int .i64 qa]) (by simp [results, Tryd.results16, go_sem, g0, g1, g2, g3, g4, zeroPlan]) rfl ⟨_, _, _, rfl, y0, by rw [hDF.out]; rfl, by rw [hDF.out]; rfl, (fun h => by rw [hDF.out] at h; cases h), fun _ => rfl⟩
            | false =>
              by_cases hlt : qa < (strL s).length
              · have hq : Bl.endQ (strL s) qa false = some (qa, 21) := by unfold Bl.endQ; rw [if_neg (by simp), if_pos hlt]
                rw [hq] at KE hDF
                clear hlt
                go_wp2_with fail
                refine KE.out.mono ?_
                rintro e wE ⟨rfl, bE⟩
                have BW := Aside.mk (bel_then MQ.out.1.bel bE)
                have n1 : Bl.numR (some (qa, 21)) = 21 := rfl
                have n2 : ((Bl.atR (some (qa, 21)) : Nat) : Int) = (qa : Int) := rfl
                have H2 := hup BW.out B1.out.2
                obtain ⟨q0, q1, q2, q3, q4, y0, y1, y2, y3, y4⟩ := boxz H2
                clear z0 z1 z2 bE
                go_wp2_with fail
                obtain ⟨y0, y1, y2, y3⟩ := set5z_facts (bel_then B1.out.1 BW.out) H2
                obtain ⟨g0, g1, g2, g3, g4⟩ := box5 y1
                unfold set5z at g0 g1 g2 g3 g4
                exact bodyPost_ret (v := .tuple #[zeroPlan, .int .i64 21, .int .i64 qa]) (by simp [results, Tryd.results16, go_sem, g0, g1, g2, g3, g4, zeroPlan]) rfl ⟨_, _, _, rfl, y0, by rw [hDF.out]; rfl, by rw [hDF.out]; rfl, (fun h => by rw [hDF.out] at h; cases h), fun _ => rfl⟩
              · have hq : Bl.endQ (strL s) qa false = none := by unfold Bl.endQ; rw [if_neg (by simp), if_neg hlt]
                rw [hq] at KE hDF
                clear hlt
                go_wp2_with fail
                refine KE.out.mono ?_
                rintro e wE ⟨rfl, bE⟩
                have BW := Aside.mk (bel_then MQ.out.1.bel bE)
                have n1 : Bl.numR none = 0 := rfl
                have n2 : ((Bl.atR none : Nat) : Int) = 0 := rfl
                have H2 := Aside.mk (hup BW.out B1.out.2)
                obtain ⟨q0, q1, q2, q3, q4, y0, y1, y2, y3, y4⟩ := boxz H2.out
                have HX := Aside.mk (hup bE MQ.out.1.box)
                obtain ⟨x0, x1, x2, x3, x4⟩ := box5 HX.out
                have hne : X ≠ w.heap.size := by have := lt_of_block B1.out.2; have := MQ.out.1.hX; omega
                have BE := Aside.mk bE
                clear z0 z1 z2 bE
                go_wp2_with fail
                have y1 := set5_at (v0 := .int .u16 r1) (v1 := .slice AC C.length cC) (v2 := .slice AP PL.length cP) (v3 := .slice AH HL.length cH) (v4 := .slice AQ QL.length cQ) H2.out
                have y0 := set5_below (v0 := .int .u16 r1) (v1 := .slice AC C.length cC) (v2 := .slice AP PL.length cP) (v3 := .slice AH HL.length cH) (v4 := .slice AQ QL.length cQ) (bel_then B1.out.1 BW.out) (Nat.le_refl _)
                have kf : Tk 0 [28] wQ _ := (Tk.of_below (lo := 0) (ts := [28]) BE.out).trans (Tk.of_block (set5_kept wE w.heap.size (.int .u16 r1) (.slice AC C.length cC) (.slice AP PL.length cP) (.slice AH HL.length cH) (.slice AQ QL.length cQ)) H2.out (Nat.zero_le _) (by simp))
                obtain ⟨g0, g1, g2, g3, g4⟩ := box5 y1
                have fQ := MQ.out.2.2.2.2.2.2.2 (by simp)
                have fH : tH.2 = false := by
                  cases h : tH.2 with
                  | false => rfl
                  | true =>
                    have e := many_bad' (pairS (strL s)) (n3S (strL s)).1.toNat tH h
                    rw [MH.out.2.2.2.2.2.1] at e
                    have e : (pairsS (strL s)).2 = (chansS (strL s)).2 := e
                    rw [← MH.out.2.2.2.2.2.1, ← HP.out] at e
                    rw [← e] at h
                    cases h
                have fP : tP.2 = false := by
                  cases h : tP.2 with
                  | false => rfl
                  | true =>
                    have e := many_bad' (chanS (strL s)) (n2S (strL s)).1.toNat tP h
                    rw [MP.out.2.2.2.2.1] at e
                    have e : (chansS (strL s)).2 = (partsS (strL s)).2 := e
                    rw [← MP.out.2.2.2.2.1, ← MH.out.2.2.2.2.2.1] at e
                    rw [← e, fH] at h
                    cases h
                have fC : tC.2 = false := by
                  cases h : tC.2 with
                  | false => rfl
                  | true =>
                    have e := many_bad' (partS (strL s)) (n1S (strL s)).1.toNat tC h
                    rw [MC.out.2.2.2.1] at e
                    have e : (partsS (strL s)).2 = (coresS (strL s)).2 := e
                    rw [← MC.out.2.2.2.1, ← MP.out.2.2.2.2.1] at e
                    rw [← e, fP] at h
                    cases h
                have hV : decV (strL s) = (r1, C, PL, HL, QL, ()) := by
                  unfold decV
                  rw [HC.out.1, ← MC.out.2.2.2.2 fC, ← MP.out.2.2.2.2.2 fP, ← MH.out.2.2.2.2.2.2 fH, ← fQ]
                refine bodyPost_ret (v := .tuple #[.agg #[.int .u16 r1, .slice AC C.length cC, .slice AP PL.length cP, .slice AH HL.length cH, .slice AQ QL.length cQ], .int .i64 0, .int .i64 0]) (by simp [results, Tryd.results16, go_sem, g0, g1, g2, g3, g4]) rfl ⟨_, _, _, rfl, y0, by rw [hDF.out]; rfl, by rw [hDF.out]; rfl, (fun _ => ?_), (fun h => absurd (by rw [hDF.out]; rfl) h)⟩
                rw [hV]
                exact ⟨_, _, _, _, _, _, _, _, _, _, _, _, rfl, ⟨hfr.out, (MQ.out.2.2.1.tk kf (by decide) (fun _ _ q => q.tk kf (by decide))).elems (by decide) (fun _ _ q => core_of_E q), (MQ.out.2.2.2.1.tk kf (by decide) (fun _ _ q => q.tk kf (by decide))).elems (by decide) (fun _ _ q => part_of_E q), (MQ.out.2.2.2.2.1.tk kf (by decide) (fun _ _ q => q)).elems (by decide) (fun _ _ q => chan_of_E q), (MQ.out.2.2.2.2.2.1.tk kf (by decide) (fun _ _ q => q)).elems (by decide) (fun _ _ q => pair_of_E q)⟩⟩
end Go.Proofs.YtbphlapdhcgikaaDoor
