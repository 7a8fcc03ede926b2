/- The law PlanDecodes. -/
import Derived.Test.YtbphlapdhcgikaaDoorRDecB
import Derived.Test.YtbphlapdhcgikaaDoorLxH
namespace Go.Proofs.YtbphlapdhcgikaaDoor
open Go.RowKit
set_option linter.unusedVariables false
set_option linter.unusedSimpArgs false

theorem decF_ne {S : List Int} {n a : Int} (h : decF S = some (n, a)) : n ≠ 0 := by
  unfold decF at h
  split at h
  · cases h; decide
  · split at h
    · cases h; decide
    · unfold Bl.endQ at h
      split at h
      · cases h; exact (by decide : (20 : Int) ≠ 0)
      · split at h
        · cases h; exact (by decide : (21 : Int) ≠ 0)
        · cases h
theorem dec_same {w w' : World} {S : List Int} {pv pu : Value} (h1 : decF S = none → PlanV w pv (decV S)) (h2 : decF S ≠ none → pv = zeroPlan) (h3 : decF S = none → PlanV w' pu (decV S)) (h4 : decF S ≠ none → pu = zeroPlan) : ∃ P, PlanV w pv P ∧ PlanV w' pu P := by
  by_cases h : decF S = none
  · exact ⟨_, h1 h, h3 h⟩
  · exact ⟨zP, by rw [h2 h]; exact zero_plan w, by rw [h4 h]; exact zero_plan w'⟩
set_option maxHeartbeats 6400000 in
set_option maxRecDepth 100000 in
theorem pdecodes_any (w : World) (s : ByteArray) (hg : ETy w) : Calls Tryd.prog 4 #[.string s] w fun e w' => e = .returned (.bool true) ∧ Below w.heap.size w w' := by
  have HG := Aside.mk hg
  by_cases hl : s.size ≤ 20000
  rotate_left
  · have hl' : (20000 : Int) < (s.size : Int) := by omega
    go_enter Tryd.func4, Tryd.ntmps4
    go_wp2_with fail
    refine (awake_any _ hg).mono ?_
    rintro e w3 ⟨rfl, b3⟩
    go_wp2_with fail
    go_ret
    exact ⟨rfl, b3⟩
  have hl' : ¬ (20000 : Int) < (s.size : Int) := by omega
  obtain ⟨q, W1, cs, b1, ⟨X, h1⟩, hq⟩ := bytes_of w s
  have HL := Aside.mk (strL_len s)
  have HI : Aside (Ints W1 .u8 (.slice (some ⟨w.heap.size, 0, none⟩) s.size q) (strL s)) := ⟨by rw [← HL.out]; exact ints_of_blk (X := X) h1 (by rw [HL.out]; omega)⟩
  have KD : Aside (Calls Tryd.prog 15 #[.slice (some ⟨w.heap.size, 0, none⟩) s.size q] W1 (DecP W1 (strL s))) := ⟨decode_any W1 (.slice (some ⟨w.heap.size, 0, none⟩) s.size q) (strL s) (strL_byte s) HI.out (by rw [HL.out]; omega)⟩
  have KR := Aside.mk (fun W => rdec_any W s (by omega))
  have B1 := Aside.mk b1
  clear h1 hq b1 hg
  go_enter Tryd.func4, Tryd.ntmps4
  go_wp2_with fail
  refine KD.out.mono ?_
  rintro e w2 ⟨pv, ev, rfl, b2, he, hp, hz⟩
  obtain ⟨f, a0, n0, c0, a1, n1, c1, a2, n2, c2, a3, n3, c3, rfl⟩ := decV_open hp hz
  have HP := Aside.mk (And.intro hp hz)
  have HE := Aside.mk he
  have B2 := Aside.mk (bel_then B1.out b2)
  have HI2 := Aside.mk (HI.out.below b2)
  clear b2 hz hp he KD cs
  obtain ⟨w3, HW3⟩ : ∃ w3, Aside (w3 = w2.alloc (.cells #[.int .u16 f, .slice a0 n0 c0, .slice a1 n1 c1, .slice a2 n2 c2, .slice a3 n3 c3] 28)) := ⟨_, ⟨rfl⟩⟩
  have B3 : Aside (Below w2.heap.size w2 w3 ∧ w3.heap[w2.heap.size]? = some (.cells #[.int .u16 f, .slice a0 n0 c0, .slice a1 n1 c1, .slice a2 n2 c2, .slice a3 n3 c3] 28 (0, 0))) := ⟨by rw [HW3.out]; exact ⟨bel_one _ _, heap_alloc_new _ _⟩⟩
  have KR3 := Aside.mk (KR.out w3)
  go_upto_region 5 with (fail)
  rw [← HW3.out]
  go_wp2_with fail
  refine KR3.out.mono ?_
  rintro e w4 ⟨pu, rn, ra, rfl, b4, hn, ha, hp, hz⟩
  obtain ⟨g, i0, m0, k0, i1, m1, k1, i2, m2, k2, i3, m3, k3, rfl⟩ := decV_open hp hz
  have HQ := Aside.mk (dec_same HP.out.1 HP.out.2 hp hz)
  have B4 := Aside.mk (bel_then B3.out.1 b4)
  have H4 := Aside.mk (hup b4 B3.out.2)
  have HN := Aside.mk (And.intro hn ha)
  clear b4 hp hz KR3 KR hn ha
  obtain ⟨w5, HW5⟩ : ∃ w5, Aside (w5 = w4.alloc (.cells #[.int .u16 g, .slice i0 m0 k0, .slice i1 m1 k1, .slice i2 m2 k2, .slice i3 m3 k3] 28)) := ⟨_, ⟨rfl⟩⟩
  have B5 : Aside (Below w4.heap.size w4 w5 ∧ w5.heap[w4.heap.size]? = some (.cells #[.int .u16 g, .slice i0 m0 k0, .slice i1 m1 k1, .slice i2 m2 k2, .slice i3 m3 k3] 28 (0, 0))) := ⟨by rw [HW5.out]; exact ⟨bel_one _ _, heap_alloc_new _ _⟩⟩
  obtain ⟨P, hP1, hP2⟩ := HQ.out
  have C5 := Aside.mk (bel_then B4.out B5.out.1)
  have D5 := Aside.mk (bel_then B2.out C5.out)
  have HE5 := Aside.mk (HE.out.below C5.out)
  obtain ⟨qq, hqq⟩ : ∃ qq, decF (strL s) = qq := ⟨_, rfl⟩
  have HF := Aside.mk hqq
  rw [hqq] at HE5 HN
  have KW := Aside.mk (why_any w5 qq ev HE5.out (HG.out.below D5.out))
  have HP1 := Aside.mk (hP1.below C5.out)
  have HP2 := Aside.mk (hP2.below B5.out.1)
  obtain ⟨rfl, rfl⟩ := HN.out
  clear hqq hP1 hP2
  go_upto_region 6 with (fail)
  rw [← HW5.out]
  go_wp2_with fail
  refine KW.out.mono ?_
  rintro e w6 ⟨rfl, b6⟩
  have D6 := Aside.mk (bel_then D5.out b6)
  have KA : Aside (Calls Tryd.prog 11 #[] w6 fun e w' => e = .returned (.bool true) ∧ Below w6.heap.size w6 w') := ⟨awake_any w6 (HG.out.below D6.out)⟩
  have HE6 := Aside.mk (HE5.out.below b6)
  have B6 := Aside.mk b6
  clear b6 KW
  have hPP : eqB P P = true := eqB_yes rfl
  have KS : Aside (∀ W, Below w6.heap.size w6 W → Calls Tryd.prog 17 #[.agg #[.int .u16 f, .slice a0 n0 c0, .slice a1 n1 c1, .slice a2 n2 c2, .slice a3 n3 c3], .agg #[.int .u16 g, .slice i0 m0 k0, .slice i1 m1 k1, .slice i2 m2 k2, .slice i3 m3 k3]] W fun e w' => e = .returned (.bool true) ∧ Below W.heap.size W w') := ⟨fun W h => (rsame3_any W _ _ P P (HP1.out.below (bel_then B6.out h)) (HP2.out.below (bel_then B6.out h))).mono fun e w' q => by
    obtain ⟨q1, q2⟩ := q
    rw [hPP] at q1
    exact ⟨q1, q2⟩⟩
  clear hPP
  rcases errF_two HE5.out with ⟨rfl, rfl⟩ | ⟨⟨n, a⟩, rfl, fe, rfl⟩
  · have r1 : numQ none = 0 := rfl
    have r2 : atQ none = 0 := rfl
    go_upto_region 7 with (fail)
    go_wp2_with fail
    refine KA.out.mono ?_
    rintro e w7 ⟨rfl, b7⟩
    have B7 := Aside.mk b7
    have K7 := Aside.mk (KS.out w7 b7)
    obtain ⟨x0, x1, x2, x3, x4⟩ := box5 (hup (bel_then (bel_then B5.out.1 B6.out) B7.out) H4.out)
    obtain ⟨y0, y1, y2, y3, y4⟩ := box5 (hup (bel_then B6.out B7.out) B5.out.2)
    clear b7
    go_wp2_with fail
    refine K7.out.mono ?_
    rintro e w8 ⟨rfl, b8⟩
    have hc := Bl.conv_ints (HI2.out.below (bel_then C5.out (bel_then B6.out (bel_then B7.out b8))))
    rw [nums_str] at hc
    have B8 := Aside.mk (bel_then D6.out (bel_then B7.out b8))
    clear x0 x1 x2 x3 x4 y0 y1 y2 y3 y4 b8
    go_wp2_with fail
    go_ret
    exact ⟨by simp, B8.out⟩
  · have r1 : numQ (some (n, a)) = n := rfl
    have r2 : atQ (some (n, a)) = a := rfl
    have r3 := decF_ne HF.out
    go_upto_region 7 with (fail)
    go_wp2_with fail
    refine KA.out.mono ?_
    rintro e w7 ⟨rfl, b7⟩
    have B7 := Aside.mk b7
    have K7 := Aside.mk (KS.out w7 b7)
    obtain ⟨x0, x1, x2, x3, x4⟩ := box5 (hup (bel_then (bel_then B5.out.1 B6.out) B7.out) H4.out)
    obtain ⟨y0, y1, y2, y3, y4⟩ := box5 (hup (bel_then B6.out B7.out) B5.out.2)
    clear b7
    go_wp2_with fail
    refine K7.out.mono ?_
    rintro e w8 ⟨rfl, b8⟩
    have hc := Bl.conv_ints (HI2.out.below (bel_then C5.out (bel_then B6.out (bel_then B7.out b8))))
    rw [nums_str] at hc
    have B8 := Aside.mk (bel_then D6.out (bel_then B7.out b8))
    clear x0 x1 x2 x3 x4 y0 y1 y2 y3 y4 b8
    go_wp2_with fail
    go_ret
    exact ⟨by simp [r3], B8.out⟩
end Go.Proofs.YtbphlapdhcgikaaDoor
