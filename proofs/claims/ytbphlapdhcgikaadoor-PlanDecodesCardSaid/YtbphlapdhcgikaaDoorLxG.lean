/- The law PlanOne. -/
import Derived.Test.YtbphlapdhcgikaaDoorRtA
namespace Go.Proofs.YtbphlapdhcgikaaDoor
open Go.RowKit
set_option linter.unusedVariables false
set_option linter.unusedSimpArgs false

theorem decV_open {w : World} {pv : Value} {S : List Int} (h1 : decF S = none → PlanV w pv (decV S)) (h2 : decF S ≠ none → pv = zeroPlan) : ∃ f a0 n0 c0 a1 n1 c1 a2 n2 c2 a3 n3 c3, pv = .agg #[.int .u16 f, .slice a0 n0 c0, .slice a1 n1 c1, .slice a2 n2 c2, .slice a3 n3 c3] := by
  by_cases h : decF S = none
  · obtain ⟨a0, n0, c0, a1, n1, c1, a2, n2, c2, a3, n3, c3, rfl, _⟩ := h1 h
    exact ⟨_, _, _, _, _, _, _, _, _, _, _, _, _, rfl⟩
  · exact ⟨_, _, _, _, _, _, _, _, _, _, _, _, _, h2 h⟩
set_option maxHeartbeats 6400000 in
set_option maxRecDepth 100000 in
theorem pone_any (w : World) (s : ByteArray) (hg : ETy w) : Calls Tryd.prog 6 #[.string s] w fun e w' => e = .returned (.bool true) ∧ Below w.heap.size w w' := by
  have HG := Aside.mk hg
  by_cases hl : s.size ≤ 20000
  rotate_left
  · have hl' : (20000 : Int) < (s.size : Int) := by omega
    go_enter Tryd.func6, Tryd.ntmps6
    go_wp2_with fail
    refine (awake_any _ hg).mono ?_
    rintro e w3 ⟨rfl, b3⟩
    go_wp2_with fail
    go_ret
    exact ⟨rfl, b3⟩
  have hl' : ¬ (20000 : Int) < (s.size : Int) := by omega
  obtain ⟨q, W1, cs, b1, ⟨X, h1⟩, hq⟩ := bytes_of w s
  have HL := Aside.mk (strL_len s)
  have KD : Aside (Calls Tryd.prog 15 #[.slice (some ⟨w.heap.size, 0, none⟩) s.size q] W1 (DecP W1 (strL s))) := ⟨by
    have h := decode_any W1 (.slice (some ⟨w.heap.size, 0, none⟩) s.size q) (strL s) (strL_byte s) (by rw [← HL.out]; exact ints_of_blk (X := X) h1 (by rw [HL.out]; omega)) (by rw [HL.out]; omega)
    exact h⟩
  have B1 := Aside.mk b1
  clear h1 hq b1 hg
  go_enter Tryd.func6, Tryd.ntmps6
  go_wp2_with fail
  refine KD.out.mono ?_
  rintro e w2 ⟨pv, ev, rfl, b2, he, hp, hz⟩
  obtain ⟨f, a0, n0, c0, a1, n1, c1, a2, n2, c2, a3, n3, c3, rfl⟩ := decV_open hp hz
  have B2 := Aside.mk (bel_then B1.out b2)
  clear b2 hz KD cs
  obtain ⟨w3, HW3⟩ : ∃ w3, Aside (w3 = w2.alloc (.cells #[.int .u16 f, .slice a0 n0 c0, .slice a1 n1 c1, .slice a2 n2 c2, .slice a3 n3 c3] 28)) := ⟨_, ⟨rfl⟩⟩
  have b3 : Below w2.heap.size w2 w3 := by rw [HW3.out]; exact bel_one _ _
  have H3 : Aside (w3.heap[w2.heap.size]? = some (.cells #[.int .u16 f, .slice a0 n0 c0, .slice a1 n1 c1, .slice a2 n2 c2, .slice a3 n3 c3] 28 (0, 0))) := ⟨by rw [HW3.out]; exact heap_alloc_new _ _⟩
  have B3 := Aside.mk (bel_then B2.out b3)
  have KA : Aside (Calls Tryd.prog 11 #[] w3 fun e w' => e = .returned (.bool true) ∧ Below w3.heap.size w3 w') := ⟨awake_any w3 (HG.out.below B3.out)⟩
  rcases errF_two he with ⟨e1, rfl⟩ | ⟨x, e1, fe, rfl⟩
  rotate_left
  · clear he hp e1 b3
    go_upto_region 4 with (fail)
    rw [← HW3.out]
    go_wp2_with fail
    refine KA.out.mono ?_
    rintro e w4 ⟨rfl, b4⟩
    have B4 := Aside.mk (bel_then B3.out b4)
    clear b4
    go_wp2_with fail
    refine (awake_any _ (HG.out.below B4.out)).mono ?_
    rintro e w5 ⟨rfl, b5⟩
    have B5 := Aside.mk (bel_then B4.out b5)
    clear b5
    go_wp2_with fail
    go_ret
    exact ⟨rfl, B5.out⟩
  have hV := Aside.mk ((hp e1).below b3)
  have hone := Aside.mk (one_plan (strL_byte s) e1)
  clear he hp e1 b3
  go_upto_region 4 with (fail)
  rw [← HW3.out]
  go_wp2_with fail
  refine KA.out.mono ?_
  rintro e w4 ⟨rfl, b4⟩
  have B4 := Aside.mk (And.intro (bel_then B3.out b4) (hup b4 H3.out))
  have KE := Aside.mk (encode_any w4 _ (decV (strL s)) (hV.out.below b4))
  clear b4
  obtain ⟨x0, x1, x2, x3, x4⟩ := box5 B4.out.2
  go_wp2_with fail
  refine KE.out.mono ?_
  rintro e w5 ⟨bv, fv, rfl, b5, he, ho, _⟩
  have hw := why_short hone.out.2.short
  rw [hw] at he
  obtain rfl : fv = .nilIface := he
  have HO := own_ints (ho hw)
  rw [hone.out.1] at HO
  have hc := Bl.conv_ints HO
  rw [nums_str] at hc
  obtain ⟨A, c, rfl, _⟩ := HO
  have B5 := Aside.mk (bel_then B4.out.1 b5)
  clear b5 ho hw KE x0 x1 x2 x3 x4
  go_wp2_with fail
  go_ret
  exact ⟨by simp, B5.out⟩
end Go.Proofs.YtbphlapdhcgikaaDoor
