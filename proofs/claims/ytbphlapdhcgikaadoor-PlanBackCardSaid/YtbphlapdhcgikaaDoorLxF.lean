/- The law PlanBack. -/
import Derived.Test.YtbphlapdhcgikaaDoorRtA
namespace Go.Proofs.YtbphlapdhcgikaaDoor
open Go.RowKit
set_option linter.unusedVariables false
set_option linter.unusedSimpArgs false

set_option maxHeartbeats 6400000 in
set_option maxRecDepth 100000 in
theorem pback_any (w : World) (v : Value) (P : Plan) (hg : ETy w) (hv : PlanV w v P) (hz : Sz3 P) : Calls Tryd.prog 5 #[v] w fun e w' => e = .returned (.bool true) ∧ Below w.heap.size w w' := by
  have HV := Aside.mk hv
  have HG := Aside.mk hg
  obtain ⟨a0, c0, a1, c1, a2, c2, a3, c3, rfl, hp, hlen⟩ := hv.open_
  obtain ⟨W1, HW⟩ : ∃ W1, Aside (W1 = w.alloc (.cells #[.int .u16 (Plan.frame P), .slice a0 (Plan.cores P).length c0, .slice a1 (Plan.parts P).length c1, .slice a2 (Plan.chans P).length c2, .slice a3 (Plan.pairs P).length c3] 28)) := ⟨_, ⟨rfl⟩⟩
  have B1 : Aside (Below w.heap.size w W1 ∧ W1.heap[w.heap.size]? = some (.cells #[.int .u16 (Plan.frame P), .slice a0 (Plan.cores P).length c0, .slice a1 (Plan.parts P).length c1, .slice a2 (Plan.chans P).length c2, .slice a3 (Plan.pairs P).length c3] 28 (0, 0))) := ⟨by rw [HW.out]; exact ⟨bel_one _ _, heap_alloc_new _ _⟩⟩
  have K0 := Aside.mk (few3_any W1 _ P (HV.out.below B1.out.1) hz)
  obtain ⟨x0, x1, x2, x3, x4⟩ := box5 B1.out.2
  clear hv hg hz hp hlen
  go_enter Tryd.func5, Tryd.ntmps5
  go_upto_region 1 with (fail)
  rw [← HW.out]
  go_wp2_with fail
  refine K0.out.mono ?_
  rintro e w2 ⟨b, rfl, hF, bb⟩
  have B2 := Aside.mk (And.intro (bel_then B1.out.1 bb) (hup bb B1.out.2))
  clear bb x0 x1 x2 x3 x4 K0 hF
  cases b with
  | false =>
    go_wp2_with fail
    refine (awake_any _ (HG.out.below B2.out.1)).mono ?_
    rintro e w3 ⟨rfl, b3⟩
    have B3 := Aside.mk (bel_then B2.out.1 b3)
    clear b3
    go_wp2_with fail
    go_ret
    exact ⟨rfl, B3.out⟩
  | true =>
    have KE := Aside.mk (encode_any w2 _ P (HV.out.below B2.out.1))
    obtain ⟨x0, x1, x2, x3, x4⟩ := box5 B2.out.2
    go_wp2_with fail
    refine KE.out.mono ?_
    rintro e w3 ⟨bv, ev, rfl, bb, he, ho, _⟩
    have B3 := Aside.mk (And.intro (bel_then B2.out.1 bb) (hup bb B2.out.2))
    clear bb x0 x1 x2 x3 x4 KE
    rcases errF_two he with ⟨e1, rfl⟩ | ⟨x, e1, f, rfl⟩
    rotate_left
    · have KA : Aside (Calls Tryd.prog 11 #[] w3 fun e w' => e = .returned (.bool true) ∧ Below w3.heap.size w3 w') := ⟨awake_any w3 (HG.out.below B3.out.1)⟩
      clear he ho e1
      go_upto_region 4 with (fail)
      go_wp2_with fail
      refine KA.out.mono ?_
      rintro e w4 ⟨rfl, b4⟩
      have B4 := Aside.mk (bel_then B3.out.1 b4)
      clear b4
      go_wp2_with fail
      refine (awake_any _ (HG.out.below B4.out)).mono ?_
      rintro e w5 ⟨rfl, b5⟩
      have B5 := Aside.mk (bel_then B4.out b5)
      clear b5
      go_wp2_with fail
      go_ret
      exact ⟨rfl, B5.out⟩
    have HD := Aside.mk (planD_of HV.out (short_of e1))
    have HO := ho e1
    have HI := Aside.mk (own_ints HO)
    clear ho he HO e1
    obtain ⟨A, c, rfl, _⟩ := HI.out
    have KA : Aside (Calls Tryd.prog 11 #[] w3 fun e w' => e = .returned (.bool true) ∧ Below w3.heap.size w3 w') := ⟨awake_any w3 (HG.out.below B3.out.1)⟩
    go_upto_region 4 with (fail)
    go_wp2_with fail
    refine KA.out.mono ?_
    rintro e w4 ⟨rfl, b4⟩
    have B4 := Aside.mk (And.intro (bel_then B3.out.1 b4) (hup b4 B3.out.2))
    have KD := Aside.mk (decode_any w4 _ (encL P) (enc_byte HD.out) (HI.out.below b4) (by have := (enc_len HD.out).1; omega))
    clear b4
    go_wp2_with fail
    refine KD.out.mono ?_
    rintro e w5 ⟨pv, fv, rfl, b5, he, hp, _⟩
    rw [(back_plan HD.out).1] at he
    obtain rfl : fv = .nilIface := he
    have hp := hp (back_plan HD.out).1
    rw [(back_plan HD.out).2] at hp
    have HQ := Aside.mk hp
    obtain ⟨e0, k0, e1, k1, e2, k2, e3, k3, rfl, _, _⟩ := hp.open_
    have B5 := Aside.mk (And.intro (bel_then B4.out.1 b5) (hup b5 B4.out.2))
    clear b5 hp KD
    obtain ⟨w6, HW6⟩ : ∃ w6, Aside (w6 = w5.alloc (.cells #[.int .u16 (Plan.frame P), .slice e0 (Plan.cores P).length k0, .slice e1 (Plan.parts P).length k1, .slice e2 (Plan.chans P).length k2, .slice e3 (Plan.pairs P).length k3] 28)) := ⟨_, ⟨rfl⟩⟩
    have b6 : Below w5.heap.size w5 w6 := by rw [HW6.out]; exact bel_one _ _
    have H6 : Aside (w6.heap[w5.heap.size]? = some (.cells #[.int .u16 (Plan.frame P), .slice e0 (Plan.cores P).length k0, .slice e1 (Plan.parts P).length k1, .slice e2 (Plan.chans P).length k2, .slice e3 (Plan.pairs P).length k3] 28 (0, 0))) := ⟨by rw [HW6.out]; exact heap_alloc_new _ _⟩
    have B6 := Aside.mk (And.intro (bel_then B5.out.1 b6) (hup b6 B5.out.2))
    have hPP : eqB P P = true := eqB_yes rfl
    have K1 : Aside (Calls Tryd.prog 17 #[.agg #[.int .u16 (Plan.frame P), .slice a0 (Plan.cores P).length c0, .slice a1 (Plan.parts P).length c1, .slice a2 (Plan.chans P).length c2, .slice a3 (Plan.pairs P).length c3], .agg #[.int .u16 (Plan.frame P), .slice e0 (Plan.cores P).length k0, .slice e1 (Plan.parts P).length k1, .slice e2 (Plan.chans P).length k2, .slice e3 (Plan.pairs P).length k3]] w6 fun e w' => e = .returned (.bool true) ∧ Below w6.heap.size w6 w') := ⟨(rsame3_any w6 _ _ _ _ (HV.out.below B6.out.1) (HQ.out.below b6)).mono fun e w' q => by
      obtain ⟨q1, q2⟩ := q
      rw [hPP] at q1
      exact ⟨q1, q2⟩⟩
    clear b6 hPP
    obtain ⟨x0, x1, x2, x3, x4⟩ := box5 B6.out.2
    obtain ⟨y0, y1, y2, y3, y4⟩ := box5 H6.out
    go_upto_region 7 with (fail)
    rw [← HW6.out]
    go_wp2_with fail
    refine K1.out.mono ?_
    rintro e w7 ⟨rfl, b7⟩
    go_wp2_with fail
    go_ret
    exact ⟨rfl, bel_then B6.out.1 b7⟩
end Go.Proofs.YtbphlapdhcgikaaDoor
