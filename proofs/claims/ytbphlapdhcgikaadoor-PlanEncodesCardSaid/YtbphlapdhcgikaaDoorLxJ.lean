/- The law PlanEncodes. -/
import Derived.Test.YtbphlapdhcgikaaDoorBytB
namespace Go.Proofs.YtbphlapdhcgikaaDoor
open Go.RowKit
set_option linter.unusedVariables false
set_option linter.unusedSimpArgs false

set_option maxHeartbeats 6400000 in
set_option maxRecDepth 100000 in
theorem pencodes_any (w : World) (v : Value) (P : Plan) (hg : ETy w) (hv : PlanV w v P) (hz : Sz3 P) : Calls Tryd.prog 3 #[v] w fun e w' => e = .returned (.bool true) ∧ Below w.heap.size w w' := by
  have HV := Aside.mk hv
  have HG := Aside.mk hg
  obtain ⟨a0, c0, a1, c1, a2, c2, a3, c3, rfl, hp, hlen⟩ := hv.open_
  obtain ⟨W1, HW⟩ : ∃ W1, Aside (W1 = w.alloc (.cells #[.int .u16 (Plan.frame P), .slice a0 (Plan.cores P).length c0, .slice a1 (Plan.parts P).length c1, .slice a2 (Plan.chans P).length c2, .slice a3 (Plan.pairs P).length c3] 28)) := ⟨_, ⟨rfl⟩⟩
  have B1 : Aside (Below w.heap.size w W1 ∧ W1.heap[w.heap.size]? = some (.cells #[.int .u16 (Plan.frame P), .slice a0 (Plan.cores P).length c0, .slice a1 (Plan.parts P).length c1, .slice a2 (Plan.chans P).length c2, .slice a3 (Plan.pairs P).length c3] 28 (0, 0))) := ⟨by rw [HW.out]; exact ⟨bel_one _ _, heap_alloc_new _ _⟩⟩
  have K0 := Aside.mk (few3_any W1 _ P (HV.out.below B1.out.1) hz)
  obtain ⟨x0, x1, x2, x3, x4⟩ := box5 B1.out.2
  clear hv hg hz hp hlen
  go_enter Tryd.func3, Tryd.ntmps3
  go_upto_region 1 with (fail)
  rw [← HW.out]
  go_wp2_with fail
  refine K0.out.mono ?_
  rintro e w2 ⟨b, rfl, hF, bb⟩
  have B2 := Aside.mk (And.intro (bel_then B1.out.1 bb) (hup bb B1.out.2))
  clear bb x0 x1 x2 x3 x4 K0
  cases b with
  | false =>
    clear hF
    go_wp2_with fail
    refine (awake_any _ (HG.out.below B2.out.1)).mono ?_
    rintro e w3 ⟨rfl, b3⟩
    have B3 := Aside.mk (bel_then B2.out.1 b3)
    clear b3
    go_wp2_with fail
    go_ret
    exact ⟨rfl, B3.out⟩
  | true =>
    have KE := Aside.mk (encode_any w2 _ P (HV.out.below B2.out.1))
    have F := Aside.mk (hF rfl)
    clear hF
    obtain ⟨x0, x1, x2, x3, x4⟩ := box5 B2.out.2
    go_wp2_with fail
    refine KE.out.mono ?_
    rintro e w3 ⟨bv, ev, rfl, bb, he, ho, hn⟩
    have B3 := Aside.mk (And.intro (bel_then B2.out.1 bb) (hup bb B2.out.2))
    have HE := Aside.mk he
    have HO := Aside.mk (And.intro ho hn)
    clear bb x0 x1 x2 x3 x4 KE he ho hn
    have KB := Aside.mk (bytes_any w3 _ P (HV.out.below B3.out.1) F.out)
    obtain ⟨x0, x1, x2, x3, x4⟩ := box5 B3.out.2
    go_wp2_with fail
    refine KB.out.mono ?_
    rintro e w4 ⟨s, a, ok, rfl, b4, hr⟩
    have B4 := Aside.mk (bel_then B3.out.1 b4)
    have HE4 := Aside.mk (HE.out.below b4)
    have HO4 : Aside (whyF P = none → Ints w4 .u8 bv (encL P)) := ⟨fun h => (own_ints (HO.out.1 h)).below b4⟩
    have HN : Aside (whyF P ≠ none → bv = .slice none 0 0) := ⟨HO.out.2⟩
    clear b4 x0 x1 x2 x3 x4 KB HO
    obtain ⟨q, hq⟩ : ∃ q, whyF P = q := ⟨_, rfl⟩
    rw [hq] at HE4 HO4 HN hr
    have KW := Aside.mk (why_any w4 q ev HE4.out (HG.out.below B4.out))
    go_wp2_with fail
    refine KW.out.mono ?_
    rintro e w5 ⟨rfl, b5⟩
    have B5 := Aside.mk (bel_then B4.out b5)
    have KA : Aside (Calls Tryd.prog 11 #[] w5 fun e w' => e = .returned (.bool true) ∧ Below w5.heap.size w5 w') := ⟨awake_any w5 (HG.out.below B5.out)⟩
    rcases hr with ⟨rfl, rfl, rfl⟩ | ⟨rfl, rfl⟩
    · have HI5 := Aside.mk ((HO4.out rfl).below b5)
      obtain ⟨A, c, rfl, _⟩ := HI5.out
      obtain rfl : ev = .nilIface := HE4.out
      clear b5 KW hq
      go_wp2_with fail
      refine KA.out.mono ?_
      rintro e w6 ⟨rfl, b6⟩
      have hc := Bl.conv_ints (HI5.out.below b6)
      have B6 := Aside.mk (bel_then B5.out b6)
      clear b6
      go_wp2_with fail
      go_ret
      exact ⟨by simp, B6.out⟩
    · obtain rfl := HN.out (by simp)
      have h1 : numQ (some (31, a)) = 31 := rfl
      have h2 : atQ (some (31, a)) = a := rfl
      clear b5 KW hq
      go_wp2_with fail
      refine KA.out.mono ?_
      rintro e w6 ⟨rfl, b6⟩
      have B6 := Aside.mk (bel_then B5.out b6)
      clear b6
      go_wp2_with fail
      go_ret
      exact ⟨by simp, B6.out⟩
end Go.Proofs.YtbphlapdhcgikaaDoor
