/- The law PlanSames. -/
import Derived.Test.YtbphlapdhcgikaaDoorLxC
import Derived.Test.YtbphlapdhcgikaaDoorCpy3
namespace Go.Proofs.YtbphlapdhcgikaaDoor
open Go.RowKit
set_option linter.unusedVariables false
set_option linter.unusedSimpArgs false

set_option maxHeartbeats 6400000 in
set_option maxRecDepth 100000 in
theorem psames_any (w : World) (v u : Value) (P Q : Plan) (hg : ETy w) (hv : PlanV w v P) (hu : PlanV w u Q) (hz : Sz3 P) (hy : Sz3 Q) : Calls Tryd.prog 8 #[v, u] w fun e w' => e = .returned (.bool true) ∧ Below w.heap.size w w' := by
  have HV := Aside.mk hv
  have HU := Aside.mk hu
  have HG := Aside.mk hg
  have HY := Aside.mk hy
  obtain ⟨a0, c0, a1, c1, a2, c2, a3, c3, rfl, hp, hlen⟩ := hv.open_
  obtain ⟨b0, d0, b1, d1, b2, d2, b3, d3, rfl, hq, hlen'⟩ := hu.open_
  obtain ⟨W1, HW⟩ : ∃ W1, Aside (W1 = (w.alloc (.cells #[.int .u16 (Plan.frame P), .slice a0 (Plan.cores P).length c0, .slice a1 (Plan.parts P).length c1, .slice a2 (Plan.chans P).length c2, .slice a3 (Plan.pairs P).length c3] 28)).alloc (.cells #[.int .u16 (Plan.frame Q), .slice b0 (Plan.cores Q).length d0, .slice b1 (Plan.parts Q).length d1, .slice b2 (Plan.chans Q).length d2, .slice b3 (Plan.pairs Q).length d3] 28)) := ⟨_, ⟨rfl⟩⟩
  have B1 : Aside (Below w.heap.size w W1 ∧ W1.heap[w.heap.size]? = some (.cells #[.int .u16 (Plan.frame P), .slice a0 (Plan.cores P).length c0, .slice a1 (Plan.parts P).length c1, .slice a2 (Plan.chans P).length c2, .slice a3 (Plan.pairs P).length c3] 28 (0, 0)) ∧ W1.heap[w.heap.size + 1]? = some (.cells #[.int .u16 (Plan.frame Q), .slice b0 (Plan.cores Q).length d0, .slice b1 (Plan.parts Q).length d1, .slice b2 (Plan.chans Q).length d2, .slice b3 (Plan.pairs Q).length d3] 28 (0, 0))) := ⟨by
    rw [HW.out]; exact ⟨bel_two _ _ _, heap_up (heap_alloc_new _ _), heap_top _ _ _ (by simp)⟩⟩
  have K0 := Aside.mk (few3_any W1 _ P (HV.out.below B1.out.1) hz)
  obtain ⟨x0, x1, x2, x3, x4⟩ := box5 B1.out.2.1
  clear hv hu hg hz hy hp hq hlen hlen'
  go_enter Tryd.func8, Tryd.ntmps8
  go_upto_region 1 with (fail)
  rw [← HW.out]
  go_wp2_with fail
  refine K0.out.mono ?_
  rintro e w2 ⟨b, rfl, hF, bb⟩
  have B2 := Aside.mk (And.intro (bel_then B1.out.1 bb) (And.intro (hup bb B1.out.2.1) (hup bb B1.out.2.2)))
  clear bb x0 x1 x2 x3 x4 K0
  cases b with
  | false =>
    clear hF
    go_wp2_with fail
    refine (awake_any _ (HG.out.below B2.out.1)).mono ?_
    rintro e w3 ⟨rfl, b3⟩
    have B3 := Aside.mk (bel_then B2.out.1 b3)
    clear b3
    go_wp2_with fail
    go_ret
    exact ⟨rfl, B3.out⟩
  | true =>
    have F := Aside.mk (hF rfl)
    have K0 := Aside.mk (few3_any w2 _ Q (HU.out.below B2.out.1) HY.out)
    clear hF
    obtain ⟨x0, x1, x2, x3, x4⟩ := box5 B2.out.2.2
    go_wp2_with fail
    refine K0.out.mono ?_
    rintro e w3 ⟨b, rfl, hF, bb⟩
    have B3 := Aside.mk (And.intro (bel_then B2.out.1 bb) (And.intro (hup bb B2.out.2.1) (hup bb B2.out.2.2)))
    clear bb x0 x1 x2 x3 x4 K0 hF
    cases b with
    | false =>
      go_wp2_with fail
      refine (awake_any _ (HG.out.below B3.out.1)).mono ?_
      rintro e w4 ⟨rfl, b4⟩
      have B4 := Aside.mk (bel_then B3.out.1 b4)
      clear b4
      go_wp2_with fail
      go_ret
      exact ⟨rfl, B4.out⟩
    | true =>
      have f1 := F.out.sum
      have KC := Aside.mk (copy_any w3 _ P (HV.out.below B3.out.1) (by omega) (by omega) (by omega) (fun L hL => by have := F.out.cores L hL; omega) (fun x hx => by have := F.out.objs x hx; omega) (by omega))
      clear f1
      obtain ⟨x0, x1, x2, x3, x4⟩ := box5 B3.out.2.1
      go_wp2_with fail
      refine KC.out.mono ?_
      rintro e w4 ⟨e0, k0, e1, k1, e2, k2, e3, k3, rfl, hc⟩
      have bb := hc.below
      obtain ⟨w5, HW5⟩ : ∃ w5, Aside (w5 = w4.alloc (.cells #[.int .u16 (Plan.frame P), .slice e0 (Plan.cores P).length k0, .slice e1 (Plan.parts P).length k1, .slice e2 (Plan.chans P).length k2, .slice e3 (Plan.pairs P).length k3] 28)) := ⟨_, ⟨rfl⟩⟩
      have b5 : Below w4.heap.size w4 w5 := by rw [HW5.out]; exact bel_one _ _
      have B5 := Aside.mk (And.intro (bel_then (bel_then B3.out.1 bb) b5) (And.intro (hup (bel_then bb b5) B3.out.2.1) (hup (bel_then bb b5) B3.out.2.2)))
      have H5 : Aside (w5.heap[w4.heap.size]? = some (.cells #[.int .u16 (Plan.frame P), .slice e0 (Plan.cores P).length k0, .slice e1 (Plan.parts P).length k1, .slice e2 (Plan.chans P).length k2, .slice e3 (Plan.pairs P).length k3] 28 (0, 0))) := ⟨by rw [HW5.out]; exact heap_alloc_new _ _⟩
      have HP := Aside.mk (HV.out.below B5.out.1)
      have HQ := Aside.mk (HU.out.below B5.out.1)
      have HC : Aside (PlanV w5 (.agg #[.int .u16 (Plan.frame P), .slice e0 (Plan.cores P).length k0, .slice e1 (Plan.parts P).length k1, .slice e2 (Plan.chans P).length k2, .slice e3 (Plan.pairs P).length k3]) P) := ⟨⟨_, _, _, _, _, _, _, _, _, _, _, _, rfl, hc.at_.below b5⟩⟩
      have KA : Aside (∀ W, Below w5.heap.size w5 W → Calls Tryd.prog 11 #[] W fun e w' => e = .returned (.bool true) ∧ Below w5.heap.size w5 w') := ⟨fun W h => (awake_any W (HG.out.below (bel_then B5.out.1 h))).mono fun e w' q => ⟨q.1, bel_then h q.2⟩⟩
      clear bb hc b5 x0 x1 x2 x3 x4 KC
      obtain ⟨z, hz⟩ : ∃ z, eqB P Q = z := ⟨_, rfl⟩
      have hPP : eqB P P = true := eqB_yes rfl
      have K1 : Aside (∀ W, Below w5.heap.size w5 W → Calls Tryd.prog 19 #[.agg #[.int .u16 (Plan.frame P), .slice a0 (Plan.cores P).length c0, .slice a1 (Plan.parts P).length c1, .slice a2 (Plan.chans P).length c2, .slice a3 (Plan.pairs P).length c3], .agg #[.int .u16 (Plan.frame Q), .slice b0 (Plan.cores Q).length d0, .slice b1 (Plan.parts Q).length d1, .slice b2 (Plan.chans Q).length d2, .slice b3 (Plan.pairs Q).length d3]] W fun e w' => e = .returned (.bool z) ∧ Below w5.heap.size w5 w') := ⟨fun W h => (same_any W _ _ _ _ (HP.out.below h) (HQ.out.below h)).mono fun e w' q => by
        obtain ⟨q1, q2⟩ := q
        rw [hz] at q1
        exact ⟨q1, bel_then h q2⟩⟩
      have K2 : Aside (∀ W, Below w5.heap.size w5 W → Calls Tryd.prog 17 #[.agg #[.int .u16 (Plan.frame P), .slice a0 (Plan.cores P).length c0, .slice a1 (Plan.parts P).length c1, .slice a2 (Plan.chans P).length c2, .slice a3 (Plan.pairs P).length c3], .agg #[.int .u16 (Plan.frame Q), .slice b0 (Plan.cores Q).length d0, .slice b1 (Plan.parts Q).length d1, .slice b2 (Plan.chans Q).length d2, .slice b3 (Plan.pairs Q).length d3]] W fun e w' => e = .returned (.bool z) ∧ Below w5.heap.size w5 w') := ⟨fun W h => (rsame3_any W _ _ _ _ (HP.out.below h) (HQ.out.below h)).mono fun e w' q => by
        obtain ⟨q1, q2⟩ := q
        rw [hz] at q1
        exact ⟨q1, bel_then h q2⟩⟩
      have K3 : Aside (∀ W, Below w5.heap.size w5 W → Calls Tryd.prog 19 #[.agg #[.int .u16 (Plan.frame P), .slice a0 (Plan.cores P).length c0, .slice a1 (Plan.parts P).length c1, .slice a2 (Plan.chans P).length c2, .slice a3 (Plan.pairs P).length c3], .agg #[.int .u16 (Plan.frame P), .slice e0 (Plan.cores P).length k0, .slice e1 (Plan.parts P).length k1, .slice e2 (Plan.chans P).length k2, .slice e3 (Plan.pairs P).length k3]] W fun e w' => e = .returned (.bool true) ∧ Below w5.heap.size w5 w') := ⟨fun W h => (same_any W _ _ _ _ (HP.out.below h) (HC.out.below h)).mono fun e w' q => by
        obtain ⟨q1, q2⟩ := q
        rw [hPP] at q1
        exact ⟨q1, bel_then h q2⟩⟩
      have K4 : Aside (∀ W, Below w5.heap.size w5 W → Calls Tryd.prog 19 #[.agg #[.int .u16 (Plan.frame P), .slice e0 (Plan.cores P).length k0, .slice e1 (Plan.parts P).length k1, .slice e2 (Plan.chans P).length k2, .slice e3 (Plan.pairs P).length k3], .agg #[.int .u16 (Plan.frame P), .slice a0 (Plan.cores P).length c0, .slice a1 (Plan.parts P).length c1, .slice a2 (Plan.chans P).length c2, .slice a3 (Plan.pairs P).length c3]] W fun e w' => e = .returned (.bool true) ∧ Below w5.heap.size w5 w') := ⟨fun W h => (same_any W _ _ _ _ (HC.out.below h) (HP.out.below h)).mono fun e w' q => by
        obtain ⟨q1, q2⟩ := q
        rw [hPP] at q1
        exact ⟨q1, bel_then h q2⟩⟩
      have K5 : Aside (∀ W, Below w5.heap.size w5 W → Calls Tryd.prog 17 #[.agg #[.int .u16 (Plan.frame P), .slice a0 (Plan.cores P).length c0, .slice a1 (Plan.parts P).length c1, .slice a2 (Plan.chans P).length c2, .slice a3 (Plan.pairs P).length c3], .agg #[.int .u16 (Plan.frame P), .slice e0 (Plan.cores P).length k0, .slice e1 (Plan.parts P).length k1, .slice e2 (Plan.chans P).length k2, .slice e3 (Plan.pairs P).length k3]] W fun e w' => e = .returned (.bool true) ∧ Below w5.heap.size w5 w') := ⟨fun W h => (rsame3_any W _ _ _ _ (HP.out.below h) (HC.out.below h)).mono fun e w' q => by
        obtain ⟨q1, q2⟩ := q
        rw [hPP] at q1
        exact ⟨q1, bel_then h q2⟩⟩
      have SW : Aside (∀ w', Below w5.heap.size w5 w' → w'.cell? ⟨w.heap.size, 0, none⟩ = some (.int .u16 (Plan.frame P)) ∧ w'.cell? ⟨w.heap.size, 1, none⟩ = some (.slice a0 (Plan.cores P).length c0) ∧ w'.cell? ⟨w.heap.size, 2, none⟩ = some (.slice a1 (Plan.parts P).length c1) ∧ w'.cell? ⟨w.heap.size, 3, none⟩ = some (.slice a2 (Plan.chans P).length c2) ∧ w'.cell? ⟨w.heap.size, 4, none⟩ = some (.slice a3 (Plan.pairs P).length c3) ∧ w'.cell? ⟨w.heap.size + 1, 0, none⟩ = some (.int .u16 (Plan.frame Q)) ∧ w'.cell? ⟨w.heap.size + 1, 1, none⟩ = some (.slice b0 (Plan.cores Q).length d0) ∧ w'.cell? ⟨w.heap.size + 1, 2, none⟩ = some (.slice b1 (Plan.parts Q).length d1) ∧ w'.cell? ⟨w.heap.size + 1, 3, none⟩ = some (.slice b2 (Plan.chans Q).length d2) ∧ w'.cell? ⟨w.heap.size + 1, 4, none⟩ = some (.slice b3 (Plan.pairs Q).length d3) ∧ w'.cell? ⟨w4.heap.size, 0, none⟩ = some (.int .u16 (Plan.frame P)) ∧ w'.cell? ⟨w4.heap.size, 1, none⟩ = some (.slice e0 (Plan.cores P).length k0) ∧ w'.cell? ⟨w4.heap.size, 2, none⟩ = some (.slice e1 (Plan.parts P).length k1) ∧ w'.cell? ⟨w4.heap.size, 3, none⟩ = some (.slice e2 (Plan.chans P).length k2) ∧ w'.cell? ⟨w4.heap.size, 4, none⟩ = some (.slice e3 (Plan.pairs P).length k3)) := ⟨fun w' b => by
        obtain ⟨q0, q1, q2, q3, q4⟩ := box5 (hup b B5.out.2.1)
        obtain ⟨r0, r1, r2, r3, r4⟩ := box5 (hup b B5.out.2.2)
        obtain ⟨s0, s1, s2, s3, s4⟩ := box5 (hup b H5.out)
        exact ⟨q0, q1, q2, q3, q4, r0, r1, r2, r3, r4, s0, s1, s2, s3, s4⟩⟩
      have SR := Aside.mk (Below.refl w5.heap.size w5)
      clear hz hPP
      go_upto_region 4 with (fail)
      rw [← HW5.out]
      cases z
      all_goals
        go_loud (go_region_held3 (fun w' => w'.cell? ⟨w.heap.size, 0, none⟩ = some (.int .u16 (Plan.frame P)) ∧ w'.cell? ⟨w.heap.size, 1, none⟩ = some (.slice a0 (Plan.cores P).length c0) ∧ w'.cell? ⟨w.heap.size, 2, none⟩ = some (.slice a1 (Plan.parts P).length c1) ∧ w'.cell? ⟨w.heap.size, 3, none⟩ = some (.slice a2 (Plan.chans P).length c2) ∧ w'.cell? ⟨w.heap.size, 4, none⟩ = some (.slice a3 (Plan.pairs P).length c3) ∧ w'.cell? ⟨w.heap.size + 1, 0, none⟩ = some (.int .u16 (Plan.frame Q)) ∧ w'.cell? ⟨w.heap.size + 1, 1, none⟩ = some (.slice b0 (Plan.cores Q).length d0) ∧ w'.cell? ⟨w.heap.size + 1, 2, none⟩ = some (.slice b1 (Plan.parts Q).length d1) ∧ w'.cell? ⟨w.heap.size + 1, 3, none⟩ = some (.slice b2 (Plan.chans Q).length d2) ∧ w'.cell? ⟨w.heap.size + 1, 4, none⟩ = some (.slice b3 (Plan.pairs Q).length d3) ∧ w'.cell? ⟨w4.heap.size, 0, none⟩ = some (.int .u16 (Plan.frame P)) ∧ w'.cell? ⟨w4.heap.size, 1, none⟩ = some (.slice e0 (Plan.cores P).length k0) ∧ w'.cell? ⟨w4.heap.size, 2, none⟩ = some (.slice e1 (Plan.parts P).length k1) ∧ w'.cell? ⟨w4.heap.size, 3, none⟩ = some (.slice e2 (Plan.chans P).length k2) ∧ w'.cell? ⟨w4.heap.size, 4, none⟩ = some (.slice e3 (Plan.pairs P).length k3)) (first | (with_reducible exact SW.out _ SR.out) | (with_reducible exact SW.out _ (bel_drew SR.out)) | (with_reducible exact SW.out _ hx) | (with_reducible exact SW.out _ (bel_drew hx)) | go_keep) (first
          | (with_reducible refine (KA.out _ SR.out).mono ?_; rintro e x1 ⟨rfl, hx⟩)
          | (with_reducible refine (KA.out _ (bel_drew SR.out)).mono ?_; rintro e x1 ⟨rfl, hx⟩)
          | (with_reducible refine (K1.out _ hx).mono ?_; rintro e x1 ⟨rfl, hx⟩)
          | (with_reducible refine (K1.out _ (bel_drew hx)).mono ?_; rintro e x1 ⟨rfl, hx⟩)
          | (with_reducible refine (K2.out _ hx).mono ?_; rintro e x2 ⟨rfl, hx⟩)
          | (with_reducible refine (K2.out _ (bel_drew hx)).mono ?_; rintro e x2 ⟨rfl, hx⟩)
          | (with_reducible refine (K3.out _ hx).mono ?_; rintro e x3 ⟨rfl, hx⟩)
          | (with_reducible refine (K3.out _ (bel_drew hx)).mono ?_; rintro e x3 ⟨rfl, hx⟩)
          | (with_reducible refine (K4.out _ hx).mono ?_; rintro e x4 ⟨rfl, hx⟩)
          | (with_reducible refine (K4.out _ (bel_drew hx)).mono ?_; rintro e x4 ⟨rfl, hx⟩)
          | (with_reducible refine (K5.out _ hx).mono ?_; rintro e x5 ⟨rfl, hx⟩)
          | (with_reducible refine (K5.out _ (bel_drew hx)).mono ?_; rintro e x5 ⟨rfl, hx⟩)))
        all_goals
          go_wp2_with fail
          go_ret
          exact ⟨rfl, bel_then B5.out.1 hx⟩
end Go.Proofs.YtbphlapdhcgikaaDoor
