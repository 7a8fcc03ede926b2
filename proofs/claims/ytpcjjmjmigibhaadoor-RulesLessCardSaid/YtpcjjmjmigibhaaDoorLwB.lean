/- Layer 4's laws: awake. -/
import Derived.Test.YtpcjjmjmigibhaaDoorLwA
namespace Go.Proofs.YtpcjjmjmigibhaaDoor
open Go.RowKit
set_option linter.unusedVariables false
set_option linter.unusedSimpArgs false

theorem planV_lens {w : World} {v : Value} {P : Plan} (h : PlanV w v P) : ∃ a0 c0 a1 c1 a2 c2 a3 c3, v = .agg #[.int .u16 (Plan.frame P), .slice a0 (Plan.cores P).length c0, .slice a1 (Plan.parts P).length c1, .slice a2 (Plan.chans P).length c2, .slice a3 (Plan.pairs P).length c3] ∧
    PlanAt w (.slice a0 (Plan.cores P).length c0) (.slice a1 (Plan.parts P).length c1) (.slice a2 (Plan.chans P).length c2) (.slice a3 (Plan.pairs P).length c3) P := by
  obtain ⟨a0, n0, c0, a1, n1, c1, a2, n2, c2, a3, n3, c3, rfl, hp⟩ := h
  obtain ⟨_, _, q, hlen⟩ := hp.cores.len
  obtain ⟨rfl, rfl, rfl⟩ : a0 = _ ∧ n0 = _ ∧ c0 = _ := by injection q with q1 q2 q3; exact ⟨q1, q2, q3⟩
  clear q
  obtain ⟨_, _, q, hlen1⟩ := Elems.len hp.parts
  obtain ⟨rfl, rfl, rfl⟩ : a1 = _ ∧ n1 = _ ∧ c1 = _ := by injection q with q1 q2 q3; exact ⟨q1, q2, q3⟩
  clear q
  obtain ⟨_, _, q, hlen2⟩ := Elems.len hp.chans
  obtain ⟨rfl, rfl, rfl⟩ : a2 = _ ∧ n2 = _ ∧ c2 = _ := by injection q with q1 q2 q3; exact ⟨q1, q2, q3⟩
  clear q
  obtain ⟨_, _, q, hlen3⟩ := Elems.len hp.pairs
  obtain ⟨rfl, rfl, rfl⟩ : a3 = _ ∧ n3 = _ ∧ c3 = _ := by injection q with q1 q2 q3; exact ⟨q1, q2, q3⟩
  exact ⟨_, _, _, _, _, _, _, _, rfl, hp⟩
def exE : Plan := (10, [[(8, 3, 0, 0, ())]], [exPart], [], [], ())
theorem ex0_check : checkO (exQ (exX 0) (exY 0)) = some (47, 0) := by kernel_rfl
theorem ex1_check : checkO (exQ (exX 1) (exY 1)) = none := by kernel_rfl
theorem exE_check : checkO exE = some (44, 0) := by kernel_rfl
set_option maxHeartbeats 3200000 in
set_option maxRecDepth 100000 in
theorem awake_any (w : World) (hg : ETy w) : Calls Tryd.prog 10 #[] w fun e w' => e = .returned (.bool true) ∧ Below w.heap.size w w' := by
  have HG := Aside.mk hg
  clear hg
  go_enter Tryd.func10, Tryd.ntmps10
  go_wp2_with fail
  refine (example_any w 0 (.inl rfl)).mono ?_
  rintro e w1 ⟨v, rfl, hp, b1⟩
  obtain ⟨a0, c0, a1, c1, a2, c2, a3, c3, rfl, hpa⟩ : ∃ a0 c0 a1 c1 a2 c2 a3 c3, v = .agg #[.int .u16 10, .slice a0 2 c0, .slice a1 1 c1, .slice a2 0 c2, .slice a3 0 c3] ∧ PlanAt w1 (.slice a0 2 c0) (.slice a1 1 c1) (.slice a2 0 c2) (.slice a3 0 c3) (exQ (exX 0) (exY 0)) := planV_lens hp
  obtain ⟨W1, HW⟩ : ∃ W1, Aside (W1 = w1.alloc (.cells #[.int .u16 10, .slice a0 2 c0, .slice a1 1 c1, .slice a2 0 c2, .slice a3 0 c3] 28)) := ⟨_, ⟨rfl⟩⟩
  have B1 : Aside (Below w1.heap.size w1 W1) := ⟨by rw [HW.out]; exact lone _ _⟩
  have HB : Aside (W1.heap[w1.heap.size]? = some (.cells #[.int .u16 10, .slice a0 2 c0, .slice a1 1 c1, .slice a2 0 c2, .slice a3 0 c3] 28 (0, 0))) := ⟨by rw [HW.out]; exact heap_alloc_new _ _⟩
  have KC := Aside.mk (pcheck_any W1 _ _ (hp.below B1.out))
  rw [ex0_check] at KC
  have HPA := Aside.mk hpa
  have BW := Aside.mk b1
  obtain ⟨p0, p1, p2, p3, p4⟩ := lbox5 HB.out
  clear hp hpa b1
  go_upto_region 2 with (fail)
  rw [← HW.out]
  go_wp2_with fail
  refine KC.out.mono ?_
  rintro e w2 ⟨r, rfl, hr, b2⟩
  have KW : Aside (Calls Tryd.prog 11 #[r] w2 (WhyP w2 47 0)) := ⟨why_any w2 _ r hr (HG.out.below (lthen (lthen BW.out B1.out) b2))⟩
  have B2 := Aside.mk (lthen B1.out b2)
  have HB2 := Aside.mk (lup b2 HB.out)
  clear hr b2 KC p0 p1 p2 p3 p4
  go_wp2_with fail
  refine KW.out.mono ?_
  rintro e w3 ⟨rfl, b3⟩
  have B3 := Aside.mk (lthen B2.out b3)
  have HB3 := Aside.mk (lup b3 HB2.out)
  obtain ⟨p0, p1, p2, p3, p4⟩ := lbox5 HB3.out
  have L3 := lt_of_block HB3.out
  have fz : w3.frozen? ⟨w1.heap.size, 1, none⟩ = false := by simp [World.frozen?, HB3.out]
  clear b3 KW
  obtain ⟨W4, HW4⟩ : ∃ W4, Aside (W4 = ((w3.setCell ⟨w1.heap.size, 1, none⟩ (.slice (some ⟨w3.heap.size + 1, 0, none⟩) 1 1)).alloc (.cells #[.int .u16 8, .int .u16 3, .int .u8 0, .int .u8 0] 39)).alloc (.cells #[.slice (some ⟨w3.heap.size, 0, none⟩) 1 1] 43)) := ⟨_, ⟨rfl⟩⟩
  have B4 : Aside (Below w1.heap.size w1 W4) := ⟨by rw [HW4.out]; exact lthen (lthen (B3.out.setCell (p := ⟨w1.heap.size, 1, none⟩) (Nat.le_refl _) _) (lone _ _)) (lone _ _)⟩
  have HB4 : Aside (W4.heap[w1.heap.size]? = some (.cells #[.int .u16 10, .slice (some ⟨w3.heap.size + 1, 0, none⟩) 1 1, .slice a1 1 c1, .slice a2 0 c2, .slice a3 0 c3] 28 (0, 0))) := ⟨by
    rw [HW4.out]
    have := heap_setCell_at (off := 1) HB3.out (.slice (some ⟨w3.heap.size + 1, 0, none⟩) 1 1)
    exact lheap_up (lheap_up (by simpa using this))⟩
  have HP4 : Aside (PlanV W4 (.agg #[.int .u16 10, .slice (some ⟨w3.heap.size + 1, 0, none⟩) 1 1, .slice a1 1 c1, .slice a2 0 c2, .slice a3 0 c3]) exE) := ⟨by
    have hx : W4.heap[w3.heap.size]? = some (winOb (8, 3, 0, 0, ())) := by
      rw [HW4.out]
      exact lheap_up (lheap_top _ _ _ (by simp))
    have hc : W4.heap[w3.heap.size + 1]? = some (.cells #[.slice (some ⟨w3.heap.size, 0, none⟩) 1 1] 43 (0, 0)) := by
      rw [HW4.out]
      exact lheap_top _ _ _ (by simp)
    have h0 := HPA.out.below B4.out
    exact ⟨_, _, _, _, _, _, _, _, _, _, _, _, rfl, ⟨by show (0 : Int) ≤ 10 ∧ (10 : Int) ≤ 65535; decide, cores_one _ _ hc (wins_one _ ⟨by decide, by decide, by decide, by decide⟩ hx), h0.parts, h0.chans, h0.pairs⟩⟩⟩
  have KC := Aside.mk (pcheck_any W4 _ _ HP4.out)
  rw [exE_check] at KC
  go_upto_region 4 with (fail)
  rw [← HW4.out]
  clear p0 p1 p2 p3 p4
  obtain ⟨p0, p1, p2, p3, p4⟩ := lbox5 HB4.out
  go_wp2_with fail
  refine KC.out.mono ?_
  rintro e w5 ⟨r, rfl, hr, b5⟩
  have KW : Aside (Calls Tryd.prog 11 #[r] w5 (WhyP w5 44 0)) := ⟨why_any w5 _ r hr (HG.out.below (lthen (lthen BW.out B4.out) b5))⟩
  have B5 := Aside.mk (lthen (lthen BW.out B4.out) b5)
  clear hr b5 KC p0 p1 p2 p3 p4
  go_wp2_with fail
  refine KW.out.mono ?_
  rintro e w6 ⟨rfl, b6⟩
  have B6 := Aside.mk (lthen B5.out b6)
  clear b6 KW
  go_wp2_with fail
  refine (example_any w6 1 (.inr rfl)).mono ?_
  rintro e w7 ⟨v, rfl, hp, b7⟩
  have KC := Aside.mk (pcheck_any w7 v _ hp)
  rw [ex1_check] at KC
  obtain ⟨a4, c4, a5, c5, a6, c6, a7, c7, rfl, hpa⟩ : ∃ a0 c0 a1 c1 a2 c2 a3 c3, v = .agg #[.int .u16 10, .slice a0 2 c0, .slice a1 1 c1, .slice a2 0 c2, .slice a3 0 c3] ∧ PlanAt w7 (.slice a0 2 c0) (.slice a1 1 c1) (.slice a2 0 c2) (.slice a3 0 c3) (exQ (exX 1) (exY 1)) := planV_lens hp
  have B7 := Aside.mk (lthen B6.out b7)
  clear hp hpa b7
  go_wp2_with fail
  refine KC.out.mono ?_
  rintro e w8 ⟨r, rfl, hr, b8⟩
  obtain rfl : r = .nilIface := hr
  have B8 := Aside.mk (lthen B7.out b8)
  clear b8 KC
  go_wp2_with fail
  refine (poverlap_any (0, 4, 0, 0, ()) (3, 1, 0, 0, ()) ⟨by decide, by decide, by decide, by decide⟩ ⟨by decide, by decide, by decide, by decide⟩ w8).mono ?_
  rintro e w9 ⟨rfl, b9⟩
  have B9 := Aside.mk (lthen B8.out b9)
  clear b9
  rw [show overlapS (0, 4, 0, 0, ()) (3, 1, 0, 0, ()) = true from by decide]
  go_wp2_with fail
  refine (ptogether_any (0, 4, 0, 0, ()) (0, 4, 0, 0, ()) ⟨by decide, by decide, by decide, by decide⟩ ⟨by decide, by decide, by decide, by decide⟩ w9).mono ?_
  rintro e w10 ⟨rfl, b10⟩
  have B10 := Aside.mk (lthen B9.out b10)
  clear b10
  rw [show togetherS (0, 4, 0, 0, ()) (0, 4, 0, 0, ()) = false from by decide]
  go_wp2_with fail
  go_ret
  exact ⟨rfl, B10.out⟩
end Go.Proofs.YtpcjjmjmigibhaaDoor
