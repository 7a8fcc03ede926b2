/- Layer 4's laws: RulesChecks. -/
import Derived.Test.YtpcjjmjmigibhaaDoorLwB
import Derived.Test.YtpcjjmjmigibhaaDoorRulL
namespace Go.Proofs.YtpcjjmjmigibhaaDoor
open Go.RowKit
set_option linter.unusedVariables false
set_option linter.unusedSimpArgs false

theorem q_of (P : Plan) : numQ (checkO P) = (checkS P).1 ∧ atQ (checkO P) = (checkS P).2 := by
  rw [check_of]
  rcases checkO P with _ | ⟨n, a⟩ <;> exact ⟨rfl, rfl⟩
set_option maxHeartbeats 3200000 in
set_option maxRecDepth 100000 in
theorem rchecks_any (w : World) (v : Value) (P : Plan) (hg : ETy w) (hv : PlanV w v P) : Calls Tryd.prog 3 #[v] w fun e w' => e = .returned (.bool true) ∧ Below w.heap.size w w' := by
  obtain ⟨a0, c0, a1, c1, a2, c2, a3, c3, rfl, hp⟩ := planV_lens hv
  have HG := Aside.mk hg
  have HV := Aside.mk hv
  obtain ⟨W1, HW⟩ : ∃ W1, Aside (W1 = w.alloc (.cells #[.int .u16 (Plan.frame P), .slice a0 (Plan.cores P).length c0, .slice a1 (Plan.parts P).length c1, .slice a2 (Plan.chans P).length c2, .slice a3 (Plan.pairs P).length c3] 28)) := ⟨_, ⟨rfl⟩⟩
  have hb1 : Aside (Below w.heap.size w W1 ∧ W1.heap[w.heap.size]? = some (.cells #[.int .u16 (Plan.frame P), .slice a0 (Plan.cores P).length c0, .slice a1 (Plan.parts P).length c1, .slice a2 (Plan.chans P).length c2, .slice a3 (Plan.pairs P).length c3] 28 (0, 0))) := ⟨by rw [HW.out]; exact ⟨lone _ _, heap_alloc_new _ _⟩⟩
  have KF := Aside.mk (fun W (h : Below w.heap.size w W) => few_any W _ P (HV.out.below h))
  have KP := Aside.mk (fun W (h : Below w.heap.size w W) => pcheck_any W _ P (HV.out.below h))
  have KR := Aside.mk (fun W (h : Below w.heap.size w W) => check_any W _ P (HV.out.below h))
  obtain ⟨q1, q2⟩ := q_of P
  have KW : Aside (∀ W r, ErrF W (checkO P) r → Below w.heap.size w W → Calls Tryd.prog 11 #[r] W (WhyP W (checkS P).1 (checkS P).2)) := ⟨fun W r hr h => by rw [← q1, ← q2]; exact why_any W _ r hr (HG.out.below h)⟩
  generalize checkO P = co at *
  generalize (checkS P).1 = n at *
  generalize (checkS P).2 = a at *
  generalize Plan.frame P = fr at *
  obtain ⟨p0, p1, p2, p3, p4⟩ := lbox5 hb1.out.2
  clear hp hg hv q1 q2
  go_enter Tryd.func3, Tryd.ntmps3
  go_upto_region 1 with (fail)
  rw [← HW.out]
  go_wp2_with fail
  refine (KF.out _ hb1.out.1).mono ?_
  rintro e w2 ⟨b, rfl, b2⟩
  have B2 := Aside.mk (lthen hb1.out.1 b2)
  have X2 := Aside.mk (lup b2 hb1.out.2)
  clear b2 p0 p1 p2 p3 p4
  obtain ⟨p0, p1, p2, p3, p4⟩ := lbox5 X2.out
  cases b
  · go_wp2_with fail
    refine (awake_any _ (HG.out.below B2.out)).mono ?_
    rintro e w3 ⟨rfl, b3⟩
    have B3 := Aside.mk (lthen B2.out b3)
    clear b3 p0 p1 p2 p3 p4
    go_wp2_with fail
    go_ret
    exact ⟨rfl, B3.out⟩
  · go_wp2_with fail
    refine (KP.out _ B2.out).mono ?_
    rintro e w3 ⟨r, rfl, hr, b3⟩
    have B3 := Aside.mk (lthen B2.out b3)
    have X3 := Aside.mk (lup b3 X2.out)
    have K4 := Aside.mk (KW.out _ r hr B3.out)
    clear hr b3 p0 p1 p2 p3 p4
    go_wp2_with fail
    refine K4.out.mono ?_
    rintro e w4 ⟨rfl, b4⟩
    have B4 := Aside.mk (lthen B3.out b4)
    have X4 := Aside.mk (lup b4 X3.out)
    clear b4
    obtain ⟨p0, p1, p2, p3, p4⟩ := lbox5 X4.out
    go_wp2_with fail
    refine (KR.out _ B4.out).mono ?_
    rintro e w5 ⟨rfl, b5⟩
    have B5 := Aside.mk (lthen B4.out b5)
    clear b5 p0 p1 p2 p3 p4
    go_wp2_with fail
    refine (awake_any _ (HG.out.below B5.out)).mono ?_
    rintro e w6 ⟨rfl, b6⟩
    have B6 := Aside.mk (lthen B5.out b6)
    clear b6
    go_wp2_with fail
    go_ret
    exact ⟨rfl, B6.out⟩
end Go.Proofs.YtpcjjmjmigibhaaDoor
