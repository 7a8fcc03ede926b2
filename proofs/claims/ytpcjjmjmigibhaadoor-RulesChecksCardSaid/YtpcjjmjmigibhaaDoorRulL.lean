/- The rules' reference: the check, whole. -/
import Derived.Test.YtpcjjmjmigibhaaDoorRulK
namespace Go.Proofs.YtpcjjmjmigibhaaDoor
open Go.RowKit
set_option linter.unusedVariables false
set_option linter.unusedSimpArgs false

/-- The loop over the numbers of windows. -/
def CkM (w W1 : World) (C : List (List Win)) (m : Nat) (a : Act) (wr : World) : Prop :=
  ∃ k, k ≤ C.length ∧ m = C.length - k ∧ scan (manyF C) k = none ∧ (∃ u : Nat → Value, a = ckF u w.heap.size (u 5) ∧ u 4 = num_ k) ∧ W1 = wr

set_option maxRecDepth 100000 in
set_option maxHeartbeats 3200000 in
theorem ck_4 (w W1 : World) (P : Plan) (v : CkV) (hB : Below w.heap.size w W1)
    (box : W1.heap[w.heap.size]? = some (.cells #[.int .u16 (Plan.frame P), .slice v.a0 (Plan.cores P).length v.c0, .slice v.a1 (Plan.parts P).length v.c1, .slice v.a2 (Plan.chans P).length v.c2, .slice v.a3 (Plan.pairs P).length v.c3] 28 (0, 0)))
    (plan : PlanAt W1 (.slice v.a0 (Plan.cores P).length v.c0) (.slice v.a1 (Plan.parts P).length v.c1) (.slice v.a2 (Plan.chans P).length v.c2) (.slice v.a3 (Plan.pairs P).length v.c3) P)
    (hC : (Plan.cores P).length ≤ 8) (hnp : (Plan.parts P).length ≤ 64) (r : Flt) (hr : r = (restF P).getD (0, 0))
    (a : Act) (wr : World) (S : CkB w W1 a wr) : (ckTail 4).wp Tryd.prog (bodyPost Tryd.prog Tryd.f13 (CkPost w r)) a wr := by
  obtain ⟨⟨u, rfl⟩, rfl⟩ := S
  rw [restF] at hr
  refine wp_seq (x := pathC [0] (ckTail 4)) (y := ckTail 5) ?_
  have main : (pathC [0] (ckTail 4)).wp Tryd.prog (fun e a' w' => (e = .normal ∧ CkB w W1 a' w' ∧ scan (manyF (Plan.cores P)) (Plan.cores P).length = none) ∨ (e = .ret ∧ ∃ f, scan (manyF (Plan.cores P)) (Plan.cores P).length = some f ∧ CkRet f a' ∧ W1 = w')) (ckF u w.heap.size (u 5)) W1 := by
    obtain ⟨Q, hQ⟩ : ∃ Q : Exit → Act → World → Prop, Q = fun e a' w' => (e = .normal ∧ CkB w W1 a' w' ∧ scan (manyF (Plan.cores P)) (Plan.cores P).length = none) ∨ (e = .ret ∧ ∃ f, scan (manyF (Plan.cores P)) (Plan.cores P).length = some f ∧ CkRet f a' ∧ W1 = w') := ⟨_, rfl⟩
    rw [← hQ]
    have HQ := Aside.mk hQ
    have HC := Aside.mk plan.cores
    have hcell : W1.cell? ⟨w.heap.size, 1, none⟩ = some (.slice v.a0 (Plan.cores P).length v.c0) := by simp [World.cell?, box]
    have hlen : (Plan.cores P).length ≤ 9223372036854775807 := by omega
    clear hQ hr box plan hB
    generalize Plan.cores P = C at *
    unfold ckF
    conv => arg 2; whnf
    go_wp2_with fail
    refine wp_loop_fuel (CkM w W1 C) C.length ?_ ?_
    · exact ⟨0, by omega, rfl, rfl, ⟨_, ckF_mk rfl rfl rfl rfl rfl rfl, rfl⟩, rfl⟩
    rintro m a wr ⟨k, hk, rfl, hF, ⟨u, rfl, h4⟩, rfl⟩
    have F0 := Aside.mk hF
    unfold ckF
    rw [h4]
    clear hF h4
    by_cases hkl : k < C.length
    · have hl := List.getElem?_eq_getElem hkl
      obtain ⟨L, hL⟩ : ∃ L, C[k] = L := ⟨_, rfl⟩
      rw [hL] at hl
      obtain ⟨ad, lv, had, hlv, hwins⟩ := HC.out.at_ k L hl
      obtain ⟨la, lc, rfl, hlL⟩ := hwins.len
      have HF : Aside (manyF C k = if 256 < L.length then some (43, (k : Int)) else none) := ⟨by
        rw [manyF, List.getD_eq_getElem?_getD, hl]; rfl⟩
      rw [had] at hcell
      clear hL hl hwins had
      by_cases h256 : 256 < L.length
      · have h256' : (256 : Int) < (L.length : Int) := by omega
        go_wp2_with fail
        rw [HQ.out]
        exact .inr ⟨rfl, (43, (k : Int)), scan_some F0.out (by rw [HF.out, if_pos h256]) hkl, ⟨rfl, rfl, rfl⟩, rfl⟩
      · go_wp2_with fail
        exact ⟨C.length - (k + 1), by omega, k + 1, by omega, rfl, by rw [scan_succ F0.out, HF.out, if_neg h256], ⟨_, ckF_mk rfl rfl rfl rfl rfl rfl, rfl⟩, rfl⟩
    · obtain rfl : k = C.length := by omega
      go_wp2_with fail
      rw [HQ.out]
      exact .inl ⟨rfl, CkB.mk rfl rfl rfl rfl rfl, F0.out⟩
  refine wp_mono main fun e a' w' q => ?_
  rcases q with ⟨rfl, q, hm⟩ | ⟨rfl, f, hf, ⟨g0, g2, g3⟩, rfl⟩
  · rw [orElse_none hm] at hr
    exact ck_5 w W1 P v hB box plan hC hnp (many_none hm) r hr a' w' q
  · rw [orElse_some hf] at hr
    subst hr
    refine ⟨g0, _, ?_, rfl, hB⟩
    simp [results, Tryd.results13, go_sem]
    exact ⟨by simpa using g2, by simpa using g3⟩

set_option maxHeartbeats 3200000 in
set_option maxRecDepth 100000 in
theorem check_any (w : World) (v : Value) (P : Plan) (hv : PlanV w v P) :
    Calls Tryd.prog 13 #[v] w fun e w' => e = .returned (.tuple #[.int .i64 (checkS P).1, .int .i64 (checkS P).2]) ∧ Below w.heap.size w w' := by
  obtain ⟨a0, n0, c0, a1, n1, c1, a2, n2, c2, a3, n3, c3, rfl, hp⟩ := hv
  obtain ⟨_, _, q, hlen⟩ := hp.cores.len
  obtain ⟨rfl, rfl, rfl⟩ : a0 = _ ∧ n0 = _ ∧ c0 = _ := by injection q with q1 q2 q3; exact ⟨q1, q2, q3⟩
  clear q
  obtain ⟨_, _, q, hlen1⟩ := Elems.len hp.parts
  obtain ⟨rfl, rfl, rfl⟩ : a1 = _ ∧ n1 = _ ∧ c1 = _ := by injection q with q1 q2 q3; exact ⟨q1, q2, q3⟩
  clear q
  obtain ⟨_, _, q, hlen2⟩ := Elems.len hp.chans
  obtain ⟨rfl, rfl, rfl⟩ : a2 = _ ∧ n2 = _ ∧ c2 = _ := by injection q with q1 q2 q3; exact ⟨q1, q2, q3⟩
  clear q
  obtain ⟨_, _, q, hlen3⟩ := Elems.len hp.pairs
  obtain ⟨rfl, rfl, rfl⟩ : a3 = _ ∧ n3 = _ ∧ c3 = _ := by injection q with q1 q2 q3; exact ⟨q1, q2, q3⟩
  clear q
  have HP := Aside.mk hp
  obtain ⟨f0, f1⟩ := hp.frame
  clear hp
  have HE : Aside (checkS P = if Plan.frame P = 0 then (40, 0)
    else if (Plan.cores P).length < 1 ∨ 8 < (Plan.cores P).length then (41, ((Plan.cores P).length : Int))
    else if (Plan.parts P).length < 1 ∨ 64 < (Plan.parts P).length then (42, ((Plan.parts P).length : Int))
    else (restF P).getD (0, 0)) := ⟨rfl⟩
  by_cases h1 : Plan.frame P = 0
  · have hs : checkS P = (40, 0) := by rw [HE.out, if_pos h1]
    rw [hs]
    clear hs HE HP
    generalize Plan.frame P = fr at *
    subst h1
    go_enter Tryd.func13, Tryd.ntmps13
    go_wp2_with fail
    go_ret2
    exact ⟨rfl, bel_one _ _⟩
  have hf : 0 < Plan.frame P := by omega
  have h1' : (Plan.frame P == 0) = false := by simp [h1]
  by_cases h2 : (Plan.cores P).length < 1 ∨ 8 < (Plan.cores P).length
  · have hs : checkS P = (41, ((Plan.cores P).length : Int)) := by rw [HE.out, if_neg h1, if_pos h2]
    rw [hs]
    clear hs HE HP
    rcases h2 with h2 | h2
    all_goals
      go_enter Tryd.func13, Tryd.ntmps13
      go_wp2_with fail
      go_quiet (fail)
      go_wp2_with fail
      go_ret2
      exact ⟨rfl, bel_drewN (bel_one _ _) _⟩
  by_cases h3 : (Plan.parts P).length < 1 ∨ 64 < (Plan.parts P).length
  · have hs : checkS P = (42, ((Plan.parts P).length : Int)) := by rw [HE.out, if_neg h1, if_neg h2, if_pos h3]
    rw [hs]
    clear hs HE HP
    have h4 : 1 ≤ (Plan.cores P).length := by omega
    have h5 : (Plan.cores P).length ≤ 8 := by omega
    clear h2
    rcases h3 with h3 | h3
    all_goals
      go_enter Tryd.func13, Tryd.ntmps13
      go_wp2_with fail
      go_quiet (fail)
      go_wp2_with fail
      go_ret2
      exact ⟨rfl, bel_drewN (bel_one _ _) _⟩
  have hs : checkS P = (restF P).getD (0, 0) := by rw [HE.out, if_neg h1, if_neg h2, if_neg h3]
  have HR := Aside.mk hs
  have h4 : 1 ≤ (Plan.cores P).length := by omega
  have h5 : (Plan.cores P).length ≤ 8 := by omega
  have h6 : 1 ≤ (Plan.parts P).length := by omega
  have h7 : (Plan.parts P).length ≤ 64 := by omega
  clear hs HE h2 h3
  obtain ⟨W1, HW⟩ : ∃ W1, Aside (W1 = w.alloc (.cells #[.int .u16 (Plan.frame P), .slice a0 (Plan.cores P).length c0, .slice a1 (Plan.parts P).length c1, .slice a2 (Plan.chans P).length c2, .slice a3 (Plan.pairs P).length c3] 28)) := ⟨_, ⟨rfl⟩⟩
  have hB : Aside (Below w.heap.size w W1) := ⟨by rw [HW.out]; exact bel_one _ _⟩
  have hbox : Aside (W1.heap[w.heap.size]? = some (.cells #[.int .u16 (Plan.frame P), .slice a0 (Plan.cores P).length c0, .slice a1 (Plan.parts P).length c1, .slice a2 (Plan.chans P).length c2, .slice a3 (Plan.pairs P).length c3] 28 (0, 0))) := ⟨by rw [HW.out]; exact heap_alloc_new _ _⟩
  have g0 : W1.cell? ⟨w.heap.size, 0, none⟩ = some (.int .u16 (Plan.frame P)) := by have := hbox.out; simp [World.cell?, this]
  have g1 : W1.cell? ⟨w.heap.size, 1, none⟩ = some (.slice a0 (Plan.cores P).length c0) := by have := hbox.out; simp [World.cell?, this]
  have g2 : W1.cell? ⟨w.heap.size, 2, none⟩ = some (.slice a1 (Plan.parts P).length c1) := by have := hbox.out; simp [World.cell?, this]
  go_enter Tryd.func13, Tryd.ntmps13
  refine wp_seq (x := pathC [0] (ckTail 0)) (y := ckTail 1) (wp_then (CkB w W1) ?_ ?_)
  · conv => arg 2; whnf
    go_wp2_with fail
    rw [← HW.out]
    exact CkB.mk rfl rfl rfl rfl rfl
  rintro a' w' ⟨⟨u, rfl⟩, rfl⟩
  refine wp_seq (x := pathC [0] (ckTail 1)) (y := ckTail 2) (wp_then (CkB w W1) ?_ ?_)
  · unfold ckF
    conv => arg 2; whnf
    go_wp2_with fail
    exact CkB.mk rfl rfl rfl rfl rfl
  rintro a' w' ⟨⟨u, rfl⟩, rfl⟩
  refine wp_seq (x := pathC [0] (ckTail 2)) (y := ckTail 3) (wp_then (CkB w W1) ?_ ?_)
  · unfold ckF
    conv => arg 2; whnf
    go_wp2_with fail
    exact CkB.mk rfl rfl rfl rfl rfl
  rintro a' w' ⟨⟨u, rfl⟩, rfl⟩
  refine wp_seq (x := pathC [0] (ckTail 3)) (y := ckTail 4) (wp_then (CkB w W1) ?_ ?_)
  · unfold ckF
    conv => arg 2; whnf
    go_wp2_with fail
    exact CkB.mk rfl rfl rfl rfl rfl
  intro a' w' S
  exact ck_4 w W1 P ⟨a0, c0, a1, c1, a2, c2, a3, c3⟩ hB.out hbox.out (HP.out.below hB.out) h5 h7 (checkS P) HR.out a' w' S
end Go.Proofs.YtpcjjmjmigibhaaDoor
