/- The rules' reference: the check's loop over pairs: the outer loop. -/
import Derived.Test.YtpcjjmjmigibhaaDoorRulI2
namespace Go.Proofs.YtpcjjmjmigibhaaDoor
open Go.RowKit
set_option linter.unusedVariables false
set_option linter.unusedSimpArgs false

set_option maxRecDepth 100000 in
set_option maxHeartbeats 3200000 in
theorem ck8_body (c : Ck) (h0 : c.ex = []) (a : Act) (wr : World) (k : Nat) (hkl : k < (Plan.pairs c.P).length) (S : CkS c [(14, num_ k)] a wr) :
    (pathC [0, 1, 2, 2, 1, 0, 2] (ckTail 8)).wp Tryd.prog (CkE c (pairF ((Plan.parts c.P).length : Int) c.l (Plan.pairs c.P) k) [(14, num_ k)]) a wr := by
  obtain ⟨⟨u, rfl, h14, _⟩, S⟩ := S
  have hlen : (Plan.pairs c.P).length ≤ 9223372036854775807 := by
    obtain ⟨_, _, q, h⟩ := Elems.len S.plan.pairs
    exact h
  have hl := List.getElem?_eq_getElem hkl
  obtain ⟨p, hX⟩ : ∃ p, (Plan.pairs c.P)[k] = p := ⟨_, rfl⟩
  rw [hX] at hl
  obtain ⟨ad, had, e0, e1, ok⟩ := Pairs.at_ S.plan.pairs k p hl
  have hb := S.box
  have hcell : wr.cell? ⟨c.w.heap.size, 4, none⟩ = some (.slice c.v.a3 (Plan.pairs c.P).length c.v.c3) := by simp [World.cell?, hb]
  rw [had] at hcell
  obtain ⟨W1, HW⟩ : ∃ W1, W1 = wr.alloc (pairObj p) := ⟨_, rfl⟩
  have S1 : CkSt (c.pr wr.heap.size p) W1 := by
    rw [HW]
    refine (S.old (bel_one _ _)).with_ _ ?_
    intro q hq
    obtain rfl := List.mem_singleton.1 hq
    exact heap_alloc_new _ _
  have HF : pairF ((Plan.parts c.P).length : Int) c.l (Plan.pairs c.P) k = orElseF (if ((Plan.parts c.P).length : Int) ≤ PairR.a p ∨ ((Plan.parts c.P).length : Int) ≤ PairR.b p ∨ PairR.b p ≤ PairR.a p then some (48, (k : Int)) else none) (orElseF (scan (samePairF (Plan.pairs c.P) k) k) (scan (fun a => scan (clashF c.l p k a) c.l.length) c.l.length)) := by
    rw [pairF, prAt_some hl]
    by_cases h : ((Plan.parts c.P).length : Int) ≤ PairR.a p ∨ ((Plan.parts c.P).length : Int) ≤ PairR.b p ∨ PairR.b p ≤ PairR.a p
    · rw [if_pos h, if_pos h]; rfl
    · rw [if_neg h, if_neg h]; rfl
  rw [HF]
  refine wp_seq (x := pathC [0, 1, 2, 2, 1, 0, 2, 0] (ckTail 8)) (y := pathC [0, 1, 2, 2, 1, 0, 2, 1] (ckTail 8)) (wp_then (CkS (c.pr wr.heap.size p) [(14, num_ k), (15, ptr_ wr.heap.size)]) ?_ ?_)
  · have HS1 := Aside.mk S1
    have HHW := Aside.mk HW
    unfold pairObj at HHW
    unfold ckF
    rw [h14]
    clear h14 S1 HW S hb hl hX HF had
    conv => arg 2; whnf
    go_wp2_with fail
    rw [← HHW.out]
    exact ⟨CkFr.mk rfl rfl rfl rfl rfl rfl ⟨rfl, rfl, trivial⟩, HS1.out⟩
  · intro a1 w1 h1
    have H := ckE_seq (x := pathC [0, 1, 2, 2, 1, 0, 2, 1, 0] (ckTail 8)) (y := pathC [0, 1, 2, 2, 1, 0, 2, 1, 1] (ckTail 8)) (ck8_test c a1 w1 k wr.heap.size p ok h1 _ ⟨rfl⟩) (fun _ a2 w2 h2 =>
      ckE_seq (x := pathC [0, 1, 2, 2, 1, 0, 2, 1, 1, 0] (ckTail 8)) (y := pathC [0, 1, 2, 2, 1, 0, 2, 1, 1, 1] (ckTail 8)) (ck8_l1 c a2 w2 k wr.heap.size p ok hl hlen h2 _ ⟨rfl⟩) (fun _ a3 w3 h3 => ck8_l2 c a3 w3 k wr.heap.size p ok h3 _ ⟨rfl⟩))
    refine wp_mono H fun e a' w' q => ?_
    have q2 := CkE.drop h0 q
    rcases q2 with ⟨rfl, ho, ⟨u2, e2, g14, _⟩, hs⟩ | q2
    · exact .inl ⟨rfl, ho, ⟨u2, e2, g14, trivial⟩, hs⟩
    · exact .inr q2

set_option maxRecDepth 100000 in
set_option maxHeartbeats 3200000 in
theorem ck_8 (c : Ck) (h0 : c.ex = []) (a : Act) (wi : World) (S : CkS c [] a wi) : (pathC [0] (ckTail 8)).wp Tryd.prog (CkE c (scan (pairF ((Plan.parts c.P).length : Int) c.l (Plan.pairs c.P)) (Plan.pairs c.P).length) []) a wi := by
  obtain ⟨⟨u, rfl, _⟩, S⟩ := S
  unfold ckF
  conv => arg 2; whnf
  have hlen : (Plan.pairs c.P).length ≤ 9223372036854775807 := by
    obtain ⟨_, _, q, h⟩ := Elems.len S.plan.pairs
    exact h
  have HS := Aside.mk S
  have H0 := Aside.mk h0
  clear S h0
  go_wp2_with fail
  refine wp_loop_fuel (CkI c (fun k => [(14, num_ k)]) (Plan.pairs c.P).length (pairF ((Plan.parts c.P).length : Int) c.l (Plan.pairs c.P))) (Plan.pairs c.P).length (CkI.start (CkFr.mk rfl rfl rfl rfl rfl rfl ⟨rfl, trivial⟩) HS.out) ?_
  clear HS
  rintro m a wr ⟨k, hk, rfl, hF, ⟨u, rfl, h14, _⟩, S⟩
  unfold ckF
  rw [h14]
  have hb := S.box
  have hcell : wr.cell? ⟨c.w.heap.size, 4, none⟩ = some (.slice c.v.a3 (Plan.pairs c.P).length c.v.c3) := by simp [World.cell?, hb]
  clear hb h14
  have S0 := Aside.mk S
  have F0 := Aside.mk hF
  clear S hF
  by_cases hkl : k < (Plan.pairs c.P).length
  · go_upto_block 11 with fail
    refine wp_block (wp_mono (ck8_body c H0.out _ wr k hkl ⟨CkFr.mk rfl rfl rfl rfl rfl rfl ⟨rfl, trivial⟩, S0.out⟩) fun e a' w' q => ?_)
    rcases CkE.of (nm' := []) q (fun r hr => scan_some F0.out hr hkl) with ⟨rfl, q2⟩ | ⟨rfl, hf, ⟨u', rfl, h14, _⟩, S⟩
    · exact q2
    · unfold ckF
      rw [h14]
      have Hf := Aside.mk hf
      have S1 := Aside.mk S
      clear hf S q h14
      go_wp2_with fail
      exact CkI.lower hkl F0.out Hf.out (CkFr.mk rfl rfl rfl rfl rfl rfl ⟨rfl, trivial⟩) S1.out
  · obtain rfl : k = (Plan.pairs c.P).length := by omega
    go_wp2_with fail
    exact CkE.go F0.out (CkFr.mk rfl rfl rfl rfl rfl rfl trivial) S0.out
end Go.Proofs.YtpcjjmjmigibhaaDoor
