/- The rules' reference: the check's loop over partitions. -/
import Derived.Test.YtpcjjmjmigibhaaDoorRulC
namespace Go.Proofs.YtpcjjmjmigibhaaDoor
open Go.RowKit
set_option linter.unusedVariables false
set_option linter.unusedSimpArgs false

set_option maxRecDepth 100000 in
set_option maxHeartbeats 3200000 in
theorem ck_10 (c : Ck) (a : Act) (wi : World) (S : CkS c [] a wi) : (pathC [0] (ckTail 10)).wp Tryd.prog (CkE c (scan (partF (Plan.parts c.P)) (Plan.parts c.P).length) []) a wi := by
  obtain ⟨⟨u, rfl, _⟩, S⟩ := S
  unfold ckF
  conv => arg 2; whnf
  have hlen : (Plan.parts c.P).length ≤ 9223372036854775807 := by
    obtain ⟨_, _, q, h⟩ := Elems.len S.plan.parts
    exact h
  have HS := Aside.mk S
  clear S
  go_wp2_with fail
  refine wp_loop_fuel (CkI c (fun k => [(23, num_ k)]) (Plan.parts c.P).length (partF (Plan.parts c.P))) (Plan.parts c.P).length (CkI.start (CkFr.mk rfl rfl rfl rfl rfl rfl ⟨rfl, trivial⟩) HS.out) ?_
  clear HS
  rintro m a wr ⟨k, hk, rfl, hF, ⟨u, rfl, h23, _⟩, S⟩
  unfold ckF
  rw [h23]
  have hb := S.box
  have hcell : wr.cell? ⟨c.w.heap.size, 2, none⟩ = some (.slice c.v.a1 (Plan.parts c.P).length c.v.c1) := by simp [World.cell?, hb]
  clear hb h23
  by_cases hkl : k < (Plan.parts c.P).length
  · have hl := List.getElem?_eq_getElem hkl
    obtain ⟨X, hX⟩ : ∃ X, (Plan.parts c.P)[k] = X := ⟨_, rfl⟩
    rw [hX] at hl
    obtain ⟨ad, sv, pv, had, e0, e1, e2, e3, e4, e5, hat⟩ := Parts.at_ S.plan.parts k X hl
    rw [had] at hcell
    have KO := Aside.mk (object_any wr sv pv X hat)
    have HF : Aside (partF (Plan.parts c.P) k = if objectS X = true then none else some (51, (k : Int))) := ⟨by unfold partF; rw [ptAt_some hl]⟩
    obtain ⟨b, hb⟩ : ∃ b, objectS X = b := ⟨_, rfl⟩
    rw [hb] at KO HF
    have S0 := Aside.mk S
    have F0 := Aside.mk hF
    clear hl hX hat had S hF
    go_wp2_with fail
    refine KO.out.mono ?_
    rintro e w' ⟨rfl, b1⟩
    have S1 := Aside.mk (S0.out.old b1)
    clear b1 hcell e0 e1 e2 e3 e4 e5
    cases b
    · go_wp2_with fail
      exact CkE.stop (r := (51, (k : Int))) (scan_some F0.out HF.out hkl) rfl rfl rfl S1.out.below
    · go_wp2_with fail
      exact CkI.lower hkl F0.out HF.out (CkFr.mk rfl rfl rfl rfl rfl rfl ⟨rfl, trivial⟩) S1.out
  · obtain rfl : k = (Plan.parts c.P).length := by omega
    have S0 := Aside.mk S
    have F0 := Aside.mk hF
    clear S hF
    go_wp2_with fail
    exact CkE.go F0.out (CkFr.mk rfl rfl rfl rfl rfl rfl trivial) S0.out
end Go.Proofs.YtpcjjmjmigibhaaDoor
