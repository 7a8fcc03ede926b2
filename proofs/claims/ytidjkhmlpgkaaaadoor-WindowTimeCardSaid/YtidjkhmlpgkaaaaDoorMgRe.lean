/- The rules' reference: the check's loop over partitions. The rules' reference: the check's loop over channels. -/
import Derived.Test.YtidjkhmlpgkaaaaDoorMgRb
namespace Go.Proofs.YtidjkhmlpgkaaaaDoor
open Go.RowKit
set_option linter.unusedVariables false
set_option linter.unusedSimpArgs false

set_option maxRecDepth 100000 in
set_option maxHeartbeats 3200000 in
theorem ck_10 (c : Ck) (a : Act) (wi : World) (S : CkS c [] a wi) : (pathC [0] (ckTail 10)).wp Tryd.prog (CkE c (scan (partF (Plan.parts c.P)) (Plan.parts c.P).length) []) a wi := by
  obtain ⟨⟨u, rfl, _⟩, S⟩ := S
  unfold ckF
  conv => arg 2; whnf
  have hlen : (Plan.parts c.P).length ≤ 9223372036854775807 := by
    obtain ⟨_, _, q, h⟩ := Elems.len S.plan.parts
    exact h
  have HS := Aside.mk S
  clear S
  go_wp2_with fail
  refine wp_loop_fuel (CkI c (fun k => [(23, num_ k)]) (Plan.parts c.P).length (partF (Plan.parts c.P))) (Plan.parts c.P).length (CkI.start (CkFr.mk rfl rfl rfl rfl rfl rfl ⟨rfl, trivial⟩) HS.out) ?_
  clear HS
  rintro m a wr ⟨k, hk, rfl, hF, ⟨u, rfl, h23, _⟩, S⟩
  unfold ckF
  rw [h23]
  have hb := S.box
  have hcell : wr.cell? ⟨c.w.heap.size, 2, none⟩ = some (.slice c.v.a1 (Plan.parts c.P).length c.v.c1) := by simp [World.cell?, hb]
  clear hb h23
  by_cases hkl : k < (Plan.parts c.P).length
  · have hl := List.getElem?_eq_getElem hkl
    obtain ⟨X, hX⟩ : ∃ X, (Plan.parts c.P)[k] = X := ⟨_, rfl⟩
    rw [hX] at hl
    obtain ⟨ad, sv, pv, had, e0, e1, e2, e3, e4, e5, hat⟩ := Parts.at_ S.plan.parts k X hl
    rw [had] at hcell
    have KO := Aside.mk (object_any wr sv pv X hat)
    have HF : Aside (partF (Plan.parts c.P) k = if objectS X = true then none else some (51, (k : Int))) := ⟨by unfold partF; rw [ptAt_some hl]⟩
    obtain ⟨b, hb⟩ : ∃ b, objectS X = b := ⟨_, rfl⟩
    rw [hb] at KO HF
    have S0 := Aside.mk S
    have F0 := Aside.mk hF
    clear hl hX hat had S hF
    go_wp2_with fail
    refine KO.out.mono ?_
    rintro e w' ⟨rfl, b1⟩
    have S1 := Aside.mk (S0.out.old b1)
    clear b1 hcell e0 e1 e2 e3 e4 e5
    cases b
    · go_wp2_with fail
      exact CkE.stop (r := (51, (k : Int))) (scan_some F0.out HF.out hkl) rfl rfl rfl S1.out.below
    · go_wp2_with fail
      exact CkI.lower hkl F0.out HF.out (CkFr.mk rfl rfl rfl rfl rfl rfl ⟨rfl, trivial⟩) S1.out
  · obtain rfl : k = (Plan.parts c.P).length := by omega
    have S0 := Aside.mk S
    have F0 := Aside.mk hF
    clear S hF
    go_wp2_with fail
    exact CkE.go F0.out (CkFr.mk rfl rfl rfl rfl rfl rfl trivial) S0.out
end Go.Proofs.YtidjkhmlpgkaaaaDoor

namespace Go.Proofs.YtidjkhmlpgkaaaaDoor
open Go.RowKit
set_option linter.unusedVariables false
set_option linter.unusedSimpArgs false

/-- A channel as it lies. -/
structure ChanAt (W : World) (X : Nat) (ck cf ct cz cd cy : Int) : Prop where
  c0 : W.cell? ⟨X, 0, none⟩ = some (.int .u8 ck)
  c1 : W.cell? ⟨X, 1, none⟩ = some (.int .u8 cf)
  c2 : W.cell? ⟨X, 2, none⟩ = some (.int .u8 ct)
  c3 : W.cell? ⟨X, 3, none⟩ = some (.int .u8 cz)
  c4 : W.cell? ⟨X, 4, none⟩ = some (.int .u8 cd)
  c5 : W.cell? ⟨X, 5, none⟩ = some (.int .u16 cy)
  k : 0 ≤ ck ∧ ck ≤ 255
  f : 0 ≤ cf ∧ cf ≤ 255
  t : 0 ≤ ct ∧ ct ≤ 255
  z : 0 ≤ cz ∧ cz ≤ 255
  d : 0 ≤ cd ∧ cd ≤ 255
  y : 0 ≤ cy ∧ cy ≤ 65535
set_option maxRecDepth 100000 in
set_option maxHeartbeats 3200000 in
theorem ck9_q (c : Ck) (a : Act) (W1 wr : World) (X k : Nat) (ck cf ct cz cd cy : Int) (hc : ChanAt W1 X ck cf ct cz cd cy) (K : Exit → Act → World → Prop)
    (h : CkC c [(19, num_ k), (20, ptr_ X)] W1 a wr) (qb : Bool) (hq : qb = (decide (ck = 0) && decide (cy = 0) && (decide (cd = 1) || decide (cd = 2) || decide (cd = 4) || decide (cd = 8) || decide (cd = 16)))) :
    (pathC [0, 1, 2, 2, 1, 0, 2, 1, 0] (ckTail 9)).wp Tryd.prog (Exit.then (CkC c [(19, num_ k), (20, ptr_ X), (21, .bool qb)] W1) K) a wr := by
  obtain ⟨⟨u, rfl, h19, h20, _⟩, m, rfl⟩ := h
  unfold ckF
  rw [h19, h20]
  clear h19 h20
  conv => arg 2; whnf
  obtain ⟨g0, g1, g2, g3, g4, g5, ⟨k0, k1⟩, _, _, _, ⟨d0, d1⟩, ⟨y0, y1⟩⟩ := hc
  clear g1 g2 g3
  have HQ := Aside.mk hq
  clear hq
  go_wp2_with fail
  all_goals
    refine CkC.mkN (CkFr.mk rfl rfl rfl rfl rfl rfl ⟨rfl, rfl, ?_, trivial⟩)
    show Value.bool _ = Value.bool qb
    refine congrArg Value.bool ?_
    rw [HQ.out, Bool.eq_iff_iff]
    simp [*]

set_option maxRecDepth 100000 in
set_option maxHeartbeats 3200000 in
theorem ck9_s (c : Ck) (a : Act) (W1 wr : World) (X k : Nat) (ck cf ct cz cd cy : Int) (hc : ChanAt W1 X ck cf ct cz cd cy) (K : Exit → Act → World → Prop) (qb : Bool)
    (h : CkC c [(19, num_ k), (20, ptr_ X), (21, .bool qb)] W1 a wr) (sb : Bool) (hs : sb = (decide (ck = 1) && decide (cd = 0) && decide (0 < cy))) :
    (pathC [0, 1, 2, 2, 1, 0, 2, 1, 1, 0] (ckTail 9)).wp Tryd.prog (Exit.then (CkC c [(19, num_ k), (20, ptr_ X), (21, .bool qb), (22, .bool sb)] W1) K) a wr := by
  obtain ⟨⟨u, rfl, h19, h20, h21, _⟩, m, rfl⟩ := h
  unfold ckF
  rw [h19, h20, h21]
  clear h19 h20 h21
  conv => arg 2; whnf
  obtain ⟨g0, g1, g2, g3, g4, g5, ⟨k0, k1⟩, _, _, _, ⟨d0, d1⟩, ⟨y0, y1⟩⟩ := hc
  clear g1 g2 g3
  have HQ := Aside.mk hs
  clear hs
  go_wp2_with fail
  all_goals
    refine CkC.mkN (CkFr.mk rfl rfl rfl rfl rfl rfl ⟨rfl, rfl, rfl, ?_, trivial⟩)
    show Value.bool _ = Value.bool sb
    refine congrArg Value.bool ?_
    rw [HQ.out, Bool.eq_iff_iff]
    simp [*]

theorem chan_or {o : Option Flt} {ok : Bool} {r : Flt} (ho : Aside (o = if ok = true then none else some r)) (h : ok = true) : o = none := by rw [ho.out, if_pos h]
theorem chan_no {o : Option Flt} {ok : Bool} {r : Flt} (ho : Aside (o = if ok = true then none else some r)) (h : ok = false) : o = some r := by rw [ho.out, h]; rfl
end Go.Proofs.YtidjkhmlpgkaaaaDoor
