/- The rules' reference: the check's loop over channels: the test. -/
import Derived.Test.YtidjkhmlpgkaaaaDoorMgRe
namespace Go.Proofs.YtidjkhmlpgkaaaaDoor
open Go.RowKit
set_option linter.unusedVariables false
set_option linter.unusedSimpArgs false

set_option maxRecDepth 100000 in
set_option maxHeartbeats 20000000 in
theorem ck9_t1 (c : Ck) (a : Act) (W1 wr : World) (X k np : Nat) (pa : Option Addr) (pc : Nat) (hb : W1.cell? ⟨c.w.heap.size, 2, none⟩ = some (.slice pa np pc)) (hnp : np ≤ 64) (hk : k < 9223372036854775807) (ck cf ct cz cd cy : Int) (hc : ChanAt W1 X ck cf ct cz cd cy) (qb sb : Bool) (hyp : qb = true)
    (h : CkC c [(19, num_ k), (20, ptr_ X), (21, .bool qb), (22, .bool sb)] W1 a wr) (ok : Bool) (hs : ok = (decide (k ≤ 63) && (qb || sb) && decide (cf < (np : Int)) && decide (ct < (np : Int)) && decide (cf ≠ ct) && decide (1 ≤ cz) && decide (cz ≤ 32))) (o : Option Flt) (ho : Aside (o = if ok = true then none else some (50, (k : Int)))) :
    (pathC [0, 1, 2, 2, 1, 0, 2, 1, 1, 1] (ckTail 9)).wp Tryd.prog (CkT c o [(19, num_ k)] W1) a wr := by
  obtain ⟨⟨u, rfl, h19, h20, h21, h22, _⟩, m, rfl⟩ := h
  unfold ckF
  rw [h19, h20, h21, h22]
  clear h19 h20 h21 h22
  conv => arg 2; whnf
  obtain ⟨g0, g1, g2, g3, g4, g5, _, ⟨f0, f1⟩, ⟨t0, t1⟩, ⟨z0, z1⟩, _, _⟩ := hc
  clear g0 g4 g5
  have HQ := Aside.mk hs
  clear hs
  subst hyp
  go_wp2_with fail
  all_goals
    first
    | refine CkT.go (chan_or ho ?_) (CkFr.mk rfl rfl rfl rfl rfl rfl ⟨rfl, trivial⟩)
    | refine CkT.stop (r := (50, (k : Int))) (chan_no ho ?_) rfl rfl rfl
    rw [HQ.out]
    first
    | (simp; done)
    | (simp; omega)
    | (simp [*]; done)
    | (simp only [beq_iff_eq] at *; simp; omega)

set_option maxRecDepth 100000 in
set_option maxHeartbeats 20000000 in
theorem ck9_t2 (c : Ck) (a : Act) (W1 wr : World) (X k np : Nat) (pa : Option Addr) (pc : Nat) (hb : W1.cell? ⟨c.w.heap.size, 2, none⟩ = some (.slice pa np pc)) (hnp : np ≤ 64) (hk : k < 9223372036854775807) (ck cf ct cz cd cy : Int) (hc : ChanAt W1 X ck cf ct cz cd cy) (qb sb : Bool) (hyp : qb = false ∧ sb = true)
    (h : CkC c [(19, num_ k), (20, ptr_ X), (21, .bool qb), (22, .bool sb)] W1 a wr) (ok : Bool) (hs : ok = (decide (k ≤ 63) && (qb || sb) && decide (cf < (np : Int)) && decide (ct < (np : Int)) && decide (cf ≠ ct) && decide (1 ≤ cz) && decide (cz ≤ 32))) (o : Option Flt) (ho : Aside (o = if ok = true then none else some (50, (k : Int)))) :
    (pathC [0, 1, 2, 2, 1, 0, 2, 1, 1, 1] (ckTail 9)).wp Tryd.prog (CkT c o [(19, num_ k)] W1) a wr := by
  obtain ⟨⟨u, rfl, h19, h20, h21, h22, _⟩, m, rfl⟩ := h
  unfold ckF
  rw [h19, h20, h21, h22]
  clear h19 h20 h21 h22
  conv => arg 2; whnf
  obtain ⟨g0, g1, g2, g3, g4, g5, _, ⟨f0, f1⟩, ⟨t0, t1⟩, ⟨z0, z1⟩, _, _⟩ := hc
  clear g0 g4 g5
  have HQ := Aside.mk hs
  clear hs
  obtain ⟨rfl, rfl⟩ := hyp
  go_wp2_with fail
  all_goals
    first
    | refine CkT.go (chan_or ho ?_) (CkFr.mk rfl rfl rfl rfl rfl rfl ⟨rfl, trivial⟩)
    | refine CkT.stop (r := (50, (k : Int))) (chan_no ho ?_) rfl rfl rfl
    rw [HQ.out]
    first
    | (simp; done)
    | (simp; omega)
    | (simp [*]; done)
    | (simp only [beq_iff_eq] at *; simp; omega)

set_option maxRecDepth 100000 in
set_option maxHeartbeats 20000000 in
theorem ck9_t3 (c : Ck) (a : Act) (W1 wr : World) (X k np : Nat) (pa : Option Addr) (pc : Nat) (hb : W1.cell? ⟨c.w.heap.size, 2, none⟩ = some (.slice pa np pc)) (hnp : np ≤ 64) (hk : k < 9223372036854775807) (ck cf ct cz cd cy : Int) (hc : ChanAt W1 X ck cf ct cz cd cy) (qb sb : Bool) (hyp : qb = false ∧ sb = false)
    (h : CkC c [(19, num_ k), (20, ptr_ X), (21, .bool qb), (22, .bool sb)] W1 a wr) (ok : Bool) (hs : ok = (decide (k ≤ 63) && (qb || sb) && decide (cf < (np : Int)) && decide (ct < (np : Int)) && decide (cf ≠ ct) && decide (1 ≤ cz) && decide (cz ≤ 32))) (o : Option Flt) (ho : Aside (o = if ok = true then none else some (50, (k : Int)))) :
    (pathC [0, 1, 2, 2, 1, 0, 2, 1, 1, 1] (ckTail 9)).wp Tryd.prog (CkT c o [(19, num_ k)] W1) a wr := by
  obtain ⟨⟨u, rfl, h19, h20, h21, h22, _⟩, m, rfl⟩ := h
  unfold ckF
  rw [h19, h20, h21, h22]
  clear h19 h20 h21 h22
  conv => arg 2; whnf
  obtain ⟨g0, g1, g2, g3, g4, g5, _, ⟨f0, f1⟩, ⟨t0, t1⟩, ⟨z0, z1⟩, _, _⟩ := hc
  clear g0 g4 g5
  have HQ := Aside.mk hs
  clear hs
  obtain ⟨rfl, rfl⟩ := hyp
  go_wp2_with fail
  all_goals
    first
    | refine CkT.go (chan_or ho ?_) (CkFr.mk rfl rfl rfl rfl rfl rfl ⟨rfl, trivial⟩)
    | refine CkT.stop (r := (50, (k : Int))) (chan_no ho ?_) rfl rfl rfl
    rw [HQ.out]
    first
    | (simp; done)
    | (simp; omega)
    | (simp [*]; done)
    | (simp only [beq_iff_eq] at *; simp; omega)

theorem ck9_t (c : Ck) (a : Act) (W1 wr : World) (X k np : Nat) (pa : Option Addr) (pc : Nat) (hb : W1.cell? ⟨c.w.heap.size, 2, none⟩ = some (.slice pa np pc)) (hnp : np ≤ 64) (hk : k < 9223372036854775807) (ck cf ct cz cd cy : Int) (hc : ChanAt W1 X ck cf ct cz cd cy) (qb sb : Bool)
    (h : CkC c [(19, num_ k), (20, ptr_ X), (21, .bool qb), (22, .bool sb)] W1 a wr) (ok : Bool) (hs : ok = (decide (k ≤ 63) && (qb || sb) && decide (cf < (np : Int)) && decide (ct < (np : Int)) && decide (cf ≠ ct) && decide (1 ≤ cz) && decide (cz ≤ 32))) (o : Option Flt) (ho : Aside (o = if ok = true then none else some (50, (k : Int)))) :
    (pathC [0, 1, 2, 2, 1, 0, 2, 1, 1, 1] (ckTail 9)).wp Tryd.prog (CkT c o [(19, num_ k)] W1) a wr := by
  rcases (show qb = true ∨ (qb = false ∧ sb = true) ∨ (qb = false ∧ sb = false) by cases qb <;> cases sb <;> simp) with e | e | e
  · exact ck9_t1 c a W1 wr X k np pa pc hb hnp hk ck cf ct cz cd cy hc qb sb e h ok hs o ho
  · exact ck9_t2 c a W1 wr X k np pa pc hb hnp hk ck cf ct cz cd cy hc qb sb e h ok hs o ho
  · exact ck9_t3 c a W1 wr X k np pa pc hb hnp hk ck cf ct cz cd cy hc qb sb e h ok hs o ho
end Go.Proofs.YtidjkhmlpgkaaaaDoor
