/- The rules' reference: the check's loop over pairs. -/
import Derived.Test.YtpcjjmjmigibhaaDoorRulC
import Derived.Deep.RegionHeld3
import Derived.Deep.CutBlock
namespace Go.Proofs.YtpcjjmjmigibhaaDoor
open Go.RowKit
set_option linter.unusedVariables false
set_option linter.unusedSimpArgs false

def pairObj (p : PairR) : Obj := .cells #[.int .u8 (PairR.a p), .int .u8 (PairR.b p)] 45 (0, 0)
theorem pair_box {w : World} {X : Nat} {p : PairR} (h : w.heap[X]? = some (pairObj p)) : w.cell? ⟨X, 0, none⟩ = some (.int .u8 (PairR.a p)) ∧ w.cell? ⟨X, 1, none⟩ = some (.int .u8 (PairR.b p)) := by
  simp [World.cell?, h, pairObj]
/-- The check at a pair: its box. -/
abbrev Ck.pr (c : Ck) (X : Nat) (p : PairR) : Ck := c.with_ [(X, pairObj p)]
theorem CkSt.pr {c : Ck} {X : Nat} {p : PairR} {wr : World} (s : CkSt (c.pr X p) wr) : wr.heap[X]? = some (pairObj p) := s.boxes (X, pairObj p) (List.mem_singleton.2 rfl)

set_option maxRecDepth 100000 in
set_option maxHeartbeats 3200000 in
theorem ck8_test (c : Ck) (a : Act) (wr : World) (i X : Nat) (p : PairR) (hp : PairR.Ok p) (S : CkS (c.pr X p) [(14, num_ i), (15, ptr_ X)] a wr) (o : Option Flt) (ho : Aside (o = if ((Plan.parts c.P).length : Int) ≤ PairR.a p ∨ ((Plan.parts c.P).length : Int) ≤ PairR.b p ∨ PairR.b p ≤ PairR.a p then some (48, (i : Int)) else none)) :
    (pathC [0, 1, 2, 2, 1, 0, 2, 1, 0] (ckTail 8)).wp Tryd.prog (CkE (c.pr X p) o [(14, num_ i), (15, ptr_ X)]) a wr := by
  obtain ⟨⟨u, rfl, h14, h15, _⟩, S⟩ := S
  obtain ⟨x0, x1⟩ := pair_box S.pr
  have hb := S.box
  have hcell : wr.cell? ⟨c.w.heap.size, 2, none⟩ = some (.slice c.v.a1 (Plan.parts c.P).length c.v.c1) := by
    have hb : wr.heap[c.w.heap.size]? = some (.cells #[.int .u16 (Plan.frame c.P), .slice c.v.a0 (Plan.cores c.P).length c.v.c0, .slice c.v.a1 (Plan.parts c.P).length c.v.c1, .slice c.v.a2 (Plan.chans c.P).length c.v.c2, .slice c.v.a3 (Plan.pairs c.P).length c.v.c3] 28 (0, 0)) := hb
    simp [World.cell?, hb]
  have hlen : (Plan.parts c.P).length ≤ 9223372036854775807 := by
    obtain ⟨_, _, q, h⟩ := Elems.len S.plan.parts
    exact h
  have S0 := Aside.mk S
  obtain ⟨⟨a0, a1⟩, ⟨b0, b1⟩⟩ := hp
  show (pathC [0, 1, 2, 2, 1, 0, 2, 1, 0] (ckTail 8)).wp Tryd.prog (CkE (c.pr X p) o [(14, num_ i), (15, ptr_ X)]) (ckF u c.w.heap.size c.lv) wr
  unfold ckF
  rw [h14, h15]
  clear h14 h15 hb S
  generalize PairR.a p = pa at *
  generalize PairR.b p = pb at *
  conv => arg 2; whnf
  by_cases t1 : ((Plan.parts c.P).length : Int) ≤ pa
  · have HN := Aside.mk (ho.out.trans (by rw [if_pos (.inl t1)]))
    clear ho
    go_wp2_with fail
    exact CkE.stop HN.out rfl rfl rfl S0.out.below
  by_cases t2 : ((Plan.parts c.P).length : Int) ≤ pb
  · have HN := Aside.mk (ho.out.trans (by rw [if_pos (.inr (.inl t2))]))
    clear ho
    go_wp2_with fail
    exact CkE.stop HN.out rfl rfl rfl S0.out.below
  by_cases t3 : pb ≤ pa
  · have HN := Aside.mk (ho.out.trans (by rw [if_pos (.inr (.inr t3))]))
    clear ho
    go_wp2_with fail
    exact CkE.stop HN.out rfl rfl rfl S0.out.below
  · have HN := Aside.mk (ho.out.trans (by rw [if_neg (by omega)]))
    clear ho
    go_wp2_with fail
    exact CkE.go HN.out (CkFr.mk rfl rfl rfl rfl rfl rfl ⟨rfl, rfl, trivial⟩) S0.out

set_option maxRecDepth 100000 in
set_option maxHeartbeats 3200000 in
theorem ck8_same (c : Ck) (a : Act) (wr : World) (i k X : Nat) (p q : PairR) (hp : PairR.Ok p) (hi : (Plan.pairs c.P)[i]? = some p) (hq : (Plan.pairs c.P)[k]? = some q) (S : CkS (c.pr X p) [(14, num_ i), (15, ptr_ X), (16, num_ k)] a wr) (o : Option Flt) (ho : Aside (o = samePairF (Plan.pairs c.P) i k)) :
    (pathC [0, 1, 2, 2, 1, 0, 2, 1, 1, 0, 1, 2, 2, 1, 0, 2] (ckTail 8)).wp Tryd.prog (CkE (c.pr X p) o [(14, num_ i), (15, ptr_ X), (16, num_ k)]) a wr := by
  obtain ⟨⟨u, rfl, h14, h15, h16, _⟩, S⟩ := S
  obtain ⟨x0, x1⟩ := pair_box S.pr
  have hP : Pairs wr (.slice c.v.a3 (Plan.pairs c.P).length c.v.c3) (Plan.pairs c.P) := S.plan.pairs
  obtain ⟨_, _, q', hlen⟩ := Elems.len hP
  obtain ⟨ad, had, e0, e1, ok⟩ := Pairs.at_ hP k q hq
  have hb : wr.heap[c.w.heap.size]? = some (.cells #[.int .u16 (Plan.frame c.P), .slice c.v.a0 (Plan.cores c.P).length c.v.c0, .slice c.v.a1 (Plan.parts c.P).length c.v.c1, .slice c.v.a2 (Plan.chans c.P).length c.v.c2, .slice c.v.a3 (Plan.pairs c.P).length c.v.c3] 28 (0, 0)) := S.box
  have hcell : wr.cell? ⟨c.w.heap.size, 4, none⟩ = some (.slice c.v.a3 (Plan.pairs c.P).length c.v.c3) := by simp [World.cell?, hb]
  rw [had] at hcell
  have hk := (List.getElem?_eq_some_iff.1 hq).1
  have S0 := Aside.mk S
  have HO : Aside (o = if PairR.a q = PairR.a p ∧ PairR.b q = PairR.b p then some (48, (i : Int)) else none) := ⟨by rw [ho.out, samePairF, prAt_some hi, prAt_some hq]⟩
  obtain ⟨⟨a0, a1⟩, ⟨b0, b1⟩⟩ := hp
  obtain ⟨⟨a2, a3⟩, ⟨b2, b3⟩⟩ := ok
  show (pathC [0, 1, 2, 2, 1, 0, 2, 1, 1, 0, 1, 2, 2, 1, 0, 2] (ckTail 8)).wp Tryd.prog (CkE (c.pr X p) o [(14, num_ i), (15, ptr_ X), (16, num_ k)]) (ckF u c.w.heap.size c.lv) wr
  unfold ckF
  rw [h14, h15, h16]
  clear h14 h15 h16 hb S ho hP q' had hi hq
  generalize PairR.a p = pa at *
  generalize PairR.b p = pb at *
  generalize PairR.a q = qa at *
  generalize PairR.b q = qb at *
  conv => arg 2; whnf
  by_cases t1 : qa = pa
  · by_cases t2 : qb = pb
    · have HN := Aside.mk (HO.out.trans (by rw [if_pos ⟨t1, t2⟩]))
      subst t1 t2
      clear HO
      go_wp2_with fail
      go_quiet (fail)
      go_wp2_with fail
      exact CkE.stop HN.out rfl rfl rfl (S0.out.drewN _).below
    · have HN := Aside.mk (HO.out.trans (by rw [if_neg (by simp [t2])]))
      have T2 : (qb == pb) = false := by simp [t2]
      subst t1
      clear HO
      go_wp2_with fail
      go_quiet (fail)
      go_wp2_with fail
      exact CkE.go HN.out (CkFr.mk rfl rfl rfl rfl rfl rfl ⟨rfl, rfl, rfl, trivial⟩) (S0.out.drewN _)
  · have HN := Aside.mk (HO.out.trans (by rw [if_neg (by simp [t1])]))
    have T1 : (qa == pa) = false := by simp [t1]
    clear HO
    go_wp2_with fail
    go_quiet (fail)
    go_wp2_with fail
    exact CkE.go HN.out (CkFr.mk rfl rfl rfl rfl rfl rfl ⟨rfl, rfl, rfl, trivial⟩) (S0.out.drewN _)
end Go.Proofs.YtpcjjmjmigibhaaDoor
