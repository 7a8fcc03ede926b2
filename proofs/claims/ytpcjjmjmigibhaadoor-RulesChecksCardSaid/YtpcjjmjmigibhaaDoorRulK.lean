/- The rules' reference: the check. -/
import Derived.Test.YtpcjjmjmigibhaaDoorRulJ2
import Derived.Test.YtpcjjmjmigibhaaDoorRulH4
import Derived.Test.YtpcjjmjmigibhaaDoorRulI3
import Derived.Test.YtpcjjmjmigibhaaDoorRulF
namespace Go.Proofs.YtpcjjmjmigibhaaDoor
open Go.RowKit
set_option linter.unusedVariables false
set_option linter.unusedSimpArgs false

theorem allS_mem {C : List (List Win)} {x : Place} (h : x ∈ allS C) : ∃ (c i : Nat) (L : List Win), C[c]? = some L ∧ L[i]? = some (Place.w x) ∧ Place.c x = (c : Int) ∧ Place.a x = 256 * (c : Int) + (i : Int) := by
  rw [allS, List.mem_flatten] at h
  obtain ⟨l, hl, hx⟩ := h
  obtain ⟨c, hc, rfl⟩ := List.mem_mapIdx.1 hl
  obtain ⟨i, hi, rfl⟩ := List.mem_mapIdx.1 hx
  exact ⟨c, i, C[c], List.getElem?_eq_getElem hc, List.getElem?_eq_getElem hi, rfl, rfl⟩
theorem Place.cells_len (x : Place) : (Place.cells x).length = 6 := rfl

set_option maxRecDepth 100000 in
set_option maxHeartbeats 800000 in
/-- What follows all loops. -/
theorem ck_end (c : Ck) (r : Flt) (hr : r = (0, 0)) (a : Act) (wr : World) (S : CkS c [] a wr) : (ckTail 11).wp Tryd.prog (bodyPost Tryd.prog Tryd.f13 (CkPost c.w r)) a wr := by
  obtain ⟨⟨u, rfl, _⟩, S⟩ := S
  subst hr
  unfold ckF
  conv => arg 2; whnf
  have hS := Aside.mk S.below
  clear S
  go_wp2_with fail
  go_ret2
  exact ⟨rfl, hS.out⟩

set_option maxRecDepth 100000 in
theorem ckE_post {c : Ck} {o : Option Flt} {x y : Code} {a : Act} {w : World} {r : Flt} (hx : x.wp Tryd.prog (CkE c o []) a w) (h1 : ∀ f, o = some f → r = f) (h2 : o = none → ∀ a w, CkS c [] a w → y.wp Tryd.prog (bodyPost Tryd.prog Tryd.f13 (CkPost c.w r)) a w) :
    (Code.seq x y).wp Tryd.prog (bodyPost Tryd.prog Tryd.f13 (CkPost c.w r)) a w := by
  refine wp_seq (wp_mono hx fun e a' w' q => ?_)
  rcases q with ⟨rfl, ho, q⟩ | ⟨rfl, f, ho, ⟨g0, g2, g3⟩, b⟩
  · exact h2 ho a' w' q
  · obtain rfl := h1 f ho
    refine ⟨g0, _, ?_, rfl, b⟩
    simp [results, Tryd.results13, go_sem]
    exact ⟨by simpa using g2, by simpa using g3⟩

set_option maxRecDepth 100000 in
theorem ck_tail (c : Ck) (h0 : c.ex = []) (hnp : (Plan.parts c.P).length ≤ 64) (a : Act) (wr : World) (S : CkS c [] a wr) (r : Flt)
    (hr : r = (orElseF (scan (orderF (Plan.frame c.P) ((Plan.parts c.P).length : Int) c.l) c.l.length) (orElseF (scan (gangF c.l) c.l.length) (orElseF (scan (pairF ((Plan.parts c.P).length : Int) c.l (Plan.pairs c.P)) (Plan.pairs c.P).length) (orElseF (scan (chanF ((Plan.parts c.P).length : Int) (Plan.chans c.P)) (Plan.chans c.P).length) (scan (partF (Plan.parts c.P)) (Plan.parts c.P).length))))).getD (0, 0)) :
    (ckTail 6).wp Tryd.prog (bodyPost Tryd.prog Tryd.f13 (CkPost c.w r)) a wr := by
  refine ckE_post (x := pathC [0] (ckTail 6)) (y := ckTail 7) (ck_6 c a wr S) (fun f h => by rw [hr, orElse_some h]; rfl) fun h a wr S => ?_
  rw [orElse_none h] at hr
  refine ckE_post (x := pathC [0] (ckTail 7)) (y := ckTail 8) (ck_7 c a wr S _ ⟨rfl⟩) (fun f h => by rw [hr, orElse_some h]; rfl) fun h a wr S => ?_
  rw [orElse_none h] at hr
  refine ckE_post (x := pathC [0] (ckTail 8)) (y := ckTail 9) (ck_8 c h0 a wr S) (fun f h => by rw [hr, orElse_some h]; rfl) fun h a wr S => ?_
  rw [orElse_none h] at hr
  refine ckE_post (x := pathC [0] (ckTail 9)) (y := ckTail 10) (ck_9 c a wr hnp S) (fun f h => by rw [hr, orElse_some h]; rfl) fun h a wr S => ?_
  rw [orElse_none h] at hr
  refine ckE_post (x := pathC [0] (ckTail 10)) (y := ckTail 11) (ck_10 c a wr S) (fun f h => by rw [hr, h]; rfl) fun h a wr S => ?_
  rw [h] at hr
  exact ck_end c r hr a wr S

theorem many_none {C : List (List Win)} (h : scan (manyF C) C.length = none) : ∀ L ∈ C, L.length ≤ 256 := by
  intro L hL
  obtain ⟨i, hi, rfl⟩ := List.getElem_of_mem hL
  have := scan_none h i hi
  rw [manyF] at this
  rw [List.getD_eq_getElem?_getD, List.getElem?_eq_getElem hi] at this
  simp at this
  omega

/-- The frame, the row of places not yet there; the world. -/
def CkB (w W1 : World) (a : Act) (wr : World) : Prop := (∃ u : Nat → Value, a = ckF u w.heap.size (u 5)) ∧ W1 = wr
theorem CkB.mk {w W1 : World} {a : Act} (h0 : a.defers = []) (hn : a.tmps.toList.length = 496) (h1 : nthV a.tmps.toList 1 = .pointer (some ⟨w.heap.size, 0, none⟩)) (h2 : nthV a.tmps.toList 2 = .int .i64 0) (h3 : nthV a.tmps.toList 3 = .int .i64 0) : CkB w W1 a W1 :=
  ⟨⟨_, ckF_mk h0 hn h1 h2 h3 rfl⟩, rfl⟩

set_option maxRecDepth 100000 in
set_option maxHeartbeats 3200000 in
theorem ck_5 (w W1 : World) (P : Plan) (v : CkV) (hB : Below w.heap.size w W1)
    (box : W1.heap[w.heap.size]? = some (.cells #[.int .u16 (Plan.frame P), .slice v.a0 (Plan.cores P).length v.c0, .slice v.a1 (Plan.parts P).length v.c1, .slice v.a2 (Plan.chans P).length v.c2, .slice v.a3 (Plan.pairs P).length v.c3] 28 (0, 0)))
    (plan : PlanAt W1 (.slice v.a0 (Plan.cores P).length v.c0) (.slice v.a1 (Plan.parts P).length v.c1) (.slice v.a2 (Plan.chans P).length v.c2) (.slice v.a3 (Plan.pairs P).length v.c3) P)
    (hC : (Plan.cores P).length ≤ 8) (hnp : (Plan.parts P).length ≤ 64) (hL : ∀ L ∈ Plan.cores P, L.length ≤ 256) (r : Flt)
    (hr : r = (orElseF (scan (orderF (Plan.frame P) ((Plan.parts P).length : Int) (allS (Plan.cores P))) (allS (Plan.cores P)).length) (orElseF (scan (gangF (allS (Plan.cores P))) (allS (Plan.cores P)).length) (orElseF (scan (pairF ((Plan.parts P).length : Int) (allS (Plan.cores P)) (Plan.pairs P)) (Plan.pairs P).length) (orElseF (scan (chanF ((Plan.parts P).length : Int) (Plan.chans P)) (Plan.chans P).length) (scan (partF (Plan.parts P)) (Plan.parts P).length))))).getD (0, 0))
    (a : Act) (wr : World) (S : CkB w W1 a wr) : (ckTail 5).wp Tryd.prog (bodyPost Tryd.prog Tryd.f13 (CkPost w r)) a wr := by
  obtain ⟨⟨u, rfl⟩, rfl⟩ := S
  refine wp_seq (x := pathC [0] (ckTail 5)) (y := ckTail 6) (wp_then (fun a' w' => ∃ lv, CkS ⟨w, P, v, lv, []⟩ [] a' w') ?_ ?_)
  · have K := Aside.mk (all_any W1 _ P ⟨_, _, _, _, _, _, _, _, _, _, _, _, rfl, plan⟩ hC hL)
    have HB := Aside.mk (And.intro hB (And.intro box plan))
    have g0 : W1.cell? ⟨w.heap.size, 0, none⟩ = some (.int .u16 (Plan.frame P)) := by simp [World.cell?, box]
    have g1 : W1.cell? ⟨w.heap.size, 1, none⟩ = some (.slice v.a0 (Plan.cores P).length v.c0) := by simp [World.cell?, box]
    have g2 : W1.cell? ⟨w.heap.size, 2, none⟩ = some (.slice v.a1 (Plan.parts P).length v.c1) := by simp [World.cell?, box]
    have g3 : W1.cell? ⟨w.heap.size, 3, none⟩ = some (.slice v.a2 (Plan.chans P).length v.c2) := by simp [World.cell?, box]
    have g4 : W1.cell? ⟨w.heap.size, 4, none⟩ = some (.slice v.a3 (Plan.pairs P).length v.c3) := by simp [World.cell?, box]
    have HC := Aside.mk hC
    have HL := Aside.mk hL
    unfold ckF
    clear hr plan box hB hC hL
    conv => arg 2; whnf
    go_wp2_with fail
    refine K.out.mono ?_
    rintro e w' ⟨lv, rfl, hrow, b1⟩
    have X := Aside.mk (And.intro hrow b1)
    clear hrow b1 g0 g1 g2 g3 g4
    go_wp2_with fail
    obtain ⟨hrow, b1⟩ := X.out
    obtain ⟨hB, box, plan⟩ := HB.out
    refine ⟨lv, CkFr.mk rfl rfl rfl rfl rfl rfl trivial, bel_then hB b1, (b1.block _ (lt_of_block box)).trans box, plan.below b1, own_elems Place.cells Place.cells_len hrow ?_, by simp⟩
    intro x hx
    obtain ⟨ci, i, L, hc1, hi1, e1, e2⟩ := allS_mem hx
    have hci : ci < (Plan.cores P).length := (List.getElem?_eq_some_iff.1 hc1).1
    have hL2 := HL.out L (List.mem_of_getElem? hc1)
    have hii := (List.getElem?_eq_some_iff.1 hi1).1
    have h8 := HC.out
    refine ⟨rfl, ?_, by omega, by omega⟩
    obtain ⟨_, _, _, _, hw⟩ := plan.cores.at_ ci L hc1
    obtain ⟨_, _, rfl, _⟩ := hw.len
    obtain ⟨_, _, _, _, _, _, ok⟩ := hw.at_ i _ hi1
    exact ok
  · rintro a' w' ⟨lv, S⟩
    exact ck_tail ⟨w, P, v, lv, []⟩ rfl hnp a' w' S r hr
end Go.Proofs.YtpcjjmjmigibhaaDoor
