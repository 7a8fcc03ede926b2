/- The rules' reference: the check's loop over channels: joined. The rules' reference: the check. The rules' reference: the check, whole. -/
import Derived.Test.YtidjkhmlpgkaaaaDoorMgRf
import Derived.Test.YtidjkhmlpgkaaaaDoorMgRc
import Derived.Test.YtidjkhmlpgkaaaaDoorMgRb
import Derived.Test.YtidjkhmlpgkaaaaDoorMgRd
namespace Go.Proofs.YtidjkhmlpgkaaaaDoor
open Go.RowKit
set_option linter.unusedVariables false
set_option linter.unusedSimpArgs false

theorem ckE_of_T {c : Ck} {o : Option Flt} {nm : List (Nat × Value)} {W wr : World} {e : Exit} {a : Act} (h : CkT c o nm W e a wr) (s : CkSt c W) : CkE c o nm e a wr := by
  obtain ⟨⟨m, rfl⟩, h⟩ := h
  rcases h with ⟨rfl, ho, h⟩ | ⟨rfl, r, ho, h⟩
  · exact .inl ⟨rfl, ho, h, s.drewN m⟩
  · exact .inr ⟨rfl, r, ho, h, (s.drewN m).below⟩

set_option maxRecDepth 100000 in
set_option maxHeartbeats 3200000 in
theorem ck9_body (c : Ck) (a : Act) (wr : World) (k : Nat) (hkl : k < (Plan.chans c.P).length) (hnp : (Plan.parts c.P).length ≤ 64) (S : CkS c [(19, num_ k)] a wr) :
    (pathC [0, 1, 2, 2, 1, 0, 2] (ckTail 9)).wp Tryd.prog (CkE c (chanF ((Plan.parts c.P).length : Int) (Plan.chans c.P) k) [(19, num_ k)]) a wr := by
  obtain ⟨⟨u, rfl, h19, _⟩, S⟩ := S
  have hlen : (Plan.chans c.P).length ≤ 9223372036854775807 := by
    obtain ⟨_, _, q, h⟩ := Elems.len S.plan.chans
    exact h
  have hl := List.getElem?_eq_getElem hkl
  obtain ⟨X, hX⟩ : ∃ X, (Plan.chans c.P)[k] = X := ⟨_, rfl⟩
  rw [hX] at hl
  obtain ⟨ad, had, e0, e1, e2, e3, e4, e5, ok⟩ := Chans.at_ S.plan.chans k X hl
  have hb := S.box
  have hcell : wr.cell? ⟨c.w.heap.size, 3, none⟩ = some (.slice c.v.a2 (Plan.chans c.P).length c.v.c2) := by simp [World.cell?, hb]
  have hcell2 : wr.cell? ⟨c.w.heap.size, 2, none⟩ = some (.slice c.v.a1 (Plan.parts c.P).length c.v.c1) := by simp [World.cell?, hb]
  have hbl : c.w.heap.size < wr.heap.size := lt_of_block hb
  rw [had] at hcell
  have HF : chanF ((Plan.parts c.P).length : Int) (Plan.chans c.P) k = if chanOk ((Plan.parts c.P).length : Int) X k = true then none else some (50, (k : Int)) := by unfold chanF; rw [chAt_some hl]
  rw [HF]
  clear hb had hX hl HF
  obtain ⟨W1, HW⟩ : ∃ W1, W1 = wr.alloc (.cells #[.int .u8 (ChanR.k X), .int .u8 (ChanR.f X), .int .u8 (ChanR.t X), .int .u8 (ChanR.z X), .int .u8 (ChanR.d X), .int .u16 (ChanR.y X)] 129) := ⟨_, rfl⟩
  have S1 : CkSt c W1 := by rw [HW]; exact S.old (bel_one _ _)
  have hc : ChanAt W1 wr.heap.size (ChanR.k X) (ChanR.f X) (ChanR.t X) (ChanR.z X) (ChanR.d X) (ChanR.y X) := by
    rw [HW]
    exact ⟨by simp, by simp, by simp, by simp, by simp, by simp, ok.k, ok.f, ok.t, ok.z, ok.d, ok.y⟩
  have hb2 : W1.cell? ⟨c.w.heap.size, 2, none⟩ = some (.slice c.v.a1 (Plan.parts c.P).length c.v.c1) := by rw [HW, World.cell?_alloc_past _ _ _ hbl]; exact hcell2
  refine wp_seq (x := pathC [0, 1, 2, 2, 1, 0, 2, 0] (ckTail 9)) (y := pathC [0, 1, 2, 2, 1, 0, 2, 1] (ckTail 9)) (wp_then (CkC c [(19, num_ k), (20, ptr_ wr.heap.size)] W1) ?_ ?_)
  · rw [HW]
    clear HW S1 hc hb2 S ok
    unfold ckF
    rw [h19]
    clear h19
    conv => arg 2; whnf
    go_wp2_with fail
    exact CkC.mk (CkFr.mk rfl rfl rfl rfl rfl rfl ⟨rfl, rfl, trivial⟩)
  · intro a1 w1 h1
    refine wp_seq (x := pathC [0, 1, 2, 2, 1, 0, 2, 1, 0] (ckTail 9)) (y := pathC [0, 1, 2, 2, 1, 0, 2, 1, 1] (ckTail 9)) (wp_then _ (ck9_q c a1 W1 w1 wr.heap.size k _ _ _ _ _ _ hc _ h1 (queueB X) rfl) ?_)
    intro a2 w2 h2
    refine wp_seq (x := pathC [0, 1, 2, 2, 1, 0, 2, 1, 1, 0] (ckTail 9)) (y := pathC [0, 1, 2, 2, 1, 0, 2, 1, 1, 1] (ckTail 9)) (wp_then _ (ck9_s c a2 W1 w2 wr.heap.size k _ _ _ _ _ _ hc _ (queueB X) h2 (sampleB X) rfl) ?_)
    intro a3 w3 h3
    exact wp_mono (ck9_t c a3 W1 w3 wr.heap.size k (Plan.parts c.P).length _ _ hb2 hnp (by omega) _ _ _ _ _ _ hc (queueB X) (sampleB X) h3 (chanOk ((Plan.parts c.P).length : Int) X k) rfl _ ⟨rfl⟩) fun e a' w' q => ckE_of_T q S1

set_option maxRecDepth 100000 in
set_option maxHeartbeats 3200000 in
theorem ck_9 (c : Ck) (a : Act) (wi : World) (hnp : (Plan.parts c.P).length ≤ 64) (S : CkS c [] a wi) : (pathC [0] (ckTail 9)).wp Tryd.prog (CkE c (scan (chanF ((Plan.parts c.P).length : Int) (Plan.chans c.P)) (Plan.chans c.P).length) []) a wi := by
  obtain ⟨⟨u, rfl, _⟩, S⟩ := S
  unfold ckF
  conv => arg 2; whnf
  have hlen : (Plan.chans c.P).length ≤ 9223372036854775807 := by
    obtain ⟨_, _, q, h⟩ := Elems.len S.plan.chans
    exact h
  have HS := Aside.mk S
  clear S
  go_wp2_with fail
  refine wp_loop_fuel (CkI c (fun k => [(19, num_ k)]) (Plan.chans c.P).length (chanF ((Plan.parts c.P).length : Int) (Plan.chans c.P))) (Plan.chans c.P).length (CkI.start (CkFr.mk rfl rfl rfl rfl rfl rfl ⟨rfl, trivial⟩) HS.out) ?_
  clear HS
  rintro m a wr ⟨k, hk, rfl, hF, ⟨u, rfl, h19, _⟩, S⟩
  unfold ckF
  rw [h19]
  have hb := S.box
  have hcell : wr.cell? ⟨c.w.heap.size, 3, none⟩ = some (.slice c.v.a2 (Plan.chans c.P).length c.v.c2) := by simp [World.cell?, hb]
  clear hb h19
  have S0 := Aside.mk S
  have F0 := Aside.mk hF
  clear S hF
  by_cases hkl : k < (Plan.chans c.P).length
  · go_upto_block 19 with fail
    refine wp_block (wp_mono (ck9_body c _ wr k hkl hnp ⟨CkFr.mk rfl rfl rfl rfl rfl rfl ⟨rfl, trivial⟩, S0.out⟩) fun e a' w' q => ?_)
    rcases CkE.of (nm' := []) q (fun r hr => scan_some F0.out hr hkl) with ⟨rfl, q2⟩ | ⟨rfl, hf, ⟨u', rfl, h19, _⟩, S⟩
    · exact q2
    · unfold ckF
      rw [h19]
      have Hf := Aside.mk hf
      have S1 := Aside.mk S
      clear hf S q h19
      go_wp2_with fail
      exact CkI.lower hkl F0.out Hf.out (CkFr.mk rfl rfl rfl rfl rfl rfl ⟨rfl, trivial⟩) S1.out
  · obtain rfl : k = (Plan.chans c.P).length := by omega
    go_wp2_with fail
    exact CkE.go F0.out (CkFr.mk rfl rfl rfl rfl rfl rfl trivial) S0.out
end Go.Proofs.YtidjkhmlpgkaaaaDoor

namespace Go.Proofs.YtidjkhmlpgkaaaaDoor
open Go.RowKit
set_option linter.unusedVariables false
set_option linter.unusedSimpArgs false

theorem allS_mem {C : List (List Win)} {x : Place} (h : x ∈ allS C) : ∃ (c i : Nat) (L : List Win), C[c]? = some L ∧ L[i]? = some (Place.w x) ∧ Place.c x = (c : Int) ∧ Place.a x = 256 * (c : Int) + (i : Int) := by
  rw [allS, List.mem_flatten] at h
  obtain ⟨l, hl, hx⟩ := h
  obtain ⟨c, hc, rfl⟩ := List.mem_mapIdx.1 hl
  obtain ⟨i, hi, rfl⟩ := List.mem_mapIdx.1 hx
  exact ⟨c, i, C[c], List.getElem?_eq_getElem hc, List.getElem?_eq_getElem hi, rfl, rfl⟩
theorem Place.cells_len (x : Place) : (Place.cells x).length = 6 := rfl

set_option maxRecDepth 100000 in
set_option maxHeartbeats 800000 in
/-- What follows all loops. -/
theorem ck_end (c : Ck) (r : Flt) (hr : r = (0, 0)) (a : Act) (wr : World) (S : CkS c [] a wr) : (ckTail 11).wp Tryd.prog (bodyPost Tryd.prog Tryd.f31 (CkPost c.w r)) a wr := by
  obtain ⟨⟨u, rfl, _⟩, S⟩ := S
  subst hr
  unfold ckF
  conv => arg 2; whnf
  have hS := Aside.mk S.below
  clear S
  go_wp2_with fail
  go_ret2
  exact ⟨rfl, hS.out⟩

set_option maxRecDepth 100000 in
theorem ckE_post {c : Ck} {o : Option Flt} {x y : Code} {a : Act} {w : World} {r : Flt} (hx : x.wp Tryd.prog (CkE c o []) a w) (h1 : ∀ f, o = some f → r = f) (h2 : o = none → ∀ a w, CkS c [] a w → y.wp Tryd.prog (bodyPost Tryd.prog Tryd.f31 (CkPost c.w r)) a w) :
    (Code.seq x y).wp Tryd.prog (bodyPost Tryd.prog Tryd.f31 (CkPost c.w r)) a w := by
  refine wp_seq (wp_mono hx fun e a' w' q => ?_)
  rcases q with ⟨rfl, ho, q⟩ | ⟨rfl, f, ho, ⟨g0, g2, g3⟩, b⟩
  · exact h2 ho a' w' q
  · obtain rfl := h1 f ho
    refine ⟨g0, _, ?_, rfl, b⟩
    simp [results, Tryd.results31, go_sem]
    exact ⟨by simpa using g2, by simpa using g3⟩

set_option maxRecDepth 100000 in
theorem ck_tail (c : Ck) (h0 : c.ex = []) (hnp : (Plan.parts c.P).length ≤ 64) (a : Act) (wr : World) (S : CkS c [] a wr) (r : Flt)
    (hr : r = (orElseF (scan (orderF (Plan.frame c.P) ((Plan.parts c.P).length : Int) c.l) c.l.length) (orElseF (scan (gangF c.l) c.l.length) (orElseF (scan (pairF ((Plan.parts c.P).length : Int) c.l (Plan.pairs c.P)) (Plan.pairs c.P).length) (orElseF (scan (chanF ((Plan.parts c.P).length : Int) (Plan.chans c.P)) (Plan.chans c.P).length) (scan (partF (Plan.parts c.P)) (Plan.parts c.P).length))))).getD (0, 0)) :
    (ckTail 6).wp Tryd.prog (bodyPost Tryd.prog Tryd.f31 (CkPost c.w r)) a wr := by
  refine ckE_post (x := pathC [0] (ckTail 6)) (y := ckTail 7) (ck_6 c a wr S) (fun f h => by rw [hr, orElse_some h]; rfl) fun h a wr S => ?_
  rw [orElse_none h] at hr
  refine ckE_post (x := pathC [0] (ckTail 7)) (y := ckTail 8) (ck_7 c a wr S _ ⟨rfl⟩) (fun f h => by rw [hr, orElse_some h]; rfl) fun h a wr S => ?_
  rw [orElse_none h] at hr
  refine ckE_post (x := pathC [0] (ckTail 8)) (y := ckTail 9) (ck_8 c h0 a wr S) (fun f h => by rw [hr, orElse_some h]; rfl) fun h a wr S => ?_
  rw [orElse_none h] at hr
  refine ckE_post (x := pathC [0] (ckTail 9)) (y := ckTail 10) (ck_9 c a wr hnp S) (fun f h => by rw [hr, orElse_some h]; rfl) fun h a wr S => ?_
  rw [orElse_none h] at hr
  refine ckE_post (x := pathC [0] (ckTail 10)) (y := ckTail 11) (ck_10 c a wr S) (fun f h => by rw [hr, h]; rfl) fun h a wr S => ?_
  rw [h] at hr
  exact ck_end c r hr a wr S

theorem many_none {C : List (List Win)} (h : scan (manyF C) C.length = none) : ∀ L ∈ C, L.length ≤ 256 := by
  intro L hL
  obtain ⟨i, hi, rfl⟩ := List.getElem_of_mem hL
  have := scan_none h i hi
  rw [manyF] at this
  rw [List.getD_eq_getElem?_getD, List.getElem?_eq_getElem hi] at this
  simp at this
  omega

/-- The frame, the row of places not yet there; the world. -/
def CkB (w W1 : World) (a : Act) (wr : World) : Prop := (∃ u : Nat → Value, a = ckF u w.heap.size (u 5)) ∧ W1 = wr
theorem CkB.mk {w W1 : World} {a : Act} (h0 : a.defers = []) (hn : a.tmps.toList.length = 496) (h1 : nthV a.tmps.toList 1 = .pointer (some ⟨w.heap.size, 0, none⟩)) (h2 : nthV a.tmps.toList 2 = .int .i64 0) (h3 : nthV a.tmps.toList 3 = .int .i64 0) : CkB w W1 a W1 :=
  ⟨⟨_, ckF_mk h0 hn h1 h2 h3 rfl⟩, rfl⟩

set_option maxRecDepth 100000 in
set_option maxHeartbeats 3200000 in
theorem ck_5 (w W1 : World) (P : Plan) (v : CkV) (hB : Below w.heap.size w W1)
    (box : W1.heap[w.heap.size]? = some (.cells #[.int .u16 (Plan.frame P), .slice v.a0 (Plan.cores P).length v.c0, .slice v.a1 (Plan.parts P).length v.c1, .slice v.a2 (Plan.chans P).length v.c2, .slice v.a3 (Plan.pairs P).length v.c3] 28 (0, 0)))
    (plan : PlanAt W1 (.slice v.a0 (Plan.cores P).length v.c0) (.slice v.a1 (Plan.parts P).length v.c1) (.slice v.a2 (Plan.chans P).length v.c2) (.slice v.a3 (Plan.pairs P).length v.c3) P)
    (hC : (Plan.cores P).length ≤ 8) (hnp : (Plan.parts P).length ≤ 64) (hL : ∀ L ∈ Plan.cores P, L.length ≤ 256) (r : Flt)
    (hr : r = (orElseF (scan (orderF (Plan.frame P) ((Plan.parts P).length : Int) (allS (Plan.cores P))) (allS (Plan.cores P)).length) (orElseF (scan (gangF (allS (Plan.cores P))) (allS (Plan.cores P)).length) (orElseF (scan (pairF ((Plan.parts P).length : Int) (allS (Plan.cores P)) (Plan.pairs P)) (Plan.pairs P).length) (orElseF (scan (chanF ((Plan.parts P).length : Int) (Plan.chans P)) (Plan.chans P).length) (scan (partF (Plan.parts P)) (Plan.parts P).length))))).getD (0, 0))
    (a : Act) (wr : World) (S : CkB w W1 a wr) : (ckTail 5).wp Tryd.prog (bodyPost Tryd.prog Tryd.f31 (CkPost w r)) a wr := by
  obtain ⟨⟨u, rfl⟩, rfl⟩ := S
  refine wp_seq (x := pathC [0] (ckTail 5)) (y := ckTail 6) (wp_then (fun a' w' => ∃ lv, CkS ⟨w, P, v, lv, []⟩ [] a' w') ?_ ?_)
  · have K := Aside.mk (all_any W1 _ P ⟨_, _, _, _, _, _, _, _, _, _, _, _, rfl, plan⟩ hC hL)
    have HB := Aside.mk (And.intro hB (And.intro box plan))
    have g0 : W1.cell? ⟨w.heap.size, 0, none⟩ = some (.int .u16 (Plan.frame P)) := by simp [World.cell?, box]
    have g1 : W1.cell? ⟨w.heap.size, 1, none⟩ = some (.slice v.a0 (Plan.cores P).length v.c0) := by simp [World.cell?, box]
    have g2 : W1.cell? ⟨w.heap.size, 2, none⟩ = some (.slice v.a1 (Plan.parts P).length v.c1) := by simp [World.cell?, box]
    have g3 : W1.cell? ⟨w.heap.size, 3, none⟩ = some (.slice v.a2 (Plan.chans P).length v.c2) := by simp [World.cell?, box]
    have g4 : W1.cell? ⟨w.heap.size, 4, none⟩ = some (.slice v.a3 (Plan.pairs P).length v.c3) := by simp [World.cell?, box]
    have HC := Aside.mk hC
    have HL := Aside.mk hL
    unfold ckF
    clear hr plan box hB hC hL
    conv => arg 2; whnf
    go_wp2_with fail
    refine K.out.mono ?_
    rintro e w' ⟨lv, rfl, hrow, b1⟩
    have X := Aside.mk (And.intro hrow b1)
    clear hrow b1 g0 g1 g2 g3 g4
    go_wp2_with fail
    obtain ⟨hrow, b1⟩ := X.out
    obtain ⟨hB, box, plan⟩ := HB.out
    refine ⟨lv, CkFr.mk rfl rfl rfl rfl rfl rfl trivial, bel_then hB b1, (b1.block _ (lt_of_block box)).trans box, plan.below b1, own_elems Place.cells Place.cells_len hrow ?_, by simp⟩
    intro x hx
    obtain ⟨ci, i, L, hc1, hi1, e1, e2⟩ := allS_mem hx
    have hci : ci < (Plan.cores P).length := (List.getElem?_eq_some_iff.1 hc1).1
    have hL2 := HL.out L (List.mem_of_getElem? hc1)
    have hii := (List.getElem?_eq_some_iff.1 hi1).1
    have h8 := HC.out
    refine ⟨rfl, ?_, by omega, by omega⟩
    obtain ⟨_, _, _, _, hw⟩ := plan.cores.at_ ci L hc1
    obtain ⟨_, _, rfl, _⟩ := hw.len
    obtain ⟨_, _, _, _, _, _, ok⟩ := hw.at_ i _ hi1
    exact ok
  · rintro a' w' ⟨lv, S⟩
    exact ck_tail ⟨w, P, v, lv, []⟩ rfl hnp a' w' S r hr
end Go.Proofs.YtidjkhmlpgkaaaaDoor

namespace Go.Proofs.YtidjkhmlpgkaaaaDoor
open Go.RowKit
set_option linter.unusedVariables false
set_option linter.unusedSimpArgs false

/-- The loop over the numbers of windows. -/
def CkM (w W1 : World) (C : List (List Win)) (m : Nat) (a : Act) (wr : World) : Prop :=
  ∃ k, k ≤ C.length ∧ m = C.length - k ∧ scan (manyF C) k = none ∧ (∃ u : Nat → Value, a = ckF u w.heap.size (u 5) ∧ u 4 = num_ k) ∧ W1 = wr

set_option maxRecDepth 100000 in
set_option maxHeartbeats 3200000 in
theorem ck_4 (w W1 : World) (P : Plan) (v : CkV) (hB : Below w.heap.size w W1)
    (box : W1.heap[w.heap.size]? = some (.cells #[.int .u16 (Plan.frame P), .slice v.a0 (Plan.cores P).length v.c0, .slice v.a1 (Plan.parts P).length v.c1, .slice v.a2 (Plan.chans P).length v.c2, .slice v.a3 (Plan.pairs P).length v.c3] 28 (0, 0)))
    (plan : PlanAt W1 (.slice v.a0 (Plan.cores P).length v.c0) (.slice v.a1 (Plan.parts P).length v.c1) (.slice v.a2 (Plan.chans P).length v.c2) (.slice v.a3 (Plan.pairs P).length v.c3) P)
    (hC : (Plan.cores P).length ≤ 8) (hnp : (Plan.parts P).length ≤ 64) (r : Flt) (hr : r = (restF P).getD (0, 0))
    (a : Act) (wr : World) (S : CkB w W1 a wr) : (ckTail 4).wp Tryd.prog (bodyPost Tryd.prog Tryd.f31 (CkPost w r)) a wr := by
  obtain ⟨⟨u, rfl⟩, rfl⟩ := S
  rw [restF] at hr
  refine wp_seq (x := pathC [0] (ckTail 4)) (y := ckTail 5) ?_
  have main : (pathC [0] (ckTail 4)).wp Tryd.prog (fun e a' w' => (e = .normal ∧ CkB w W1 a' w' ∧ scan (manyF (Plan.cores P)) (Plan.cores P).length = none) ∨ (e = .ret ∧ ∃ f, scan (manyF (Plan.cores P)) (Plan.cores P).length = some f ∧ CkRet f a' ∧ W1 = w')) (ckF u w.heap.size (u 5)) W1 := by
    obtain ⟨Q, hQ⟩ : ∃ Q : Exit → Act → World → Prop, Q = fun e a' w' => (e = .normal ∧ CkB w W1 a' w' ∧ scan (manyF (Plan.cores P)) (Plan.cores P).length = none) ∨ (e = .ret ∧ ∃ f, scan (manyF (Plan.cores P)) (Plan.cores P).length = some f ∧ CkRet f a' ∧ W1 = w') := ⟨_, rfl⟩
    rw [← hQ]
    have HQ := Aside.mk hQ
    have HC := Aside.mk plan.cores
    have hcell : W1.cell? ⟨w.heap.size, 1, none⟩ = some (.slice v.a0 (Plan.cores P).length v.c0) := by simp [World.cell?, box]
    have hlen : (Plan.cores P).length ≤ 9223372036854775807 := by omega
    clear hQ hr box plan hB
    generalize Plan.cores P = C at *
    unfold ckF
    conv => arg 2; whnf
    go_wp2_with fail
    refine wp_loop_fuel (CkM w W1 C) C.length ?_ ?_
    · exact ⟨0, by omega, rfl, rfl, ⟨_, ckF_mk rfl rfl rfl rfl rfl rfl, rfl⟩, rfl⟩
    rintro m a wr ⟨k, hk, rfl, hF, ⟨u, rfl, h4⟩, rfl⟩
    have F0 := Aside.mk hF
    unfold ckF
    rw [h4]
    clear hF h4
    by_cases hkl : k < C.length
    · have hl := List.getElem?_eq_getElem hkl
      obtain ⟨L, hL⟩ : ∃ L, C[k] = L := ⟨_, rfl⟩
      rw [hL] at hl
      obtain ⟨ad, lv, had, hlv, hwins⟩ := HC.out.at_ k L hl
      obtain ⟨la, lc, rfl, hlL⟩ := hwins.len
      have HF : Aside (manyF C k = if 256 < L.length then some (43, (k : Int)) else none) := ⟨by
        rw [manyF, List.getD_eq_getElem?_getD, hl]; rfl⟩
      rw [had] at hcell
      clear hL hl hwins had
      by_cases h256 : 256 < L.length
      · have h256' : (256 : Int) < (L.length : Int) := by omega
        go_wp2_with fail
        rw [HQ.out]
        exact .inr ⟨rfl, (43, (k : Int)), scan_some F0.out (by rw [HF.out, if_pos h256]) hkl, ⟨rfl, rfl, rfl⟩, rfl⟩
      · go_wp2_with fail
        exact ⟨C.length - (k + 1), by omega, k + 1, by omega, rfl, by rw [scan_succ F0.out, HF.out, if_neg h256], ⟨_, ckF_mk rfl rfl rfl rfl rfl rfl, rfl⟩, rfl⟩
    · obtain rfl : k = C.length := by omega
      go_wp2_with fail
      rw [HQ.out]
      exact .inl ⟨rfl, CkB.mk rfl rfl rfl rfl rfl, F0.out⟩
  refine wp_mono main fun e a' w' q => ?_
  rcases q with ⟨rfl, q, hm⟩ | ⟨rfl, f, hf, ⟨g0, g2, g3⟩, rfl⟩
  · rw [orElse_none hm] at hr
    exact ck_5 w W1 P v hB box plan hC hnp (many_none hm) r hr a' w' q
  · rw [orElse_some hf] at hr
    subst hr
    refine ⟨g0, _, ?_, rfl, hB⟩
    simp [results, Tryd.results31, go_sem]
    exact ⟨by simpa using g2, by simpa using g3⟩

set_option maxHeartbeats 3200000 in
set_option maxRecDepth 100000 in
theorem check_any (w : World) (v : Value) (P : Plan) (hv : PlanV w v P) :
    Calls Tryd.prog 31 #[v] w fun e w' => e = .returned (.tuple #[.int .i64 (checkS P).1, .int .i64 (checkS P).2]) ∧ Below w.heap.size w w' := by
  obtain ⟨a0, n0, c0, a1, n1, c1, a2, n2, c2, a3, n3, c3, rfl, hp⟩ := hv
  obtain ⟨_, _, q, hlen⟩ := hp.cores.len
  obtain ⟨rfl, rfl, rfl⟩ : a0 = _ ∧ n0 = _ ∧ c0 = _ := by injection q with q1 q2 q3; exact ⟨q1, q2, q3⟩
  clear q
  obtain ⟨_, _, q, hlen1⟩ := Elems.len hp.parts
  obtain ⟨rfl, rfl, rfl⟩ : a1 = _ ∧ n1 = _ ∧ c1 = _ := by injection q with q1 q2 q3; exact ⟨q1, q2, q3⟩
  clear q
  obtain ⟨_, _, q, hlen2⟩ := Elems.len hp.chans
  obtain ⟨rfl, rfl, rfl⟩ : a2 = _ ∧ n2 = _ ∧ c2 = _ := by injection q with q1 q2 q3; exact ⟨q1, q2, q3⟩
  clear q
  obtain ⟨_, _, q, hlen3⟩ := Elems.len hp.pairs
  obtain ⟨rfl, rfl, rfl⟩ : a3 = _ ∧ n3 = _ ∧ c3 = _ := by injection q with q1 q2 q3; exact ⟨q1, q2, q3⟩
  clear q
  have HP := Aside.mk hp
  obtain ⟨f0, f1⟩ := hp.frame
  clear hp
  have HE : Aside (checkS P = if Plan.frame P = 0 then (40, 0)
    else if (Plan.cores P).length < 1 ∨ 8 < (Plan.cores P).length then (41, ((Plan.cores P).length : Int))
    else if (Plan.parts P).length < 1 ∨ 64 < (Plan.parts P).length then (42, ((Plan.parts P).length : Int))
    else (restF P).getD (0, 0)) := ⟨rfl⟩
  by_cases h1 : Plan.frame P = 0
  · have hs : checkS P = (40, 0) := by rw [HE.out, if_pos h1]
    rw [hs]
    clear hs HE HP
    generalize Plan.frame P = fr at *
    subst h1
    go_enter Tryd.func31, Tryd.ntmps31
    go_wp2_with fail
    go_ret2
    exact ⟨rfl, bel_one _ _⟩
  have hf : 0 < Plan.frame P := by omega
  have h1' : (Plan.frame P == 0) = false := by simp [h1]
  by_cases h2 : (Plan.cores P).length < 1 ∨ 8 < (Plan.cores P).length
  · have hs : checkS P = (41, ((Plan.cores P).length : Int)) := by rw [HE.out, if_neg h1, if_pos h2]
    rw [hs]
    clear hs HE HP
    rcases h2 with h2 | h2
    all_goals
      go_enter Tryd.func31, Tryd.ntmps31
      go_wp2_with fail
      go_quiet (fail)
      go_wp2_with fail
      go_ret2
      exact ⟨rfl, bel_drewN (bel_one _ _) _⟩
  by_cases h3 : (Plan.parts P).length < 1 ∨ 64 < (Plan.parts P).length
  · have hs : checkS P = (42, ((Plan.parts P).length : Int)) := by rw [HE.out, if_neg h1, if_neg h2, if_pos h3]
    rw [hs]
    clear hs HE HP
    have h4 : 1 ≤ (Plan.cores P).length := by omega
    have h5 : (Plan.cores P).length ≤ 8 := by omega
    clear h2
    rcases h3 with h3 | h3
    all_goals
      go_enter Tryd.func31, Tryd.ntmps31
      go_wp2_with fail
      go_quiet (fail)
      go_wp2_with fail
      go_ret2
      exact ⟨rfl, bel_drewN (bel_one _ _) _⟩
  have hs : checkS P = (restF P).getD (0, 0) := by rw [HE.out, if_neg h1, if_neg h2, if_neg h3]
  have HR := Aside.mk hs
  have h4 : 1 ≤ (Plan.cores P).length := by omega
  have h5 : (Plan.cores P).length ≤ 8 := by omega
  have h6 : 1 ≤ (Plan.parts P).length := by omega
  have h7 : (Plan.parts P).length ≤ 64 := by omega
  clear hs HE h2 h3
  obtain ⟨W1, HW⟩ : ∃ W1, Aside (W1 = w.alloc (.cells #[.int .u16 (Plan.frame P), .slice a0 (Plan.cores P).length c0, .slice a1 (Plan.parts P).length c1, .slice a2 (Plan.chans P).length c2, .slice a3 (Plan.pairs P).length c3] 28)) := ⟨_, ⟨rfl⟩⟩
  have hB : Aside (Below w.heap.size w W1) := ⟨by rw [HW.out]; exact bel_one _ _⟩
  have hbox : Aside (W1.heap[w.heap.size]? = some (.cells #[.int .u16 (Plan.frame P), .slice a0 (Plan.cores P).length c0, .slice a1 (Plan.parts P).length c1, .slice a2 (Plan.chans P).length c2, .slice a3 (Plan.pairs P).length c3] 28 (0, 0))) := ⟨by rw [HW.out]; exact heap_alloc_new _ _⟩
  have g0 : W1.cell? ⟨w.heap.size, 0, none⟩ = some (.int .u16 (Plan.frame P)) := by have := hbox.out; simp [World.cell?, this]
  have g1 : W1.cell? ⟨w.heap.size, 1, none⟩ = some (.slice a0 (Plan.cores P).length c0) := by have := hbox.out; simp [World.cell?, this]
  have g2 : W1.cell? ⟨w.heap.size, 2, none⟩ = some (.slice a1 (Plan.parts P).length c1) := by have := hbox.out; simp [World.cell?, this]
  go_enter Tryd.func31, Tryd.ntmps31
  refine wp_seq (x := pathC [0] (ckTail 0)) (y := ckTail 1) (wp_then (CkB w W1) ?_ ?_)
  · conv => arg 2; whnf
    go_wp2_with fail
    rw [← HW.out]
    exact CkB.mk rfl rfl rfl rfl rfl
  rintro a' w' ⟨⟨u, rfl⟩, rfl⟩
  refine wp_seq (x := pathC [0] (ckTail 1)) (y := ckTail 2) (wp_then (CkB w W1) ?_ ?_)
  · unfold ckF
    conv => arg 2; whnf
    go_wp2_with fail
    exact CkB.mk rfl rfl rfl rfl rfl
  rintro a' w' ⟨⟨u, rfl⟩, rfl⟩
  refine wp_seq (x := pathC [0] (ckTail 2)) (y := ckTail 3) (wp_then (CkB w W1) ?_ ?_)
  · unfold ckF
    conv => arg 2; whnf
    go_wp2_with fail
    exact CkB.mk rfl rfl rfl rfl rfl
  rintro a' w' ⟨⟨u, rfl⟩, rfl⟩
  refine wp_seq (x := pathC [0] (ckTail 3)) (y := ckTail 4) (wp_then (CkB w W1) ?_ ?_)
  · unfold ckF
    conv => arg 2; whnf
    go_wp2_with fail
    exact CkB.mk rfl rfl rfl rfl rfl
  intro a' w' S
  exact ck_4 w W1 P ⟨a0, c0, a1, c1, a2, c2, a3, c3⟩ hB.out hbox.out (HP.out.below hB.out) h5 h7 (checkS P) HR.out a' w' S
end Go.Proofs.YtidjkhmlpgkaaaaDoor
