/- The rules' reference: the check's loop over the windows' order: the whole. -/
import Derived.Test.YtpcjjmjmigibhaaDoorRulJ
namespace Go.Proofs.YtpcjjmjmigibhaaDoor
open Go.RowKit
set_option linter.unusedVariables false
set_option linter.unusedSimpArgs false

set_option maxRecDepth 100000 in
set_option maxHeartbeats 3200000 in
theorem ck6_body (c : Ck) (a : Act) (wr : World) (k : Nat) (hkl : k < c.l.length) (S : CkS c [(6, num_ k)] a wr) :
    (pathC [0, 1, 2, 2, 1, 0, 2] (ckTail 6)).wp Tryd.prog (CkE c (orderF (Plan.frame c.P) ((Plan.parts c.P).length : Int) c.l k) [(6, num_ k)]) a wr := by
  obtain ⟨⟨u, rfl, h6, _⟩, S⟩ := S
  obtain ⟨la, lcap, q, hlen⟩ := Elems.len S.places
  have hP := S.places
  rw [q] at hP
  have Hq := Aside.mk q
  have hfr := S.plan.frame
  obtain ⟨y, hl⟩ : ∃ y, c.l[k]? = some y := ⟨_, List.getElem?_eq_getElem hkl⟩
  obtain ⟨ad, rfl, e0, e1, e2, e3, e4, e5, ok, okc, _⟩ := Places.at_ hP k y hl
  obtain ⟨W1, HW⟩ : ∃ W1, W1 = wr.alloc (winCells (Place.w y)) := ⟨_, rfl⟩
  have S1 : CkSt c W1 := by rw [HW]; exact S.old (bel_one _ _)
  have hX : W1.heap[wr.heap.size]? = some (winCells (Place.w y)) := by rw [HW]; exact heap_alloc_new _ _
  obtain ⟨bh, hbh⟩ : ∃ bh, bh = behindS c.l k := ⟨_, rfl⟩
  have hb2 : 0 ≤ bh ∧ bh ≤ 131070 := by
    rw [hbh, behindS]
    split
    · rcases k with _ | j
      · simp_all
      · obtain ⟨x, hx⟩ : ∃ x, c.l[j]? = some x := ⟨_, List.getElem?_eq_getElem (by omega)⟩
        obtain ⟨_, _, _, _, _, _, _, _, okx, _⟩ := Places.at_ hP j x hx
        rw [show j + 1 - 1 = j from rfl, plAt_some hx, endS]
        have := okx.s
        have := okx.l
        omega
    · omega
  refine wp_seq (x := pathC [0, 1, 2, 2, 1, 0, 2, 0] (ckTail 6)) (y := pathC [0, 1, 2, 2, 1, 0, 2, 1] (ckTail 6)) (wp_then (CkC c [(6, num_ k), (7, ptr_ wr.heap.size)] W1) ?_ ?_)
  · have HHW := Aside.mk HW
    unfold winCells at HHW
    have hkl' : (k : Int) < (c.l.length : Int) := by omega
    unfold ckF
    rw [h6, q]
    clear h6 S1 HW S hl hX hP q hbh hb2 e0 e1
    conv => arg 2; whnf
    go_wp2_with fail
    rw [← HHW.out]
    exact CkC.mk (CkFr.mk rfl rfl rfl rfl rfl Hq.out.symm ⟨rfl, rfl, trivial⟩)
  · rintro a1 w1 ⟨⟨u1, rfl, g6, g7, _⟩, m1, rfl⟩
    refine wp_seq (x := pathC [0, 1, 2, 2, 1, 0, 2, 1, 0] (ckTail 6)) (y := pathC [0, 1, 2, 2, 1, 0, 2, 1, 1] (ckTail 6)) (wp_then (CkC c [(6, num_ k), (7, ptr_ wr.heap.size), (8, .int .i64 0)] W1) ?_ ?_)
    · unfold ckF
      rw [g6, g7]
      clear h6 S1 HW S hl hX hP q hbh hb2 e0 e1 g6 g7 e2 e3 e4 e5 ok hfr
      conv => arg 2; whnf
      go_wp2_with fail
      exact CkC.mkN (CkFr.mk rfl rfl rfl rfl rfl rfl ⟨rfl, rfl, rfl, trivial⟩)
    · intro a2 w2 h2
      refine wp_seq (x := pathC [0, 1, 2, 2, 1, 0, 2, 1, 1, 0] (ckTail 6)) (y := pathC [0, 1, 2, 2, 1, 0, 2, 1, 1, 1] (ckTail 6)) (wp_then _ (ck6_b c a2 W1 w2 k wr.heap.size hkl S1 h2 bh ⟨hbh⟩ _) ?_)
      intro a3 w3 h3
      exact ck6_t c a3 W1 w3 k wr.heap.size y hl hfr bh ⟨hbh, hb2⟩ S1 hX h3 _ ⟨rfl⟩

set_option maxRecDepth 100000 in
set_option maxHeartbeats 3200000 in
theorem ck_6 (c : Ck) (a : Act) (wi : World) (S : CkS c [] a wi) : (pathC [0] (ckTail 6)).wp Tryd.prog (CkE c (scan (orderF (Plan.frame c.P) ((Plan.parts c.P).length : Int) c.l) c.l.length) []) a wi := by
  obtain ⟨⟨u, rfl, _⟩, S⟩ := S
  obtain ⟨la, lcap, q, hlen⟩ := Elems.len S.places
  have Hq := Aside.mk q
  unfold ckF
  rw [q]
  conv => arg 2; whnf
  have HS := Aside.mk S
  clear S q
  go_wp2_with fail
  refine wp_loop_fuel (CkI c (fun k => [(6, num_ k)]) c.l.length (orderF (Plan.frame c.P) ((Plan.parts c.P).length : Int) c.l)) c.l.length ?_ ?_
  · exact CkI.start (CkFr.mk rfl rfl rfl rfl rfl Hq.out.symm ⟨rfl, trivial⟩) HS.out
  clear HS
  rintro m a wr ⟨k, hk, rfl, hF, ⟨u, rfl, h6, _⟩, S⟩
  unfold ckF
  rw [h6, Hq.out]
  have S0 := Aside.mk S
  have F0 := Aside.mk hF
  clear S hF h6
  by_cases hkl : k < c.l.length
  · have hkl' : (k : Int) < (c.l.length : Int) := by omega
    go_upto_block 3 with fail
    refine wp_block (wp_mono (ck6_body c _ wr k hkl ⟨CkFr.mk rfl rfl rfl rfl rfl (by exact Hq.out.symm) ⟨rfl, trivial⟩, S0.out⟩) fun e a' w' q => ?_)
    rcases CkE.of (nm' := []) q (fun r hr => scan_some F0.out hr hkl) with ⟨rfl, q2⟩ | ⟨rfl, hf, ⟨u', rfl, h6, _⟩, S⟩
    · exact q2
    · unfold ckF
      rw [h6]
      have Hf := Aside.mk hf
      have S1 := Aside.mk S
      clear hf S q h6
      go_wp2_with fail
      exact CkI.lower hkl F0.out Hf.out (CkFr.mk rfl rfl rfl rfl rfl rfl ⟨rfl, trivial⟩) S1.out
  · obtain rfl : k = c.l.length := by omega
    go_wp2_with fail
    exact CkE.go F0.out (CkFr.mk rfl rfl rfl rfl rfl Hq.out.symm trivial) S0.out
end Go.Proofs.YtpcjjmjmigibhaaDoor
