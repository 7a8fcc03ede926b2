/- The rules' reference: the check's loop over the windows' order. The rules' reference: the check's loop over the windows' order: the whole. -/
import Derived.Test.YtidjkhmlpgkaaaaDoorMgRb
import Derived.Deep.CutBlock
import Derived.IntWalk
namespace Go.Proofs.YtidjkhmlpgkaaaaDoor
open Go.RowKit
set_option linter.unusedVariables false
set_option linter.unusedSimpArgs false

theorem drewN3 (W : World) (a b d : Nat) : ((W.drewN a).drewN b).drewN d = W.drewN (a + b + d) := by rw [World.drewN_drewN, World.drewN_drewN, Nat.add_assoc]

set_option maxRecDepth 100000 in
set_option maxHeartbeats 3200000 in
theorem ck6_b (c : Ck) (a : Act) (W1 wr : World) (i X : Nat) (hi : i < c.l.length) (S : CkSt c W1) (V : CkC c [(6, num_ i), (7, ptr_ X), (8, .int .i64 0)] W1 a wr) (bh : Int) (hbh : Aside (bh = behindS c.l i)) (Q : Exit → Act → World → Prop) :
    (pathC [0, 1, 2, 2, 1, 0, 2, 1, 1, 0] (ckTail 6)).wp Tryd.prog (Exit.then (CkC c [(6, num_ i), (7, ptr_ X), (8, .int .i64 bh)] W1) Q) a wr := by
  obtain ⟨⟨u, rfl, h6, h7, h8, _⟩, m, rfl⟩ := V
  have hP := S.places
  obtain ⟨_, lcap, q, hlen⟩ := Elems.len hP
  rw [q] at hP
  have Hq := Aside.mk q
  obtain ⟨y, hy⟩ : ∃ y, c.l[i]? = some y := ⟨_, List.getElem?_eq_getElem hi⟩
  obtain ⟨ad, rfl, d0, d1, d2, d3, d4, d5, ok', okc', _⟩ := Places.at_ hP i y hy
  rcases i with _ | j
  · have HN : Aside (bh = 0) := ⟨by rw [hbh.out, behindS, if_neg (by simp)]⟩
    have h6' : u 6 = .int .i64 0 := h6.trans (by show Value.int .i64 _ = Value.int .i64 _; simp)
    have hz : decide ((0 : Int) < 0) = false := by decide
    unfold ckF
    rw [h6', h7, h8, q]
    clear h6 h6' h7 h8 S hbh hP q hy
    conv => arg 2; whnf
    go_wp2_with fail
    go_quiet (fail)
    go_wp2_with fail
    refine ⟨CkFr.mk rfl rfl rfl rfl rfl Hq.out.symm ⟨rfl, rfl, by show Value.int .i64 _ = Value.int .i64 _; rw [HN.out], trivial⟩, ?_⟩
    first | exact ⟨_, rfl⟩ | exact ⟨_, (World.drewN_drewN _ _ _).symm⟩ | exact ⟨_, (drewN3 _ _ _ _).symm⟩
  · obtain ⟨x, hx⟩ : ∃ x, c.l[j]? = some x := ⟨_, List.getElem?_eq_getElem (by omega)⟩
    obtain ⟨ad', q', e0, e1, e2, e3, e4, e5, ok, okc, _⟩ := Places.at_ hP j x hx
    obtain rfl : ad = ad' := by injection q'
    have HB : Aside (bh = if Place.c x = Place.c y then endS (Place.w x) else 0) := ⟨by
      rw [hbh.out, behindS, plAt_some hy, show j + 1 - 1 = j from rfl, plAt_some hx]
      by_cases h : Place.c x = Place.c y
      · rw [if_pos ⟨by omega, h⟩, if_pos h]
      · rw [if_neg (fun q => h q.2), if_neg h]⟩
    unfold endS at HB
    obtain ⟨⟨s0, s1⟩, ⟨l0, l1⟩, _, _⟩ := ok
    have h6' : u 6 = .int .i64 ((j : Int) + 1) := h6.trans (by show Value.int .i64 _ = Value.int .i64 _; simp)
    have hj1 : IntKind.i64.wrap ((j : Int) + 1 - 1) = (j : Int) := by rw [Int.add_sub_cancel]; exact IntWalk.i64_in _ (by omega)
    have hj2 : (j : Int) < (c.l.length : Int) := by omega
    have hj3 : ((j : Int) + 1) < (c.l.length : Int) := by omega
    have hj4 : (j + 1) < c.l.length := by omega
    have hj5 : (0 : Int) < (j : Int) + 1 := by omega
    have hj6 : ((j : Int) + 1).toNat = j + 1 := by omega
    unfold ckF
    rw [h6', h7, h8, q]
    clear h6 h6' h7 h8 S hbh hP q hy hx q'
    generalize Place.c x = cx at *
    generalize Place.c y = cy at *
    generalize Win.s (Place.w x) = sx at *
    generalize Win.l (Place.w x) = lx at *
    have hw : IntKind.i64.wrap (sx + lx) = sx + lx := IntWalk.i64_in _ (by omega)
    conv => arg 2; whnf
    by_cases t : cx = cy
    · have HN : Aside (bh = sx + lx) := ⟨by rw [HB.out, if_pos t]⟩
      subst t
      go_wp2_with fail
      go_quiet (fail)
      go_wp2_with fail
      go_quiet (fail)
      go_wp2_with fail
      refine ⟨CkFr.mk rfl rfl rfl rfl rfl Hq.out.symm ⟨by show Value.int .i64 _ = Value.int .i64 _; simp, rfl, by show Value.int .i64 _ = Value.int .i64 _; rw [HN.out], trivial⟩, ?_⟩
      first | exact ⟨_, rfl⟩ | exact ⟨_, (World.drewN_drewN _ _ _).symm⟩ | exact ⟨_, (drewN3 _ _ _ _).symm⟩
    · have HN : Aside (bh = 0) := ⟨by rw [HB.out, if_neg t]⟩
      have T : (cx == cy) = false := by simp [t]
      go_wp2_with fail
      go_quiet (fail)
      go_wp2_with fail
      refine ⟨CkFr.mk rfl rfl rfl rfl rfl Hq.out.symm ⟨by show Value.int .i64 _ = Value.int .i64 _; simp, rfl, by show Value.int .i64 _ = Value.int .i64 _; rw [HN.out], trivial⟩, ?_⟩
      first | exact ⟨_, rfl⟩ | exact ⟨_, (World.drewN_drewN _ _ _).symm⟩ | exact ⟨_, (drewN3 _ _ _ _).symm⟩

set_option maxRecDepth 100000 in
set_option maxHeartbeats 6400000 in
theorem ck6_t (c : Ck) (a : Act) (W1 wr : World) (i X : Nat) (y : Place) (hy : c.l[i]? = some y) (hfr : 0 ≤ Plan.frame c.P ∧ Plan.frame c.P ≤ 65535) (bh : Int) (hbh : Aside (bh = behindS c.l i ∧ 0 ≤ bh ∧ bh ≤ 131070)) (S : CkSt c W1) (hX : W1.heap[X]? = some (winCells (Place.w y))) (V : CkC c [(6, num_ i), (7, ptr_ X), (8, .int .i64 bh)] W1 a wr) (o : Option Flt) (ho : Aside (o = orderF (Plan.frame c.P) ((Plan.parts c.P).length : Int) c.l i)) :
    (pathC [0, 1, 2, 2, 1, 0, 2, 1, 1, 1] (ckTail 6)).wp Tryd.prog (CkE c o [(6, num_ i)]) a wr := by
  obtain ⟨⟨u, rfl, h6, h7, h8, _⟩, m, rfl⟩ := V
  have hP := S.places
  obtain ⟨_, lcap, q, hlen⟩ := Elems.len hP
  rw [q] at hP
  have Hq := Aside.mk q
  obtain ⟨ad, rfl, d0, d1, d2, d3, d4, d5, ok, okc, _⟩ := Places.at_ hP i y hy
  have hi := (List.getElem?_eq_some_iff.1 hy).1
  have hlen1 : (Plan.parts c.P).length ≤ 9223372036854775807 := by
    obtain ⟨_, _, q, h⟩ := Elems.len S.plan.parts
    exact h
  have hb := S.box
  have hc0 : W1.cell? ⟨c.w.heap.size, 0, none⟩ = some (.int .u16 (Plan.frame c.P)) := by simp [World.cell?, hb]
  have hc2 : W1.cell? ⟨c.w.heap.size, 2, none⟩ = some (.slice c.v.a1 (Plan.parts c.P).length c.v.c1) := by simp [World.cell?, hb]
  obtain ⟨x0, x1, x2, x3⟩ := win_box hX
  have S0 := Aside.mk S
  have HO : Aside (o = if Win.l (Place.w y) = 0 ∨ Win.s (Place.w y) < bh ∨ Plan.frame c.P < Win.s (Place.w y) + Win.l (Place.w y) then some (44, Place.a y) else if ((Plan.parts c.P).length : Int) ≤ Win.p (Place.w y) then some (45, Place.a y) else none) := ⟨by
    rw [ho.out, orderF, plAt_some hy, hbh.out.1]; rfl⟩
  obtain ⟨⟨s0, s1⟩, ⟨l0, l1⟩, ⟨p0, p1⟩, _⟩ := ok
  obtain ⟨hb0, hb1⟩ := hbh.out.2
  obtain ⟨f0, f1⟩ := hfr
  unfold ckF
  rw [h6, h7, h8, q]
  clear h6 h7 h8 S ho hP q hy hbh hb hX
  generalize Win.s (Place.w y) = sy at *
  generalize Win.l (Place.w y) = ly at *
  generalize Win.p (Place.w y) = py at *
  generalize Plan.frame c.P = fr at *
  generalize Place.a y = ay at *
  conv => arg 2; whnf
  by_cases t1 : ly = 0
  · have HN := Aside.mk (HO.out.trans (by rw [if_pos (.inl t1)]))
    subst t1
    clear HO
    go_wp2_with fail
    go_quiet (fail)
    go_wp2_with fail
    exact CkE.stop HN.out rfl rfl rfl ((S0.out.drewN _).drewN _).below
  by_cases t2 : sy < bh
  · have HN := Aside.mk (HO.out.trans (by rw [if_pos (.inr (.inl t2))]))
    clear HO
    go_wp2_with fail
    go_quiet (fail)
    go_wp2_with fail
    exact CkE.stop HN.out rfl rfl rfl ((S0.out.drewN _).drewN _).below
  by_cases t3 : fr < sy + ly
  · have HN := Aside.mk (HO.out.trans (by rw [if_pos (.inr (.inr t3))]))
    clear HO
    go_wp2_with fail
    go_quiet (fail)
    go_wp2_with fail
    exact CkE.stop HN.out rfl rfl rfl ((S0.out.drewN _).drewN _).below
  by_cases t4 : ((Plan.parts c.P).length : Int) ≤ py
  · have HN := Aside.mk (HO.out.trans (by rw [if_neg (by omega), if_pos t4]))
    clear HO
    go_wp2_with fail
    go_quiet (fail)
    go_wp2_with fail
    exact CkE.stop HN.out rfl rfl rfl ((S0.out.drewN _).drewN _).below
  · have HN := Aside.mk (HO.out.trans (by rw [if_neg (by omega), if_neg t4]))
    clear HO
    go_wp2_with fail
    exact CkE.go HN.out (CkFr.mk rfl rfl rfl rfl rfl Hq.out.symm ⟨rfl, trivial⟩) (S0.out.drewN _)
end Go.Proofs.YtidjkhmlpgkaaaaDoor

namespace Go.Proofs.YtidjkhmlpgkaaaaDoor
open Go.RowKit
set_option linter.unusedVariables false
set_option linter.unusedSimpArgs false

set_option maxRecDepth 100000 in
set_option maxHeartbeats 3200000 in
theorem ck6_body (c : Ck) (a : Act) (wr : World) (k : Nat) (hkl : k < c.l.length) (S : CkS c [(6, num_ k)] a wr) :
    (pathC [0, 1, 2, 2, 1, 0, 2] (ckTail 6)).wp Tryd.prog (CkE c (orderF (Plan.frame c.P) ((Plan.parts c.P).length : Int) c.l k) [(6, num_ k)]) a wr := by
  obtain ⟨⟨u, rfl, h6, _⟩, S⟩ := S
  obtain ⟨la, lcap, q, hlen⟩ := Elems.len S.places
  have hP := S.places
  rw [q] at hP
  have Hq := Aside.mk q
  have hfr := S.plan.frame
  obtain ⟨y, hl⟩ : ∃ y, c.l[k]? = some y := ⟨_, List.getElem?_eq_getElem hkl⟩
  obtain ⟨ad, rfl, e0, e1, e2, e3, e4, e5, ok, okc, _⟩ := Places.at_ hP k y hl
  obtain ⟨W1, HW⟩ : ∃ W1, W1 = wr.alloc (winCells (Place.w y)) := ⟨_, rfl⟩
  have S1 : CkSt c W1 := by rw [HW]; exact S.old (bel_one _ _)
  have hX : W1.heap[wr.heap.size]? = some (winCells (Place.w y)) := by rw [HW]; exact heap_alloc_new _ _
  obtain ⟨bh, hbh⟩ : ∃ bh, bh = behindS c.l k := ⟨_, rfl⟩
  have hb2 : 0 ≤ bh ∧ bh ≤ 131070 := by
    rw [hbh, behindS]
    split
    · rcases k with _ | j
      · simp_all
      · obtain ⟨x, hx⟩ : ∃ x, c.l[j]? = some x := ⟨_, List.getElem?_eq_getElem (by omega)⟩
        obtain ⟨_, _, _, _, _, _, _, _, okx, _⟩ := Places.at_ hP j x hx
        rw [show j + 1 - 1 = j from rfl, plAt_some hx, endS]
        have := okx.s
        have := okx.l
        omega
    · omega
  refine wp_seq (x := pathC [0, 1, 2, 2, 1, 0, 2, 0] (ckTail 6)) (y := pathC [0, 1, 2, 2, 1, 0, 2, 1] (ckTail 6)) (wp_then (CkC c [(6, num_ k), (7, ptr_ wr.heap.size)] W1) ?_ ?_)
  · have HHW := Aside.mk HW
    unfold winCells at HHW
    have hkl' : (k : Int) < (c.l.length : Int) := by omega
    unfold ckF
    rw [h6, q]
    clear h6 S1 HW S hl hX hP q hbh hb2 e0 e1
    conv => arg 2; whnf
    go_wp2_with fail
    rw [← HHW.out]
    exact CkC.mk (CkFr.mk rfl rfl rfl rfl rfl Hq.out.symm ⟨rfl, rfl, trivial⟩)
  · rintro a1 w1 ⟨⟨u1, rfl, g6, g7, _⟩, m1, rfl⟩
    refine wp_seq (x := pathC [0, 1, 2, 2, 1, 0, 2, 1, 0] (ckTail 6)) (y := pathC [0, 1, 2, 2, 1, 0, 2, 1, 1] (ckTail 6)) (wp_then (CkC c [(6, num_ k), (7, ptr_ wr.heap.size), (8, .int .i64 0)] W1) ?_ ?_)
    · unfold ckF
      rw [g6, g7]
      clear h6 S1 HW S hl hX hP q hbh hb2 e0 e1 g6 g7 e2 e3 e4 e5 ok hfr
      conv => arg 2; whnf
      go_wp2_with fail
      exact CkC.mkN (CkFr.mk rfl rfl rfl rfl rfl rfl ⟨rfl, rfl, rfl, trivial⟩)
    · intro a2 w2 h2
      refine wp_seq (x := pathC [0, 1, 2, 2, 1, 0, 2, 1, 1, 0] (ckTail 6)) (y := pathC [0, 1, 2, 2, 1, 0, 2, 1, 1, 1] (ckTail 6)) (wp_then _ (ck6_b c a2 W1 w2 k wr.heap.size hkl S1 h2 bh ⟨hbh⟩ _) ?_)
      intro a3 w3 h3
      exact ck6_t c a3 W1 w3 k wr.heap.size y hl hfr bh ⟨hbh, hb2⟩ S1 hX h3 _ ⟨rfl⟩

set_option maxRecDepth 100000 in
set_option maxHeartbeats 3200000 in
theorem ck_6 (c : Ck) (a : Act) (wi : World) (S : CkS c [] a wi) : (pathC [0] (ckTail 6)).wp Tryd.prog (CkE c (scan (orderF (Plan.frame c.P) ((Plan.parts c.P).length : Int) c.l) c.l.length) []) a wi := by
  obtain ⟨⟨u, rfl, _⟩, S⟩ := S
  obtain ⟨la, lcap, q, hlen⟩ := Elems.len S.places
  have Hq := Aside.mk q
  unfold ckF
  rw [q]
  conv => arg 2; whnf
  have HS := Aside.mk S
  clear S q
  go_wp2_with fail
  refine wp_loop_fuel (CkI c (fun k => [(6, num_ k)]) c.l.length (orderF (Plan.frame c.P) ((Plan.parts c.P).length : Int) c.l)) c.l.length ?_ ?_
  · exact CkI.start (CkFr.mk rfl rfl rfl rfl rfl Hq.out.symm ⟨rfl, trivial⟩) HS.out
  clear HS
  rintro m a wr ⟨k, hk, rfl, hF, ⟨u, rfl, h6, _⟩, S⟩
  unfold ckF
  rw [h6, Hq.out]
  have S0 := Aside.mk S
  have F0 := Aside.mk hF
  clear S hF h6
  by_cases hkl : k < c.l.length
  · have hkl' : (k : Int) < (c.l.length : Int) := by omega
    go_upto_block 3 with fail
    refine wp_block (wp_mono (ck6_body c _ wr k hkl ⟨CkFr.mk rfl rfl rfl rfl rfl (by exact Hq.out.symm) ⟨rfl, trivial⟩, S0.out⟩) fun e a' w' q => ?_)
    rcases CkE.of (nm' := []) q (fun r hr => scan_some F0.out hr hkl) with ⟨rfl, q2⟩ | ⟨rfl, hf, ⟨u', rfl, h6, _⟩, S⟩
    · exact q2
    · unfold ckF
      rw [h6]
      have Hf := Aside.mk hf
      have S1 := Aside.mk S
      clear hf S q h6
      go_wp2_with fail
      exact CkI.lower hkl F0.out Hf.out (CkFr.mk rfl rfl rfl rfl rfl rfl ⟨rfl, trivial⟩) S1.out
  · obtain rfl : k = c.l.length := by omega
    go_wp2_with fail
    exact CkE.go F0.out (CkFr.mk rfl rfl rfl rfl rfl Hq.out.symm trivial) S0.out
end Go.Proofs.YtidjkhmlpgkaaaaDoor
