/- Plans that are the same: plan.Same. -/
import Derived.Test.YtbphlapdhcgikaaDoorSamB
namespace Go.Proofs.YtbphlapdhcgikaaDoor
open Go.RowKit
set_option linter.unusedVariables false
set_option linter.unusedSimpArgs false

set_option maxHeartbeats 6400000 in
set_option maxRecDepth 100000 in
theorem equalF_part (w : World) (v u : Value) (L M : List PartR) (hv : Parts w v L) (hu : Parts w u M) :
    Calls Tryd.prog 50 #[v, u, .func (.func 46) #[] #[]] w fun e w' => e = .returned (.bool (eqL L M)) ∧ Below w.heap.size w w' := by
  have HV := Aside.mk hv
  have HU := Aside.mk hu
  obtain ⟨a, ca, rfl, hl⟩ := Elems.len hv
  obtain ⟨b, cb, rfl, hm⟩ := Elems.len hu
  have HD : Aside (∀ (j : Nat) (x y : PartR), L[j]? = some x → M[j]? = some y → x ≠ y → eqL L M = false) := ⟨fun j x y h1 h2 h3 => eqL_no (fun e => h3 (by rw [e, h2] at h1; exact (Option.some.inj h1).symm))⟩
  have HN : Aside (L.length ≠ M.length → eqL L M = false) := ⟨fun h => eqL_no (fun e => h (by rw [e]))⟩
  have HT : Aside (L.length = M.length → L.take L.length = M.take L.length → eqL L M = true) := ⟨fun h k => eqL_yes (list_ext2 h k)⟩
  have cf := callFunc_same2
  clear hv hu
  by_cases e1 : L.length = M.length
  case neg =>
    have e1' : ((L.length : Int) == (M.length : Int)) = false := by simp; omega
    have FF := Aside.mk (HN.out e1)
    clear e1
    go_enter Tryd.func50, Tryd.ntmps50
    go_wp2_with fail
    go_ret
    exact ⟨ret_bool FF.out.symm, Below.refl _ _⟩
  have E1 := Aside.mk e1
  have e1' : ((L.length : Int) == (M.length : Int)) = true := by simp; omega
  have e1'' : ((L.length : Int) != (M.length : Int)) = false := by simp; omega
  clear e1
  go_enter Tryd.func50, Tryd.ntmps50
  go_wp2_with fail
  clear e1' e1''
  go_loopg [17] L.length (fun g i wr => ∃ k : Nat, k ≤ L.length ∧ g = L.length - k ∧ i = .int .i64 k ∧ Aside (Below w.heap.size w wr ∧ L.take k = M.take k))
  case atStart => exact ⟨0, by omega, rfl, rfl, ⟨Below.refl _ _, by simp⟩⟩
  case round =>
    obtain ⟨j, hj, rfl, rfl, T⟩ := hrel
    by_cases hjl : j < L.length
    · have hx := List.getElem?_eq_getElem hjl
      have hjl' : j < M.length := by have := E1.out; omega
      have hy := List.getElem?_eq_getElem hjl'
      obtain ⟨x, hX⟩ : ∃ x, L[j] = x := ⟨_, rfl⟩
      obtain ⟨y, hY⟩ : ∃ x, M[j] = x := ⟨_, rfl⟩
      rw [hX] at hx
      rw [hY] at hy
      obtain ⟨ax, sv, pv, rfl, d0, d1, d2, d3, d4, d5, okx⟩ := Parts.at_ (elems_below HV.out T.out.1) j x hx
      obtain ⟨ay, su, pu, rfl, g0, g1, g2, g3, g4, g5, oky⟩ := Parts.at_ (elems_below HU.out T.out.1) j y hy
      have HXY := Aside.mk (And.intro hx hy)
      obtain ⟨W2, HW2⟩ : ∃ W2, Aside (W2 = (wr.alloc (.cells #[sv, .int .u8 (PartR.events x), pv, .int .u8 (PartR.a0 x), .int .u8 (PartR.a1 x), .int .u8 (PartR.a2 x)] 56)).alloc (.cells #[su, .int .u8 (PartR.events y), pu, .int .u8 (PartR.a0 y), .int .u8 (PartR.a1 y), .int .u8 (PartR.a2 y)] 56)) := ⟨_, ⟨rfl⟩⟩
      have B2 : Aside (Below wr.heap.size wr W2 ∧ W2.heap[wr.heap.size]? = some (.cells #[sv, .int .u8 (PartR.events x), pv, .int .u8 (PartR.a0 x), .int .u8 (PartR.a1 x), .int .u8 (PartR.a2 x)] 56 (0, 0)) ∧ W2.heap[wr.heap.size + 1]? = some (.cells #[su, .int .u8 (PartR.events y), pu, .int .u8 (PartR.a0 y), .int .u8 (PartR.a1 y), .int .u8 (PartR.a2 y)] 56 (0, 0))) := ⟨by
        rw [HW2.out]; exact ⟨bel_two _ _ _, heap_up (heap_alloc_new _ _), heap_top _ _ _ (by simp)⟩⟩
      have K := same2_any W2 sv pv su pu x y (okx.below B2.out.1) (oky.below B2.out.1)
      unfold partVal at K
      have K := Aside.mk K
      obtain ⟨sa, sc', pa, pc', rfl, rfl, _, _⟩ := okx.lens
      obtain ⟨ta, tc', qa, qc', rfl, rfl, _, _⟩ := oky.lens
      obtain ⟨x0, x1, x2, x3, x4, x5⟩ := boxc6' B2.out.2.1
      obtain ⟨y0, y1, y2, y3, y4, y5⟩ := boxc6' B2.out.2.2
      clear hx hy hX hY okx oky
      have jj : (j : Int) < (M.length : Int) := by omega
      obtain ⟨bq, hbq⟩ : ∃ bq, eqP x y = bq := ⟨_, rfl⟩
      rw [hbq] at K
      have HBQ := Aside.mk hbq
      clear hbq
      have hblt : (ay.add (j * 6)).block < wr.heap.size := World.block_lt_of_cell? wr _ g0
      go_upto_region 7 with (fail)
      rw [← HW2.out]
      clear hblt
      clear d0 d1 d2 d3 d4 d5 g0 g1 g2 g3 g4 g5
      go_wp2_with fail
      refine K.out.mono ?_
      rintro e w2 ⟨rfl, b2⟩
      have B3 := Aside.mk (bel_then (bel_then T.out.1 B2.out.1) b2)
      clear b2 x0 x1 x2 x3 x4 x5 y0 y1 y2 y3 y4 y5
      cases bq
      · have exy : x ≠ y := fun h => by have := HBQ.out; rw [eqP_yes h] at this; cases this
        have FF := Aside.mk (HD.out j x y HXY.out.1 HXY.out.2 exy)
        clear exy
        go_wp2_with fail
        go_ret
        exact ⟨ret_bool FF.out.symm, B3.out⟩
      · have exy : Aside (x = y) := ⟨by
          rcases Classical.em (x = y) with h | h
          · exact h
          · have := HBQ.out; rw [eqP_no h] at this; cases this⟩
        go_wp2_with fail
        go_roundg (L.length - (j + 1))
        case measure => omega
        case rel => exact ⟨j + 1, by omega, rfl, by go_num, ⟨B3.out, take_eq HXY.out.1 (by rw [exy.out]; exact HXY.out.2) T.out.2⟩⟩
    · obtain rfl : j = L.length := by omega
      have FF := Aside.mk (HT.out E1.out T.out.2)
      clear hjl hj
      go_wp2_with fail
      go_ret
      exact ⟨ret_bool FF.out.symm, T.out.1⟩
theorem eqB_parts (P Q : Plan) : eqB P Q = ((Plan.frame P == Plan.frame Q) && eqL (Plan.cores P) (Plan.cores Q) && eqL (Plan.parts P) (Plan.parts Q) && eqL (Plan.chans P) (Plan.chans Q) && eqL (Plan.pairs P) (Plan.pairs Q)) := by
  rcases Classical.em (P = Q) with h | h
  · subst h
    rw [eqB_yes rfl, eqL_yes rfl, eqL_yes rfl, eqL_yes rfl, eqL_yes rfl]
    simp
  · rw [eqB_no h]
    symm
    rw [Bool.eq_false_iff]
    intro q
    simp only [Bool.and_eq_true, beq_iff_eq] at q
    have key : ∀ {α : Type} {L M : List α}, eqL L M = true → L = M := fun {α L M} e => by
      rcases Classical.em (L = M) with h | h
      · exact h
      · rw [eqL_no h] at e; cases e
    exact h (plan_ext q.1.1.1.1 (key q.1.1.1.2) (key q.1.1.2) (key q.1.2) (key q.2))
set_option maxHeartbeats 6400000 in
set_option maxRecDepth 100000 in
theorem same_any (w : World) (v u : Value) (P Q : Plan) (hv : PlanV w v P) (hu : PlanV w u Q) : Calls Tryd.prog 19 #[v, u] w fun e w' => e = .returned (.bool (eqB P Q)) ∧ Below w.heap.size w w' := by
  rw [eqB_parts]
  obtain ⟨a0, c0, a1, c1, a2, c2, a3, c3, rfl, hp, hlen⟩ := hv.open_
  obtain ⟨b0, d0, b1, d1, b2, d2, b3, d3, rfl, hq, hlen'⟩ := hu.open_
  obtain ⟨W1, HW⟩ : ∃ W1, Aside (W1 = (w.alloc (.cells #[.int .u16 (Plan.frame P), .slice a0 (Plan.cores P).length c0, .slice a1 (Plan.parts P).length c1, .slice a2 (Plan.chans P).length c2, .slice a3 (Plan.pairs P).length c3] 28)).alloc (.cells #[.int .u16 (Plan.frame Q), .slice b0 (Plan.cores Q).length d0, .slice b1 (Plan.parts Q).length d1, .slice b2 (Plan.chans Q).length d2, .slice b3 (Plan.pairs Q).length d3] 28)) := ⟨_, ⟨rfl⟩⟩
  have B1 : Aside (Below w.heap.size w W1 ∧ W1.heap[w.heap.size]? = some (.cells #[.int .u16 (Plan.frame P), .slice a0 (Plan.cores P).length c0, .slice a1 (Plan.parts P).length c1, .slice a2 (Plan.chans P).length c2, .slice a3 (Plan.pairs P).length c3] 28 (0, 0)) ∧ W1.heap[w.heap.size + 1]? = some (.cells #[.int .u16 (Plan.frame Q), .slice b0 (Plan.cores Q).length d0, .slice b1 (Plan.parts Q).length d1, .slice b2 (Plan.chans Q).length d2, .slice b3 (Plan.pairs Q).length d3] 28 (0, 0))) := ⟨by
    rw [HW.out]; exact ⟨bel_two _ _ _, heap_up (heap_alloc_new _ _), heap_top _ _ _ (by simp)⟩⟩
  have K1 := Aside.mk (fun W (h : Below w.heap.size w W) => equalF_core W _ _ _ _ (hp.cores.below h) (hq.cores.below h))
  have K2 := Aside.mk (fun W (h : Below w.heap.size w W) => equalF_part W _ _ _ _ (elems_below hp.parts h) (elems_below hq.parts h))
  have K3 := Aside.mk (fun W (h : Below w.heap.size w W) => equal_chan W _ _ _ _ (elems_below hp.chans h) (elems_below hq.chans h))
  have K4 := Aside.mk (fun W (h : Below w.heap.size w W) => equal_pair W _ _ _ _ (elems_below hp.pairs h) (elems_below hq.pairs h))
  generalize eqL (Plan.cores P) (Plan.cores Q) = e1 at *
  generalize eqL (Plan.parts P) (Plan.parts Q) = e2 at *
  generalize eqL (Plan.chans P) (Plan.chans Q) = e3 at *
  generalize eqL (Plan.pairs P) (Plan.pairs Q) = e4 at *
  obtain ⟨x0, x1, x2, x3, x4⟩ := box5 B1.out.2.1
  obtain ⟨y0, y1, y2, y3, y4⟩ := box5 B1.out.2.2
  obtain ⟨bf, hbf⟩ : ∃ bf, (Plan.frame P == Plan.frame Q) = bf := ⟨_, rfl⟩
  rw [hbf]
  clear hp hq hv hu
  cases bf
  · go_enter Tryd.func19, Tryd.ntmps19
    go_upto_region 1 with (fail)
    rw [← HW.out]
    go_wp2_with fail
    go_ret
    exact ⟨ret_bool (by simp), B1.out.1⟩
  · go_enter Tryd.func19, Tryd.ntmps19
    go_upto_region 1 with (fail)
    rw [← HW.out]
    go_wp2_with fail
    refine (K1.out _ B1.out.1).mono ?_
    rintro e w2 ⟨rfl, bb⟩
    have B2 : Aside (Below W1.heap.size W1 w2) := ⟨bb⟩
    clear bb x0 x1 x2 x3 x4 y0 y1 y2 y3 y4
    obtain ⟨x0, x1, x2, x3, x4⟩ := box5 (hupS B2.out B1.out.2.1)
    obtain ⟨y0, y1, y2, y3, y4⟩ := box5 (hupS B2.out B1.out.2.2)
    cases e1
    · go_wp2_with fail
      go_ret
      exact ⟨ret_bool (by simp), bel_then B1.out.1 B2.out⟩
    go_wp2_with fail
    refine (K2.out _ (bel_then B1.out.1 B2.out)).mono ?_
    rintro e w3 ⟨rfl, bb⟩
    have B3 := Aside.mk (bel_then B2.out bb)
    clear bb x0 x1 x2 x3 x4 y0 y1 y2 y3 y4
    obtain ⟨x0, x1, x2, x3, x4⟩ := box5 (hupS B3.out B1.out.2.1)
    obtain ⟨y0, y1, y2, y3, y4⟩ := box5 (hupS B3.out B1.out.2.2)
    cases e2
    · go_wp2_with fail
      go_ret
      exact ⟨ret_bool (by simp), bel_then B1.out.1 B3.out⟩
    go_wp2_with fail
    refine (K3.out _ (bel_then B1.out.1 B3.out)).mono ?_
    rintro e w4 ⟨rfl, bb⟩
    have B4 := Aside.mk (bel_then B3.out bb)
    clear bb x0 x1 x2 x3 x4 y0 y1 y2 y3 y4
    obtain ⟨x0, x1, x2, x3, x4⟩ := box5 (hupS B4.out B1.out.2.1)
    obtain ⟨y0, y1, y2, y3, y4⟩ := box5 (hupS B4.out B1.out.2.2)
    cases e3
    · go_wp2_with fail
      go_ret
      exact ⟨ret_bool (by simp), bel_then B1.out.1 B4.out⟩
    go_wp2_with fail
    refine (K4.out _ (bel_then B1.out.1 B4.out)).mono ?_
    rintro e w5 ⟨rfl, bb⟩
    have B5 := Aside.mk (bel_then B4.out bb)
    clear bb x0 x1 x2 x3 x4 y0 y1 y2 y3 y4
    cases e4
    all_goals
      go_wp2_with fail
      go_ret
      exact ⟨ret_bool (by simp), bel_then B1.out.1 B5.out⟩
end Go.Proofs.YtbphlapdhcgikaaDoor
