/- Plans that are the same: cores, partitions. -/
import Derived.Test.YtbphlapdhcgikaaDoorSamA
namespace Go.Proofs.YtbphlapdhcgikaaDoor
open Go.RowKit
set_option linter.unusedVariables false
set_option linter.unusedSimpArgs false

theorem same1_any (w : World) (v u : Value) (L M : List Win) (hv : Wins w v L) (hu : Wins w u M) : Calls Tryd.prog 44 #[v, u] w fun e w' => e = .returned (.bool (eqL L M)) ∧ Below w.heap.size w w' := by
  have K := Aside.mk (equal_win w v u L M hv hu)
  clear hv hu
  go_enter Tryd.func44, Tryd.ntmps44
  go_wp2_with fail
  refine K.out.mono ?_
  rintro e w2 ⟨rfl, b2⟩
  have B2 := Aside.mk b2
  clear b2
  go_wp2_with fail
  go_ret
  exact ⟨rfl, B2.out⟩
theorem callFunc_same1 (args : Array Value) (w : World) : (callFunc 44 args).run Tryd.prog w = .ok (.enter 44 args) w := by kernel_rfl
theorem callFunc_same2 (args : Array Value) (w : World) : (callFunc 46 args).run Tryd.prog w = .ok (.enter 46 args) w := by kernel_rfl
set_option maxHeartbeats 6400000 in
theorem equalF_core (w : World) (v u : Value) (L M : List (List Win)) (hv : Cores w v L) (hu : Cores w u M) :
    Calls Tryd.prog 49 #[v, u, .func (.func 44) #[] #[]] w fun e w' => e = .returned (.bool (eqL L M)) ∧ Below w.heap.size w w' := by
  have HV := Aside.mk hv
  have HU := Aside.mk hu
  obtain ⟨a, ca, rfl, hl⟩ := Elems.len hv
  obtain ⟨b, cb, rfl, hm⟩ := Elems.len hu
  have HD : Aside (∀ (j : Nat) (x y : List Win), L[j]? = some x → M[j]? = some y → x ≠ y → eqL L M = false) := ⟨fun j x y h1 h2 h3 => eqL_no (fun e => h3 (by rw [e, h2] at h1; exact (Option.some.inj h1).symm))⟩
  have HN : Aside (L.length ≠ M.length → eqL L M = false) := ⟨fun h => eqL_no (fun e => h (by rw [e]))⟩
  have HT : Aside (L.length = M.length → L.take L.length = M.take L.length → eqL L M = true) := ⟨fun h k => eqL_yes (list_ext2 h k)⟩
  have cf := callFunc_same1
  clear hv hu
  by_cases e1 : L.length = M.length
  case neg =>
    have e1' : ((L.length : Int) == (M.length : Int)) = false := by simp; omega
    have FF := Aside.mk (HN.out e1)
    clear e1
    go_enter Tryd.func49, Tryd.ntmps49
    go_wp2_with fail
    go_ret
    exact ⟨ret_bool FF.out.symm, Below.refl _ _⟩
  have E1 := Aside.mk e1
  have e1' : ((L.length : Int) == (M.length : Int)) = true := by simp; omega
  have e1'' : ((L.length : Int) != (M.length : Int)) = false := by simp; omega
  clear e1
  go_enter Tryd.func49, Tryd.ntmps49
  go_wp2_with fail
  clear e1' e1''
  go_loopg [17] L.length (fun g i wr => ∃ k : Nat, k ≤ L.length ∧ g = L.length - k ∧ i = .int .i64 k ∧ Aside (Below w.heap.size w wr ∧ L.take k = M.take k))
  case atStart => exact ⟨0, by omega, rfl, rfl, ⟨Below.refl _ _, by simp⟩⟩
  case round =>
    obtain ⟨j, hj, rfl, rfl, T⟩ := hrel
    by_cases hjl : j < L.length
    · have hx := List.getElem?_eq_getElem hjl
      have hjl' : j < M.length := by have := E1.out; omega
      have hy := List.getElem?_eq_getElem hjl'
      obtain ⟨x, hX⟩ : ∃ x, L[j] = x := ⟨_, rfl⟩
      obtain ⟨y, hY⟩ : ∃ x, M[j] = x := ⟨_, rfl⟩
      rw [hX] at hx
      rw [hY] at hy
      obtain ⟨ax, lv, rfl, p0, wx⟩ := (HV.out.below T.out.1).at_ j x hx
      obtain ⟨ay, lu, rfl, q0, wy⟩ := (HU.out.below T.out.1).at_ j y hy
      have HXY := Aside.mk (And.intro hx hy)
      have K := Aside.mk (same1_any wr lv lu x y wx wy)
      obtain ⟨_, _, rfl, _⟩ := wx.len
      obtain ⟨_, _, rfl, _⟩ := wy.len
      clear hx hy hX hY wx wy
      have jj : (j : Int) < (M.length : Int) := by omega
      obtain ⟨bq, hbq⟩ : ∃ bq, eqL x y = bq := ⟨_, rfl⟩
      rw [hbq] at K
      have HBQ := Aside.mk hbq
      clear hbq
      go_wp2_with fail
      refine K.out.mono ?_
      rintro e w2 ⟨rfl, b2⟩
      have B2 := Aside.mk (bel_then T.out.1 b2)
      clear b2 p0 q0
      cases bq
      · have exy : x ≠ y := fun h => by have := HBQ.out; rw [eqL_yes h] at this; cases this
        have FF := Aside.mk (HD.out j x y HXY.out.1 HXY.out.2 exy)
        clear exy
        go_wp2_with fail
        go_ret
        exact ⟨ret_bool FF.out.symm, B2.out⟩
      · have exy : Aside (x = y) := ⟨by
          rcases Classical.em (x = y) with h | h
          · exact h
          · have := HBQ.out; rw [eqL_no h] at this; cases this⟩
        go_wp2_with fail
        go_roundg (L.length - (j + 1))
        case measure => omega
        case rel => exact ⟨j + 1, by omega, rfl, by go_num, ⟨B2.out, take_eq HXY.out.1 (by rw [exy.out]; exact HXY.out.2) T.out.2⟩⟩
    · obtain rfl : j = L.length := by omega
      have FF := Aside.mk (HT.out E1.out T.out.2)
      clear hjl hj
      go_wp2_with fail
      go_ret
      exact ⟨ret_bool FF.out.symm, T.out.1⟩
theorem boxc6' {w : World} {B : Nat} {x0 x1 x2 x3 x4 x5 : Value} {t : TypeId} {fr : Nat × Nat} (h : w.heap[B]? = some (.cells #[x0, x1, x2, x3, x4, x5] t fr)) : w.cell? ⟨B, 0, none⟩ = some x0 ∧ w.cell? ⟨B, 1, none⟩ = some x1 ∧ w.cell? ⟨B, 2, none⟩ = some x2 ∧ w.cell? ⟨B, 3, none⟩ = some x3 ∧ w.cell? ⟨B, 4, none⟩ = some x4 ∧ w.cell? ⟨B, 5, none⟩ = some x5 := by
  simp [World.cell?, h]
/-- A partition's values. -/
def partVal (sv pv : Value) (x : PartR) : Value := .agg #[sv, .int .u8 (PartR.events x), pv, .int .u8 (PartR.a0 x), .int .u8 (PartR.a1 x), .int .u8 (PartR.a2 x)]
noncomputable def eqP (x y : PartR) : Bool := @decide (x = y) (Classical.propDecidable _)
theorem eqP_yes {x y : PartR} (h : x = y) : eqP x y = true := @decide_eq_true _ (Classical.propDecidable _) h
theorem eqP_no {x y : PartR} (h : x ≠ y) : eqP x y = false := @decide_eq_false _ (Classical.propDecidable _) h
theorem eqP_parts {x y : PartR} (lx : (PartR.acts x).length = 3) (ly : (PartR.acts y).length = 3) : eqP x y = (eqL (PartR.sems x) (PartR.sems y) && (PartR.events x == PartR.events y) && eqL (PartR.procs x) (PartR.procs y) && (PartR.a0 x == PartR.a0 y && PartR.a1 x == PartR.a1 y && PartR.a2 x == PartR.a2 y)) := by
  rcases Classical.em (x = y) with h | h
  · subst h
    rw [eqP_yes rfl, eqL_yes rfl, eqL_yes rfl]
    simp
  · rw [eqP_no h]
    symm
    rcases Classical.em (PartR.sems x = PartR.sems y) with h1 | h1
    · rcases Classical.em (PartR.procs x = PartR.procs y) with h3 | h3
      · rw [eqL_yes h1, eqL_yes h3]
        simp only [Bool.true_and, Bool.and_true]
        rw [Bool.eq_false_iff]
        intro q
        simp only [Bool.and_eq_true, beq_iff_eq] at q
        exact h (part_ext h1 q.1 h3 lx ly q.2.1.1 q.2.1.2 q.2.2)
      · rw [eqL_no h3]; simp
    · rw [eqL_no h1]; simp
set_option maxHeartbeats 6400000 in
set_option maxRecDepth 100000 in
theorem same2_any (w : World) (sv pv su pu : Value) (x y : PartR) (hx : PartAt w sv pv x) (hy : PartAt w su pu y) : Calls Tryd.prog 46 #[partVal sv pv x, partVal su pu y] w fun e w' => e = .returned (.bool (eqP x y)) ∧ Below w.heap.size w w' := by
  rw [eqP_parts hx.len hy.len]
  obtain ⟨W1, HW⟩ : ∃ W1, Aside (W1 = (w.alloc (.cells #[sv, .int .u8 (PartR.events x), pv, .int .u8 (PartR.a0 x), .int .u8 (PartR.a1 x), .int .u8 (PartR.a2 x)] 56)).alloc (.cells #[su, .int .u8 (PartR.events y), pu, .int .u8 (PartR.a0 y), .int .u8 (PartR.a1 y), .int .u8 (PartR.a2 y)] 56)) := ⟨_, ⟨rfl⟩⟩
  have B1 : Aside (Below w.heap.size w W1 ∧ W1.heap[w.heap.size]? = some (.cells #[sv, .int .u8 (PartR.events x), pv, .int .u8 (PartR.a0 x), .int .u8 (PartR.a1 x), .int .u8 (PartR.a2 x)] 56 (0, 0)) ∧ W1.heap[w.heap.size + 1]? = some (.cells #[su, .int .u8 (PartR.events y), pu, .int .u8 (PartR.a0 y), .int .u8 (PartR.a1 y), .int .u8 (PartR.a2 y)] 56 (0, 0))) := ⟨by
    rw [HW.out]; exact ⟨bel_two _ _ _, heap_up (heap_alloc_new _ _), heap_top _ _ _ (by simp)⟩⟩
  have KS := Aside.mk (fun W (h : Below w.heap.size w W) => equal_sem W sv su _ _ (hx.below h).sems (hy.below h).sems)
  have KP := Aside.mk (fun W (h : Below w.heap.size w W) => equal_u8 W pv pu _ _ (hx.below h).procs (hy.below h).procs)
  have ae := acts_equalIn
  obtain ⟨sa, sc', pa, pc', rfl, rfl, _, _⟩ := hx.lens
  obtain ⟨ta, tc', qa, qc', rfl, rfl, _, _⟩ := hy.lens
  unfold partVal
  generalize eqL (PartR.sems x) (PartR.sems y) = b1 at *
  generalize eqL (PartR.procs x) (PartR.procs y) = b2 at *
  obtain ⟨x0, x1, x2, x3, x4, x5⟩ := boxc6' B1.out.2.1
  obtain ⟨y0, y1, y2, y3, y4, y5⟩ := boxc6' B1.out.2.2
  clear hx hy
  go_enter Tryd.func46, Tryd.ntmps46
  go_upto_region 1 with (fail)
  rw [← HW.out]
  go_wp2_with fail
  refine (KS.out _ B1.out.1).mono ?_
  rintro e w2 ⟨rfl, b2⟩
  have B2 := Aside.mk b2
  clear b2 x0 x1 x2 x3 x4 x5 y0 y1 y2 y3 y4 y5
  obtain ⟨x0, x1, x2, x3, x4, x5⟩ := boxc6' (hupS B2.out B1.out.2.1)
  obtain ⟨y0, y1, y2, y3, y4, y5⟩ := boxc6' (hupS B2.out B1.out.2.2)
  cases b1
  · go_wp2_with fail
    go_ret
    exact ⟨ret_bool (by simp), bel_then B1.out.1 B2.out⟩
  · by_cases qe : PartR.events x = PartR.events y
    case neg =>
      have qe' : (PartR.events x == PartR.events y) = false := by simp [qe]
      have QE := Aside.mk qe'
      clear qe
      go_wp2_with fail
      go_ret
      exact ⟨ret_bool (by rw [QE.out]; simp), bel_then B1.out.1 B2.out⟩
    have qe' : (PartR.events x == PartR.events y) = true := by simp [qe]
    rw [qe]
    clear qe'
    rw [qe] at x1 B1 HW
    have QE : Aside ((PartR.events x == PartR.events y) = true) := ⟨by simp [qe]⟩
    clear qe
    have hee : (PartR.events y == PartR.events y) = true := by simp
    go_wp2_with fail
    refine (KP.out _ (bel_then B1.out.1 B2.out)).mono ?_
    rintro e w3 ⟨rfl, b3⟩
    have B3 := Aside.mk (bel_then B2.out b3)
    clear b3 x0 x1 x2 x3 x4 x5 y0 y1 y2 y3 y4 y5
    obtain ⟨x0, x1, x2, x3, x4, x5⟩ := boxc6' (hupS B3.out B1.out.2.1)
    obtain ⟨y0, y1, y2, y3, y4, y5⟩ := boxc6' (hupS B3.out B1.out.2.2)
    cases b2
    · go_wp2_with fail
      go_ret
      exact ⟨ret_bool (by simp), bel_then B1.out.1 B3.out⟩
    · obtain ⟨bz, hbz⟩ : ∃ bz, (PartR.a0 x == PartR.a0 y && PartR.a1 x == PartR.a1 y && PartR.a2 x == PartR.a2 y) = bz := ⟨_, rfl⟩
      have HBZ := Aside.mk hbz
      have ae2 := fun W => ae W (PartR.a0 x) (PartR.a1 x) (PartR.a2 x) (PartR.a0 y) (PartR.a1 y) (PartR.a2 y)
      simp only [hbz] at ae2
      clear ae hbz
      go_wp2_with fail
      go_ret
      exact ⟨ret_bool (by rw [QE.out, HBZ.out]; simp), bel_then B1.out.1 B3.out⟩
end Go.Proofs.YtbphlapdhcgikaaDoor
