/- The reference's equality of plans. -/
import Derived.Test.YtbphlapdhcgikaaDoorApp3
import Derived.Test.YtbphlapdhcgikaaDoorAct3
import Derived.Deep.CutBlock
import Derived.Deep.RegionHeld3
namespace Go.Proofs.YtbphlapdhcgikaaDoor
open Go.RowKit
set_option linter.unusedVariables false
set_option linter.unusedSimpArgs false

theorem hupS {a b : World} (h : Below a.heap.size a b) {k : Nat} {o : Obj} (hk : a.heap[k]? = some o) : b.heap[k]? = some o := (h.block k (lt_of_block hk)).trans hk
theorem list_ext2 {α : Type} {a b : List α} (hl : a.length = b.length) (h : a.take a.length = b.take a.length) : a = b := by
  rw [List.take_length, hl, List.take_length] at h; exact h
theorem take_ne {α : Type} {a b : List α} {k : Nat} {x y : α} (hx : a[k]? = some x) (hy : b[k]? = some y) (h : x ≠ y) : a ≠ b := by
  rintro rfl; rw [hx] at hy; injection hy with e; exact h e
theorem take_eq {α : Type} {a b : List α} {k : Nat} {x : α} (hx : a[k]? = some x) (hy : b[k]? = some x) (h : a.take k = b.take k) : a.take (k + 1) = b.take (k + 1) := by rw [take_snoc hx, take_snoc hy, h]
open Classical in
/-- Are two plans the same? -/
noncomputable def eqB (P Q : Plan) : Bool := if P = Q then true else false
theorem eqB_yes {P Q : Plan} (h : P = Q) : eqB P Q = true := by unfold eqB; rw [if_pos h]
theorem eqB_no {P Q : Plan} (h : P ≠ Q) : eqB P Q = false := by unfold eqB; rw [if_neg h]
theorem plan_ext {P Q : Plan} (h1 : Plan.frame P = Plan.frame Q) (h2 : Plan.cores P = Plan.cores Q) (h3 : Plan.parts P = Plan.parts Q) (h4 : Plan.chans P = Plan.chans Q) (h5 : Plan.pairs P = Plan.pairs Q) : P = Q := by
  obtain ⟨f, C, A, H, q, u⟩ := P
  obtain ⟨f', C', A', H', q', u'⟩ := Q
  have e1 : f = f' := h1
  have e2 : C = C' := h2
  have e3 : A = A' := h3
  have e4 : H = H' := h4
  have e5 : q = q' := h5
  rw [e1, e2, e3, e4, e5]
theorem part_ext {x y : PartR} (h1 : PartR.sems x = PartR.sems y) (h2 : PartR.events x = PartR.events y) (h3 : PartR.procs x = PartR.procs y) (l1 : (PartR.acts x).length = 3) (l2 : (PartR.acts y).length = 3) (h4 : PartR.a0 x = PartR.a0 y) (h5 : PartR.a1 x = PartR.a1 y) (h6 : PartR.a2 x = PartR.a2 y) : x = y := by
  obtain ⟨S, e, p, A, u⟩ := x
  obtain ⟨S', e', p', A', u'⟩ := y
  have e1 : S = S' := h1
  have e2 : e = e' := h2
  have e3 : p = p' := h3
  match A, l1, A', l2 with
  | [a, b, c], _, [a', b', c'], _ =>
    have e4 : a = a' := h4
    have e5 : b = b' := h5
    have e6 : c = c' := h6
    rw [e1, e2, e3, e4, e5, e6]
/-- The two plans' boxes. -/
structure SmSt (W1 : World) (w : World) (a : World) : Prop where
  below : Below W1.heap.size W1 a
set_option maxHeartbeats 12800000 in
set_option maxRecDepth 100000 in
theorem rsame3_any (w : World) (v u : Value) (P Q : Plan) (hv : PlanV w v P) (hu : PlanV w u Q) :
    Calls Tryd.prog 17 #[v, u] w fun e w' => e = .returned (.bool (eqB P Q)) ∧ Below w.heap.size w w' := by
  obtain ⟨a0, c0, a1, c1, a2, c2, a3, c3, rfl, hp, hlen⟩ := hv.open_
  obtain ⟨b0, d0, b1, d1, b2, d2, b3, d3, rfl, hq, hlen'⟩ := hu.open_
  have HP := Aside.mk hp
  have HQ := Aside.mk hq
  obtain ⟨i0, i1⟩ := hp.frame
  obtain ⟨j0, j1⟩ := hq.frame
  have lP1 : (Plan.parts P).length ≤ 9223372036854775807 := (Elems.len hp.parts).choose_spec.choose_spec.2
  have lP2 : (Plan.chans P).length ≤ 9223372036854775807 := (Elems.len hp.chans).choose_spec.choose_spec.2
  have lP3 : (Plan.pairs P).length ≤ 9223372036854775807 := (Elems.len hp.pairs).choose_spec.choose_spec.2
  have hN1 : Aside (∀ {α : Type} (f : Plan → α), f P ≠ f Q → eqB P Q = false) := ⟨fun f h => eqB_no (fun e => h (by rw [e]))⟩
  have hY : Aside (Plan.frame P = Plan.frame Q → Plan.cores P = Plan.cores Q → Plan.parts P = Plan.parts Q → Plan.chans P = Plan.chans Q → Plan.pairs P = Plan.pairs Q → eqB P Q = true) := ⟨fun h1 h2 h3 h4 h5 => eqB_yes (plan_ext h1 h2 h3 h4 h5)⟩
  have F1 := Aside.mk (hN1.out Plan.frame)
  have F2 := Aside.mk (hN1.out Plan.cores)
  have F3 := Aside.mk (hN1.out Plan.parts)
  have F4 := Aside.mk (hN1.out Plan.chans)
  have F5 := Aside.mk (hN1.out Plan.pairs)
  clear hN1
  generalize eqB P Q = dPQ at *
  obtain ⟨W1, HW⟩ : ∃ W1, Aside (W1 = (w.alloc (.cells #[.int .u16 (Plan.frame P), .slice a0 (Plan.cores P).length c0, .slice a1 (Plan.parts P).length c1, .slice a2 (Plan.chans P).length c2, .slice a3 (Plan.pairs P).length c3] 28)).alloc (.cells #[.int .u16 (Plan.frame Q), .slice b0 (Plan.cores Q).length d0, .slice b1 (Plan.parts Q).length d1, .slice b2 (Plan.chans Q).length d2, .slice b3 (Plan.pairs Q).length d3] 28)) := ⟨_, ⟨rfl⟩⟩
  have hb1 : Aside (Below w.heap.size w W1 ∧ W1.heap[w.heap.size]? = some (.cells #[.int .u16 (Plan.frame P), .slice a0 (Plan.cores P).length c0, .slice a1 (Plan.parts P).length c1, .slice a2 (Plan.chans P).length c2, .slice a3 (Plan.pairs P).length c3] 28 (0, 0)) ∧ W1.heap[w.heap.size + 1]? = some (.cells #[.int .u16 (Plan.frame Q), .slice b0 (Plan.cores Q).length d0, .slice b1 (Plan.parts Q).length d1, .slice b2 (Plan.chans Q).length d2, .slice b3 (Plan.pairs Q).length d3] 28 (0, 0))) := ⟨by
    rw [HW.out]; exact ⟨bel_two _ _ _, heap_up (heap_alloc_new _ _), heap_top _ _ _ (by simp)⟩⟩
  clear hp hq hv hu
  obtain ⟨f, hf⟩ : ∃ f, Plan.frame P = f := ⟨_, rfl⟩
  obtain ⟨C, hC⟩ : ∃ f, Plan.cores P = f := ⟨_, rfl⟩
  obtain ⟨A, hA⟩ : ∃ f, Plan.parts P = f := ⟨_, rfl⟩
  obtain ⟨H, hH⟩ : ∃ f, Plan.chans P = f := ⟨_, rfl⟩
  obtain ⟨q, hq⟩ : ∃ f, Plan.pairs P = f := ⟨_, rfl⟩
  obtain ⟨f', hf'⟩ : ∃ f, Plan.frame Q = f := ⟨_, rfl⟩
  obtain ⟨C', hC'⟩ : ∃ f, Plan.cores Q = f := ⟨_, rfl⟩
  obtain ⟨A', hA'⟩ : ∃ f, Plan.parts Q = f := ⟨_, rfl⟩
  obtain ⟨H', hH'⟩ : ∃ f, Plan.chans Q = f := ⟨_, rfl⟩
  obtain ⟨q', hq'⟩ : ∃ f, Plan.pairs Q = f := ⟨_, rfl⟩
  have RC : Aside (Cores w (.slice a0 C.length c0) C ∧ Cores w (.slice b0 C'.length d0) C') := ⟨by rw [← hC, ← hC']; exact ⟨HP.out.cores, HQ.out.cores⟩⟩
  have RA : Aside (Parts w (.slice a1 A.length c1) A ∧ Parts w (.slice b1 A'.length d1) A') := ⟨by rw [← hA, ← hA']; exact ⟨HP.out.parts, HQ.out.parts⟩⟩
  have RH : Aside (Chans w (.slice a2 H.length c2) H ∧ Chans w (.slice b2 H'.length d2) H') := ⟨by rw [← hH, ← hH']; exact ⟨HP.out.chans, HQ.out.chans⟩⟩
  have RQ : Aside (Pairs w (.slice a3 q.length c3) q ∧ Pairs w (.slice b3 q'.length d3) q') := ⟨by rw [← hq, ← hq']; exact ⟨HP.out.pairs, HQ.out.pairs⟩⟩
  rw [hf] at i0 i1 F1 hY hb1 HW
  rw [hf'] at j0 j1 F1 hY hb1 HW
  rw [hC] at hlen F2 hY hb1 HW
  rw [hC'] at hlen' F2 hY hb1 HW
  rw [hA] at lP1 F3 hY hb1 HW
  rw [hA'] at F3 hY hb1 HW
  rw [hH] at lP2 F4 hY hb1 HW
  rw [hH'] at F4 hY hb1 HW
  rw [hq] at lP3 F5 hY hb1 HW
  rw [hq'] at F5 hY hb1 HW
  rw [hf, hf', hC, hC', hA, hA', hH, hH', hq, hq']
  clear HP HQ hf hf' hC hC' hA hA' hH hH' hq hq'
  obtain ⟨g0, g1, g2, g3, g4⟩ := box5 hb1.out.2.1
  obtain ⟨k0, k1, k2, k3, k4⟩ := box5 hb1.out.2.2
  by_cases e1 : f = f'
  case neg =>
    have n1 : (f != f') = true := by simp [e1]
    have FF := Aside.mk (F1.out e1)
    clear e1
    go_enter Tryd.func17, Tryd.ntmps17
    go_wp2_with fail
    go_ret
    exact ⟨ret_bool FF.out.symm, by rw [← HW.out]; exact hb1.out.1⟩
  have m1 : (f != f') = false := by simp [e1]
  have E1 := Aside.mk e1
  clear e1
  by_cases el2 : C.length = C'.length
  case neg =>
    have n1 : ((C.length : Int) != (C'.length : Int)) = true := by simp; omega
    have n2 : (C.length != C'.length) = true := by simp [el2]
    have FF := Aside.mk (F2.out (fun e => el2 (by rw [e])))
    clear el2
    go_enter Tryd.func17, Tryd.ntmps17
    go_wp2_with fail
    go_ret
    exact ⟨ret_bool FF.out.symm, by rw [← HW.out]; exact hb1.out.1⟩
  have m2 : ((C.length : Int) != (C'.length : Int)) = false := by simp [el2]
  have m2' : (C.length != C'.length) = false := by simp [el2]
  have EL2 := Aside.mk el2
  clear el2
  by_cases el3 : A.length = A'.length
  case neg =>
    have n1 : ((A.length : Int) != (A'.length : Int)) = true := by simp; omega
    have n2 : (A.length != A'.length) = true := by simp [el3]
    have FF := Aside.mk (F3.out (fun e => el3 (by rw [e])))
    clear el3
    go_enter Tryd.func17, Tryd.ntmps17
    go_wp2_with fail
    go_ret
    exact ⟨ret_bool FF.out.symm, by rw [← HW.out]; exact hb1.out.1⟩
  have m3 : ((A.length : Int) != (A'.length : Int)) = false := by simp [el3]
  have m3' : (A.length != A'.length) = false := by simp [el3]
  have EL3 := Aside.mk el3
  clear el3
  by_cases el4 : H.length = H'.length
  case neg =>
    have n1 : ((H.length : Int) != (H'.length : Int)) = true := by simp; omega
    have n2 : (H.length != H'.length) = true := by simp [el4]
    have FF := Aside.mk (F4.out (fun e => el4 (by rw [e])))
    clear el4
    go_enter Tryd.func17, Tryd.ntmps17
    go_wp2_with fail
    go_ret
    exact ⟨ret_bool FF.out.symm, by rw [← HW.out]; exact hb1.out.1⟩
  have m4 : ((H.length : Int) != (H'.length : Int)) = false := by simp [el4]
  have m4' : (H.length != H'.length) = false := by simp [el4]
  have EL4 := Aside.mk el4
  clear el4
  by_cases el5 : q.length = q'.length
  case neg =>
    have n1 : ((q.length : Int) != (q'.length : Int)) = true := by simp; omega
    have n2 : (q.length != q'.length) = true := by simp [el5]
    have FF := Aside.mk (F5.out (fun e => el5 (by rw [e])))
    clear el5
    go_enter Tryd.func17, Tryd.ntmps17
    go_wp2_with fail
    go_ret
    exact ⟨ret_bool FF.out.symm, by rw [← HW.out]; exact hb1.out.1⟩
  have m5 : ((q.length : Int) != (q'.length : Int)) = false := by simp [el5]
  have m5' : (q.length != q'.length) = false := by simp [el5]
  have EL5 := Aside.mk el5
  clear el5
  go_enter Tryd.func17, Tryd.ntmps17
  go_wp2_with fail
  rw [← HW.out]
  clear m1 m2 m2' m3 m3' m4 m4' m5 m5' g0 g1 g2 g3 g4 k0 k1 k2 k3 k4
  have BX : Aside (∀ wr, Below W1.heap.size W1 wr → (wr.heap[w.heap.size]? = some (.cells #[.int .u16 f, .slice a0 C.length c0, .slice a1 A.length c1, .slice a2 H.length c2, .slice a3 q.length c3] 28 (0, 0))) ∧ wr.heap[w.heap.size + 1]? = some (.cells #[.int .u16 f', .slice b0 C'.length d0, .slice b1 A'.length d1, .slice b2 H'.length d2, .slice b3 q'.length d3] 28 (0, 0))) := ⟨fun wr h => ⟨hupS h hb1.out.2.1, hupS h hb1.out.2.2⟩⟩
  go_loopg [5] C.length (fun g i wr => ∃ k : Nat, k ≤ C.length ∧ g = C.length - k ∧ i = .int .i64 k ∧ Aside (Below W1.heap.size W1 wr ∧ C.take k = C'.take k))
  case atStart => exact ⟨0, by omega, rfl, rfl, ⟨Below.refl _ _, by simp⟩⟩
  case round =>
    obtain ⟨k, hk, rfl, rfl, S⟩ := hrel
    obtain ⟨wo, rfl⟩ : ∃ wo, wo = wr := ⟨_, rfl⟩
    obtain ⟨X, Y⟩ := BX.out wo S.out.1
    obtain ⟨g0, g1, g2, g3, g4⟩ := box5 X
    obtain ⟨k0, k1, k2, k3, k4⟩ := box5 Y
    clear X Y
    by_cases hkl : k < C.length
    · have hl := List.getElem?_eq_getElem hkl
      have hkl' : k < C'.length := by have := EL2.out; omega
      have hl' := List.getElem?_eq_getElem hkl'
      obtain ⟨L, hL⟩ : ∃ L, C[k] = L := ⟨_, rfl⟩
      obtain ⟨L', hL'⟩ : ∃ L, C'[k] = L := ⟨_, rfl⟩
      rw [hL] at hl
      rw [hL'] at hl'
      obtain ⟨ad, lv, rfl, hlv, hwins⟩ := (RC.out.1.below (bel_then hb1.out.1 S.out.1)).at_ k L hl
      obtain ⟨ad', lv', rfl, hlv', hwins'⟩ := (RC.out.2.below (bel_then hb1.out.1 S.out.1)).at_ k L' hl'
      obtain ⟨la, lc, rfl, hlL⟩ := hwins.len
      obtain ⟨la', lc', rfl, hlL'⟩ := hwins'.len
      have HL := Aside.mk (And.intro hl hl')
      have HWn := Aside.mk (And.intro hwins hwins')
      have HLV := Aside.mk (And.intro hlv hlv')
      clear hl hl' hL hL' hwins hwins'
      by_cases ell : L.length = L'.length
      case neg =>
        have n1 : ((L.length : Int) != (L'.length : Int)) = true := by simp; omega
        have n2 : (L.length != L'.length) = true := by simp [ell]
        have FF := Aside.mk (F2.out (take_ne HL.out.1 HL.out.2 (fun e => ell (by rw [e]))))
        clear ell
        go_wp2_with fail
        go_quiet (fail)
        go_wp2_with fail
        go_ret
        exact ⟨ret_bool FF.out.symm, bel_then hb1.out.1 (below_then S.out.1 (below_drewN _ _))⟩
      have n1 : ((L.length : Int) != (L'.length : Int)) = false := by simp [ell]
      have n2 : (L.length != L'.length) = false := by simp [ell]
      have ELL := Aside.mk ell
      clear ell
      go_wp2_with fail
      go_quiet (fail)
      go_wp2_with fail
      clear n1 n2 hlv hlv' g0 g1 g2 g3 g4 k0 k1 k2 k3 k4
      go_loopg [6] L.length (fun g i wq => ∃ j : Nat, j ≤ L.length ∧ g = L.length - j ∧ i = .int .i64 j ∧ Aside (Below wo.heap.size wo wq ∧ L.take j = L'.take j))
      case atStart => exact ⟨0, by omega, rfl, rfl, ⟨below_drewN _ _, by simp⟩⟩
      case round =>
        obtain ⟨j, hj, rfl, rfl, T⟩ := hrel
        obtain ⟨X, Y⟩ := BX.out wr (bel_then S.out.1 T.out.1)
        obtain ⟨g0, g1, g2, g3, g4⟩ := box5 X
        obtain ⟨k0, k1, k2, k3, k4⟩ := box5 Y
        have hlv := (Kept.of_below (S := fun _ => False) T.out.1).cell HLV.out.1 id
        have hlv' := (Kept.of_below (S := fun _ => False) T.out.1).cell HLV.out.2 id
        clear X Y
        by_cases hjl : j < L.length
        · have hx := List.getElem?_eq_getElem hjl
          have hjl' : j < L'.length := by have := ELL.out; omega
          have hy := List.getElem?_eq_getElem hjl'
          obtain ⟨x, hX⟩ : ∃ x, L[j] = x := ⟨_, rfl⟩
          obtain ⟨y, hY⟩ : ∃ x, L'[j] = x := ⟨_, rfl⟩
          rw [hX] at hx
          rw [hY] at hy
          obtain ⟨ax, rfl, x0, x1, x2, x3, okx⟩ := (HWn.out.1.below T.out.1).at_ j x hx
          obtain ⟨ay, rfl, y0, y1, y2, y3, oky⟩ := (HWn.out.2.below T.out.1).at_ j y hy
          have HXY := Aside.mk (And.intro hx hy)
          clear hx hy hX hY okx oky
          by_cases exy : x = y
          · subst exy
            go_wp2_with fail
            go_quiet (fail)
            go_wp2_with fail
            clear hlv hlv' g0 g1 g2 g3 g4 k0 k1 k2 k3 k4 x0 x1 x2 x3 y0 y1 y2 y3
            go_roundg (L.length - (j + 1))
            case measure => omega
            case rel => exact ⟨j + 1, by omega, rfl, by go_num, ⟨below_then T.out.1 (below_drewN _ _), take_eq HXY.out.1 HXY.out.2 T.out.2⟩⟩
          · have FF := Aside.mk (F2.out (take_ne HL.out.1 HL.out.2 (take_ne HXY.out.1 HXY.out.2 exy)))
            have EXY := Aside.mk exy
            clear exy
            have DIF : Aside (¬ (Win.s x = Win.s y ∧ Win.l x = Win.l y ∧ Win.p x = Win.p y ∧ Win.g x = Win.g y)) := ⟨fun ⟨h1, h2, h3, h4⟩ => EXY.out (by
              obtain ⟨xa, xb, xc, xd, xe⟩ := x
              obtain ⟨ya, yb, yc, yd, ye⟩ := y
              have h1 : xa = ya := h1
              have h2 : xb = yb := h2
              have h3 : xc = yc := h3
              have h4 : xd = yd := h4
              rw [h1, h2, h3, h4])⟩
            generalize Win.s x = xa at *
            generalize Win.l x = xb at *
            generalize Win.p x = xc at *
            generalize Win.g x = xd at *
            generalize Win.s y = ya at *
            generalize Win.l y = yb at *
            generalize Win.p y = yc at *
            generalize Win.g y = yd at *
            by_cases q0 : xa = ya
            case neg =>
              have q0' : (xa == ya) = false := by simp [q0]
              clear q0
              go_wp2_with fail
              go_quiet (fail)
              go_wp2_with fail
              go_ret
              exact ⟨ret_bool FF.out.symm, bel_then hb1.out.1 (bel_then S.out.1 (below_then T.out.1 (below_drewN _ _)))⟩
            subst q0
            by_cases q1 : xb = yb
            case neg =>
              have q1' : (xb == yb) = false := by simp [q1]
              clear q1
              go_wp2_with fail
              go_quiet (fail)
              go_wp2_with fail
              go_ret
              exact ⟨ret_bool FF.out.symm, bel_then hb1.out.1 (bel_then S.out.1 (below_then T.out.1 (below_drewN _ _)))⟩
            subst q1
            by_cases q2 : xc = yc
            case neg =>
              have q2' : (xc == yc) = false := by simp [q2]
              clear q2
              go_wp2_with fail
              go_quiet (fail)
              go_wp2_with fail
              go_ret
              exact ⟨ret_bool FF.out.symm, bel_then hb1.out.1 (bel_then S.out.1 (below_then T.out.1 (below_drewN _ _)))⟩
            subst q2
            by_cases q3 : xd = yd
            case neg =>
              have q3' : (xd == yd) = false := by simp [q3]
              clear q3
              go_wp2_with fail
              go_quiet (fail)
              go_wp2_with fail
              go_ret
              exact ⟨ret_bool FF.out.symm, bel_then hb1.out.1 (bel_then S.out.1 (below_then T.out.1 (below_drewN _ _)))⟩
            subst q3
            exact absurd (by simp) DIF.out
        · obtain rfl : j = L.length := by omega
          have HE : Aside (L = L') := ⟨list_ext2 ELL.out (by rw [T.out.2])⟩
          go_wp2_with fail
          go_roundg (C.length - (k + 1))
          case measure => omega
          case rel => exact ⟨k + 1, by omega, rfl, by go_num, ⟨bel_then S.out.1 T.out.1, take_eq HL.out.1 (by rw [HE.out]; exact HL.out.2) S.out.2⟩⟩
    · obtain rfl : k = C.length := by omega
      have HC : Aside (C = C') := ⟨list_ext2 EL2.out (by rw [S.out.2])⟩
      go_wp2_with fail
      clear g0 g1 g2 g3 g4 k0 k1 k2 k3 k4
      go_loopg [7] A.length (fun g i wr => ∃ k : Nat, k ≤ A.length ∧ g = A.length - k ∧ i = .int .i64 k ∧ Aside (Below W1.heap.size W1 wr ∧ A.take k = A'.take k))
      case atStart => exact ⟨0, by omega, rfl, rfl, ⟨S.out.1, by simp⟩⟩
      case round =>
        clear S
        obtain ⟨k, hk, rfl, rfl, S⟩ := hrel
        obtain ⟨wo, rfl⟩ : ∃ wo, wo = wr := ⟨_, rfl⟩
        obtain ⟨X, Y⟩ := BX.out wo S.out.1
        obtain ⟨g0, g1, g2, g3, g4⟩ := box5 X
        obtain ⟨k0, k1, k2, k3, k4⟩ := box5 Y
        have hX0 : w.heap.size < wo.heap.size := lt_of_block X
        have hX1 : w.heap.size + 1 < wo.heap.size := lt_of_block Y
        clear X Y
        by_cases hkl : k < A.length
        · have hl := List.getElem?_eq_getElem hkl
          have hkl' : k < A'.length := by have := EL3.out; omega
          have hl' := List.getElem?_eq_getElem hkl'
          obtain ⟨L, hL⟩ : ∃ L, A[k] = L := ⟨_, rfl⟩
          obtain ⟨L', hL'⟩ : ∃ L, A'[k] = L := ⟨_, rfl⟩
          rw [hL] at hl
          rw [hL'] at hl'
          obtain ⟨ad, sv, pv, rfl, x0, x1, x2, x3, x4, x5, pa⟩ := Parts.at_ (elems_below RA.out.1 (bel_then hb1.out.1 S.out.1)) k L hl
          obtain ⟨ad', sv', pv', rfl, y0, y1, y2, y3, y4, y5, pa'⟩ := Parts.at_ (elems_below RA.out.2 (bel_then hb1.out.1 S.out.1)) k L' hl'
          obtain ⟨sa, sc, qa, qc, rfl, rfl, hl1, hl2⟩ := pa.lens
          obtain ⟨sa', sc', qa', qc', rfl, rfl, hl1', hl2'⟩ := pa'.lens
          have HL := Aside.mk (And.intro hl hl')
          have PA := Aside.mk (And.intro pa pa')
          have hB0 := World.block_lt_of_cell? _ _ x0
          have hB1 := World.block_lt_of_cell? _ _ y0
          clear hl hl' hL hL' pa pa'
          go_upto_region 16 with (fail)
          go_cut [8, 9] (fun s8 s9 wc => ∃ T1 T2 : Nat, s8 = .pointer (some ⟨T1, 0, none⟩) ∧ s9 = .pointer (some ⟨T2, 0, none⟩) ∧ Aside (Below wo.heap.size wo wc ∧ wc.heap[T1]? = some (.cells (PartR.vals (.slice sa (PartR.sems L).length sc) (.slice qa (PartR.procs L).length qc) L).toArray 56 (0, 0)) ∧ wc.heap[T2]? = some (.cells (PartR.vals (.slice sa' (PartR.sems L').length sc') (.slice qa' (PartR.procs L').length qc') L').toArray 56 (0, 0))))
          case first =>
            go_region_held3 (fun w' => w'.cell? ⟨w.heap.size, 2, none⟩ = some (.slice (some ad) A.length c1) ∧ w'.cell? ⟨w.heap.size + 1, 2, none⟩ = some (.slice (some ad') A'.length d1) ∧ w'.cell? (ad.add (k * 6)) = some (.slice sa (PartR.sems L).length sc) ∧ w'.cell? ⟨(ad.add (k * 6)).block, (ad.add (k * 6)).off + 1, none⟩ = some (.int .u8 (PartR.events L)) ∧ w'.cell? ⟨(ad.add (k * 6)).block, (ad.add (k * 6)).off + 2, none⟩ = some (.slice qa (PartR.procs L).length qc) ∧ w'.cell? ⟨(ad.add (k * 6)).block, (ad.add (k * 6)).off + 3, none⟩ = some (.int .u8 (PartR.a0 L)) ∧ w'.cell? ⟨(ad.add (k * 6)).block, (ad.add (k * 6)).off + 4, none⟩ = some (.int .u8 (PartR.a1 L)) ∧ w'.cell? ⟨(ad.add (k * 6)).block, (ad.add (k * 6)).off + 5, none⟩ = some (.int .u8 (PartR.a2 L)) ∧
              w'.cell? (ad'.add (k * 6)) = some (.slice sa' (PartR.sems L').length sc') ∧ w'.cell? ⟨(ad'.add (k * 6)).block, (ad'.add (k * 6)).off + 1, none⟩ = some (.int .u8 (PartR.events L')) ∧ w'.cell? ⟨(ad'.add (k * 6)).block, (ad'.add (k * 6)).off + 2, none⟩ = some (.slice qa' (PartR.procs L').length qc') ∧ w'.cell? ⟨(ad'.add (k * 6)).block, (ad'.add (k * 6)).off + 3, none⟩ = some (.int .u8 (PartR.a0 L')) ∧ w'.cell? ⟨(ad'.add (k * 6)).block, (ad'.add (k * 6)).off + 4, none⟩ = some (.int .u8 (PartR.a1 L')) ∧ w'.cell? ⟨(ad'.add (k * 6)).block, (ad'.add (k * 6)).off + 5, none⟩ = some (.int .u8 (PartR.a2 L'))) (first | go_keep) (fail)
            all_goals
              go_wp2_with fail
              go_meet
              case rel => first
                | exact ⟨_, _, rfl, rfl, ⟨bel_two _ _ _, heap_up (heap_alloc_new _ _), heap_top _ _ _ (by simp)⟩⟩
                | exact ⟨_, _, rfl, rfl, ⟨bel_two _ _ _, heap_top _ _ _ (by simp), heap_up (heap_alloc_new _ _)⟩⟩
                | exact ⟨_, _, rfl, rfl, ⟨bel_drew (bel_two _ _ _), (heap_up (heap_alloc_new _ _) : ((wo.alloc _).alloc _).heap[_]? = _), (heap_top _ _ _ (by simp) : ((wo.alloc _).alloc _).heap[_]? = _)⟩⟩
                | exact ⟨_, _, rfl, rfl, ⟨bel_drew (bel_two _ _ _), (heap_top _ _ _ (by simp) : ((wo.alloc _).alloc _).heap[_]? = _), (heap_up (heap_alloc_new _ _) : ((wo.alloc _).alloc _).heap[_]? = _)⟩⟩
          case rest =>
            obtain ⟨T1, T2, rfl, rfl, R⟩ := hcut
            clear x0 x1 x2 x3 x4 x5 y0 y1 y2 y3 y4 y5 g0 g1 g2 g3 g4 k0 k1 k2 k3 k4 hB0 hB1 hX0 hX1
            have BB := Aside.mk (bel_then S.out.1 R.out.1)
            have BF : Aside (∀ (f : PartR → Int), f L ≠ f L' → dPQ = false) := ⟨fun f h => F3.out (take_ne HL.out.1 HL.out.2 (fun e => h (by rw [e])))⟩
            have BG : Aside (PartR.sems L ≠ PartR.sems L' → dPQ = false) := ⟨fun h => F3.out (take_ne HL.out.1 HL.out.2 (fun e => h (by rw [e])))⟩
            have BH : Aside (PartR.procs L ≠ PartR.procs L' → dPQ = false) := ⟨fun h => F3.out (take_ne HL.out.1 HL.out.2 (fun e => h (by rw [e])))⟩
            have RD : Aside (∀ wq, Below wc.heap.size wc wq → (wq.cell? ⟨T1, 0, none⟩ = some (.slice sa (PartR.sems L).length sc) ∧ wq.cell? ⟨T1, 1, none⟩ = some (.int .u8 (PartR.events L)) ∧ wq.cell? ⟨T1, 2, none⟩ = some (.slice qa (PartR.procs L).length qc) ∧ wq.cell? ⟨T1, 3, none⟩ = some (.int .u8 (PartR.a0 L)) ∧ wq.cell? ⟨T1, 4, none⟩ = some (.int .u8 (PartR.a1 L)) ∧ wq.cell? ⟨T1, 5, none⟩ = some (.int .u8 (PartR.a2 L))) ∧
              wq.cell? ⟨T2, 0, none⟩ = some (.slice sa' (PartR.sems L').length sc') ∧ wq.cell? ⟨T2, 1, none⟩ = some (.int .u8 (PartR.events L')) ∧ wq.cell? ⟨T2, 2, none⟩ = some (.slice qa' (PartR.procs L').length qc') ∧ wq.cell? ⟨T2, 3, none⟩ = some (.int .u8 (PartR.a0 L')) ∧ wq.cell? ⟨T2, 4, none⟩ = some (.int .u8 (PartR.a1 L')) ∧ wq.cell? ⟨T2, 5, none⟩ = some (.int .u8 (PartR.a2 L'))) := ⟨fun wq h => by
                have h1 := hupS h R.out.2.1
                have h2 := hupS h R.out.2.2
                simp [World.cell?, h1, h2, PartR.vals]⟩
            obtain ⟨⟨x0, x1, x2, x3, x4, x5⟩, y0, y1, y2, y3, y4, y5⟩ := RD.out wc (Below.refl _ _)
            obtain ⟨ev, hev⟩ : ∃ z, PartR.events L = z := ⟨_, rfl⟩
            obtain ⟨ev', hev'⟩ : ∃ z, PartR.events L' = z := ⟨_, rfl⟩
            obtain ⟨c0', hc0⟩ : ∃ z, PartR.a0 L = z := ⟨_, rfl⟩
            obtain ⟨c1', hc1⟩ : ∃ z, PartR.a1 L = z := ⟨_, rfl⟩
            obtain ⟨c2', hc2⟩ : ∃ z, PartR.a2 L = z := ⟨_, rfl⟩
            obtain ⟨c3', hc3⟩ : ∃ z, PartR.a0 L' = z := ⟨_, rfl⟩
            obtain ⟨c4', hc4⟩ : ∃ z, PartR.a1 L' = z := ⟨_, rfl⟩
            obtain ⟨c5', hc5⟩ : ∃ z, PartR.a2 L' = z := ⟨_, rfl⟩
            rw [hev] at x1
            rw [hev'] at y1
            rw [hc0] at x3
            rw [hc1] at x4
            rw [hc2] at x5
            rw [hc3] at y3
            rw [hc4] at y4
            rw [hc5] at y5
            have G0 : Aside (ev ≠ ev' → dPQ = false) := ⟨fun h => BF.out PartR.events (by rw [hev, hev']; exact h)⟩
            have G1 : Aside (c0' ≠ c3' → dPQ = false) := ⟨fun h => BF.out PartR.a0 (by rw [hc0, hc3]; exact h)⟩
            have G2 : Aside (c1' ≠ c4' → dPQ = false) := ⟨fun h => BF.out PartR.a1 (by rw [hc1, hc4]; exact h)⟩
            have G3 : Aside (c2' ≠ c5' → dPQ = false) := ⟨fun h => BF.out PartR.a2 (by rw [hc2, hc5]; exact h)⟩
            have HEV := Aside.mk (And.intro hev hev')
            have HAC := Aside.mk (And.intro (And.intro hc0 hc3) (And.intro (And.intro hc1 hc4) (And.intro hc2 hc5)))
            clear hev hev' hc0 hc1 hc2 hc3 hc4 hc5
            by_cases qe : ev = ev'
            case neg =>
              have FF := Aside.mk (G0.out qe)
              have n1 : (ev != ev') = true := by simp [qe]
              clear qe
              go_wp2_with fail
              refine bodyPost_ret (v := .bool false) ?_ ?_ ?_
              · exact results_tmp (t := 4) rfl _ _ _
              · rfl
              · exact ⟨ret_bool FF.out.symm, bel_then hb1.out.1 BB.out⟩
            subst qe
            have hEq := acts_equalIn
            have hev1 : (ev == ev) = true := by simp
            by_cases q0 : c0' = c3'
            case neg =>
              have FF := Aside.mk (G1.out q0)
              have q0' : (c0' == c3') = false := by simp [q0]
              clear q0
              go_wp2_with fail
              refine bodyPost_ret (v := .bool false) ?_ ?_ ?_
              · exact results_tmp (t := 4) rfl _ _ _
              · rfl
              · exact ⟨ret_bool FF.out.symm, bel_then hb1.out.1 BB.out⟩
            subst q0
            by_cases q1 : c1' = c4'
            case neg =>
              have FF := Aside.mk (G2.out q1)
              have q1' : (c1' == c4') = false := by simp [q1]
              clear q1
              go_wp2_with fail
              refine bodyPost_ret (v := .bool false) ?_ ?_ ?_
              · exact results_tmp (t := 4) rfl _ _ _
              · rfl
              · exact ⟨ret_bool FF.out.symm, bel_then hb1.out.1 BB.out⟩
            subst q1
            by_cases q2 : c2' = c5'
            case neg =>
              have FF := Aside.mk (G3.out q2)
              have q2' : (c2' == c5') = false := by simp [q2]
              clear q2
              go_wp2_with fail
              refine bodyPost_ret (v := .bool false) ?_ ?_ ?_
              · exact results_tmp (t := 4) rfl _ _ _
              · rfl
              · exact ⟨ret_bool FF.out.symm, bel_then hb1.out.1 BB.out⟩
            subst q2
            by_cases els : (PartR.sems L).length = (PartR.sems L').length
            case neg =>
              have n1 : (((PartR.sems L).length : Int) != ((PartR.sems L').length : Int)) = true := by simp; omega
              have n2 : ((PartR.sems L).length != (PartR.sems L').length) = true := by simp [els]
              have FF := Aside.mk (BG.out (fun e => els (by rw [e])))
              clear els
              go_wp2_with fail
              refine bodyPost_ret (v := .bool false) ?_ ?_ ?_
              · exact results_tmp (t := 4) rfl _ _ _
              · rfl
              · exact ⟨ret_bool FF.out.symm, bel_then hb1.out.1 BB.out⟩
            by_cases elp : (PartR.procs L).length = (PartR.procs L').length
            case neg =>
              have n1 : (((PartR.procs L).length : Int) != ((PartR.procs L').length : Int)) = true := by simp; omega
              have n2 : ((PartR.procs L).length != (PartR.procs L').length) = true := by simp [elp]
              have n3 : (((PartR.sems L).length : Int) != ((PartR.sems L').length : Int)) = false := by simp [els]
              have n4 : ((PartR.sems L).length != (PartR.sems L').length) = false := by simp [els]
              have FF := Aside.mk (BH.out (fun e => elp (by rw [e])))
              clear els elp
              go_wp2_with fail
              refine bodyPost_ret (v := .bool false) ?_ ?_ ?_
              · exact results_tmp (t := 4) rfl _ _ _
              · rfl
              · exact ⟨ret_bool FF.out.symm, bel_then hb1.out.1 BB.out⟩
            have n1 : (((PartR.procs L).length : Int) != ((PartR.procs L').length : Int)) = false := by simp [elp]
            have n2 : ((PartR.procs L).length != (PartR.procs L').length) = false := by simp [elp]
            have n3 : (((PartR.sems L).length : Int) != ((PartR.sems L').length : Int)) = false := by simp [els]
            have n4 : ((PartR.sems L).length != (PartR.sems L').length) = false := by simp [els]
            have ELS := Aside.mk els
            have ELP := Aside.mk elp
            clear els elp
            go_wp2_with fail
            clear n1 n2 n3 n4 hEq hev1 x0 x1 x2 x3 x4 x5 y0 y1 y2 y3 y4 y5
            have RD := Aside.mk (fun wq h => (RD.out wq h))
            go_loopg [10] (PartR.sems L).length (fun g i wq => ∃ j : Nat, j ≤ (PartR.sems L).length ∧ g = (PartR.sems L).length - j ∧ i = .int .i64 j ∧ Aside (Below wc.heap.size wc wq ∧ (PartR.sems L).take j = (PartR.sems L').take j))
            case atStart => exact ⟨0, by omega, rfl, rfl, ⟨Below.refl _ _, by simp⟩⟩
            case round =>
              obtain ⟨j, hj, rfl, rfl, T⟩ := hrel
              obtain ⟨⟨x0, _, x2, _, _, _⟩, y0, _, y2, _, _, _⟩ := RD.out wr T.out.1
              by_cases hjl : j < (PartR.sems L).length
              · have hx := List.getElem?_eq_getElem hjl
                have hjl' : j < (PartR.sems L').length := by have := ELS.out; omega
                have hy := List.getElem?_eq_getElem hjl'
                obtain ⟨x, hX⟩ : ∃ x, (PartR.sems L)[j] = x := ⟨_, rfl⟩
                obtain ⟨y, hY⟩ : ∃ x, (PartR.sems L')[j] = x := ⟨_, rfl⟩
                rw [hX] at hx
                rw [hY] at hy
                obtain ⟨ax, rfl, u0, u1, okx⟩ := (PA.out.1.sems.below (bel_then R.out.1 T.out.1)).at_ j x hx
                obtain ⟨ay, rfl, v0, v1, oky⟩ := (PA.out.2.sems.below (bel_then R.out.1 T.out.1)).at_ j y hy
                have HXY := Aside.mk (And.intro hx hy)
                clear hx hy hX hY okx oky
                by_cases exy : x = y
                · subst exy
                  go_wp2_with fail
                  go_quiet (fail)
                  go_wp2_with fail
                  go_roundg ((PartR.sems L).length - (j + 1))
                  case measure => omega
                  case rel => exact ⟨j + 1, by omega, rfl, by go_num, ⟨below_then T.out.1 (below_drewN _ _), take_eq HXY.out.1 HXY.out.2 T.out.2⟩⟩
                · have FF := Aside.mk (BG.out (take_ne HXY.out.1 HXY.out.2 exy))
                  have DIF : Aside (¬ (SemR.i x = SemR.i y ∧ SemR.m x = SemR.m y)) := ⟨fun ⟨h1, h2⟩ => exy (by
                    obtain ⟨xa, xb, xc⟩ := x
                    obtain ⟨ya, yb, yc⟩ := y
                    have h1 : xa = ya := h1
                    have h2 : xb = yb := h2
                    rw [h1, h2])⟩
                  clear exy
                  generalize SemR.i x = xa at *
                  generalize SemR.m x = xb at *
                  generalize SemR.i y = ya at *
                  generalize SemR.m y = yb at *
                  by_cases q0 : xa = ya
                  case neg =>
                    have q0' : (xa == ya) = false := by simp [q0]
                    clear q0
                    go_wp2_with fail
                    go_quiet (fail)
                    go_wp2_with fail
                    go_ret
                    exact ⟨ret_bool FF.out.symm, bel_then hb1.out.1 (bel_then BB.out (below_then T.out.1 (below_drewN _ _)))⟩
                  subst q0
                  by_cases q1 : xb = yb
                  case neg =>
                    have q1' : (xb == yb) = false := by simp [q1]
                    clear q1
                    go_wp2_with fail
                    go_quiet (fail)
                    go_wp2_with fail
                    go_ret
                    exact ⟨ret_bool FF.out.symm, bel_then hb1.out.1 (bel_then BB.out (below_then T.out.1 (below_drewN _ _)))⟩
                  subst q1
                  exact absurd (by simp) DIF.out
              · obtain rfl : j = (PartR.sems L).length := by omega
                have HE : Aside (PartR.sems L = PartR.sems L') := ⟨list_ext2 ELS.out (by rw [T.out.2])⟩
                go_wp2_with fail
                clear x0 x2 y0 y2
                go_loopg [11] (PartR.procs L).length (fun g i wq => ∃ j : Nat, j ≤ (PartR.procs L).length ∧ g = (PartR.procs L).length - j ∧ i = .int .i64 j ∧ Aside (Below wc.heap.size wc wq ∧ (PartR.procs L).take j = (PartR.procs L').take j))
                case atStart => exact ⟨0, by omega, rfl, rfl, ⟨T.out.1, by simp⟩⟩
                case round =>
                  clear T
                  obtain ⟨j, hj, rfl, rfl, T⟩ := hrel
                  obtain ⟨⟨_, _, x2, _, _, _⟩, _, _, y2, _, _, _⟩ := RD.out wr T.out.1
                  by_cases hjl : j < (PartR.procs L).length
                  · have hx := List.getElem?_eq_getElem hjl
                    have hjl' : j < (PartR.procs L').length := by have := ELP.out; omega
                    have hy := List.getElem?_eq_getElem hjl'
                    obtain ⟨x, hX⟩ : ∃ x, (PartR.procs L)[j] = x := ⟨_, rfl⟩
                    obtain ⟨y, hY⟩ : ∃ x, (PartR.procs L')[j] = x := ⟨_, rfl⟩
                    rw [hX] at hx
                    rw [hY] at hy
                    obtain ⟨ax, rfl, u0, u1, u2⟩ := (PA.out.1.procs.below (bel_then R.out.1 T.out.1)).at_ j x hx
                    obtain ⟨ay, rfl, v0, v1, v2⟩ := (PA.out.2.procs.below (bel_then R.out.1 T.out.1)).at_ j y hy
                    have HXY := Aside.mk (And.intro hx hy)
                    clear hx hy hX hY
                    by_cases exy : x = y
                    · subst exy
                      go_wp2_with fail
                      go_quiet (fail)
                      go_wp2_with fail
                      go_roundg ((PartR.procs L).length - (j + 1))
                      case measure => omega
                      case rel => exact ⟨j + 1, by omega, rfl, by go_num, ⟨below_then T.out.1 (below_drewN _ _), take_eq HXY.out.1 HXY.out.2 T.out.2⟩⟩
                    · have FF := Aside.mk (BH.out (take_ne HXY.out.1 HXY.out.2 exy))
                      have n1 : (x != y) = true := by simp [exy]
                      clear exy
                      go_wp2_with fail
                      go_quiet (fail)
                      go_wp2_with fail
                      go_ret
                      exact ⟨ret_bool FF.out.symm, bel_then hb1.out.1 (bel_then BB.out (below_then T.out.1 (below_drewN _ _)))⟩
                  · obtain rfl : j = (PartR.procs L).length := by omega
                    have HE2 : Aside (PartR.procs L = PartR.procs L') := ⟨list_ext2 ELP.out (by rw [T.out.2])⟩
                    have HLL : Aside (L = L') := ⟨part_ext HE.out (HEV.out.1.trans HEV.out.2.symm) HE2.out PA.out.1.len PA.out.2.len (HAC.out.1.1.trans HAC.out.1.2.symm) (HAC.out.2.1.1.trans HAC.out.2.1.2.symm) (HAC.out.2.2.1.trans HAC.out.2.2.2.symm)⟩
                    go_wp2_with fail
                    go_roundg (A.length - (k + 1))
                    case measure => omega
                    case rel => exact ⟨k + 1, by omega, rfl, by go_num, ⟨bel_then BB.out T.out.1, take_eq HL.out.1 (by rw [HLL.out]; exact HL.out.2) S.out.2⟩⟩
        · obtain rfl : k = A.length := by omega
          have HAe : Aside (A = A') := ⟨list_ext2 EL3.out (by rw [S.out.2])⟩
          go_wp2_with fail
          clear g0 g1 g2 g3 g4 k0 k1 k2 k3 k4
          go_loopg [12] H.length (fun g i wr => ∃ k : Nat, k ≤ H.length ∧ g = H.length - k ∧ i = .int .i64 k ∧ Aside (Below W1.heap.size W1 wr ∧ H.take k = H'.take k))
          case atStart => exact ⟨0, by omega, rfl, rfl, ⟨S.out.1, by simp⟩⟩
          case round =>
            clear S
            obtain ⟨k, hk, rfl, rfl, S⟩ := hrel
            obtain ⟨X, Y⟩ := BX.out wr S.out.1
            obtain ⟨g0, g1, g2, g3, g4⟩ := box5 X
            obtain ⟨k0, k1, k2, k3, k4⟩ := box5 Y
            clear X Y
            by_cases hkl : k < H.length
            · have hx := List.getElem?_eq_getElem hkl
              have hkl' : k < H'.length := by have := EL4.out; omega
              have hy := List.getElem?_eq_getElem hkl'
              obtain ⟨x, hX⟩ : ∃ x, H[k] = x := ⟨_, rfl⟩
              obtain ⟨y, hY⟩ : ∃ x, H'[k] = x := ⟨_, rfl⟩
              rw [hX] at hx
              rw [hY] at hy
              obtain ⟨ax, rfl, u0, u1, u2, u3, u4, u5, okx⟩ := Chans.at_ (elems_below RH.out.1 (bel_then hb1.out.1 S.out.1)) k x hx
              obtain ⟨ay, rfl, v0, v1, v2, v3, v4, v5, oky⟩ := Chans.at_ (elems_below RH.out.2 (bel_then hb1.out.1 S.out.1)) k y hy
              have HXY := Aside.mk (And.intro hx hy)
              clear hx hy hX hY okx oky
              by_cases exy : x = y
              · subst exy
                go_wp2_with fail
                go_quiet (fail)
                go_wp2_with fail
                go_roundg (H.length - (k + 1))
                case measure => omega
                case rel => exact ⟨k + 1, by omega, rfl, by go_num, ⟨below_then S.out.1 (below_drewN _ _), take_eq HXY.out.1 HXY.out.2 S.out.2⟩⟩
              · have FF := Aside.mk (F4.out (take_ne HXY.out.1 HXY.out.2 exy))
                have DIF : Aside (¬ (ChanR.k x = ChanR.k y ∧ ChanR.f x = ChanR.f y ∧ ChanR.t x = ChanR.t y ∧ ChanR.z x = ChanR.z y ∧ ChanR.d x = ChanR.d y ∧ ChanR.y x = ChanR.y y)) := ⟨fun ⟨h1, h2, h3, h4, h5, h6⟩ => exy (by
                  obtain ⟨xa, xb, xc, xd, xe, xf, xg⟩ := x
                  obtain ⟨ya, yb, yc, yd, ye, yf, yg⟩ := y
                  have h1 : xa = ya := h1
                  have h2 : xb = yb := h2
                  have h3 : xc = yc := h3
                  have h4 : xd = yd := h4
                  have h5 : xe = ye := h5
                  have h6 : xf = yf := h6
                  rw [h1, h2, h3, h4, h5, h6])⟩
                clear exy
                generalize ChanR.k x = xa at *
                generalize ChanR.f x = xb at *
                generalize ChanR.t x = xc at *
                generalize ChanR.z x = xd at *
                generalize ChanR.d x = xe at *
                generalize ChanR.y x = xf at *
                generalize ChanR.k y = ya at *
                generalize ChanR.f y = yb at *
                generalize ChanR.t y = yc at *
                generalize ChanR.z y = yd at *
                generalize ChanR.d y = ye at *
                generalize ChanR.y y = yf at *
                by_cases q0 : xa = ya
                case neg =>
                  have q0' : (xa == ya) = false := by simp [q0]
                  clear q0
                  go_wp2_with fail
                  go_quiet (fail)
                  go_wp2_with fail
                  go_ret
                  exact ⟨ret_bool FF.out.symm, bel_then hb1.out.1 (below_then S.out.1 (below_drewN _ _))⟩
                subst q0
                by_cases q1 : xb = yb
                case neg =>
                  have q1' : (xb == yb) = false := by simp [q1]
                  clear q1
                  go_wp2_with fail
                  go_quiet (fail)
                  go_wp2_with fail
                  go_ret
                  exact ⟨ret_bool FF.out.symm, bel_then hb1.out.1 (below_then S.out.1 (below_drewN _ _))⟩
                subst q1
                by_cases q2 : xc = yc
                case neg =>
                  have q2' : (xc == yc) = false := by simp [q2]
                  clear q2
                  go_wp2_with fail
                  go_quiet (fail)
                  go_wp2_with fail
                  go_ret
                  exact ⟨ret_bool FF.out.symm, bel_then hb1.out.1 (below_then S.out.1 (below_drewN _ _))⟩
                subst q2
                by_cases q3 : xd = yd
                case neg =>
                  have q3' : (xd == yd) = false := by simp [q3]
                  clear q3
                  go_wp2_with fail
                  go_quiet (fail)
                  go_wp2_with fail
                  go_ret
                  exact ⟨ret_bool FF.out.symm, bel_then hb1.out.1 (below_then S.out.1 (below_drewN _ _))⟩
                subst q3
                by_cases q4 : xe = ye
                case neg =>
                  have q4' : (xe == ye) = false := by simp [q4]
                  clear q4
                  go_wp2_with fail
                  go_quiet (fail)
                  go_wp2_with fail
                  go_ret
                  exact ⟨ret_bool FF.out.symm, bel_then hb1.out.1 (below_then S.out.1 (below_drewN _ _))⟩
                subst q4
                by_cases q5 : xf = yf
                case neg =>
                  have q5' : (xf == yf) = false := by simp [q5]
                  clear q5
                  go_wp2_with fail
                  go_quiet (fail)
                  go_wp2_with fail
                  go_ret
                  exact ⟨ret_bool FF.out.symm, bel_then hb1.out.1 (below_then S.out.1 (below_drewN _ _))⟩
                subst q5
                exact absurd (by simp) DIF.out
            · obtain rfl : k = H.length := by omega
              have HHe : Aside (H = H') := ⟨list_ext2 EL4.out (by rw [S.out.2])⟩
              go_wp2_with fail
              clear g0 g1 g2 g3 g4 k0 k1 k2 k3 k4
              go_loopg [13] q.length (fun g i wr => ∃ k : Nat, k ≤ q.length ∧ g = q.length - k ∧ i = .int .i64 k ∧ Aside (Below W1.heap.size W1 wr ∧ q.take k = q'.take k))
              case atStart => exact ⟨0, by omega, rfl, rfl, ⟨S.out.1, by simp⟩⟩
              case round =>
                clear S
                obtain ⟨k, hk, rfl, rfl, S⟩ := hrel
                obtain ⟨X, Y⟩ := BX.out wr S.out.1
                obtain ⟨g0, g1, g2, g3, g4⟩ := box5 X
                obtain ⟨k0, k1, k2, k3, k4⟩ := box5 Y
                clear X Y
                by_cases hkl : k < q.length
                · have hx := List.getElem?_eq_getElem hkl
                  have hkl' : k < q'.length := by have := EL5.out; omega
                  have hy := List.getElem?_eq_getElem hkl'
                  obtain ⟨x, hX⟩ : ∃ x, q[k] = x := ⟨_, rfl⟩
                  obtain ⟨y, hY⟩ : ∃ x, q'[k] = x := ⟨_, rfl⟩
                  rw [hX] at hx
                  rw [hY] at hy
                  obtain ⟨ax, rfl, u0, u1, okx⟩ := Pairs.at_ (elems_below RQ.out.1 (bel_then hb1.out.1 S.out.1)) k x hx
                  obtain ⟨ay, rfl, v0, v1, oky⟩ := Pairs.at_ (elems_below RQ.out.2 (bel_then hb1.out.1 S.out.1)) k y hy
                  have HXY := Aside.mk (And.intro hx hy)
                  clear hx hy hX hY okx oky
                  by_cases exy : x = y
                  · subst exy
                    go_wp2_with fail
                    go_quiet (fail)
                    go_wp2_with fail
                    go_roundg (q.length - (k + 1))
                    case measure => omega
                    case rel => exact ⟨k + 1, by omega, rfl, by go_num, ⟨below_then S.out.1 (below_drewN _ _), take_eq HXY.out.1 HXY.out.2 S.out.2⟩⟩
                  · have FF := Aside.mk (F5.out (take_ne HXY.out.1 HXY.out.2 exy))
                    have DIF : Aside (¬ (PairR.a x = PairR.a y ∧ PairR.b x = PairR.b y)) := ⟨fun ⟨h1, h2⟩ => exy (by
                      obtain ⟨xa, xb, xc⟩ := x
                      obtain ⟨ya, yb, yc⟩ := y
                      have h1 : xa = ya := h1
                      have h2 : xb = yb := h2
                      rw [h1, h2])⟩
                    clear exy
                    generalize PairR.a x = xa at *
                    generalize PairR.b x = xb at *
                    generalize PairR.a y = ya at *
                    generalize PairR.b y = yb at *
                    by_cases q0 : xa = ya
                    case neg =>
                      have q0' : (xa == ya) = false := by simp [q0]
                      clear q0
                      go_wp2_with fail
                      go_quiet (fail)
                      go_wp2_with fail
                      go_ret
                      exact ⟨ret_bool FF.out.symm, bel_then hb1.out.1 (below_then S.out.1 (below_drewN _ _))⟩
                    subst q0
                    by_cases q1 : xb = yb
                    case neg =>
                      have q1' : (xb == yb) = false := by simp [q1]
                      clear q1
                      go_wp2_with fail
                      go_quiet (fail)
                      go_wp2_with fail
                      go_ret
                      exact ⟨ret_bool FF.out.symm, bel_then hb1.out.1 (below_then S.out.1 (below_drewN _ _))⟩
                    subst q1
                    exact absurd (by simp) DIF.out
                · obtain rfl : k = q.length := by omega
                  have HY : Aside (dPQ = true) := ⟨hY.out E1.out HC.out HAe.out HHe.out (list_ext2 EL5.out (by rw [S.out.2]))⟩
                  go_wp2_with fail
                  go_ret
                  exact ⟨ret_bool HY.out.symm, bel_then hb1.out.1 S.out.1⟩
end Go.Proofs.YtbphlapdhcgikaaDoor
