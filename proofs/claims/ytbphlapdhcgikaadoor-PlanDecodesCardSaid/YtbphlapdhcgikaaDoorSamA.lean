/- Plans that are the same: slices of small things, equal. -/
import Derived.Test.YtbphlapdhcgikaaDoorSm33
namespace Go.Proofs.YtbphlapdhcgikaaDoor
open Go.RowKit
set_option linter.unusedVariables false
set_option linter.unusedSimpArgs false

noncomputable def eqL {α : Type} (L M : List α) : Bool := @decide (@Eq (List α) L M) (Classical.propDecidable _)
theorem eqL_yes {α : Type} {L M : List α} (h : L = M) : eqL L M = true := @decide_eq_true _ (Classical.propDecidable _) h
theorem eqL_no {α : Type} {L M : List α} (h : L ≠ M) : eqL L M = false := @decide_eq_false _ (Classical.propDecidable _) h
set_option maxHeartbeats 6400000 in
theorem equal_win (w : World) (v u : Value) (L M : List Win) (hv : Wins w v L) (hu : Wins w u M) :
    Calls Tryd.prog 45 #[v, u] w fun e w' => e = .returned (.bool (eqL L M)) ∧ Below w.heap.size w w' := by
  have HV := Aside.mk hv
  have HU := Aside.mk hu
  obtain ⟨a, ca, rfl, hl⟩ := Elems.len hv
  obtain ⟨b, cb, rfl, hm⟩ := Elems.len hu
  have HD : Aside (∀ (j : Nat) (x y : Win), L[j]? = some x → M[j]? = some y → x ≠ y → eqL L M = false) := ⟨fun j x y h1 h2 h3 => eqL_no (fun e => h3 (by rw [e, h2] at h1; exact (Option.some.inj h1).symm))⟩
  have HN : Aside (L.length ≠ M.length → eqL L M = false) := ⟨fun h => eqL_no (fun e => h (by rw [e]))⟩
  have HT : Aside (L.length = M.length → L.take L.length = M.take L.length → eqL L M = true) := ⟨fun h k => eqL_yes (list_ext2 h k)⟩
  clear hv hu
  by_cases e1 : L.length = M.length
  case neg =>
    have e1' : ((L.length : Int) == (M.length : Int)) = false := by simp; omega
    have FF := Aside.mk (HN.out e1)
    clear e1
    go_enter Tryd.func45, Tryd.ntmps45
    go_wp2_with fail
    go_ret
    exact ⟨ret_bool FF.out.symm, Below.refl _ _⟩
  have E1 := Aside.mk e1
  have e1' : ((L.length : Int) == (M.length : Int)) = true := by simp; omega
  clear e1
  go_enter Tryd.func45, Tryd.ntmps45
  go_wp2_with fail
  clear e1'
  go_loopg [13] L.length (fun g i wr => ∃ k : Nat, k ≤ L.length ∧ g = L.length - k ∧ i = .int .i64 k ∧ Aside (Below w.heap.size w wr ∧ L.take k = M.take k))
  case atStart => exact ⟨0, by omega, rfl, rfl, ⟨Below.refl _ _, by simp⟩⟩
  case round =>
    obtain ⟨j, hj, rfl, rfl, T⟩ := hrel
    by_cases hjl : j < L.length
    · have hx := List.getElem?_eq_getElem hjl
      have hjl' : j < M.length := by have := E1.out; omega
      have hy := List.getElem?_eq_getElem hjl'
      obtain ⟨x, hX⟩ : ∃ x, L[j] = x := ⟨_, rfl⟩
      obtain ⟨y, hY⟩ : ∃ x, M[j] = x := ⟨_, rfl⟩
      rw [hX] at hx
      rw [hY] at hy
      obtain ⟨ax, rfl, p0, p1, p2, p3, okx⟩ := Wins.at_ (elems_below HV.out T.out.1) j x hx
      obtain ⟨ay, rfl, q0, q1, q2, q3, oky⟩ := Wins.at_ (elems_below HU.out T.out.1) j y hy
      have HXY := Aside.mk (And.intro hx hy)
      clear hx hy hX hY okx oky
      by_cases exy : x = y
      · subst exy
        go_wp2_with fail
        go_quiet (fail)
        go_wp2_with fail
        clear p0 q0 p1 q1 p2 q2 p3 q3
        go_roundg (L.length - (j + 1))
        case measure => omega
        case rel => exact ⟨j + 1, by omega, rfl, by go_num, ⟨below_then T.out.1 (below_drewN _ _), take_eq HXY.out.1 HXY.out.2 T.out.2⟩⟩
      · have FF := Aside.mk (HD.out j x y HXY.out.1 HXY.out.2 exy)
        have EXY := Aside.mk exy
        clear exy
        have DIF : Aside (¬ (Win.s x = Win.s y ∧ Win.l x = Win.l y ∧ Win.p x = Win.p y ∧ Win.g x = Win.g y)) := ⟨fun h => EXY.out (by
          obtain ⟨xa, xb, xc, xd, xe⟩ := x
          obtain ⟨ya, yb, yc, yd, ye⟩ := y
          obtain ⟨h0, h1, h2, h3⟩ := h
          have h0 : xa = ya := h0
          subst h0
          have h1 : xb = yb := h1
          subst h1
          have h2 : xc = yc := h2
          subst h2
          have h3 : xd = yd := h3
          subst h3
          rfl)⟩
        generalize Win.s x = x0 at *
        generalize Win.l x = x1 at *
        generalize Win.p x = x2 at *
        generalize Win.g x = x3 at *
        generalize Win.s y = y0 at *
        generalize Win.l y = y1 at *
        generalize Win.p y = y2 at *
        generalize Win.g y = y3 at *
        by_cases e0 : x0 = y0
        case neg =>
          have e' : (x0 == y0) = false := by simp [e0]
          clear e0
          go_wp2_with fail
          go_quiet (fail)
          go_wp2_with fail
          go_ret
          exact ⟨ret_bool FF.out.symm, below_then T.out.1 (below_drewN _ _)⟩
        subst e0
        by_cases e1 : x1 = y1
        case neg =>
          have e' : (x1 == y1) = false := by simp [e1]
          clear e1
          go_wp2_with fail
          go_quiet (fail)
          go_wp2_with fail
          go_ret
          exact ⟨ret_bool FF.out.symm, below_then T.out.1 (below_drewN _ _)⟩
        subst e1
        by_cases e2 : x2 = y2
        case neg =>
          have e' : (x2 == y2) = false := by simp [e2]
          clear e2
          go_wp2_with fail
          go_quiet (fail)
          go_wp2_with fail
          go_ret
          exact ⟨ret_bool FF.out.symm, below_then T.out.1 (below_drewN _ _)⟩
        subst e2
        by_cases e3 : x3 = y3
        case neg =>
          have e' : (x3 == y3) = false := by simp [e3]
          clear e3
          go_wp2_with fail
          go_quiet (fail)
          go_wp2_with fail
          go_ret
          exact ⟨ret_bool FF.out.symm, below_then T.out.1 (below_drewN _ _)⟩
        subst e3
        exact absurd (by simp) DIF.out
    · obtain rfl : j = L.length := by omega
      have FF := Aside.mk (HT.out E1.out T.out.2)
      clear hjl hj
      go_wp2_with fail
      go_ret
      exact ⟨ret_bool FF.out.symm, T.out.1⟩
set_option maxHeartbeats 6400000 in
theorem equal_sem (w : World) (v u : Value) (L M : List SemR) (hv : Sems w v L) (hu : Sems w u M) :
    Calls Tryd.prog 47 #[v, u] w fun e w' => e = .returned (.bool (eqL L M)) ∧ Below w.heap.size w w' := by
  have HV := Aside.mk hv
  have HU := Aside.mk hu
  obtain ⟨a, ca, rfl, hl⟩ := Elems.len hv
  obtain ⟨b, cb, rfl, hm⟩ := Elems.len hu
  have HD : Aside (∀ (j : Nat) (x y : SemR), L[j]? = some x → M[j]? = some y → x ≠ y → eqL L M = false) := ⟨fun j x y h1 h2 h3 => eqL_no (fun e => h3 (by rw [e, h2] at h1; exact (Option.some.inj h1).symm))⟩
  have HN : Aside (L.length ≠ M.length → eqL L M = false) := ⟨fun h => eqL_no (fun e => h (by rw [e]))⟩
  have HT : Aside (L.length = M.length → L.take L.length = M.take L.length → eqL L M = true) := ⟨fun h k => eqL_yes (list_ext2 h k)⟩
  clear hv hu
  by_cases e1 : L.length = M.length
  case neg =>
    have e1' : ((L.length : Int) == (M.length : Int)) = false := by simp; omega
    have FF := Aside.mk (HN.out e1)
    clear e1
    go_enter Tryd.func47, Tryd.ntmps47
    go_wp2_with fail
    go_ret
    exact ⟨ret_bool FF.out.symm, Below.refl _ _⟩
  have E1 := Aside.mk e1
  have e1' : ((L.length : Int) == (M.length : Int)) = true := by simp; omega
  clear e1
  go_enter Tryd.func47, Tryd.ntmps47
  go_wp2_with fail
  clear e1'
  go_loopg [13] L.length (fun g i wr => ∃ k : Nat, k ≤ L.length ∧ g = L.length - k ∧ i = .int .i64 k ∧ Aside (Below w.heap.size w wr ∧ L.take k = M.take k))
  case atStart => exact ⟨0, by omega, rfl, rfl, ⟨Below.refl _ _, by simp⟩⟩
  case round =>
    obtain ⟨j, hj, rfl, rfl, T⟩ := hrel
    by_cases hjl : j < L.length
    · have hx := List.getElem?_eq_getElem hjl
      have hjl' : j < M.length := by have := E1.out; omega
      have hy := List.getElem?_eq_getElem hjl'
      obtain ⟨x, hX⟩ : ∃ x, L[j] = x := ⟨_, rfl⟩
      obtain ⟨y, hY⟩ : ∃ x, M[j] = x := ⟨_, rfl⟩
      rw [hX] at hx
      rw [hY] at hy
      obtain ⟨ax, rfl, p0, p1, okx⟩ := Sems.at_ (elems_below HV.out T.out.1) j x hx
      obtain ⟨ay, rfl, q0, q1, oky⟩ := Sems.at_ (elems_below HU.out T.out.1) j y hy
      have HXY := Aside.mk (And.intro hx hy)
      clear hx hy hX hY okx oky
      by_cases exy : x = y
      · subst exy
        go_wp2_with fail
        go_quiet (fail)
        go_wp2_with fail
        clear p0 q0 p1 q1
        go_roundg (L.length - (j + 1))
        case measure => omega
        case rel => exact ⟨j + 1, by omega, rfl, by go_num, ⟨below_then T.out.1 (below_drewN _ _), take_eq HXY.out.1 HXY.out.2 T.out.2⟩⟩
      · have FF := Aside.mk (HD.out j x y HXY.out.1 HXY.out.2 exy)
        have EXY := Aside.mk exy
        clear exy
        have DIF : Aside (¬ (SemR.i x = SemR.i y ∧ SemR.m x = SemR.m y)) := ⟨fun h => EXY.out (by
          obtain ⟨xa, xb, xe⟩ := x
          obtain ⟨ya, yb, ye⟩ := y
          obtain ⟨h0, h1⟩ := h
          have h0 : xa = ya := h0
          subst h0
          have h1 : xb = yb := h1
          subst h1
          rfl)⟩
        generalize SemR.i x = x0 at *
        generalize SemR.m x = x1 at *
        generalize SemR.i y = y0 at *
        generalize SemR.m y = y1 at *
        by_cases e0 : x0 = y0
        case neg =>
          have e' : (x0 == y0) = false := by simp [e0]
          clear e0
          go_wp2_with fail
          go_quiet (fail)
          go_wp2_with fail
          go_ret
          exact ⟨ret_bool FF.out.symm, below_then T.out.1 (below_drewN _ _)⟩
        subst e0
        by_cases e1 : x1 = y1
        case neg =>
          have e' : (x1 == y1) = false := by simp [e1]
          clear e1
          go_wp2_with fail
          go_quiet (fail)
          go_wp2_with fail
          go_ret
          exact ⟨ret_bool FF.out.symm, below_then T.out.1 (below_drewN _ _)⟩
        subst e1
        exact absurd (by simp) DIF.out
    · obtain rfl : j = L.length := by omega
      have FF := Aside.mk (HT.out E1.out T.out.2)
      clear hjl hj
      go_wp2_with fail
      go_ret
      exact ⟨ret_bool FF.out.symm, T.out.1⟩
set_option maxHeartbeats 6400000 in
theorem equal_u8 (w : World) (v u : Value) (L M : List Int) (hv : Bytes8 w v L) (hu : Bytes8 w u M) :
    Calls Tryd.prog 48 #[v, u] w fun e w' => e = .returned (.bool (eqL L M)) ∧ Below w.heap.size w w' := by
  have HV := Aside.mk hv
  have HU := Aside.mk hu
  obtain ⟨a, ca, rfl, hl⟩ := Elems.len hv
  obtain ⟨b, cb, rfl, hm⟩ := Elems.len hu
  have HD : Aside (∀ (j : Nat) (x y : Int), L[j]? = some x → M[j]? = some y → x ≠ y → eqL L M = false) := ⟨fun j x y h1 h2 h3 => eqL_no (fun e => h3 (by rw [e, h2] at h1; exact (Option.some.inj h1).symm))⟩
  have HN : Aside (L.length ≠ M.length → eqL L M = false) := ⟨fun h => eqL_no (fun e => h (by rw [e]))⟩
  have HT : Aside (L.length = M.length → L.take L.length = M.take L.length → eqL L M = true) := ⟨fun h k => eqL_yes (list_ext2 h k)⟩
  clear hv hu
  by_cases e1 : L.length = M.length
  case neg =>
    have e1' : ((L.length : Int) == (M.length : Int)) = false := by simp; omega
    have FF := Aside.mk (HN.out e1)
    clear e1
    go_enter Tryd.func48, Tryd.ntmps48
    go_wp2_with fail
    go_ret
    exact ⟨ret_bool FF.out.symm, Below.refl _ _⟩
  have E1 := Aside.mk e1
  have e1' : ((L.length : Int) == (M.length : Int)) = true := by simp; omega
  clear e1
  go_enter Tryd.func48, Tryd.ntmps48
  go_wp2_with fail
  clear e1'
  go_loopg [13] L.length (fun g i wr => ∃ k : Nat, k ≤ L.length ∧ g = L.length - k ∧ i = .int .i64 k ∧ Aside (Below w.heap.size w wr ∧ L.take k = M.take k))
  case atStart => exact ⟨0, by omega, rfl, rfl, ⟨Below.refl _ _, by simp⟩⟩
  case round =>
    obtain ⟨j, hj, rfl, rfl, T⟩ := hrel
    by_cases hjl : j < L.length
    · have hx := List.getElem?_eq_getElem hjl
      have hjl' : j < M.length := by have := E1.out; omega
      have hy := List.getElem?_eq_getElem hjl'
      obtain ⟨x, hX⟩ : ∃ x, L[j] = x := ⟨_, rfl⟩
      obtain ⟨y, hY⟩ : ∃ x, M[j] = x := ⟨_, rfl⟩
      rw [hX] at hx
      rw [hY] at hy
      obtain ⟨ax, rfl, p0, okx⟩ := Bytes8.at_ (elems_below HV.out T.out.1) j x hx
      obtain ⟨ay, rfl, q0, oky⟩ := Bytes8.at_ (elems_below HU.out T.out.1) j y hy
      have HXY := Aside.mk (And.intro hx hy)
      clear hx hy hX hY okx oky
      by_cases exy : x = y
      · subst exy
        go_wp2_with fail
        go_quiet (fail)
        go_wp2_with fail
        clear p0 q0
        go_roundg (L.length - (j + 1))
        case measure => omega
        case rel => exact ⟨j + 1, by omega, rfl, by go_num, ⟨below_then T.out.1 (below_drewN _ _), take_eq HXY.out.1 HXY.out.2 T.out.2⟩⟩
      · have FF := Aside.mk (HD.out j x y HXY.out.1 HXY.out.2 exy)
        have q0' : (x == y) = false := by simp [exy]
        clear exy
        go_wp2_with fail
        go_quiet (fail)
        go_wp2_with fail
        go_ret
        exact ⟨ret_bool FF.out.symm, below_then T.out.1 (below_drewN _ _)⟩
    · obtain rfl : j = L.length := by omega
      have FF := Aside.mk (HT.out E1.out T.out.2)
      clear hjl hj
      go_wp2_with fail
      go_ret
      exact ⟨ret_bool FF.out.symm, T.out.1⟩
set_option maxHeartbeats 6400000 in
theorem equal_chan (w : World) (v u : Value) (L M : List ChanR) (hv : Chans w v L) (hu : Chans w u M) :
    Calls Tryd.prog 51 #[v, u] w fun e w' => e = .returned (.bool (eqL L M)) ∧ Below w.heap.size w w' := by
  have HV := Aside.mk hv
  have HU := Aside.mk hu
  obtain ⟨a, ca, rfl, hl⟩ := Elems.len hv
  obtain ⟨b, cb, rfl, hm⟩ := Elems.len hu
  have HD : Aside (∀ (j : Nat) (x y : ChanR), L[j]? = some x → M[j]? = some y → x ≠ y → eqL L M = false) := ⟨fun j x y h1 h2 h3 => eqL_no (fun e => h3 (by rw [e, h2] at h1; exact (Option.some.inj h1).symm))⟩
  have HN : Aside (L.length ≠ M.length → eqL L M = false) := ⟨fun h => eqL_no (fun e => h (by rw [e]))⟩
  have HT : Aside (L.length = M.length → L.take L.length = M.take L.length → eqL L M = true) := ⟨fun h k => eqL_yes (list_ext2 h k)⟩
  clear hv hu
  by_cases e1 : L.length = M.length
  case neg =>
    have e1' : ((L.length : Int) == (M.length : Int)) = false := by simp; omega
    have FF := Aside.mk (HN.out e1)
    clear e1
    go_enter Tryd.func51, Tryd.ntmps51
    go_wp2_with fail
    go_ret
    exact ⟨ret_bool FF.out.symm, Below.refl _ _⟩
  have E1 := Aside.mk e1
  have e1' : ((L.length : Int) == (M.length : Int)) = true := by simp; omega
  clear e1
  go_enter Tryd.func51, Tryd.ntmps51
  go_wp2_with fail
  clear e1'
  go_loopg [13] L.length (fun g i wr => ∃ k : Nat, k ≤ L.length ∧ g = L.length - k ∧ i = .int .i64 k ∧ Aside (Below w.heap.size w wr ∧ L.take k = M.take k))
  case atStart => exact ⟨0, by omega, rfl, rfl, ⟨Below.refl _ _, by simp⟩⟩
  case round =>
    obtain ⟨j, hj, rfl, rfl, T⟩ := hrel
    by_cases hjl : j < L.length
    · have hx := List.getElem?_eq_getElem hjl
      have hjl' : j < M.length := by have := E1.out; omega
      have hy := List.getElem?_eq_getElem hjl'
      obtain ⟨x, hX⟩ : ∃ x, L[j] = x := ⟨_, rfl⟩
      obtain ⟨y, hY⟩ : ∃ x, M[j] = x := ⟨_, rfl⟩
      rw [hX] at hx
      rw [hY] at hy
      obtain ⟨ax, rfl, p0, p1, p2, p3, p4, p5, okx⟩ := Chans.at_ (elems_below HV.out T.out.1) j x hx
      obtain ⟨ay, rfl, q0, q1, q2, q3, q4, q5, oky⟩ := Chans.at_ (elems_below HU.out T.out.1) j y hy
      have HXY := Aside.mk (And.intro hx hy)
      clear hx hy hX hY okx oky
      by_cases exy : x = y
      · subst exy
        go_wp2_with fail
        go_quiet (fail)
        go_wp2_with fail
        clear p0 q0 p1 q1 p2 q2 p3 q3 p4 q4 p5 q5
        go_roundg (L.length - (j + 1))
        case measure => omega
        case rel => exact ⟨j + 1, by omega, rfl, by go_num, ⟨below_then T.out.1 (below_drewN _ _), take_eq HXY.out.1 HXY.out.2 T.out.2⟩⟩
      · have FF := Aside.mk (HD.out j x y HXY.out.1 HXY.out.2 exy)
        have EXY := Aside.mk exy
        clear exy
        have DIF : Aside (¬ (ChanR.k x = ChanR.k y ∧ ChanR.f x = ChanR.f y ∧ ChanR.t x = ChanR.t y ∧ ChanR.z x = ChanR.z y ∧ ChanR.d x = ChanR.d y ∧ ChanR.y x = ChanR.y y)) := ⟨fun h => EXY.out (by
          obtain ⟨xa, xb, xc, xd, xf, xg, xe⟩ := x
          obtain ⟨ya, yb, yc, yd, yf, yg, ye⟩ := y
          obtain ⟨h0, h1, h2, h3, h4, h5⟩ := h
          have h0 : xa = ya := h0
          subst h0
          have h1 : xb = yb := h1
          subst h1
          have h2 : xc = yc := h2
          subst h2
          have h3 : xd = yd := h3
          subst h3
          have h4 : xf = yf := h4
          subst h4
          have h5 : xg = yg := h5
          subst h5
          rfl)⟩
        generalize ChanR.k x = x0 at *
        generalize ChanR.f x = x1 at *
        generalize ChanR.t x = x2 at *
        generalize ChanR.z x = x3 at *
        generalize ChanR.d x = x4 at *
        generalize ChanR.y x = x5 at *
        generalize ChanR.k y = y0 at *
        generalize ChanR.f y = y1 at *
        generalize ChanR.t y = y2 at *
        generalize ChanR.z y = y3 at *
        generalize ChanR.d y = y4 at *
        generalize ChanR.y y = y5 at *
        by_cases e0 : x0 = y0
        case neg =>
          have e' : (x0 == y0) = false := by simp [e0]
          clear e0
          go_wp2_with fail
          go_quiet (fail)
          go_wp2_with fail
          go_ret
          exact ⟨ret_bool FF.out.symm, below_then T.out.1 (below_drewN _ _)⟩
        subst e0
        by_cases e1 : x1 = y1
        case neg =>
          have e' : (x1 == y1) = false := by simp [e1]
          clear e1
          go_wp2_with fail
          go_quiet (fail)
          go_wp2_with fail
          go_ret
          exact ⟨ret_bool FF.out.symm, below_then T.out.1 (below_drewN _ _)⟩
        subst e1
        by_cases e2 : x2 = y2
        case neg =>
          have e' : (x2 == y2) = false := by simp [e2]
          clear e2
          go_wp2_with fail
          go_quiet (fail)
          go_wp2_with fail
          go_ret
          exact ⟨ret_bool FF.out.symm, below_then T.out.1 (below_drewN _ _)⟩
        subst e2
        by_cases e3 : x3 = y3
        case neg =>
          have e' : (x3 == y3) = false := by simp [e3]
          clear e3
          go_wp2_with fail
          go_quiet (fail)
          go_wp2_with fail
          go_ret
          exact ⟨ret_bool FF.out.symm, below_then T.out.1 (below_drewN _ _)⟩
        subst e3
        by_cases e4 : x4 = y4
        case neg =>
          have e' : (x4 == y4) = false := by simp [e4]
          clear e4
          go_wp2_with fail
          go_quiet (fail)
          go_wp2_with fail
          go_ret
          exact ⟨ret_bool FF.out.symm, below_then T.out.1 (below_drewN _ _)⟩
        subst e4
        by_cases e5 : x5 = y5
        case neg =>
          have e' : (x5 == y5) = false := by simp [e5]
          clear e5
          go_wp2_with fail
          go_quiet (fail)
          go_wp2_with fail
          go_ret
          exact ⟨ret_bool FF.out.symm, below_then T.out.1 (below_drewN _ _)⟩
        subst e5
        exact absurd (by simp) DIF.out
    · obtain rfl : j = L.length := by omega
      have FF := Aside.mk (HT.out E1.out T.out.2)
      clear hjl hj
      go_wp2_with fail
      go_ret
      exact ⟨ret_bool FF.out.symm, T.out.1⟩
set_option maxHeartbeats 6400000 in
theorem equal_pair (w : World) (v u : Value) (L M : List PairR) (hv : Pairs w v L) (hu : Pairs w u M) :
    Calls Tryd.prog 52 #[v, u] w fun e w' => e = .returned (.bool (eqL L M)) ∧ Below w.heap.size w w' := by
  have HV := Aside.mk hv
  have HU := Aside.mk hu
  obtain ⟨a, ca, rfl, hl⟩ := Elems.len hv
  obtain ⟨b, cb, rfl, hm⟩ := Elems.len hu
  have HD : Aside (∀ (j : Nat) (x y : PairR), L[j]? = some x → M[j]? = some y → x ≠ y → eqL L M = false) := ⟨fun j x y h1 h2 h3 => eqL_no (fun e => h3 (by rw [e, h2] at h1; exact (Option.some.inj h1).symm))⟩
  have HN : Aside (L.length ≠ M.length → eqL L M = false) := ⟨fun h => eqL_no (fun e => h (by rw [e]))⟩
  have HT : Aside (L.length = M.length → L.take L.length = M.take L.length → eqL L M = true) := ⟨fun h k => eqL_yes (list_ext2 h k)⟩
  clear hv hu
  by_cases e1 : L.length = M.length
  case neg =>
    have e1' : ((L.length : Int) == (M.length : Int)) = false := by simp; omega
    have FF := Aside.mk (HN.out e1)
    clear e1
    go_enter Tryd.func52, Tryd.ntmps52
    go_wp2_with fail
    go_ret
    exact ⟨ret_bool FF.out.symm, Below.refl _ _⟩
  have E1 := Aside.mk e1
  have e1' : ((L.length : Int) == (M.length : Int)) = true := by simp; omega
  clear e1
  go_enter Tryd.func52, Tryd.ntmps52
  go_wp2_with fail
  clear e1'
  go_loopg [13] L.length (fun g i wr => ∃ k : Nat, k ≤ L.length ∧ g = L.length - k ∧ i = .int .i64 k ∧ Aside (Below w.heap.size w wr ∧ L.take k = M.take k))
  case atStart => exact ⟨0, by omega, rfl, rfl, ⟨Below.refl _ _, by simp⟩⟩
  case round =>
    obtain ⟨j, hj, rfl, rfl, T⟩ := hrel
    by_cases hjl : j < L.length
    · have hx := List.getElem?_eq_getElem hjl
      have hjl' : j < M.length := by have := E1.out; omega
      have hy := List.getElem?_eq_getElem hjl'
      obtain ⟨x, hX⟩ : ∃ x, L[j] = x := ⟨_, rfl⟩
      obtain ⟨y, hY⟩ : ∃ x, M[j] = x := ⟨_, rfl⟩
      rw [hX] at hx
      rw [hY] at hy
      obtain ⟨ax, rfl, p0, p1, okx⟩ := Pairs.at_ (elems_below HV.out T.out.1) j x hx
      obtain ⟨ay, rfl, q0, q1, oky⟩ := Pairs.at_ (elems_below HU.out T.out.1) j y hy
      have HXY := Aside.mk (And.intro hx hy)
      clear hx hy hX hY okx oky
      by_cases exy : x = y
      · subst exy
        go_wp2_with fail
        go_quiet (fail)
        go_wp2_with fail
        clear p0 q0 p1 q1
        go_roundg (L.length - (j + 1))
        case measure => omega
        case rel => exact ⟨j + 1, by omega, rfl, by go_num, ⟨below_then T.out.1 (below_drewN _ _), take_eq HXY.out.1 HXY.out.2 T.out.2⟩⟩
      · have FF := Aside.mk (HD.out j x y HXY.out.1 HXY.out.2 exy)
        have EXY := Aside.mk exy
        clear exy
        have DIF : Aside (¬ (PairR.a x = PairR.a y ∧ PairR.b x = PairR.b y)) := ⟨fun h => EXY.out (by
          obtain ⟨xa, xb, xe⟩ := x
          obtain ⟨ya, yb, ye⟩ := y
          obtain ⟨h0, h1⟩ := h
          have h0 : xa = ya := h0
          subst h0
          have h1 : xb = yb := h1
          subst h1
          rfl)⟩
        generalize PairR.a x = x0 at *
        generalize PairR.b x = x1 at *
        generalize PairR.a y = y0 at *
        generalize PairR.b y = y1 at *
        by_cases e0 : x0 = y0
        case neg =>
          have e' : (x0 == y0) = false := by simp [e0]
          clear e0
          go_wp2_with fail
          go_quiet (fail)
          go_wp2_with fail
          go_ret
          exact ⟨ret_bool FF.out.symm, below_then T.out.1 (below_drewN _ _)⟩
        subst e0
        by_cases e1 : x1 = y1
        case neg =>
          have e' : (x1 == y1) = false := by simp [e1]
          clear e1
          go_wp2_with fail
          go_quiet (fail)
          go_wp2_with fail
          go_ret
          exact ⟨ret_bool FF.out.symm, below_then T.out.1 (below_drewN _ _)⟩
        subst e1
        exact absurd (by simp) DIF.out
    · obtain rfl : j = L.length := by omega
      have FF := Aside.mk (HT.out E1.out T.out.2)
      clear hjl hj
      go_wp2_with fail
      go_ret
      exact ⟨ret_bool FF.out.symm, T.out.1⟩
end Go.Proofs.YtbphlapdhcgikaaDoor
