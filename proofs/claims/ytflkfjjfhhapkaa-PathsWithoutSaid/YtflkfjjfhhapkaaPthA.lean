/- Paths: whether a number is a partition, a channel's ends; whether two rows are the same. -/
import Derived.Test.YtflkfjjfhhapkaaBox
import Derived.Test.YtflkfjjfhhapkaaPthP
namespace Go.Proofs.Ytflkfjjfhhapkaa
open Go.RowKit
set_option linter.unusedVariables false
set_option linter.unusedSimpArgs false


theorem is_any (w : World) (v : Value) (P : Plan) (p : Int) (hv : PlanV w v P) :
    Calls Try.prog 29 #[v, .int .i64 p] w fun e w' => e = .returned (.bool (inB (Plan.parts P).length p)) ∧ Below w.heap.size w w' := by
  obtain ⟨a0, c0, a1, c1, a2, c2, a3, c3, rfl, hp, hlen⟩ := hv.open_
  clear hp hv
  unfold inB
  by_cases h1 : 0 ≤ p
  · by_cases h2 : p < ((Plan.parts P).length : Int)
    all_goals
      go_enter Try.func29, Try.ntmps29
      go_wp2_with fail
      go_ret
      exact ⟨ret_bool (by simp; omega), bel_one _ _⟩
  · go_enter Try.func29, Try.ntmps29
    go_wp2_with fail
    go_ret
    exact ⟨ret_bool (by simp; omega), bel_one _ _⟩
set_option maxHeartbeats 800000 in
theorem right_any (w : World) (v : Value) (P : Plan) (c : ChanR) (hc : ChanR.Ok c) (hv : PlanV w v P) :
    Calls Try.prog 31 #[v, ChanR.val c] w fun e w' => e = .returned (.bool (rightB (Plan.parts P).length c)) ∧ Below w.heap.size w w' := by
  have HV := Aside.mk hv
  obtain ⟨a0, c0, a1, c1, a2, c2, a3, c3, rfl, hp, hlen⟩ := hv.open_
  obtain ⟨⟨k0, k1⟩, ⟨f0, f1⟩, ⟨t0, t1⟩, ⟨z0, z1⟩, ⟨d0, d1⟩, ⟨y0, y1⟩⟩ := hc
  obtain ⟨i0, i1⟩ := hp.frame
  clear hp hv
  unfold ChanR.val rightB
  generalize ChanR.f c = f at *
  generalize ChanR.t c = t at *
  obtain ⟨b1, HB1⟩ : ∃ b, Aside (inB (Plan.parts P).length f = b) := ⟨_, ⟨rfl⟩⟩
  obtain ⟨b2, HB2⟩ : ∃ b, Aside (inB (Plan.parts P).length t = b) := ⟨_, ⟨rfl⟩⟩
  have HF : Aside ((inB (Plan.parts P).length f && inB (Plan.parts P).length t) = (b1 && b2)) := ⟨by rw [HB1.out, HB2.out]⟩
  rw [HF.out]
  have K1 : Aside (∀ W, Below w.heap.size w W → Calls Try.prog 29 #[.agg #[.int .u16 (Plan.frame P), .slice a0 (Plan.cores P).length c0, .slice a1 (Plan.parts P).length c1, .slice a2 (Plan.chans P).length c2, .slice a3 (Plan.pairs P).length c3], .int .i64 f] W fun e w' => e = .returned (.bool b1) ∧ Below W.heap.size W w') := ⟨fun W h => by
    rw [← HB1.out]; exact is_any W _ P f (HV.out.below h)⟩
  have K2 : Aside (∀ W, Below w.heap.size w W → Calls Try.prog 29 #[.agg #[.int .u16 (Plan.frame P), .slice a0 (Plan.cores P).length c0, .slice a1 (Plan.parts P).length c1, .slice a2 (Plan.chans P).length c2, .slice a3 (Plan.pairs P).length c3], .int .i64 t] W fun e w' => e = .returned (.bool b2) ∧ Below W.heap.size W w') := ⟨fun W h => by
    rw [← HB2.out]; exact is_any W _ P t (HV.out.below h)⟩
  obtain ⟨W1, HW⟩ : ∃ W1, Aside (W1 = (w.alloc (.cells #[.int .u16 (Plan.frame P), .slice a0 (Plan.cores P).length c0, .slice a1 (Plan.parts P).length c1, .slice a2 (Plan.chans P).length c2, .slice a3 (Plan.pairs P).length c3] 28)).alloc (.cells #[.int .u8 (ChanR.k c), .int .u8 f, .int .u8 t, .int .u8 (ChanR.z c), .int .u8 (ChanR.d c), .int .u16 (ChanR.y c)] 44)) := ⟨_, ⟨rfl⟩⟩
  have hb1 : Aside (Below w.heap.size w W1 ∧ W1.heap[w.heap.size]? = some (.cells #[.int .u16 (Plan.frame P), .slice a0 (Plan.cores P).length c0, .slice a1 (Plan.parts P).length c1, .slice a2 (Plan.chans P).length c2, .slice a3 (Plan.pairs P).length c3] 28 (0, 0)) ∧ W1.heap[w.heap.size + 1]? = some (.cells #[.int .u8 (ChanR.k c), .int .u8 f, .int .u8 t, .int .u8 (ChanR.z c), .int .u8 (ChanR.d c), .int .u16 (ChanR.y c)] 44 (0, 0))) := ⟨by
    rw [HW.out]; exact ⟨bel_two _ _ _, heap_up (heap_alloc_new _ _), heap_top _ _ _ (by simp)⟩⟩
  cases b1
  · go_enter Try.func31, Try.ntmps31
    go_wp2_with fail
    rw [← HW.out]
    have hx := hb1.out.2.1
    refine (K1.out _ hb1.out.1).mono ?_
    rintro e w' ⟨rfl, b3⟩
    have B3 := Aside.mk (bel_then hb1.out.1 b3)
    clear b3
    go_wp2_with fail
    go_ret
    exact ⟨ret_bool (by simp), B3.out⟩
  · go_enter Try.func31, Try.ntmps31
    go_wp2_with fail
    rw [← HW.out]
    refine (K1.out _ hb1.out.1).mono ?_
    rintro e w' ⟨rfl, b3⟩
    have B3 := Aside.mk (bel_then hb1.out.1 b3)
    have X3 := (b3.block _ (lt_of_block hb1.out.2.1)).trans hb1.out.2.1
    have Y3 := (b3.block _ (lt_of_block hb1.out.2.2)).trans hb1.out.2.2
    obtain ⟨g0, g1, g2, g3, g4⟩ := box5 X3
    have y2 : w'.cell? ⟨w.heap.size + 1, 2, none⟩ = some (.int .u8 t) := by simp [World.cell?, Y3]
    clear b3 X3 Y3
    go_wp2_with fail
    refine (K2.out _ B3.out).mono ?_
    rintro e w2 ⟨rfl, b4⟩
    have B4 := Aside.mk (bel_then B3.out b4)
    clear b4 g0 g1 g2 g3 g4 y2
    go_wp2_with fail
    go_ret
    exact ⟨ret_bool (by simp), B4.out⟩

theorem ris_any (w : World) (v : Value) (P : Plan) (p : Int) (hv : PlanV w v P) :
    Calls Try.prog 17 #[v, .int .i64 p] w fun e w' => e = .returned (.bool (inB (Plan.parts P).length p)) ∧ Below w.heap.size w w' := by
  obtain ⟨a0, c0, a1, c1, a2, c2, a3, c3, rfl, hp, hlen⟩ := hv.open_
  clear hp hv
  unfold inB
  by_cases h1 : 0 ≤ p
  · by_cases h2 : p < ((Plan.parts P).length : Int)
    all_goals
      go_enter Try.func17, Try.ntmps17
      go_wp2_with fail
      go_ret
      exact ⟨ret_bool (by simp; omega), bel_one _ _⟩
  · go_enter Try.func17, Try.ntmps17
    go_wp2_with fail
    go_ret
    exact ⟨ret_bool (by simp; omega), bel_one _ _⟩
set_option maxHeartbeats 800000 in
theorem rright_any (w : World) (v : Value) (P : Plan) (c : ChanR) (hc : ChanR.Ok c) (hv : PlanV w v P) :
    Calls Try.prog 20 #[v, ChanR.val c] w fun e w' => e = .returned (.bool (rightB (Plan.parts P).length c)) ∧ Below w.heap.size w w' := by
  have HV := Aside.mk hv
  obtain ⟨a0, c0, a1, c1, a2, c2, a3, c3, rfl, hp, hlen⟩ := hv.open_
  obtain ⟨⟨k0, k1⟩, ⟨f0, f1⟩, ⟨t0, t1⟩, ⟨z0, z1⟩, ⟨d0, d1⟩, ⟨y0, y1⟩⟩ := hc
  obtain ⟨i0, i1⟩ := hp.frame
  clear hp hv
  unfold ChanR.val rightB
  generalize ChanR.f c = f at *
  generalize ChanR.t c = t at *
  obtain ⟨b1, HB1⟩ : ∃ b, Aside (inB (Plan.parts P).length f = b) := ⟨_, ⟨rfl⟩⟩
  obtain ⟨b2, HB2⟩ : ∃ b, Aside (inB (Plan.parts P).length t = b) := ⟨_, ⟨rfl⟩⟩
  have HF : Aside ((inB (Plan.parts P).length f && inB (Plan.parts P).length t) = (b1 && b2)) := ⟨by rw [HB1.out, HB2.out]⟩
  rw [HF.out]
  have K1 : Aside (∀ W, Below w.heap.size w W → Calls Try.prog 17 #[.agg #[.int .u16 (Plan.frame P), .slice a0 (Plan.cores P).length c0, .slice a1 (Plan.parts P).length c1, .slice a2 (Plan.chans P).length c2, .slice a3 (Plan.pairs P).length c3], .int .i64 f] W fun e w' => e = .returned (.bool b1) ∧ Below W.heap.size W w') := ⟨fun W h => by
    rw [← HB1.out]; exact ris_any W _ P f (HV.out.below h)⟩
  have K2 : Aside (∀ W, Below w.heap.size w W → Calls Try.prog 17 #[.agg #[.int .u16 (Plan.frame P), .slice a0 (Plan.cores P).length c0, .slice a1 (Plan.parts P).length c1, .slice a2 (Plan.chans P).length c2, .slice a3 (Plan.pairs P).length c3], .int .i64 t] W fun e w' => e = .returned (.bool b2) ∧ Below W.heap.size W w') := ⟨fun W h => by
    rw [← HB2.out]; exact ris_any W _ P t (HV.out.below h)⟩
  obtain ⟨W1, HW⟩ : ∃ W1, Aside (W1 = (w.alloc (.cells #[.int .u16 (Plan.frame P), .slice a0 (Plan.cores P).length c0, .slice a1 (Plan.parts P).length c1, .slice a2 (Plan.chans P).length c2, .slice a3 (Plan.pairs P).length c3] 28)).alloc (.cells #[.int .u8 (ChanR.k c), .int .u8 f, .int .u8 t, .int .u8 (ChanR.z c), .int .u8 (ChanR.d c), .int .u16 (ChanR.y c)] 44)) := ⟨_, ⟨rfl⟩⟩
  have hb1 : Aside (Below w.heap.size w W1 ∧ W1.heap[w.heap.size]? = some (.cells #[.int .u16 (Plan.frame P), .slice a0 (Plan.cores P).length c0, .slice a1 (Plan.parts P).length c1, .slice a2 (Plan.chans P).length c2, .slice a3 (Plan.pairs P).length c3] 28 (0, 0)) ∧ W1.heap[w.heap.size + 1]? = some (.cells #[.int .u8 (ChanR.k c), .int .u8 f, .int .u8 t, .int .u8 (ChanR.z c), .int .u8 (ChanR.d c), .int .u16 (ChanR.y c)] 44 (0, 0))) := ⟨by
    rw [HW.out]; exact ⟨bel_two _ _ _, heap_up (heap_alloc_new _ _), heap_top _ _ _ (by simp)⟩⟩
  cases b1
  · go_enter Try.func20, Try.ntmps20
    go_wp2_with fail
    rw [← HW.out]
    have hx := hb1.out.2.1
    refine (K1.out _ hb1.out.1).mono ?_
    rintro e w' ⟨rfl, b3⟩
    have B3 := Aside.mk (bel_then hb1.out.1 b3)
    clear b3
    go_wp2_with fail
    go_ret
    exact ⟨ret_bool (by simp), B3.out⟩
  · go_enter Try.func20, Try.ntmps20
    go_wp2_with fail
    rw [← HW.out]
    refine (K1.out _ hb1.out.1).mono ?_
    rintro e w' ⟨rfl, b3⟩
    have B3 := Aside.mk (bel_then hb1.out.1 b3)
    have X3 := (b3.block _ (lt_of_block hb1.out.2.1)).trans hb1.out.2.1
    have Y3 := (b3.block _ (lt_of_block hb1.out.2.2)).trans hb1.out.2.2
    obtain ⟨g0, g1, g2, g3, g4⟩ := box5 X3
    have y2 : w'.cell? ⟨w.heap.size + 1, 2, none⟩ = some (.int .u8 t) := by simp [World.cell?, Y3]
    clear b3 X3 Y3
    go_wp2_with fail
    refine (K2.out _ B3.out).mono ?_
    rintro e w2 ⟨rfl, b4⟩
    have B4 := Aside.mk (bel_then B3.out b4)
    clear b4 g0 g1 g2 g3 g4 y2
    go_wp2_with fail
    go_ret
    exact ⟨ret_bool (by simp), B4.out⟩

theorem lsamelists (xs ys : List Bool) (h : xs.length = ys.length) (hd : ∀ j < xs.length, xs.getD j false = ys.getD j false) : xs = ys := by
  apply List.ext_getElem h
  intro i h1 h2
  have := hd i h1
  rw [List.getD_eq_getElem?_getD, List.getElem?_eq_getElem h1, List.getD_eq_getElem?_getD, List.getElem?_eq_getElem h2] at this
  simpa using this

theorem lsame_any (w : World) (v u : Value) (xs ys : List Bool) (hv : Bools w v xs) (hu : Bools w u ys) :
    Calls Try.prog 14 #[v, u] w fun e w' => e = .returned (.bool (decide (xs = ys))) ∧ Below w.heap.size w w' := by
  obtain ⟨A, c, rfl, hm, hc⟩ := hv
  obtain ⟨A', c', rfl, hm', hc'⟩ := hu
  have Hc := Aside.mk hc
  have Hc' := Aside.mk hc'
  clear hc hc'
  by_cases hl : xs.length = ys.length
  · have hlb : (xs.length == ys.length) = true := beq_iff_eq.2 hl
    have Hl := Aside.mk hl
    clear hl
    go_enter Try.func14, Try.ntmps14
    go_wp2_with fail
    go_loopw [5] (fun i wr => ∃ (k n : Nat), k ≤ xs.length ∧ i = .int .i64 k ∧ w.drewN n = wr ∧ Aside (∀ j < k, xs.getD j false = ys.getD j false)) (fun i _ => xs.length - (intOf i).toNat)
    case atStart => exact ⟨0, 0, by omega, rfl, rfl, ⟨by omega⟩⟩
    case round =>
      obtain ⟨k, n, hk, rfl, rfl, hall⟩ := hrel
      by_cases hlt : k < xs.length
      · obtain ⟨ad, rfl, hcells⟩ := Hc.out (by omega)
        have hlt' : k < ys.length := by have := Hl.out; omega
        obtain ⟨ad', rfl, hcells'⟩ := Hc'.out (by omega)
        have hck := hcells k hlt
        have hck' := hcells' k hlt'
        obtain ⟨x, Hx⟩ : ∃ x, Aside (xs.getD k false = x) := ⟨_, ⟨rfl⟩⟩
        obtain ⟨y, Hy⟩ : ∃ y, Aside (ys.getD k false = y) := ⟨_, ⟨rfl⟩⟩
        rw [Hx.out] at hck
        rw [Hy.out] at hck'
        clear hcells hcells'
        by_cases hxy : x = y
        · have h1 : (x == y) = true := beq_iff_eq.2 hxy
          have h2 : (x != y) = false := by simp [hxy]
          have Hxy := Aside.mk hxy
          clear hxy
          go_wp2_with fail
          go_quiet (fail)
          go_wp2_with fail
          go_roundw
          case rel =>
            refine ⟨k + 1, _, by omega, by go_num, rfl, ⟨?_⟩⟩
            intro j hj
            by_cases e : j = k
            · subst e; rw [Hx.out, Hy.out]; exact Hxy.out
            · exact hall.out j (by omega)
          case measure => simp [intOf]; omega
        · have h1 : (x == y) = false := beq_eq_false_iff_ne.2 hxy
          have h2 : (x != y) = true := by simp [hxy]
          have Hxy := Aside.mk hxy
          clear hxy
          go_wp2_with fail
          go_quiet (fail)
          go_wp2_with fail
          go_ret
          refine ⟨ret_bool ?_, ?_⟩
          · symm
            rw [decide_eq_false_iff_not]
            rintro rfl
            exact Hxy.out (Hx.out.symm.trans Hy.out)
          · exact below_drewN2 _ _ _
      · have e : k = xs.length := by omega
        have He := Aside.mk e
        clear e
        go_wp2_with fail
        go_ret
        refine ⟨ret_bool ?_, below_drewN _ _⟩
        symm
        rw [decide_eq_true_iff]
        exact lsamelists xs ys Hl.out (by rw [← He.out]; exact hall.out)
  · have hlb : (xs.length == ys.length) = false := beq_eq_false_iff_ne.2 hl
    have Hl := Aside.mk hl
    clear hl
    go_enter Try.func14, Try.ntmps14
    go_wp2_with fail
    go_ret
    refine ⟨ret_bool ?_, Below.refl _ _⟩
    symm
    rw [decide_eq_false_iff_not]
    rintro rfl
    exact Hl.out rfl
theorem eqblists (xs ys : List Bool) (h : xs.length = ys.length) (hd : ∀ j < xs.length, xs.getD j false = ys.getD j false) : xs = ys := by
  apply List.ext_getElem h
  intro i h1 h2
  have := hd i h1
  rw [List.getD_eq_getElem?_getD, List.getElem?_eq_getElem h1, List.getD_eq_getElem?_getD, List.getElem?_eq_getElem h2] at this
  simpa using this

theorem eqb_any (w : World) (v u : Value) (xs ys : List Bool) (hv : Bools w v xs) (hu : Bools w u ys) :
    Calls Try.prog 30 #[v, u] w fun e w' => e = .returned (.bool (decide (xs = ys))) ∧ Below w.heap.size w w' := by
  obtain ⟨A, c, rfl, hm, hc⟩ := hv
  obtain ⟨A', c', rfl, hm', hc'⟩ := hu
  have Hc := Aside.mk hc
  have Hc' := Aside.mk hc'
  clear hc hc'
  by_cases hl : xs.length = ys.length
  · have hlb : (xs.length == ys.length) = true := beq_iff_eq.2 hl
    have Hl := Aside.mk hl
    clear hl
    go_enter Try.func30, Try.ntmps30
    go_wp2_with fail
    go_loopw [13] (fun i wr => ∃ (k n : Nat), k ≤ xs.length ∧ i = .int .i64 k ∧ w.drewN n = wr ∧ Aside (∀ j < k, xs.getD j false = ys.getD j false)) (fun i _ => xs.length - (intOf i).toNat)
    case atStart => exact ⟨0, 0, by omega, rfl, rfl, ⟨by omega⟩⟩
    case round =>
      obtain ⟨k, n, hk, rfl, rfl, hall⟩ := hrel
      by_cases hlt : k < xs.length
      · obtain ⟨ad, rfl, hcells⟩ := Hc.out (by omega)
        have hlt' : k < ys.length := by have := Hl.out; omega
        obtain ⟨ad', rfl, hcells'⟩ := Hc'.out (by omega)
        have hck := hcells k hlt
        have hck' := hcells' k hlt'
        obtain ⟨x, Hx⟩ : ∃ x, Aside (xs.getD k false = x) := ⟨_, ⟨rfl⟩⟩
        obtain ⟨y, Hy⟩ : ∃ y, Aside (ys.getD k false = y) := ⟨_, ⟨rfl⟩⟩
        rw [Hx.out] at hck
        rw [Hy.out] at hck'
        clear hcells hcells'
        by_cases hxy : x = y
        · have h1 : (x == y) = true := beq_iff_eq.2 hxy
          have h2 : (x != y) = false := by simp [hxy]
          have Hxy := Aside.mk hxy
          clear hxy
          go_wp2_with fail
          go_quiet (fail)
          go_wp2_with fail
          go_roundw
          case rel =>
            refine ⟨k + 1, _, by omega, by go_num, rfl, ⟨?_⟩⟩
            intro j hj
            by_cases e : j = k
            · subst e; rw [Hx.out, Hy.out]; exact Hxy.out
            · exact hall.out j (by omega)
          case measure => simp [intOf]; omega
        · have h1 : (x == y) = false := beq_eq_false_iff_ne.2 hxy
          have h2 : (x != y) = true := by simp [hxy]
          have Hxy := Aside.mk hxy
          clear hxy
          go_wp2_with fail
          go_quiet (fail)
          go_wp2_with fail
          go_ret
          refine ⟨ret_bool ?_, ?_⟩
          · symm
            rw [decide_eq_false_iff_not]
            rintro rfl
            exact Hxy.out (Hx.out.symm.trans Hy.out)
          · exact below_drewN2 _ _ _
      · have e : k = xs.length := by omega
        have He := Aside.mk e
        clear e
        go_wp2_with fail
        go_ret
        refine ⟨ret_bool ?_, below_drewN _ _⟩
        symm
        rw [decide_eq_true_iff]
        exact eqblists xs ys Hl.out (by rw [← He.out]; exact hall.out)
  · have hlb : (xs.length == ys.length) = false := beq_eq_false_iff_ne.2 hl
    have Hl := Aside.mk hl
    clear hl
    go_enter Try.func30, Try.ntmps30
    go_wp2_with fail
    go_ret
    refine ⟨ret_bool ?_, Below.refl _ _⟩
    symm
    rw [decide_eq_false_iff_not]
    rintro rfl
    exact Hl.out rfl


theorem into1_any (c : ChanR) (hc : ChanR.Ok c) (w : World) :
    Calls Try.prog 28 #[ChanR.val c] w fun e w' => e = .returned (.tuple #[.int .i64 (ChanR.t c), .int .i64 (ChanR.f c)]) ∧ Below w.heap.size w w' := by
  obtain ⟨⟨k0, k1⟩, ⟨f0, f1⟩, ⟨t0, t1⟩, ⟨z0, z1⟩, ⟨d0, d1⟩, ⟨y0, y1⟩⟩ := hc
  unfold ChanR.val
  generalize ChanR.f c = f at *
  generalize ChanR.t c = t at *
  generalize ChanR.k c = k at *
  go_enter Try.func28, Try.ntmps28
  go_wp2_with fail
  go_quiet (fail)
  go_wp2_with fail
  go_ret2
  exact ⟨rfl, below_then (bel_one _ _) (below_drewN _ _)⟩
end Go.Proofs.Ytflkfjjfhhapkaa
