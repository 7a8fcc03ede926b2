/- Paths: Into. -/
import Derived.Test.YtflkfjjfhhapkaaPthC
import Derived.Laws.EntriesVeiled
namespace Go.Proofs.Ytflkfjjfhhapkaa
open Go.RowKit
set_option linter.unusedVariables false
set_option linter.unusedSimpArgs false

set_option maxHeartbeats 800000 in
theorem reach_out (w : World) (v : Value) (P : Plan) (p : Int) (hv : PlanV w v P) (hq : inB (Plan.parts P).length p = false) :
    Calls Try.prog 27 #[v, .int .i64 p, .func (.func 28) #[] #[]] w (NoB w) := by
  have HV := Aside.mk hv
  obtain ⟨a0, c0, a1, c1, a2, c2, a3, c3, rfl, hp, hlen⟩ := hv.open_
  have K1 : Aside (∀ W, Below w.heap.size w W → Calls Try.prog 29 #[.agg #[.int .u16 (Plan.frame P), .slice a0 (Plan.cores P).length c0, .slice a1 (Plan.parts P).length c1, .slice a2 (Plan.chans P).length c2, .slice a3 (Plan.pairs P).length c3], .int .i64 p] W fun e w' => e = .returned (.bool false) ∧ Below W.heap.size W w') := ⟨fun W h => by
    have := is_any W _ P p (HV.out.below h)
    rwa [hq] at this⟩
  obtain ⟨W1, HW⟩ : ∃ W1, Aside (W1 = (w.alloc (.cells #[.int .u16 (Plan.frame P), .slice a0 (Plan.cores P).length c0, .slice a1 (Plan.parts P).length c1, .slice a2 (Plan.chans P).length c2, .slice a3 (Plan.pairs P).length c3] 28)).alloc (.cells #[.func (.func 28) #[] #[]] 63)) := ⟨_, ⟨rfl⟩⟩
  have hb1 : Aside (Below w.heap.size w W1) := ⟨by rw [HW.out]; exact bel_two _ _ _⟩
  clear hp hv
  go_enter Try.func27, Try.ntmps27
  go_wp2_with fail
  rw [← HW.out]
  refine (K1.out _ hb1.out).mono ?_
  rintro e w' ⟨rfl, b3⟩
  have B3 := Aside.mk (bel_then hb1.out b3)
  clear b3
  go_wp2_with fail
  go_ret2
  exact ⟨rfl, B3.out⟩

set_option maxHeartbeats 3200000 in
set_option maxRecDepth 100000 in
theorem reach_in (w : World) (v : Value) (P : Plan) (p : Nat) (hv : PlanV w v P) (hpn : p < (Plan.parts P).length) (hN : (Plan.parts P).length ≤ 65535) :
    Calls Try.prog 27 #[v, .int .i64 (p : Int), .func (.func 28) #[] #[]] w (SomeB w (intoL (Plan.parts P).length (Plan.chans P) p)) := by
  have HV := Aside.mk hv
  obtain ⟨a0, c0, a1, c1, a2, c2, a3, c3, rfl, hp, hlen⟩ := hv.open_
  have HC := Aside.mk hp.chans
  have hfr := hp.frame
  have hlenH : (Plan.chans P).length ≤ 9223372036854775807 := (Elems.len hp.chans).choose_spec.choose_spec.2
  have K1 : Aside (∀ W, Below w.heap.size w W → Calls Try.prog 29 #[.agg #[.int .u16 (Plan.frame P), .slice a0 (Plan.cores P).length c0, .slice a1 (Plan.parts P).length c1, .slice a2 (Plan.chans P).length c2, .slice a3 (Plan.pairs P).length c3], .int .i64 (p : Int)] W fun e w' => e = .returned (.bool true) ∧ Below W.heap.size W w') := ⟨fun W h => by
    have := is_any W _ P (p : Int) (HV.out.below h)
    have e : inB (Plan.parts P).length (p : Int) = true := by rw [inB_iff]; omega
    rwa [e] at this⟩
  have KR : Aside (∀ W c, ChanR.Ok c → Below w.heap.size w W → Calls Try.prog 31 #[.agg #[.int .u16 (Plan.frame P), .slice a0 (Plan.cores P).length c0, .slice a1 (Plan.parts P).length c1, .slice a2 (Plan.chans P).length c2, .slice a3 (Plan.pairs P).length c3], ChanR.val c] W fun e w' => e = .returned (.bool (rightB (Plan.parts P).length c)) ∧ Below W.heap.size W w') := ⟨fun W c hc h => right_any W _ P c hc (HV.out.below h)⟩
  have hmk := make_bools (Plan.parts P).length hN
  have KF := Aside.mk (fun R K => follow_any w (Plan.parts P).length (Plan.chans P) (Plan.frame P) a0 (Plan.cores P).length c0 a1 c1 a2 c2 a3 (Plan.pairs P).length c3 w.heap.size R hfr hN hlenH HC.out KR.out (freeN K) K p)
  have hcf := callFunc_reach1
  obtain ⟨n, hn⟩ : ∃ n, (Plan.parts P).length = n := ⟨_, rfl⟩
  obtain ⟨H, hH⟩ : ∃ H, Plan.chans P = H := ⟨_, rfl⟩
  obtain ⟨W1, HW⟩ : ∃ W1, Aside (W1 = (w.alloc (.cells #[.int .u16 (Plan.frame P), .slice a0 (Plan.cores P).length c0, .slice a1 (Plan.parts P).length c1, .slice a2 (Plan.chans P).length c2, .slice a3 (Plan.pairs P).length c3] 28)).alloc (.cells #[.func (.func 28) #[] #[]] 63)) := ⟨_, ⟨rfl⟩⟩
  have hb1 : Aside (Below w.heap.size w W1 ∧ W1.heap[w.heap.size]? = some (.cells #[.int .u16 (Plan.frame P), .slice a0 (Plan.cores P).length c0, .slice a1 (Plan.parts P).length c1, .slice a2 (Plan.chans P).length c2, .slice a3 (Plan.pairs P).length c3] 28 (0, 0)) ∧ W1.heap[w.heap.size + 1]? = some (.cells #[.func (.func 28) #[] #[]] 63 (0, 0))) := ⟨by
    rw [HW.out]; exact ⟨bel_two _ _ _, heap_up (heap_alloc_new _ _), heap_top _ _ _ (by simp)⟩⟩
  rw [hn] at hpn hN K1 KF hmk HW hb1
  rw [hH] at K1 KF HW hb1
  rw [hn, hH]
  clear hp hv hn hH HV HC KR
  go_enter Try.func27, Try.ntmps27
  go_wp2_with fail
  rw [← HW.out]
  refine (K1.out _ hb1.out.1).mono ?_
  rintro e w2 ⟨rfl, b3⟩
  have B3 := Aside.mk (bel_then hb1.out.1 b3)
  have X2 := Aside.mk ((b3.block _ (lt_of_block hb1.out.2.1)).trans hb1.out.2.1)
  have Y2 := Aside.mk ((b3.block _ (lt_of_block hb1.out.2.2)).trans hb1.out.2.2)
  obtain ⟨g0, g1, g2, g3, g4⟩ := box5 X2.out
  have hlt2 : w.heap.size + 1 < w2.heap.size := lt_of_block Y2.out
  clear b3 hcf
  obtain ⟨W3, HW3⟩ : ∃ W3, Aside (W3 = ((w2.alloc (.cells (Array.replicate n (Value.bool false)) 4)).alloc (.cells #[.slice (some ⟨w2.heap.size, 0, none⟩) n n] 31)).alloc (.cells #[.nilFunc] 75)) := ⟨_, ⟨rfl⟩⟩
  have T3 : Aside (W3.heap[w2.heap.size]? = some (rowB (List.replicate n false)) ∧ W3.heap[w2.heap.size + 1]? = some (.cells #[.slice (some ⟨w2.heap.size, 0, none⟩) n n] 31 (0, 0)) ∧ W3.heap[w2.heap.size + 1 + 1]? = some (.cells #[.nilFunc] 75 (0, 0)) ∧ Below w2.heap.size w2 W3) := ⟨by
    rw [HW3.out, rowB_rep]; exact three_boxes _ _ _ _⟩
  go_upto_region 5 with (fail)
  rw [← HW3.out]
  clear g0 g1 g2 g3 g4
  obtain ⟨W4, HW4⟩ : ∃ W4, Aside (W4 = W3.setCell ⟨w2.heap.size + 1 + 1, 0, none⟩ (.func (.func 37) #[] #[.pointer (some ⟨w2.heap.size + 1, 0, none⟩), .pointer (some ⟨w.heap.size, 0, none⟩), .pointer (some ⟨w.heap.size + 1, 0, none⟩), .pointer (some ⟨w2.heap.size + 1 + 1, 0, none⟩)])) := ⟨_, ⟨rfl⟩⟩
  have S4 : Aside (FlSt w w.heap.size w2.heap.size #[.int .u16 (Plan.frame P), .slice a0 (Plan.cores P).length c0, .slice a1 n c1, .slice a2 H.length c2, .slice a3 (Plan.pairs P).length c3] n (List.replicate n false) W4) := ⟨by
    have hk : Kept (fun k => k = w2.heap.size + 1 + 1) W3 W4 := by rw [HW4.out]; exact (Kept.refl (fun k => k = w2.heap.size + 1 + 1) W3).setCell (p := ⟨w2.heap.size + 1 + 1, 0, none⟩) (.inl rfl) _
    have b23 := T3.out.2.2.2
    have h0 := bel_then B3.out b23
    refine ⟨h0.trans (hk.below h0.size (fun k e => by subst e; omega)), ?_, hk.heap ((b23.block _ (lt_of_block Y2.out)).trans Y2.out) (by omega), hk.heap T3.out.1 (by omega), hk.heap T3.out.2.1 (by omega), ?_, Nat.le_refl _, hlt2⟩
    · have := hk.heap ((b23.block _ (lt_of_block X2.out)).trans X2.out) (by omega)
      exact this
    · rw [HW4.out]
      have := heap_setCell_at (off := 0) T3.out.2.2.1 (.func (.func 37) #[] #[.pointer (some ⟨w2.heap.size + 1, 0, none⟩), .pointer (some ⟨w.heap.size, 0, none⟩), .pointer (some ⟨w.heap.size + 1, 0, none⟩), .pointer (some ⟨w2.heap.size + 1 + 1, 0, none⟩)])
      simpa using this⟩
  have x0 := cell_of_one T3.out.2.2.1
  have x1 := free_of_one T3.out.2.2.1
  go_upto_region 6 with (fail)
  rw [← HW4.out]
  clear x0 x1
  have x0 := cell_of_one S4.out.fn
  have hcf := callFunc_reach1
  have K := KF.out w2.heap.size (List.replicate n false) W4 (Nat.le_refl _) (by simp) hpn (rep_get n p) S4.out
  have K := Aside.mk K
  go_wp2_with fail
  refine K.out.mono ?_
  rintro e w5 ⟨rfl, L, FL, S5, _⟩
  have FL := Aside.mk FL
  have S5 := Aside.mk S5
  clear x0 hcf
  have x0 := cell_of_one S5.out.kn
  go_wp2_with fail
  go_ret2
  have hl := FL.out.len
  have hI := FL.out.into
  have hB := rowB_bools S5.out.row (by omega) n
  rw [hl, hI] at hB
  exact ⟨_, rfl, hB, S5.out.below⟩

theorem into_out (w : World) (v : Value) (P : Plan) (p : Int) (hv : PlanV w v P) (hq : inB (Plan.parts P).length p = false) :
    Calls Try.prog 12 #[v, .int .i64 p] w (NoB w) := by
  have HV := Aside.mk hv
  obtain ⟨a0, c0, a1, c1, a2, c2, a3, c3, rfl, hp, hlen⟩ := hv.open_
  obtain ⟨W1, HW⟩ : ∃ W1, Aside (W1 = w.alloc (.cells #[.int .u16 (Plan.frame P), .slice a0 (Plan.cores P).length c0, .slice a1 (Plan.parts P).length c1, .slice a2 (Plan.chans P).length c2, .slice a3 (Plan.pairs P).length c3] 28)) := ⟨_, ⟨rfl⟩⟩
  have hb1 : Aside (Below w.heap.size w W1 ∧ W1.heap[w.heap.size]? = some (.cells #[.int .u16 (Plan.frame P), .slice a0 (Plan.cores P).length c0, .slice a1 (Plan.parts P).length c1, .slice a2 (Plan.chans P).length c2, .slice a3 (Plan.pairs P).length c3] 28 (0, 0))) := ⟨by rw [HW.out]; exact ⟨bel_one _ _, heap_alloc_new _ _⟩⟩
  have K := Aside.mk (reach_out W1 _ P p (HV.out.below hb1.out.1) hq)
  clear hp hv hq
  go_enter Try.func12, Try.ntmps12
  go_wp2_with fail
  rw [← HW.out]
  refine K.out.mono ?_
  rintro e w' ⟨rfl, b3⟩
  have B3 := Aside.mk (bel_then hb1.out.1 b3)
  clear b3
  go_wp2_with fail
  go_ret2
  exact ⟨rfl, B3.out⟩
theorem into_in (w : World) (v : Value) (P : Plan) (p : Nat) (hv : PlanV w v P) (hpn : p < (Plan.parts P).length) (hN : (Plan.parts P).length ≤ 65535) :
    Calls Try.prog 12 #[v, .int .i64 (p : Int)] w (SomeB w (intoL (Plan.parts P).length (Plan.chans P) p)) := by
  have HV := Aside.mk hv
  obtain ⟨a0, c0, a1, c1, a2, c2, a3, c3, rfl, hp, hlen⟩ := hv.open_
  obtain ⟨W1, HW⟩ : ∃ W1, Aside (W1 = w.alloc (.cells #[.int .u16 (Plan.frame P), .slice a0 (Plan.cores P).length c0, .slice a1 (Plan.parts P).length c1, .slice a2 (Plan.chans P).length c2, .slice a3 (Plan.pairs P).length c3] 28)) := ⟨_, ⟨rfl⟩⟩
  have hb1 : Aside (Below w.heap.size w W1 ∧ W1.heap[w.heap.size]? = some (.cells #[.int .u16 (Plan.frame P), .slice a0 (Plan.cores P).length c0, .slice a1 (Plan.parts P).length c1, .slice a2 (Plan.chans P).length c2, .slice a3 (Plan.pairs P).length c3] 28 (0, 0))) := ⟨by rw [HW.out]; exact ⟨bel_one _ _, heap_alloc_new _ _⟩⟩
  have K := Aside.mk (reach_in W1 _ P p (HV.out.below hb1.out.1) hpn hN)
  clear hp hv
  generalize intoL (Plan.parts P).length (Plan.chans P) p = r at *
  go_enter Try.func12, Try.ntmps12
  go_wp2_with fail
  rw [← HW.out]
  refine K.out.mono ?_
  rintro e w' ⟨v, rfl, hB, b3⟩
  have B3 := Aside.mk (bel_then hb1.out.1 b3)
  have HB := Aside.mk hB
  clear b3 hB
  go_wp2_with fail
  go_ret2
  exact ⟨_, rfl, HB.out, B3.out⟩
end Go.Proofs.Ytflkfjjfhhapkaa
