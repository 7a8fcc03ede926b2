/- Layer 7: the reference's memory: made, used. -/
import Derived.Test.YtbllkbcaapeajaaDoorMemC
namespace Go.Proofs.YtbllkbcaapeajaaDoor
open Go.RowKit
set_option linter.unusedVariables false
set_option linter.unusedSimpArgs false

theorem rnew_no (n : Int) (w : World) (h : n < 1 ∨ 4096 < n) :
    Calls Tryd.prog 9 #[.int .i64 n] w fun e w' => e = .returned (.tuple #[.agg #[.slice none 0 0, .int .i64 0], .int .i64 80]) ∧ Below w.heap.size w w' := by
  by_cases h1 : n < 1
  · go_enter Tryd.func9, Tryd.ntmps9
    go_wp2_with fail
    exact bodyPost_ret (v := .tuple #[.agg #[.slice none 0 0, .int .i64 0], .int .i64 80]) (by simp [results, Tryd.results9, go_sem]) rfl ⟨rfl, (Below.refl _ _).alloc (Nat.le_refl _) _⟩
  · have h2 : 4096 < n := by omega
    go_enter Tryd.func9, Tryd.ntmps9
    go_wp2_with fail
    exact bodyPost_ret (v := .tuple #[.agg #[.slice none 0 0, .int .i64 0], .int .i64 80]) (by simp [results, Tryd.results9, go_sem]) rfl ⟨rfl, (Below.refl _ _).alloc (Nat.le_refl _) _⟩

theorem rnew_yes (n : Nat) (w : World) (h1 : 1 ≤ n) (h2 : n ≤ 4096) :
    Calls Tryd.prog 9 #[.int .i64 (n : Int)] w fun e w' => ∃ v, e = .returned (.tuple #[.agg #[v, .int .i64 0], .int .i64 0]) ∧ Ints w' .u32 v (List.replicate n 0) ∧ Below w.heap.size w w' := by
  have hmk : ∀ W : World, (Instr.makeSlice 27 (.int .i64 (n : Int)) (.int .i64 (n : Int))).run Tryd.prog W = .ok (.slice (some ⟨W.heap.size, 0, none⟩) n n) (W.alloc (.cells (madeCells #[.int .u32 0] n) 33)) := fun W =>
    run_make_row' 27 33 (.int .u32 0) 4 Tryd.underlying27 A_info_u32 rfl .i64 .i64 n (by omega) (by omega) W
  go_enter Tryd.func9, Tryd.ntmps9
  go_wp2_with fail
  refine bodyPost_ret (v := .tuple #[.agg #[.slice (some ⟨w.heap.size + 1, 0, none⟩) n n, .int .i64 0], .int .i64 0]) (by simp [results, Tryd.results9, go_sem]) rfl ⟨_, rfl, ?_, below_two _ _ _⟩
  have := ints_lit (w.alloc (.cells #[.slice (some ⟨w.heap.size + 1, 0, none⟩) n n, .int .i64 0] 29)) .u32 33 (List.replicate n 0) (by simp; omega)
  rw [← made_u32] at this
  simpa using this

theorem rdo_no (w : World) (v : Value) (L : List Int) (c k at_ o d : Int) (hv : Ints w .u32 v L) (h : at_ < 0 ∨ (L.length : Int) ≤ at_) :
    Calls Tryd.prog 23 #[.agg #[v, .int .i64 c], .agg #[.int .i64 k, .int .i64 at_, .int .u32 o, .int .u32 d]] w fun e w' => e = .returned (.tuple #[.agg #[v, .int .i64 c], .int .u32 0, .int .i64 81]) ∧ Below w.heap.size w w' := by
  obtain ⟨A, cc, rfl, hm, hc⟩ := hv
  clear hc
  have hbl : ∀ x y z : Obj, Below w.heap.size w (((w.alloc x).alloc y).alloc z) := fun x y z => (((Below.refl _ _).alloc (Nat.le_refl _) _).alloc (by simp) _).alloc (by simp; omega) _
  by_cases h1 : at_ < 0
  · go_enter Tryd.func23, Tryd.ntmps23
    go_wp2_with fail
    exact bodyPost_ret (v := .tuple #[.agg #[.slice A L.length cc, .int .i64 c], .int .u32 0, .int .i64 81]) (by simp [results, Tryd.results23, go_sem]) rfl ⟨rfl, hbl _ _ _⟩
  · have h2 : (L.length : Int) ≤ at_ := by omega
    go_enter Tryd.func23, Tryd.ntmps23
    go_wp2_with fail
    exact bodyPost_ret (v := .tuple #[.agg #[.slice A L.length cc, .int .i64 c], .int .u32 0, .int .i64 81]) (by simp [results, Tryd.results23, go_sem]) rfl ⟨rfl, hbl _ _ _⟩

set_option maxHeartbeats 1600000 in
theorem rdo_yes (w : World) (v : Value) (L : List Int) (c : Int) (n : Nat) (hv : Ints w .u32 v L) (hL : L.length ≤ 4096) (hn : n < L.length) (y : Int) (Hy : Aside (L.getD n 0 = y)) (hc0 : 0 ≤ c) (hc1 : c < 4611686018427387904)
    (k o d : Int) (hk : 0 ≤ k ∧ k ≤ 5) (d0 : 0 ≤ d) (d1 : d < 4294967296) (o0 : 0 ≤ o) (o1 : o < 4294967296) (y0 : 0 ≤ y) (y1 : y < 4294967296) :
    Calls Tryd.prog 23 #[.agg #[v, .int .i64 c], .agg #[.int .i64 k, .int .i64 n, .int .u32 o, .int .u32 d]] w fun e w' => ∃ v', e = .returned (.tuple #[.agg #[v', .int .i64 (c + 1)], .int .u32 y, .int .i64 0]) ∧ Ints w' .u32 v' (L.set n (newS k o d y)) ∧ Fresh w.heap.size v' ∧ Below w.heap.size w w' := by
  have Hv := Aside.mk hv
  obtain ⟨A, cc, rfl, hm, hcc⟩ := hv
  obtain ⟨ad, rfl, hcells⟩ := hcc (by omega)
  clear hcells hcc
  obtain ⟨W4, HW⟩ : ∃ W4, Aside (W4 = (((w.alloc (.cells #[.slice (some ad) L.length cc, .int .i64 c] 29)).alloc (.cells #[.int .i64 k, .int .i64 n, .int .u32 o, .int .u32 d] 35)).alloc (.cells #[.slice none 0 0, .int .i64 0] 29)).alloc (.cells #[] 33)) := ⟨_, ⟨rfl⟩⟩
  have hb4 : Below w.heap.size w W4 := by rw [HW.out]; exact ((((Below.refl _ _).alloc (Nat.le_refl _) _).alloc (by simp) _).alloc (by simp; omega) _).alloc (by simp; omega) _
  have hown4 : W4.ownsRow (w.heap.size + 3) 33 1 (.slice (some ⟨w.heap.size + 1 + 1 + 1, 0, none⟩) 0 0) 0 [] := by
    rw [HW.out]
    have := World.ownsRow_lit (base := w.heap.size + 3) (e := 33) (size := 1) (((w.alloc (.cells #[.slice (some ad) L.length cc, .int .i64 c] 29)).alloc (.cells #[.int .i64 k, .int .i64 n, .int .u32 o, .int .u32 d] 35)).alloc (.cells #[.slice none 0 0, .int .i64 0] 29)) #[] 0 (by simp) (by decide) rfl
    simpa using this
  have hs4 : W4.heap.size = w.heap.size + 4 := by rw [HW.out]; simp
  have q0 : W4.heap[w.heap.size]? = some (.cells #[.slice (some ad) L.length cc, .int .i64 c] 29 (0, 0)) := by
    rw [HW.out]; exact (Below.heap_alloc _ _ _ (by simp; omega)).trans ((Below.heap_alloc _ _ _ (by simp; omega)).trans ((Below.heap_alloc _ _ _ (by simp)).trans (heap_alloc_new _ _)))
  have q1 : W4.heap[w.heap.size + 1]? = some (.cells #[.int .i64 k, .int .i64 n, .int .u32 o, .int .u32 d] 35 (0, 0)) := by
    rw [HW.out]; exact (Below.heap_alloc _ _ _ (by simp <;> omega)).trans ((Below.heap_alloc _ _ _ (by simp <;> omega)).trans (by simpa using heap_alloc_new (w.alloc (.cells #[.slice (some ad) L.length cc, .int .i64 c] 29)) _))
  have q2 : W4.heap[w.heap.size + 2]? = some (.cells #[.slice none 0 0, .int .i64 0] 29 (0, 0)) := by
    rw [HW.out]; exact (Below.heap_alloc _ _ _ (by simp)).trans (by simpa using heap_alloc_new ((w.alloc (.cells #[.slice (some ad) L.length cc, .int .i64 c] 29)).alloc (.cells #[.int .i64 k, .int .i64 n, .int .u32 o, .int .u32 d] 35)) _)
  have hv4 : Ints W4 .u32 (.slice (some ad) L.length cc) L := Hv.out.below hb4
  have Q := Aside.mk (And.intro hb4 (And.intro hown4 (And.intro hs4 (And.intro q0 (And.intro q1 (And.intro q2 hv4))))))
  clear hb4 hown4 hs4 q0 q1 q2 hv4
  go_enter Tryd.func23, Tryd.ntmps23
  go_wp2_with (at_builtin; rw [← HW.out]; refine append_row (w.heap.size + 3) rfl _ _ 27 33 (.int .u32 0) 4 rfl Tryd.underlying27 A_info_u32 rfl (by decide) (.slice (some ⟨w.heap.size + 1 + 1 + 1, 0, none⟩) 0 0) 0 [] (L.map (Value.int .u32)) (some ad) L.length cc rfl rfl Q.out.2.1 (by simp) (ints_news Q.out.2.2.2.2.2.2).2 (ints_oneCell _ _) (by rw [Q.out.2.2.1]; omega) (by omega) ?_)
  intro v1 w1 hown1 hg hat
  have hown2 : w1.ownsRow (w.heap.size + 3) 33 1 v1 L.length (L.map (Value.int .u32)) := by simpa using hown1
  have hblk : ∀ i o, i < w.heap.size + 3 → W4.heap[i]? = some o → w1.heap[i]? = some o := fun i o hi h => (hg.block i (lt_of_block h) (by simp [Value.ownBlock]; omega)).trans h
  have hb1 : Below w.heap.size w w1 := Q.out.1.trans (grown_below hg (by rw [Q.out.2.2.1]; omega) (fun j hj => by simp [Value.ownBlock] at hj; omega))
  have p0 := hblk _ _ (by omega) Q.out.2.2.2.1
  have p1 := hblk _ _ (by omega) Q.out.2.2.2.2.1
  have p2 := hblk _ _ (by omega) Q.out.2.2.2.2.2.1
  obtain ⟨g, cap, rfl, hgb, hglt, hat_⟩ := own_head hown2 (by omega)
  obtain ⟨e1, e2, e3⟩ := hat_ n hn
  rw [Hy.out] at e1
  have a0 : w1.cell? ⟨w.heap.size, 0, none⟩ = some (.slice (some ad) L.length cc) := by simp [World.cell?, p0]
  have a1 : w1.cell? ⟨w.heap.size, 1, none⟩ = some (.int .i64 c) := by simp [World.cell?, p0]
  have b0 : w1.cell? ⟨w.heap.size + 1, 0, none⟩ = some (.int .i64 k) := by simp [World.cell?, p1]
  have b1 : w1.cell? ⟨w.heap.size + 1, 1, none⟩ = some (.int .i64 n) := by simp [World.cell?, p1]
  have b2 : w1.cell? ⟨w.heap.size + 1, 2, none⟩ = some (.int .u32 o) := by simp [World.cell?, p1]
  have b3 : w1.cell? ⟨w.heap.size + 1, 3, none⟩ = some (.int .u32 d) := by simp [World.cell?, p1]
  have c0 : w1.cell? ⟨w.heap.size + 1 + 1, 0, none⟩ = some (.slice none 0 0) := by simp [World.cell?, p2]
  have c1 : w1.cell? ⟨w.heap.size + 1 + 1, 1, none⟩ = some (.int .i64 0) := by simp [World.cell?, p2]
  have f0 : w1.frozen? ⟨w.heap.size + 1 + 1, 0, none⟩ = false := by simp [World.frozen?, p2]
  have f1 : w1.frozen? ⟨w.heap.size + 1 + 1, 1, none⟩ = false := by simp [World.frozen?, p2]
  have E3 := Aside.mk e3
  have Hb1 := Aside.mk hb1
  have Hown2 := Aside.mk hown2
  have hg1 : ¬ g = w.heap.size := by omega
  have hg2 : ¬ g = w.heap.size + 1 := by omega
  have hg3 : ¬ g = w.heap.size + 1 + 1 := by omega
  have hg1' : ¬ w.heap.size = g := by omega
  have hg2' : ¬ w.heap.size + 1 = g := by omega
  have hg3' : ¬ w.heap.size + 1 + 1 = g := by omega
  have fin : ∀ (W : World) (X : Int) (u1 u2 : Value), W.ownsRow (w.heap.size + 3) 33 1 (.slice (some ⟨g, 0, none⟩) L.length cap) L.length ((L.set n X).map (Value.int .u32)) → Below w.heap.size w W →
      Ints ((W.setCell ⟨w.heap.size + 1 + 1, 0, none⟩ u1).setCell ⟨w.heap.size + 1 + 1, 1, none⟩ u2) .u32 (.slice (some ⟨g, 0, none⟩) L.length cap) (L.set n X) ∧ Below w.heap.size w ((W.setCell ⟨w.heap.size + 1 + 1, 0, none⟩ u1).setCell ⟨w.heap.size + 1 + 1, 1, none⟩ u2) := by
    intro W X u1 u2 h hb
    exact ⟨own_ints (ownsRow_setCell_below (ownsRow_setCell_below h (show w.heap.size + 1 + 1 < w.heap.size + 3 by omega) _) (show w.heap.size + 1 + 1 < w.heap.size + 3 by omega) _), (hb.setCell (show w.heap.size ≤ w.heap.size + 1 + 1 by omega) _).setCell (show w.heap.size ≤ w.heap.size + 1 + 1 by omega) _⟩
  have fin0 : ∀ (u1 u2 : Value), Ints ((w1.setCell ⟨w.heap.size + 1 + 1, 0, none⟩ u1).setCell ⟨w.heap.size + 1 + 1, 1, none⟩ u2) .u32 (.slice (some ⟨g, 0, none⟩) L.length cap) (L.set n y) ∧ Below w.heap.size w ((w1.setCell ⟨w.heap.size + 1 + 1, 0, none⟩ u1).setCell ⟨w.heap.size + 1 + 1, 1, none⟩ u2) :=
    fun u1 u2 => fin w1 y u1 u2 (by rw [set_same L n hn Hy]; exact hown2) hb1
  have fin1 : ∀ (X : Int) (u1 u2 : Value), Ints (((w1.setCell ⟨g, n, none⟩ (.int .u32 X)).setCell ⟨w.heap.size + 1 + 1, 0, none⟩ u1).setCell ⟨w.heap.size + 1 + 1, 1, none⟩ u2) .u32 (.slice (some ⟨g, 0, none⟩) L.length cap) (L.set n X) ∧ Below w.heap.size w (((w1.setCell ⟨g, n, none⟩ (.int .u32 X)).setCell ⟨w.heap.size + 1 + 1, 0, none⟩ u1).setCell ⟨w.heap.size + 1 + 1, 1, none⟩ u2) :=
    fun X u1 u2 => fin _ X u1 u2 (e3 X) (hb1.setCell (show w.heap.size ≤ g by omega) _)
  have Hfr : Fresh w.heap.size (.slice (some ⟨g, 0, none⟩) L.length cap) := fun b h => by simp [Value.ownBlock] at h; omega
  have Fin0 := Aside.mk fin0
  have Fin1 := Aside.mk fin1
  clear fin fin0 fin1
  clear e3 hb1 hown2 hown1 hblk p0 p1 p2 hat hat_ hg
  have hkk : k = 0 ∨ k = 1 ∨ k = 2 ∨ k = 3 ∨ k = 4 ∨ k = 5 := by omega
  rcases hkk with rfl | rfl | rfl | rfl | rfl | rfl
  · go_wp2_with fail
    refine bodyPost_ret (v := .tuple #[.agg #[.slice (some ⟨g, 0, none⟩) L.length cap, .int .i64 (c + 1)], .int .u32 y, .int .i64 0]) (by simp [results, Tryd.results23, go_sem, c0, c1, f0, f1]) rfl ⟨_, rfl, ?_, Hfr, ?_⟩
    exact (Fin0.out _ _).1
    exact (Fin0.out _ _).2
  · go_wp2_with fail
    refine bodyPost_ret (v := .tuple #[.agg #[.slice (some ⟨g, 0, none⟩) L.length cap, .int .i64 (c + 1)], .int .u32 y, .int .i64 0]) (by simp [results, Tryd.results23, go_sem, c0, c1, f0, f1]) rfl ⟨_, rfl, ?_, Hfr, ?_⟩
    exact (Fin1.out d _ _).1
    exact (Fin1.out d _ _).2
  · by_cases hyo : y = o
    · have hyb : (y == o) = true := beq_iff_eq.2 hyo
      have Hyo := Aside.mk hyo
      clear hyo
      go_wp2_with fail
      refine bodyPost_ret (v := .tuple #[.agg #[.slice (some ⟨g, 0, none⟩) L.length cap, .int .i64 (c + 1)], .int .u32 y, .int .i64 0]) (by simp [results, Tryd.results23, go_sem, c0, c1, f0, f1]) rfl ⟨_, rfl, ?_, Hfr, ?_⟩
      have e : newS 2 o d y = d := by simp [newS, Hyo.out]
      rw [e]
      exact (Fin1.out d _ _).1
      exact (Fin1.out d _ _).2
    · have hyb : (y == o) = false := beq_eq_false_iff_ne.2 hyo
      have Hyo := Aside.mk hyo
      clear hyo
      go_wp2_with fail
      refine bodyPost_ret (v := .tuple #[.agg #[.slice (some ⟨g, 0, none⟩) L.length cap, .int .i64 (c + 1)], .int .u32 y, .int .i64 0]) (by simp [results, Tryd.results23, go_sem, c0, c1, f0, f1]) rfl ⟨_, rfl, ?_, Hfr, ?_⟩
      have e : newS 2 o d y = y := by simp [newS, Hyo.out]
      rw [e]
      exact (Fin0.out _ _).1
      exact (Fin0.out _ _).2
  · go_wp2_with fail
    refine bodyPost_ret (v := .tuple #[.agg #[.slice (some ⟨g, 0, none⟩) L.length cap, .int .i64 (c + 1)], .int .u32 y, .int .i64 0]) (by simp [results, Tryd.results23, go_sem, c0, c1, f0, f1]) rfl ⟨_, rfl, ?_, Hfr, ?_⟩
    exact (Fin1.out _ _ _).1
    exact (Fin1.out _ _ _).2
  · go_wp2_with fail
    go_region_with (go_at_call 25; refine (ror_any y d y0 y1 d0 d1 _).mono ?_; rintro e w' ⟨rfl, rfl⟩)
    all_goals go_wp2_with fail
    all_goals refine bodyPost_ret (v := .tuple #[.agg #[.slice (some ⟨g, 0, none⟩) L.length cap, .int .i64 (c + 1)], .int .u32 y, .int .i64 0]) (by simp [results, Tryd.results23, go_sem, c0, c1, f0, f1]) rfl ⟨_, rfl, ?_, Hfr, ?_⟩
    all_goals first | exact (Fin1.out (Go.bits .or .u32 y d) _ _).1 | exact (Fin1.out (Go.bits .or .u32 y d) _ _).2.drew
  · go_wp2_with fail
    refine bodyPost_ret (v := .tuple #[.agg #[.slice (some ⟨g, 0, none⟩) L.length cap, .int .i64 (c + 1)], .int .u32 y, .int .i64 0]) (by simp [results, Tryd.results23, go_sem, c0, c1, f0, f1]) rfl ⟨_, rfl, ?_, Hfr, ?_⟩
    exact (Fin1.out _ _ _).1
    exact (Fin1.out _ _ _).2
end Go.Proofs.YtbllkbcaapeajaaDoor
