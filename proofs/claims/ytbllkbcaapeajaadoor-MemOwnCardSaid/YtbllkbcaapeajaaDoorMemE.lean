/- Layer 7: what the document answers, as a number; lists of words compared; what the chapter's example fixes. -/
import Derived.Test.YtbllkbcaapeajaaDoorMemD
namespace Go.Proofs.YtbllkbcaapeajaaDoor
open Go.RowKit
set_option linter.unusedVariables false
set_option linter.unusedSimpArgs false

theorem right_no (w : World) (v : Value) (L : List Int) (c k at_ o d : Int) (hv : Ints w .u32 v L) (h : at_ < 0 ∨ (L.length : Int) ≤ at_) (hk : 0 ≤ k ∧ k ≤ 5) :
    Calls Tryd.prog 13 #[.agg #[v, .int .i64 c], .agg #[.int .i64 k, .int .i64 at_, .int .u32 o, .int .u32 d]] w fun e w' => e = .returned (.tuple #[.agg #[v, .int .i64 c], .int .u32 0, .int .i64 81]) ∧ Below w.heap.size w w' := by
  have hb3 : Below w.heap.size w (((w.alloc (.cells #[v, .int .i64 c] 29)).alloc (.cells #[.int .i64 k, .int .i64 at_, .int .u32 o, .int .u32 d] 35)).alloc (.cells #[.slice none 0 0, .int .i64 0] 29)) := (((Below.refl _ _).alloc (Nat.le_refl _) _).alloc (by simp) _).alloc (by simp; omega) _
  have Hd := Aside.mk (rdo_no _ v L c k at_ o d (hv.below hb3) h)
  have Hb3 := Aside.mk hb3
  have q1 : (((w.alloc (.cells #[v, .int .i64 c] 29)).alloc (.cells #[.int .i64 k, .int .i64 at_, .int .u32 o, .int .u32 d] 35)).alloc (.cells #[.slice none 0 0, .int .i64 0] 29)).heap[w.heap.size + 1]? = some (.cells #[.int .i64 k, .int .i64 at_, .int .u32 o, .int .u32 d] 35 (0, 0)) :=
    (Below.heap_alloc _ _ _ (by simp)).trans (by simpa using heap_alloc_new (w.alloc (.cells #[v, .int .i64 c] 29)) _)
  have q2 : (((w.alloc (.cells #[v, .int .i64 c] 29)).alloc (.cells #[.int .i64 k, .int .i64 at_, .int .u32 o, .int .u32 d] 35)).alloc (.cells #[.slice none 0 0, .int .i64 0] 29)).heap[w.heap.size + 2]? = some (.cells #[.slice none 0 0, .int .i64 0] 29 (0, 0)) :=
    (by simpa using heap_alloc_new ((w.alloc (.cells #[v, .int .i64 c] 29)).alloc (.cells #[.int .i64 k, .int .i64 at_, .int .u32 o, .int .u32 d] 35)) _)
  obtain ⟨A, cc, rfl, hm, hcc⟩ := hv
  clear h hcc hb3
  go_enter Tryd.func13, Tryd.ntmps13
  go_wp2_with fail
  refine Hd.out.mono ?_
  rintro e w1 ⟨rfl, hb⟩
  have p1 := (hb.block _ (lt_of_block q1)).trans q1
  have p2 := (hb.block _ (lt_of_block q2)).trans q2
  have hl2 := lt_of_block p2
  have b0 : w1.cell? ⟨w.heap.size + 1, 0, none⟩ = some (.int .i64 k) := by simp [World.cell?, p1]
  have b2 : w1.cell? ⟨w.heap.size + 1, 2, none⟩ = some (.int .u32 o) := by simp [World.cell?, p1]
  have c0 : w1.cell? ⟨w.heap.size + 1 + 1, 0, none⟩ = some (.slice none 0 0) := by simp [World.cell?, p2]
  have c1 : w1.cell? ⟨w.heap.size + 1 + 1, 1, none⟩ = some (.int .i64 0) := by simp [World.cell?, p2]
  have f0 : w1.frozen? ⟨w.heap.size + 1 + 1, 0, none⟩ = false := by simp [World.frozen?, p2]
  have f1 : w1.frozen? ⟨w.heap.size + 1 + 1, 1, none⟩ = false := by simp [World.frozen?, p2]
  have hb1 := below_then Hb3.out hb
  have Hb1 := Aside.mk hb1
  have hlt : w.heap.size + 1 + 1 < w1.heap.size := hl2
  have hlt1 : w.heap.size + 1 < w1.heap.size := by omega
  clear p1 p2 q1 q2 hb hb1 hl2
  have fin : ∀ o (u1 u2 : Value), Below w.heap.size w (((w1.setCell ⟨w.heap.size + 1 + 1, 0, none⟩ u1).setCell ⟨w.heap.size + 1 + 1, 1, none⟩ u2).alloc o) := fun o u1 u2 =>
    ((Hb1.out.setCell (show w.heap.size ≤ w.heap.size + 1 + 1 by omega) _).setCell (show w.heap.size ≤ w.heap.size + 1 + 1 by omega) _).alloc (by simp [World.setCell]; omega) _
  have Fin := Aside.mk fin
  clear fin
  have hkk : k = 0 ∨ k = 1 ∨ k = 2 ∨ k = 3 ∨ k = 4 ∨ k = 5 := by omega
  rcases hkk with rfl | rfl | rfl | rfl | rfl | rfl
  all_goals
    go_wp2_with fail
    refine bodyPost_ret (v := .tuple #[.agg #[.slice A L.length cc, .int .i64 c], .int .u32 0, .int .i64 81]) (by simp [results, Tryd.results13, go_sem, c0, c1, f0, f1, hlt]) rfl ⟨rfl, ?_⟩
    exact Fin.out _ _ _

theorem right_yes (w : World) (v : Value) (L : List Int) (c : Int) (n : Nat) (hv : Ints w .u32 v L) (hL : L.length ≤ 4096) (hn : n < L.length) (y : Int) (Hy : Aside (L.getD n 0 = y)) (hc0 : 0 ≤ c) (hc1 : c < 4611686018427387904)
    (k o d : Int) (hk : 0 ≤ k ∧ k ≤ 5) (d0 : 0 ≤ d) (d1 : d < 4294967296) (o0 : 0 ≤ o) (o1 : o < 4294967296) (y0 : 0 ≤ y) (y1 : y < 4294967296) :
    Calls Tryd.prog 13 #[.agg #[v, .int .i64 c], .agg #[.int .i64 k, .int .i64 n, .int .u32 o, .int .u32 d]] w fun e w' => ∃ v', e = .returned (.tuple #[.agg #[v', .int .i64 (c + 1)], .int .u32 (ansS k o y), .int .i64 0]) ∧ Ints w' .u32 v' (L.set n (newS k o d y)) ∧ Fresh w.heap.size v' ∧ Below w.heap.size w w' := by
  have hb3 : Below w.heap.size w (((w.alloc (.cells #[v, .int .i64 c] 29)).alloc (.cells #[.int .i64 k, .int .i64 n, .int .u32 o, .int .u32 d] 35)).alloc (.cells #[.slice none 0 0, .int .i64 0] 29)) := (((Below.refl _ _).alloc (Nat.le_refl _) _).alloc (by simp) _).alloc (by simp; omega) _
  have Hd := Aside.mk (rdo_yes _ v L c n (hv.below hb3) hL hn y Hy hc0 hc1 k o d hk d0 d1 o0 o1 y0 y1)
  have Hb3 := Aside.mk hb3
  have q1 : (((w.alloc (.cells #[v, .int .i64 c] 29)).alloc (.cells #[.int .i64 k, .int .i64 n, .int .u32 o, .int .u32 d] 35)).alloc (.cells #[.slice none 0 0, .int .i64 0] 29)).heap[w.heap.size + 1]? = some (.cells #[.int .i64 k, .int .i64 n, .int .u32 o, .int .u32 d] 35 (0, 0)) :=
    (Below.heap_alloc _ _ _ (by simp)).trans (by simpa using heap_alloc_new (w.alloc (.cells #[v, .int .i64 c] 29)) _)
  have q2 : (((w.alloc (.cells #[v, .int .i64 c] 29)).alloc (.cells #[.int .i64 k, .int .i64 n, .int .u32 o, .int .u32 d] 35)).alloc (.cells #[.slice none 0 0, .int .i64 0] 29)).heap[w.heap.size + 2]? = some (.cells #[.slice none 0 0, .int .i64 0] 29 (0, 0)) :=
    (by simpa using heap_alloc_new ((w.alloc (.cells #[v, .int .i64 c] 29)).alloc (.cells #[.int .i64 k, .int .i64 n, .int .u32 o, .int .u32 d] 35)) _)
  obtain ⟨A, cc, rfl, hm, hcc⟩ := hv
  clear hcc hb3
  go_enter Tryd.func13, Tryd.ntmps13
  go_wp2_with fail
  refine Hd.out.mono ?_
  rintro e w1 ⟨v1, rfl, hv1, hfr, hb⟩
  have p1 := (hb.block _ (lt_of_block q1)).trans q1
  have p2 := (hb.block _ (lt_of_block q2)).trans q2
  have hl2 := lt_of_block p2
  have b0 : w1.cell? ⟨w.heap.size + 1, 0, none⟩ = some (.int .i64 k) := by simp [World.cell?, p1]
  have b2 : w1.cell? ⟨w.heap.size + 1, 2, none⟩ = some (.int .u32 o) := by simp [World.cell?, p1]
  have c0 : w1.cell? ⟨w.heap.size + 1 + 1, 0, none⟩ = some (.slice none 0 0) := by simp [World.cell?, p2]
  have c1 : w1.cell? ⟨w.heap.size + 1 + 1, 1, none⟩ = some (.int .i64 0) := by simp [World.cell?, p2]
  have f0 : w1.frozen? ⟨w.heap.size + 1 + 1, 0, none⟩ = false := by simp [World.frozen?, p2]
  have f1 : w1.frozen? ⟨w.heap.size + 1 + 1, 1, none⟩ = false := by simp [World.frozen?, p2]
  have hlt : w.heap.size + 1 + 1 < w1.heap.size := hl2
  have hlt1 : w.heap.size + 1 < w1.heap.size := by omega
  have hb1 := below_then Hb3.out hb
  have Hb1 := Aside.mk hb1
  have Hv1 := Aside.mk hv1
  obtain ⟨A1, cc1, rfl, hm1, hcc1⟩ := hv1
  clear p1 p2 q1 q2 hb hb1 hl2 hcc1
  have hfr3 : Fresh (w.heap.size + 3) (.slice A1 (L.set n (newS k o d y)).length cc1) := by simpa using hfr
  have fin : ∀ (x : Obj) (u1 u2 : Value), Ints (((w1.setCell ⟨w.heap.size + 1 + 1, 0, none⟩ u1).setCell ⟨w.heap.size + 1 + 1, 1, none⟩ u2).alloc x) .u32 (.slice A1 (L.set n (newS k o d y)).length cc1) (L.set n (newS k o d y)) := fun x u1 u2 =>
    Hv1.out.kept (S := fun i => i = w.heap.size + 1 + 1) ((((Kept.refl (fun i => i = w.heap.size + 1 + 1) w1).setCell (p := ⟨w.heap.size + 1 + 1, 0, none⟩) (Or.inl rfl) u1).setCell (p := ⟨w.heap.size + 1 + 1, 1, none⟩) (Or.inl rfl) u2).alloc x) (fun b hb he => by have := hfr3 b hb; omega)
  have fin2 : ∀ (x : Obj) (u1 u2 : Value), Below w.heap.size w (((w1.setCell ⟨w.heap.size + 1 + 1, 0, none⟩ u1).setCell ⟨w.heap.size + 1 + 1, 1, none⟩ u2).alloc x) := fun x u1 u2 =>
    ((Hb1.out.setCell (show w.heap.size ≤ w.heap.size + 1 + 1 by omega) _).setCell (show w.heap.size ≤ w.heap.size + 1 + 1 by omega) _).alloc (by simp [World.setCell]; omega) _
  have Fin := Aside.mk (fun x u1 u2 => And.intro (fin x u1 u2) (And.intro (hfr3.mono (show w.heap.size ≤ w.heap.size + 3 by omega)) (fin2 x u1 u2)))
  clear fin fin2 hfr hfr3
  have hkk : k = 0 ∨ k = 1 ∨ k = 2 ∨ k = 3 ∨ k = 4 ∨ k = 5 := by omega
  obtain ⟨nn, Hnn⟩ : ∃ nn : Nat, Aside ((L.set n (newS k o d y)).length = nn) := ⟨_, ⟨rfl⟩⟩
  rw [Hnn.out] at Fin ⊢
  clear Hv1 hm1
  have hyo : y = o ∨ y ≠ o := by omega
  rcases hkk with rfl | rfl | rfl | rfl | rfl | rfl
  · go_wp2_with fail
    refine bodyPost_ret (v := .tuple #[.agg #[.slice A1 nn cc1, .int .i64 (c + 1)], .int .u32 y, .int .i64 0]) (by simp [results, Tryd.results13, go_sem, c0, c1, f0, f1, hlt]) rfl ⟨_, rfl, ?_⟩
    exact Fin.out _ _ _
  · go_wp2_with fail
    refine bodyPost_ret (v := .tuple #[.agg #[.slice A1 nn cc1, .int .i64 (c + 1)], .int .u32 0, .int .i64 0]) (by simp [results, Tryd.results13, go_sem, c0, c1, f0, f1, hlt]) rfl ⟨_, rfl, ?_⟩
    exact Fin.out _ _ _
  · rcases hyo with hyo | hyo
    · have hyb : (y == o) = true := beq_iff_eq.2 hyo
      have Hyo := Aside.mk hyo
      clear hyo
      go_wp2_with fail
      refine bodyPost_ret (v := .tuple #[.agg #[.slice A1 nn cc1, .int .i64 (c + 1)], .int .u32 1, .int .i64 0]) (by simp [results, Tryd.results13, go_sem, c0, c1, f0, f1, hlt]) rfl ⟨.slice A1 nn cc1, by simp [ansS, Hyo.out], ?_⟩
      exact Fin.out _ _ _
    · have hyb : (y == o) = false := beq_eq_false_iff_ne.2 hyo
      have Hyo := Aside.mk hyo
      clear hyo
      go_wp2_with fail
      refine bodyPost_ret (v := .tuple #[.agg #[.slice A1 nn cc1, .int .i64 (c + 1)], .int .u32 0, .int .i64 0]) (by simp [results, Tryd.results13, go_sem, c0, c1, f0, f1, hlt]) rfl ⟨.slice A1 nn cc1, by simp [ansS, Hyo.out], ?_⟩
      exact Fin.out _ _ _
  all_goals
    go_wp2_with fail
    refine bodyPost_ret (v := .tuple #[.agg #[.slice A1 nn cc1, .int .i64 (c + 1)], .int .u32 y, .int .i64 0]) (by simp [results, Tryd.results13, go_sem, c0, c1, f0, f1, hlt]) rfl ⟨_, rfl, ?_⟩
    exact Fin.out _ _ _

theorem same_lists (xs ys : List Int) (h : xs.length = ys.length) (hd : ∀ j < xs.length, xs.getD j 0 = ys.getD j 0) : xs = ys := by
  apply List.ext_getElem h
  intro i h1 h2
  have := hd i h1
  rw [List.getD_eq_getElem?_getD, List.getElem?_eq_getElem h1, List.getD_eq_getElem?_getD, List.getElem?_eq_getElem h2] at this
  simpa using this

/-- The same words: true. -/
theorem rsame7_yes (w : World) (v u : Value) (xs : List Int) (hv : Ints w .u32 v xs) (hu : Ints w .u32 u xs) :
    Calls Tryd.prog 15 #[v, u] w fun e w' => e = .returned (.bool true) ∧ ∃ n, w' = w.drewN n := by
  obtain ⟨A, c, rfl, hm, hc⟩ := hv
  obtain ⟨A', c', rfl, hm', hc'⟩ := hu
  have Hc := Aside.mk hc
  have Hc' := Aside.mk hc'
  clear hc hc'
  go_enter Tryd.func15, Tryd.ntmps15
  go_wp2_with fail
  go_loopw [5] (fun i wr => ∃ (k n : Nat), k ≤ xs.length ∧ i = .int .i64 k ∧ w.drewN n = wr) (fun i _ => xs.length - (intOf i).toNat)
  case atStart => exact ⟨0, 0, by omega, rfl, rfl⟩
  case round =>
    obtain ⟨k, n, hk, rfl, rfl⟩ := hrel
    by_cases hlt : k < xs.length
    · obtain ⟨ad, rfl, hcells⟩ := Hc.out (by omega)
      obtain ⟨ad', rfl, hcells'⟩ := Hc'.out (by omega)
      have hck := hcells k hlt
      have hck' := hcells' k hlt
      obtain ⟨x, Hx⟩ : ∃ x, Aside (xs.getD k 0 = x) := ⟨_, ⟨rfl⟩⟩
      rw [Hx.out] at hck hck'
      clear hcells hcells'
      go_wp2_with fail
      go_quiet (fail)
      go_wp2_with fail
      go_roundw
      case rel => exact ⟨k + 1, _, by omega, by go_num, rfl⟩
      case measure => simp [intOf]; omega
    · go_wp2_with fail
      go_ret
      exact ⟨rfl, _, rfl⟩

/-! ### awake -/
set_option maxHeartbeats 3200000 in
set_option maxRecDepth 100000 in
theorem awake_any (w : World) (hl : Look w) : Calls Tryd.prog 10 #[] w fun e w' => e = .returned (.bool true) ∧ Below w.heap.size w w' := by
  have h0 : 0 < w.heap.size := World.block_lt_of_cell? w _ hl.and
  have hB : 0 ≠ w.heap.size + 1 := by omega
  have hG : 0 ≠ w.heap.size := by omega
  have Hl := Aside.mk hl
  have hS : ∀ k, (k = w.heap.size + 1 ∨ k = w.heap.size) → w.heap.size ≤ k := fun k hk => by omega
  have hS0 : ¬ (0 = w.heap.size + 1 ∨ 0 = w.heap.size) := by omega
  have k0 := Aside.mk (new_yes 2 w (by decide) (by decide))
  clear hl
  go_enter Tryd.func10, Tryd.ntmps10
  go_wp2_with fail
  refine k0.out.mono ?_
  rintro e w1 ⟨rfl, m1, b1⟩
  replace m1 : MemAt w1 (w.heap.size + 1) w.heap.size [0, 0] 0 := m1
  have l1 := Hl.out.below b1
  have M1 := Aside.mk (And.intro m1 (And.intro b1 l1))
  have K1 := Aside.mk (store_yes w1 _ _ _ 0 1 m1 l1 (by decide) 0 ⟨rfl⟩ (by decide) (by decide) hB hG 5 (by decide) (by decide))
  clear m1 b1 l1
  go_wp2_with fail
  refine K1.out.mono ?_
  rintro e w2 ⟨rfl, m2, q2⟩
  replace m2 : MemAt w2 (w.heap.size + 1) w.heap.size [0, 5] 1 := m2
  have l2 := M1.out.2.2.kept q2 hS0
  have M2 := Aside.mk (And.intro m2 (And.intro (M1.out.2.1.trans (q2.below M1.out.2.1.size hS)) l2))
  have K2 := Aside.mk (add_yes w2 _ _ _ 1 1 m2 l2 (by decide) 5 ⟨rfl⟩ (by decide) (by decide) hB hG 4294967295 (by decide) (by decide))
  clear m2 q2 l2
  go_wp2_with fail
  refine K2.out.mono ?_
  rintro e w3 ⟨rfl, m3, q3⟩
  replace m3 : MemAt w3 (w.heap.size + 1) w.heap.size [0, 4] 2 := m3
  have l3 := M2.out.2.2.kept q3 hS0
  have M3 := Aside.mk (And.intro m3 (And.intro (M2.out.2.1.trans (q3.below M2.out.2.1.size hS)) l3))
  have K3 := Aside.mk (load_yes w3 _ _ _ 2 1 m3 l3 (by decide) 4 ⟨rfl⟩ (by decide) (by decide) hB hG)
  clear m3 q3 l3
  go_wp2_with fail
  refine K3.out.mono ?_
  rintro e w4 ⟨rfl, m4, q4⟩
  replace m4 : MemAt w4 (w.heap.size + 1) w.heap.size [0, 4] 3 := m4
  have l4 := M3.out.2.2.kept q4 hS0
  have M4 := Aside.mk (And.intro m4 (And.intro (M3.out.2.1.trans (q4.below M3.out.2.1.size hS)) l4))
  have K4 := Aside.mk (swap_yes w4 _ _ _ 3 1 m4 l4 (by decide) 4 ⟨rfl⟩ (by decide) (by decide) hB hG 9 (by decide) (by decide) 5 (by decide) (by decide))
  clear m4 q4 l4
  go_wp2_with fail
  refine K4.out.mono ?_
  rintro e w5 ⟨rfl, m5, q5⟩
  replace m5 : MemAt w5 (w.heap.size + 1) w.heap.size [0, 4] 4 := m5
  have l5 := M4.out.2.2.kept q5 hS0
  have M5 := Aside.mk (And.intro m5 (And.intro (M4.out.2.1.trans (q5.below M4.out.2.1.size hS)) l5))
  have K5 := Aside.mk (swap_yes w5 _ _ _ 4 1 m5 l5 (by decide) 4 ⟨rfl⟩ (by decide) (by decide) hB hG 9 (by decide) (by decide) 4 (by decide) (by decide))
  clear m5 q5 l5
  go_wp2_with fail
  refine K5.out.mono ?_
  rintro e w6 ⟨rfl, m6, q6⟩
  replace m6 : MemAt w6 (w.heap.size + 1) w.heap.size [0, 9] 5 := m6
  have l6 := M5.out.2.2.kept q6 hS0
  have M6 := Aside.mk (And.intro m6 (And.intro (M5.out.2.1.trans (q6.below M5.out.2.1.size hS)) l6))
  have K6 := Aside.mk (or_yes w6 _ _ _ 5 1 m6 l6 (by decide) 9 ⟨rfl⟩ (by decide) (by decide) hB hG 6 (by decide) (by decide))
  clear m6 q6 l6
  go_wp2_with fail
  refine K6.out.mono ?_
  rintro e w7 ⟨rfl, m7, q7⟩
  replace m7 : MemAt w7 (w.heap.size + 1) w.heap.size [0, 15] 6 := m7
  have l7 := M6.out.2.2.kept q7 hS0
  have M7 := Aside.mk (And.intro m7 (And.intro (M6.out.2.1.trans (q7.below M6.out.2.1.size hS)) l7))
  have K7 := Aside.mk (take_yes w7 _ _ _ 6 1 m7 l7 (by decide) 15 ⟨by decide⟩ (by decide) (by decide) hB hG)
  clear m7 q7 l7
  go_wp2_with fail
  refine K7.out.mono ?_
  rintro e w8 ⟨rfl, m8, q8⟩
  replace m8 : MemAt w8 (w.heap.size + 1) w.heap.size [0, 0] 7 := m8
  have l8 := M7.out.2.2.kept q8 hS0
  have M8 := Aside.mk (And.intro m8 (And.intro (M7.out.2.1.trans (q8.below M7.out.2.1.size hS)) l8))
  have K8 := Aside.mk (load_no w8 _ _ _ 7 2 m8 l8 (by decide))
  clear m8 q8 l8
  go_wp2_with fail
  refine K8.out.mono ?_
  rintro e w9 ⟨rfl, b9⟩
  have m9 := M8.out.1.below b9
  have M9 := Aside.mk (And.intro m9 (M8.out.2.1.trans (b9.mono M8.out.2.1.size)))
  have K9 := Aside.mk (words_any w9 _ _ _ 7 m9)
  clear m9 b9
  go_wp2_with fail
  refine K9.out.mono ?_
  rintro e w10 ⟨rfl, rfl⟩
  have hnew := heap_alloc_new w9 (.cells #[.int .u32 0, .int .u32 0] 33)
  have d1 : (w9.alloc (.cells #[.int .u32 0, .int .u32 0] 33)).cell? ⟨w9.heap.size, 1, none⟩ = some (.int .u32 0) := by unfold World.cell?; rw [hnew]; rfl
  have K10 := Aside.mk (count_any _ _ _ _ 7 (M9.out.1.below ((Below.refl _ _).alloc (Nat.le_refl _) (.cells #[.int .u32 0, .int .u32 0] 33))))
  clear hnew
  go_wp2_with fail
  refine K10.out.mono ?_
  rintro e w11 ⟨rfl, rfl⟩
  go_wp2_with fail
  go_ret
  exact ⟨rfl, M9.out.2.trans (((Below.refl _ _).alloc (Nat.le_refl _) _).mono M9.out.2.size)⟩
end Go.Proofs.YtbllkbcaapeajaaDoor
