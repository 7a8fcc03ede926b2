/- The program's rules: fault, within, end, Overlap, Together, twice. -/
import Derived.Test.YtpcjjmjmigibhaaDoorRulA
import Derived.Test.YtpcjjmjmigibhaaDoorErrB
namespace Go.Proofs.YtpcjjmjmigibhaaDoor
open Go.RowKit
set_option linter.unusedVariables false
set_option linter.unusedSimpArgs false

theorem fault_any (n a : Int) (w : World) :
    Calls Tryd.prog 35 #[.int .i64 n, .int .i64 a] w fun e w' => ∃ v, e = .returned v ∧ ErrF w' (some (n, a)) v ∧ Below w.heap.size w w' := by
  go_enter Tryd.func35, Tryd.ntmps35
  go_wp2_with fail
  go_ret
  exact ⟨_, rfl, ⟨w.heap.size, rfl, heap_alloc_new _ _⟩, lone _ _⟩
theorem within_any (n a b : Int) (w : World) :
    Calls Tryd.prog 36 #[.int .i64 n, .int .i64 a, .int .i64 b] w fun e w' => e = .returned (.bool (decide (a ≤ n) && decide (n ≤ b))) ∧ w = w' := by
  by_cases h1 : a ≤ n
  · by_cases h2 : n ≤ b
    all_goals
      go_enter Tryd.func36, Tryd.ntmps36
      go_wp2
      go_ret
      exact ⟨ret_bool (by simp; omega), rfl⟩
  · go_enter Tryd.func36, Tryd.ntmps36
    go_wp2
    go_ret
    exact ⟨ret_bool (by simp; omega), rfl⟩
theorem end_any (x : Win) (hx : Win.Ok x) (w : World) :
    Calls Tryd.prog 29 #[Win.val x] w fun e w' => e = .returned (.int .i64 (endS x)) ∧ Below w.heap.size w w' := by
  obtain ⟨⟨s0, s1⟩, ⟨l0, l1⟩, ⟨p0, p1⟩, ⟨g0, g1⟩⟩ := hx
  unfold Win.val endS
  generalize Win.s x = s at *
  generalize Win.l x = l at *
  have h : IntKind.i64.wrap (s + l) = s + l := IntWalk.i64_in _ (by omega)
  go_enter Tryd.func29, Tryd.ntmps29
  go_wp2_with fail
  go_ret
  exact ⟨rfl, lone _ _⟩
theorem overlap_iff (v x : Win) : overlapS v x = true ↔ 0 < Win.l v ∧ 0 < Win.l x ∧ Win.s v < endS x ∧ Win.s x < endS v := by
  unfold overlapS laterS endS
  rw [Bool.and_eq_true, hasS_iff, hasS_iff]
  split <;> omega
set_option maxHeartbeats 1600000 in
theorem poverlap_any (v x : Win) (hv : Win.Ok v) (hx : Win.Ok x) (w : World) :
    Calls Tryd.prog 14 #[Win.val v, Win.val x] w fun e w' => e = .returned (.bool (overlapS v x)) ∧ Below w.heap.size w w' := by
  have K1 := Aside.mk (end_any v hv)
  have K2 := Aside.mk (end_any x hx)
  have E : overlapS v x = (decide (0 < Win.l v) && decide (0 < Win.l x) && decide (Win.s v < endS x) && decide (Win.s x < endS v)) := by
    rw [Bool.eq_iff_iff, overlap_iff]
    simp [and_assoc]
  rw [E]
  clear E
  have q1 : 0 ≤ Win.s v ∧ Win.s v ≤ 65535 := hv.s
  have q2 : 0 ≤ Win.s x ∧ Win.s x ≤ 65535 := hx.s
  have q3 : 0 ≤ Win.l v ∧ Win.l v ≤ 65535 := hv.l
  have q4 : 0 ≤ Win.l x ∧ Win.l x ≤ 65535 := hx.l
  obtain ⟨q1, q5⟩ := q1
  obtain ⟨q2, q6⟩ := q2
  obtain ⟨q3, q7⟩ := q3
  obtain ⟨q4, q8⟩ := q4
  unfold Win.val at K1 K2 ⊢
  generalize endS v = ev at *
  generalize endS x = ex at *
  generalize Win.s v = s at *
  generalize Win.l v = l at *
  generalize Win.p v = p at *
  generalize Win.g v = g at *
  generalize Win.s x = s' at *
  generalize Win.l x = l' at *
  generalize Win.p x = p' at *
  generalize Win.g x = g' at *
  have w1 : IntKind.i64.wrap s = s := IntWalk.i64_in _ (by omega)
  have w2 : IntKind.i64.wrap s' = s' := IntWalk.i64_in _ (by omega)
  obtain ⟨W1, HW⟩ : ∃ W1, Aside (W1 = (w.alloc (.cells #[.int .u16 s, .int .u16 l, .int .u8 p, .int .u8 g] 39)).alloc (.cells #[.int .u16 s', .int .u16 l', .int .u8 p', .int .u8 g'] 39)) := ⟨_, ⟨rfl⟩⟩
  have B1 : Aside (Below w.heap.size w W1) := ⟨by rw [HW.out]; exact lthen (lone _ _) (lone _ _)⟩
  obtain ⟨f0, f1, f2, f3⟩ := lbox4 (w := W1) (B := w.heap.size) (t := 39) (fr := (0, 0)) (x0 := .int .u16 s) (x1 := .int .u16 l) (x2 := .int .u8 p) (x3 := .int .u8 g) (by rw [HW.out]; exact lheap_up (heap_alloc_new _ _))
  obtain ⟨e0, e1, e2, e3⟩ := lbox4 (w := W1) (B := w.heap.size + 1) (t := 39) (fr := (0, 0)) (x0 := .int .u16 s') (x1 := .int .u16 l') (x2 := .int .u8 p') (x3 := .int .u8 g') (by rw [HW.out]; exact lheap_top _ _ _ (by simp))
  by_cases h1 : 0 < l
  · by_cases h2 : 0 < l'
    · by_cases h3 : s < ex
      · by_cases h4 : s' < ev
        all_goals
          have d3 : decide (s < ex) = true := decide_eq_true h3
          go_enter Tryd.func14, Tryd.ntmps14
          go_upto_region 1 with (fail)
          rw [← HW.out]
          have KD1 := Aside.mk (K2.out W1.drew)
          go_region_held3 (fun w' => w'.cell? ⟨w.heap.size, 0, none⟩ = some (.int .u16 s) ∧ w'.cell? ⟨w.heap.size, 1, none⟩ = some (.int .u16 l) ∧ w'.cell? ⟨w.heap.size, 2, none⟩ = some (.int .u8 p) ∧ w'.cell? ⟨w.heap.size, 3, none⟩ = some (.int .u8 g) ∧ w'.cell? ⟨w.heap.size + 1, 0, none⟩ = some (.int .u16 s') ∧ w'.cell? ⟨w.heap.size + 1, 1, none⟩ = some (.int .u16 l') ∧ w'.cell? ⟨w.heap.size + 1, 2, none⟩ = some (.int .u8 p') ∧ w'.cell? ⟨w.heap.size + 1, 3, none⟩ = some (.int .u8 g')) (first | go_keep | (exact ⟨k1 _ _ f0, k1 _ _ f1, k1 _ _ f2, k1 _ _ f3, k1 _ _ e0, k1 _ _ e1, k1 _ _ e2, k1 _ _ e3⟩))
            (first
              | ((with_reducible refine KD1.out.mono ?_); rintro e w5 ⟨rfl, b5⟩; have Y5 : Aside (Below W1.heap.size W1 w5) := ⟨lthen (below_drewN W1 1) b5⟩; have KD2 := Aside.mk (K1.out w5); have k1 := lkeep Y5.out)
              | ((with_reducible refine KD2.out.mono ?_); rintro e w6 ⟨rfl, b6⟩; have Y6 : Aside (Below W1.heap.size W1 w6) := ⟨lthen Y5.out b6⟩; have k1 := lkeep Y6.out))
          all_goals
            go_wp2_with fail
            go_ret
            exact ⟨ret_bool (by simp; omega), lthen B1.out Y6.out⟩
      · have d3 : decide (s < ex) = false := decide_eq_false h3
        go_enter Tryd.func14, Tryd.ntmps14
        go_upto_region 1 with (fail)
        rw [← HW.out]
        refine wp_region_held_drew (S := (fun w' => w'.cell? ⟨w.heap.size, 0, none⟩ = some (.int .u16 s) ∧ w'.cell? ⟨w.heap.size + 1, 0, none⟩ = some (.int .u16 s') ∧ w'.cell? ⟨w.heap.size + 1, 1, none⟩ = some (.int .u16 l') ∧ w'.cell? ⟨w.heap.size, 1, none⟩ = some (.int .u16 l) ∧ w'.cell? ⟨w.heap.size + 1, 2, none⟩ = some (.int .u8 p') ∧ w'.cell? ⟨w.heap.size + 1, 3, none⟩ = some (.int .u8 g'))) (by kernel_rfl) ⟨f0, e0, e1, f1, e2, e3⟩ (fun hHeld => ?_)
        refine wpAnyH_take (i := 0) (v := ?_) rfl (by kernel_rfl) (by kernel_rfl) (by kernel_rfl) (fun _ _ _ h => h) (Or.inl ⟨by kernel_rfl, ?_⟩) (by assumption) ?_
        rotate_left
        · (intro w hSw; (try dsimp only at hSw); go_simp)
          all_goals with_reducible rfl
        (try simp only [Act.put, List.setIfInBounds_toArray, List.set_cons_zero, List.set_cons_succ])
        refine wpAnyH_take (i := 1) (v := ?_) rfl (by kernel_rfl) (by kernel_rfl) (by kernel_rfl) (fun _ _ _ h => h) (Or.inl ⟨by kernel_rfl, ?_⟩) (by assumption) ?_
        rotate_left
        · (intro w hSw; (try dsimp only at hSw); go_simp)
          all_goals with_reducible rfl
        (try simp only [Act.put, List.setIfInBounds_toArray, List.set_cons_zero, List.set_cons_succ])
        refine wpAnyH_take (i := 2) (v := ?_) rfl (by kernel_rfl) (by kernel_rfl) (by kernel_rfl) (fun _ _ _ h => h) (Or.inl ⟨by kernel_rfl, ?_⟩) (by assumption) ?_
        rotate_left
        · (intro w hSw; (try dsimp only at hSw); go_simp)
          all_goals with_reducible rfl
        (try simp only [Act.put, List.setIfInBounds_toArray, List.set_cons_zero, List.set_cons_succ])
        refine wpAnyH_take (i := 3) (v := ?_) rfl (by kernel_rfl) (by kernel_rfl) (by kernel_rfl) (fun _ _ _ h => h) (Or.inl ⟨by kernel_rfl, ?_⟩) (by assumption) ?_
        rotate_left
        · (intro w hSw; (try dsimp only at hSw); go_simp)
          all_goals with_reducible rfl
        (try simp only [Act.put, List.setIfInBounds_toArray, List.set_cons_zero, List.set_cons_succ])
        refine wpAnyH_take (i := 4) (v := ?_) rfl (by kernel_rfl) (by kernel_rfl) (by kernel_rfl) (fun _ _ _ h => h) (Or.inl ⟨by kernel_rfl, ?_⟩) (by assumption) ?_
        rotate_left
        · (intro w hSw; (try dsimp only at hSw); go_simp)
          all_goals with_reducible rfl
        (try simp only [Act.put, List.setIfInBounds_toArray, List.set_cons_zero, List.set_cons_succ])
        refine wpAnyH_take (i := 5) (v := ?_) rfl (by kernel_rfl) (by kernel_rfl) (by kernel_rfl) (fun _ _ _ h => h) (Or.inl ⟨by kernel_rfl, ?_⟩) (by assumption) ?_
        rotate_left
        · (intro w hSw; (try dsimp only at hSw); go_simp)
          all_goals with_reducible rfl
        (try simp only [Act.put, List.setIfInBounds_toArray, List.set_cons_zero, List.set_cons_succ])
        refine wpAnyH_take (i := 6) (v := ?_) rfl (by kernel_rfl) (by kernel_rfl) (by kernel_rfl) (fun _ _ _ h => h) (Or.inl ⟨by kernel_rfl, ?_⟩) (by assumption) ?_
        rotate_left
        · (intro w hSw; (try dsimp only at hSw); go_simp)
          all_goals with_reducible rfl
        (try simp only [Act.put, List.setIfInBounds_toArray, List.set_cons_zero, List.set_cons_succ])
        refine wpAnyH_take (i := 7) (v := ?_) rfl (by kernel_rfl) (by kernel_rfl) (by kernel_rfl) (fun _ _ _ h => h) (Or.inl ⟨by kernel_rfl, ?_⟩) (by assumption) ?_
        rotate_left
        · (intro w hSw; (try dsimp only at hSw); go_simp)
          all_goals with_reducible rfl
        (try simp only [Act.put, List.setIfInBounds_toArray, List.set_cons_zero, List.set_cons_succ])
        refine wpAnyH_take (i := 8) (v := ?_) rfl (by kernel_rfl) (by kernel_rfl) (by kernel_rfl) (fun _ _ _ h => h) (Or.inl ⟨by kernel_rfl, ?_⟩) (by assumption) ?_
        rotate_left
        · (intro w hSw; (try dsimp only at hSw); go_simp)
          all_goals with_reducible rfl
        (try simp only [Act.put, List.setIfInBounds_toArray, List.set_cons_zero, List.set_cons_succ])
        refine wpAnyH_take (i := 9) (v := ?_) rfl (by kernel_rfl) (by kernel_rfl) (by kernel_rfl) (fun _ _ _ h => h) (Or.inl ⟨by kernel_rfl, ?_⟩) (by assumption) ?_
        rotate_left
        · (intro w hSw; (try dsimp only at hSw); go_simp)
          all_goals with_reducible rfl
        (try simp only [Act.put, List.setIfInBounds_toArray, List.set_cons_zero, List.set_cons_succ])
        refine wpAnyH_take (i := 10) (v := ?_) rfl (by kernel_rfl) (by kernel_rfl) (by kernel_rfl) (fun _ _ _ h => h) (Or.inl ⟨by kernel_rfl, ?_⟩) (by assumption) ?_
        rotate_left
        · (intro w hSw; (try dsimp only at hSw); go_simp)
          all_goals with_reducible rfl
        (try simp only [Act.put, List.setIfInBounds_toArray, List.set_cons_zero, List.set_cons_succ])
        refine wpAnyH_take (i := 11) (v := ?_) rfl (by kernel_rfl) (by kernel_rfl) (by kernel_rfl) (fun _ _ _ h => h) (Or.inl ⟨by kernel_rfl, ?_⟩) (by assumption) ?_
        rotate_left
        · (intro w hSw; (try dsimp only at hSw); go_simp)
          all_goals with_reducible rfl
        (try simp only [Act.put, List.setIfInBounds_toArray, List.set_cons_zero, List.set_cons_succ])
        refine wpAnyH_take (i := 12) (v := ?_) rfl (by kernel_rfl) (by kernel_rfl) (by kernel_rfl) (fun _ _ _ h => h) (Or.inl ⟨by kernel_rfl, ?_⟩) (by assumption) ?_
        rotate_left
        · (intro w hSw; (try dsimp only at hSw); go_simp)
          all_goals with_reducible rfl
        (try simp only [Act.put, List.setIfInBounds_toArray, List.set_cons_zero, List.set_cons_succ])
        refine wpAnyH_ready (rs := [13]) (by kernel_rfl) (by simp) ?_
        refine AllReadyH.cons rfl (fun K hK => ?_) AllReadyH.nil
        go_simp
        (with_reducible refine (K2.out W1.drew).mono ?_)
        rintro e w5 ⟨rfl, b5⟩
        have Y5 : Aside (Below W1.heap.size W1 w5) := ⟨lthen (below_drewN W1 1) b5⟩
        have k1 := lkeep Y5.out
        go_wp2_with fail
        refine hK.out _ _ ⟨k1 _ _ f0, k1 _ _ e0, k1 _ _ e1, k1 _ _ f1, k1 _ _ e2, k1 _ _ e3⟩ (fun hHeld => ?_)
        clear hK K
        (try simp only [Act.put, List.setIfInBounds_toArray, List.set_cons_zero, List.set_cons_succ])
        refine wpAnyH_take (i := 14) (oi := { dst := some 19, op := _, type := _, pos := _, after := _, guard := some (8, true) }) (v := ?_) rfl (by kernel_rfl) (by kernel_rfl) (by kernel_rfl) (fun _ _ _ h => h) (Or.inl ⟨by kernel_rfl, ?_⟩) (by assumption) ?_
        rotate_left
        · (intro w hSw; (try dsimp only at hSw); go_simp)
          all_goals with_reducible rfl
        (try simp only [Act.put, List.setIfInBounds_toArray, List.set_cons_zero, List.set_cons_succ])
        refine wpAnyH_take (i := 15) (oi := { dst := some 20, op := _, type := _, pos := _, after := _, guard := none }) (v := ?_) rfl (by kernel_rfl) (by kernel_rfl) (by kernel_rfl) (fun _ _ _ h => h) (Or.inl ⟨by kernel_rfl, ?_⟩) (by assumption) ?_
        rotate_left
        · (intro w hSw; (try dsimp only at hSw); go_simp)
          all_goals with_reducible rfl
        (try simp only [Act.put, List.setIfInBounds_toArray, List.set_cons_zero, List.set_cons_succ])
        refine wpAnyH_take (i := 16) (oi := { dst := some 21, op := _, type := _, pos := _, after := _, guard := none }) (v := ?_) rfl (by kernel_rfl) (by kernel_rfl) (by kernel_rfl) (fun _ _ _ h => h) (Or.inl ⟨by kernel_rfl, ?_⟩) (by assumption) ?_
        rotate_left
        · (intro w hSw; (try dsimp only at hSw); go_simp)
          all_goals with_reducible rfl
        (try simp only [Act.put, List.setIfInBounds_toArray, List.set_cons_zero, List.set_cons_succ])
        refine wpAnyH_take (i := 17) (oi := { dst := some 22, op := _, type := _, pos := _, after := _, guard := some (16, true) }) rfl (by kernel_rfl) (by kernel_rfl) (by kernel_rfl) (fun _ _ _ h => h) (Or.inr ⟨by kernel_rfl, rfl⟩) (by assumption) ?_
        (try simp only [Act.put, List.setIfInBounds_toArray, List.set_cons_zero, List.set_cons_succ])
        refine wpAnyH_take (i := 18) (oi := { dst := some 23, op := _, type := _, pos := _, after := _, guard := some (16, true) }) rfl (by kernel_rfl) (by kernel_rfl) (by kernel_rfl) (fun _ _ _ h => h) (Or.inr ⟨by kernel_rfl, rfl⟩) (by assumption) ?_
        (try simp only [Act.put, List.setIfInBounds_toArray, List.set_cons_zero, List.set_cons_succ])
        refine wpAnyH_take (i := 19) (oi := { dst := some 24, op := _, type := _, pos := _, after := _, guard := some (16, true) }) rfl (by kernel_rfl) (by kernel_rfl) (by kernel_rfl) (fun _ _ _ h => h) (Or.inr ⟨by kernel_rfl, rfl⟩) (by assumption) ?_
        (try simp only [Act.put, List.setIfInBounds_toArray, List.set_cons_zero, List.set_cons_succ])
        refine wpAnyH_take (i := 20) (oi := { dst := some 25, op := _, type := _, pos := _, after := _, guard := some (16, true) }) rfl (by kernel_rfl) (by kernel_rfl) (by kernel_rfl) (fun _ _ _ h => h) (Or.inr ⟨by kernel_rfl, rfl⟩) (by assumption) ?_
        (try simp only [Act.put, List.setIfInBounds_toArray, List.set_cons_zero, List.set_cons_succ])
        refine wpAnyH_take (i := 21) (oi := { dst := some 26, op := _, type := _, pos := _, after := _, guard := some (16, true) }) rfl (by kernel_rfl) (by kernel_rfl) (by kernel_rfl) (fun _ _ _ h => h) (Or.inr ⟨by kernel_rfl, rfl⟩) (by assumption) ?_
        (try simp only [Act.put, List.setIfInBounds_toArray, List.set_cons_zero, List.set_cons_succ])
        refine wpAnyH_take (i := 22) (oi := { dst := some 27, op := _, type := _, pos := _, after := _, guard := some (16, true) }) rfl (by kernel_rfl) (by kernel_rfl) (by kernel_rfl) (fun _ _ _ h => h) (Or.inr ⟨by kernel_rfl, rfl⟩) (by assumption) ?_
        (try simp only [Act.put, List.setIfInBounds_toArray, List.set_cons_zero, List.set_cons_succ])
        refine wpAnyH_take (i := 23) (oi := { dst := some 28, op := _, type := _, pos := _, after := _, guard := none }) (v := ?_) rfl (by kernel_rfl) (by kernel_rfl) (by kernel_rfl) (fun _ _ _ h => h) (Or.inl ⟨by kernel_rfl, ?_⟩) (by assumption) ?_
        rotate_left
        · (intro w hSw; (try dsimp only at hSw); go_simp)
          all_goals with_reducible rfl
        (try simp only [Act.put, List.setIfInBounds_toArray, List.set_cons_zero, List.set_cons_succ])
        refine wpAnyH_take (i := 24) (oi := { dst := some 4, op := _, type := _, pos := _, after := _, guard := none }) (v := ?_) rfl (by kernel_rfl) (by kernel_rfl) (by kernel_rfl) (fun _ _ _ h => h) (Or.inl ⟨by kernel_rfl, ?_⟩) (by assumption) ?_
        rotate_left
        · (intro w hSw; (try dsimp only at hSw); go_simp)
          all_goals with_reducible rfl
        (try simp only [Act.put, List.setIfInBounds_toArray, List.set_cons_zero, List.set_cons_succ])
        refine wpAnyH_done (by kernel_rfl) ?_ _
        all_goals
          go_wp2_with fail
          go_ret
          exact ⟨ret_bool (by simp; omega), lthen B1.out Y5.out⟩
    · go_enter Tryd.func14, Tryd.ntmps14
      go_upto_region 1 with (fail)
      rw [← HW.out]
      go_quiet (fail)
      go_wp2_with fail
      go_ret
      exact ⟨ret_bool (by simp; omega), lthen B1.out (below_drewN _ _)⟩
  · go_enter Tryd.func14, Tryd.ntmps14
    go_upto_region 1 with (fail)
    rw [← HW.out]
    go_quiet (fail)
    go_wp2_with fail
    go_ret
    exact ⟨ret_bool (by simp; omega), lthen B1.out (below_drewN _ _)⟩
theorem ptogether_any (v x : Win) (hv : Win.Ok v) (hx : Win.Ok x) (w : World) :
    Calls Tryd.prog 16 #[Win.val v, Win.val x] w fun e w' => e = .returned (.bool (togetherS v x)) ∧ Below w.heap.size w w' := by
  obtain ⟨⟨s0, s1⟩, ⟨l0, l1⟩, ⟨p0, p1⟩, ⟨g0, g1⟩⟩ := hv
  obtain ⟨⟨s2, s3⟩, ⟨l2, l3⟩, ⟨p2, p3⟩, ⟨g2, g3⟩⟩ := hx
  unfold Win.val togetherS
  generalize Win.s v = a1 at *
  generalize Win.l v = a2 at *
  generalize Win.p v = a3 at *
  generalize Win.g v = a4 at *
  generalize Win.s x = b1 at *
  generalize Win.l x = b2 at *
  generalize Win.p x = b3 at *
  generalize Win.g x = b4 at *
  by_cases h0 : a4 = 0
  · go_enter Tryd.func16, Tryd.ntmps16
    go_wp2
    go_ret
    exact ⟨ret_bool (by simp [h0]), lthen (lone _ _) (lone _ _)⟩
  · have e0 : (a4 == 0) = false := beq_eq_false_iff_ne.2 h0
    by_cases h1 : a1 = b1
    · by_cases h2 : a2 = b2
      · by_cases h3 : a3 = b3
        · by_cases h4 : a4 = b4
          · subst h1 h2 h3 h4
            go_enter Tryd.func16, Tryd.ntmps16
            go_wp2
            go_ret
            exact ⟨ret_bool (by simp [h0]), lthen (lone _ _) (lone _ _)⟩
          · have e4 : (a4 == b4) = false := beq_eq_false_iff_ne.2 h4
            subst h1 h2 h3
            go_enter Tryd.func16, Tryd.ntmps16
            go_wp2
            go_ret
            exact ⟨ret_bool (by simp [h4]), lthen (lone _ _) (lone _ _)⟩
        · have e3 : (a3 == b3) = false := beq_eq_false_iff_ne.2 h3
          subst h1 h2
          go_enter Tryd.func16, Tryd.ntmps16
          go_wp2
          go_ret
          exact ⟨ret_bool (by simp [h3]), lthen (lone _ _) (lone _ _)⟩
      · have e2 : (a2 == b2) = false := beq_eq_false_iff_ne.2 h2
        subst h1
        go_enter Tryd.func16, Tryd.ntmps16
        go_wp2
        go_ret
        exact ⟨ret_bool (by simp [h2]), lthen (lone _ _) (lone _ _)⟩
    · have e1 : (a1 == b1) = false := beq_eq_false_iff_ne.2 h1
      go_enter Tryd.func16, Tryd.ntmps16
      go_wp2
      go_ret
      exact ⟨ret_bool (by simp [h1]), lthen (lone _ _) (lone _ _)⟩
end Go.Proofs.YtpcjjmjmigibhaaDoor
