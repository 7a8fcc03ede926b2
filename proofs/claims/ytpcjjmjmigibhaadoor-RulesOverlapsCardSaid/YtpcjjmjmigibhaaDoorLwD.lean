/- Layer 4's laws: RulesWindows. -/
import Derived.Test.YtpcjjmjmigibhaaDoorLwB
import Derived.Test.YtpcjjmjmigibhaaDoorRulA
namespace Go.Proofs.YtpcjjmjmigibhaaDoor
open Go.RowKit
set_option linter.unusedVariables false
set_option linter.unusedSimpArgs false

theorem overlap_symm (v x : Win) : overlapS x v = overlapS v x := by
  rw [Bool.eq_iff_iff, overlap_iff, overlap_iff]
  constructor
  · rintro ⟨a, b, c, d⟩; exact ⟨b, a, d, c⟩
  · rintro ⟨a, b, c, d⟩; exact ⟨b, a, d, c⟩
theorem win_arr {W : World} {cs : Array Value} {x : Win} (h : rd39.R W cs.toList x) : cs = #[.int .u16 (Win.s x), .int .u16 (Win.l x), .int .u8 (Win.p x), .int .u8 (Win.g x)] ∧ Win.Ok x := by
  obtain ⟨e, ok⟩ := win_cells h
  obtain ⟨l⟩ := cs
  simp only at e
  subst e
  exact ⟨rfl, ok⟩
set_option maxHeartbeats 6400000 in
set_option maxRecDepth 100000 in
theorem rwindows_any (w : World) (v x : Win) (okv : Win.Ok v) (ok : Win.Ok x) (hg : ETy w) : Calls Tryd.prog 4 #[Win.val v, Win.val x] w fun e w' => e = .returned (.bool true) ∧ Below w.heap.size w w' := by
  obtain ⟨W1, HW⟩ : ∃ W1, Aside (W1 = (w.alloc (.cells #[.int .u16 (Win.s v), .int .u16 (Win.l v), .int .u8 (Win.p v), .int .u8 (Win.g v)] 39)).alloc (.cells #[.int .u16 (Win.s x), .int .u16 (Win.l x), .int .u8 (Win.p x), .int .u8 (Win.g x)] 39)) := ⟨_, ⟨rfl⟩⟩
  have B1 : Aside (Below w.heap.size w W1) := ⟨by rw [HW.out]; exact lthen (lone _ _) (lone _ _)⟩
  obtain ⟨f0, f1, f2, f3⟩ := lbox4 (w := W1) (B := w.heap.size) (t := 39) (fr := (0, 0)) (x0 := .int .u16 (Win.s v)) (x1 := .int .u16 (Win.l v)) (x2 := .int .u8 (Win.p v)) (x3 := .int .u8 (Win.g v)) (by rw [HW.out]; exact lheap_up (heap_alloc_new _ _))
  obtain ⟨e0, e1, e2, e3⟩ := lbox4 (w := W1) (B := w.heap.size + 1) (t := 39) (fr := (0, 0)) (x0 := .int .u16 (Win.s x)) (x1 := .int .u16 (Win.l x)) (x2 := .int .u8 (Win.p x)) (x3 := .int .u8 (Win.g x)) (by rw [HW.out]; exact lheap_top _ _ _ (by simp))
  have KO := Aside.mk (fun W => poverlap_any v x okv ok W)
  have KR := Aside.mk (fun W => overlap_any v x okv ok W)
  have KX := Aside.mk (fun W => poverlap_any x v ok okv W)
  have KT := Aside.mk (fun W => ptogether_any v x okv ok W)
  have KU := Aside.mk (fun W => together_any v x okv ok W)
  have KD1 := Aside.mk (awake_any W1.drew (hg.below (lthen B1.out (below_drewN W1 1))))
  rw [overlap_symm] at KX
  generalize overlapS v x = ob at *
  generalize togetherS v x = tb at *
  unfold Win.val at KO KR KX KT KU ⊢
  clear hg okv ok
  go_enter Tryd.func4, Tryd.ntmps4
  go_upto_region 1 with (fail)
  rw [← HW.out]
  cases ob <;> cases tb
  all_goals
    go_region_held3 (fun w' => w'.cell? ⟨w.heap.size, 0, none⟩ = some (.int .u16 (Win.s v)) ∧ w'.cell? ⟨w.heap.size, 1, none⟩ = some (.int .u16 (Win.l v)) ∧ w'.cell? ⟨w.heap.size, 2, none⟩ = some (.int .u8 (Win.p v)) ∧ w'.cell? ⟨w.heap.size, 3, none⟩ = some (.int .u8 (Win.g v)) ∧ w'.cell? ⟨w.heap.size + 1, 0, none⟩ = some (.int .u16 (Win.s x)) ∧ w'.cell? ⟨w.heap.size + 1, 1, none⟩ = some (.int .u16 (Win.l x)) ∧ w'.cell? ⟨w.heap.size + 1, 2, none⟩ = some (.int .u8 (Win.p x)) ∧ w'.cell? ⟨w.heap.size + 1, 3, none⟩ = some (.int .u8 (Win.g x))) (first | go_keep | (exact ⟨k1 _ _ f0, k1 _ _ f1, k1 _ _ f2, k1 _ _ f3, k1 _ _ e0, k1 _ _ e1, k1 _ _ e2, k1 _ _ e3⟩))
      (first
        | ((with_reducible refine KD1.out.mono ?_); rintro e w1 ⟨rfl, b1⟩; have Y1 : Aside (Below W1.heap.size W1 w1) := ⟨lthen (below_drewN W1 1) b1⟩; have KD2 := Aside.mk (KO.out w1); have k1 := lkeep Y1.out; clear b1)
        | ((with_reducible refine KD2.out.mono ?_); rintro e w2 ⟨rfl, b2⟩; have Y2 : Aside (Below W1.heap.size W1 w2) := ⟨lthen (Y1.out) b2⟩; have KD3 := Aside.mk (KR.out w2); have k1 := lkeep Y2.out; clear b2)
        | ((with_reducible refine KD3.out.mono ?_); rintro e w3 ⟨rfl, b3⟩; have Y3 : Aside (Below W1.heap.size W1 w3) := ⟨lthen (Y2.out) b3⟩; have KD4 := Aside.mk (KX.out w3); have k1 := lkeep Y3.out; clear b3)
        | ((with_reducible refine KD4.out.mono ?_); rintro e w4 ⟨rfl, b4⟩; have Y4 : Aside (Below W1.heap.size W1 w4) := ⟨lthen (Y3.out) b4⟩; have KD5 := Aside.mk (KO.out w4); have k1 := lkeep Y4.out; clear b4)
        | ((with_reducible refine KD5.out.mono ?_); rintro e w5 ⟨rfl, b5⟩; have Y5 : Aside (Below W1.heap.size W1 w5) := ⟨lthen (Y4.out) b5⟩; have KD6 := Aside.mk (KT.out w5); have k1 := lkeep Y5.out; clear b5)
        | ((with_reducible refine KD6.out.mono ?_); rintro e w6 ⟨rfl, b6⟩; have Y6 : Aside (Below W1.heap.size W1 w6) := ⟨lthen (Y5.out) b6⟩; have KD7 := Aside.mk (KU.out w6); have k1 := lkeep Y6.out; clear b6)
        | ((with_reducible refine KD7.out.mono ?_); rintro e w7 ⟨rfl, b7⟩; have Y7 : Aside (Below W1.heap.size W1 w7) := ⟨lthen (Y6.out) b7⟩; have k1 := lkeep Y7.out; clear b7))
    all_goals
      go_wp2_with fail
      go_ret
      exact ⟨rfl, lthen B1.out Y7.out⟩
end Go.Proofs.YtpcjjmjmigibhaaDoor
