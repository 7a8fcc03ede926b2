/- The rules' reference: has, overlap, together. -/
import Derived.Test.YtpcjjmjmigibhaaDoorPlanA
namespace Go.Proofs.YtpcjjmjmigibhaaDoor
open Go.RowKit
set_option linter.unusedVariables false
set_option linter.unusedSimpArgs false

theorem bel_alloc {a w : World} (h : Below a.heap.size a w) (x : Obj) : Below a.heap.size a (w.alloc x) := h.alloc h.size x
theorem bel_drew {a w : World} (h : Below a.heap.size a w) : Below a.heap.size a w.drew := h.drew
theorem bel_drewN {a w : World} (h : Below a.heap.size a w) (n : Nat) : Below a.heap.size a (w.drewN n) := below_then h (below_drewN _ _)

theorem bel_one (w : World) (x : Obj) : Below w.heap.size w (w.alloc x) := (Below.refl _ _).alloc (Nat.le_refl _) _
theorem bel_two (w : World) (x y : Obj) : Below w.heap.size w ((w.alloc x).alloc y) := ((Below.refl _ _).alloc (Nat.le_refl _) _).alloc (by simp) _
theorem bel_then {a w w' : World} (h : Below a.heap.size a w) (k : Below w.heap.size w w') : Below a.heap.size a w' := below_then h k

theorem bcell {W w1 : World} (hb : Below W.heap.size W w1) : (∀ b o, b < W.heap.size → w1.cell? ⟨b, o, none⟩ = W.cell? ⟨b, o, none⟩) ∧ (∀ b o, b < W.heap.size → w1.frozen? ⟨b, o, none⟩ = W.frozen? ⟨b, o, none⟩) :=
  ⟨fun b o h => hb.cell (p := ⟨b, o, none⟩) h, fun b o h => hb.frozen (p := ⟨b, o, none⟩) h⟩

theorem has_any (x : Win) (hx : Win.Ok x) (t : Int) (w : World) :
    Calls Tryd.prog 30 #[Win.val x, .int .i64 t] w fun e w' => e = .returned (.bool (hasS x t)) ∧ Below w.heap.size w w' := by
  obtain ⟨⟨s0, s1⟩, ⟨l0, l1⟩, ⟨p0, p1⟩, ⟨g0, g1⟩⟩ := hx
  unfold Win.val hasS
  generalize Win.s x = s at *
  generalize Win.l x = l at *
  by_cases h1 : s ≤ t
  · by_cases h2 : t < s + l
    all_goals
      go_enter Tryd.func30, Tryd.ntmps30
      go_wp2
      go_ret
      exact ⟨ret_bool (by simp; omega), bel_one _ _⟩
  · go_enter Tryd.func30, Tryd.ntmps30
    go_wp2
    go_ret
    exact ⟨ret_bool (by simp; omega), bel_one _ _⟩

theorem overlap_any (v x : Win) (hv : Win.Ok v) (hx : Win.Ok x) (w : World) :
    Calls Tryd.prog 15 #[Win.val v, Win.val x] w fun e w' => e = .returned (.bool (overlapS v x)) ∧ Below w.heap.size w w' := by
  have K1 := Aside.mk (fun t w => has_any v hv t w)
  have K2 := Aside.mk (fun t w => has_any x hx t w)
  obtain ⟨⟨s0, s1⟩, ⟨l0, l1⟩, ⟨p0, p1⟩, ⟨g0, g1⟩⟩ := hv
  obtain ⟨⟨s2, s3⟩, ⟨l2, l3⟩, ⟨p2, p3⟩, ⟨g2, g3⟩⟩ := hx
  obtain ⟨t, ht⟩ : ∃ t, laterS v x = t := ⟨_, rfl⟩
  have E : overlapS v x = (hasS v t && hasS x t) := by rw [← ht]; rfl
  rw [E]
  clear E
  have H1 : ∀ t w, Calls Tryd.prog 30 #[Win.val v, .int .i64 t] w fun e w' => e = .returned (.bool (hasS v t)) ∧ Below w.heap.size w w' := K1.out
  have H2 : ∀ t w, Calls Tryd.prog 30 #[Win.val x, .int .i64 t] w fun e w' => e = .returned (.bool (hasS x t)) ∧ Below w.heap.size w w' := K2.out
  clear K1 K2
  unfold Win.val at H1 H2 ⊢
  have K1 := Aside.mk H1
  have K2 := Aside.mk H2
  clear H1 H2
  unfold laterS at ht
  rcases hb : hasS v t with _ | _
  all_goals
    have K3 := K1.out t
    rw [hb] at K3
    have K3 := Aside.mk K3
    clear K1 hb
    by_cases h1 : Win.s v < Win.s x
    · rw [if_pos h1] at ht
      subst ht
      go_enter Tryd.func15, Tryd.ntmps15
      go_wp2_with fail
      refine (K3.out _).mono ?_
      rintro e w1 ⟨rfl, b1⟩
      have b2 := bel_then (bel_two w _ _) b1
      obtain ⟨c1, f1⟩ := bcell b1
      have B2 := Aside.mk b2
      clear b1 b2
      go_wp2_with (refine (K2.out _ _).mono ?_; rintro e w2 ⟨rfl, b3⟩; have B3 := Aside.mk (bel_then B2.out b3); clear b3)
      go_ret
      first | exact ⟨rfl, B2.out⟩ | exact ⟨rfl, B3.out⟩
    · rw [if_neg h1] at ht
      subst ht
      go_enter Tryd.func15, Tryd.ntmps15
      go_wp2_with fail
      refine (K3.out _).mono ?_
      rintro e w1 ⟨rfl, b1⟩
      have b2 := bel_then (bel_two w _ _) b1
      obtain ⟨c1, f1⟩ := bcell b1
      have B2 := Aside.mk b2
      clear b1 b2
      go_wp2_with (refine (K2.out _ _).mono ?_; rintro e w2 ⟨rfl, b3⟩; have B3 := Aside.mk (bel_then B2.out b3); clear b3)
      go_ret
      first | exact ⟨rfl, B2.out⟩ | exact ⟨rfl, B3.out⟩

theorem together_any (v x : Win) (hv : Win.Ok v) (hx : Win.Ok x) (w : World) :
    Calls Tryd.prog 17 #[Win.val v, Win.val x] w fun e w' => e = .returned (.bool (togetherS v x)) ∧ Below w.heap.size w w' := by
  obtain ⟨⟨s0, s1⟩, ⟨l0, l1⟩, ⟨p0, p1⟩, ⟨g0, g1⟩⟩ := hv
  obtain ⟨⟨s2, s3⟩, ⟨l2, l3⟩, ⟨p2, p3⟩, ⟨g2, g3⟩⟩ := hx
  unfold Win.val togetherS
  generalize Win.s v = a1 at *
  generalize Win.l v = a2 at *
  generalize Win.p v = a3 at *
  generalize Win.g v = a4 at *
  generalize Win.s x = b1 at *
  generalize Win.l x = b2 at *
  generalize Win.p x = b3 at *
  generalize Win.g x = b4 at *
  by_cases h1 : a4 = 0
  · go_enter Tryd.func17, Tryd.ntmps17
    go_wp2
    go_ret
    exact ⟨ret_bool (by simp [h1]), bel_two _ _ _⟩
  by_cases h2 : a4 = b4
  · subst h2
    by_cases h3 : a1 = b1
    · subst h3
      by_cases h4 : a2 = b2
      · subst h4
        by_cases h5 : a3 = b3
        · subst h5
          go_enter Tryd.func17, Tryd.ntmps17
          go_wp2
          go_ret
          exact ⟨ret_bool (by simp [h1]), bel_two _ _ _⟩
        · go_enter Tryd.func17, Tryd.ntmps17
          go_wp2
          go_ret
          exact ⟨ret_bool (by simp [h1, h5]), bel_two _ _ _⟩
      · go_enter Tryd.func17, Tryd.ntmps17
        go_wp2
        go_ret
        exact ⟨ret_bool (by simp [h1, h4]), bel_two _ _ _⟩
    · go_enter Tryd.func17, Tryd.ntmps17
      go_wp2
      go_ret
      exact ⟨ret_bool (by simp [h1, h3]), bel_two _ _ _⟩
  · go_enter Tryd.func17, Tryd.ntmps17
    go_wp2
    go_ret
    exact ⟨ret_bool (by simp [h1, h2]), bel_two _ _ _⟩

end Go.Proofs.YtpcjjmjmigibhaaDoor
