/- Layer 23: a step of a member. -/
import Derived.Test.YtnidplpjkhepmaaDoorGangA
import Derived.WalkMore
namespace Go.Proofs.YtnidplpjkhepmaaDoor
open Go.RowKit
set_option linter.unusedVariables false
set_option linter.unusedSimpArgs false

def stepX (x : Mb) (W : Int) : Mb := if x.ph = 2 then (if W = x.wd then { x with ph := 3, came := true } else { x with ph := 1 }) else if x.ph = 1 ∨ x.ph = 3 then lookS x W else x
def stepW (x : Mb) (W : Int) : Int := if x.ph = 2 ∧ W = x.wd then nextS x else W
theorem MSt.kept_ {S : Nat → Prop} {w0 w w' : World} {B G : Nat} {L : List Int} {c : Int} (h : MSt w0 w B G L c) (k : Kept S w w') (hB : ¬ S B) (hG : ¬ S G) (hS : ∀ k, S k → w0.heap.size ≤ k) : MSt w0 w' B G L c :=
  ⟨h.mem.kept k hB hG, h.below.trans (k.below h.below.size hS), h.look.kept k (fun e => by have := hS _ e; have := h.h0; omega), h.hB, h.hG, h.h0⟩
/-- What a member's fields can be. -/
structure Mb.Ok (x : Mb) : Prop where
  a : x.at_ = 0
  n : 1 ≤ x.n ∧ x.n ≤ 8
  ph : 0 ≤ x.ph ∧ x.ph ≤ 3
  rd : 0 ≤ x.rd ∧ x.rd < 268435456
  wd : 0 ≤ x.wd ∧ x.wd < 4294967296
theorem bel_drew {a w : World} (h : Below a.heap.size a w) : Below a.heap.size a w.drew := h.drew
theorem bel_drewN {a w : World} (h : Below a.heap.size a w) (n : Nat) : Below a.heap.size a (w.drewN n) := below_then h (below_drewN _ _)
theorem bel_alloc {a w : World} (h : Below a.heap.size a w) (x : Obj) : Below a.heap.size a (w.alloc x) := h.alloc h.size x
theorem nextS_range (x : Mb) : 0 ≤ nextS x ∧ nextS x < 4294967296 := by unfold nextS; split <;> omega

set_option maxHeartbeats 1600000 in
theorem step_any (w0 w : World) (B G b : Nat) (W c : Int) (x : Mb) (s : MSt w0 w B G [W] c) (hx : MbAt w b x) (ok : x.Ok) (hb : b ≠ B ∧ b ≠ G) (hb0 : w0.heap.size ≤ b) (c0 : 0 ≤ c) (c1 : c < 4611686018427387904) :
    Calls Tryd.prog 9 #[.pointer (some ⟨b, 0, none⟩), .pointer (some ⟨B, 0, none⟩)] w fun e w' => e = .returned (.bool ((stepX x W).ph == 0)) ∧ (∃ c', c ≤ c' ∧ c' ≤ c + 1 ∧ MSt w0 w' B G [stepW x W] c') ∧ MbAt w' b (stepX x W) ∧ Kept (fun k => k = b ∨ k = B ∨ k = G) w w' := by
  have h0 : w.cell? ⟨b, 0, none⟩ = some (.int .i64 0) := by rw [← ok.a]; exact hx.c 0 (by decide)
  have h2 : w.cell? ⟨b, 2, none⟩ = some (.int .i64 x.ph) := hx.c 2 (by decide)
  have h4 : w.cell? ⟨b, 4, none⟩ = some (.int .u32 x.wd) := hx.c 4 (by decide)
  have S := Aside.mk s
  have H := Aside.mk hx
  have hW := s.mem.range W (by simp)
  obtain ⟨ph, HP⟩ : ∃ ph, Aside (x.ph = ph) := ⟨_, ⟨rfl⟩⟩
  rw [HP.out] at h2
  have hp := ok.ph
  rw [HP.out] at hp
  clear s hx
  rcases (show ph = 0 ∨ ph = 1 ∨ ph = 2 ∨ ph = 3 by omega) with rfl | rfl | rfl | rfl
  · have hX : stepX x W = x := by rw [stepX, if_neg (by rw [HP.out]; decide), if_neg (by rw [HP.out]; decide)]
    have hS : stepW x W = W := by rw [stepW, if_neg (fun q => by rw [HP.out] at q; exact absurd q.1 (by decide))]
    rw [hX, hS]
    go_enter Tryd.func9, Tryd.ntmps9
    go_wp2_with fail
    go_step3
    go_wp2_with fail
    go_step3
    go_wp2_with fail
    simp only [Exit.noGoto]
    go_ret
    exact ⟨ret_bool (by rw [HP.out]; rfl), ⟨c, by omega, by omega, S.out⟩, H.out, Kept.refl _ _⟩
  · have hX : stepX x W = lookS x W := by rw [stepX, if_neg (by rw [HP.out]; decide), if_pos (by rw [HP.out]; decide)]
    have hS : stepW x W = W := by rw [stepW, if_neg (fun q => by rw [HP.out] at q; exact absurd q.1 (by decide))]
    have L1 := Aside.mk (load_yes w B G [W] c 0 S.out.mem S.out.look (by simp) W ⟨rfl⟩ c0 c1 S.out.nB S.out.nG)
    rw [hX, hS]
    clear hX hS
    go_enter Tryd.func9, Tryd.ntmps9
    go_wp2_with fail
    go_step3
    go_wp2_with fail
    go_step3
    go_wp2_with fail
    refine L1.out.mono ?_
    rintro e w5 ⟨rfl, m5, k5⟩
    have S5 := Aside.mk (S.out.step m5 k5)
    have H5 := Aside.mk (H.out.kept k5 (by omega))
    have K5 := Aside.mk k5
    have M5 := Aside.mk (look_any w5 b x H5.out W hW.1 hW.2)
    clear m5 k5 h0 h2 h4
    go_wp2_with fail
    refine M5.out.mono ?_
    rintro e w6 ⟨rfl, m6, k6⟩
    have g2 : w6.cell? ⟨b, 2, none⟩ = some (.int .i64 (lookS x W).ph) := m6.c 2 (by decide)
    have Z := Aside.mk (And.intro m6 k6)
    clear m6 k6
    go_wp2_with fail
    simp only [Exit.noGoto]
    go_ret
    exact ⟨rfl, ⟨c + 1, by omega, by omega, S5.out.kept_ Z.out.2 (fun e => hb.1 e.symm) (fun e => hb.2 e.symm) (fun k e => by subst e; exact hb0)⟩, Z.out.1, (K5.out.mono (fun k e => .inr e)).trans (Z.out.2.mono (fun k e => .inl e))⟩
  · have N1 := Aside.mk (fun W' (h : Below w.heap.size w W') => next_any W' b x (H.out.below h) ok.wd.1 ok.wd.2 ok.rd.1 ok.rd.2)
    have K1 := Aside.mk (fun W' (h : Below w.heap.size w W') => swap_yes W' B G [W] c 0 (S.out.old h).mem (S.out.old h).look (by simp) W ⟨rfl⟩ c0 c1 S.out.nB S.out.nG (nextS x) (nextS_range x).1 (nextS_range x).2 x.wd ok.wd.1 ok.wd.2)
    go_enter Tryd.func9, Tryd.ntmps9
    go_wp2_with fail
    go_step3
    go_wp2_with fail
    go_step3
    go_wp2_with fail
    go_region_with (first | (go_at_call 17; refine (N1.out _ (by repeat (first | exact Below.refl _ _ | refine bel_drew ?_ | refine bel_drewN ?_ _))).mono ?_; rintro e w' ⟨rfl, nn, rfl⟩) | (go_at_call 16; refine (K1.out _ (by repeat (first | exact Below.refl _ _ | refine bel_drew ?_ | refine bel_drewN ?_ _))).mono ?_; rintro e w' ⟨rfl, m5, k5⟩))
    all_goals
      have k5' : Kept (fun k => k = B ∨ k = G) w w' := (Kept.of_below (by repeat (first | exact Below.refl _ _ | refine bel_drew ?_ | refine bel_drewN ?_ _))).trans k5
      have H5 := Aside.mk (H.out.kept k5' (by omega))
      have S5 := Aside.mk (S.out.step m5 k5')
      have K5 := Aside.mk k5'
      have g2 : w'.cell? ⟨b, 2, none⟩ = some (.int .i64 2) := by rw [← HP.out]; exact H5.out.c 2 (by decide)
      have g5 : w'.cell? ⟨b, 5, none⟩ = some (.bool x.came) := H5.out.c 5 (by decide)
      have f2 := H5.out.f 2
      have f5 := H5.out.f 5
      have hlt := lt_of_block H5.out
      clear m5 k5 k5' h0 h2 h4
      by_cases e : W = x.wd
      · have e1 : (W == x.wd) = true := beq_iff_eq.2 e
        have S6 : Aside (MSt w0 w' B G [nextS x] (c + 1)) := ⟨by have := S5.out; rw [if_pos e] at this; exact this⟩
        have E := Aside.mk e
        clear e S5
        go_wp2_with fail
        simp only [Exit.noGoto]
        go_ret
        rw [stepX, if_pos HP.out, if_pos E.out, stepW, if_pos ⟨HP.out, E.out⟩]
        refine ⟨ret_bool (by simp), ⟨c + 1, by omega, by omega, S6.out.kept_ (S := fun k => k = b) (((((Kept.refl (fun k => k = b) _).setCell (p := ⟨b, 2, none⟩) (.inl rfl) _).setCell (p := ⟨b, 5, none⟩) (.inl rfl) _).setCell (p := ⟨b, 2, none⟩) (.inl rfl) _)) (fun e => hb.1 e.symm) (fun e => hb.2 e.symm) (fun k e => by subst e; exact hb0)⟩, ?_, ?_⟩
        · have k0 := heap_setCell_at (off := 2) (show w'.heap[b]? = some (.cells x.cells 46 (0, 0)) from H5.out) (.int .i64 1)
          have k1 := heap_setCell_at (off := 5) k0 (.bool true)
          have k2 := heap_setCell_at (off := 2) k1 (.int .i64 3)
          unfold MbAt
          rw [k2]
          simp [Mb.cells]
        · exact (((((K5.out.mono (fun k e => .inr e)).setCell (p := ⟨b, 2, none⟩) (.inl (.inl rfl)) _).setCell (p := ⟨b, 5, none⟩) (.inl (.inl rfl)) _).setCell (p := ⟨b, 2, none⟩) (.inl (.inl rfl)) _))
      · have e1 : (W == x.wd) = false := beq_eq_false_iff_ne.2 e
        have S6 : Aside (MSt w0 w' B G [W] (c + 1)) := ⟨by have := S5.out; rw [if_neg e] at this; exact this⟩
        have E := Aside.mk e
        clear e S5
        go_wp2_with fail
        simp only [Exit.noGoto]
        go_ret
        rw [stepX, if_pos HP.out, if_neg E.out, stepW, if_neg (fun q => E.out q.2)]
        refine ⟨ret_bool (by simp), ⟨c + 1, by omega, by omega, S6.out.kept_ (S := fun k => k = b) ((Kept.refl (fun k => k = b) _).setCell (p := ⟨b, 2, none⟩) (.inl rfl) _) (fun e => hb.1 e.symm) (fun e => hb.2 e.symm) (fun k e => by subst e; exact hb0)⟩, ?_, ?_⟩
        · have k0 := heap_setCell_at (off := 2) (show w'.heap[b]? = some (.cells x.cells 46 (0, 0)) from H5.out) (.int .i64 1)
          unfold MbAt
          rw [k0]
          simp [Mb.cells]
        · exact (K5.out.mono (fun k e => .inr e)).setCell (p := ⟨b, 2, none⟩) (.inl (.inl rfl)) _
  · have hX : stepX x W = lookS x W := by rw [stepX, if_neg (by rw [HP.out]; decide), if_pos (by rw [HP.out]; decide)]
    have hS : stepW x W = W := by rw [stepW, if_neg (fun q => by rw [HP.out] at q; exact absurd q.1 (by decide))]
    have L1 := Aside.mk (load_yes w B G [W] c 0 S.out.mem S.out.look (by simp) W ⟨rfl⟩ c0 c1 S.out.nB S.out.nG)
    rw [hX, hS]
    clear hX hS
    go_enter Tryd.func9, Tryd.ntmps9
    go_wp2_with fail
    go_step3
    go_wp2_with fail
    go_step3
    go_wp2_with fail
    refine L1.out.mono ?_
    rintro e w5 ⟨rfl, m5, k5⟩
    have S5 := Aside.mk (S.out.step m5 k5)
    have H5 := Aside.mk (H.out.kept k5 (by omega))
    have K5 := Aside.mk k5
    have M5 := Aside.mk (look_any w5 b x H5.out W hW.1 hW.2)
    clear m5 k5 h0 h2 h4
    go_wp2_with fail
    refine M5.out.mono ?_
    rintro e w6 ⟨rfl, m6, k6⟩
    have g2 : w6.cell? ⟨b, 2, none⟩ = some (.int .i64 (lookS x W).ph) := m6.c 2 (by decide)
    have Z := Aside.mk (And.intro m6 k6)
    clear m6 k6
    go_wp2_with fail
    simp only [Exit.noGoto]
    go_ret
    exact ⟨rfl, ⟨c + 1, by omega, by omega, S5.out.kept_ Z.out.2 (fun e => hb.1 e.symm) (fun e => hb.2 e.symm) (fun k e => by subst e; exact hb0)⟩, Z.out.1, (K5.out.mono (fun k e => .inr e)).trans (Z.out.2.mono (fun k e => .inl e))⟩
end Go.Proofs.YtnidplpjkhepmaaDoor
