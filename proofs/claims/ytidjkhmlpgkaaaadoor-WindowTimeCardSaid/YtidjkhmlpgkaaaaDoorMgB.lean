/- Small lemmas: boxes, rows of bools, a plan opened. Layer 23: a step of a member. -/
import Derived.Test.YtidjkhmlpgkaaaaDoorMgA
import Derived.Deep.OwnRows
import Derived.Test.YtidjkhmlpgkaaaaDoorMgM
import Derived.WalkMore
namespace Go.Proofs.YtidjkhmlpgkaaaaDoor
open Go.RowKit
set_option linter.unusedVariables false
set_option linter.unusedSimpArgs false

theorem own_kept {S : Nat → Prop} {w w' : World} {base n size : Nat} {e : TypeId} {v : Value} {xs : List Value} (h : w.ownsRow base e size v n xs) (k : Kept S w w') (hv : ∀ r, v.ownBlock = some r → ¬ S r) : w'.ownsRow base e size v n xs := by
  refine ⟨h.1, ?_⟩
  rcases h.2 with h0 | ⟨g, cap, cur, rfl, h1, h2, h3⟩
  · exact .inl h0
  · exact .inr ⟨g, cap, cur, rfl, h1, k.heap h2 (hv g rfl), h3⟩
theorem own_below {w w' : World} {base n size : Nat} {e : TypeId} {v : Value} {xs : List Value} (h : w.ownsRow base e size v n xs) (k : Below w.heap.size w w') : w'.ownsRow base e size v n xs := own_kept (S := fun _ => False) h (Kept.of_below k) (fun _ _ => id)
/-- A plan's value, opened. -/
theorem PlanV.open_ {w : World} {v : Value} {P : Plan} (h : PlanV w v P) : ∃ a0 c0 a1 c1 a2 c2 a3 c3, v = .agg #[.int .u16 (Plan.frame P), .slice a0 (Plan.cores P).length c0, .slice a1 (Plan.parts P).length c1, .slice a2 (Plan.chans P).length c2, .slice a3 (Plan.pairs P).length c3] ∧
    PlanAt w (.slice a0 (Plan.cores P).length c0) (.slice a1 (Plan.parts P).length c1) (.slice a2 (Plan.chans P).length c2) (.slice a3 (Plan.pairs P).length c3) P ∧ (Plan.cores P).length ≤ 9223372036854775807 := by
  obtain ⟨a0, n0, c0, a1, n1, c1, a2, n2, c2, a3, n3, c3, rfl, hp⟩ := h
  obtain ⟨_, _, q, hlen⟩ := hp.cores.len
  obtain ⟨rfl, rfl, rfl⟩ : a0 = _ ∧ n0 = _ ∧ c0 = _ := by injection q with q1 q2 q3; exact ⟨q1, q2, q3⟩
  clear q
  obtain ⟨_, _, q, hlen1⟩ := Elems.len hp.parts
  obtain ⟨rfl, rfl, rfl⟩ : a1 = _ ∧ n1 = _ ∧ c1 = _ := by injection q with q1 q2 q3; exact ⟨q1, q2, q3⟩
  clear q
  obtain ⟨_, _, q, hlen2⟩ := Elems.len hp.chans
  obtain ⟨rfl, rfl, rfl⟩ : a2 = _ ∧ n2 = _ ∧ c2 = _ := by injection q with q1 q2 q3; exact ⟨q1, q2, q3⟩
  clear q
  obtain ⟨_, _, q, hlen3⟩ := Elems.len hp.pairs
  obtain ⟨rfl, rfl, rfl⟩ : a3 = _ ∧ n3 = _ ∧ c3 = _ := by injection q with q1 q2 q3; exact ⟨q1, q2, q3⟩
  exact ⟨_, _, _, _, _, _, _, _, rfl, hp, hlen⟩
theorem three_boxes (w : World) (o1 o2 o3 : Obj) : (((w.alloc o1).alloc o2).alloc o3).heap[w.heap.size]? = some o1 ∧ (((w.alloc o1).alloc o2).alloc o3).heap[w.heap.size + 1]? = some o2 ∧ (((w.alloc o1).alloc o2).alloc o3).heap[w.heap.size + 1 + 1]? = some o3 ∧ Below w.heap.size w (((w.alloc o1).alloc o2).alloc o3) := by
  have h1 : (w.alloc o1).heap[w.heap.size]? = some o1 := heap_alloc_new _ _
  have h2 : ((w.alloc o1).alloc o2).heap[w.heap.size + 1]? = some o2 := by have := heap_alloc_new (w.alloc o1) o2; simpa using this
  have h3 : (((w.alloc o1).alloc o2).alloc o3).heap[w.heap.size + 1 + 1]? = some o3 := by have := heap_alloc_new ((w.alloc o1).alloc o2) o3; simpa using this
  exact ⟨((bel_two (w.alloc o1) o2 o3).block _ (lt_of_block h1)).trans h1, ((bel_one _ o3).block _ (lt_of_block h2)).trans h2, h3, bel_alloc (bel_two _ _ _) _⟩
theorem heap_up {w : World} {o : Obj} {k : Nat} {x : Obj} (h : w.heap[k]? = some x) : (w.alloc o).heap[k]? = some x := ((bel_one w o).block _ (lt_of_block h)).trans h
theorem heap_top (w : World) (o : Obj) (n : Nat) (hn : w.heap.size = n) : (w.alloc o).heap[n]? = some o := by subst hn; exact heap_alloc_new _ _
theorem box5 {w : World} {B : Nat} {x0 x1 x2 x3 x4 : Value} {t : TypeId} {fr : Nat × Nat} (h : w.heap[B]? = some (.cells #[x0, x1, x2, x3, x4] t fr)) : w.cell? ⟨B, 0, none⟩ = some x0 ∧ w.cell? ⟨B, 1, none⟩ = some x1 ∧ w.cell? ⟨B, 2, none⟩ = some x2 ∧ w.cell? ⟨B, 3, none⟩ = some x3 ∧ w.cell? ⟨B, 4, none⟩ = some x4 := by
  simp [World.cell?, h]
end Go.Proofs.YtidjkhmlpgkaaaaDoor

namespace Go.Proofs.YtidjkhmlpgkaaaaDoor
open Go.RowKit
set_option linter.unusedVariables false
set_option linter.unusedSimpArgs false

def stepX (x : Mb) (W : Int) : Mb := if x.ph = 2 then (if W = x.wd then { x with ph := 3, came := true } else { x with ph := 1 }) else if x.ph = 1 ∨ x.ph = 3 then lookS x W else x
def stepW (x : Mb) (W : Int) : Int := if x.ph = 2 ∧ W = x.wd then nextS x else W
theorem MSt.kept_ {S : Nat → Prop} {w0 w w' : World} {B G : Nat} {L : List Int} {c : Int} (h : MSt w0 w B G L c) (k : Kept S w w') (hB : ¬ S B) (hG : ¬ S G) (hS : ∀ k, S k → w0.heap.size ≤ k) : MSt w0 w' B G L c :=
  ⟨h.mem.kept k hB hG, h.below.trans (k.below h.below.size hS), h.look.kept k (fun e => by have := hS _ e; have := h.h0; omega), h.hB, h.hG, h.h0⟩
/-- What a member's fields can be. -/
structure Mb.Ok (x : Mb) : Prop where
  n : 1 ≤ x.n ∧ x.n ≤ 8
  ph : 0 ≤ x.ph ∧ x.ph ≤ 3
  rd : 0 ≤ x.rd ∧ x.rd < 268435456
  wd : 0 ≤ x.wd ∧ x.wd < 4294967296
theorem nextS_range (x : Mb) : 0 ≤ nextS x ∧ nextS x < 4294967296 := by unfold nextS; split <;> omega

set_option maxHeartbeats 1600000 in
theorem step_any (w0 w : World) (B G b : Nat) (L : List Int) (i : Nat) (W c : Int) (x : Mb) (s : MSt w0 w B G L c) (hi : i < L.length) (hLW : Aside (L.getD i 0 = W)) (hat : x.at_ = (i : Int)) (hx : MbAt w b x) (ok : x.Ok) (hb : b ≠ B ∧ b ≠ G) (hb0 : w0.heap.size ≤ b) (c0 : 0 ≤ c) (c1 : c < 4611686018427387904) :
    Calls Tryd.prog 66 #[.pointer (some ⟨b, 0, none⟩), .pointer (some ⟨B, 0, none⟩)] w fun e w' => e = .returned (.bool ((stepX x W).ph == 0)) ∧ (∃ c', c ≤ c' ∧ c' ≤ c + 1 ∧ MSt w0 w' B G (L.set i (stepW x W)) c') ∧ MbAt w' b (stepX x W) ∧ Kept (fun k => k = b ∨ k = B ∨ k = G) w w' := by
  have h0 : w.cell? ⟨b, 0, none⟩ = some (.int .i64 (i : Int)) := by rw [← hat]; exact hx.c 0 (by decide)
  have h2 : w.cell? ⟨b, 2, none⟩ = some (.int .i64 x.ph) := hx.c 2 (by decide)
  have h4 : w.cell? ⟨b, 4, none⟩ = some (.int .u32 x.wd) := hx.c 4 (by decide)
  have S := Aside.mk s
  have H := Aside.mk hx
  have hW := s.mem.range W (by rw [← hLW.out, List.getD_eq_getElem?_getD, List.getElem?_eq_getElem hi]; exact List.getElem_mem hi)
  have hset : Aside (L.set i W = L) := ⟨set_same L i hi hLW⟩
  obtain ⟨ph, HP⟩ : ∃ ph, Aside (x.ph = ph) := ⟨_, ⟨rfl⟩⟩
  rw [HP.out] at h2
  have hp := ok.ph
  rw [HP.out] at hp
  clear s hx
  rcases (show ph = 0 ∨ ph = 1 ∨ ph = 2 ∨ ph = 3 by omega) with rfl | rfl | rfl | rfl
  · have hX : stepX x W = x := by rw [stepX, if_neg (by rw [HP.out]; decide), if_neg (by rw [HP.out]; decide)]
    have hS : stepW x W = W := by rw [stepW, if_neg (fun q => by rw [HP.out] at q; exact absurd q.1 (by decide))]
    rw [hX, hS, hset.out]
    go_enter Tryd.func66, Tryd.ntmps66
    go_wp2_with fail
    go_step3
    go_wp2_with fail
    go_step3
    go_wp2_with fail
    simp only [Exit.noGoto]
    go_ret
    exact ⟨ret_bool (by rw [HP.out]; rfl), ⟨c, by omega, by omega, S.out⟩, H.out, Kept.refl _ _⟩
  · have hX : stepX x W = lookS x W := by rw [stepX, if_neg (by rw [HP.out]; decide), if_pos (by rw [HP.out]; decide)]
    have hS : stepW x W = W := by rw [stepW, if_neg (fun q => by rw [HP.out] at q; exact absurd q.1 (by decide))]
    have L1 := Aside.mk (load_yes w B G L c i S.out.mem S.out.look hi W hLW c0 c1 S.out.nB S.out.nG)
    rw [hX, hS, hset.out]
    clear hX hS
    go_enter Tryd.func66, Tryd.ntmps66
    go_wp2_with fail
    go_step3
    go_wp2_with fail
    go_step3
    go_wp2_with fail
    refine L1.out.mono ?_
    rintro e w5 ⟨rfl, m5, k5⟩
    have S5 := Aside.mk (S.out.step m5 k5)
    have H5 := Aside.mk (H.out.kept k5 (by omega))
    have K5 := Aside.mk k5
    have M5 := Aside.mk (look_any w5 b x H5.out W hW.1 hW.2)
    clear m5 k5 h0 h2 h4
    go_wp2_with fail
    refine M5.out.mono ?_
    rintro e w6 ⟨rfl, m6, k6⟩
    have g2 : w6.cell? ⟨b, 2, none⟩ = some (.int .i64 (lookS x W).ph) := m6.c 2 (by decide)
    have Z := Aside.mk (And.intro m6 k6)
    clear m6 k6
    go_wp2_with fail
    simp only [Exit.noGoto]
    go_ret
    exact ⟨rfl, ⟨c + 1, by omega, by omega, S5.out.kept_ Z.out.2 (fun e => hb.1 e.symm) (fun e => hb.2 e.symm) (fun k e => by subst e; exact hb0)⟩, Z.out.1, (K5.out.mono (fun k e => .inr e)).trans (Z.out.2.mono (fun k e => .inl e))⟩
  · have N1 := Aside.mk (fun W' (h : Below w.heap.size w W') => next_any W' b x (H.out.below h) ok.wd.1 ok.wd.2 ok.rd.1 ok.rd.2)
    have K1 := Aside.mk (fun W' (h : Below w.heap.size w W') => swap_yes W' B G L c i (S.out.old h).mem (S.out.old h).look hi W hLW c0 c1 S.out.nB S.out.nG (nextS x) (nextS_range x).1 (nextS_range x).2 x.wd ok.wd.1 ok.wd.2)
    go_enter Tryd.func66, Tryd.ntmps66
    go_wp2_with fail
    go_step3
    go_wp2_with fail
    go_step3
    go_wp2_with fail
    go_region_with (first | (go_at_call 83; refine (N1.out _ (by repeat (first | exact Below.refl _ _ | refine bel_drew ?_ | refine bel_drewN ?_ _))).mono ?_; rintro e w' ⟨rfl, nn, rfl⟩) | (go_at_call 82; refine (K1.out _ (by repeat (first | exact Below.refl _ _ | refine bel_drew ?_ | refine bel_drewN ?_ _))).mono ?_; rintro e w' ⟨rfl, m5, k5⟩))
    all_goals
      have k5' : Kept (fun k => k = B ∨ k = G) w w' := (Kept.of_below (by repeat (first | exact Below.refl _ _ | refine bel_drew ?_ | refine bel_drewN ?_ _))).trans k5
      have H5 := Aside.mk (H.out.kept k5' (by omega))
      have S5 := Aside.mk (S.out.step m5 k5')
      have K5 := Aside.mk k5'
      have g2 : w'.cell? ⟨b, 2, none⟩ = some (.int .i64 2) := by rw [← HP.out]; exact H5.out.c 2 (by decide)
      have g5 : w'.cell? ⟨b, 5, none⟩ = some (.bool x.came) := H5.out.c 5 (by decide)
      have f2 := H5.out.f 2
      have f5 := H5.out.f 5
      have hlt := lt_of_block H5.out
      clear m5 k5 k5' h0 h2 h4
      by_cases e : W = x.wd
      · have e1 : (W == x.wd) = true := beq_iff_eq.2 e
        have S6 : Aside (MSt w0 w' B G (L.set i (nextS x)) (c + 1)) := ⟨by have := S5.out; rw [if_pos e] at this; exact this⟩
        have E := Aside.mk e
        clear e S5
        go_wp2_with fail
        simp only [Exit.noGoto]
        go_ret
        rw [stepX, if_pos HP.out, if_pos E.out, stepW, if_pos ⟨HP.out, E.out⟩]
        refine ⟨ret_bool (by simp), ⟨c + 1, by omega, by omega, S6.out.kept_ (S := fun k => k = b) (((((Kept.refl (fun k => k = b) _).setCell (p := ⟨b, 2, none⟩) (.inl rfl) _).setCell (p := ⟨b, 5, none⟩) (.inl rfl) _).setCell (p := ⟨b, 2, none⟩) (.inl rfl) _)) (fun e => hb.1 e.symm) (fun e => hb.2 e.symm) (fun k e => by subst e; exact hb0)⟩, ?_, ?_⟩
        · have k0 := heap_setCell_at (off := 2) (show w'.heap[b]? = some (.cells x.cells 138 (0, 0)) from H5.out) (.int .i64 1)
          have k1 := heap_setCell_at (off := 5) k0 (.bool true)
          have k2 := heap_setCell_at (off := 2) k1 (.int .i64 3)
          unfold MbAt
          rw [k2]
          simp [Mb.cells]
        · exact (((((K5.out.mono (fun k e => .inr e)).setCell (p := ⟨b, 2, none⟩) (.inl (.inl rfl)) _).setCell (p := ⟨b, 5, none⟩) (.inl (.inl rfl)) _).setCell (p := ⟨b, 2, none⟩) (.inl (.inl rfl)) _))
      · have e1 : (W == x.wd) = false := beq_eq_false_iff_ne.2 e
        have S6 : Aside (MSt w0 w' B G L (c + 1)) := ⟨by have := S5.out; rw [if_neg e] at this; exact this⟩
        have E := Aside.mk e
        clear e S5
        go_wp2_with fail
        simp only [Exit.noGoto]
        go_ret
        rw [stepX, if_pos HP.out, if_neg E.out, stepW, if_neg (fun q => E.out q.2), hset.out]
        refine ⟨ret_bool (by simp), ⟨c + 1, by omega, by omega, S6.out.kept_ (S := fun k => k = b) ((Kept.refl (fun k => k = b) _).setCell (p := ⟨b, 2, none⟩) (.inl rfl) _) (fun e => hb.1 e.symm) (fun e => hb.2 e.symm) (fun k e => by subst e; exact hb0)⟩, ?_, ?_⟩
        · have k0 := heap_setCell_at (off := 2) (show w'.heap[b]? = some (.cells x.cells 138 (0, 0)) from H5.out) (.int .i64 1)
          unfold MbAt
          rw [k0]
          simp [Mb.cells]
        · exact (K5.out.mono (fun k e => .inr e)).setCell (p := ⟨b, 2, none⟩) (.inl (.inl rfl)) _
  · have hX : stepX x W = lookS x W := by rw [stepX, if_neg (by rw [HP.out]; decide), if_pos (by rw [HP.out]; decide)]
    have hS : stepW x W = W := by rw [stepW, if_neg (fun q => by rw [HP.out] at q; exact absurd q.1 (by decide))]
    have L1 := Aside.mk (load_yes w B G L c i S.out.mem S.out.look hi W hLW c0 c1 S.out.nB S.out.nG)
    rw [hX, hS, hset.out]
    clear hX hS
    go_enter Tryd.func66, Tryd.ntmps66
    go_wp2_with fail
    go_step3
    go_wp2_with fail
    go_step3
    go_wp2_with fail
    refine L1.out.mono ?_
    rintro e w5 ⟨rfl, m5, k5⟩
    have S5 := Aside.mk (S.out.step m5 k5)
    have H5 := Aside.mk (H.out.kept k5 (by omega))
    have K5 := Aside.mk k5
    have M5 := Aside.mk (look_any w5 b x H5.out W hW.1 hW.2)
    clear m5 k5 h0 h2 h4
    go_wp2_with fail
    refine M5.out.mono ?_
    rintro e w6 ⟨rfl, m6, k6⟩
    have g2 : w6.cell? ⟨b, 2, none⟩ = some (.int .i64 (lookS x W).ph) := m6.c 2 (by decide)
    have Z := Aside.mk (And.intro m6 k6)
    clear m6 k6
    go_wp2_with fail
    simp only [Exit.noGoto]
    go_ret
    exact ⟨rfl, ⟨c + 1, by omega, by omega, S5.out.kept_ Z.out.2 (fun e => hb.1 e.symm) (fun e => hb.2 e.symm) (fun k e => by subst e; exact hb0)⟩, Z.out.1, (K5.out.mono (fun k e => .inr e)).trans (Z.out.2.mono (fun k e => .inl e))⟩
end Go.Proofs.YtidjkhmlpgkaaaaDoor
