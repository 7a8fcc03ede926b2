/- The sequencer: a core enters a window. The sequencer: a step of a core that is entering; a core's step. The sequencer: a core is picked. The sequencer's making: going over a set's cores. -/
import Derived.Test.YtidjkhmlpgkaaaaDoorMgSa
import Derived.Deep.RegionHeld3
import Derived.WalkMore
import Derived.StillTailTactics
namespace Go.Proofs.YtidjkhmlpgkaaaaDoor
open Go.RowKit
set_option linter.unusedVariables false
set_option linter.unusedSimpArgs false


theorem gangW_of {C : List (List Win)} {c i : Nat} {X : Win} (h : (coreW C c)[i]? = some X) : gangW C c i = Win.g X := by rw [gangW, wAt_some h]
theorem memG_of {C : List (List Win)} {c i : Nat} {X : Win} (hc : c < C.length) (h : (coreW C c)[i]? = some X) (h1 : 1 ≤ Win.g X) (h2 : Win.g X ≤ 255) : memG C c (Win.g X) := by
  refine ⟨hc, h1, h2, ?_⟩
  rw [hasG, List.any_eq_true]
  exact ⟨X, List.mem_of_getElem? h, by simp⟩
theorem ok_setMb {C : List (List Win)} {s : Sq} (h : s.Ok C) (c : Nat) (g : Int) (x : Mb) (hx : x.Ok ∧ x.at_ = (posG C g : Int)) : (s.setMb c g x).Ok C := by
  refine ⟨h.now, h.st, h.at_, fun d k hd => ?_, h.ws⟩
  by_cases e : d = c ∧ k = g
  · obtain ⟨rfl, rfl⟩ := e
    simp [Sq.setMb]
    exact hx
  · simp [Sq.setMb, e]
    exact h.mb d k hd
theorem ok_setCo {C : List (List Win)} {s : Sq} (h : s.Ok C) (c : Nat) (x : Co) (hx : 0 ≤ x.st ∧ x.st ≤ 3) (ha : 0 ≤ x.at_ ∧ x.at_ < (coreW C c).length) : (s.setCo c x).Ok C := by
  refine ⟨h.now, fun d hd => ?_, fun d hd => ?_, h.mb, h.ws⟩
  · by_cases e : d = c
    · subst e; simp [Sq.setCo]; exact hx
    · simp [Sq.setCo, e]; exact h.st d hd
  · by_cases e : d = c
    · subst e; simp [Sq.setCo]; exact fun _ => ha
    · simp [Sq.setCo, e]; exact h.at_ d hd
theorem begin_ok {x : Mb} (h : x.Ok) (r : Int) (r0 : 0 ≤ r) : (beginS x r).Ok ∧ (beginS x r).at_ = x.at_ := by
  unfold beginS
  split
  · rename_i hb; exact ⟨⟨h.n, ⟨by show (0 : Int) ≤ 1; decide, by show (1 : Int) ≤ 3; decide⟩, ⟨r0, by have := hb.1; show r < _; omega⟩, ⟨by show (0 : Int) ≤ 0; decide, by show (0 : Int) < _; decide⟩⟩, rfl⟩
  · exact ⟨h, rfl⟩
theorem blk_setCo {w : World} {l : Loc} {P : Plan} {s : Sq} (h : BlkAt w l.S 85 47 (l.u P s)) (c : Nat) (hc : c < 8) (x : Co) :
    BlkAt ((((w.setCell ⟨l.S, 6 + c * 5, none⟩ (.int .i64 x.st)).setCell ⟨l.S, 6 + c * 5 + 1, none⟩ (.int .i64 x.at_)).setCell ⟨l.S, 6 + c * 5 + 2, none⟩ (.int .i64 x.bg)).setCell ⟨l.S, 6 + c * 5 + 3, none⟩ (.int .i64 x.la)) l.S 85 47 (l.u P (s.setCo c x)) := by
  refine ((((h.put0.put (6 + c * 5) (.int .i64 x.st)).put (6 + c * 5 + 1) (.int .i64 x.at_)).put (6 + c * 5 + 2) (.int .i64 x.bg)).put (6 + c * 5 + 3) (.int .i64 x.la)).congr (fun k hk => ?_)
  refine u_put l P s (s.setCo c x) (fun k => if k = 6 + c * 5 + 3 then some (.int .i64 x.la) else if k = 6 + c * 5 + 2 then some (.int .i64 x.bg) else if k = 6 + c * 5 + 1 then some (.int .i64 x.at_) else if k = 6 + c * 5 then some (.int .i64 x.st) else none) ?_ ?_ ?_ k hk
  · show Option.getD (if _ then _ else _) _ = _
    rw [if_neg (by omega), if_neg (by omega), if_neg (by omega), if_neg (by omega)]; rfl
  · intro j hj
    show (if _ then _ else _) = _
    rw [if_neg (by omega), if_neg (by omega), if_neg (by omega), if_neg (by omega)]
  · intro d j hd hj
    show Option.getD (if _ then _ else _) _ = _
    by_cases e : d = c
    · subst e
      rcases (show j = 0 ∨ j = 1 ∨ j = 2 ∨ j = 3 ∨ j = 4 by omega) with rfl | rfl | rfl | rfl | rfl <;> simp [Sq.setCo, Co.v]
    · rw [if_neg (by omega), if_neg (by omega), if_neg (by omega), if_neg (by omega)]
      simp [Sq.setCo, e]
section
variable {w0 w : World} {l : Loc} {P : Plan} {s : Sq} {n : Nat} (h : SqSt w0 w l P s n)
include h
theorem SqSt.setCo (c : Nat) (hc8 : c < 8) (x : Co) (hx : 0 ≤ x.st ∧ x.st ≤ 3) (ha : 0 ≤ x.at_ ∧ x.at_ < (coreW (Plan.cores P) c).length) {w' : World}
    (hw : w' = (((w.setCell ⟨l.S, 6 + c * 5, none⟩ (.int .i64 x.st)).setCell ⟨l.S, 6 + c * 5 + 1, none⟩ (.int .i64 x.at_)).setCell ⟨l.S, 6 + c * 5 + 2, none⟩ (.int .i64 x.bg)).setCell ⟨l.S, 6 + c * 5 + 3, none⟩ (.int .i64 x.la)) :
    SqSt w0 w' l P (s.setCo c x) n ∧ Kept (l.own w0) w w' := by
  subst hw
  have k := ((((Kept.refl (fun k => k = l.S) w).setCell (p := ⟨l.S, 6 + c * 5, none⟩) (.inl rfl) (.int .i64 x.st)).setCell (p := ⟨l.S, 6 + c * 5 + 1, none⟩) (.inl rfl) (.int .i64 x.at_)).setCell (p := ⟨l.S, 6 + c * 5 + 2, none⟩) (.inl rfl) (.int .i64 x.bg)).setCell (p := ⟨l.S, 6 + c * 5 + 3, none⟩) (.inl rfl) (.int .i64 x.la)
  exact ⟨h.turn k (blk_setCo h.seq c hc8 x) rfl rfl (ok_setCo h.ok c x hx ha), h.toOwn k⟩
/-- A member that has turned. -/
theorem SqSt.putMb {w' : World} (c : Nat) (g : Int) (hg : memG (Plan.cores P) c g) (x : Mb) (hm : MbAt w' (l.K c g) x) (k : Kept (fun k => k = l.K c g) w w') (hx : x.Ok ∧ x.at_ = (posG (Plan.cores P) g : Int)) :
    SqSt w0 w' l P (s.setMb c g x) n ∧ Kept (l.own w0) w w' := by
  obtain ⟨q1, q2, q3, q4, q5, q6, q7⟩ := h.loc.K c g hg
  refine ⟨?_, k.mono (fun j e => by subst e; exact ⟨q1, q2⟩)⟩
  obtain ⟨cc, c0, c1, m⟩ := h.mem
  refine ⟨⟨cc, c0, c1, m.kept_ k (fun e => q4 e.symm) (fun e => q5 e.symm) (fun j e => by subst e; exact q1)⟩, h.seq.kept k (fun e => q3 e.symm), h.plan, fun d hd => (h.maps d hd).kept k (fun e => q6 d hd e.symm), fun d i hd => ?_, h.loc, ok_setMb h.ok c g x hx, h.frame, h.cores⟩
  by_cases e : d = c ∧ i = g
  · obtain ⟨rfl, rfl⟩ := e
    simp only [Sq.setMb, and_self, if_true]
    exact hm
  · have : (s.setMb c g x).mb d i = s.mb d i := by simp [Sq.setMb, e]
    rw [this]
    exact (h.mbs d i hd).kept k (fun e2 => e (by have := q7 d i hd e2.symm; exact ⟨this.1.symm, this.2.symm⟩))
end

set_option maxHeartbeats 3200000 in
theorem enter_any {w0 w : World} {l : Loc} {P : Plan} {s : Sq} {n : Nat} (h : SqSt w0 w l P s n) (c : Nat) (hc : c < (Plan.cores P).length) : Calls Tryd.prog 46 #[.pointer (some ⟨l.S, 0, none⟩), .int .i64 (c : Int)] w fun e w' => e = .returned (.tuple #[]) ∧ SqSt w0 w' l P (enterS (Plan.cores P) (Plan.frame P) s c) n ∧ Kept (l.own w0) w w' := by
  have H := Aside.mk h
  have hc8 : c < 8 := by have := h.cores; omega
  have h1 := h.cCores
  have hS := h.seq.lt
  obtain ⟨v, hv0, hw0⟩ := h.winsAt0 c hc
  have hv := cell_up h.below0 hv0
  have hw := hw0.below h.below0
  have HW := Aside.mk hw
  have HW0 := Aside.mk (And.intro hv0 hw0)
  clear hv0 hw0
  obtain ⟨ws, wcap, rfl, wlen⟩ := hw.len
  have hvl := World.block_lt_of_cell? _ _ hv
  clear h hw
  have PRE : Aside (∀ W, Below w.heap.size w W → W.cell? ⟨l.S, 1, none⟩ = some (.slice (some l.a0) (Plan.cores P).length l.c0) ∧ W.cell? (l.a0.add c) = some (.slice ws (coreW (Plan.cores P) c).length wcap)) := ⟨fun W b => ⟨cell_up b h1, cell_up b hv⟩⟩
  have KT : Aside (∀ W, Below w.heap.size w W → Calls Tryd.prog 45 #[.pointer (some ⟨l.S, 0, none⟩)] W fun e w' => e = .returned (.int .i64 (tkS (Plan.frame P) s)) ∧ ∃ m, w' = W.drewN m) := ⟨fun W b => tick_any (H.out.below b)⟩
  have KA : Aside (∀ W, Below w.heap.size w W → Calls Tryd.prog 44 #[.slice ws (coreW (Plan.cores P) c).length wcap, .int .i64 (tkS (Plan.frame P) s)] W fun e w' => e = .returned (atV (atS (coreW (Plan.cores P) c) (tkS (Plan.frame P) s))) ∧ Below W.heap.size W w') := ⟨fun W b => at_any W _ _ _ (HW.out.below b)⟩
  have KF : Aside (∀ W, Below w.heap.size w W → Calls Tryd.prog 19 #[.pointer (some ⟨l.S, 0, none⟩)] W fun e w' => e = .returned (.int .i64 (frS (Plan.frame P) s)) ∧ ∃ m, w' = W.drewN m) := ⟨fun W b => frame_any (H.out.below b)⟩
  obtain ⟨tk, htk⟩ : ∃ tk, Aside (tkS (Plan.frame P) s = tk) := ⟨_, ⟨rfl⟩⟩
  obtain ⟨fr, hfr⟩ : ∃ fr, Aside (frS (Plan.frame P) s = fr) := ⟨_, ⟨rfl⟩⟩
  rw [htk.out] at KT KA
  rw [hfr.out] at KF
  obtain ⟨A, hA⟩ : ∃ A, Aside (atS (coreW (Plan.cores P) c) tk = A) := ⟨_, ⟨rfl⟩⟩
  rw [hA.out] at KA
  rcases A with _ | i
  · have HR : Aside (enterS (Plan.cores P) (Plan.frame P) s c = s) := ⟨by rw [enterS, htk.out, hA.out]⟩
    rw [HR.out]
    simp only [atV] at KA
    go_enter Tryd.func46, Tryd.ntmps46
    go_wp2_with fail
    go_region_held3 (fun W => W.cell? ⟨l.S, 1, none⟩ = some (.slice (some l.a0) (Plan.cores P).length l.c0) ∧ W.cell? (l.a0.add c) = some (.slice ws (coreW (Plan.cores P) c).length wcap)) (first | go_keep | (exact PRE.out _ (by repeat (first | exact Below.refl _ _ | assumption | refine bel_drew ?_ | refine bel_drewN ?_ _)))) (first
      | (go_at_call 45; with_reducible refine (KT.out _ (by repeat (first | exact Below.refl _ _ | refine bel_drew ?_ | refine bel_drewN ?_ _))).mono ?_; rintro e w2 ⟨rfl, m, rfl⟩)
      | (go_at_call 44; with_reducible refine (KA.out _ (by repeat (first | exact Below.refl _ _ | refine bel_drew ?_ | refine bel_drewN ?_ _))).mono ?_; rintro e w3 ⟨rfl, b3⟩; have B3 : Below w.heap.size w w3 := (bel_then (by repeat (first | exact Below.refl _ _ | refine bel_drew ?_ | refine bel_drewN ?_ _)) b3)))
    go_wp2_with fail
    have B3 : Below w.heap.size w w3 := (bel_then (by repeat (first | exact Below.refl _ _ | refine bel_drew ?_ | refine bel_drewN ?_ _)) b3)
    go_quiet (fail)
    go_wp2_with fail
    exact bodyPost_ret (v := .tuple #[]) (by simp [results, Tryd.results46, go_sem]) rfl ⟨rfl, H.out.below (bel_drewN B3 _), Kept.of_below (bel_drewN B3 _)⟩
  · have hil : i < (coreW (Plan.cores P) c).length := (atS_some hA.out).1
    simp only [atV] at KA
    have HG := Aside.mk (H.out.cCos c hc8)
    obtain ⟨x, hx⟩ : ∃ x, Aside (s.co c = x) := ⟨_, ⟨rfl⟩⟩
    rw [hx.out] at HG
    obtain ⟨st, at_, bg, la⟩ := x
    by_cases hold : bg = fr ∧ la = (i : Int)
    · have HR : Aside (enterS (Plan.cores P) (Plan.frame P) s c = s) := ⟨by rw [enterS, htk.out, hA.out]; simp only; rw [hfr.out, hx.out, if_pos hold]⟩
      rw [HR.out]
      obtain ⟨rfl, rfl⟩ := hold
      go_enter Tryd.func46, Tryd.ntmps46
      go_wp2_with fail
      go_region_held3 (fun W => W.cell? ⟨l.S, 1, none⟩ = some (.slice (some l.a0) (Plan.cores P).length l.c0) ∧ W.cell? (l.a0.add c) = some (.slice ws (coreW (Plan.cores P) c).length wcap)) (first | go_keep | (exact PRE.out _ (by repeat (first | exact Below.refl _ _ | assumption | refine bel_drew ?_ | refine bel_drewN ?_ _)))) (first
        | (go_at_call 45; with_reducible refine (KT.out _ (by repeat (first | exact Below.refl _ _ | refine bel_drew ?_ | refine bel_drewN ?_ _))).mono ?_; rintro e w2 ⟨rfl, m, rfl⟩)
        | (go_at_call 44; with_reducible refine (KA.out _ (by repeat (first | exact Below.refl _ _ | refine bel_drew ?_ | refine bel_drewN ?_ _))).mono ?_; rintro e w3 ⟨rfl, b3⟩; have B3 : Below w.heap.size w w3 := (bel_then (by repeat (first | exact Below.refl _ _ | refine bel_drew ?_ | refine bel_drewN ?_ _)) b3)))
      go_wp2_with fail
      have B3 : Below w.heap.size w w3 := (bel_then (by repeat (first | exact Below.refl _ _ | refine bel_drew ?_ | refine bel_drewN ?_ _)) b3)
      have S3 := Aside.mk (H.out.below B3)
      obtain ⟨y0, y1, y2, y3, _⟩ := S3.out.cCos c hc8
      rw [hx.out] at y0 y1 y2 y3
      simp only at y0 y1 y2 y3
      have KF3 : Aside (∀ W, Below w3.heap.size w3 W → Calls Tryd.prog 19 #[.pointer (some ⟨l.S, 0, none⟩)] W fun e w' => e = .returned (.int .i64 bg) ∧ ∃ m, w' = W.drewN m) := ⟨fun W b => KF.out W (bel_then B3 b)⟩
      go_quiet ((go_at_call 19; exact Calls.quiet_of (KF3.out _ (below_drewN _ _))))
      go_wp2_with fail
      exact bodyPost_ret (v := .tuple #[]) (by simp [results, Tryd.results46, go_sem]) rfl ⟨rfl, H.out.below (bel_drewN B3 _), Kept.of_below (bel_drewN B3 _)⟩
    · have hl := List.getElem?_eq_getElem hil
      obtain ⟨X, hX⟩ : ∃ X, (coreW (Plan.cores P) c)[i] = X := ⟨_, rfl⟩
      rw [hX] at hl
      have HL := Aside.mk hl
      have okX : Win.Ok X := by
        obtain ⟨_, _, _, _, _, _, ok⟩ := HW.out.at_ i X hl
        exact ok
      have HGW := Aside.mk (gangW_of hl)
      have HR : Aside (enterS (Plan.cores P) (Plan.frame P) s c = if Win.g X = 0 then s.setCo c ⟨2, i, fr, i⟩ else (s.setCo c ⟨2, i, fr, i⟩).setMb c (Win.g X) (beginS (s.mb c (Win.g X)) ((fr - 1) % 268435455 + 1))) := ⟨by
        rw [enterS, htk.out, hA.out]; simp only; rw [hfr.out, hx.out, if_neg hold, HGW.out]⟩
      have hq : ((bg == fr) = false) ∨ ((bg == fr) = true ∧ (la == (i : Int)) = false) := by
        by_cases e : bg = fr
        · exact .inr ⟨beq_iff_eq.2 e, beq_eq_false_iff_ne.2 (fun e2 => hold ⟨e, e2⟩)⟩
        · exact .inl (beq_eq_false_iff_ne.2 e)
      have KS : Aside (∀ W, Below w.heap.size w W → SqSt w0 ((((W.setCell ⟨l.S, 6 + c * 5, none⟩ (.int .i64 2)).setCell ⟨l.S, 6 + c * 5 + 1, none⟩ (.int .i64 (i : Int))).setCell ⟨l.S, 6 + c * 5 + 2, none⟩ (.int .i64 fr)).setCell ⟨l.S, 6 + c * 5 + 3, none⟩ (.int .i64 (i : Int))) l P (s.setCo c ⟨2, i, fr, i⟩) n ∧ Kept (l.own w0) w ((((W.setCell ⟨l.S, 6 + c * 5, none⟩ (.int .i64 2)).setCell ⟨l.S, 6 + c * 5 + 1, none⟩ (.int .i64 (i : Int))).setCell ⟨l.S, 6 + c * 5 + 2, none⟩ (.int .i64 fr)).setCell ⟨l.S, 6 + c * 5 + 3, none⟩ (.int .i64 (i : Int)))) := ⟨fun W b => by
        have q := (H.out.below b).setCo c hc8 ⟨2, i, fr, i⟩ ⟨by show (0 : Int) ≤ 2; decide, by show (2 : Int) ≤ 3; decide⟩ ⟨by show (0 : Int) ≤ (i : Int); omega, by show (i : Int) < _; omega⟩ rfl
        exact ⟨q.1, (Kept.of_below b).trans q.2⟩⟩
      clear hl hX hold
      rcases hq with hq | ⟨hq, hq2⟩
      all_goals
        go_enter Tryd.func46, Tryd.ntmps46
        go_wp2_with fail
        go_region_held3 (fun W => W.cell? ⟨l.S, 1, none⟩ = some (.slice (some l.a0) (Plan.cores P).length l.c0) ∧ W.cell? (l.a0.add c) = some (.slice ws (coreW (Plan.cores P) c).length wcap)) (first | go_keep | (exact PRE.out _ (by repeat (first | exact Below.refl _ _ | assumption | refine bel_drew ?_ | refine bel_drewN ?_ _)))) (first
          | (go_at_call 45; with_reducible refine (KT.out _ (by repeat (first | exact Below.refl _ _ | refine bel_drew ?_ | refine bel_drewN ?_ _))).mono ?_; rintro e w2 ⟨rfl, m, rfl⟩)
          | (go_at_call 44; with_reducible refine (KA.out _ (by repeat (first | exact Below.refl _ _ | refine bel_drew ?_ | refine bel_drewN ?_ _))).mono ?_; rintro e w3 ⟨rfl, b3⟩; have B3 : Below w.heap.size w w3 := (bel_then (by repeat (first | exact Below.refl _ _ | refine bel_drew ?_ | refine bel_drewN ?_ _)) b3)))
        go_wp2_with fail
        have B3 : Below w.heap.size w w3 := (bel_then (by repeat (first | exact Below.refl _ _ | refine bel_drew ?_ | refine bel_drewN ?_ _)) b3)
        have S3 := Aside.mk (H.out.below B3)
        obtain ⟨y0, y1, y2, y3, _⟩ := S3.out.cCos c hc8
        rw [hx.out] at y0 y1 y2 y3
        simp only at y0 y1 y2 y3
        have KF3 : Aside (∀ W, Below w3.heap.size w3 W → Calls Tryd.prog 19 #[.pointer (some ⟨l.S, 0, none⟩)] W fun e w' => e = .returned (.int .i64 fr) ∧ ∃ m, w' = W.drewN m) := ⟨fun W b => KF.out W (bel_then B3 b)⟩
        go_quiet ((go_at_call 19; exact Calls.quiet_of (KF3.out _ (below_drewN _ _))))
        go_wp2_with fail
        refine (KF3.out _ (below_drewN _ _)).mono ?_
        rintro e w4 ⟨rfl, m4, rfl⟩
        have B4 : Aside (Below w.heap.size w ((w3.drewN nq).drewN m4)) := ⟨bel_drewN (bel_drewN B3 _) _⟩
        obtain ⟨W4, HW4⟩ : ∃ W4, Aside (W4 = (w3.drewN nq).drewN m4) := ⟨_, ⟨rfl⟩⟩
        rw [← HW4.out] at B4 ⊢
        have T6 := Aside.mk (KS.out W4 B4.out)
        have S4 := Aside.mk (H.out.below B4.out)
        clear y0 y1 y2 y3
        obtain ⟨z0, z1, z2, z3, _⟩ := S4.out.cCos c hc8
        have f0 := S4.out.seq.f (6 + c * 5)
        have f1 := S4.out.seq.f (6 + c * 5 + 1)
        have f2 := S4.out.seq.f (6 + c * 5 + 2)
        have f3 := S4.out.seq.f (6 + c * 5 + 3)
        have hS4 := S4.out.seq.lt
        go_upto_region 4 with fail
        clear z0 z1 z2 z3 f0 f1 f2 f3
        obtain ⟨W6, HW6⟩ : ∃ W6, Aside (W6 = (((W4.setCell ⟨l.S, 6 + c * 5, none⟩ (.int .i64 2)).setCell ⟨l.S, 6 + c * 5 + 1, none⟩ (.int .i64 (i : Int))).setCell ⟨l.S, 6 + c * 5 + 2, none⟩ (.int .i64 fr)).setCell ⟨l.S, 6 + c * 5 + 3, none⟩ (.int .i64 (i : Int))) := ⟨_, ⟨rfl⟩⟩
        rw [← HW6.out] at T6 ⊢
        obtain ⟨_, _, _, _, z4⟩ := T6.out.1.cCos c hc8
        have z1 := T6.out.1.cCores
        have zv := cell_up T6.out.1.below0 HW0.out.1
        obtain ⟨ad2, rfl, e0, e1, e2, e3, _⟩ := (HW0.out.2.below T6.out.1.below0).at_ i X HL.out
        by_cases hg0 : Win.g X = 0
        · have LK : ∀ m, (Instr.lookup 80 (.map (some (l.M c))) (.int .u8 (Win.g X)) true).run Tryd.prog (W6.drewN m) = .ok (.tuple #[.pointer none, .bool false]) (W6.drewN m) := fun m => ((T6.out.1.maps c hc8).below (below_drewN _ _)).lookNo _ okX.g.1 okX.g.2 (by rw [mapF, if_neg (fun q => by have := q.2.1; omega)])
          have HR2 := Aside.mk (HR.out.trans (if_pos hg0))
          clear hg0 hS hS4
          go_quiet (fail)
          go_wp2_with fail
          exact bodyPost_end (v := .tuple #[]) (by simp [results, Tryd.results46, go_sem]) rfl ⟨rfl, by rw [HR2.out]; exact T6.out.1.below (below_drewN _ _), T6.out.2.trans (Kept.of_below (below_drewN _ _))⟩
        · have hg1 : 1 ≤ Win.g X := by have := okX.g.1; omega
          have MG := Aside.mk (memG_of hc HL.out hg1 okX.g.2)
          have LK : ∀ m, (Instr.lookup 80 (.map (some (l.M c))) (.int .u8 (Win.g X)) true).run Tryd.prog (W6.drewN m) = .ok (.tuple #[.pointer (some ⟨l.K c (Win.g X), 0, none⟩), .bool true]) (W6.drewN m) := fun m => ((T6.out.1.maps c hc8).below (below_drewN _ _)).look _ okX.g.1 okX.g.2 _ (by rw [mapF, if_pos MG.out])
          have HR2 := Aside.mk (HR.out.trans (if_neg hg0))
          have fb : 1 ≤ fr ∧ fr ≤ 1099511627777 := by
            have n0 := H.out.ok.now
            have F1 := H.out.frame
            have q0 := Int.ediv_nonneg n0.1 (show 0 ≤ Plan.frame P by omega)
            have q1 := Int.ediv_le_self (Plan.frame P) n0.1
            have := hfr.out
            unfold frS at this
            omega
          obtain ⟨fb0, fb1⟩ := fb
          have k1 : 0 ≤ fr - 1 := by omega
          have k2 : (fr - 1).tmod 268435455 = (fr - 1) % 268435455 := Int.tmod_eq_emod_of_nonneg k1
          obtain ⟨rr, hrr⟩ : ∃ rr, Aside ((fr - 1) % 268435455 = rr) := ⟨_, ⟨rfl⟩⟩
          have hr0 : 0 ≤ rr ∧ rr < 268435455 := by rw [← hrr.out]; omega
          obtain ⟨r0, r1⟩ := hr0
          rw [hrr.out] at k2 HR2
          clear hg0 hS hS4
          go_quiet (fail)
          go_wp2_with fail
          have KF6 : Aside (∀ W, Below W6.heap.size W6 W → Calls Tryd.prog 19 #[.pointer (some ⟨l.S, 0, none⟩)] W fun e w' => e = .returned (.int .i64 fr) ∧ ∃ m, w' = W.drewN m) := ⟨fun W b => by
            have := frame_any (T6.out.1.below b)
            rw [show frS (Plan.frame P) (s.setCo c ⟨2, i, fr, i⟩) = fr from hfr.out] at this
            exact this⟩
          refine (KF6.out _ (below_drewN _ _)).mono ?_
          rintro e w7 ⟨rfl, m7, rfl⟩
          have B7 := Aside.mk (below_drewN W6 (nq + m7))
          have S7 := Aside.mk (T6.out.1.below B7.out)
          have hmb := H.out.ok.mb c _ MG.out
          have KB := Aside.mk (begin_any _ _ _ (S7.out.mbs c _ MG.out) (rr + 1) (by omega) (by omega))
          have BO := Aside.mk (begin_ok hmb.1 (rr + 1) (by omega))
          have HMB := Aside.mk hmb
          clear hmb
          go_wp2_with fail
          refine KB.out.mono ?_
          rintro e w8 ⟨rfl, m8, k8⟩
          have Z := Aside.mk (S7.out.putMb c _ MG.out _ m8 k8 ⟨BO.out.1, BO.out.2.trans HMB.out.2⟩)
          clear m8 k8
          go_wp2_with fail
          exact bodyPost_end (v := .tuple #[]) (by simp [results, Tryd.results46, go_sem]) rfl ⟨rfl, by rw [HR2.out]; exact Z.out.1, T6.out.2.trans ((Kept.of_below B7.out).trans Z.out.2)⟩
end Go.Proofs.YtidjkhmlpgkaaaaDoor

namespace Go.Proofs.YtidjkhmlpgkaaaaDoor
open Go.RowKit
set_option linter.unusedVariables false
set_option linter.unusedSimpArgs false


theorem step_ok {x : Mb} (h : x.Ok) (W : Int) (h0 : 0 ≤ W ∧ W < 4294967296) : (stepX x W).Ok ∧ (stepX x W).at_ = x.at_ := by
  obtain ⟨hn, hp, hr, hw⟩ := h
  unfold stepX lookS
  split
  · split
    · exact ⟨⟨hn, ⟨by show (0 : Int) ≤ 3; decide, by show (3 : Int) ≤ 3; decide⟩, hr, hw⟩, rfl⟩
    · exact ⟨⟨hn, ⟨by show (0 : Int) ≤ 1; decide, by show (1 : Int) ≤ 3; decide⟩, hr, hw⟩, rfl⟩
  · split
    · split
      · exact ⟨⟨hn, ⟨by show (0 : Int) ≤ 0; decide, by show (0 : Int) ≤ 3; decide⟩, hr, hw⟩, rfl⟩
      · split
        · exact ⟨⟨hn, ⟨by show (0 : Int) ≤ 2; decide, by show (2 : Int) ≤ 3; decide⟩, hr, h0⟩, rfl⟩
        · split
          · exact ⟨⟨hn, ⟨by show (0 : Int) ≤ 0; decide, by show (0 : Int) ≤ 3; decide⟩, hr, hw⟩, rfl⟩
          · exact ⟨⟨hn, hp, hr, hw⟩, rfl⟩
    · exact ⟨⟨hn, hp, hr, hw⟩, rfl⟩
theorem gangsTo_mono (C : List (List Win)) (a b : Nat) (h : a ≤ b) : (gangsTo C a).length ≤ (gangsTo C b).length := by
  induction b with
  | zero => rw [show a = 0 by omega]; exact Nat.le_refl _
  | succ b ih =>
    rcases Nat.lt_succ_iff_lt_or_eq.1 (Nat.lt_succ_of_le h) with q | rfl
    · rw [gangsTo_succ, List.length_append]; have := ih (by omega); omega
    · exact Nat.le_refl _
theorem posG_lt (C : List (List Win)) (g : Int) (h : g ≤ 255) : posG C g < (gangsTo C 255).length + 1 := by
  have := gangsTo_mono C (g.toNat - 1) 255 (by omega)
  unfold posG; omega
theorem ok_stepMb {C : List (List Win)} {s : Sq} (h : s.Ok C) (c : Nat) (g : Int) (hx : (stepX (s.mb c g) (s.ws.getD (posG C g) 0)).Ok ∧ (stepX (s.mb c g) (s.ws.getD (posG C g) 0)).at_ = (posG C g : Int)) : (stepMb C s c g).Ok C := by
  have q := ok_setMb h c g _ hx
  exact ⟨q.now, q.st, q.at_, q.mb, by show (List.set _ _ _).length = _; rw [List.length_set]; exact h.ws⟩
section
variable {w0 w : World} {l : Loc} {P : Plan} {s : Sq} {n : Nat} (h : SqSt w0 w l P s n)
include h
/-- A member's step, in memory. -/
theorem SqSt.stepped {w' : World} (c : Nat) (g : Int) (hg : memG (Plan.cores P) c g) {cc : Int} (c0 : 0 ≤ cc) (c1 : cc ≤ (n : Int) + 1)
    (m : MSt w0 w' l.B l.G (s.ws.set (posG (Plan.cores P) g) (stepW (s.mb c g) (s.ws.getD (posG (Plan.cores P) g) 0))) cc)
    (hm : MbAt w' (l.K c g) (stepX (s.mb c g) (s.ws.getD (posG (Plan.cores P) g) 0))) (k : Kept (fun k => k = l.K c g ∨ k = l.B ∨ k = l.G) w w') (h0 : 0 ≤ s.ws.getD (posG (Plan.cores P) g) 0 ∧ s.ws.getD (posG (Plan.cores P) g) 0 < 4294967296) :
    SqSt w0 w' l P (stepMb (Plan.cores P) s c g) (n + 1) ∧ Kept (l.own w0) w w' := by
  obtain ⟨q1, q2, q3, q4, q5, q6, q7⟩ := h.loc.K c g hg
  have hmb := h.ok.mb c g hg
  have hso := step_ok hmb.1 _ h0
  refine ⟨⟨⟨cc, c0, by omega, m⟩, h.seq.kept k (fun e => ?_), h.plan, fun d hd => (h.maps d hd).kept k (fun e => ?_), fun d i hd => ?_, h.loc, ok_stepMb h.ok c g ⟨hso.1, hso.2.trans hmb.2⟩, h.frame, h.cores⟩, k.mono (fun j e => ?_)⟩
  · rcases e with e | e | e
    · exact q3 e.symm
    · exact h.loc.SB e
    · exact h.loc.SG e
  · obtain ⟨_, _, _, m4, m5⟩ := h.loc.M d hd
    rcases e with e | e | e
    · exact q6 d hd e.symm
    · exact m4 e
    · exact m5 e
  · by_cases e : d = c ∧ i = g
    · obtain ⟨rfl, rfl⟩ := e
      simp only [stepMb, Sq.setMb, and_self, if_true]
      exact hm
    · have : (stepMb (Plan.cores P) s c g).mb d i = s.mb d i := by simp [stepMb, Sq.setMb, e]
      rw [this]
      obtain ⟨_, _, _, p4, p5, _, _⟩ := h.loc.K d i hd
      refine (h.mbs d i hd).kept k (fun e2 => ?_)
      rcases e2 with e2 | e2 | e2
      · exact e (by have := q7 d i hd e2.symm; exact ⟨this.1.symm, this.2.symm⟩)
      · exact p4 e2
      · exact p5 e2
  · rcases e with rfl | rfl | rfl
    · exact ⟨q1, q2⟩
    · exact h.loc.B
    · exact h.loc.G
end

set_option maxHeartbeats 3200000 in
theorem entering_any {w0 w : World} {l : Loc} {P : Plan} {s : Sq} {n : Nat} (h : SqSt w0 w l P s n) (c : Nat) (hc : c < (Plan.cores P).length) (hst : (s.co c).st = 2) (g : Int) (g0 : 0 ≤ g) (g1 : g ≤ 255) (hg : g = 0 ∨ memG (Plan.cores P) c g) (hn : n < 1000000000) :
    Calls Tryd.prog 47 #[.pointer (some ⟨l.S, 0, none⟩), .pointer (some ⟨l.S, 6 + c * 5, none⟩), .int .u8 g] w fun e w' => e = .returned (.tuple #[]) ∧ SqSt w0 w' l P (enteringS (Plan.cores P) s c g) (n + 1) ∧ Kept (l.own w0) w w' := by
  have H := Aside.mk h
  have hc8 : c < 8 := by have := h.cores; omega
  obtain ⟨z0, z1, z2, z3, z4⟩ := h.cCos c hc8
  rw [hst] at z0
  have f0 := h.seq.f (6 + c * 5)
  have zm := h.cMem
  have HST := Aside.mk hst
  clear h hst
  by_cases hg0 : g = 0
  · subst hg0
    have LK : (Instr.lookup 80 (.map (some (l.M c))) (.int .u8 0) true).run Tryd.prog w = .ok (.tuple #[.pointer none, .bool false]) w := (H.out.maps c hc8).lookNo 0 (by decide) (by decide) (by rw [mapF, if_neg (fun q => by have := q.2.1; omega)])
    have Z := Aside.mk (H.out.setSt c hc8 3 ⟨by decide, by decide⟩ (.inr (by rw [HST.out]; decide)))
    have HR : Aside (enteringS (Plan.cores P) s c 0 = s.setSt c 3) := ⟨by rw [enteringS, if_pos rfl]⟩
    go_enter Tryd.func47, Tryd.ntmps47
    go_wp2_with fail
    exact bodyPost_ret (v := .tuple #[]) (by simp [results, Tryd.results47, go_sem]) rfl ⟨rfl, by rw [HR.out]; exact Z.out.1.mono (by omega), Z.out.2⟩
  · have MG := Aside.mk (hg.resolve_left hg0)
    have LK : (Instr.lookup 80 (.map (some (l.M c))) (.int .u8 g) true).run Tryd.prog w = .ok (.tuple #[.pointer (some ⟨l.K c g, 0, none⟩), .bool true]) w := (H.out.maps c hc8).look g g0 g1 _ (by rw [mapF, if_pos MG.out])
    have HR : Aside (enteringS (Plan.cores P) s c g = if (stepX (s.mb c g) (s.ws.getD (posG (Plan.cores P) g) 0)).entered = true then (stepMb (Plan.cores P) s c g).setSt c 3 else if (stepX (s.mb c g) (s.ws.getD (posG (Plan.cores P) g) 0)).missed = true then (stepMb (Plan.cores P) s c g).setSt c 1 else stepMb (Plan.cores P) s c g) := ⟨by rw [enteringS, if_neg hg0]⟩
    obtain ⟨cc, c0, c1, hms⟩ := H.out.mem
    have hmb := H.out.ok.mb c g MG.out
    have hpl : posG (Plan.cores P) g < s.ws.length := by rw [H.out.ok.ws]; exact posG_lt _ _ g1
    obtain ⟨q1, q2, q3, q4, q5, q6, q7⟩ := H.out.loc.K c g MG.out
    have hwr := hms.mem.range (s.ws.getD (posG (Plan.cores P) g) 0) (by rw [List.getD_eq_getElem?_getD, List.getElem?_eq_getElem hpl]; exact List.getElem_mem hpl)
    have KS := Aside.mk (step_any w0 w l.B l.G (l.K c g) s.ws (posG (Plan.cores P) g) _ cc (s.mb c g) hms hpl ⟨rfl⟩ hmb.2 (H.out.mbs c g MG.out) hmb.1 ⟨q4, q5⟩ q1 c0 (by omega))
    have HX := Aside.mk (And.intro c0 (And.intro c1 hwr))
    clear hms hmb hpl q1 q2 q3 q4 q5 q6 q7 hwr c0 c1 hg
    go_enter Tryd.func47, Tryd.ntmps47
    go_wp2_with fail
    refine KS.out.mono ?_
    rintro e w1 ⟨rfl, ⟨cc1, d0, d1, m1⟩, k1, kk⟩
    have T := Aside.mk (H.out.stepped c g MG.out (cc := cc1) (by have := HX.out.1; omega) (by have := HX.out.2.1; omega) m1 k1 kk HX.out.2.2)
    have KE := Aside.mk (entered_any w1 _ _ k1)
    have KM := Aside.mk (missed_any w1 _ _ k1)
    clear m1 k1 kk d0 d1 z0 z1 z2 z3 z4 f0
    obtain ⟨z0, _, _, _, _⟩ := T.out.1.cCos c hc8
    rw [show (stepMb (Plan.cores P) s c g).co c = s.co c from rfl, HST.out] at z0
    have f0 := T.out.1.seq.f (6 + c * 5)
    have Z := Aside.mk (fun t ht => T.out.1.setSt c hc8 t ht (.inr (by rw [show (stepMb (Plan.cores P) s c g).co c = s.co c from rfl, HST.out]; decide)))
    obtain ⟨be, hbe⟩ : ∃ be, Aside ((stepX (s.mb c g) (s.ws.getD (posG (Plan.cores P) g) 0)).entered = be) := ⟨_, ⟨rfl⟩⟩
    obtain ⟨bm, hbm⟩ : ∃ bm, Aside ((stepX (s.mb c g) (s.ws.getD (posG (Plan.cores P) g) 0)).missed = bm) := ⟨_, ⟨rfl⟩⟩
    rw [hbe.out] at KE HR
    rw [hbm.out] at KM HR
    cases be
    · cases bm
      · have HR2 : Aside (enteringS (Plan.cores P) s c g = stepMb (Plan.cores P) s c g) := ⟨by rw [HR.out]; rfl⟩
        clear HR
        go_wp2_with fail
        refine KE.out.mono ?_
        rintro e w2 ⟨rfl, rfl⟩
        go_wp2_with fail
        refine KM.out.mono ?_
        rintro e w3 ⟨rfl, rfl⟩
        go_wp2_with fail
        exact bodyPost_end (v := .tuple #[]) (by simp [results, Tryd.results47, go_sem]) rfl ⟨rfl, by rw [HR2.out]; exact T.out.1, T.out.2⟩
      · have HR2 : Aside (enteringS (Plan.cores P) s c g = (stepMb (Plan.cores P) s c g).setSt c 1) := ⟨by rw [HR.out]; rfl⟩
        have Z1 := Aside.mk (Z.out 1 ⟨by decide, by decide⟩)
        clear HR
        go_wp2_with fail
        refine KE.out.mono ?_
        rintro e w2 ⟨rfl, rfl⟩
        go_wp2_with fail
        refine KM.out.mono ?_
        rintro e w3 ⟨rfl, rfl⟩
        go_wp2_with fail
        exact bodyPost_end (v := .tuple #[]) (by simp [results, Tryd.results47, go_sem]) rfl ⟨rfl, by rw [HR2.out]; exact Z1.out.1, T.out.2.trans Z1.out.2⟩
    · have HR2 : Aside (enteringS (Plan.cores P) s c g = (stepMb (Plan.cores P) s c g).setSt c 3) := ⟨by rw [HR.out]; rfl⟩
      have Z1 := Aside.mk (Z.out 3 ⟨by decide, by decide⟩)
      clear HR
      go_wp2_with fail
      refine KE.out.mono ?_
      rintro e w2 ⟨rfl, rfl⟩
      go_wp2_with fail
      exact bodyPost_end (v := .tuple #[]) (by simp [results, Tryd.results47, go_sem]) rfl ⟨rfl, by rw [HR2.out]; exact Z1.out.1, T.out.2.trans Z1.out.2⟩
end Go.Proofs.YtidjkhmlpgkaaaaDoor

namespace Go.Proofs.YtidjkhmlpgkaaaaDoor
open Go.RowKit
set_option linter.unusedVariables false
set_option linter.unusedSimpArgs false


def pickE (C : List (List Win)) (k : Int) : Int := if outC C k then 251 else 0
def pickB (C : List (List Win)) (s : Sq) (k : Int) : Bool := if outC C k then false else decide ((s.co k.toNat).st = 3)
def pickT (C : List (List Win)) (F : Int) (s : Sq) (k : Int) : Sq := if outC C k then s else pickS C F s k.toNat
theorem entering_at (C : List (List Win)) (s : Sq) (c : Nat) (g : Int) : ((enteringS C s c g).co c).at_ = (s.co c).at_ := by
  unfold enteringS
  split
  · simp [Sq.setSt, Sq.setCo]
  · split
    · simp [Sq.setSt, Sq.setCo, stepMb, Sq.setMb]
    · split
      · simp [Sq.setSt, Sq.setCo, stepMb, Sq.setMb]
      · rfl
set_option maxHeartbeats 3200000 in
theorem pick_any {w0 w : World} {l : Loc} {P : Plan} {s : Sq} {n : Nat} (h : SqSt w0 w l P s n) (k : Int) (hn : n < 1000000000) :
    Calls Tryd.prog 23 #[.pointer (some ⟨l.S, 0, none⟩), .int .i64 k] w fun e w' => e = .returned (.tuple #[.bool (pickB (Plan.cores P) s k), .int .i64 (pickE (Plan.cores P) k)]) ∧ SqSt w0 w' l P (pickT (Plan.cores P) (Plan.frame P) s k) (n + 1) ∧ Kept (l.own w0) w w' := by
  have H := Aside.mk h
  have h1 := h.cCores
  have hS := h.seq.lt
  have hn8 := h.cores
  clear h
  by_cases ho : outC (Plan.cores P) k
  · rw [pickB, pickE, pickT, if_pos ho, if_pos ho, if_pos ho]
    rcases ho with ho | ho
    · go_enter Tryd.func23, Tryd.ntmps23
      go_wp2_with fail
      go_ret2
      exact ⟨rfl, H.out.mono (by omega), Kept.refl _ _⟩
    · have hc0 : ¬ k < 0 := by omega
      go_enter Tryd.func23, Tryd.ntmps23
      go_wp2_with fail
      go_ret2
      exact ⟨rfl, H.out.mono (by omega), Kept.refl _ _⟩
  · rw [pickB, pickE, pickT, if_neg ho, if_neg ho, if_neg ho]
    have hc0 : 0 ≤ k := by unfold outC at ho; omega
    have hc1 : k < (Plan.cores P).length := by unfold outC at ho; omega
    obtain ⟨c, rfl⟩ := Int.eq_ofNat_of_zero_le hc0
    have hc : c < (Plan.cores P).length := by omega
    simp only [Int.toNat_natCast]
    have hc8 : c < 8 := by omega
    obtain ⟨z0, z1, z2, z3, z4⟩ := H.out.cCos c hc8
    have f0 := H.out.seq.f (6 + c * 5)
    have ho1 : ¬ (c : Int) < 0 := by omega
    clear ho hc0
    obtain ⟨hs0, hs3⟩ := H.out.ok.st c hc
    obtain ⟨st, hst⟩ : ∃ st, Aside ((s.co c).st = st) := ⟨_, ⟨rfl⟩⟩
    rw [hst.out] at z0 hs0 hs3
    generalize hpb : decide ((s.co c).st = 3) = pb
    rw [hst.out] at hpb
    rcases (show st = 0 ∨ st = 1 ∨ st = 2 ∨ st = 3 by omega) with rfl | rfl | rfl | rfl
    · obtain rfl : pb = false := by rw [← hpb]; rfl
      clear hpb
      have K := Aside.mk (enter_any H.out c hc)
      have HR : Aside (pickS (Plan.cores P) (Plan.frame P) s c = enterS (Plan.cores P) (Plan.frame P) s c) := ⟨by rw [pickS, if_neg (by rw [hst.out]; decide), if_pos hst.out]⟩
      go_enter Tryd.func23, Tryd.ntmps23
      go_wp2_with fail
      refine K.out.mono ?_
      rintro e w1 ⟨rfl, t1, k1⟩
      have Z := Aside.mk (And.intro t1 k1)
      clear t1 k1
      go_wp2_with fail
      go_ret2
      exact ⟨rfl, by rw [HR.out]; exact Z.out.1.mono (by omega), Z.out.2⟩
    · obtain rfl : pb = false := by rw [← hpb]; rfl
      clear hpb
      have Z := Aside.mk (H.out.setSt c hc8 0 ⟨by decide, by decide⟩ (.inl rfl))
      have HR : Aside (pickS (Plan.cores P) (Plan.frame P) s c = s.setSt c 0) := ⟨by rw [pickS, if_pos hst.out]⟩
      go_enter Tryd.func23, Tryd.ntmps23
      go_wp2_with fail
      go_ret2
      exact ⟨rfl, by rw [HR.out]; exact Z.out.1.mono (by omega), Z.out.2⟩
    · obtain rfl : pb = false := by rw [← hpb]; rfl
      clear hpb
      have HR : Aside (pickS (Plan.cores P) (Plan.frame P) s c = enteringS (Plan.cores P) s c (gangW (Plan.cores P) c (s.co c).at_.toNat)) := ⟨by rw [pickS, if_neg (by rw [hst.out]; decide), if_neg (by rw [hst.out]; decide), if_pos hst.out]⟩
      obtain ⟨i0, i1⟩ := H.out.ok.at_ c hc (by rw [hst.out]; decide)
      obtain ⟨i, hat⟩ : ∃ i, (s.co c).at_ = i := ⟨_, rfl⟩
      rw [hat] at HR i0 i1 z1
      obtain ⟨j, rfl⟩ := Int.eq_ofNat_of_zero_le i0
      rw [Int.toNat_natCast] at HR
      have hj : j < (coreW (Plan.cores P) c).length := by omega
      have hl := List.getElem?_eq_getElem hj
      obtain ⟨X, hX⟩ : ∃ X, (coreW (Plan.cores P) c)[j] = X := ⟨_, rfl⟩
      rw [hX] at hl
      rw [gangW_of hl] at HR
      obtain ⟨v, hv, hw⟩ := H.out.winsAt0 c hc
      obtain ⟨a, cap, rfl, hlen⟩ := hw.len
      obtain ⟨ad2, rfl, e0, e1, e2, e3, ok⟩ := hw.at_ j X hl
      have PRE : Aside (∀ W s' n', SqSt w0 W l P s' n' → (s'.co c).at_ = (j : Int) → W.cell? ⟨l.S, 1, none⟩ = some (.slice (some l.a0) (Plan.cores P).length l.c0) ∧ W.cell? (l.a0.add c) = some (.slice (some ad2) (coreW (Plan.cores P) c).length cap) ∧ W.cell? ⟨l.S, 6 + c * 5 + 1, none⟩ = some (.int .i64 (j : Int)) ∧ W.cell? ⟨(ad2.add (j * 4)).block, (ad2.add (j * 4)).off + 3, none⟩ = some (.int .u8 (Win.g X))) := ⟨fun W s' n' t e => ⟨t.cCores, cell_up t.below0 hv, by rw [← e]; exact (t.cCos c hc8).2.1, cell_up t.below0 e3⟩⟩
      have HA := Aside.mk hat
      have K := Aside.mk (fun W (b : Below w.heap.size w W) => entering_any (H.out.below b) c hc hst.out (Win.g X) ok.g.1 ok.g.2 (by
        rcases (show Win.g X = 0 ∨ 1 ≤ Win.g X by have := ok.g.1; omega) with q | q
        · exact .inl q
        · exact .inr (memG_of hc hl q ok.g.2)) hn)
      have BB : Aside (∀ m, SqSt w0 (w.drewN m) l P s n) := ⟨fun m => H.out.below (below_drewN _ _)⟩
      have BD : Aside (SqSt w0 w.drew l P s n) := ⟨BB.out 1⟩
      have B0 := Aside.mk H.out
      clear hl hX hw ok hlen hv e0 e1 e2 e3
      go_enter Tryd.func23, Tryd.ntmps23
      go_wp2_with fail
      go_region_held3 (fun W => W.cell? ⟨l.S, 1, none⟩ = some (.slice (some l.a0) (Plan.cores P).length l.c0) ∧ W.cell? (l.a0.add c) = some (.slice (some ad2) (coreW (Plan.cores P) c).length cap) ∧ W.cell? ⟨l.S, 6 + c * 5 + 1, none⟩ = some (.int .i64 (j : Int)) ∧ W.cell? ⟨(ad2.add (j * 4)).block, (ad2.add (j * 4)).off + 3, none⟩ = some (.int .u8 (Win.g X)))
        (first | (with_reducible exact PRE.out _ _ _ BD.out HA.out) | (with_reducible exact PRE.out _ _ _ B0.out HA.out) | (with_reducible exact PRE.out _ _ _ (BB.out _) HA.out) | (with_reducible exact PRE.out _ _ _ Z.out.1 Z.out.2.2) | go_keep)
        (first | (go_at_call 47; with_reducible refine (K.out _ (by first | exact Below.refl _ _ | exact bel_drew (Below.refl _ _) | exact below_drewN _ _)).mono ?_; rintro e w1 ⟨rfl, t1, k1⟩; have Z := Aside.mk (And.intro t1 (And.intro k1 ((entering_at (Plan.cores P) s c (Win.g X)).trans HA.out)))))
      have ZZ := Aside.mk (And.intro t1 k1)
      clear t1 k1
      go_wp2_with fail
      go_ret2
      exact ⟨rfl, by rw [HR.out]; exact ZZ.out.1, (Kept.of_below (by first | exact Below.refl _ _ | exact bel_drew (Below.refl _ _) | exact below_drewN _ _)).trans ZZ.out.2⟩
    · obtain rfl : pb = true := by rw [← hpb]; rfl
      clear hpb
      have HR : Aside (pickS (Plan.cores P) (Plan.frame P) s c = s) := ⟨by rw [pickS, if_neg (by rw [hst.out]; decide), if_neg (by rw [hst.out]; decide), if_neg (by rw [hst.out]; decide)]⟩
      go_enter Tryd.func23, Tryd.ntmps23
      go_wp2_with fail
      go_ret2
      exact ⟨rfl, by rw [HR.out]; exact H.out.mono (by omega), Kept.refl _ _⟩
end Go.Proofs.YtidjkhmlpgkaaaaDoor

namespace Go.Proofs.YtidjkhmlpgkaaaaDoor
open Go.RowKit
set_option linter.unusedVariables false
set_option linter.unusedSimpArgs false


theorem quo_bit8 (s c : Nat) : s / 2 ^ c % 2 = if s.testBit c then 1 else 0 := by
  rw [Nat.testBit_eq_decide_div_mod_eq]
  by_cases h : s / 2 ^ c % 2 = 1
  · simp [h]
  · simp [h]; omega
theorem each_bit (m k : Nat) (hm : m < 256) : (Go.bits .and .u8 ((m : Int) / 2 ^ k) 1 == 1) = m.testBit k := by
  have e : ((m : Nat) : Int) / 2 ^ k = ((m / 2 ^ k : Nat) : Int) := by simp
  have hq := quo_bit8 m k
  have hl : m / 2 ^ k < 256 := Nat.lt_of_le_of_lt (Nat.div_le_self _ _) hm
  rw [e]
  generalize m / 2 ^ k = q at *
  have h1 := bits_and8 q 1 hl (by decide)
  rw [show ((1 : Nat) : Int) = 1 by rfl] at h1
  rw [h1, Nat.and_one_is_mod, hq]
  cases m.testBit k <;> rfl
theorem weach_any (m : Nat) (hm : m < 256) (g : FuncId) (caps : Array Value) (hg : ∀ args w, (callFunc g args).run Tryd.prog w = .ok (.enter g args) w) (J : Nat → World → Prop)
    (hf1 : ∀ c : Nat, c < 8 → m.testBit c = true → ∀ w, J c w → Calls Tryd.prog g (#[.int .i64 c] ++ caps) w fun e w' => e = .returned (.tuple #[]) ∧ J (c + 1) w')
    (hf0 : ∀ c : Nat, c < 8 → m.testBit c = false → ∀ w, J c w → J (c + 1) w) (w : World) (hJ : J 0 w) :
    Calls Tryd.prog 40 #[.int .u8 (m : Int), .func (.func g) #[] caps] w fun e w' => e = .returned (.tuple #[]) ∧ J 8 w' := by
  go_enter Tryd.func40, Tryd.ntmps40
  go_wp2_with fail
  go_loopw [5] (fun i wr => ∃ k : Nat, k ≤ 8 ∧ i = .int .i64 k ∧ J k wr) (fun i _ => 8 - (intOf i).toNat)
  case atStart => exact ⟨0, by omega, rfl, hJ⟩
  case round =>
    obtain ⟨k, hk8, rfl, hJk⟩ := hrel
    by_cases h2 : k < 8
    · have f1 := hf1 k h2
      have f0 := hf0 k h2
      clear hf1 hf0
      cases hb : m.testBit k
      · have J1 := Aside.mk (f0 hb wr hJk)
        clear f0 f1 hJk
        have hq := each_bit m k hm
        rw [hb] at hq
        clear hb
        go_wp2_with fail
        go_roundw
        case rel => exact ⟨k + 1, by omega, by go_num, J1.out⟩
        case measure => simp [intOf]; omega
      · have K1 := Aside.mk (f1 hb wr hJk)
        clear f0 f1 hJk
        have hq := each_bit m k hm
        rw [hb] at hq
        clear hb
        go_wp2_with fail
        refine K1.out.mono ?_
        rintro e w1 ⟨rfl, hJ1⟩
        go_wp2_with fail
        go_roundw
        case rel => exact ⟨k + 1, by omega, by go_num, hJ1⟩
        case measure => simp [intOf]; omega
    · obtain rfl : k = 8 := by omega
      go_wp2_with fail
      exact bodyPost_end (v := .tuple #[]) (by simp [results, Tryd.results40, go_sem]) rfl ⟨rfl, hJk⟩
end Go.Proofs.YtidjkhmlpgkaaaaDoor
