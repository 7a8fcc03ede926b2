/- Paths: awake: what the chapter's example fixes. -/
import Derived.Test.YtflkfjjfhhapkaaPthK
import Derived.Test.YtflkfjjfhhapkaaPthM
namespace Go.Proofs.Ytflkfjjfhhapkaa
open Go.RowKit
set_option linter.unusedVariables false
set_option linter.unusedSimpArgs false

structure AwSt (w0 : World) (B : Nat) (a0 : Option Addr) (c0 : Nat) (a1 : Option Addr) (c1 : Nat) (a2 : Option Addr) (c2 : Nat) (a3 : Option Addr) (c3 : Nat) (w : World) : Prop where
  below : Below w0.heap.size w0 w
  box : w.heap[B]? = some (.cells #[.int .u16 0, .slice a0 0 c0, .slice a1 4 c1, .slice a2 2 c2, .slice a3 1 c3] 28 (0, 0))
  plan : PlanV w (.agg #[.int .u16 0, .slice a0 0 c0, .slice a1 4 c1, .slice a2 2 c2, .slice a3 1 c3]) exP
theorem AwSt.old {w0 w w' : World} {B : Nat} {a0 : Option Addr} {c0 : Nat} {a1 : Option Addr} {c1 : Nat} {a2 : Option Addr} {c2 : Nat} {a3 : Option Addr} {c3 : Nat} (s : AwSt w0 B a0 c0 a1 c1 a2 c2 a3 c3 w) (k : Below w.heap.size w w') : AwSt w0 B a0 c0 a1 c1 a2 c2 a3 c3 w' :=
  ⟨bel_then s.below k, (k.block _ (lt_of_block s.box)).trans s.box, s.plan.below k⟩

theorem PlanV.chans4 {w : World} {fr : Int} {s0 s1 s2 s3 : Value} {P : Plan} (h : PlanV w (.agg #[.int .u16 fr, s0, s1, s2, s3]) P) : Chans w s2 (Plan.chans P) := by
  obtain ⟨_, _, _, _, _, _, _, _, _, _, _, _, e, hp⟩ := h
  injection e with e
  have e := congrArg Array.toList e
  simp at e
  obtain ⟨rfl, rfl, rfl, rfl, rfl⟩ := e
  exact hp.chans

set_option maxHeartbeats 3200000 in
set_option maxRecDepth 100000 in
theorem awake_any (w : World) : Calls Try.prog 11 #[] w fun e w' => e = .returned (.bool true) ∧ Below w.heap.size w w' := by
  go_enter Try.func11, Try.ntmps11
  go_wp2_with fail
  refine (example_any w).mono ?_
  rintro e w1 ⟨v, rfl, hp, b1⟩
  obtain ⟨a0, c0, a1, c1, a2, c2, a3, c3, rfl⟩ : ∃ a0 c0 a1 c1 a2 c2 a3 c3, v = .agg #[.int .u16 0, .slice a0 0 c0, .slice a1 4 c1, .slice a2 2 c2, .slice a3 1 c3] := by
    obtain ⟨a0, c0, a1, c1, a2, c2, a3, c3, e, _, _⟩ := hp.open_
    exact ⟨a0, c0, a1, c1, a2, c2, a3, c3, e⟩
  have S1 : Aside (AwSt w w1.heap.size a0 c0 a1 c1 a2 c2 a3 c3 (w1.alloc (.cells #[.int .u16 0, .slice a0 0 c0, .slice a1 4 c1, .slice a2 2 c2, .slice a3 1 c3] 28))) := ⟨bel_alloc b1 _, heap_alloc_new _ _, hp.below (bel_one _ _)⟩
  obtain ⟨B, hB⟩ : ∃ B, Aside (w1.heap.size = B) := ⟨_, ⟨rfl⟩⟩
  have K1 := Aside.mk (into_in _ _ exP 2 S1.out.plan (by decide) (by decide))
  rw [show intoL (Plan.parts exP).length (Plan.chans exP) 2 = _ from exv_into2] at K1
  clear hp b1
  rw [hB.out] at S1
  go_wp2_with fail
  refine K1.out.mono ?_
  rintro e w2 ⟨ra, rfl, hra, b2⟩
  have S2 : Aside (∀ W, Below w2.heap.size w2 W → AwSt w B a0 c0 a1 c1 a2 c2 a3 c3 W ∧ Bools W ra [true, true, true, false]) := ⟨fun W h => ⟨S1.out.old (bel_then b2 h), hra.below h⟩⟩
  obtain ⟨g0, g1, g2, g3, g4⟩ := box5 (S2.out _ (Below.refl _ _)).1.box
  have K2 := Aside.mk (outof_in w2 _ exP 0 (S2.out _ (Below.refl _ _)).1.plan (by decide) (by decide))
  rw [show outL (Plan.parts exP).length (Plan.chans exP) 0 = _ from exv_out0] at K2
  rw [hB.out]
  clear b2 hra K1 S1
  go_wp2_with fail
  refine K2.out.mono ?_
  rintro e w3 ⟨rb, rfl, hrb, b3⟩
  have S3 : Aside (∀ W, Below w3.heap.size w3 W → AwSt w B a0 c0 a1 c1 a2 c2 a3 c3 W ∧ Bools W ra [true, true, true, false] ∧ Bools W rb [true, true, true, false]) := ⟨fun W h => ⟨(S2.out _ (bel_then b3 h)).1, (S2.out _ (bel_then b3 h)).2, hrb.below h⟩⟩
  clear b3 hrb K2 S2 g0 g1 g2 g3 g4
  obtain ⟨g0, g1, g2, g3, g4⟩ := box5 (S3.out _ (Below.refl _ _)).1.box
  have K3 := Aside.mk (apart_yes w3 _ exP 0 3 (S3.out _ (Below.refl _ _)).1.plan (by decide) (by decide))
  go_wp2_with fail
  refine K3.out.mono ?_
  rintro e w4 ⟨_, h4⟩
  obtain ⟨rfl, b4⟩ := h4 3 rfl (by decide)
  rw [show apartB (Plan.parts exP).length (Plan.chans exP) 0 3 = true from exv_apart03]
  have S4 : Aside (∀ W, Below w4.heap.size w4 W → AwSt w B a0 c0 a1 c1 a2 c2 a3 c3 W ∧ Bools W ra [true, true, true, false] ∧ Bools W rb [true, true, true, false]) := ⟨fun W h => S3.out _ (bel_then b4 h)⟩
  clear b4 h4 K3 S3 g0 g1 g2 g3 g4
  obtain ⟨g0, g1, g2, g3, g4⟩ := box5 (S4.out _ (Below.refl _ _)).1.box
  have K4 := Aside.mk (apart_yes w4 _ exP 2 0 (S4.out _ (Below.refl _ _)).1.plan (by decide) (by decide))
  go_wp2_with fail
  refine K4.out.mono ?_
  rintro e w5 ⟨_, h5⟩
  obtain ⟨rfl, b5⟩ := h5 0 rfl (by decide)
  rw [show apartB (Plan.parts exP).length (Plan.chans exP) 2 0 = false from exv_apart20]
  have S5 : Aside (∀ W, Below w5.heap.size w5 W → AwSt w B a0 c0 a1 c1 a2 c2 a3 c3 W ∧ Bools W ra [true, true, true, false] ∧ Bools W rb [true, true, true, false]) := ⟨fun W h => S4.out _ (bel_then b5 h)⟩
  clear b5 h5 K4 S4 g0 g1 g2 g3 g4
  obtain ⟨g0, g1, g2, g3, g4⟩ := box5 (S5.out _ (Below.refl _ _)).1.box
  have K5 := Aside.mk (ends_any w5 _ exP 1 (S5.out _ (Below.refl _ _)).1.plan (by decide))
  rw [show numsF (inF (Plan.parts exP).length 1) (Plan.chans exP) = [0] from exv_in, show numsF (outF (Plan.parts exP).length 1) (Plan.chans exP) = [1] from exv_out] at K5
  go_wp2_with fail
  refine K5.out.mono ?_
  rintro e w6 ⟨rc, rd, rfl, hrc, hrd, b6⟩
  have S6 : Aside (∀ W, Below w6.heap.size w6 W → AwSt w B a0 c0 a1 c1 a2 c2 a3 c3 W ∧ Bools W ra [true, true, true, false] ∧ Bools W rb [true, true, true, false] ∧ Ints W .i64 rc [0] ∧ Ints W .i64 rd [1]) := ⟨fun W h => ⟨(S5.out _ (bel_then b6 h)).1, (S5.out _ (bel_then b6 h)).2.1, (S5.out _ (bel_then b6 h)).2.2, hrc.below h, hrd.below h⟩⟩
  clear b6 hrc hrd K5 S5 g0 g1 g2 g3 g4
  obtain ⟨g0, g1, g2, g3, g4⟩ := box5 (S6.out _ (Below.refl _ _)).1.box
  have K6 := Aside.mk (without_in w6 _ exP 1 (S6.out _ (Below.refl _ _)).1.plan (by decide) (by decide) (by decide) (by decide) (by decide) (by decide) (by decide) (by decide))
  rw [exv_wo] at K6
  go_wp2_with fail
  refine K6.out.mono ?_
  rintro e w7 ⟨vq, rfl, hq, b7⟩
  obtain ⟨a4, c4, a5, c5, a6, c6, a7, c7, rfl⟩ : ∃ a0 c0 a1 c1 a2 c2 a3 c3, vq = .agg #[.int .u16 0, .slice a0 0 c0, .slice a1 4 c1, .slice a2 1 c2, .slice a3 1 c3] := by
    obtain ⟨a0, c0, a1, c1, a2, c2, a3, c3, e, _, _⟩ := hq.open_
    exact ⟨a0, c0, a1, c1, a2, c2, a3, c3, e⟩
  obtain ⟨W7, HW7⟩ : ∃ W7, Aside (W7 = w7.alloc (.cells #[.int .u16 0, .slice a4 0 c4, .slice a5 4 c5, .slice a6 1 c6, .slice a7 1 c7] 28)) := ⟨_, ⟨rfl⟩⟩
  have S7 : Aside (∀ W, Below W7.heap.size W7 W → AwSt w B a0 c0 a1 c1 a2 c2 a3 c3 W ∧ Bools W ra [true, true, true, false] ∧ Bools W rb [true, true, true, false] ∧ Ints W .i64 rc [0] ∧ Ints W .i64 rd [1] ∧ W.heap[w7.heap.size]? = some (.cells #[.int .u16 0, .slice a4 0 c4, .slice a5 4 c5, .slice a6 1 c6, .slice a7 1 c7] 28 (0, 0))) := ⟨fun W h => by
    have k : Below w7.heap.size w7 W7 := by rw [HW7.out]; exact bel_one _ _
    have q := S6.out _ (bel_then b7 (bel_then k h))
    refine ⟨q.1, q.2.1, q.2.2.1, q.2.2.2.1, q.2.2.2.2, (h.block _ ?_).trans ?_⟩
    · rw [HW7.out]; simp
    · rw [HW7.out]; exact heap_top _ _ _ rfl⟩
  obtain ⟨D, hD⟩ : ∃ D, Aside (w7.heap.size = D) := ⟨_, ⟨rfl⟩⟩
  clear g0 g1 g2 g3 g4 b7 hq K6 S6
  go_upto_region 8 with (fail)
  rw [← HW7.out, hD.out]
  rw [hD.out] at S7
  obtain ⟨g0, g1, g2, g3, g4⟩ := box5 (S7.out W7 (Below.refl _ _)).1.box
  obtain ⟨W8, HW8⟩ : ∃ W8, Aside (W8 = W7.alloc (.cells #[.int .u16 0, .slice a0 0 c0, .slice a1 4 c1, .slice a2 2 c2, .slice a3 1 c3] 28)) := ⟨_, ⟨rfl⟩⟩
  have X8 : Aside (W8.heap[W7.heap.size]? = some (.cells #[.int .u16 0, .slice a0 0 c0, .slice a1 4 c1, .slice a2 2 c2, .slice a3 1 c3] 28 (0, 0)) ∧ Below W7.heap.size W7 W8) := ⟨by rw [HW8.out]; exact ⟨heap_top _ _ _ rfl, bel_one _ _⟩⟩
  go_upto_region 9 with (fail)
  rw [← HW8.out]
  clear g0 g1 g2 g3 g4
  obtain ⟨g0, g1, g2, g3, g4⟩ := box5 (S7.out (W8.alloc (.cells #[] 44)) (bel_alloc X8.out.2 _)).1.box
  obtain ⟨n1, n2, n3, n4⟩ := chans_news (S7.out (W8.alloc (.cells #[] 44)) (bel_alloc X8.out.2 _)).1.plan.chans4
  have N4 := Aside.mk n4
  go_wp2_with (at_builtin; go_loud (refine append_rows W8.heap.size rfl _ _ 25 44 _ 6 8 rfl Try.underlying25 A_info_chan rfl (by decide) (by decide) (.slice (some ⟨W8.heap.size, 0, none⟩) 0 0) 0 [] (exH.flatMap ChanR.vals) a2 2 c2 rfl rfl (own_zero W8 _ _) n2 n3 (flat_one ChanR.vals chan_one exH) (by simp) (by decide) ?_))
  intro v1 w9 o1 r1 _
  clear g0 g1 g2 g3 g4 n1 n2 n3 n4
  have O1 := Aside.mk (And.intro o1 r1)
  clear o1 r1
  go_wp2_with (at_builtin; go_loud (refine append_elem W8.heap.size rfl _ _ 25 44 _ 6 8 rfl Try.underlying25 A_info_chan rfl (by decide) (by decide) v1 _ _ (ChanR.vals (0, 2, 3, 0, 0, 0, ())) rfl rfl rfl (chan_one _) O1.out.1 (Nat.le_trans (by simp) O1.out.2.size) (by decide) ?_))
  intro v2 w10 o2 r2 _
  have M := Aside.mk (more_of (L := exH) (c := (0, 2, 3, 0, 0, 0, ())) N4.out ⟨by decide, by decide, by decide, by decide, by decide, by decide⟩ O1.out.1 O1.out.2 o2 r2)
  have X10 := Aside.mk (hup M.out.1 X8.out.1)
  obtain ⟨A2, k2, rfl⟩ : ∃ A k, v2 = .slice A 3 k := M.out.2.2.2
  obtain ⟨W11, HW11⟩ : ∃ W11, Aside (W11 = w10.setCell ⟨W7.heap.size, 3, none⟩ (.slice A2 3 k2)) := ⟨_, ⟨rfl⟩⟩
  have hZ : W7.heap.size < W8.heap.size := lt_of_block X8.out.1
  have B11 : Aside (Below W7.heap.size W7 W11) := ⟨by rw [HW11.out]; exact (bel_then X8.out.2 M.out.1).setCell (p := ⟨W7.heap.size, 3, none⟩) (Nat.le_refl _) _⟩
  have C11 : Aside (Chans W11 (.slice A2 3 k2) (exH ++ [(0, 2, 3, 0, 0, 0, ())])) := ⟨by rw [HW11.out]; exact (fresh_set (fun _ _ _ q => q) M.out.2.1 (.inr M.out.2.2.1) hZ).1⟩
  have P11 : Aside (PlanV W11 (.agg #[.int .u16 0, .slice a0 0 c0, .slice a1 4 c1, .slice A2 3 k2, .slice a3 1 c3]) (Plan.withC exP (exH ++ [(0, 2, 3, 0, 0, 0, ())]))) := ⟨planV_withC (S7.out _ B11.out).1.plan C11.out ⟨_, _, _, rfl⟩⟩
  have X11 : Aside (W11.heap[W7.heap.size]? = some (.cells #[.int .u16 0, .slice a0 0 c0, .slice a1 4 c1, .slice A2 3 k2, .slice a3 1 c3] 28 (0, 0))) := ⟨by rw [HW11.out]; exact set3_box X10.out⟩
  obtain ⟨y0, y1, y2, y3, y4, f0, f1, f2, f3, f4⟩ := boxz X10.out
  have hZ10 : W7.heap.size < w10.heap.size := lt_of_block X10.out
  clear o2 r2
  go_upto_region 10 with (fail)
  rw [← HW11.out]
  clear y0 y1 y2 y3 y4 f0 f1 f2 f3 f4
  obtain ⟨y0, y1, y2, y3, y4⟩ := box5 X11.out
  have K11 := Aside.mk (into_in W11 _ _ 2 P11.out (by decide) (by decide))
  rw [show intoL (Plan.parts (Plan.withC exP (exH ++ [(0, 2, 3, 0, 0, 0, ())]))).length (Plan.chans (Plan.withC exP (exH ++ [(0, 2, 3, 0, 0, 0, ())]))) 2 = _ from exv_more] at K11
  go_wp2_with fail
  refine K11.out.mono ?_
  rintro e w12 ⟨rn, rfl, hrn, b12⟩
  have S12 := Aside.mk (S7.out _ (bel_then B11.out b12))
  have N12 := Aside.mk (And.intro hrn (bel_then B11.out b12))
  clear y0 y1 y2 y3 y4 hrn b12 K11
  obtain ⟨g0, g1, g2, g3, g4⟩ := box5 S12.out.1.box
  obtain ⟨x0, x1, x2, x3, x4⟩ := box5 S12.out.2.2.2.2.2
  obtain ⟨⟨_, _, qa, _, hA⟩, ⟨_, _, qb, _, hB'⟩, ⟨_, _, qc, _, hC⟩, ⟨_, _, qd, _, hD'⟩, _⟩ := S12.out.2
  obtain ⟨adA, rfl, cA⟩ := hA (by decide)
  obtain ⟨adB, rfl, cB⟩ := hB' (by decide)
  obtain ⟨adC, rfl, cC⟩ := hC (by decide)
  obtain ⟨adD, rfl, cD⟩ := hD' (by decide)
  subst qa qb qc qd
  have e0 : w12.cell? adA = some (.bool true) := by simpa [Addr.add] using cA 0 (by decide)
  have e1 : w12.cell? ⟨adA.block, adA.off + 1, none⟩ = some (.bool true) := by simpa [Addr.add] using cA 1 (by decide)
  have e2 : w12.cell? ⟨adA.block, adA.off + 2, none⟩ = some (.bool true) := by simpa [Addr.add] using cA 2 (by decide)
  have e3 : w12.cell? ⟨adA.block, adA.off + 3, none⟩ = some (.bool false) := by simpa [Addr.add] using cA 3 (by decide)
  have e4 : w12.cell? ⟨adB.block, adB.off + 2, none⟩ = some (.bool true) := by simpa [Addr.add] using cB 2 (by decide)
  have e5 : w12.cell? ⟨adB.block, adB.off + 3, none⟩ = some (.bool false) := by simpa [Addr.add] using cB 3 (by decide)
  have e6 : w12.cell? adC = some (.int .i64 0) := by simpa [Addr.add] using cC 0 (by decide)
  have e7 : w12.cell? adD = some (.int .i64 1) := by simpa [Addr.add] using cD 0 (by decide)
  clear hA hB' hC hD' cA cB cC cD
  have K12 := Aside.mk (excl_any w12 _ exP 3 0 S12.out.1.plan)
  rw [exv_excl] at K12
  go_wp2_with fail
  refine K12.out.mono ?_
  rintro e w13 ⟨rfl, b13⟩
  obtain ⟨_, _, qn, _, hN⟩ := N12.out.1.below b13
  obtain ⟨adN, rfl, cN⟩ := hN (by decide)
  subst qn
  have e8 : w13.cell? ⟨adN.block, adN.off + 3, none⟩ = some (.bool true) := by simpa [Addr.add] using cN 3 (by decide)
  have B13 := Aside.mk (bel_then S12.out.1.below b13)
  clear b13 hN cN e0 e1 e2 e3 e4 e5 e6 e7 g0 g1 g2 g3 g4 x0 x1 x2 x3 x4
  go_wp2_with fail
  go_ret
  exact ⟨rfl, B13.out⟩
end Go.Proofs.Ytflkfjjfhhapkaa
