/- The table: what the chapter's example fixes. -/
import Derived.Test.YtmfddaihepjfeaaTabI
namespace Go.Proofs.Ytmfddaihepjfeaa
open Go.RowKit
set_option linter.unusedVariables false
set_option linter.unusedSimpArgs false

theorem box5 {w : World} {B : Nat} {x0 x1 x2 x3 x4 : Value} {t : TypeId} {fr : Nat × Nat} (h : w.heap[B]? = some (.cells #[x0, x1, x2, x3, x4] t fr)) : w.cell? ⟨B, 0, none⟩ = some x0 ∧ w.cell? ⟨B, 1, none⟩ = some x1 ∧ w.cell? ⟨B, 2, none⟩ = some x2 ∧ w.cell? ⟨B, 3, none⟩ = some x3 ∧ w.cell? ⟨B, 4, none⟩ = some x4 := by
  simp [World.cell?, h]
theorem ex_turn : turnS exC 6 = [1, 1] := by kernel_rfl
theorem ex_next1 : nextS 20 exC 10 [1] = (2, 0) := by kernel_rfl
theorem ex_next0 : nextS 20 exC 10 [0] = (10, 0) := by kernel_rfl
theorem ex_at : atS [(5, 5, 1, 1, ()), (12, 8, 2, 0, ())] 12 = some 1 := by kernel_rfl
theorem ex_share : sumL (matchS exC 1) = 10 := by kernel_rfl
theorem ex_gap0 : gapV 20 (matchS exC 0) = 15 := by kernel_rfl
theorem ex_gap2 : gapV 20 (matchS exC 2) = 12 := by kernel_rfl
theorem ex_gangs : gangsTo exC 255 = [(1, 3, (5, 5, 1, 1, ()))] := by kernel_rfl

/-- The state of awake: the plan's box, and what was had. -/
structure AwSt (w0 : World) (B : Nat) (a0 : Option Addr) (c0 : Nat) (a1 : Option Addr) (c1 : Nat) (a2 : Option Addr) (c2 : Nat) (a3 : Option Addr) (c3 : Nat) (w : World) : Prop where
  below : Below w0.heap.size w0 w
  box : w.heap[B]? = some (.cells #[.int .u16 20, .slice a0 2 c0, .slice a1 3 c1, .slice a2 0 c2, .slice a3 0 c3] 28 (0, 0))
  plan : PlanV w (.agg #[.int .u16 20, .slice a0 2 c0, .slice a1 3 c1, .slice a2 0 c2, .slice a3 0 c3]) exP
theorem AwSt.old {w0 w w' : World} {B : Nat} {a0 : Option Addr} {c0 : Nat} {a1 : Option Addr} {c1 : Nat} {a2 : Option Addr} {c2 : Nat} {a3 : Option Addr} {c3 : Nat} (s : AwSt w0 B a0 c0 a1 c1 a2 c2 a3 c3 w) (k : Below w.heap.size w w') : AwSt w0 B a0 c0 a1 c1 a2 c2 a3 c3 w' :=
  ⟨bel_then s.below k, (k.block _ (lt_of_block s.box)).trans s.box, s.plan.below k⟩
theorem ints_one (w : World) (x : Int) : Ints (w.alloc (.cells #[.int .i64 x] 3)) .i64 (.slice (some ⟨w.heap.size, 0, none⟩) 1 1) [x] := by
  have := ints_lit w .i64 3 [x] (by simp)
  simpa using this

set_option maxHeartbeats 3200000 in
set_option maxRecDepth 100000 in
theorem awake_any (w : World) : Calls Try.prog 11 #[] w fun e w' => e = .returned (.bool true) ∧ Below w.heap.size w w' := by
  go_enter Try.func11, Try.ntmps11
  go_wp2_with fail
  refine (example_any w).mono ?_
  rintro e w1 ⟨v, rfl, hp, b1⟩
  obtain ⟨a0, c0, a1, c1, a2, c2, a3, c3, rfl⟩ : ∃ a0 c0 a1 c1 a2 c2 a3 c3, v = .agg #[.int .u16 20, .slice a0 2 c0, .slice a1 3 c1, .slice a2 0 c2, .slice a3 0 c3] := by
    obtain ⟨a0, c0, a1, c1, a2, c2, a3, c3, e, _, _⟩ := hp.open_
    exact ⟨a0, c0, a1, c1, a2, c2, a3, c3, e⟩
  have S1 : Aside (AwSt w w1.heap.size a0 c0 a1 c1 a2 c2 a3 c3 (w1.alloc (.cells #[.int .u16 20, .slice a0 2 c0, .slice a1 3 c1, .slice a2 0 c2, .slice a3 0 c3] 28))) := ⟨bel_alloc b1 _, heap_alloc_new _ _, hp.below (bel_one _ _)⟩
  obtain ⟨B, hB⟩ : ∃ B, Aside (w1.heap.size = B) := ⟨_, ⟨rfl⟩⟩
  have K1 := Aside.mk (turn_in _ _ exP 6 S1.out.plan (by decide) (by decide) (by decide))
  clear hp b1
  rw [hB.out] at S1
  go_wp2_with fail
  refine K1.out.mono ?_
  rintro e w2 ⟨r, rfl, hr, _, b2⟩
  have hr : Ints w2 .i64 r [1, 1] := by rw [← ex_turn]; exact hr
  obtain ⟨ra, rc, rfl, _, _⟩ := id hr
  have S2 := Aside.mk (And.intro (S1.out.old b2) hr)
  obtain ⟨g0, g1, g2, g3, g4⟩ := box5 S2.out.1.box
  clear b2 hr K1 S1
  rw [hB.out]
  obtain ⟨W3, HW3⟩ : ∃ W3, Aside (W3 = w2.alloc (.cells #[.int .i64 1] 3)) := ⟨_, ⟨rfl⟩⟩
  have hi : Ints W3 .i64 (.slice (some ⟨w2.heap.size, 0, none⟩) 1 1) [1] := by rw [HW3.out]; exact ints_one w2 1
  have S3 : Aside (AwSt w B a0 c0 a1 c1 a2 c2 a3 c3 W3 ∧ Ints W3 .i64 (.slice ra 2 rc) [1, 1]) := ⟨by rw [HW3.out]; exact ⟨S2.out.1.old (bel_one _ _), S2.out.2.below (bel_one _ _)⟩⟩
  have K3 := next_in W3 _ _ exP 10 [1] S3.out.1.plan hi (by decide) (by decide)
  rw [show nextS (Plan.frame exP) (Plan.cores exP) 10 [1] = (2, 0) from ex_next1] at K3
  have K3 := Aside.mk K3
  clear hi
  go_wp2_with fail
  rw [← HW3.out]
  refine K3.out.mono ?_
  rintro e w4 ⟨rfl, b4⟩
  have S4 := Aside.mk (And.intro (S3.out.1.old b4) (S3.out.2.below b4))
  clear b4 K3 S3 g0 g1 g2 g3 g4 S2 HW3
  obtain ⟨g0, g1, g2, g3, g4⟩ := box5 S4.out.1.box
  obtain ⟨W5, HW5⟩ : ∃ W5, Aside (W5 = w4.alloc (.cells #[.int .i64 0] 3)) := ⟨_, ⟨rfl⟩⟩
  have hi : Ints W5 .i64 (.slice (some ⟨w4.heap.size, 0, none⟩) 1 1) [0] := by rw [HW5.out]; exact ints_one w4 0
  have S5 : Aside (AwSt w B a0 c0 a1 c1 a2 c2 a3 c3 W5 ∧ Ints W5 .i64 (.slice ra 2 rc) [1, 1]) := ⟨by rw [HW5.out]; exact ⟨S4.out.1.old (bel_one _ _), S4.out.2.below (bel_one _ _)⟩⟩
  have K5 := next_in W5 _ _ exP 10 [0] S5.out.1.plan hi (by decide) (by decide)
  rw [show nextS (Plan.frame exP) (Plan.cores exP) 10 [0] = (10, 0) from ex_next0] at K5
  have K5 := Aside.mk K5
  clear hi
  go_wp2_with fail
  rw [← HW5.out]
  refine K5.out.mono ?_
  rintro e w6 ⟨rfl, b6⟩
  have S6 := Aside.mk (And.intro (S5.out.1.old b6) (S5.out.2.below b6))
  clear b6 K5 S5 g0 g1 g2 g3 g4 S4 HW5
  obtain ⟨g0, g1, g2, g3, g4⟩ := box5 S6.out.1.box
  obtain ⟨lv, ha0, hlv, hwins⟩ : ∃ lv, (∃ ad, a0 = some ad ∧ w6.cell? (ad.add 1) = some lv) ∧ True ∧ Wins w6 lv [(5, 5, 1, 1, ()), (12, 8, 2, 0, ())] := by
    obtain ⟨_, _, _, _, _, _, _, _, _, _, _, _, e, hp⟩ := S6.out.1.plan
    injection e with e
    have e := congrArg Array.toList e
    simp at e
    obtain ⟨_, ⟨rfl, rfl, rfl⟩, _⟩ := e
    obtain ⟨ad, v, h1, h2, h3⟩ := hp.cores.at_ 1 _ rfl
    exact ⟨v, ⟨ad, h1, h2⟩, trivial, h3⟩
  obtain ⟨ad, rfl, hcell0⟩ := ha0
  have hcell : w6.cell? ⟨ad.block, ad.off + 1, none⟩ = some lv := by simpa [Addr.add] using hcell0
  clear hcell0
  have K6 := at_any w6 lv _ 12 hwins
  rw [ex_at] at K6
  have K6 := Aside.mk K6
  obtain ⟨la, lc, rfl, _⟩ := hwins.len
  clear hlv hwins
  go_wp2_with fail
  refine K6.out.mono ?_
  rintro e w7 ⟨rfl, b7⟩
  have S7 := Aside.mk (And.intro (S6.out.1.old b7) (S6.out.2.below b7))
  clear b7 K6 g0 g1 g2 g3 g4 S6 hcell
  obtain ⟨g0, g1, g2, g3, g4⟩ := box5 S7.out.1.box
  have K7 := gangs_any w7 _ exP S7.out.1.plan (by decide)
  rw [show gangsTo (Plan.cores exP) 255 = [(1, 3, (5, 5, 1, 1, ()))] from ex_gangs] at K7
  have K7 := Aside.mk K7
  unfold atV
  go_wp2_with fail
  refine K7.out.mono ?_
  rintro e w8 ⟨gr, rfl, hgr, b8⟩
  obtain ⟨ga, gc, rfl⟩ := own_len hgr
  have S8 := Aside.mk (And.intro (S7.out.1.old b8) (And.intro (S7.out.2.below b8) hgr))
  clear b8 K7 g0 g1 g2 g3 g4 S7 hgr
  obtain ⟨g0, g1, g2, g3, g4⟩ := box5 S8.out.1.box
  have K8 := share_any w8 _ exP 1 S8.out.1.plan (by decide) (by decide)
  rw [show sumL (matchS (Plan.cores exP) 1) = 10 from ex_share] at K8
  have K8 := Aside.mk K8
  obtain ⟨_, _, q, _, hA⟩ := S8.out.2.1
  injection q with q1 q2 q3
  subst q1
  obtain ⟨ad2, rfl, hA2⟩ := hA (by decide)
  have i0 : w8.cell? ad2 = some (.int .i64 1) := by have := hA2 0 (by decide); simpa [Addr.add] using this
  have i1 : w8.cell? ⟨ad2.block, ad2.off + 1, none⟩ = some (.int .i64 1) := by have := hA2 1 (by decide); simpa [Addr.add] using this
  clear hA hA2 q2 q3
  go_wp2_with fail
  refine K8.out.mono ?_
  rintro e w9 ⟨rfl, b9⟩
  have S9 := Aside.mk (And.intro (S8.out.1.old b9) (own_below S8.out.2.2 b9))
  clear b9 K8 g0 g1 g2 g3 g4 S8 i0 i1
  obtain ⟨g0, g1, g2, g3, g4⟩ := box5 S9.out.1.box
  have K9 := gap_any w9 _ exP 0 20 rfl S9.out.1.plan
  rw [show gapV 20 (matchS (Plan.cores exP) 0) = 15 from ex_gap0] at K9
  have K9 := Aside.mk K9
  go_wp2_with fail
  refine K9.out.mono ?_
  rintro e w10 ⟨rfl, b10⟩
  have S10 := Aside.mk (And.intro (S9.out.1.old b10) (own_below S9.out.2 b10))
  clear b10 K9 g0 g1 g2 g3 g4 S9
  obtain ⟨g0, g1, g2, g3, g4⟩ := box5 S10.out.1.box
  have K10 := gap_any w10 _ exP 2 20 rfl S10.out.1.plan
  rw [show gapV 20 (matchS (Plan.cores exP) 2) = 12 from ex_gap2] at K10
  have K10 := Aside.mk K10
  go_wp2_with fail
  refine K10.out.mono ?_
  rintro e w11 ⟨rfl, b11⟩
  have S11 := Aside.mk (And.intro (S10.out.1.old b11) (own_below S10.out.2 b11))
  clear b11 K10 g0 g1 g2 g3 g4 S10
  obtain ⟨g, cap, hv, hcell⟩ : ∃ g cap, Value.slice ga [((1 : Int), (3 : Int), ((5, 5, 1, 1, ()) : Win))].length gc = .slice (some ⟨g, 0, none⟩) 1 cap ∧ w11.cell? ⟨g, 1, none⟩ = some (.int .u8 3) := by
    rcases S11.out.2.2 with ⟨_, h0⟩ | ⟨g, cap, cur, hv, _⟩
    · simp at h0
    · refine ⟨g, cap, hv, ?_⟩
      have := S11.out.2.cells (g := g) (by rw [hv]; rfl) 1 (.int .u8 3) rfl
      rwa [Addr.add_lit, Nat.zero_add] at this
  injection hv with h1 h2 h3
  subst h1 h3
  clear h2
  go_wp2_with fail
  go_ret
  exact ⟨rfl, S11.out.1.below⟩
end Go.Proofs.Ytmfddaihepjfeaa
