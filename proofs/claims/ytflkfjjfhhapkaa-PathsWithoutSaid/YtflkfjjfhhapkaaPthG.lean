/- Paths: whether two are apart; whether there is a path. -/
import Derived.Test.YtflkfjjfhhapkaaPthF
namespace Go.Proofs.Ytflkfjjfhhapkaa
open Go.RowKit
set_option linter.unusedVariables false
set_option linter.unusedSimpArgs false

theorem Bools.at_ {w : World} {v : Value} {L : List Bool} (h : Bools w v L) (i : Nat) (hi : i < L.length) : ∃ ad c, v = .slice (some ad) L.length c ∧ w.cell? (ad.add i) = some (.bool (L.getD i false)) := by
  obtain ⟨A, c, rfl, hm, h⟩ := h
  obtain ⟨ad, rfl, hc⟩ := h (by omega)
  exact ⟨ad, c, rfl, hc i hi⟩
noncomputable def apartB (n : Nat) (H : List ChanR) (a b : Nat) : Bool := !(outL n H a).getD b false && !(intoL n H a).getD b false
def NoA (w : World) (e : Ending) (w' : World) : Prop := e = .returned (.tuple #[.bool false, .int .i64 70]) ∧ Below w.heap.size w w'
def YesA (w : World) (b : Bool) (e : Ending) (w' : World) : Prop := e = .returned (.tuple #[.bool b, .int .i64 0]) ∧ Below w.heap.size w w'

set_option maxHeartbeats 800000 in
theorem apart_no1 (w : World) (v : Value) (P : Plan) (a b : Int) (hv : PlanV w v P) (hq : inB (Plan.parts P).length a = false) :
    Calls Try.prog 16 #[v, .int .i64 a, .int .i64 b] w (NoA w) := by
  have HV := Aside.mk hv
  obtain ⟨a0, c0, a1, c1, a2, c2, a3, c3, rfl, hp, hlen⟩ := hv.open_
  obtain ⟨W1, HW⟩ : ∃ W1, Aside (W1 = w.alloc (.cells #[.int .u16 (Plan.frame P), .slice a0 (Plan.cores P).length c0, .slice a1 (Plan.parts P).length c1, .slice a2 (Plan.chans P).length c2, .slice a3 (Plan.pairs P).length c3] 28)) := ⟨_, ⟨rfl⟩⟩
  have hb1 : Aside (Below w.heap.size w W1 ∧ W1.heap[w.heap.size]? = some (.cells #[.int .u16 (Plan.frame P), .slice a0 (Plan.cores P).length c0, .slice a1 (Plan.parts P).length c1, .slice a2 (Plan.chans P).length c2, .slice a3 (Plan.pairs P).length c3] 28 (0, 0))) := ⟨by rw [HW.out]; exact ⟨bel_one _ _, heap_alloc_new _ _⟩⟩
  have K1 : Aside (∀ W, Below w.heap.size w W → Calls Try.prog 15 #[.agg #[.int .u16 (Plan.frame P), .slice a0 (Plan.cores P).length c0, .slice a1 (Plan.parts P).length c1, .slice a2 (Plan.chans P).length c2, .slice a3 (Plan.pairs P).length c3], .int .i64 a] W (NoB W)) := ⟨fun W h => outof_out W _ P a (HV.out.below h) hq⟩
  have K2 : Aside (∀ W, Below w.heap.size w W → Calls Try.prog 12 #[.agg #[.int .u16 (Plan.frame P), .slice a0 (Plan.cores P).length c0, .slice a1 (Plan.parts P).length c1, .slice a2 (Plan.chans P).length c2, .slice a3 (Plan.pairs P).length c3], .int .i64 a] W (NoB W)) := ⟨fun W h => into_out W _ P a (HV.out.below h) hq⟩
  clear hp hv
  go_enter Try.func16, Try.ntmps16
  go_wp2_with fail
  rw [← HW.out]
  refine (K1.out _ hb1.out.1).mono ?_
  rintro e w2 ⟨rfl, b2⟩
  have B2 := Aside.mk (And.intro (bel_then hb1.out.1 b2) ((b2.block _ (lt_of_block hb1.out.2)).trans hb1.out.2))
  clear b2
  obtain ⟨g0, g1, g2, g3, g4⟩ := box5 B2.out.2
  go_wp2_with fail
  refine (K2.out _ B2.out.1).mono ?_
  rintro e w3 ⟨rfl, b3⟩
  have B3 := Aside.mk (bel_then B2.out.1 b3)
  clear b3 g0 g1 g2 g3 g4
  go_wp2_with fail
  go_ret2
  exact ⟨rfl, B3.out⟩

set_option maxHeartbeats 1600000 in
theorem apart_yes (w : World) (v : Value) (P : Plan) (a : Nat) (b : Int) (hv : PlanV w v P) (ha : a < (Plan.parts P).length) (hN : (Plan.parts P).length ≤ 65535) :
    Calls Try.prog 16 #[v, .int .i64 (a : Int), .int .i64 b] w (fun e w' => (inB (Plan.parts P).length b = false → NoA w e w') ∧ (∀ c : Nat, b = (c : Int) → c < (Plan.parts P).length → YesA w (apartB (Plan.parts P).length (Plan.chans P) a c) e w')) := by
  have HV := Aside.mk hv
  obtain ⟨a0, c0, a1, c1, a2, c2, a3, c3, rfl, hp, hlen⟩ := hv.open_
  obtain ⟨W1, HW⟩ : ∃ W1, Aside (W1 = w.alloc (.cells #[.int .u16 (Plan.frame P), .slice a0 (Plan.cores P).length c0, .slice a1 (Plan.parts P).length c1, .slice a2 (Plan.chans P).length c2, .slice a3 (Plan.pairs P).length c3] 28)) := ⟨_, ⟨rfl⟩⟩
  have hb1 : Aside (Below w.heap.size w W1 ∧ W1.heap[w.heap.size]? = some (.cells #[.int .u16 (Plan.frame P), .slice a0 (Plan.cores P).length c0, .slice a1 (Plan.parts P).length c1, .slice a2 (Plan.chans P).length c2, .slice a3 (Plan.pairs P).length c3] 28 (0, 0))) := ⟨by rw [HW.out]; exact ⟨bel_one _ _, heap_alloc_new _ _⟩⟩
  obtain ⟨i0, i1⟩ := hp.frame
  obtain ⟨n, hn⟩ : ∃ n, (Plan.parts P).length = n := ⟨_, rfl⟩
  obtain ⟨bb, HBB⟩ : ∃ bb, Aside (inB n b = bb) := ⟨_, ⟨rfl⟩⟩
  obtain ⟨LO, hLO⟩ : ∃ LO, outL n (Plan.chans P) a = LO := ⟨_, rfl⟩
  obtain ⟨LI, hLI⟩ : ∃ LI, intoL n (Plan.chans P) a = LI := ⟨_, rfl⟩
  have HLO : Aside (LO.length = n) := ⟨by rw [← hLO]; exact outL_len _ _ _⟩
  have HLI : Aside (LI.length = n) := ⟨by rw [← hLI]; exact intoL_len _ _ _⟩
  have HAP : Aside (∀ c : Nat, apartB n (Plan.chans P) a c = (!LO.getD c false && !LI.getD c false)) := ⟨fun c => by rw [apartB, hLO, hLI]⟩
  have K1 : Aside (∀ W, Below w.heap.size w W → Calls Try.prog 15 #[.agg #[.int .u16 (Plan.frame P), .slice a0 (Plan.cores P).length c0, .slice a1 (Plan.parts P).length c1, .slice a2 (Plan.chans P).length c2, .slice a3 (Plan.pairs P).length c3], .int .i64 (a : Int)] W (SomeB W LO)) := ⟨fun W h => by rw [← hLO, ← hn]; exact outof_in W _ P a (HV.out.below h) ha hN⟩
  have K2 : Aside (∀ W, Below w.heap.size w W → Calls Try.prog 12 #[.agg #[.int .u16 (Plan.frame P), .slice a0 (Plan.cores P).length c0, .slice a1 (Plan.parts P).length c1, .slice a2 (Plan.chans P).length c2, .slice a3 (Plan.pairs P).length c3], .int .i64 (a : Int)] W (SomeB W LI)) := ⟨fun W h => by rw [← hLI, ← hn]; exact into_in W _ P a (HV.out.below h) ha hN⟩
  have K3 : Aside (∀ W, Below w.heap.size w W → Calls Try.prog 29 #[.agg #[.int .u16 (Plan.frame P), .slice a0 (Plan.cores P).length c0, .slice a1 (Plan.parts P).length c1, .slice a2 (Plan.chans P).length c2, .slice a3 (Plan.pairs P).length c3], .int .i64 b] W fun e w' => e = .returned (.bool bb) ∧ Below W.heap.size W w') := ⟨fun W h => by
    rw [← HBB.out, ← hn]; exact is_any W _ P b (HV.out.below h)⟩
  rw [hn] at hb1 HW K1 K2 K3
  rw [hn]
  clear hp hv hn hLO hLI HV
  go_enter Try.func16, Try.ntmps16
  go_wp2_with fail
  rw [← HW.out]
  refine (K1.out _ hb1.out.1).mono ?_
  rintro e w2 ⟨v1, rfl, hv1, b2⟩
  have B2 := Aside.mk (And.intro (bel_then hb1.out.1 b2) (And.intro ((b2.block _ (lt_of_block hb1.out.2)).trans hb1.out.2) hv1))
  clear b2 hv1
  obtain ⟨g0, g1, g2, g3, g4⟩ := box5 B2.out.2.1
  go_wp2_with fail
  refine (K2.out _ B2.out.1).mono ?_
  rintro e w3 ⟨v2, rfl, hv2, b3⟩
  have B3 := Aside.mk (And.intro (bel_then B2.out.1 b3) (And.intro ((b3.block _ (lt_of_block B2.out.2.1)).trans B2.out.2.1) (And.intro (B2.out.2.2.below b3) hv2)))
  clear b3 hv2 g0 g1 g2 g3 g4
  obtain ⟨g0, g1, g2, g3, g4⟩ := box5 B3.out.2.1
  go_wp2_with fail
  refine (K3.out _ B3.out.1).mono ?_
  rintro e w4 ⟨rfl, b4⟩
  have B4 := Aside.mk (And.intro (bel_then B3.out.1 b4) (And.intro (B3.out.2.2.1.below b4) (B3.out.2.2.2.below b4)))
  clear b4 g0 g1 g2 g3 g4
  cases bb
  · go_wp2_with fail
    go_ret2
    refine ⟨fun _ => ⟨rfl, B4.out.1⟩, fun c hc hcl => ?_⟩
    have := HBB.out
    rw [hc] at this
    have h2 := inB_iff.2 (⟨by omega, by omega⟩ : 0 ≤ (c : Int) ∧ (c : Int) < (n : Int))
    rw [this] at h2; cases h2
  · obtain ⟨h0, h1⟩ := inB_iff.1 HBB.out
    obtain ⟨c, rfl⟩ : ∃ c : Nat, b = (c : Int) := ⟨_, (Int.toNat_of_nonneg h0).symm⟩
    obtain ⟨ad1, c1', rfl, x1⟩ := B4.out.2.1.at_ c (by rw [HLO.out]; omega)
    obtain ⟨ad2, c2', rfl, x2⟩ := B4.out.2.2.at_ c (by rw [HLI.out]; omega)
    have hl1 : (c : Int) < (LO.length : Int) := by rw [HLO.out]; exact h1
    have hl2 : (c : Int) < (LI.length : Int) := by rw [HLI.out]; exact h1
    have hA := HAP.out c
    obtain ⟨y1, e1⟩ : ∃ y, LO.getD c false = y := ⟨_, rfl⟩
    obtain ⟨y2, e2⟩ : ∃ y, LI.getD c false = y := ⟨_, rfl⟩
    rw [e1] at x1 hA
    rw [e2] at x2 hA
    have HA := Aside.mk hA
    clear e1 e2 hA
    cases y1
    all_goals
      go_wp2_with fail
      go_ret2
      refine ⟨(fun h => absurd (HBB.out.symm.trans h) (by decide)), fun d hd _ => ?_⟩
      obtain rfl : c = d := by omega
      exact ⟨by rw [HA.out]; rfl, B4.out.1⟩

set_option maxHeartbeats 800000 in
theorem rpath_any (w : World) (v : Value) (P : Plan) (a b : Nat) (hv : PlanV w v P) (ha : a < (Plan.parts P).length) (hb : b < (Plan.parts P).length) (hN : (Plan.parts P).length ≤ 65535) :
    Calls Try.prog 18 #[v, .int .i64 (a : Int), .int .i64 (b : Int)] w (fun e w' => e = .returned (.bool ((intoL (Plan.parts P).length (Plan.chans P) b).getD a false)) ∧ Below w.heap.size w w') := by
  have HV := Aside.mk hv
  obtain ⟨a0, c0, a1, c1, a2, c2, a3, c3, rfl, hp, hlen⟩ := hv.open_
  obtain ⟨W1, HW⟩ : ∃ W1, Aside (W1 = w.alloc (.cells #[.int .u16 (Plan.frame P), .slice a0 (Plan.cores P).length c0, .slice a1 (Plan.parts P).length c1, .slice a2 (Plan.chans P).length c2, .slice a3 (Plan.pairs P).length c3] 28)) := ⟨_, ⟨rfl⟩⟩
  have hb1 : Aside (Below w.heap.size w W1 ∧ W1.heap[w.heap.size]? = some (.cells #[.int .u16 (Plan.frame P), .slice a0 (Plan.cores P).length c0, .slice a1 (Plan.parts P).length c1, .slice a2 (Plan.chans P).length c2, .slice a3 (Plan.pairs P).length c3] 28 (0, 0))) := ⟨by rw [HW.out]; exact ⟨bel_one _ _, heap_alloc_new _ _⟩⟩
  have K1 : Aside (∀ W, Below w.heap.size w W → Calls Try.prog 13 #[.agg #[.int .u16 (Plan.frame P), .slice a0 (Plan.cores P).length c0, .slice a1 (Plan.parts P).length c1, .slice a2 (Plan.chans P).length c2, .slice a3 (Plan.pairs P).length c3], .int .i64 (b : Int)] W (SomeB W (intoL (Plan.parts P).length (Plan.chans P) b))) := ⟨fun W h => rinto_in W _ P b (HV.out.below h) hb hN⟩
  have HL : Aside (a < (intoL (Plan.parts P).length (Plan.chans P) b).length) := ⟨by rw [intoL_len]; exact ha⟩
  generalize intoL (Plan.parts P).length (Plan.chans P) b = L at *
  clear hp hv
  go_enter Try.func18, Try.ntmps18
  go_wp2_with fail
  rw [← HW.out]
  refine (K1.out _ hb1.out.1).mono ?_
  rintro e w2 ⟨v1, rfl, hv1, b2⟩
  have B2 := Aside.mk (bel_then hb1.out.1 b2)
  obtain ⟨ad1, c1', rfl, x1⟩ := hv1.at_ a HL.out
  have hl1 : (a : Int) < (L.length : Int) := by have := HL.out; omega
  clear b2 hv1
  go_wp2_with fail
  go_ret
  exact ⟨rfl, B2.out⟩
end Go.Proofs.Ytflkfjjfhhapkaa
