/- Layer 2: the law BlobWhys. -/
import Derived.Test.YtdfbiofmfjmkaaaDoorBlbT
import Derived.Test.YtdfbiofmfjmkaaaDoorRds
import Derived.Test.YtdfbiofmfjmkaaaDoorKitR
namespace Go.Proofs.YtdfbiofmfjmkaaaDoor
open Go.RowKit
set_option linter.unusedVariables false
set_option linter.unusedSimpArgs false

/-- What the law's error is made of: a number alone, or a Failure. -/
def WBase (w : World) (bare : Bool) (v : Value) (n a : Int) : Prop := (bare = true ∧ v = .iface 37 (.int .i64 n) ∧ a = 0) ∨ (bare = false ∧ ∃ f, v = .iface 54 (.pointer (some ⟨f, 0, none⟩)) ∧ w.heap[f]? = some (.cells #[.int .i64 a, .int .i64 n] 56 (0, 0)))
theorem WBase.below {w w' : World} {bare : Bool} {v : Value} {n a : Int} (h : WBase w bare v n a) (k : Below w.heap.size w w') : WBase w' bare v n a := by
  rcases h with h | ⟨h1, f, h2, h3⟩
  · exact .inl h
  · exact .inr ⟨h1, f, h2, hup k h3⟩
theorem WBase.base {w : World} {bare : Bool} {v : Value} {n a : Int} (h : WBase w bare v n a) : Base w v n := by
  rcases h with ⟨_, h, _⟩ | ⟨_, f, h2, h3⟩
  · exact .inl h
  · exact .inr ⟨f, a, h2, h3⟩
theorem WBase.why {w : World} {bare : Bool} {v : Value} {n a : Int} (h : WBase w bare v n a) (k : Nat) (hg : ETy w) : Calls Tryd.prog 17 #[wrN k v] w (WhyP w n a) := by
  rcases h with ⟨_, rfl, rfl⟩ | ⟨_, f, rfl, h3⟩
  · exact why_num k w n hg
  · exact why_fail k w f a n h3 hg
set_option maxHeartbeats 4000000 in
set_option maxRecDepth 100000 in
theorem whys_any (w : World) (n a : Int) (d : Int) (bare : Bool) (hg : ETy w) (d0 : 0 ≤ d) (d1 : d ≤ 255) :
    Calls Tryd.prog 7 #[.int .i64 n, .int .i64 a, .agg #[.int .u8 d, .bool bare]] w fun e w' => e = .returned (.bool true) ∧ Below w.heap.size w w' := by
  have HG := Aside.mk hg
  obtain ⟨k, rfl⟩ := Int.eq_ofNat_of_zero_le d0
  have hk : IntKind.i64.wrap (k : Int) = (k : Int) := IntWalk.i64_in _ (by omega)
  have HX := Aside.mk (xor_ne n)
  obtain ⟨W1, HW⟩ : ∃ W1, Aside (W1 = w.alloc (.cells #[.int .u8 (k : Int), .bool bare] 53)) := ⟨_, ⟨rfl⟩⟩
  have H1 : Aside (Below w.heap.size w W1 ∧ W1.heap[w.heap.size]? = some (.cells #[.int .u8 (k : Int), .bool bare] 53 (0, 0))) := ⟨by rw [HW.out]; exact ⟨bel_one _ _, heap_alloc_new w _⟩⟩
  obtain ⟨x0, x1⟩ := box2 H1.out.2
  clear hg
  go_enter Tryd.func7, Tryd.ntmps7
  go_upto_region 1 with (fail)
  rw [← HW.out]
  go_quiet (fail)
  obtain ⟨W2, HW2⟩ : ∃ W2, Aside (W2 = W1.drewN nq) := ⟨_, ⟨rfl⟩⟩
  rw [← HW2.out]
  have B2 : Aside (Below w.heap.size w W2) := ⟨by rw [HW2.out]; exact bel_then H1.out.1 (below_drewN _ _)⟩
  clear x0 x1
  go_upto_if 28 with (fail)
  go_cut [1, 10] (fun p q wc => ∃ a' v, p = .int .i64 a' ∧ v = q ∧ Aside (WBase wc bare v n a' ∧ Below w.heap.size w wc))
  case first =>
    cases bare
    · go_wp2_with fail
      go_meet
      case rel => exact ⟨_, _, rfl, rfl, ⟨.inr ⟨rfl, _, rfl, heap_alloc_new W2 _⟩, bel_then B2.out (bel_one _ _)⟩⟩
    · go_wp2_with fail
      go_meet
      case rel => exact ⟨_, _, rfl, rfl, ⟨.inl ⟨rfl, rfl, rfl⟩, bel_then B2.out (bel_one _ _)⟩⟩
  case rest =>
    obtain ⟨a', v, rfl, rfl, hC⟩ := hcut
    go_wp2_with fail
    go_loopg [10, 11] k (fun g s10 s11 W => ∃ i, i ≤ k ∧ g = k - i ∧ s10 = wrN i v ∧ s11 = .int .i64 i ∧ wc = W)
    case atStart => exact ⟨0, by omega, rfl, rfl, rfl, rfl⟩
    case round =>
      obtain ⟨i, hi, rfl, rfl, rfl, rfl⟩ := hrel
      by_cases hlt : i < k
      · obtain ⟨t, x, hx⟩ := hC.out.1.base.iface i
        rw [hx]
        go_wp2_with fail
        go_roundg (k - (i + 1))
        case measure => omega
        case rel => exact ⟨i + 1, by omega, rfl, by rw [wrN, hx], by go_num, rfl⟩
      · obtain rfl : i = k := by omega
        have KW := Aside.mk (hC.out.1.why i (HG.out.below hC.out.2))
        have KI : Aside (∀ W m, Below wc.heap.size wc W → Calls Tryd.prog 23 #[wrN i v, .int .i64 m] W fun e w' => e = .returned (.bool (decide (n = m))) ∧ Below W.heap.size W w') := ⟨fun W m h => is_any i W v n m (hC.out.1.base.below h)⟩
        obtain ⟨t, x, hx⟩ := hC.out.1.base.iface i
        rw [hx] at KW KI ⊢
        have hxn : decide (n = Go.bits .xor .i64 n 1) = false := decide_eq_false (fun e => HX.out e.symm)
        clear hlt hi hx
        go_wp2_with fail
        refine KW.out.mono ?_
        rintro e w2 ⟨rfl, b2⟩
        have Q2 := Aside.mk (And.intro b2 (bel_then hC.out.2 b2))
        clear b2
        go_wp2_with fail
        refine (why_any w2 none .nilIface rfl (HG.out.below Q2.out.2)).mono ?_
        rintro e w3 ⟨rfl, b3⟩
        have Q3 := Aside.mk (And.intro (bel_then Q2.out.1 b3) (bel_then Q2.out.2 b3))
        clear b3
        simp only [numQ, atQ]
        go_wp2_with fail
        refine (why_wnil w3 (HG.out.below Q3.out.2)).mono ?_
        rintro e w4 ⟨rfl, b4⟩
        have Q4 := Aside.mk (And.intro (bel_then Q3.out.1 b4) (bel_then Q3.out.2 b4))
        clear b4
        go_wp2_with fail
        refine (awake_any w4 (HG.out.below Q4.out.2)).mono ?_
        rintro e w5 ⟨rfl, b5⟩
        have Q5 := Aside.mk (And.intro (bel_then Q4.out.1 b5) (bel_then Q4.out.2 b5))
        clear b5
        go_wp2_with fail
        refine (KI.out _ n Q5.out.1).mono ?_
        rintro e w6 ⟨rfl, b6⟩
        have Q6 := Aside.mk (And.intro (bel_then Q5.out.1 b6) (bel_then Q5.out.2 b6))
        clear b6
        go_wp2_with fail
        refine (KI.out _ _ Q6.out.1).mono ?_
        rintro e w7 ⟨rfl, b7⟩
        have Q7 := Aside.mk (And.intro (bel_then Q6.out.1 b7) (bel_then Q6.out.2 b7))
        clear b7
        rw [hxn]
        go_wp2_with fail
        refine (is_nil _ n).mono ?_
        rintro e w8 ⟨rfl, rfl⟩
        go_wp2_with fail
        go_ret
        exact ⟨rfl, Q7.out.2⟩
theorem deep_arr {w : World} {cs : Array Value} {u : rdA53} (h : rd53.R w cs.toList u) : ∃ (d : Int) (b : Bool), cs = #[.int .u8 d, .bool b] ∧ 0 ≤ d ∧ d ≤ 255 := by
  obtain ⟨d, b, _⟩ := u
  obtain ⟨c1, _, e, ⟨rfl, w1⟩, c2, _, rfl, rfl, rfl⟩ := h
  have hb := bounds_u8 w1
  refine ⟨d, b, ?_, hb.1, hb.2⟩
  obtain ⟨L⟩ := cs
  simp at e
  rw [e]
end Go.Proofs.YtdfbiofmfjmkaaaDoor