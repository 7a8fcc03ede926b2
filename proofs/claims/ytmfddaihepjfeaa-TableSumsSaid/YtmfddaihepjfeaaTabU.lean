/- The table's laws: the reference's gap. -/
import Derived.Test.YtmfddaihepjfeaaTabS
import Derived.Test.YtmfddaihepjfeaaTabT
namespace Go.Proofs.Ytmfddaihepjfeaa
open Go.RowKit
set_option linter.unusedVariables false
set_option linter.unusedSimpArgs false

set_option maxHeartbeats 3200000 in
set_option maxRecDepth 100000 in
theorem rgap_any (w : World) (v : Value) (P : Plan) (part : Int) (n : Nat) (hn : Plan.frame P = (n : Int)) (hv : PlanV w v P) :
    Calls Try.prog 23 #[v, .int .i64 part] w fun e w' => e = .returned (.int .i64 (maxN (runL (servedB (Plan.cores P) part) n) n : Nat)) ∧ Below w.heap.size w w' := by
  have hv0 := hv
  obtain ⟨a0, c0, a1, c1, a2, c2, a3, c3, rfl, hp, hlen⟩ := hv.open_
  obtain ⟨f0, f1⟩ := hp.frame
  have HV := Aside.mk hv0
  rw [hn] at f0 f1 HV
  rw [hn]
  clear hp hv hv0 hn
  obtain ⟨s, hs⟩ : ∃ s, Aside (servedB (Plan.cores P) part = s) := ⟨_, ⟨rfl⟩⟩
  have KS : Aside (∀ W t, Below w.heap.size w W → Calls Try.prog 35 #[.agg #[.int .u16 (n : Int), .slice a0 (Plan.cores P).length c0, .slice a1 (Plan.parts P).length c1, .slice a2 (Plan.chans P).length c2, .slice a3 (Plan.pairs P).length c3], .int .i64 part, .int .i64 ((t : Nat) : Int)] W fun e w' => e = .returned (.bool (s t)) ∧ Below W.heap.size W w') := ⟨fun W t h => by
    rw [← hs.out]; exact served_any W _ P part t (HV.out.below h)⟩
  rw [hs.out]
  obtain ⟨W1, HW⟩ : ∃ W1, Aside (W1 = w.alloc (.cells #[.int .u16 (n : Int), .slice a0 (Plan.cores P).length c0, .slice a1 (Plan.parts P).length c1, .slice a2 (Plan.chans P).length c2, .slice a3 (Plan.pairs P).length c3] 28)) := ⟨_, ⟨rfl⟩⟩
  have hb1 : Aside (Below w.heap.size w W1 ∧ W1.heap[w.heap.size]? = some (.cells #[.int .u16 (n : Int), .slice a0 (Plan.cores P).length c0, .slice a1 (Plan.parts P).length c1, .slice a2 (Plan.chans P).length c2, .slice a3 (Plan.pairs P).length c3] 28 (0, 0))) := ⟨by rw [HW.out]; exact ⟨bel_one _ _, heap_alloc_new _ _⟩⟩
  go_enter Try.func23, Try.ntmps23
  go_wp2_with fail
  rw [← HW.out]
  go_loopw [5, 6] (fun z i wr => ∃ t : Nat, t ≤ n ∧ i = .int .i64 t ∧ z = .int .i64 (maxN (runL s n) t : Nat) ∧ Aside (Below W1.heap.size W1 wr)) (fun _ i _ => n - (intOf i).toNat)
  case atStart => exact ⟨0, by omega, rfl, rfl, ⟨Below.refl _ _⟩⟩
  case round =>
    obtain ⟨t, ht, rfl, rfl, T⟩ := hrel
    obtain ⟨g0, g1, g2, g3, g4⟩ := box5 ((T.out.block _ (lt_of_block hb1.out.2)).trans hb1.out.2)
    clear g1 g2 g3 g4
    by_cases htn : t < n
    · go_wp2_with fail
      clear g0
      go_loopw [7] (fun i wq => ∃ k : Nat, k ≤ n ∧ i = .int .i64 k ∧ Aside (Below W1.heap.size W1 wq ∧ ∀ j, j < k → s ((t + j) % n) = false)) (fun i _ => n - (intOf i).toNat)
      case atStart => exact ⟨0, by omega, rfl, ⟨T.out, by omega⟩⟩
      case round =>
        obtain ⟨k, hk, rfl, U⟩ := hrel
        have XB := Aside.mk ((U.out.1.block _ (lt_of_block hb1.out.2)).trans hb1.out.2)
        obtain ⟨g0, g1, g2, g3, g4⟩ := box5 XB.out
        have n0 := lt_of_block XB.out
        have BW := Aside.mk (bel_drew (bel_then hb1.out.1 U.out.1))
        by_cases hkn : k < n
        · have hkn' : (k : Int) < (n : Int) := by omega
          have hsum : IntKind.i64.wrap ((t : Int) + (k : Int)) = (t : Int) + (k : Int) := IntWalk.i64_in _ (by omega)
          have hwn : IntKind.i64.wrap (n : Int) = (n : Int) := IntWalk.i64_in _ (by omega)
          have hd : decide ((k : Int) < (n : Int)) = true := by simp; omega
          have hd2 : decide (k < n) = true := by simp; omega
          have hne : ((n : Int) == 0) = false := by simp; omega
          obtain ⟨m, hm⟩ : ∃ m, Aside ((t + k) % n = m) := ⟨_, ⟨rfl⟩⟩
          obtain ⟨b, hb⟩ : ∃ b, Aside (s m = b) := ⟨_, ⟨rfl⟩⟩
          have hmod : ((t : Int) + (k : Int)).tmod (n : Int) = (m : Int) := by
            rw [Int.tmod_eq_emod_of_nonneg (by omega), ← hm.out]; simp
          have hmod2 : ((t : Int) + (k : Int)) % (n : Int) = (m : Int) := by
            rw [← hm.out]; simp
          have hne2 : ¬ ((n : Int) = 0) := by omega
          have hne3 : ¬ (n = 0) := by omega
          have hpos : (0 : Int) < (n : Int) := by omega
          have hsum0 : (0 : Int) ≤ (t : Int) + (k : Int) := by omega
          have K := KS.out wr.drew m BW.out
          rw [hb.out] at K
          have K := Aside.mk K
          go_wp2_with fail
          go_region_held3 (fun w' => w'.cell? ⟨w.heap.size, 0, none⟩ = some (.int .u16 (n : Int)) ∧ w'.cell? ⟨w.heap.size, 1, none⟩ = some (.slice a0 (Plan.cores P).length c0) ∧ w'.cell? ⟨w.heap.size, 2, none⟩ = some (.slice a1 (Plan.parts P).length c1) ∧ w'.cell? ⟨w.heap.size, 3, none⟩ = some (.slice a2 (Plan.chans P).length c2) ∧ w'.cell? ⟨w.heap.size, 4, none⟩ = some (.slice a3 (Plan.pairs P).length c3)) (first | go_keep | (exact ⟨k1 _ _ (by assumption), k1 _ _ (by assumption), k1 _ _ (by assumption), k1 _ _ (by assumption), k1 _ _ (by assumption)⟩))
            (first
              | (go_at_call 35; refine K.out.mono ?_; rintro e w3 ⟨rfl, b3⟩; have B3 := (bel_then (bel_drew U.out.1) b3); have k1 := (fun (a : Addr) (v : Value) (h : World.cell? _ a = some v) => (Kept.of_below (S := fun _ => False) b3).cell h id)))
          all_goals
            have B4 := Aside.mk B3
            have M4 := Aside.mk hmod
            clear k1 B3 hmod hmod2 hne2 hne3 hpos hsum0 hd hd2 hne hsum hwn
            cases b
            · clear g0 g1 g2 g3 g4
              go_wp2_with fail
              go_roundw
              case rel => exact ⟨k + 1, by omega, by go_num, ⟨B4.out, fun j hj => by
                rcases Nat.lt_succ_iff_lt_or_eq.1 hj with q | rfl
                · exact U.out.2 j q
                · rw [hm.out]; exact hb.out⟩⟩
              case measure => simp [intOf]; omega
            · clear g0 g1 g2 g3 g4 n0
              have hrl : Aside (runL s n t = k) := ⟨runL_eq (by omega) U.out.2 (.inr (by rw [hm.out]; exact hb.out))⟩
              have hmx : Aside (maxN (runL s n) (t + 1) = if maxN (runL s n) t < k then k else maxN (runL s n) t) := ⟨by rw [maxN, hrl.out]⟩
              obtain ⟨mx, hmm⟩ : ∃ mx, Aside (maxN (runL s n) t = mx) := ⟨_, ⟨rfl⟩⟩
              rw [hmm.out] at hmx ⊢
              by_cases hlt : mx < k
              · have HX : Aside (maxN (runL s n) (t + 1) = k) := ⟨by rw [hmx.out, if_pos hlt]⟩
                go_wp2_with fail
                go_roundw
                case rel => exact ⟨t + 1, by omega, by go_num, by rw [HX.out], ⟨B4.out⟩⟩
                case measure => simp [intOf]; omega
              · have HX : Aside (maxN (runL s n) (t + 1) = mx) := ⟨by rw [hmx.out, if_neg hlt]⟩
                go_wp2_with fail
                go_roundw
                case rel => exact ⟨t + 1, by omega, by go_num, by rw [HX.out], ⟨B4.out⟩⟩
                case measure => simp [intOf]; omega
        · obtain rfl : k = n := by omega
          clear g1 g2 g3 g4 n0
          have hrl : Aside (runL s k t = k) := ⟨runL_eq (by omega) U.out.2 (.inl rfl)⟩
          have hmx : Aside (maxN (runL s k) (t + 1) = if maxN (runL s k) t < k then k else maxN (runL s k) t) := ⟨by rw [maxN, hrl.out]⟩
          obtain ⟨mx, hmm⟩ : ∃ mx, Aside (maxN (runL s k) t = mx) := ⟨_, ⟨rfl⟩⟩
          rw [hmm.out] at hmx ⊢
          by_cases hlt : mx < k
          · have HX : Aside (maxN (runL s k) (t + 1) = k) := ⟨by rw [hmx.out, if_pos hlt]⟩
            go_wp2_with fail
            go_quiet (fail)
            go_wp2_with fail
            go_roundw
            case rel => exact ⟨t + 1, by omega, by go_num, by rw [HX.out], ⟨below_then U.out.1 (below_drewN _ _)⟩⟩
            case measure => simp [intOf]; omega
          · have HX : Aside (maxN (runL s k) (t + 1) = mx) := ⟨by rw [hmx.out, if_neg hlt]⟩
            go_wp2_with fail
            go_quiet (fail)
            go_wp2_with fail
            go_roundw
            case rel => exact ⟨t + 1, by omega, by go_num, by rw [HX.out], ⟨below_then U.out.1 (below_drewN _ _)⟩⟩
            case measure => simp [intOf]; omega
    · obtain rfl : t = n := by omega
      go_wp2_with fail
      go_ret
      exact ⟨rfl, bel_then hb1.out.1 T.out⟩
end Go.Proofs.Ytmfddaihepjfeaa
