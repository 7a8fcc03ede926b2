/- Layer 4's laws: RulesOverlaps. -/
import Derived.Test.YtpcjjmjmigibhaaDoorLwD
namespace Go.Proofs.YtpcjjmjmigibhaaDoor
open Go.RowKit
set_option linter.unusedVariables false
set_option linter.unusedSimpArgs false

/-- Has one of the first k ticks of a window another window? -/
def bothB (v x : Win) (k : Nat) : Bool := (List.range k).any fun i => hasS x (Win.s v + (i : Int))
theorem bothB_succ (v x : Win) (k : Nat) : bothB v x (k + 1) = (bothB v x k || hasS x (Win.s v + (k : Int))) := by
  rw [bothB, List.range_succ, List.any_append]
  simp [bothB]
theorem both_overlap (v x : Win) (okv : Win.Ok v) (ok : Win.Ok x) (n : Nat) (hn : Win.l v = (n : Int)) : bothB v x n = overlapS v x := by
  have h1 := okv.s
  have h2 := ok.s
  have h3 := ok.l
  rw [Bool.eq_iff_iff, overlap_iff, bothB, List.any_eq_true]
  unfold endS
  constructor
  · rintro ⟨i, hi, h⟩
    rw [List.mem_range] at hi
    rw [hasS_iff] at h
    omega
  · rintro ⟨a, b, c, d⟩
    by_cases h : Win.s v ≤ Win.s x
    · refine ⟨(Win.s x - Win.s v).toNat, List.mem_range.2 (by omega), ?_⟩
      rw [hasS_iff]
      omega
    · refine ⟨0, List.mem_range.2 (by omega), ?_⟩
      rw [hasS_iff]
      simp only [Int.ofNat_zero]
      omega
set_option maxHeartbeats 6400000 in
set_option maxRecDepth 100000 in
theorem roverlaps_any (w : World) (v x : Win) (okv : Win.Ok v) (ok : Win.Ok x) (hg : ETy w) : Calls Tryd.prog 5 #[Win.val v, Win.val x] w fun e w' => e = .returned (.bool true) ∧ Below w.heap.size w w' := by
  obtain ⟨W1, HW⟩ : ∃ W1, Aside (W1 = (w.alloc (.cells #[.int .u16 (Win.s v), .int .u16 (Win.l v), .int .u8 (Win.p v), .int .u8 (Win.g v)] 39)).alloc (.cells #[.int .u16 (Win.s x), .int .u16 (Win.l x), .int .u8 (Win.p x), .int .u8 (Win.g x)] 39)) := ⟨_, ⟨rfl⟩⟩
  have B1 : Aside (Below w.heap.size w W1) := ⟨by rw [HW.out]; exact lthen (lone _ _) (lone _ _)⟩
  have HF : Aside (W1.heap[w.heap.size]? = some (.cells #[.int .u16 (Win.s v), .int .u16 (Win.l v), .int .u8 (Win.p v), .int .u8 (Win.g v)] 39 (0, 0))) := ⟨by rw [HW.out]; exact lheap_up (heap_alloc_new _ _)⟩
  have HE : Aside (W1.heap[w.heap.size + 1]? = some (.cells #[.int .u16 (Win.s x), .int .u16 (Win.l x), .int .u8 (Win.p x), .int .u8 (Win.g x)] 39 (0, 0))) := ⟨by rw [HW.out]; exact lheap_top _ _ _ (by simp)⟩
  have KA := Aside.mk (fun W (h : Below W1.heap.size W1 W) => awake_any W (hg.below (lthen B1.out h)))
  have KO := Aside.mk (fun W => poverlap_any v x okv ok W)
  obtain ⟨n, hn⟩ : ∃ n : Nat, Win.l v = (n : Int) := ⟨(Win.l v).toNat, by have := okv.l; omega⟩
  have HBO := Aside.mk (both_overlap v x okv ok n hn)
  have HBS : Aside (∀ k, bothB v x (k + 1) = (bothB v x k || (decide (Win.s x ≤ Win.s v + (k : Int)) && decide (Win.s v + (k : Int) < Win.s x + Win.l x)))) := ⟨fun k => bothB_succ v x k⟩
  have HB0 : Aside (bothB v x 0 = false) := ⟨rfl⟩
  obtain ⟨a1, a2⟩ := okv.s
  obtain ⟨a3, a4⟩ := okv.l
  obtain ⟨a5, a6⟩ := ok.s
  obtain ⟨a7, a8⟩ := ok.l
  rw [hn] at HF HW a3 a4
  generalize bothB v x = bb at *
  generalize overlapS v x = ob at *
  unfold Win.val at KO ⊢
  rw [hn] at KO ⊢
  generalize Win.s v = s at *
  generalize Win.p v = p at *
  generalize Win.g v = g at *
  generalize Win.s x = s' at *
  generalize Win.l x = l' at *
  generalize Win.p x = p' at *
  generalize Win.g x = g' at *
  obtain ⟨f0, f1, f2, f3⟩ := lbox4 HF.out
  obtain ⟨e0, e1, e2, e3⟩ := lbox4 HE.out
  have w1 : IntKind.i64.wrap s = s := IntWalk.i64_in _ (by omega)
  have w2 : IntKind.i64.wrap s' = s' := IntWalk.i64_in _ (by omega)
  have w3 : IntKind.i64.wrap l' = l' := IntWalk.i64_in _ (by omega)
  have w4 : IntKind.i64.wrap (s' + l') = s' + l' := IntWalk.i64_in _ (by omega)
  have w5 : IntKind.i64.wrap (n : Int) = (n : Int) := IntWalk.i64_in _ (by omega)
  have w6 : IntKind.i64.wrap (s + (n : Int)) = s + (n : Int) := IntWalk.i64_in _ (by omega)
  clear hg okv ok hn
  by_cases h1 : (300 : Int) < (n : Int)
  · go_enter Tryd.func5, Tryd.ntmps5
    go_upto_region 1 with (fail)
    rw [← HW.out]
    go_wp2_with fail
    refine (KA.out _ (Below.refl _ _)).mono ?_
    rintro e w2 ⟨rfl, b2⟩
    have B2 := Aside.mk (lthen B1.out b2)
    clear b2 e0 e1 e2 e3 f0 f1 f2 f3
    go_wp2_with fail
    go_ret
    exact ⟨rfl, B2.out⟩
  · by_cases h2 : (300 : Int) < l'
    · go_enter Tryd.func5, Tryd.ntmps5
      go_upto_region 1 with (fail)
      rw [← HW.out]
      go_wp2_with fail
      refine (KA.out _ (Below.refl _ _)).mono ?_
      rintro e w2 ⟨rfl, b2⟩
      have B2 := Aside.mk (lthen B1.out b2)
      clear b2 e0 e1 e2 e3 f0 f1 f2 f3
      go_wp2_with fail
      go_ret
      exact ⟨rfl, B2.out⟩
    · go_enter Tryd.func5, Tryd.ntmps5
      go_upto_region 1 with (fail)
      rw [← HW.out]
      go_wp2_with fail
      go_loopg [5, 6] n (fun q s5 i wr => ∃ k : Nat, k ≤ n ∧ q = n - k ∧ i = .int .i64 (s + (k : Int)) ∧ s5 = .bool (bb k) ∧ W1 = wr)
      case atStart => exact ⟨0, by omega, rfl, by simp, by rw [HB0.out], rfl⟩
      case round =>
        obtain ⟨k, hk, rfl, rfl, rfl, rfl⟩ := hrel
        have hs := HBS.out k
        by_cases hkl : k < n
        · have h3 : s + (k : Int) < s + (n : Int) := by omega
          have w7 : IntKind.i64.wrap (s + (k : Int) + 1) = s + (k : Int) + 1 := IntWalk.i64_in _ (by omega)
          have h9 : s + (k : Int) + 1 = s + ((k + 1 : Nat) : Int) := by omega
          have H9 := Aside.mk h9
          clear h9
          obtain ⟨bk, hbk⟩ : ∃ bk, bb k = bk := ⟨_, rfl⟩
          obtain ⟨bn, hbn⟩ : ∃ bn, bb (k + 1) = bn := ⟨_, rfl⟩
          rw [hbk, hbn] at hs
          rw [hbk]
          have HN := Aside.mk hbn
          clear hbk hbn
          cases bk
          · by_cases h4 : s' ≤ s + (k : Int)
            · by_cases h5 : s + (k : Int) < s' + l'
              · have HS : Aside (bn = true) := ⟨by rw [hs]; simp [h4, h5]⟩
                clear hs
                go_wp2_with fail
                go_roundg (n - (k + 1))
                case measure => omega
                case rel => exact ⟨k + 1, by omega, rfl, by rw [H9.out], by rw [HN.out, HS.out], rfl⟩
              · have HS : Aside (bn = false) := ⟨by rw [hs]; simp [h5]⟩
                clear hs
                go_wp2_with fail
                go_roundg (n - (k + 1))
                case measure => omega
                case rel => exact ⟨k + 1, by omega, rfl, by rw [H9.out], by rw [HN.out, HS.out], rfl⟩
            · have HS : Aside (bn = false) := ⟨by rw [hs]; simp [h4]⟩
              clear hs
              go_wp2_with fail
              go_roundg (n - (k + 1))
              case measure => omega
              case rel => exact ⟨k + 1, by omega, rfl, by rw [H9.out], by rw [HN.out, HS.out], rfl⟩
          · have HS : Aside (bn = true) := ⟨by rw [hs]; simp⟩
            clear hs
            go_wp2_with fail
            go_roundg (n - (k + 1))
            case measure => omega
            case rel => exact ⟨k + 1, by omega, rfl, by rw [H9.out], by rw [HN.out, HS.out], rfl⟩
        · obtain rfl : k = n := by omega
          rw [HBO.out]
          clear hkl hk hs
          go_wp2_with fail
          refine (KA.out _ (Below.refl _ _)).mono ?_
          rintro e w2 ⟨rfl, b2⟩
          have B2 := Aside.mk b2
          have HF2 := Aside.mk (lup b2 HF.out)
          have HE2 := Aside.mk (lup b2 HE.out)
          clear b2 e0 e1 e2 e3 f0 f1 f2 f3
          obtain ⟨f0, f1, f2, f3⟩ := lbox4 HF2.out
          obtain ⟨e0, e1, e2, e3⟩ := lbox4 HE2.out
          go_wp2_with fail
          refine (KO.out _).mono ?_
          rintro e w3 ⟨rfl, b3⟩
          have B3 := Aside.mk (lthen (lthen B1.out B2.out) b3)
          clear b3 e0 e1 e2 e3 f0 f1 f2 f3
          cases ob
          all_goals
            go_wp2_with fail
            go_ret
            exact ⟨rfl, B3.out⟩
end Go.Proofs.YtpcjjmjmigibhaaDoor
