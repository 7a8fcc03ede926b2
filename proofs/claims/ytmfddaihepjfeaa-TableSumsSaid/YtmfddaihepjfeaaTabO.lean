/- The table's laws: the reference's share. -/
import Derived.Test.YtmfddaihepjfeaaTabN
namespace Go.Proofs.Ytmfddaihepjfeaa
open Go.RowKit
set_option linter.unusedVariables false
set_option linter.unusedSimpArgs false

def sumN (f : Nat → Nat) : Nat → Nat
  | 0 => 0
  | n + 1 => sumN f n + f n
def cellB (part : Int) (t : Nat) (L : List Win) : Bool := decide (0 ≤ part) && decide (servesS L (t : Int) = part)
def cntS (C : List (List Win)) (part : Int) (t : Nat) : Nat := C.countP (cellB part t)
theorem cnt_snoc {C : List (List Win)} {k : Nat} {L : List Win} (h : C[k]? = some L) (part : Int) (t : Nat) : cntS (C.take (k + 1)) part t = cntS (C.take k) part t + if cellB part t L = true then 1 else 0 := by
  rw [take_snoc h, cntS, List.countP_append]
  simp [cntS, List.countP_cons]
theorem cnt_le (C : List (List Win)) (part : Int) (t : Nat) : cntS C part t ≤ C.length := List.countP_le_length
theorem sumN_le (f : Nat → Nat) (b : Nat) (h : ∀ n, f n ≤ b) (n : Nat) : sumN f n ≤ n * b := by
  induction n with
  | zero => simp [sumN]
  | succ n ih =>
    have := h n
    rw [sumN, Nat.add_mul]; omega

set_option maxHeartbeats 3200000 in
set_option maxRecDepth 100000 in
theorem rshare_any (w : World) (v : Value) (P : Plan) (part : Int) (n : Nat) (hn : Plan.frame P = (n : Int)) (hv : PlanV w v P) (hC : (Plan.cores P).length ≤ 8) :
    Calls Try.prog 21 #[v, .int .i64 part] w fun e w' => e = .returned (.int .i64 (sumN (cntS (Plan.cores P) part) n : Nat)) ∧ Below w.heap.size w w' := by
  obtain ⟨a0, c0, a1, c1, a2, c2, a3, c3, rfl, hp, hlen⟩ := hv.open_
  obtain ⟨f0, f1⟩ := hp.frame
  have HC := Aside.mk hp.cores
  rw [hn] at f0 f1
  rw [hn]
  clear hp hv hn
  generalize Plan.cores P = C at *
  obtain ⟨W1, HW⟩ : ∃ W1, Aside (W1 = w.alloc (.cells #[.int .u16 (n : Int), .slice a0 C.length c0, .slice a1 (Plan.parts P).length c1, .slice a2 (Plan.chans P).length c2, .slice a3 (Plan.pairs P).length c3] 28)) := ⟨_, ⟨rfl⟩⟩
  have hb1 : Aside (Below w.heap.size w W1 ∧ W1.heap[w.heap.size]? = some (.cells #[.int .u16 (n : Int), .slice a0 C.length c0, .slice a1 (Plan.parts P).length c1, .slice a2 (Plan.chans P).length c2, .slice a3 (Plan.pairs P).length c3] 28 (0, 0))) := ⟨by rw [HW.out]; exact ⟨bel_one _ _, heap_alloc_new _ _⟩⟩
  go_enter Try.func21, Try.ntmps21
  go_wp2_with fail
  rw [← HW.out]
  go_loopw [5, 6] (fun z i wr => ∃ t : Nat, t ≤ n ∧ i = .int .i64 t ∧ z = .int .i64 (sumN (cntS C part) t : Nat) ∧ Aside (Below W1.heap.size W1 wr)) (fun _ i _ => n - (intOf i).toNat)
  case atStart => exact ⟨0, by omega, rfl, rfl, ⟨Below.refl _ _⟩⟩
  case round =>
    obtain ⟨t, ht, rfl, rfl, S⟩ := hrel
    obtain ⟨g0, g1, g2, g3, g4⟩ := box5 ((S.out.block _ (lt_of_block hb1.out.2)).trans hb1.out.2)
    clear g2 g3 g4
    by_cases htn : t < n
    · obtain ⟨z0, hz0⟩ : ∃ z0, Aside (sumN (cntS C part) t = z0) := ⟨_, ⟨rfl⟩⟩
      have hz1 : z0 ≤ 524280 := by
        have h := sumN_le (cntS C part) 8 (fun k => Nat.le_trans (cnt_le _ _ _) hC) t
        rw [hz0.out] at h
        omega
      rw [hz0.out]
      go_wp2_with fail
      clear g0 g1
      go_loopw [5, 7] (fun z i wq => ∃ k : Nat, k ≤ C.length ∧ i = .int .i64 k ∧ z = .int .i64 ((z0 + cntS (C.take k) part t : Nat) : Int) ∧ Aside (Below W1.heap.size W1 wq)) (fun _ i _ => C.length - (intOf i).toNat)
      case atStart => exact ⟨0, by omega, rfl, by simp [cntS], S⟩
      case round =>
        obtain ⟨k, hk, rfl, rfl, T⟩ := hrel
        obtain ⟨g0, g1, g2, g3, g4⟩ := box5 ((T.out.block _ (lt_of_block hb1.out.2)).trans hb1.out.2)
        clear g0 g2 g3 g4
        by_cases hkl : k < C.length
        · have hl := List.getElem?_eq_getElem hkl
          obtain ⟨L, hL⟩ : ∃ L, C[k] = L := ⟨_, rfl⟩
          rw [hL] at hl
          obtain ⟨ad, lv, rfl, hlv, hwins⟩ := (HC.out.below (bel_then hb1.out.1 T.out)).at_ k L hl
          have K := Aside.mk (rserves_any wr lv L (t : Int) hwins)
          have HS : Aside (cntS (C.take (k + 1)) part t = cntS (C.take k) part t + if cellB part t L = true then 1 else 0) := ⟨cnt_snoc hl part t⟩
          obtain ⟨z1, hz2⟩ : ∃ z1, Aside (z0 + cntS (C.take k) part t = z1) := ⟨_, ⟨rfl⟩⟩
          have hz3 : z1 ≤ 524288 := by
            have := cnt_le (C.take k) part t
            rw [List.length_take] at this
            have := hz2.out
            omega
          rw [hz2.out]
          have HB : Aside (cellB part t L = (decide (0 ≤ part) && decide (servesS L (t : Int) = part))) := ⟨rfl⟩
          obtain ⟨sv, hsv⟩ : ∃ sv, Aside (servesS L (t : Int) = sv) := ⟨_, ⟨rfl⟩⟩
          rw [hsv.out] at K HB
          clear hl hL hwins
          by_cases p1 : 0 ≤ part
          · by_cases p2 : sv = part
            · have HV : Aside (cntS (C.take (k + 1)) part t = cntS (C.take k) part t + 1) := ⟨by rw [HS.out, HB.out]; simp [p1, p2]⟩
              have p2b : (sv == part) = true := by simp [p2]
              have P2 := Aside.mk p2
              clear p2
              go_wp2_with fail
              refine K.out.mono ?_
              rintro e w2 ⟨rfl, b2⟩
              have B2 := Aside.mk (bel_then T.out b2)
              clear b2 g1 hlv
              go_wp2_with fail
              go_roundw
              case rel => exact ⟨k + 1, by omega, by go_num, by rw [HV.out]; have := hz2.out; show Value.int .i64 _ = Value.int .i64 _; congr 1; omega, B2⟩
              case measure => simp [intOf]; omega
            · have HV : Aside (cntS (C.take (k + 1)) part t = cntS (C.take k) part t) := ⟨by rw [HS.out, HB.out]; simp [p2]⟩
              have p2b : (sv == part) = false := by simp [p2]
              go_wp2_with fail
              refine K.out.mono ?_
              rintro e w2 ⟨rfl, b2⟩
              have B2 := Aside.mk (bel_then T.out b2)
              clear b2 g1 hlv
              go_wp2_with fail
              go_roundw
              case rel => exact ⟨k + 1, by omega, by go_num, by rw [HV.out, hz2.out], B2⟩
              case measure => simp [intOf]; omega
          · have HV : Aside (cntS (C.take (k + 1)) part t = cntS (C.take k) part t) := ⟨by rw [HS.out, HB.out]; simp [p1]⟩
            go_wp2_with fail
            go_roundw
            case rel => exact ⟨k + 1, by omega, by go_num, by rw [HV.out, hz2.out], T⟩
            case measure => simp [intOf]; omega
        · obtain rfl : k = C.length := by omega
          go_wp2_with fail
          go_roundw
          case rel => exact ⟨t + 1, by omega, by go_num, by rw [sumN, hz0.out, List.take_length], T⟩
          case measure => simp [intOf]; omega
    · obtain rfl : t = n := by omega
      go_wp2_with fail
      go_ret
      exact ⟨rfl, bel_then hb1.out.1 S.out⟩
end Go.Proofs.Ytmfddaihepjfeaa
