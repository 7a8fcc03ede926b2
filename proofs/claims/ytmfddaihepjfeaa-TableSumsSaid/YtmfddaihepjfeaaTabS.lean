/- The table's laws: the reference's served. -/
import Derived.Test.YtmfddaihepjfeaaTabO
namespace Go.Proofs.Ytmfddaihepjfeaa
open Go.RowKit
set_option linter.unusedVariables false
set_option linter.unusedSimpArgs false

/-- Is a partition served at a tick? -/
def servedB (C : List (List Win)) (part : Int) (t : Nat) : Bool := C.any (cellB part t)
set_option maxHeartbeats 1600000 in
theorem served_any (w : World) (v : Value) (P : Plan) (part : Int) (t : Nat) (hv : PlanV w v P) :
    Calls Try.prog 35 #[v, .int .i64 part, .int .i64 (t : Int)] w fun e w' => e = .returned (.bool (servedB (Plan.cores P) part t)) ∧ Below w.heap.size w w' := by
  obtain ⟨a0, c0, a1, c1, a2, c2, a3, c3, rfl, hp, hlen⟩ := hv.open_
  have HC := Aside.mk hp.cores
  clear hp hv
  generalize Plan.cores P = C at *
  obtain ⟨W1, HW⟩ : ∃ W1, Aside (W1 = w.alloc (.cells #[.int .u16 (Plan.frame P), .slice a0 C.length c0, .slice a1 (Plan.parts P).length c1, .slice a2 (Plan.chans P).length c2, .slice a3 (Plan.pairs P).length c3] 28)) := ⟨_, ⟨rfl⟩⟩
  have hb1 : Aside (Below w.heap.size w W1 ∧ W1.heap[w.heap.size]? = some (.cells #[.int .u16 (Plan.frame P), .slice a0 C.length c0, .slice a1 (Plan.parts P).length c1, .slice a2 (Plan.chans P).length c2, .slice a3 (Plan.pairs P).length c3] 28 (0, 0))) := ⟨by rw [HW.out]; exact ⟨bel_one _ _, heap_alloc_new _ _⟩⟩
  go_enter Try.func35, Try.ntmps35
  go_wp2_with fail
  rw [← HW.out]
  go_loopw [6, 7] (fun z i wr => ∃ k : Nat, k ≤ C.length ∧ i = .int .i64 k ∧ Aside (Below W1.heap.size W1 wr ∧ (C.take k).any (cellB part t) = false)) (fun _ i _ => C.length - (intOf i).toNat)
  case atStart => exact ⟨0, by omega, rfl, ⟨Below.refl _ _, by simp⟩⟩
  case round =>
    obtain ⟨k, hk, rfl, T⟩ := hrel
    obtain ⟨g0, g1, g2, g3, g4⟩ := box5 ((T.out.1.block _ (lt_of_block hb1.out.2)).trans hb1.out.2)
    clear g0 g2 g3 g4
    by_cases hkl : k < C.length
    · have hl := List.getElem?_eq_getElem hkl
      obtain ⟨L, hL⟩ : ∃ L, C[k] = L := ⟨_, rfl⟩
      rw [hL] at hl
      obtain ⟨ad, lv, rfl, hlv, hwins⟩ := (HC.out.below (bel_then hb1.out.1 T.out.1)).at_ k L hl
      have K := Aside.mk (rserves_any wr lv L (t : Int) hwins)
      have HN : Aside (cellB part t L = false → (C.take (k + 1)).any (cellB part t) = false) := ⟨fun h => by rw [take_snoc hl, List.any_append, T.out.2]; simp [h]⟩
      have HY : Aside (cellB part t L = true → servedB C part t = true) := ⟨fun h => by rw [servedB, List.any_eq_true]; exact ⟨L, List.mem_of_getElem? hl, h⟩⟩
      have HB : Aside (cellB part t L = (decide (0 ≤ part) && decide (servesS L (t : Int) = part))) := ⟨rfl⟩
      obtain ⟨sv, hsv⟩ : ∃ sv, Aside (servesS L (t : Int) = sv) := ⟨_, ⟨rfl⟩⟩
      rw [hsv.out] at K HB
      clear hl hL hwins
      by_cases p1 : 0 ≤ part
      · by_cases p2 : sv = part
        · have HR := Aside.mk (HY.out (by rw [HB.out]; simp [p1, p2]))
          have p2b : (sv == part) = true := by simp [p2]
          clear p2
          go_wp2_with fail
          refine K.out.mono ?_
          rintro e w2 ⟨rfl, b2⟩
          have B2 := Aside.mk (bel_then (bel_then hb1.out.1 T.out.1) b2)
          clear b2 g1 hlv
          go_wp2_with fail
          rw [HR.out]
          go_ret
          exact ⟨rfl, B2.out⟩
        · have HR := Aside.mk (HN.out (by rw [HB.out]; simp [p2]))
          have p2b : (sv == part) = false := by simp [p2]
          go_wp2_with fail
          refine K.out.mono ?_
          rintro e w2 ⟨rfl, b2⟩
          have B2 := Aside.mk (bel_then T.out.1 b2)
          clear b2 g1 hlv
          go_wp2_with fail
          go_roundw
          case rel => exact ⟨k + 1, by omega, by go_num, ⟨B2.out, HR.out⟩⟩
          case measure => simp [intOf]; omega
      · have HR := Aside.mk (HN.out (by rw [HB.out]; simp [p1]))
        go_wp2_with fail
        go_roundw
        case rel => exact ⟨k + 1, by omega, by go_num, ⟨T.out.1, HR.out⟩⟩
        case measure => simp [intOf]; omega
    · obtain rfl : k = C.length := by omega
      have HR : Aside (servedB C part t = false) := ⟨by have := T.out.2; rwa [List.take_length] at this⟩
      go_wp2_with fail
      rw [HR.out]
      go_ret
      exact ⟨rfl, bel_then hb1.out.1 T.out.1⟩
end Go.Proofs.Ytmfddaihepjfeaa
