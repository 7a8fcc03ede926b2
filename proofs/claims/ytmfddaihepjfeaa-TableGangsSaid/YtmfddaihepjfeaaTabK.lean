/- The table's laws: a plan that is taken; the reference's answers. -/
import Derived.Test.YtmfddaihepjfeaaTabJ
import Derived.Test.YtmfddaihepjfeaaSame
namespace Go.Proofs.Ytmfddaihepjfeaa
open Go.RowKit
set_option linter.unusedVariables false
set_option linter.unusedSimpArgs false

/-- What a plan that is taken, and small, is. -/
structure Tk (P : Plan) : Prop where
  check : (checkS P).1 = 0
  frame : Plan.frame P ≤ 200
  cores : (Plan.cores P).length ≤ 8
  parts : (Plan.parts P).length ≤ 64
def TkB (w : World) (P : Plan) (e : Ending) (w' : World) : Prop := ∃ b, e = .returned (.bool b) ∧ (b = true → Tk P) ∧ Below w.heap.size w w'
set_option maxHeartbeats 3200000 in
theorem taken_any (w : World) (v : Value) (P : Plan) (hv : PlanV w v P) : Calls Try.prog 10 #[v] w (TkB w P) := by
  have K := check_any
  have hv0 := hv
  obtain ⟨a0, c0, a1, c1, a2, c2, a3, c3, rfl, hp, hlen⟩ := hv.open_
  obtain ⟨f0, f1⟩ := hp.frame
  have HC := Aside.mk hp.cores
  have hl1 : (Plan.parts P).length ≤ 9223372036854775807 := by obtain ⟨_, _, q, h⟩ := Elems.len hp.parts; exact h
  have hl2 : (Plan.chans P).length ≤ 9223372036854775807 := by obtain ⟨_, _, q, h⟩ := Elems.len hp.chans; exact h
  have hl3 : (Plan.pairs P).length ≤ 9223372036854775807 := by obtain ⟨_, _, q, h⟩ := Elems.len hp.pairs; exact h
  obtain ⟨W1, HW⟩ : ∃ W1, Aside (W1 = w.alloc (.cells #[.int .u16 (Plan.frame P), .slice a0 (Plan.cores P).length c0, .slice a1 (Plan.parts P).length c1, .slice a2 (Plan.chans P).length c2, .slice a3 (Plan.pairs P).length c3] 28)) := ⟨_, ⟨rfl⟩⟩
  have hb1 : Aside (Below w.heap.size w W1) := ⟨by rw [HW.out]; exact bel_one _ _⟩
  have K1 := Aside.mk (check_any W1 _ P (hv0.below hb1.out))
  obtain ⟨g0, g1, g2, g3, g4⟩ := box5 (w := W1) (B := w.heap.size) (by rw [HW.out]; exact heap_alloc_new _ _)
  have HT : Aside (Plan.frame P ≤ 200 → (Plan.cores P).length ≤ 8 → (Plan.parts P).length ≤ 64 → (checkS P).1 = 0 → Tk P) := ⟨fun a b c d => ⟨d, a, b, c⟩⟩
  clear hp hv hv0 K
  generalize checkS P = r at *
  generalize Plan.frame P = fr at *
  generalize Plan.cores P = C at *
  generalize Plan.parts P = A at *
  go_enter Try.func10, Try.ntmps10
  go_wp2_with fail
  rw [← HW.out]
  go_loop [3, 4] (fun n i => ∃ (k : Nat) (z : Int), k ≤ C.length ∧ k ≤ 9 ∧ i = .int .i64 k ∧ n = .int .i64 z) (fun _ i => 9 - (intOf i).toNat)
  case atStart => exact ⟨0, 0, by omega, by omega, rfl, rfl⟩
  case round =>
    obtain ⟨k, z, hk, hk9, rfl, rfl⟩ := hrel
    by_cases hkl : k < C.length
    · by_cases hk2 : k < 9
      · have hl := List.getElem?_eq_getElem hkl
        obtain ⟨L, hL⟩ : ∃ L, C[k] = L := ⟨_, rfl⟩
        rw [hL] at hl
        obtain ⟨ad, lv, rfl, hlv, hwins⟩ := (HC.out.below hb1.out).at_ k L hl
        obtain ⟨la, lc, rfl, hlL⟩ := hwins.len
        clear hl hL hwins
        go_wp2_with fail
        go_round
        case rel => exact ⟨k + 1, _, by omega, by omega, by go_num, rfl⟩
        case measure => simp [intOf]; omega
      · have h9 : k = 9 := by omega
        subst h9
        go_wp2_with fail
        all_goals
          go_ret
          exact ⟨false, rfl, by simp, hb1.out⟩
    · obtain rfl : k = C.length := by omega
      by_cases t1 : 200 < fr
      · go_wp2_with fail
        go_ret
        exact ⟨false, rfl, by simp, hb1.out⟩
      by_cases t2 : 80 < z
      · go_wp2_with fail
        go_ret
        exact ⟨false, rfl, by simp, hb1.out⟩
      by_cases t3 : 8 < C.length
      · go_wp2_with fail
        go_ret
        exact ⟨false, rfl, by simp, hb1.out⟩
      by_cases t4 : 64 < A.length
      · go_wp2_with fail
        go_ret
        exact ⟨false, rfl, by simp, hb1.out⟩
      by_cases t5 : 40 < (Plan.pairs P).length
      · go_wp2_with fail
        go_ret
        exact ⟨false, rfl, by simp, hb1.out⟩
      by_cases t6 : 100 < (Plan.chans P).length
      · go_wp2_with fail
        go_ret
        exact ⟨false, rfl, by simp, hb1.out⟩
      go_wp2_with fail
      refine K1.out.mono ?_
      rintro e w2 ⟨rfl, b2⟩
      have B2 := Aside.mk (bel_then hb1.out b2)
      clear b2 g0 g1 g2 g3 g4
      go_wp2_with fail
      go_ret
      refine ⟨_, rfl, fun h => HT.out (by omega) (by omega) (by omega) ?_, B2.out⟩
      simpa using h

theorem rserves_any (w : World) (v : Value) (L : List Win) (t : Int) (hv : Wins w v L) :
    Calls Try.prog 14 #[v, .int .i64 t] w fun e w' => e = .returned (.int .i64 (servesS L t)) ∧ Below w.heap.size w w' := by
  have HV := Aside.mk hv
  obtain ⟨a, cap, rfl, hlen⟩ := hv.len
  clear hv
  go_enter Try.func14, Try.ntmps14
  go_wp2_with fail
  go_loopw [4, 5] (fun p i wr => ∃ k : Nat, k ≤ L.length ∧ i = .int .i64 k ∧ Aside (scan (atF L t) k = none ∧ Below w.heap.size w wr)) (fun _ i _ => L.length - (intOf i).toNat)
  case atStart => exact ⟨0, by omega, rfl, ⟨rfl, Below.refl _ _⟩⟩
  case round =>
    obtain ⟨k, hk, rfl, S⟩ := hrel
    by_cases hkl : k < L.length
    · have hl := List.getElem?_eq_getElem hkl
      obtain ⟨X, hX⟩ : ∃ X, L[k] = X := ⟨_, rfl⟩
      rw [hX] at hl
      obtain ⟨ad, rfl, e0, e1, e2, e3, ok⟩ := (HV.out.below S.out.2).at_ k X hl
      have KT := Aside.mk (fun w => has_any X ok t w)
      unfold Win.val at KT
      have HF : Aside (atF L t k = if hasS X t = true then some k else none) := ⟨by rw [atF, wAt_some hl]⟩
      have HX : Aside (wAt L k = X) := ⟨wAt_some hl⟩
      have HL := Aside.mk hl
      obtain ⟨b, hb⟩ : ∃ b, hasS X t = b := ⟨_, rfl⟩
      rw [hb] at KT HF
      obtain ⟨p0, p1⟩ := ok.p
      clear hl hX hb ok
      go_wp2_with fail
      refine (KT.out _).mono ?_
      rintro e w' ⟨rfl, b1⟩
      have S1 := Aside.mk (bel_then S.out.2 b1)
      obtain ⟨ad', q, d0, d1, d2, d3, _⟩ := (HV.out.below S1.out).at_ k X HL.out
      obtain rfl : ad = ad' := by injection q
      clear b1 e0 e1 e2 e3 q d0 d1 d3
      cases b
      · go_wp2_with fail
        go_roundw
        case rel => exact ⟨k + 1, by omega, by go_num, ⟨by rw [scan_succ S.out.1, HF.out]; rfl, S1.out⟩⟩
        case measure => simp [intOf]; omega
      · have HR : Aside (servesS L t = Win.p X) := ⟨by rw [serves_of (scan_some S.out.1 HF.out hkl), HX.out]⟩
        go_wp2_with fail
        rw [HR.out]
        go_ret
        exact ⟨rfl, S1.out⟩
    · obtain rfl : k = L.length := by omega
      have HR : Aside (servesS L t = -1) := ⟨serves_no S.out.1⟩
      go_wp2_with fail
      rw [HR.out]
      go_ret
      exact ⟨rfl, S.out.2⟩
set_option maxHeartbeats 1600000 in
theorem rturn_any (w : World) (v : Value) (P : Plan) (t : Int) (hv : PlanV w v P) (hC : (Plan.cores P).length ≤ 1000) :
    Calls Try.prog 17 #[v, .int .i64 t] w fun e w' => ∃ r, e = .returned r ∧ Ints w' .i64 r (turnS (Plan.cores P) t) ∧ Below w.heap.size w w' := by
  obtain ⟨a0, c0, a1, c1, a2, c2, a3, c3, rfl, hp, hlen⟩ := hv.open_
  have HC := Aside.mk hp.cores
  clear hp hv
  generalize Plan.cores P = C at *
  obtain ⟨W1, HW⟩ : ∃ W1, Aside (W1 = w.alloc (.cells #[.int .u16 (Plan.frame P), .slice a0 C.length c0, .slice a1 (Plan.parts P).length c1, .slice a2 (Plan.chans P).length c2, .slice a3 (Plan.pairs P).length c3] 28)) := ⟨_, ⟨rfl⟩⟩
  have hB : Aside (Below w.heap.size w W1 ∧ W1.heap.size = w.heap.size + 1 ∧ W1.heap[w.heap.size]? = some (.cells #[.int .u16 (Plan.frame P), .slice a0 C.length c0, .slice a1 (Plan.parts P).length c1, .slice a2 (Plan.chans P).length c2, .slice a3 (Plan.pairs P).length c3] 28 (0, 0))) := ⟨by rw [HW.out]; exact ⟨bel_one _ _, by simp, heap_alloc_new _ _⟩⟩
  go_enter Try.func17, Try.ntmps17
  go_wp2_with fail
  rw [← HW.out]
  go_loopw [5, 6] (fun l i wr => ∃ (k : Nat) (v : Value), k ≤ C.length ∧ i = .int .i64 k ∧ v = l ∧ Aside (wr.ownsRow (w.heap.size + 1) 3 1 v (turnS (C.take k) t).length ((turnS (C.take k) t).map (Value.int .i64)) ∧ Below W1.heap.size W1 wr)) (fun _ i _ => C.length - (intOf i).toNat)
  case atStart =>
    refine ⟨0, _, by omega, rfl, rfl, ⟨?_, bel_one _ _⟩⟩
    have := World.ownsRow_lit (base := W1.heap.size) (e := 3) (size := 1) W1 #[] 0 (Nat.le_refl _) (by decide) rfl
    rw [hB.out.2.1] at this
    simpa [turnS, hB.out.2.1] using this
  case round =>
    obtain ⟨k, v, hk, rfl, rfl, S⟩ := hrel
    have hbx := (S.out.2.block _ (lt_of_block hB.out.2.2)).trans hB.out.2.2
    have g1 : wr.cell? ⟨w.heap.size, 1, none⟩ = some (.slice a0 C.length c0) := by simp [World.cell?, hbx]
    clear hbx
    by_cases hkl : k < C.length
    · have hl := List.getElem?_eq_getElem hkl
      obtain ⟨L, hL⟩ : ∃ L, C[k] = L := ⟨_, rfl⟩
      rw [hL] at hl
      obtain ⟨ad, lv, rfl, hlv, hwins⟩ := (HC.out.below (bel_then hB.out.1 S.out.2)).at_ k L hl
      have K := Aside.mk (rserves_any wr lv L t hwins)
      have HS : Aside (turnS (C.take (k + 1)) t = turnS (C.take k) t ++ [servesS L t]) := ⟨by rw [take_snoc hl, turnS, List.map_append]; rfl⟩
      have hlt : Aside ((turnS (C.take k) t).length ≤ 1000) := ⟨by rw [turnS, List.length_map, List.length_take]; omega⟩
      clear hl hL hwins
      go_wp2_with fail
      refine K.out.mono ?_
      rintro e w' ⟨rfl, b1⟩
      have hown : Aside (w'.ownsRow (w.heap.size + 1) 3 1 v (turnS (C.take k) t).length ((turnS (C.take k) t).map (Value.int .i64)) ∧ Below W1.heap.size W1 w') := ⟨own_below S.out.1 b1, bel_then S.out.2 b1⟩
      have hsz : Aside (w.heap.size + 1 ≤ w'.heap.size) := ⟨by have := hown.out.2.size; have := hB.out.2.1; omega⟩
      clear b1 hlv g1
      go_wp2_with (at_builtin; go_loud (refine append_elem (w.heap.size + 1) rfl _ _ 31 3 (.int .i64 0) 1 8 rfl Try.underlying31 A_info_int rfl (by decide) (by decide) v _ _ [.int .i64 (servesS L t)] rfl rfl rfl (by simp [Value.oneCell']) hown.out.1 hsz.out (by have := hlt.out; omega) ?_))
      intro v1 w1 hown1 hg hat
      have X := Aside.mk (And.intro hown1 (And.intro hg hat))
      clear hown1 hg hat
      go_wp2_with fail
      go_roundw
      case rel =>
        obtain ⟨hown1, hg, hat⟩ := X.out
        exact ⟨k + 1, _, by omega, by go_num, rfl, by rw [HS.out]; simpa using hown1, hown.out.2.grown hg hown.out.2.size (fun j hj => by have := own_base hown.out.1 j hj; have := hB.out.2.1; omega)⟩
      case measure => simp [intOf]; omega
    · obtain rfl : k = C.length := by omega
      go_wp2_with fail
      go_ret
      have h := S.out.1
      rw [List.take_length] at h
      exact ⟨_, rfl, own_ints h, bel_then hB.out.1 S.out.2⟩
end Go.Proofs.Ytmfddaihepjfeaa
