/- The rules' reference: a partition's objects. -/
import Derived.Test.YtpcjjmjmigibhaaDoorRulB
namespace Go.Proofs.YtpcjjmjmigibhaaDoor
open Go.RowKit
set_option linter.unusedVariables false
set_option linter.unusedSimpArgs false

set_option maxHeartbeats 1600000 in
set_option maxRecDepth 100000 in
theorem object_any (w : World) (sv pv : Value) (x : PartR) (hx : PartAt w sv pv x) :
    Calls Tryd.prog 28 #[.agg #[sv, .int .u8 (PartR.events x), pv, .int .u8 (PartR.a0 x), .int .u8 (PartR.a1 x), .int .u8 (PartR.a2 x)]] w fun e w' => e = .returned (.bool (objectS x)) ∧ Below w.heap.size w w' := by
  have HX := Aside.mk hx
  obtain ⟨sa, sc, pa, pc, rfl, rfl, n1, n2⟩ := hx.lens
  have hs := hx.sems
  have hp := hx.procs
  obtain ⟨e0, e1⟩ := hx.ev
  obtain ⟨a00, a01⟩ := hx.a0
  obtain ⟨a10, a11⟩ := hx.a1
  obtain ⟨a20, a21⟩ := hx.a2
  have E : objectS x = ((decide ((PartR.sems x).length ≤ 16) && decide (PartR.events x ≤ 16) && decide (1 ≤ (PartR.procs x).length) && decide ((PartR.procs x).length ≤ 16) && decide (PartR.a0 x ≤ 2) && decide (PartR.a1 x ≤ 2) && decide (PartR.a2 x ≤ 2)) && (PartR.sems x).all semOk && (PartR.procs x).all fun p => decide (p ≤ 63)) := rfl
  rw [E]
  clear E hx
  generalize PartR.sems x = S at *
  generalize PartR.procs x = Q at *
  generalize PartR.events x = ev at *
  generalize PartR.a0 x = A0 at *
  generalize PartR.a1 x = A1 at *
  generalize PartR.a2 x = A2 at *
  have HS := Aside.mk hs
  have HP := Aside.mk hp
  clear hs hp HX
  by_cases h1 : 16 < S.length
  · go_enter Tryd.func28, Tryd.ntmps28
    go_wp2_with fail
    go_ret
    exact ⟨ret_bool (by simp; omega), bel_one _ _⟩
  by_cases h2 : 16 < ev
  · go_enter Tryd.func28, Tryd.ntmps28
    go_wp2_with fail
    go_ret
    exact ⟨ret_bool (by simp; omega), bel_one _ _⟩
  by_cases h3 : Q.length < 1
  · go_enter Tryd.func28, Tryd.ntmps28
    go_wp2_with fail
    go_ret
    exact ⟨ret_bool (by simp; omega), bel_one _ _⟩
  by_cases h4 : 16 < Q.length
  · go_enter Tryd.func28, Tryd.ntmps28
    go_wp2_with fail
    go_ret
    exact ⟨ret_bool (by simp; omega), bel_one _ _⟩
  by_cases h5 : 2 < A0
  · go_enter Tryd.func28, Tryd.ntmps28
    go_wp2_with fail
    go_ret
    exact ⟨ret_bool (by simp; omega), bel_one _ _⟩
  by_cases h6 : 2 < A1
  · go_enter Tryd.func28, Tryd.ntmps28
    go_wp2_with fail
    go_ret
    exact ⟨ret_bool (by simp; omega), bel_one _ _⟩
  by_cases h7 : 2 < A2
  · go_enter Tryd.func28, Tryd.ntmps28
    go_wp2_with fail
    go_ret
    exact ⟨ret_bool (by simp; omega), bel_one _ _⟩
  have G : (decide (S.length ≤ 16) && decide (ev ≤ 16) && decide (1 ≤ Q.length) && decide (Q.length ≤ 16) && decide (A0 ≤ 2) && decide (A1 ≤ 2) && decide (A2 ≤ 2)) = true := by simp; omega
  rw [G, Bool.true_and]
  clear G
  obtain ⟨W1, HW1⟩ : ∃ W1, Aside (W1 = w.alloc (.cells #[.slice sa S.length sc, .int .u8 ev, .slice pa Q.length pc, .int .u8 A0, .int .u8 A1, .int .u8 A2] 54)) := ⟨_, ⟨rfl⟩⟩
  have hb1 : Aside (Below w.heap.size w W1) := ⟨by rw [HW1.out]; exact bel_one _ _⟩
  have c0 : W1.cell? ⟨w.heap.size, 0, none⟩ = some (.slice sa S.length sc) := by rw [HW1.out]; simp
  have c2 : W1.cell? ⟨w.heap.size, 2, none⟩ = some (.slice pa Q.length pc) := by rw [HW1.out]; simp
  go_enter Tryd.func28, Tryd.ntmps28
  go_wp2_with fail
  rw [← HW1.out]
  go_loopw [3] (fun i wr => ∃ (k m : Nat), k ≤ S.length ∧ i = .int .i64 k ∧ W1.drewN m = wr ∧ Aside ((S.take k).all semOk = true)) (fun i _ => S.length - (intOf i).toNat)
  case atStart => exact ⟨0, 0, by omega, rfl, rfl, ⟨by simp⟩⟩
  case round =>
    obtain ⟨k, m, hk, rfl, rfl, HA⟩ := hrel
    by_cases hkl : k < S.length
    · have hl := List.getElem?_eq_getElem hkl
      obtain ⟨X, hX⟩ : ∃ X, S[k] = X := ⟨_, rfl⟩
      rw [hX] at hl
      obtain ⟨ad, rfl, e0, e1, ok⟩ := (HS.out.below hb1.out).at_ k X hl
      obtain ⟨⟨i0, i1⟩, ⟨m0, m1⟩⟩ := ok
      have HE := Aside.mk hl
      have hs : Aside ((S.take (k + 1)).all semOk = ((S.take k).all semOk && semOk X)) := ⟨by rw [take_snoc hl, List.all_append]; simp⟩
      have hf : Aside (semOk X = false → S.all semOk = false) := ⟨fun h => by
        rw [List.all_eq_false]
        exact ⟨X, List.mem_of_getElem? hl, by rw [h]; decide⟩⟩
      clear hl hX
      have hsem : semOk X = (decide (SemR.m X ≠ 0) && decide (SemR.i X ≤ SemR.m X)) := rfl
      have HSem := Aside.mk hsem
      clear hsem
      generalize SemR.i X = iv at *
      generalize SemR.m X = mv at *
      by_cases q1 : mv = 0
      · go_wp2_with fail
        go_quiet (fail)
        go_wp2_with fail
        go_ret
        have := hf.out (by rw [HSem.out]; simp [q1])
        exact ⟨ret_bool (by rw [this]; rfl), (by repeat (first | exact hb1.out | refine bel_drewN ?_ _))⟩
      · by_cases q2 : mv < iv
        · go_wp2_with fail
          go_quiet (fail)
          go_wp2_with fail
          go_ret
          have := hf.out (by rw [HSem.out]; simp; omega)
          exact ⟨ret_bool (by rw [this]; rfl), (by repeat (first | exact hb1.out | refine bel_drewN ?_ _))⟩
        · have hm0 : (mv == 0) = false := by simp [q1]
          have hm1 : decide (mv < iv) = false := by simp [q2]
          go_wp2_with fail
          go_quiet (fail)
          go_wp2_with fail
          go_roundw
          case rel => exact ⟨k + 1, _, by omega, by go_num, rfl, ⟨by rw [hs.out, HA.out, HSem.out]; simp; omega⟩⟩
          case measure => simp [intOf]; omega
    · have hA := HA.out
      rw [List.take_of_length_le (by omega)] at hA
      have hF : Aside (S.all semOk = true) := ⟨hA⟩
      clear hA HA
      go_wp2_with fail
      go_loop [4] (fun i => ∃ (k : Nat), k ≤ Q.length ∧ i = .int .i64 k ∧ Aside ((Q.take k).all (fun p => decide (p ≤ 63)) = true)) (fun i => Q.length - (intOf i).toNat)
      case atStart => exact ⟨0, by omega, rfl, ⟨by simp⟩⟩
      case round =>
        obtain ⟨k2, hk2, rfl, HA⟩ := hrel
        by_cases hkl2 : k2 < Q.length
        · have hl := List.getElem?_eq_getElem hkl2
          obtain ⟨X, hX⟩ : ∃ X, Q[k2] = X := ⟨_, rfl⟩
          rw [hX] at hl
          obtain ⟨ad, rfl, e0, b0, b1⟩ := (HP.out.below hb1.out).at_ k2 X hl
          have hs : Aside ((Q.take (k2 + 1)).all (fun p => decide (p ≤ 63)) = ((Q.take k2).all (fun p => decide (p ≤ 63)) && decide (X ≤ 63))) := ⟨by rw [take_snoc hl, List.all_append]; simp⟩
          have hf : Aside (63 < X → Q.all (fun p => decide (p ≤ 63)) = false) := ⟨fun h => by
            rw [List.all_eq_false]
            exact ⟨X, List.mem_of_getElem? hl, by simp; omega⟩⟩
          clear hl hX
          by_cases q : 63 < X
          · go_wp2_with fail
            go_ret
            have := hf.out q
            exact ⟨ret_bool (by rw [hF.out, this]; rfl), (by repeat (first | exact hb1.out | refine bel_drewN ?_ _))⟩
          · go_wp2_with fail
            go_round
            case rel => exact ⟨k2 + 1, by omega, by go_num, ⟨by rw [hs.out, HA.out]; simp; omega⟩⟩
            case measure => simp [intOf]; omega
        · have hA := HA.out
          rw [List.take_of_length_le (by omega)] at hA
          have hA := Aside.mk hA
          clear HA
          go_wp2_with fail
          go_ret
          exact ⟨ret_bool (by simp [hF.out, hA.out]), (by repeat (first | exact hb1.out | refine bel_drewN ?_ _))⟩
end Go.Proofs.YtpcjjmjmigibhaaDoor
