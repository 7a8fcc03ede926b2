/- Layer 24's laws: WindowPlans. -/
import Derived.Test.YtidjkhmlpgkaaaaDoorMgSe
import Derived.Test.YtidjkhmlpgkaaaaDoorMgRg
namespace Go.Proofs.YtidjkhmlpgkaaaaDoor
open Go.RowKit
set_option linter.unusedVariables false
set_option linter.unusedSimpArgs false

theorem wnew_no (w : World) (v : Value) (P : Plan) (hv : PlanV w v P) (hl : Look w) (hf : Few P) (x : Flt) (hc : checkO P = some x) : Calls Tryd.prog 21 #[v] w fun e w' => e = .returned (.tuple #[.pointer none, .int .i64 250]) ∧ Below w.heap.size w w' := by
  refine (wnew_any w v P hv hl hf).mono ?_
  intro e w' h
  unfold NewP at h
  rw [hc] at h
  exact h
theorem init_is (C : List (List Win)) (c : Nat) (hc : c < C.length) : isS C (initS C) c 0 (-1) = true := by
  have ho : ¬ outC C (c : Int) := by unfold outC; omega
  unfold isS coreE coreA
  rw [if_neg ho, if_neg ho, if_pos (show ((initS C).co (c : Int).toNat).st = 0 from rfl)]
  rfl
theorem init_rank (C : List (List Win)) (c : Nat) (hc : c < C.length) : rankS C (initS C) c = 0 := by
  have ho : ¬ outC C (c : Int) := by unfold outC; omega
  unfold rankS coreA
  rw [if_neg ho, if_pos (show ((initS C).co (c : Int).toNat).st = 0 from rfl)]
  rfl
/-- What a law answers. -/
def LawR (w : World) (e : Ending) (w' : World) : Prop := e = .returned (.bool true) ∧ Below w.heap.size w w'
set_option maxHeartbeats 6400000 in
theorem wplans_any (w : World) (v : Value) (P : Plan) (hl : Look w) (hv : PlanV w v P) (hz : Sz P) : Calls Tryd.prog 8 #[v] w (LawR w) := by
  have HV := Aside.mk hv
  have HL := Aside.mk hl
  have KS := Aside.mk (fun W (h : Below w.heap.size w W) => small_any W v P (HV.out.below h) hz)
  obtain ⟨a0, c0, a1, c1, a2, c2, a3, c3, rfl, hp, hlen⟩ := hv.open_
  obtain ⟨W1, HW⟩ : ∃ W1, Aside (W1 = w.alloc (.cells #[.int .u16 (Plan.frame P), .slice a0 (Plan.cores P).length c0, .slice a1 (Plan.parts P).length c1, .slice a2 (Plan.chans P).length c2, .slice a3 (Plan.pairs P).length c3] 28)) := ⟨_, ⟨rfl⟩⟩
  have hb1 : Aside (Below w.heap.size w W1 ∧ W1.heap[w.heap.size]? = some (.cells #[.int .u16 (Plan.frame P), .slice a0 (Plan.cores P).length c0, .slice a1 (Plan.parts P).length c1, .slice a2 (Plan.chans P).length c2, .slice a3 (Plan.pairs P).length c3] 28 (0, 0))) := ⟨by rw [HW.out]; exact ⟨bel_one _ _, heap_alloc_new _ _⟩⟩
  obtain ⟨x0, x1, x2, x3, x4⟩ := lbox5 hb1.out.2
  have KA := Aside.mk (fun W (h : Below w.heap.size w W) => awake_any W (HL.out.below h))
  clear hv hl hp hz
  go_enter Tryd.func8, Tryd.ntmps8
  go_wp2_with fail
  rw [← HW.out]
  go_wp2_with fail
  refine (KS.out _ hb1.out.1).mono ?_
  rintro e w2 ⟨b, rfl, hb, b2⟩
  cases b
  · have B2 := Aside.mk (bel_then hb1.out.1 b2)
    clear b2 hb x0 x1 x2 x3 x4
    go_wp2_with fail
    refine (KA.out _ B2.out).mono ?_
    rintro e w3 ⟨rfl, b3⟩
    go_wp2_with fail
    go_ret
    exact ⟨rfl, bel_then B2.out b3⟩
  · have HF := Aside.mk (hb rfl)
    have B2 := Aside.mk (bel_then hb1.out.1 b2)
    have X2 := Aside.mk (lup b2 hb1.out.2)
    clear b2 hb x0 x1 x2 x3 x4
    obtain ⟨x0, x1, x2, x3, x4⟩ := lbox5 X2.out
    have KR := Aside.mk (fun W (h : Below w.heap.size w W) => check_any W _ P (HV.out.below h))
    rcases hq : checkO P with _ | x
    · have hc : (checkS P).1 = 0 := checkO_none.1 hq
      have KN := Aside.mk (wnew_ex w2 _ P (HV.out.below B2.out) (HL.out.below B2.out) HF.out hq)
      rw [hc] at KR
      obtain ⟨z, hz⟩ : ∃ z, (checkS P).2 = z := ⟨_, rfl⟩
      rw [hz] at KR
      clear hq hc hz
      go_wp2_with fail
      refine KN.out.mono ?_
      rintro e w3 ⟨w0, l, rfl, r⟩
      have R := Aside.mk r
      have X3 := Aside.mk (lup r.bel X2.out)
      have B3 := Aside.mk (bel_then B2.out r.bel)
      clear r x0 x1 x2 x3 x4 KN
      obtain ⟨x0, x1, x2, x3, x4⟩ := lbox5 X3.out
      go_wp2_with fail
      refine (KR.out _ B3.out).mono ?_
      rintro e w4 ⟨rfl, b4⟩
      have R := Aside.mk (R.out.below b4)
      have X4 := Aside.mk (lup b4 X3.out)
      have B4 := Aside.mk (bel_then B3.out b4)
      clear b4 x0 x1 x2 x3 x4
      have K : Aside (Calls Tryd.prog 13 #[.pointer (some ⟨l.S, 0, none⟩)] w4 fun e w' => e = .returned (.int .i64 0) ∧ w4 = w') := ⟨now_any R.out.st⟩
      go_wp2_with fail
      refine K.out.mono ?_
      rintro e w5 ⟨rfl, rfl⟩
      have K : Aside (Calls Tryd.prog 19 #[.pointer (some ⟨l.S, 0, none⟩)] w4 fun e w' => e = .returned (.int .i64 1) ∧ ∃ m, w' = w4.drewN m) := ⟨by
        have := frame_any R.out.st
        rw [show frS (Plan.frame P) (initS (Plan.cores P)) = 1 by unfold frS; show (0 : Int) / _ + 1 = 1; rw [Int.zero_ediv]; rfl] at this
        exact this⟩
      go_wp2_with fail
      refine K.out.mono ?_
      rintro e w5 ⟨rfl, m, rfl⟩
      have R := Aside.mk (R.out.below (below_drewN w4 m))
      have X5 := Aside.mk (lup (below_drewN w4 m) X4.out)
      have B5 := Aside.mk (bel_drewN B4.out m)
      have hC8 := HF.out.cores
      clear K
      go_wp2_with fail
      go_loopw [7] (fun i wr => ∃ k : Nat, k ≤ (Plan.cores P).length ∧ i = .int .i64 k ∧ Aside (Below (w4.drewN m).heap.size (w4.drewN m) wr)) (fun i _ => (Plan.cores P).length - (intOf i).toNat)
      case atStart => exact ⟨0, by omega, rfl, ⟨Below.refl _ _⟩⟩
      case round =>
        obtain ⟨k, hk, rfl, T⟩ := hrel
        obtain ⟨y0, y1, y2, y3, y4⟩ := lbox5 (lup T.out X5.out)
        by_cases hkl : k < (Plan.cores P).length
        · have K := Aside.mk (is_seq (R.out.st.below T.out) (k : Int) 0 (-1))
          rw [init_is _ k hkl] at K
          go_wp2_with fail
          refine K.out.mono ?_
          rintro e w6 ⟨rfl, b6⟩
          have T6 := Aside.mk (bel_then T.out b6)
          have K2 := Aside.mk (rank_any (R.out.st.below T6.out) (k : Int))
          rw [init_rank _ k hkl] at K2
          clear b6 K
          go_wp2_with fail
          refine K2.out.mono ?_
          rintro e w7 ⟨rfl, b7⟩
          have T7 := Aside.mk (bel_then T6.out b7)
          clear b7 y0 y1 y2 y3 y4
          go_wp2_with fail
          go_roundw
          case rel => exact ⟨k + 1, by omega, by go_num, T7⟩
          case measure => simp [intOf]; omega
        · obtain rfl : k = (Plan.cores P).length := by omega
          go_wp2_with fail
          refine (KA.out _ (bel_then B5.out T.out)).mono ?_
          rintro e w8 ⟨rfl, b8⟩
          go_wp2_with fail
          go_ret
          exact ⟨rfl, bel_then (bel_then B5.out T.out) b8⟩
    · have hc : ¬ (checkS P).1 = 0 := fun q => by rw [checkO_none.2 q] at hq; cases hq
      have KN := Aside.mk (wnew_no w2 _ P (HV.out.below B2.out) (HL.out.below B2.out) HF.out x hq)
      obtain ⟨z, hz⟩ : ∃ z, (checkS P).2 = z := ⟨_, rfl⟩
      obtain ⟨y, hy⟩ : ∃ y, (checkS P).1 = y := ⟨_, rfl⟩
      rw [hz, hy] at KR
      rw [hy] at hc
      have hcb : (y != 0) = true := bne_iff_ne.2 hc
      clear hq hc hz hy
      go_wp2_with fail
      refine KN.out.mono ?_
      rintro e w3 ⟨rfl, b3⟩
      have X3 := Aside.mk (lup b3 X2.out)
      have B3 := Aside.mk (bel_then B2.out b3)
      clear b3 x0 x1 x2 x3 x4 KN
      obtain ⟨x0, x1, x2, x3, x4⟩ := lbox5 X3.out
      go_wp2_with fail
      refine (KR.out _ B3.out).mono ?_
      rintro e w4 ⟨rfl, b4⟩
      have B4 := Aside.mk (bel_then B3.out b4)
      clear b4 x0 x1 x2 x3 x4
      go_wp2_with fail
      refine (KA.out _ B4.out).mono ?_
      rintro e w5 ⟨rfl, b5⟩
      go_wp2_with fail
      go_ret
      exact ⟨rfl, bel_then B4.out b5⟩
end Go.Proofs.YtidjkhmlpgkaaaaDoor
