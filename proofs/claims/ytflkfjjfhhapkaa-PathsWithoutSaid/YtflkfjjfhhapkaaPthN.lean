/- Paths: the law PathsInto. -/
import Derived.Test.YtflkfjjfhhapkaaPthL
namespace Go.Proofs.Ytflkfjjfhhapkaa
open Go.RowKit
set_option linter.unusedVariables false
set_option linter.unusedSimpArgs false

/-- What a search answers: a row of bools, or none, for its reason. -/
def AnsB (w : World) (q : Bool) (L : List Bool) (e : Ending) (w' : World) : Prop := ∃ v, e = .returned (.tuple #[v, .int .i64 (if q = true then 0 else 70)]) ∧ Bools w' v (if q = true then L else []) ∧ Below w.heap.size w w'
theorem ans_in {w : World} {q : Bool} {L : List Bool} {e : Ending} {w' : World} (hq : q = true) (h : SomeB w L e w') : AnsB w q L e w' := by
  subst hq
  exact h
theorem ans_out {w : World} {q : Bool} {L : List Bool} {e : Ending} {w' : World} (hq : q = false) (h : NoB w e w') : AnsB w q L e w' := by
  subst hq
  exact ⟨_, h.1, Bools.nil _, h.2⟩
theorem into_ans (w : World) (v : Value) (P : Plan) (p : Int) (hv : PlanV w v P) (hf : Few P) : Calls Try.prog 12 #[v, .int .i64 p] w (AnsB w (inB (Plan.parts P).length p) (intoL (Plan.parts P).length (Plan.chans P) p.toNat)) := by
  cases hq : inB (Plan.parts P).length p with
  | false => exact (into_out w v P p hv hq).mono fun e w' h => ans_out rfl h
  | true =>
    obtain ⟨h0, h1⟩ := inB_iff.1 hq
    obtain ⟨k, rfl⟩ := Int.eq_ofNat_of_zero_le h0
    exact (into_in w v P k hv (by omega) (by have := hf.parts; omega)).mono fun e w' h => ans_in rfl h
theorem rinto_ans (w : World) (v : Value) (P : Plan) (p : Int) (hv : PlanV w v P) (hf : Few P) : Calls Try.prog 13 #[v, .int .i64 p] w (AnsB w (inB (Plan.parts P).length p) (intoL (Plan.parts P).length (Plan.chans P) p.toNat)) := by
  cases hq : inB (Plan.parts P).length p with
  | false => exact (rinto_out w v P p hv hq).mono fun e w' h => ans_out rfl h
  | true =>
    obtain ⟨h0, h1⟩ := inB_iff.1 hq
    obtain ⟨k, rfl⟩ := Int.eq_ofNat_of_zero_le h0
    exact (rinto_in w v P k hv (by omega) (by have := hf.parts; omega)).mono fun e w' h => ans_in rfl h
theorem outof_ans (w : World) (v : Value) (P : Plan) (p : Int) (hv : PlanV w v P) (hf : Few P) : Calls Try.prog 15 #[v, .int .i64 p] w (AnsB w (inB (Plan.parts P).length p) (outL (Plan.parts P).length (Plan.chans P) p.toNat)) := by
  cases hq : inB (Plan.parts P).length p with
  | false => exact (outof_out w v P p hv hq).mono fun e w' h => ans_out rfl h
  | true =>
    obtain ⟨h0, h1⟩ := inB_iff.1 hq
    obtain ⟨k, rfl⟩ := Int.eq_ofNat_of_zero_le h0
    exact (outof_in w v P k hv (by omega) (by have := hf.parts; omega)).mono fun e w' h => ans_in rfl h

set_option maxHeartbeats 1600000 in
theorem intos_any (w : World) (v : Value) (P : Plan) (p : Int) (hv : PlanV w v P) (hz : Sz P) : Calls Try.prog 3 #[v, .int .i64 p] w fun e w' => e = .returned (.bool true) ∧ Below w.heap.size w w' := by
  have HV := Aside.mk hv
  obtain ⟨a0, c0, a1, c1, a2, c2, a3, c3, rfl, hp, hlen⟩ := hv.open_
  obtain ⟨W1, HW⟩ : ∃ W1, Aside (W1 = w.alloc (.cells #[.int .u16 (Plan.frame P), .slice a0 (Plan.cores P).length c0, .slice a1 (Plan.parts P).length c1, .slice a2 (Plan.chans P).length c2, .slice a3 (Plan.pairs P).length c3] 28)) := ⟨_, ⟨rfl⟩⟩
  have hb1 : Aside (Below w.heap.size w W1 ∧ W1.heap[w.heap.size]? = some (.cells #[.int .u16 (Plan.frame P), .slice a0 (Plan.cores P).length c0, .slice a1 (Plan.parts P).length c1, .slice a2 (Plan.chans P).length c2, .slice a3 (Plan.pairs P).length c3] 28 (0, 0))) := ⟨by rw [HW.out]; exact ⟨bel_one _ _, heap_alloc_new _ _⟩⟩
  have K0 := Aside.mk (few_any W1 _ P (HV.out.below hb1.out.1) hz)
  have K1 : Aside (∀ W, Below w.heap.size w W → Few P → Calls Try.prog 12 #[.agg #[.int .u16 (Plan.frame P), .slice a0 (Plan.cores P).length c0, .slice a1 (Plan.parts P).length c1, .slice a2 (Plan.chans P).length c2, .slice a3 (Plan.pairs P).length c3], .int .i64 p] W (AnsB W (inB (Plan.parts P).length p) (intoL (Plan.parts P).length (Plan.chans P) p.toNat))) := ⟨fun W h hf => into_ans W _ P p (HV.out.below h) hf⟩
  have K2 : Aside (∀ W, Below w.heap.size w W → Few P → Calls Try.prog 13 #[.agg #[.int .u16 (Plan.frame P), .slice a0 (Plan.cores P).length c0, .slice a1 (Plan.parts P).length c1, .slice a2 (Plan.chans P).length c2, .slice a3 (Plan.pairs P).length c3], .int .i64 p] W (AnsB W (inB (Plan.parts P).length p) (intoL (Plan.parts P).length (Plan.chans P) p.toNat))) := ⟨fun W h hf => rinto_ans W _ P p (HV.out.below h) hf⟩
  obtain ⟨q, hq⟩ : ∃ q, inB (Plan.parts P).length p = q := ⟨_, rfl⟩
  obtain ⟨L, hL⟩ : ∃ L, intoL (Plan.parts P).length (Plan.chans P) p.toNat = L := ⟨_, rfl⟩
  obtain ⟨z, hzz⟩ : ∃ z : Int, (if q = true then 0 else 70) = z := ⟨_, rfl⟩
  obtain ⟨M, hM⟩ : ∃ M, (if q = true then L else []) = M := ⟨_, rfl⟩
  rw [hq, hL] at K1 K2
  unfold AnsB at K1 K2
  simp only [hzz, hM] at K1 K2
  clear hp hv hz hq hL hzz hM
  go_enter Try.func3, Try.ntmps3
  go_wp2_with fail
  rw [← HW.out]
  refine K0.out.mono ?_
  rintro e w2 ⟨b, rfl, hF, b2⟩
  cases b with
  | false =>
    have B2 := Aside.mk (bel_then hb1.out.1 b2)
    clear b2 hF
    go_wp2_with fail
    refine (awake_any _).mono ?_
    rintro e w3 ⟨rfl, b3⟩
    have B3 := Aside.mk (bel_then B2.out b3)
    clear b3
    go_wp2_with fail
    go_ret
    exact ⟨rfl, B3.out⟩
  | true =>
    have F := Aside.mk (hF rfl)
    have S2 := Aside.mk (And.intro (bel_then hb1.out.1 b2) (hup b2 hb1.out.2))
    clear b2 hF
    obtain ⟨g0, g1, g2, g3, g4⟩ := box5 S2.out.2
    go_wp2_with fail
    refine (K1.out _ S2.out.1 F.out).mono ?_
    rintro e w3 ⟨v1, rfl, h1, b3⟩
    have S3 := Aside.mk (And.intro (bel_then S2.out.1 b3) (And.intro (hup b3 S2.out.2) h1))
    clear b3 h1 g0 g1 g2 g3 g4
    obtain ⟨g0, g1, g2, g3, g4⟩ := box5 S3.out.2.1
    go_wp2_with fail
    refine (K2.out _ S3.out.1 F.out).mono ?_
    rintro e w4 ⟨v2, rfl, h2, b4⟩
    have S4 := Aside.mk (And.intro (bel_then S3.out.1 b4) (And.intro (S3.out.2.2.below b4) h2))
    clear b4 h2 g0 g1 g2 g3 g4
    go_wp2_with fail
    refine (awake_any _).mono ?_
    rintro e w5 ⟨rfl, b5⟩
    have S5 := Aside.mk (And.intro (bel_then S4.out.1 b5) (And.intro (S4.out.2.1.below b5) (S4.out.2.2.below b5)))
    clear b5
    go_wp2_with fail
    refine (lsame_any _ _ _ _ _ S5.out.2.1 S5.out.2.2).mono ?_
    rintro e w6 ⟨rfl, b6⟩
    have B6 := Aside.mk (bel_then S5.out.1 b6)
    clear b6
    simp only [decide_true]
    go_wp2_with fail
    go_ret
    exact ⟨rfl, B6.out⟩
end Go.Proofs.Ytflkfjjfhhapkaa
