/- Paths: the law PathsGoes. -/
import Derived.Test.YtflkfjjfhhapkaaPthN
namespace Go.Proofs.Ytflkfjjfhhapkaa
open Go.RowKit
set_option linter.unusedVariables false
set_option linter.unusedSimpArgs false

theorem three_arr {w : World} {cs : Array Value} {u : rdA47} (h : rd47.R w cs.toList u) : ∃ q0 q1 q2 : Int, cs = #[.int .i64 q0, .int .i64 q1, .int .i64 q2] := by
  obtain ⟨L⟩ := cs
  obtain ⟨hl, hl4, h4⟩ := h
  have hl4 : L.length = 3 := hl4
  match L, hl4 with
  | [y0, y1, y2], _ =>
    have q0 : [y0] = [Value.int .i64 _] := (h4 0 (show 0 < u.length by rw [hl]; decide)).1
    have q1 : [y1] = [Value.int .i64 _] := (h4 1 (show 1 < u.length by rw [hl]; decide)).1
    have q2 : [y2] = [Value.int .i64 _] := (h4 2 (show 2 < u.length by rw [hl]; decide)).1
    obtain rfl : y0 = _ := by injection q0
    obtain rfl : y1 = _ := by injection q1
    obtain rfl : y2 = _ := by injection q2
    exact ⟨_, _, _, rfl⟩
def ecB (q : Bool) : Int := if q = true then 0 else 70
def lsB (q : Bool) (L : List Bool) : List Bool := if q = true then L else []
theorem ecB_true : ecB true = 0 := rfl
theorem ecB_false : ecB false = 70 := rfl
theorem lsB_true (L : List Bool) : lsB true L = L := rfl
theorem lsB_false (L : List Bool) : lsB false L = [] := rfl
def AnsC (w : World) (q : Bool) (L : List Bool) (e : Ending) (w' : World) : Prop := ∃ v, e = .returned (.tuple #[v, .int .i64 (ecB q)]) ∧ Bools w' v (lsB q L) ∧ Below w.heap.size w w'
theorem Bools.get {w : World} {A : Option Addr} {n c : Nat} {L : List Bool} (h : Bools w (.slice A n c) L) (i : Nat) (hi : i < L.length) : ∃ ad, A = some ad ∧ w.cell? (ad.add i) = some (.bool (L.getD i false)) := by
  obtain ⟨A', c', e, _, h⟩ := h
  injection e with e1 e2 e3
  subst e1 e2 e3
  obtain ⟨ad, rfl, hc⟩ := h (by omega)
  exact ⟨ad, rfl, hc i hi⟩
theorem goes_plain (n : Nat) (H : List ChanR) (a b c : Nat) (ha : a < n) (hb : b < n) (hc : c < n) :
    (outL n H a).getD a false = true ∧ (outL n H b).getD b false = true ∧ (intoL n H c).getD c false = true ∧ (outL n H b).getD c false = (intoL n H c).getD b false ∧ ((outL n H a).getD b false = true → (outL n H b).getD c false = true → (outL n H a).getD c false = true ∧ (intoL n H c).getD a false = true) := by
  refine ⟨(outL_get ha).2 (.refl _), (outL_get hb).2 (.refl _), (intoL_get hc).2 (.refl _), ?_, fun h k => ?_⟩
  · rw [Bool.eq_iff_iff, outL_get hc, intoL_get hb]
  · rw [outL_get hb] at h
    rw [outL_get hc] at k
    exact ⟨(outL_get hc).2 (h.trans k), (intoL_get ha).2 (h.trans k)⟩

set_option maxHeartbeats 6400000 in
set_option maxRecDepth 100000 in
theorem goes_any (w : World) (v : Value) (P : Plan) (a b c : Int) (hv : PlanV w v P) (hz : Sz P) : Calls Try.prog 6 #[v, .agg #[.int .i64 a, .int .i64 b, .int .i64 c]] w fun e w' => e = .returned (.bool true) ∧ Below w.heap.size w w' := by
  have HV := Aside.mk hv
  obtain ⟨a0, c0, a1, c1, a2, c2, a3, c3, rfl, hp, hlen⟩ := hv.open_
  obtain ⟨i0, i1⟩ := hp.frame
  obtain ⟨W1, HW⟩ : ∃ W1, Aside (W1 = (w.alloc (.cells #[.int .u16 (Plan.frame P), .slice a0 (Plan.cores P).length c0, .slice a1 (Plan.parts P).length c1, .slice a2 (Plan.chans P).length c2, .slice a3 (Plan.pairs P).length c3] 28)).alloc (.cells #[.int .i64 a, .int .i64 b, .int .i64 c] 47)) := ⟨_, ⟨rfl⟩⟩
  have hb1 : Aside (Below w.heap.size w W1 ∧ W1.heap[w.heap.size]? = some (.cells #[.int .u16 (Plan.frame P), .slice a0 (Plan.cores P).length c0, .slice a1 (Plan.parts P).length c1, .slice a2 (Plan.chans P).length c2, .slice a3 (Plan.pairs P).length c3] 28 (0, 0)) ∧ W1.heap[w.heap.size + 1]? = some (.cells #[.int .i64 a, .int .i64 b, .int .i64 c] 47 (0, 0))) := ⟨by rw [HW.out]; exact ⟨bel_two _ _ _, heap_up (heap_top _ _ _ rfl), heap_top _ _ _ (by simp)⟩⟩
  have K0 := Aside.mk (few_any W1 _ P (HV.out.below hb1.out.1) hz)
  have KO : Aside (∀ W x, Below w.heap.size w W → Few P → Calls Try.prog 15 #[.agg #[.int .u16 (Plan.frame P), .slice a0 (Plan.cores P).length c0, .slice a1 (Plan.parts P).length c1, .slice a2 (Plan.chans P).length c2, .slice a3 (Plan.pairs P).length c3], .int .i64 x] W (AnsC W (inB (Plan.parts P).length x) (outL (Plan.parts P).length (Plan.chans P) x.toNat))) := ⟨fun W x h hf => outof_ans W _ P x (HV.out.below h) hf⟩
  have KI : Aside (∀ W x, Below w.heap.size w W → Few P → Calls Try.prog 12 #[.agg #[.int .u16 (Plan.frame P), .slice a0 (Plan.cores P).length c0, .slice a1 (Plan.parts P).length c1, .slice a2 (Plan.chans P).length c2, .slice a3 (Plan.pairs P).length c3], .int .i64 x] W (AnsC W (inB (Plan.parts P).length x) (intoL (Plan.parts P).length (Plan.chans P) x.toNat))) := ⟨fun W x h hf => into_ans W _ P x (HV.out.below h) hf⟩
  have PL : Aside (∀ x y z : Nat, x < (Plan.parts P).length → y < (Plan.parts P).length → z < (Plan.parts P).length → _) := ⟨fun x y z => goes_plain (Plan.parts P).length (Plan.chans P) x y z⟩
  have LL : Aside ((∀ x, (outL (Plan.parts P).length (Plan.chans P) x).length = (Plan.parts P).length) ∧ ∀ x, (intoL (Plan.parts P).length (Plan.chans P) x).length = (Plan.parts P).length) := ⟨⟨outL_len _ _, intoL_len _ _⟩⟩
  obtain ⟨n, hn⟩ : ∃ n, (Plan.parts P).length = n := ⟨_, rfl⟩
  obtain ⟨H, hH⟩ : ∃ H, Plan.chans P = H := ⟨_, rfl⟩
  obtain ⟨fr, hfr⟩ : ∃ fr, Plan.frame P = fr := ⟨_, rfl⟩
  rw [hn] at KO KI HW hb1 PL LL K0
  rw [hH] at KO KI HW hb1 PL LL K0
  rw [hfr] at i0 i1 KO KI HW hb1 K0
  rw [hn, hH, hfr]
  have hlenN : n ≤ 9223372036854775807 := by rw [← hn]; exact (Elems.len hp.parts).choose_spec.choose_spec.2
  clear hp hv hz hn hH hfr HV
  go_enter Try.func6, Try.ntmps6
  go_wp2_with fail
  rw [← HW.out]
  refine K0.out.mono ?_
  rintro e w2 ⟨f, rfl, hF, b2⟩
  cases f with
  | false =>
    have B2 := Aside.mk (bel_then hb1.out.1 b2)
    clear b2 hF
    go_wp2_with fail
    refine (awake_any _).mono ?_
    rintro e w3 ⟨rfl, b3⟩
    have B3 := Aside.mk (bel_then B2.out b3)
    clear b3
    go_wp2_with fail
    go_ret
    exact ⟨rfl, B3.out⟩
  | true =>
    have F := Aside.mk (hF rfl)
    have S2 := Aside.mk (And.intro (bel_then hb1.out.1 b2) (And.intro (hup b2 hb1.out.2.1) (hup b2 hb1.out.2.2)))
    clear b2 hF
    have d0 : w2.cell? ⟨w.heap.size + 1, 0, none⟩ = some (.int .i64 a) := by simp [World.cell?, S2.out.2.2]
    have d1 : w2.cell? ⟨w.heap.size + 1, 1, none⟩ = some (.int .i64 b) := by simp [World.cell?, S2.out.2.2]
    have d2 : w2.cell? ⟨w.heap.size + 1, 2, none⟩ = some (.int .i64 c) := by simp [World.cell?, S2.out.2.2]
    go_upto_region 3 with (fail)
    go_quiet (fail)
    obtain ⟨W3, HW3⟩ : ∃ W3, Aside (W3 = w2.drewN nq) := ⟨_, ⟨rfl⟩⟩
    rw [← HW3.out]
    have S3 : Aside (Below w.heap.size w W3 ∧ W3.heap[w.heap.size]? = some (.cells #[.int .u16 fr, .slice a0 (Plan.cores P).length c0, .slice a1 n c1, .slice a2 H.length c2, .slice a3 (Plan.pairs P).length c3] 28 (0, 0))) := ⟨by
      rw [HW3.out]
      exact ⟨bel_drewN S2.out.1 nq, hup (below_drewN w2 nq) S2.out.2.1⟩⟩
    clear d0 d1 d2
    obtain ⟨g0, g1, g2, g3, g4⟩ := box5 S3.out.2
    go_wp2_with fail
    refine (KO.out _ a S3.out.1 F.out).mono ?_
    rintro e w4 ⟨v1, rfl, h1, b4⟩
    have S4 := Aside.mk (And.intro (bel_then S3.out.1 b4) (And.intro (hup b4 S3.out.2) h1))
    clear b4 h1 g0 g1 g2 g3 g4
    obtain ⟨g0, g1, g2, g3, g4⟩ := box5 S4.out.2.1
    go_wp2_with fail
    refine (KO.out _ b S4.out.1 F.out).mono ?_
    rintro e w5 ⟨v2, rfl, h2, b5⟩
    have S5 := Aside.mk (And.intro (bel_then S4.out.1 b5) (And.intro (hup b5 S4.out.2.1) (And.intro (S4.out.2.2.below b5) h2)))
    clear b5 h2 g0 g1 g2 g3 g4
    obtain ⟨g0, g1, g2, g3, g4⟩ := box5 S5.out.2.1
    go_wp2_with fail
    refine (KI.out _ c S5.out.1 F.out).mono ?_
    rintro e w6 ⟨v3, rfl, h3, b6⟩
    have S6 := Aside.mk (And.intro (bel_then S5.out.1 b6) (And.intro (hup b6 S5.out.2.1) (And.intro (S5.out.2.2.1.below b6) (And.intro (S5.out.2.2.2.below b6) h3))))
    clear b6 h3 g0 g1 g2 g3 g4
    go_wp2_with fail
    refine (awake_any _).mono ?_
    rintro e w7 ⟨rfl, b7⟩
    have S7 := Aside.mk (And.intro (bel_then S6.out.1 b7) (And.intro (hup b7 S6.out.2.1) (And.intro (S6.out.2.2.1.below b7) (And.intro (S6.out.2.2.2.1.below b7) (S6.out.2.2.2.2.below b7)))))
    clear b7
    obtain ⟨_, hbox, t1, t2, t3⟩ := S7.out
    cases qa : inB n a <;> cases qb : inB n b <;> cases qc : inB n c
    case true.true.true =>
      obtain ⟨sa0, sa1⟩ := inB_iff.1 qa
      obtain ⟨sb0, sb1⟩ := inB_iff.1 qb
      obtain ⟨sc0, sc1⟩ := inB_iff.1 qc
      rw [qa, lsB_true] at t1
      rw [qb, lsB_true] at t2
      rw [qc, lsB_true] at t3
      simp only [ecB_true]
      clear qa qb qc
      obtain ⟨x, rfl⟩ := Int.eq_ofNat_of_zero_le sa0
      obtain ⟨y, rfl⟩ := Int.eq_ofNat_of_zero_le sb0
      obtain ⟨z, rfl⟩ := Int.eq_ofNat_of_zero_le sc0
      have hx : x < n := by omega
      have hy : y < n := by omega
      have hz : z < n := by omega
      obtain ⟨r1, r2, r3, r4, r5⟩ := PL.out x y z hx hy hz
      rw [Int.toNat_natCast] at t1 t2 t3
      obtain ⟨A1, c1', e1, _⟩ := id t1
      obtain ⟨A2, c2', e2, _⟩ := id t2
      obtain ⟨A3, c3', e3, _⟩ := id t3
      rw [LL.out.1] at e1 e2
      rw [LL.out.2] at e3
      subst e1 e2 e3
      obtain ⟨u1, rfl, x1⟩ := t1.get x (by rw [LL.out.1]; exact hx)
      obtain ⟨u2, q, x2⟩ := t1.get y (by rw [LL.out.1]; exact hy)
      obtain rfl : u1 = u2 := by injection q
      obtain ⟨u2, q, x3⟩ := t1.get z (by rw [LL.out.1]; exact hz)
      obtain rfl : u1 = u2 := by injection q
      obtain ⟨u3, rfl, y1⟩ := t2.get y (by rw [LL.out.1]; exact hy)
      obtain ⟨u4, q', y2⟩ := t2.get z (by rw [LL.out.1]; exact hz)
      obtain rfl : u3 = u4 := by injection q'
      obtain ⟨u5, rfl, z1⟩ := t3.get z (by rw [LL.out.2]; exact hz)
      obtain ⟨u6, q'', z2⟩ := t3.get y (by rw [LL.out.2]; exact hy)
      obtain rfl : u5 = u6 := by injection q''
      obtain ⟨u6, q3, z3⟩ := t3.get x (by rw [LL.out.2]; exact hx)
      obtain rfl : u5 = u6 := by injection q3
      obtain ⟨g0, g1, g2, g3, g4⟩ := box5 hbox
      rw [r1] at x1
      rw [r2] at y1
      rw [r3] at z1
      rw [← r4] at z2
      generalize (outL n H x).getD y false = p1 at *
      generalize (outL n H y).getD z false = p2 at *
      generalize (outL n H x).getD z false = p3 at *
      generalize (intoL n H z).getD x false = p4 at *
      have R5 := Aside.mk r5
      have B7 := Aside.mk S7.out.1
      clear t1 t2 t3 q q' q'' q3 r1 r2 r3 r4 r5 hx hy hz S7 S6 S5 S4 S3 PL LL KO KI K0 hbox
      go_upto_region 11 with (fail)
      cases p1 <;> cases p2 <;> (first | (obtain ⟨rfl, rfl⟩ := R5.out rfl rfl) | skip)
      all_goals
        go_quiet (fail)
        go_wp2_with fail
        go_ret
        exact ⟨rfl, bel_drewN B7.out _⟩
    all_goals
      have B7 := Aside.mk S7.out.1
      simp only [ecB_true, ecB_false]
      clear t1 t2 t3 S7 S6 S5 S4 S3 PL LL KO KI K0 hbox qa qb qc
      go_wp2_with fail
      refine (awake_any _).mono ?_
      rintro e w8 ⟨rfl, b8⟩
      have B8 := Aside.mk (bel_then B7.out b8)
      clear b8
      go_wp2_with fail
      go_ret
      exact ⟨rfl, B8.out⟩
end Go.Proofs.Ytflkfjjfhhapkaa
