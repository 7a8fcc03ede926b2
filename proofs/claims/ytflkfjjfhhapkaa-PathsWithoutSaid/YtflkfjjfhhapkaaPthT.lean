/- Paths: the law PathsQueue. -/
import Derived.Test.YtflkfjjfhhapkaaPthO
import Derived.Test.YtflkfjjfhhapkaaPthR
namespace Go.Proofs.Ytflkfjjfhhapkaa
open Go.RowKit
set_option linter.unusedVariables false
set_option linter.unusedSimpArgs false

theorem into_ansN (w : World) (v : Value) (P : Plan) (p : Int) (hv : PlanV w v P) (hN : (Plan.parts P).length ≤ 65535) : Calls Try.prog 12 #[v, .int .i64 p] w (AnsC w (inB (Plan.parts P).length p) (intoL (Plan.parts P).length (Plan.chans P) p.toNat)) := by
  cases hq : inB (Plan.parts P).length p with
  | false => exact (into_out w v P p hv hq).mono fun e w' h => ans_out rfl h
  | true =>
    obtain ⟨h0, h1⟩ := inB_iff.1 hq
    obtain ⟨k, rfl⟩ := Int.eq_ofNat_of_zero_le h0
    exact (into_in w v P k hv (by omega) hN).mono fun e w' h => ans_in rfl h
theorem outof_ansN (w : World) (v : Value) (P : Plan) (p : Int) (hv : PlanV w v P) (hN : (Plan.parts P).length ≤ 65535) : Calls Try.prog 15 #[v, .int .i64 p] w (AnsC w (inB (Plan.parts P).length p) (outL (Plan.parts P).length (Plan.chans P) p.toNat)) := by
  cases hq : inB (Plan.parts P).length p with
  | false => exact (outof_out w v P p hv hq).mono fun e w' h => ans_out rfl h
  | true =>
    obtain ⟨h0, h1⟩ := inB_iff.1 hq
    obtain ⟨k, rfl⟩ := Int.eq_ofNat_of_zero_le h0
    exact (outof_in w v P k hv (by omega) hN).mono fun e w' h => ans_in rfl h
theorem lsame_eq {W : World} {v u : Value} {xs : List Bool} (hv : Bools W v xs) (hu : Bools W u xs) : Calls Try.prog 14 #[v, u] W fun e w' => e = .returned (.bool true) ∧ Below W.heap.size W w' := by
  have := lsame_any W v u xs xs hv hu
  simpa using this

set_option maxHeartbeats 6400000 in
set_option maxRecDepth 100000 in
theorem queue_any (w : World) (v : Value) (P : Plan) (f t : Int) (f0 : 0 ≤ f) (f1 : f ≤ 255) (t0 : 0 ≤ t) (t1 : t ≤ 255) (hv : PlanV w v P) (hz : Sz P) : Calls Try.prog 9 #[v, .int .u8 f, .int .u8 t] w fun e w' => e = .returned (.bool true) ∧ Below w.heap.size w w' := by
  have HV := Aside.mk hv
  obtain ⟨a0, c0, a1, c1, a2, c2, a3, c3, rfl, hp, hlen⟩ := hv.open_
  have HC := Aside.mk hp.chans
  obtain ⟨i0, i1⟩ := hp.frame
  have hlenN : (Plan.parts P).length ≤ 9223372036854775807 := (Elems.len hp.parts).choose_spec.choose_spec.2
  obtain ⟨W1, HW⟩ : ∃ W1, Aside (W1 = w.alloc (.cells #[.int .u16 (Plan.frame P), .slice a0 (Plan.cores P).length c0, .slice a1 (Plan.parts P).length c1, .slice a2 (Plan.chans P).length c2, .slice a3 (Plan.pairs P).length c3] 28)) := ⟨_, ⟨rfl⟩⟩
  have hb1 : Aside (Below w.heap.size w W1 ∧ W1.heap[w.heap.size]? = some (.cells #[.int .u16 (Plan.frame P), .slice a0 (Plan.cores P).length c0, .slice a1 (Plan.parts P).length c1, .slice a2 (Plan.chans P).length c2, .slice a3 (Plan.pairs P).length c3] 28 (0, 0))) := ⟨by rw [HW.out]; exact ⟨bel_one _ _, heap_alloc_new _ _⟩⟩
  have K0 := Aside.mk (few_any W1 _ P (HV.out.below hb1.out.1) hz)
  obtain ⟨c, hc⟩ : ∃ c : ChanR, Aside (c = (0, f, t, 0, 0, 0, ())) := ⟨_, ⟨rfl⟩⟩
  have HF : Aside (Few P → (Plan.parts P).length ≤ 65535 ∧ (Plan.chans P).length ≤ 200) := ⟨fun hf => ⟨by have := hf.parts; omega, hf.chans⟩⟩
  have HQ : Aside (∀ W s, Few P → PlanV W s (Plan.withC P (Plan.chans P ++ [c])) → ∀ x : Int, Calls Try.prog 12 #[s, .int .i64 x] W (AnsC W (inB (Plan.parts P).length x) (intoL (Plan.parts P).length (Plan.chans P ++ [c]) x.toNat)) ∧ Calls Try.prog 15 #[s, .int .i64 x] W (AnsC W (inB (Plan.parts P).length x) (outL (Plan.parts P).length (Plan.chans P ++ [c]) x.toNat))) := ⟨fun W s hf hs x => ⟨into_ansN W s _ x hs (HF.out hf).1, outof_ansN W s _ x hs (HF.out hf).1⟩⟩
  have HS : Aside (inB (Plan.parts P).length f = true → inB (Plan.parts P).length t = true → intoL (Plan.parts P).length (Plan.chans P ++ [c]) f.toNat = intoL (Plan.parts P).length (Plan.chans P ++ [c]) t.toNat ∧ outL (Plan.parts P).length (Plan.chans P ++ [c]) f.toNat = outL (Plan.parts P).length (Plan.chans P ++ [c]) t.toNat) := ⟨fun h1 h2 => by
    obtain ⟨_, h1⟩ := inB_iff.1 h1
    obtain ⟨_, h2⟩ := inB_iff.1 h2
    rw [hc.out]
    exact queue_same _ _ _ f.toNat t.toNat rfl (show f = _ by omega) (show t = _ by omega) (by omega) (by omega)⟩
  obtain ⟨n, hn⟩ : ∃ n, (Plan.parts P).length = n := ⟨_, rfl⟩
  obtain ⟨H, hH⟩ : ∃ H, Plan.chans P = H := ⟨_, rfl⟩
  obtain ⟨fr, hfr⟩ : ∃ fr, Plan.frame P = fr := ⟨_, rfl⟩
  rw [hn] at K0 HQ HS HF HW hb1 HV hlenN
  rw [hH] at K0 HQ HS HF HW hb1 HV HC
  rw [hfr] at i0 i1 K0 HW hb1 HV
  rw [hn, hH, hfr]
  clear hp hz hv hn hH hfr
  go_enter Try.func9, Try.ntmps9
  go_wp2_with fail
  rw [← HW.out]
  refine K0.out.mono ?_
  rintro e w2 ⟨b, rfl, hF, b2⟩
  cases b with
  | false =>
    have B2 := Aside.mk (bel_then hb1.out.1 b2)
    clear b2 hF
    go_wp2_with fail
    refine (awake_any _).mono ?_
    rintro e w3 ⟨rfl, b3⟩
    have B3 := Aside.mk (bel_then B2.out b3)
    clear b3
    go_wp2_with fail
    go_ret
    exact ⟨rfl, B3.out⟩
  | true =>
    have F := Aside.mk (hF rfl)
    have hlen : H.length ≤ 200 := (HF.out F.out).2
    have S7 : Aside (∀ W, Below w2.heap.size w2 W → Below w.heap.size w W ∧ W.heap[w.heap.size]? = some (.cells #[.int .u16 fr, .slice a0 (Plan.cores P).length c0, .slice a1 n c1, .slice a2 H.length c2, .slice a3 (Plan.pairs P).length c3] 28 (0, 0)) ∧ PlanV W (.agg #[.int .u16 fr, .slice a0 (Plan.cores P).length c0, .slice a1 n c1, .slice a2 H.length c2, .slice a3 (Plan.pairs P).length c3]) P ∧ Chans W (.slice a2 H.length c2) H) := ⟨fun W h => by
      have k := bel_then hb1.out.1 (bel_then b2 h)
      exact ⟨k, hup (bel_then b2 h) hb1.out.2, HV.out.below k, HC.out.below k⟩⟩
    clear b2 hF
    obtain ⟨g0, g1, g2, g3, g4⟩ := box5 (S7.out _ (Below.refl _ _)).2.1
    obtain ⟨W8, HW8⟩ : ∃ W8, Aside (W8 = w2.alloc (.cells #[.int .u16 fr, .slice a0 (Plan.cores P).length c0, .slice a1 n c1, .slice a2 H.length c2, .slice a3 (Plan.pairs P).length c3] 28)) := ⟨_, ⟨rfl⟩⟩
    have X8 : Aside (W8.heap[w2.heap.size]? = some (.cells #[.int .u16 fr, .slice a0 (Plan.cores P).length c0, .slice a1 n c1, .slice a2 H.length c2, .slice a3 (Plan.pairs P).length c3] 28 (0, 0)) ∧ Below w2.heap.size w2 W8) := ⟨by rw [HW8.out]; exact ⟨heap_top _ _ _ rfl, bel_one _ _⟩⟩
    go_upto_region 4 with (fail)
    rw [← HW8.out]
    clear g0 g1 g2 g3 g4
    obtain ⟨g0, g1, g2, g3, g4⟩ := box5 (S7.out (W8.alloc (.cells #[] 44)) (bel_alloc X8.out.2 _)).2.1
    obtain ⟨n1, n2, n3, n4⟩ := chans_news (S7.out (W8.alloc (.cells #[] 44)) (bel_alloc X8.out.2 _)).2.2.2
    have N4 := Aside.mk n4
    go_wp2_with (at_builtin; go_loud (refine append_rows W8.heap.size rfl _ _ 25 44 _ 6 8 rfl Try.underlying25 A_info_chan rfl (by decide) (by decide) (.slice (some ⟨W8.heap.size, 0, none⟩) 0 0) 0 [] (H.flatMap ChanR.vals) a2 H.length c2 rfl rfl (own_zero W8 _ _) n2 n3 (flat_one ChanR.vals chan_one H) (by simp) (by omega) ?_))
    intro v1 w9 o1 r1 _
    clear g0 g1 g2 g3 g4 n1 n2 n3 n4
    have O1 := Aside.mk (And.intro o1 r1)
    clear o1 r1
    go_wp2_with (at_builtin; go_loud (refine append_elem W8.heap.size rfl _ _ 25 44 _ 6 8 rfl Try.underlying25 A_info_chan rfl (by decide) (by decide) v1 _ _ (ChanR.vals (0, f, t, 0, 0, 0, ())) rfl rfl rfl (chan_one _) O1.out.1 (Nat.le_trans (by simp) O1.out.2.size) (by omega) ?_))
    intro v2 w10 o2 r2 _
    have M := Aside.mk (more_of (L := H) (c := (0, f, t, 0, 0, 0, ())) N4.out ⟨⟨by show (0:Int) ≤ 0; omega, by show (0:Int) ≤ 255; omega⟩, ⟨f0, f1⟩, ⟨t0, t1⟩, ⟨by show (0:Int) ≤ 0; omega, by show (0:Int) ≤ 255; omega⟩, ⟨by show (0:Int) ≤ 0; omega, by show (0:Int) ≤ 255; omega⟩, ⟨by show (0:Int) ≤ 0; omega, by show (0:Int) ≤ 65535; omega⟩⟩ (by rw [Nat.zero_add, List.nil_append]; exact O1.out.1) O1.out.2 (by rw [Nat.zero_add, List.nil_append]; exact o2) r2)
    have X10 := Aside.mk (hup M.out.1 X8.out.1)
    obtain ⟨A2, k2, rfl⟩ : ∃ A k, v2 = .slice A (H.length + 1) k := M.out.2.2.2
    obtain ⟨W11, HW11⟩ : ∃ W11, Aside (W11 = w10.setCell ⟨w2.heap.size, 3, none⟩ (.slice A2 (H.length + 1) k2)) := ⟨_, ⟨rfl⟩⟩
    have hZ : w2.heap.size < W8.heap.size := lt_of_block X8.out.1
    have B11 : Aside (Below w2.heap.size w2 W11) := ⟨by rw [HW11.out]; exact (bel_then X8.out.2 M.out.1).setCell (p := ⟨w2.heap.size, 3, none⟩) (Nat.le_refl _) _⟩
    have C11 : Aside (Chans W11 (.slice A2 (H.length + 1) k2) (H ++ [c])) := ⟨by rw [HW11.out, hc.out]; exact (fresh_set (fun _ _ _ q => q) M.out.2.1 (.inr M.out.2.2.1) hZ).1⟩
    have P11 : Aside (PlanV W11 (.agg #[.int .u16 fr, .slice a0 (Plan.cores P).length c0, .slice a1 n c1, .slice A2 (H.length + 1) k2, .slice a3 (Plan.pairs P).length c3]) (Plan.withC P (H ++ [c]))) := ⟨planV_withC (S7.out _ B11.out).2.2.1 C11.out ⟨_, _, _, rfl⟩⟩
    have X11 : Aside (W11.heap[w2.heap.size]? = some (.cells #[.int .u16 fr, .slice a0 (Plan.cores P).length c0, .slice a1 n c1, .slice A2 (H.length + 1) k2, .slice a3 (Plan.pairs P).length c3] 28 (0, 0))) := ⟨by rw [HW11.out]; exact set3_box X10.out⟩
    have S11 : Aside (∀ W, Below W11.heap.size W11 W → Below w.heap.size w W ∧ W.heap[w2.heap.size]? = some (.cells #[.int .u16 fr, .slice a0 (Plan.cores P).length c0, .slice a1 n c1, .slice A2 (H.length + 1) k2, .slice a3 (Plan.pairs P).length c3] 28 (0, 0)) ∧ PlanV W (.agg #[.int .u16 fr, .slice a0 (Plan.cores P).length c0, .slice a1 n c1, .slice A2 (H.length + 1) k2, .slice a3 (Plan.pairs P).length c3]) (Plan.withC P (H ++ [c])) ∧ W.heap[w.heap.size]? = some (.cells #[.int .u16 fr, .slice a0 (Plan.cores P).length c0, .slice a1 n c1, .slice a2 H.length c2, .slice a3 (Plan.pairs P).length c3] 28 (0, 0))) := ⟨fun W h => ⟨(S7.out _ (bel_then B11.out h)).1, hup h X11.out, P11.out.below h, (S7.out _ (bel_then B11.out h)).2.1⟩⟩
    obtain ⟨y0, y1, y2, y3, y4, z0, z1, z2, z3, z4⟩ := boxz X10.out
    have hZ10 : w2.heap.size < w10.heap.size := lt_of_block X10.out
    clear o2 r2
    go_upto_region 5 with (fail)
    rw [← HW11.out]
    clear y0 y1 y2 y3 y4 z0 z1 z2 z3 z4
    obtain ⟨g0, g1, g2, g3, g4⟩ := box5 (S11.out _ (Below.refl _ _)).2.1
    go_wp2_with fail
    refine ((HQ.out _ _ F.out (S11.out _ (Below.refl _ _)).2.2.1 f).1).mono ?_
    rintro e w12 ⟨va, rfl, ha, b12⟩
    have S12 := Aside.mk (fun W (h : Below w12.heap.size w12 W) => And.intro (S11.out W (bel_then b12 h)) (ha.below h))
    clear ha b12 g0 g1 g2 g3 g4
    obtain ⟨g0, g1, g2, g3, g4⟩ := box5 (S12.out _ (Below.refl _ _)).1.2.1
    go_wp2_with fail
    refine ((HQ.out _ _ F.out (S12.out _ (Below.refl _ _)).1.2.2.1 t).1).mono ?_
    rintro e w13 ⟨vb, rfl, hb, b13⟩
    have S13 := Aside.mk (fun W (h : Below w13.heap.size w13 W) => And.intro (S12.out W (bel_then b13 h)) (hb.below h))
    clear hb b13 g0 g1 g2 g3 g4
    obtain ⟨g0, g1, g2, g3, g4⟩ := box5 (S13.out _ (Below.refl _ _)).1.1.2.1
    go_wp2_with fail
    refine ((HQ.out _ _ F.out (S13.out _ (Below.refl _ _)).1.1.2.2.1 f).2).mono ?_
    rintro e w14 ⟨vc, rfl, hcc, b14⟩
    have S14 := Aside.mk (fun W (h : Below w14.heap.size w14 W) => And.intro (S13.out W (bel_then b14 h)) (hcc.below h))
    clear hcc b14 g0 g1 g2 g3 g4
    obtain ⟨g0, g1, g2, g3, g4⟩ := box5 (S14.out _ (Below.refl _ _)).1.1.1.2.1
    go_wp2_with fail
    refine ((HQ.out _ _ F.out (S14.out _ (Below.refl _ _)).1.1.1.2.2.1 t).2).mono ?_
    rintro e w15 ⟨vd, rfl, hd, b15⟩
    have S15 := Aside.mk (fun W (h : Below w15.heap.size w15 W) => And.intro (S14.out W (bel_then b15 h)) (hd.below h))
    clear hd b15 g0 g1 g2 g3 g4
    go_wp2_with fail
    refine (awake_any _).mono ?_
    rintro e w16 ⟨rfl, b16⟩
    have S16 := Aside.mk (fun W (h : Below w16.heap.size w16 W) => S15.out W (bel_then b16 h))
    clear b16
    obtain ⟨⟨⟨⟨⟨_, _, _, hbox⟩, ta⟩, tb⟩, tc⟩, td⟩ := S16.out _ (Below.refl _ _)
    obtain ⟨g0, g1, g2, g3, g4⟩ := box5 hbox
    have B16 := Aside.mk ((S16.out _ (Below.refl _ _)).1.1.1.1.1)
    have E : Aside ((inB n f = true ↔ f < (n : Int)) ∧ (inB n t = true ↔ t < (n : Int))) := ⟨by rw [inB_iff]; omega, by rw [inB_iff]; omega⟩
    have hfw : IntKind.i64.wrap f = f := IntWalk.i64_in _ (by omega)
    have htw : IntKind.i64.wrap t = t := IntWalk.i64_in _ (by omega)
    cases qf : inB n f <;> cases qt : inB n t
    all_goals
      simp only [ecB_true, ecB_false]
      have e1 := E.out.1
      have e2 := E.out.2
      rw [qf] at e1
      rw [qt] at e2
    case true.true =>
      have k1 : f < (n : Int) := by simpa using e1
      have k2 : t < (n : Int) := by simpa using e2
      rw [qf, lsB_true] at ta tc
      rw [qt, lsB_true] at tb td
      obtain ⟨q1, q2⟩ := HS.out qf qt
      rw [q1] at ta
      rw [q2] at tc
      have KA : Aside (∀ W, Below w16.heap.size w16 W → Calls Try.prog 14 #[va, vb] W fun e w' => e = .returned (.bool true) ∧ Below W.heap.size W w') := ⟨fun W h => lsame_eq (ta.below h) (tb.below h)⟩
      have KB : Aside (∀ W, Below w16.heap.size w16 W → Calls Try.prog 14 #[vc, vd] W fun e w' => e = .returned (.bool true) ∧ Below W.heap.size W w') := ⟨fun W h => lsame_eq (tc.below h) (td.below h)⟩
      clear ta tb tc td q1 q2 e1 e2 qf qt
      go_wp2_with fail
      refine (KA.out _ (Below.refl _ _)).mono ?_
      rintro e w17 ⟨rfl, b17⟩
      have B17 := Aside.mk b17
      clear b17 g0 g1 g2 g3 g4
      go_wp2_with fail
      refine (KB.out _ B17.out).mono ?_
      rintro e w18 ⟨rfl, b18⟩
      have B18 := Aside.mk (bel_then (bel_then B16.out B17.out) b18)
      clear b18
      go_wp2_with fail
      go_ret
      exact ⟨rfl, B18.out⟩
    case false.false =>
      have k1 : ¬ f < (n : Int) := by simpa using e1
      have k2 : ¬ t < (n : Int) := by simpa using e2
      clear ta tb tc td e1 e2 qf qt
      go_wp2_with fail
      go_ret
      exact ⟨rfl, B16.out⟩
    case false.true =>
      have k1 : ¬ f < (n : Int) := by simpa using e1
      have k2 : t < (n : Int) := by simpa using e2
      clear ta tb tc td e1 e2 qf qt
      go_wp2_with fail
      go_ret
      exact ⟨rfl, B16.out⟩
    case true.false =>
      have k1 : f < (n : Int) := by simpa using e1
      have k2 : ¬ t < (n : Int) := by simpa using e2
      clear ta tb tc td e1 e2 qf qt
      go_wp2_with fail
      go_ret
      exact ⟨rfl, B16.out⟩
end Go.Proofs.Ytflkfjjfhhapkaa
