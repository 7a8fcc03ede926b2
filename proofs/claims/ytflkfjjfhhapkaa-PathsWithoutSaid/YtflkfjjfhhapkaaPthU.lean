/- Paths: the law PathsMore. -/
import Derived.Test.YtflkfjjfhhapkaaPthT
namespace Go.Proofs.Ytflkfjjfhhapkaa
open Go.RowKit
set_option linter.unusedVariables false
set_option linter.unusedSimpArgs false

theorem set3_cell {w : World} {Z b o : Nat} {y v : Value} (h : w.cell? ⟨b, o, none⟩ = some v) (hne : b ≠ Z) : (w.setCell ⟨Z, 3, none⟩ y).cell? ⟨b, o, none⟩ = some v :=
  ((Kept.refl (fun k => k = Z) w).setCell (p := ⟨Z, 3, none⟩) (.inl rfl) y).cell h hne
theorem own_zero2 (W : World) (o : Obj) (e : TypeId) (size : Nat) : ((W.drew.alloc o).alloc (.cells #[] e)).ownsRow W.heap.size e size (.slice (some ⟨W.heap.size + 1, 0, none⟩) 0 0) 0 [] := by
  have h := own_zero (W.drew.alloc o) e size
  have q : (W.drew.alloc o).heap.size = W.heap.size + 1 := by simp
  rw [q] at h
  exact own_down h (Nat.le_succ _)
theorem more_end {w3 W8 w6 : World} {H : List ChanR} {c : ChanR} {x0 s0 s1 s2 s3 : Value} {A : Option Addr} {m k : Nat} {xs : List Value} {t : TypeId} (hL : ∀ x ∈ H, ChanR.Ok x) (ok : ChanR.Ok c) (b8 : Below w3.heap.size w3 W8) (hZ : w3.heap.size < W8.heap.size) (b6 : Below W8.heap.size W8 w6)
    (hX : w6.heap[w3.heap.size]? = some (.cells #[x0, s0, s1, s2, s3] t (0, 0))) (o : w6.ownsRow W8.heap.size 44 6 (.slice A m k) m xs) (hm : m = H.length + 1) (hxs : xs = H.flatMap ChanR.vals ++ ChanR.vals c) :
    ∃ A2 k2, Below w3.heap.size w3 (w6.setCell ⟨w3.heap.size, 3, none⟩ (.slice A m k)) ∧ Chans (w6.setCell ⟨w3.heap.size, 3, none⟩ (.slice A m k)) (.slice A2 (H.length + 1) k2) (H ++ [c]) ∧ (w6.setCell ⟨w3.heap.size, 3, none⟩ (.slice A m k)).heap[w3.heap.size]? = some (.cells #[x0, s0, s1, .slice A2 (H.length + 1) k2, s3] t (0, 0)) := by
  subst hm hxs
  have q : w6.ownsRow W8.heap.size 44 6 (.slice A (H.length + 1) k) (H ++ [c]).length ((H ++ [c]).flatMap ChanR.vals) := by
    rw [List.length_append, List.length_singleton, List.flatMap_append]
    simpa using o
  have C : Chans w6 (.slice A (H.length + 1) k) (H ++ [c]) := elems_own ChanR.vals (by decide) (base := W8.heap.size) (e := 44) q (fun x hx => ⟨chan_of_vals (by
    rcases List.mem_append.1 hx with q | q
    · exact hL x q
    · rw [List.mem_singleton.1 q]; exact ok), rfl⟩)
  exact ⟨A, k, (bel_then b8 b6).setCell (p := ⟨w3.heap.size, 3, none⟩) (Nat.le_refl _) _, (fresh_set (fun _ _ _ q => q) C (.inr q) hZ).1, set3_box hX⟩
theorem more_plain (n : Nat) (H : List ChanR) (c : ChanR) (p : Int) (t f : Nat) (ht : ChanR.t c = (t : Int)) (hf : ChanR.f c = (f : Int)) : ∃ La Lb N E, lsB (inB n p) (intoL n H p.toNat) = La ∧ lsB (inB n p) (intoL n (H ++ [c]) p.toNat) = Lb ∧ La.length = N ∧ Lb.length = N ∧ ecB (inB n p) = E ∧ N ≤ n ∧ (∀ i, i < N → La.getD i false = true → Lb.getD i false = true) ∧
    (E = 70 ∨ E = 0 ∧ ((t < N → La.getD t false = false) → (ChanR.k c = 0 → f < N → La.getD f false = false) → La = Lb)) := by
  cases hq : inB n p with
  | false => exact ⟨[], [], 0, 70, rfl, rfl, rfl, rfl, rfl, by omega, by simp, .inl rfl⟩
  | true =>
    refine ⟨intoL n H p.toNat, intoL n (H ++ [c]) p.toNat, n, 0, rfl, rfl, intoL_len _ _ _, intoL_len _ _ _, rfl, by omega, fun i hi h => more_sub n H c _ i hi h, .inr ⟨rfl, fun h1 h2 => (more_same n H c _ ?_ ?_).symm⟩⟩
    · intro t' e hlt
      obtain rfl : t' = t := by omega
      exact h1 hlt
    · intro hk f' e hlt
      obtain rfl : f' = f := by omega
      exact h2 hk hlt
set_option maxHeartbeats 6400000 in
set_option maxRecDepth 100000 in
theorem more_any (w : World) (v : Value) (P : Plan) (c : ChanR) (ok : ChanR.Ok c) (p : Int) (hv : PlanV w v P) (hz : Sz P) : Calls Try.prog 7 #[v, ChanR.val c, .int .i64 p] w fun e w' => e = .returned (.bool true) ∧ Below w.heap.size w w' := by
  have HV := Aside.mk hv
  obtain ⟨a0, c0, a1, c1, a2, c2, a3, c3, rfl, hp, hlen⟩ := hv.open_
  have HC := Aside.mk hp.chans
  obtain ⟨i0, i1⟩ := hp.frame
  have hlenN : (Plan.parts P).length ≤ 9223372036854775807 := (Elems.len hp.parts).choose_spec.choose_spec.2
  obtain ⟨W1, HW⟩ : ∃ W1, Aside (W1 = (w.alloc (.cells #[.int .u16 (Plan.frame P), .slice a0 (Plan.cores P).length c0, .slice a1 (Plan.parts P).length c1, .slice a2 (Plan.chans P).length c2, .slice a3 (Plan.pairs P).length c3] 28)).alloc (.cells #[.int .u8 (ChanR.k c), .int .u8 (ChanR.f c), .int .u8 (ChanR.t c), .int .u8 (ChanR.z c), .int .u8 (ChanR.d c), .int .u16 (ChanR.y c)] 44)) := ⟨_, ⟨rfl⟩⟩
  have hb1 : Aside (Below w.heap.size w W1 ∧ W1.heap[w.heap.size]? = some (.cells #[.int .u16 (Plan.frame P), .slice a0 (Plan.cores P).length c0, .slice a1 (Plan.parts P).length c1, .slice a2 (Plan.chans P).length c2, .slice a3 (Plan.pairs P).length c3] 28 (0, 0)) ∧ W1.heap[w.heap.size + 1]? = some (.cells #[.int .u8 (ChanR.k c), .int .u8 (ChanR.f c), .int .u8 (ChanR.t c), .int .u8 (ChanR.z c), .int .u8 (ChanR.d c), .int .u16 (ChanR.y c)] 44 (0, 0))) := ⟨by rw [HW.out]; exact ⟨bel_two _ _ _, heap_up (heap_top _ _ _ rfl), heap_top _ _ _ (by simp)⟩⟩
  have K0 := Aside.mk (few_any W1 _ P (HV.out.below hb1.out.1) hz)
  have OK := Aside.mk ok
  have HF : Aside (Few P → (Plan.parts P).length ≤ 65535 ∧ (Plan.chans P).length ≤ 200) := ⟨fun hf => ⟨by have := hf.parts; omega, hf.chans⟩⟩
  have KI : Aside (∀ W, Below w.heap.size w W → Few P → Calls Try.prog 12 #[.agg #[.int .u16 (Plan.frame P), .slice a0 (Plan.cores P).length c0, .slice a1 (Plan.parts P).length c1, .slice a2 (Plan.chans P).length c2, .slice a3 (Plan.pairs P).length c3], .int .i64 p] W (AnsC W (inB (Plan.parts P).length p) (intoL (Plan.parts P).length (Plan.chans P) p.toNat))) := ⟨fun W h hf => into_ansN W _ P p (HV.out.below h) (HF.out hf).1⟩
  have HQ : Aside (∀ W s, Few P → PlanV W s (Plan.withC P (Plan.chans P ++ [c])) → Calls Try.prog 12 #[s, .int .i64 p] W (AnsC W (inB (Plan.parts P).length p) (intoL (Plan.parts P).length (Plan.chans P ++ [c]) p.toNat))) := ⟨fun W s hf hs => into_ansN W s _ p hs (HF.out hf).1⟩
  obtain ⟨n, hn⟩ : ∃ n, (Plan.parts P).length = n := ⟨_, rfl⟩
  obtain ⟨H, hH⟩ : ∃ H, Plan.chans P = H := ⟨_, rfl⟩
  obtain ⟨fr, hfr⟩ : ∃ fr, Plan.frame P = fr := ⟨_, rfl⟩
  rw [hn] at K0 KI HQ HF HW hb1 HV hlenN
  rw [hH] at K0 KI HQ HF HW hb1 HV HC
  rw [hfr] at i0 i1 K0 KI HW hb1 HV
  rw [hn, hH, hfr]
  clear hp hz hv hn hH hfr ok
  unfold ChanR.val
  go_enter Try.func7, Try.ntmps7
  go_wp2_with fail
  rw [← HW.out]
  refine K0.out.mono ?_
  rintro e w2 ⟨b, rfl, hF, b2⟩
  cases b with
  | false =>
    have B2 := Aside.mk (bel_then hb1.out.1 b2)
    clear b2 hF
    go_wp2_with fail
    refine (awake_any _).mono ?_
    rintro e w3 ⟨rfl, b3⟩
    have B3 := Aside.mk (bel_then B2.out b3)
    clear b3
    go_wp2_with fail
    go_ret
    exact ⟨rfl, B3.out⟩
  | true =>
    have F := Aside.mk (hF rfl)
    have hlen : H.length ≤ 200 := (HF.out F.out).2
    have S2 := Aside.mk (And.intro (bel_then hb1.out.1 b2) (And.intro (hup b2 hb1.out.2.1) (hup b2 hb1.out.2.2)))
    clear b2 hF
    obtain ⟨g0, g1, g2, g3, g4⟩ := box5 S2.out.2.1
    go_wp2_with fail
    refine (KI.out _ S2.out.1 F.out).mono ?_
    rintro e w3 ⟨va, rfl, ha, b3⟩
    have S7 : Aside (∀ W, Below w3.heap.size w3 W → Below w.heap.size w W ∧ W.heap[w.heap.size]? = some (.cells #[.int .u16 fr, .slice a0 (Plan.cores P).length c0, .slice a1 n c1, .slice a2 H.length c2, .slice a3 (Plan.pairs P).length c3] 28 (0, 0)) ∧ W.heap[w.heap.size + 1]? = some (.cells #[.int .u8 (ChanR.k c), .int .u8 (ChanR.f c), .int .u8 (ChanR.t c), .int .u8 (ChanR.z c), .int .u8 (ChanR.d c), .int .u16 (ChanR.y c)] 44 (0, 0)) ∧ PlanV W (.agg #[.int .u16 fr, .slice a0 (Plan.cores P).length c0, .slice a1 n c1, .slice a2 H.length c2, .slice a3 (Plan.pairs P).length c3]) P ∧ Chans W (.slice a2 H.length c2) H ∧ Bools W va (lsB (inB n p) (intoL n H p.toNat))) := ⟨fun W h => by
      have q := bel_then b3 h
      have k := bel_then S2.out.1 q
      exact ⟨k, hup q S2.out.2.1, hup q S2.out.2.2, HV.out.below k, HC.out.below k, ha.below h⟩⟩
    clear b3 ha g0 g1 g2 g3 g4
    obtain ⟨g0, g1, g2, g3, g4⟩ := box5 (S7.out _ (Below.refl _ _)).2.1
    obtain ⟨W8, HW8⟩ : ∃ W8, Aside (W8 = w3.alloc (.cells #[.int .u16 fr, .slice a0 (Plan.cores P).length c0, .slice a1 n c1, .slice a2 H.length c2, .slice a3 (Plan.pairs P).length c3] 28)) := ⟨_, ⟨rfl⟩⟩
    have X8 : Aside (W8.heap[w3.heap.size]? = some (.cells #[.int .u16 fr, .slice a0 (Plan.cores P).length c0, .slice a1 n c1, .slice a2 H.length c2, .slice a3 (Plan.pairs P).length c3] 28 (0, 0)) ∧ Below w3.heap.size w3 W8) := ⟨by rw [HW8.out]; exact ⟨heap_top _ _ _ rfl, bel_one _ _⟩⟩
    go_upto_region 5 with (fail)
    rw [← HW8.out]
    clear g0 g1 g2 g3 g4
    have Y8 := Aside.mk (S7.out _ X8.out.2)
    obtain ⟨g0, g1, g2, g3, g4⟩ := box5 Y8.out.2.1
    obtain ⟨d0, d1, d2, d3, d4, d5, _⟩ := box6z Y8.out.2.2.1
    obtain ⟨r0, r1, r2, r3, r4, fz0, fz1, fz2, fz3, fz4⟩ := boxz X8.out.1
    have L8 := Aside.mk (chans_news (S7.out _ X8.out.2).2.2.2.2.1)
    have hlW : w3.heap.size ≤ W8.heap.size := X8.out.2.size
    have m0 : w.heap.size ≠ w3.heap.size := Nat.ne_of_lt (lt_of_block (S7.out _ (Below.refl _ _)).2.1)
    have m1 : w.heap.size + 1 ≠ w3.heap.size := Nat.ne_of_lt (lt_of_block (S7.out _ (Below.refl _ _)).2.2.1)
    go_cut [] (fun wc => Aside (∃ A2 k2, Below w3.heap.size w3 wc ∧ Chans wc (.slice A2 (H.length + 1) k2) (H ++ [c]) ∧ wc.heap[w3.heap.size]? = some (.cells #[.int .u16 fr, .slice a0 (Plan.cores P).length c0, .slice a1 n c1, .slice A2 (H.length + 1) k2, .slice a3 (Plan.pairs P).length c3] 28 (0, 0))))
    case first =>
      go_region_held3 (fun w' => w'.cell? ⟨w.heap.size, 3, none⟩ = some (.slice a2 H.length c2) ∧ w'.cell? ⟨w.heap.size + 1, 0, none⟩ = some (.int .u8 (ChanR.k c)) ∧ w'.cell? ⟨w.heap.size + 1, 1, none⟩ = some (.int .u8 (ChanR.f c)) ∧ w'.cell? ⟨w.heap.size + 1, 2, none⟩ = some (.int .u8 (ChanR.t c)) ∧ w'.cell? ⟨w.heap.size + 1, 3, none⟩ = some (.int .u8 (ChanR.z c)) ∧ w'.cell? ⟨w.heap.size + 1, 4, none⟩ = some (.int .u8 (ChanR.d c)) ∧ w'.cell? ⟨w.heap.size + 1, 5, none⟩ = some (.int .u16 (ChanR.y c))) (first | go_keep | (exact ⟨q1 _ _ g3, q1 _ _ d0, q1 _ _ d1, q1 _ _ d2, q1 _ _ d3, q1 _ _ d4, q1 _ _ d5⟩) | (exact ⟨set3_cell (q1 _ _ g3) m0, set3_cell (q1 _ _ d0) m1, set3_cell (q1 _ _ d1) m1, set3_cell (q1 _ _ d2) m1, set3_cell (q1 _ _ d3) m1, set3_cell (q1 _ _ d4) m1, set3_cell (q1 _ _ d5) m1⟩))
        (first
          | (refine step_append_rows W8.heap.size (by rfl) _ _ 25 44 _ 6 8 (by rfl) Try.underlying25 A_info_chan (by rfl) (by decide) (by decide) _ 0 [] (H.flatMap ChanR.vals) a2 H.length c2 (by rfl) (by rfl) (by first | exact own_zero W8.drew _ _ | exact own_zero2 W8 _ _ _ | exact own_below (own_zero W8.drew _ _) (bel_one _ _) | exact own_down (own_zero _ _ _) (by simp)) L8.out.2.1 (chans_news (S7.out _ (by repeat (first | exact X8.out.2 | apply bel_alloc | apply bel_drew))).2.2.2.2.1).2.2.1 (flat_one ChanR.vals chan_one H) (by simp <;> omega) (by omega) ?_; intro v1 w5 o5 r5 _; have r5 : World.grownBy _ w5 (some _) := r5; have B5 : Below W8.heap.size W8 w5 := Below.grown (by repeat (first | exact Below.refl _ _ | apply bel_alloc | apply bel_drew)) r5 (by simp <;> omega) (fun j hj => by injection hj with hj; simp at hj; omega); have q1 := (fun (a : Addr) (v : Value) (h : World.cell? W8 a = some v) => (Kept.of_below (S := fun _ => False) B5).cell h id))
          | (refine step_append_rows W8.heap.size (by rfl) _ _ 25 44 _ 6 8 (by rfl) Try.underlying25 A_info_chan (by rfl) (by decide) (by decide) v1 H.length (H.flatMap ChanR.vals) (ChanR.vals c) _ 1 1 (by rfl) (by rfl) (by first | (exact own_below (by simpa using o5) (bel_one _ _)) | (simpa using o5)) rfl (fun _ => ⟨_, rfl, by first | exact World.news_of_block (heap_alloc_new _ _) | exact World.news_of_block ((r5.block _ (by first | (simp; done) | (simp; omega) | (intro q; simp [Value.ownBlock] at q; omega) | (intro q; simp [Value.ownBlock] at q)) (by first | (simp; done) | (simp; omega) | (intro q; simp [Value.ownBlock] at q; omega) | (intro q; simp [Value.ownBlock] at q))).trans (heap_top _ _ _ (by simp) : ((W8.alloc _).alloc _).heap[_]? = _)) | exact World.news_of_block ((r5.block _ (by first | (simp; done) | (simp; omega) | (intro q; simp [Value.ownBlock] at q; omega) | (intro q; simp [Value.ownBlock] at q)) (by first | (simp; done) | (simp; omega) | (intro q; simp [Value.ownBlock] at q; omega) | (intro q; simp [Value.ownBlock] at q))).trans (heap_up (heap_alloc_new _ _) : ((W8.alloc _).alloc _).heap[_]? = _))⟩) (chan_one c) (Nat.le_trans B5.size (by simp)) (by omega) ?_; intro v2 w6 o6 r6 _; have B6 : Below W8.heap.size W8 w6 := Below.grown (by first | exact B5 | exact bel_alloc B5 _) r6 (by first | exact B5.size | exact (bel_alloc B5 _).size) (fun j hj => own_base o5 j hj); have q1 := (fun (a : Addr) (v : Value) (h : World.cell? W8 a = some v) => (Kept.of_below (S := fun _ => False) B6).cell h id); have X6 := hup B6 X8.out.1; obtain ⟨A2, k2, rfl⟩ := own_len o6; obtain ⟨x0, x1, x2, x3, x4, f0, f1, f2, f3, f4⟩ := boxz X6; have hZ6 := lt_of_block X6))
      all_goals
        go_wp2_with fail
        go_meet
        case rel => first | exact more_end L8.out.2.2.2 OK.out X8.out.2 (lt_of_block X8.out.1) B6 X6 o6 rfl (by simp) | exact ⟨more_end L8.out.2.2.2 OK.out X8.out.2 (lt_of_block X8.out.1) B6 X6 o6 rfl (by simp)⟩
    case rest =>
      obtain ⟨A2, k2, hB, hC, hX⟩ := hcut.out
      have S9 : Aside (∀ W, Below wc.heap.size wc W → Below w.heap.size w W ∧ W.heap[w3.heap.size]? = some (.cells #[.int .u16 fr, .slice a0 (Plan.cores P).length c0, .slice a1 n c1, .slice A2 (H.length + 1) k2, .slice a3 (Plan.pairs P).length c3] 28 (0, 0)) ∧ PlanV W (.agg #[.int .u16 fr, .slice a0 (Plan.cores P).length c0, .slice a1 n c1, .slice A2 (H.length + 1) k2, .slice a3 (Plan.pairs P).length c3]) (Plan.withC P (H ++ [c])) ∧ W.heap[w.heap.size + 1]? = some (.cells #[.int .u8 (ChanR.k c), .int .u8 (ChanR.f c), .int .u8 (ChanR.t c), .int .u8 (ChanR.z c), .int .u8 (ChanR.d c), .int .u16 (ChanR.y c)] 44 (0, 0)) ∧ Bools W va (lsB (inB n p) (intoL n H p.toNat))) := ⟨fun W h => by
        have q := S7.out _ (bel_then hB h)
        exact ⟨q.1, hup h hX, planV_withC q.2.2.2.1 (hC.below h) ⟨_, _, _, rfl⟩, q.2.2.1, q.2.2.2.2.2⟩⟩
      clear hB hC hX g0 g1 g2 g3 g4 d0 d1 d2 d3 d4 d5 r0 r1 r2 r3 r4 fz0 fz1 fz2 fz3 fz4 hcut hlW m0 m1
      obtain ⟨g0, g1, g2, g3, g4⟩ := box5 (S9.out _ (Below.refl _ _)).2.1
      go_wp2_with fail
      refine (HQ.out _ _ F.out (S9.out _ (Below.refl _ _)).2.2.1).mono ?_
      rintro e w12 ⟨vb, rfl, hb, b12⟩
      have S12 := Aside.mk (fun W (h : Below w12.heap.size w12 W) => And.intro (S9.out W (bel_then b12 h)) (hb.below h))
      clear hb b12 g0 g1 g2 g3 g4
      go_wp2_with fail
      refine (awake_any _).mono ?_
      rintro e w13 ⟨rfl, b13⟩
      obtain ⟨⟨B13, _, _, hbox, ta⟩, tb⟩ := S12.out _ b13
      have B13 := Aside.mk B13
      obtain ⟨d0, d1, d2, d3, d4, d5, _⟩ := box6z hbox
      obtain ⟨t, ht⟩ := Int.eq_ofNat_of_zero_le OK.out.t.1
      obtain ⟨f, hf⟩ := Int.eq_ofNat_of_zero_le OK.out.f.1
      have htw : IntKind.i64.wrap (t : Int) = t := IntWalk.i64_in _ (by have := OK.out.t.2; omega)
      have hfw : IntKind.i64.wrap (f : Int) = f := IntWalk.i64_in _ (by have := OK.out.f.2; omega)
      obtain ⟨La, Lb, N, E, eA, eB, lA, lB, eE, hNn, hsub, hend⟩ := more_plain n H c p t f ht hf
      rw [eA] at ta
      rw [eB] at tb
      rw [eE]
      rw [ht] at d2
      rw [hf] at d1
      obtain ⟨kq, hkq⟩ : ∃ kq, ChanR.k c = kq := ⟨_, rfl⟩
      rw [hkq] at d0 hend
      have TA := Aside.mk ta
      have TB := Aside.mk tb
      obtain ⟨A1, k1, e1, _⟩ := ta
      obtain ⟨A3, k3, e2, _⟩ := tb
      rw [lA] at e1
      rw [lB] at e2
      subst e1 e2
      have HS := Aside.mk hsub
      have HE := Aside.mk hend
      have LA := Aside.mk lA
      have LB := Aside.mk lB
      have hN : N ≤ 9223372036854775807 := by omega
      clear hbox b13 hsub hend lA lB eA eB eE hNn ht hf hkq d3 d4 d5 S12 S9 HQ KI K0 S7 L8 X8 Y8 HV HC HW hb1 HF
      go_wp2_with fail
      go_loopg [12, 13] N (fun g s i wr => ∃ (k m : Nat) (s' : Bool), k ≤ N ∧ g = N - k ∧ s = .bool s' ∧ i = .int .i64 k ∧ w13.drewN m = wr ∧ Aside (La = Lb → s' = true))
      case atStart => exact ⟨0, 0, true, by omega, rfl, rfl, rfl, rfl, ⟨fun _ => rfl⟩⟩
      case round =>
        obtain ⟨k, m, s', hk, rfl, rfl, rfl, rfl, hs⟩ := hrel
        by_cases hlt : k < N
        · obtain ⟨ad, rfl, c1⟩ := TA.out.get k (by rw [LA.out]; exact hlt)
          obtain ⟨ad', rfl, c2⟩ := TB.out.get k (by rw [LB.out]; exact hlt)
          obtain ⟨x, Hx⟩ : ∃ x, Aside (La.getD k false = x) := ⟨_, ⟨rfl⟩⟩
          obtain ⟨y, Hy⟩ : ∃ y, Aside (Lb.getD k false = y) := ⟨_, ⟨rfl⟩⟩
          have HX : x = true → y = true := by rw [← Hx.out, ← Hy.out]; exact HS.out k hlt
          rw [Hx.out] at c1
          rw [Hy.out] at c2
          have HR : Aside (La = Lb → (s' && (x == y)) = true) := ⟨fun h => by rw [hs.out h, ← Hx.out, ← Hy.out, h]; simp⟩
          cases x <;> cases y <;> cases s' <;> (first | (exact absurd (HX rfl) (by decide)) | skip)
          all_goals
            clear HX
            go_wp2_with fail
            go_quiet (fail)
            go_wp2_with fail
            go_roundg (N - (k + 1))
            case measure => omega
            case rel => exact ⟨k + 1, _, _, by omega, rfl, rfl, by go_num, rfl, HR⟩
        · obtain rfl : k = N := by omega
          clear hlt hk
          rcases HE.out with rfl | ⟨rfl, hE⟩
          · go_wp2_with fail
            go_quiet (fail)
            go_wp2_with fail
            go_ret
            exact ⟨rfl, bel_drewN B13.out _⟩
          · by_cases h1 : t < k
            · have h1' : (t : Int) < (k : Int) := by omega
              obtain ⟨ad, rfl, c1⟩ := TA.out.get t (by rw [LA.out]; exact h1)
              cases hv1 : La.getD t false
              · rw [hv1] at c1
                by_cases h2 : kq = 0
                · subst h2
                  by_cases h3 : f < k
                  · have h3' : (f : Int) < (k : Int) := by omega
                    obtain ⟨ad', q', c2⟩ := TA.out.get f (by rw [LA.out]; exact h3)
                    first | (obtain rfl : ad = ad' := by injection q') | subst q'
                    cases hv2 : La.getD f false
                    · rw [hv2] at c2
                      obtain rfl : s' = true := hs.out (hE (fun _ => hv1) (fun _ _ => hv2))
                      go_wp2_with fail
                      go_quiet (fail)
                      go_wp2_with fail
                      go_ret
                      exact ⟨rfl, bel_drewN B13.out _⟩
                    · rw [hv2] at c2
                      go_wp2_with fail
                      go_quiet (fail)
                      go_wp2_with fail
                      go_ret
                      exact ⟨rfl, bel_drewN B13.out _⟩
                  · have h3' : ¬ (f : Int) < (k : Int) := by omega
                    obtain rfl : s' = true := hs.out (hE (fun _ => hv1) (fun _ h => absurd h h3))
                    go_wp2_with fail
                    go_quiet (fail)
                    go_wp2_with fail
                    go_ret
                    exact ⟨rfl, bel_drewN B13.out _⟩
                · have h2' : (kq == 0) = false := beq_eq_false_iff_ne.2 h2
                  obtain rfl : s' = true := hs.out (hE (fun _ => hv1) (fun h _ => absurd h h2))
                  go_wp2_with fail
                  go_quiet (fail)
                  go_wp2_with fail
                  go_ret
                  exact ⟨rfl, bel_drewN B13.out _⟩
              · rw [hv1] at c1
                go_wp2_with fail
                go_quiet (fail)
                go_wp2_with fail
                go_ret
                exact ⟨rfl, bel_drewN B13.out _⟩
            · have h1' : ¬ (t : Int) < (k : Int) := by omega
              by_cases h2 : kq = 0
              · subst h2
                by_cases h3 : f < k
                · have h3' : (f : Int) < (k : Int) := by omega
                  obtain ⟨ad', q', c2⟩ := TA.out.get f (by rw [LA.out]; exact h3)
                  subst q'
                  cases hv2 : La.getD f false
                  · rw [hv2] at c2
                    obtain rfl : s' = true := hs.out (hE (fun h => absurd h h1) (fun _ _ => hv2))
                    go_wp2_with fail
                    go_quiet (fail)
                    go_wp2_with fail
                    go_ret
                    exact ⟨rfl, bel_drewN B13.out _⟩
                  · rw [hv2] at c2
                    go_wp2_with fail
                    go_quiet (fail)
                    go_wp2_with fail
                    go_ret
                    exact ⟨rfl, bel_drewN B13.out _⟩
                · have h3' : ¬ (f : Int) < (k : Int) := by omega
                  obtain rfl : s' = true := hs.out (hE (fun h => absurd h h1) (fun _ h => absurd h h3))
                  go_wp2_with fail
                  go_quiet (fail)
                  go_wp2_with fail
                  go_ret
                  exact ⟨rfl, bel_drewN B13.out _⟩
              · have h2' : (kq == 0) = false := beq_eq_false_iff_ne.2 h2
                obtain rfl : s' = true := hs.out (hE (fun h => absurd h h1) (fun h _ => absurd h h2))
                go_wp2_with fail
                go_quiet (fail)
                go_wp2_with fail
                go_ret
                exact ⟨rfl, bel_drewN B13.out _⟩
theorem chan_arr {w : World} {cs : Array Value} {c : ChanR} (h : rd44.R w cs.toList c) : cs = #[.int .u8 (ChanR.k c), .int .u8 (ChanR.f c), .int .u8 (ChanR.t c), .int .u8 (ChanR.z c), .int .u8 (ChanR.d c), .int .u16 (ChanR.y c)] ∧ ChanR.Ok c := by
  obtain ⟨e, k⟩ := chan_cells h
  obtain ⟨L⟩ := cs
  exact ⟨by rw [show L = ChanR.vals c from e]; rfl, k⟩
end Go.Proofs.Ytflkfjjfhhapkaa