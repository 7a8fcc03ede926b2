/- Paths: the law PathsEnds. -/
import Derived.Test.YtflkfjjfhhapkaaPthN
import Derived.Test.YtflkfjjfhhapkaaPthH
import Derived.Test.YtflkfjjfhhapkaaSame
namespace Go.Proofs.Ytflkfjjfhhapkaa
open Go.RowKit
set_option linter.unusedVariables false
set_option linter.unusedSimpArgs false

theorem rsame_eq {W : World} {v u : Value} {xs : List Int} (hv : Ints W .i64 v xs) (hu : Ints W .i64 u xs) : Calls Try.prog 21 #[v, u] W fun e w' => e = .returned (.bool true) ∧ Below W.heap.size W w' := by
  have := rsame_any W v u xs xs hv hu
  simpa using this
theorem ends_start (w : World) : EndSt w (.slice (some ⟨w.heap.size, 0, none⟩) 0 0) (.slice (some ⟨w.heap.size + 1, 0, none⟩) 0 0) [] [] ((w.alloc (.cells #[] 3)).alloc (.cells #[] 3)) := by
  refine ⟨bel_two _ _ _, ?_, ?_, fun b h k => ?_⟩
  · exact own_below (own_zero w 3 1) (bel_one _ _)
  · have := own_zero (w.alloc (.cells #[] 3)) 3 1
    have e : (w.alloc (.cells #[] 3)).heap.size = w.heap.size + 1 := by simp
    rw [e] at this
    exact own_down this (Nat.le_succ _)
  · injection h with h
    injection k with k
    simp at h k
    omega
set_option maxHeartbeats 6400000 in
set_option maxRecDepth 100000 in
theorem lends_any (w : World) (v : Value) (P : Plan) (p q : Int) (hv : PlanV w v P) (hz : Sz P) : Calls Try.prog 5 #[v, .int .i64 p, .int .i64 q] w fun e w' => e = .returned (.bool true) ∧ Below w.heap.size w w' := by
  have HV := Aside.mk hv
  obtain ⟨a0, c0, a1, c1, a2, c2, a3, c3, rfl, hp, hlen⟩ := hv.open_
  have HC := Aside.mk hp.chans
  obtain ⟨i0, i1⟩ := hp.frame
  obtain ⟨W1, HW⟩ : ∃ W1, Aside (W1 = w.alloc (.cells #[.int .u16 (Plan.frame P), .slice a0 (Plan.cores P).length c0, .slice a1 (Plan.parts P).length c1, .slice a2 (Plan.chans P).length c2, .slice a3 (Plan.pairs P).length c3] 28)) := ⟨_, ⟨rfl⟩⟩
  have hb1 : Aside (Below w.heap.size w W1 ∧ W1.heap[w.heap.size]? = some (.cells #[.int .u16 (Plan.frame P), .slice a0 (Plan.cores P).length c0, .slice a1 (Plan.parts P).length c1, .slice a2 (Plan.chans P).length c2, .slice a3 (Plan.pairs P).length c3] 28 (0, 0))) := ⟨by rw [HW.out]; exact ⟨bel_one _ _, heap_alloc_new _ _⟩⟩
  have K0 := Aside.mk (few_any W1 _ P (HV.out.below hb1.out.1) hz)
  have KR : Aside (∀ W c, ChanR.Ok c → Below w.heap.size w W → Calls Try.prog 20 #[.agg #[.int .u16 (Plan.frame P), .slice a0 (Plan.cores P).length c0, .slice a1 (Plan.parts P).length c1, .slice a2 (Plan.chans P).length c2, .slice a3 (Plan.pairs P).length c3], ChanR.val c] W fun e w' => e = .returned (.bool (rightB (Plan.parts P).length c)) ∧ Below W.heap.size W w') := ⟨fun W c hc h => rright_any W _ P c hc (HV.out.below h)⟩
  have KE : Aside (∀ W, Below w.heap.size w W → Few P → Calls Try.prog 19 #[.agg #[.int .u16 (Plan.frame P), .slice a0 (Plan.cores P).length c0, .slice a1 (Plan.parts P).length c1, .slice a2 (Plan.chans P).length c2, .slice a3 (Plan.pairs P).length c3], .int .i64 p] W fun e w' => ∃ r1 r2, e = .returned (.tuple #[r1, r2]) ∧ Ints w' .i64 r1 (numsF (inF (Plan.parts P).length p) (Plan.chans P)) ∧ Ints w' .i64 r2 (numsF (outF (Plan.parts P).length p) (Plan.chans P)) ∧ Below W.heap.size W w') := ⟨fun W h hf => ends_any W _ P p (HV.out.below h) (by have := hf.chans; omega)⟩
  obtain ⟨ex, hex⟩ : ∃ ex, exclB P p q = ex := ⟨_, rfl⟩
  have KX : Aside (∀ W, Below w.heap.size w W → Calls Try.prog 22 #[.agg #[.int .u16 (Plan.frame P), .slice a0 (Plan.cores P).length c0, .slice a1 (Plan.parts P).length c1, .slice a2 (Plan.chans P).length c2, .slice a3 (Plan.pairs P).length c3], .int .i64 p, .int .i64 q] W fun e w' => e = .returned (.bool ex) ∧ Below W.heap.size W w') := ⟨fun W h => by rw [← hex]; exact excl_any W _ P p q (HV.out.below h)⟩
  have KY : Aside (∀ W, Below w.heap.size w W → Calls Try.prog 23 #[.agg #[.int .u16 (Plan.frame P), .slice a0 (Plan.cores P).length c0, .slice a1 (Plan.parts P).length c1, .slice a2 (Plan.chans P).length c2, .slice a3 (Plan.pairs P).length c3], .int .i64 p, .int .i64 q] W fun e w' => e = .returned (.bool ex) ∧ Below W.heap.size W w') := ⟨fun W h => by rw [← hex]; exact rexcl_any W _ P p q (HV.out.below h)⟩
  have HF : Aside (Few P → (Plan.chans P).length ≤ 100000) := ⟨fun hf => by have := hf.chans; omega⟩
  obtain ⟨n, hn⟩ : ∃ n, (Plan.parts P).length = n := ⟨_, rfl⟩
  obtain ⟨H, hH⟩ : ∃ H, Plan.chans P = H := ⟨_, rfl⟩
  obtain ⟨fr, hfr⟩ : ∃ fr, Plan.frame P = fr := ⟨_, rfl⟩
  rw [hn] at K0 KR KE KX KY HW hb1
  rw [hH] at K0 KR KE KX KY HW hb1 HC HF
  rw [hfr] at i0 i1 K0 KR KE KX KY HW hb1
  rw [hn, hH, hfr]
  have hlenH : H.length ≤ 9223372036854775807 := by rw [← hH]; exact (Elems.len hp.chans).choose_spec.choose_spec.2
  clear hp hv hz hn hH hfr hex HV
  go_enter Try.func5, Try.ntmps5
  go_wp2_with fail
  rw [← HW.out]
  refine K0.out.mono ?_
  rintro e w2 ⟨f, rfl, hF, b2⟩
  cases f with
  | false =>
    have B2 := Aside.mk (bel_then hb1.out.1 b2)
    clear b2 hF
    go_wp2_with fail
    refine (awake_any _).mono ?_
    rintro e w3 ⟨rfl, b3⟩
    have B3 := Aside.mk (bel_then B2.out b3)
    clear b3
    go_wp2_with fail
    go_ret
    exact ⟨rfl, B3.out⟩
  | true =>
    have F := Aside.mk (hF rfl)
    have S2 := Aside.mk (And.intro (bel_then hb1.out.1 b2) (hup b2 hb1.out.2))
    clear b2 hF
    obtain ⟨g0, g1, g2, g3, g4⟩ := box5 S2.out.2
    go_wp2_with fail
    refine (KE.out _ S2.out.1 F.out).mono ?_
    rintro e w4 ⟨r1, r2, rfl, h1, h2, b4⟩
    have G : Aside (∀ W, Below w4.heap.size w4 W → Below w.heap.size w W ∧ W.heap[w.heap.size]? = some (.cells #[.int .u16 fr, .slice a0 (Plan.cores P).length c0, .slice a1 n c1, .slice a2 H.length c2, .slice a3 (Plan.pairs P).length c3] 28 (0, 0)) ∧ Ints W .i64 r1 (numsF (inF n p) H) ∧ Ints W .i64 r2 (numsF (outF n p) H)) := ⟨fun W h => ⟨bel_then S2.out.1 (bel_then b4 h), hup (bel_then b4 h) S2.out.2, h1.below h, h2.below h⟩⟩
    have hlen : H.length ≤ 100000 := HF.out F.out
    clear b4 h1 h2 g0 g1 g2 g3 g4
    go_wp2_with fail
    go_loopg [9, 10, 11] H.length (fun g s9 s10 i wr => ∃ (k : Nat) (v u : Value), k ≤ H.length ∧ g = H.length - k ∧ i = .int .i64 k ∧ v = s9 ∧ u = s10 ∧ Aside (EndSt w4 v u (numsF (inF n p) (H.take k)) (numsF (outF n p) (H.take k)) wr))
    case atStart => exact ⟨0, _, _, by omega, rfl, rfl, rfl, rfl, ⟨ends_start w4⟩⟩
    case round =>
      obtain ⟨k, v, u, hk, rfl, rfl, rfl, rfl, S⟩ := hrel
      obtain ⟨g0, g1, g2, g3, g4⟩ := box5 (G.out _ S.out.below).2.1
      by_cases hkl : k < H.length
      · have hl := List.getElem?_eq_getElem hkl
        obtain ⟨c, hc⟩ : ∃ c, H[k] = c := ⟨_, rfl⟩
        rw [hc] at hl
        obtain ⟨ad, rfl, d0, d1, d2, d3, d4, d5, ok⟩ := (HC.out.below (G.out _ S.out.below).1).at_ k c hl
        have KC := Aside.mk (fun W h => KR.out W c ok h)
        have hX5 : w.heap.size < wr.heap.size := lt_of_block (G.out _ S.out.below).2.1
        have N1 : Aside (numsF (inF n p) (H.take (k + 1)) = numsF (inF n p) (H.take k) ++ if inF n p c = true then [(k : Int)] else []) := ⟨by rw [take_snoc hl, numsF_snoc, List.length_take, Nat.min_eq_left (by omega)]⟩
        have N2 : Aside (numsF (outF n p) (H.take (k + 1)) = numsF (outF n p) (H.take k) ++ if outF n p c = true then [(k : Int)] else []) := ⟨by rw [take_snoc hl, numsF_snoc, List.length_take, Nat.min_eq_left (by omega)]⟩
        have L1 : Aside ((numsF (inF n p) (H.take k)).length ≤ 100000 ∧ (numsF (outF n p) (H.take k)).length ≤ 100000) := ⟨by
          have h1 := numsF_len (inF n p) (H.take k)
          have h2 := numsF_len (outF n p) (H.take k)
          rw [List.length_take] at h1 h2
          omega⟩
        have E1 : Aside (inF n p c = (rightB n c && decide (ChanR.t c = p)) ∧ outF n p c = (rightB n c && decide (ChanR.f c = p))) := ⟨rfl, rfl⟩
        obtain ⟨br, hbr⟩ : ∃ br, rightB n c = br := ⟨_, rfl⟩
        rw [hbr] at KC E1
        obtain ⟨⟨t0, t1⟩, ⟨f0, f1⟩⟩ := And.intro ok.t ok.f
        generalize inF n p c = y1 at *
        generalize outF n p c = y2 at *
        obtain ⟨xs, hxs⟩ : ∃ xs, numsF (inF n p) (H.take k) = xs := ⟨_, rfl⟩
        obtain ⟨ys, hys⟩ : ∃ ys, numsF (outF n p) (H.take k) = ys := ⟨_, rfl⟩
        rw [hxs] at S N1 L1
        rw [hys] at S N2 L1
        unfold ChanR.val at KC
        clear hl hc ok hbr hxs hys
        obtain ⟨W4, HW4⟩ : ∃ W4, Aside (W4 = wr.alloc (.cells #[.int .u8 (ChanR.k c), .int .u8 (ChanR.f c), .int .u8 (ChanR.t c), .int .u8 (ChanR.z c), .int .u8 (ChanR.d c), .int .u16 (ChanR.y c)] 44)) := ⟨_, ⟨rfl⟩⟩
        have S4 : Aside (EndSt w4 v u xs ys W4 ∧ W4.heap[wr.heap.size]? = some (.cells #[.int .u8 (ChanR.k c), .int .u8 (ChanR.f c), .int .u8 (ChanR.t c), .int .u8 (ChanR.z c), .int .u8 (ChanR.d c), .int .u16 (ChanR.y c)] 44 (0, 0))) := ⟨by
          rw [HW4.out]; exact ⟨S.out.old (bel_one _ _), heap_alloc_new _ _⟩⟩
        go_wp2_with fail
        rw [← HW4.out]
        refine (KC.out _ (G.out _ S4.out.1.below).1).mono ?_
        rintro e w5 ⟨rfl, b5⟩
        have S5 := Aside.mk (And.intro (S4.out.1.old b5) (hup b5 S4.out.2))
        clear b5 g0 g1 g2 g3 g4 d0 d1 d2 d3 d4 d5
        cases br
        · have Z : Aside (y1 = false ∧ y2 = false) := ⟨by rw [E1.out.1, E1.out.2]; simp⟩
          obtain ⟨g0, g1, g2, g3, g4⟩ := box5 (G.out _ S5.out.1.below).2.1
          obtain ⟨d0, d1, d2, d3, d4, d5, _⟩ := box6z S5.out.2
          go_wp2_with fail
          refine (KC.out _ (G.out _ S5.out.1.below).1).mono ?_
          rintro e w7 ⟨rfl, b7⟩
          have S7 := Aside.mk (And.intro (S5.out.1.old b7) (hup b7 S5.out.2))
          clear b7 g0 g1 g2 g3 g4 d0 d1 d2 d3 d4 d5
          go_wp2_with fail
          go_roundg (H.length - (k + 1))
          case measure => omega
          case rel => exact ⟨k + 1, _, _, by omega, rfl, by go_num, rfl, rfl, ⟨by rw [N1.out, N2.out, Z.out.1, Z.out.2]; simpa using S7.out.1⟩⟩
        · obtain ⟨d0, d1, d2, d3, d4, d5, _⟩ := box6z S5.out.2
          obtain ⟨z1, e1⟩ : ∃ z, decide (ChanR.t c = p) = z := ⟨_, rfl⟩
          obtain ⟨z2, e2⟩ : ∃ z, decide (ChanR.f c = p) = z := ⟨_, rfl⟩
          have h1 : (ChanR.t c == p) = z1 := by rw [← e1]; rfl
          have h2 : (ChanR.f c == p) = z2 := by rw [← e2]; rfl
          have Z : Aside (y1 = z1 ∧ y2 = z2) := ⟨by rw [E1.out.1, E1.out.2, e1, e2]; simp⟩
          clear e1 e2
          cases z1
          · clear d0 d1 d2 d3 d4 d5
            obtain ⟨g0, g1, g2, g3, g4⟩ := box5 (G.out _ S5.out.1.below).2.1
            obtain ⟨d0, d1, d2, d3, d4, d5, _⟩ := box6z S5.out.2
            go_wp2_with fail
            refine (KC.out _ (G.out _ S5.out.1.below).1).mono ?_
            rintro e w7 ⟨rfl, b7⟩
            have S7 := Aside.mk (And.intro (S5.out.1.old b7) (hup b7 S5.out.2))
            clear b7 g0 g1 g2 g3 g4 d0 d1 d2 d3 d4 d5
            obtain ⟨d0, d1, d2, d3, d4, d5, _⟩ := box6z S7.out.2
            cases z2
            · go_wp2_with fail
              go_roundg (H.length - (k + 1))
              case measure => omega
              case rel => exact ⟨k + 1, _, _, by omega, rfl, by go_num, rfl, rfl, ⟨by rw [N1.out, N2.out, Z.out.1, Z.out.2]; simpa using S7.out.1⟩⟩
            · go_wp2_with (at_builtin; go_loud (refine append_elem w4.heap.size rfl _ _ 40 3 (.int .i64 0) 1 8 rfl Try.underlying40 A_info_int rfl (by decide) (by decide) u _ _ [.int .i64 (k : Int)] rfl rfl rfl (by simp [Value.oneCell']) S7.out.1.r2 S7.out.1.below.size (by have := L1.out.2; omega) ?_))
              intro v2 w8 hown2 hg2 hat2
              have X2 := Aside.mk (S7.out.1.swap.push hown2 hg2 hat2)
              clear hown2 hg2 hat2 d0 d1 d2 d3 d4 d5
              go_wp2_with fail
              go_roundg (H.length - (k + 1))
              case measure => omega
              case rel => exact ⟨k + 1, _, _, by omega, rfl, by go_num, rfl, rfl, ⟨by rw [N1.out, N2.out, Z.out.1, Z.out.2]; simpa using X2.out.swap⟩⟩
          · clear d0 d1 d3 d4 d5
            go_wp2_with (at_builtin; go_loud (refine append_elem w4.heap.size rfl _ _ 40 3 (.int .i64 0) 1 8 rfl Try.underlying40 A_info_int rfl (by decide) (by decide) v _ _ [.int .i64 (k : Int)] rfl rfl rfl (by simp [Value.oneCell']) S5.out.1.r1 S5.out.1.below.size (by have := L1.out.1; omega) ?_))
            intro v1 w6 hown1 hg hat
            have S6 := Aside.mk (And.intro (S5.out.1.push hown1 hg hat) ((hg.block _ (lt_of_block S5.out.2) (fun e => by have := own_lt S.out.r1 _ e.symm; simp at this)).trans S5.out.2))
            clear hown1 hg hat d2
            obtain ⟨g0, g1, g2, g3, g4⟩ := box5 (G.out _ S6.out.1.below).2.1
            obtain ⟨d0, d1, d2, d3, d4, d5, _⟩ := box6z S6.out.2
            go_wp2_with fail
            refine (KC.out _ (G.out _ S6.out.1.below).1).mono ?_
            rintro e w7 ⟨rfl, b7⟩
            have S7 := Aside.mk (And.intro (S6.out.1.old b7) (hup b7 S6.out.2))
            clear b7 g0 g1 g2 g3 g4 d0 d1 d2 d3 d4 d5
            obtain ⟨d0, d1, d2, d3, d4, d5, _⟩ := box6z S7.out.2
            cases z2
            · go_wp2_with fail
              go_roundg (H.length - (k + 1))
              case measure => omega
              case rel => exact ⟨k + 1, _, _, by omega, rfl, by go_num, rfl, rfl, ⟨by rw [N1.out, N2.out, Z.out.1, Z.out.2]; simpa using S7.out.1⟩⟩
            · go_wp2_with (at_builtin; go_loud (refine append_elem w4.heap.size rfl _ _ 40 3 (.int .i64 0) 1 8 rfl Try.underlying40 A_info_int rfl (by decide) (by decide) u _ _ [.int .i64 (k : Int)] rfl rfl rfl (by simp [Value.oneCell']) S7.out.1.r2 S7.out.1.below.size (by have := L1.out.2; omega) ?_))
              intro v2 w8 hown2 hg2 hat2
              have X2 := Aside.mk (S7.out.1.swap.push hown2 hg2 hat2)
              clear hown2 hg2 hat2 d0 d1 d2 d3 d4 d5
              go_wp2_with fail
              go_roundg (H.length - (k + 1))
              case measure => omega
              case rel => exact ⟨k + 1, _, _, by omega, rfl, by go_num, rfl, rfl, ⟨by rw [N1.out, N2.out, Z.out.1, Z.out.2]; simpa using X2.out.swap⟩⟩
      · obtain rfl : k = H.length := by omega
        have hS := S.out
        rw [List.take_length] at hS
        have T : Aside (∃ xs ys, ∀ W, Below wr.heap.size wr W → Below w.heap.size w W ∧ W.heap[w.heap.size]? = some (.cells #[.int .u16 fr, .slice a0 (Plan.cores P).length c0, .slice a1 n c1, .slice a2 H.length c2, .slice a3 (Plan.pairs P).length c3] 28 (0, 0)) ∧ Ints W .i64 r1 xs ∧ Ints W .i64 r2 ys ∧ Ints W .i64 v xs ∧ Ints W .i64 u ys) := ⟨_, _, fun W h => by
          have z := G.out W (bel_then S.out.below h)
          exact ⟨z.1, z.2.1, z.2.2.1, z.2.2.2, (own_ints hS.r1).below h, (own_ints hS.r2).below h⟩⟩
        obtain ⟨xs, ys, T'⟩ := T.out
        have BW := Aside.mk (fun W h => (T' W h).1)
        have KS1 : Aside (∀ W, Below wr.heap.size wr W → Calls Try.prog 21 #[r1, v] W fun e w' => e = .returned (.bool true) ∧ Below W.heap.size W w') := ⟨fun W h => rsame_eq (T' W h).2.2.1 (T' W h).2.2.2.2.1⟩
        have KS2 : Aside (∀ W, Below wr.heap.size wr W → Calls Try.prog 21 #[r2, u] W fun e w' => e = .returned (.bool true) ∧ Below W.heap.size W w') := ⟨fun W h => rsame_eq (T' W h).2.2.2.1 (T' W h).2.2.2.2.2⟩
        have KX' : Aside (∀ W, Below wr.heap.size wr W → Calls Try.prog 22 #[.agg #[.int .u16 fr, .slice a0 (Plan.cores P).length c0, .slice a1 n c1, .slice a2 H.length c2, .slice a3 (Plan.pairs P).length c3], .int .i64 p, .int .i64 q] W fun e w' => e = .returned (.bool ex) ∧ Below W.heap.size W w') := ⟨fun W h => KX.out W (T' W h).1⟩
        have KY' : Aside (∀ W, Below wr.heap.size wr W → Calls Try.prog 23 #[.agg #[.int .u16 fr, .slice a0 (Plan.cores P).length c0, .slice a1 n c1, .slice a2 H.length c2, .slice a3 (Plan.pairs P).length c3], .int .i64 p, .int .i64 q] W fun e w' => e = .returned (.bool ex) ∧ Below W.heap.size W w') := ⟨fun W h => KY.out W (T' W h).1⟩
        clear hS T T' KX KY KE KR K0 G S HC hlenH hk hkl i0 i1 hlen
        go_upto_region 13 with (fail)
        go_region_held3 (fun w' => w'.cell? ⟨w.heap.size, 0, none⟩ = some (.int .u16 fr) ∧ w'.cell? ⟨w.heap.size, 1, none⟩ = some (.slice a0 (Plan.cores P).length c0) ∧ w'.cell? ⟨w.heap.size, 2, none⟩ = some (.slice a1 n c1) ∧ w'.cell? ⟨w.heap.size, 3, none⟩ = some (.slice a2 H.length c2) ∧ w'.cell? ⟨w.heap.size, 4, none⟩ = some (.slice a3 (Plan.pairs P).length c3)) (first | go_keep | (exact ⟨q1 _ _ (by assumption), q1 _ _ (by assumption), q1 _ _ (by assumption), q1 _ _ (by assumption), q1 _ _ (by assumption)⟩))
          (first
            | (go_at_call 11; refine (awake_any _).mono ?_; rintro e w6 ⟨rfl, b6⟩; have B := (below_then (below_drewN wr 1) b6 : Below wr.heap.size wr w6); have q1 := (fun (a : Addr) (v : Value) (h : World.cell? _ a = some v) => (Kept.of_below (S := fun _ => False) b6).cell h id))
            | (go_at_call 21; with_reducible refine (KS1.out _ B).mono ?_; rintro e w7 ⟨rfl, b7⟩; have B := (bel_then B b7 : Below wr.heap.size wr w7); have q1 := (fun (a : Addr) (v : Value) (h : World.cell? _ a = some v) => (Kept.of_below (S := fun _ => False) b7).cell h id))
            | (go_at_call 21; with_reducible refine (KS2.out _ B).mono ?_; rintro e w8 ⟨rfl, b8⟩; have B := (bel_then B b8 : Below wr.heap.size wr w8); have q1 := (fun (a : Addr) (v : Value) (h : World.cell? _ a = some v) => (Kept.of_below (S := fun _ => False) b8).cell h id))
            | (go_at_call 22; refine (KX'.out _ B).mono ?_; rintro e w9 ⟨rfl, b9⟩; have B := (bel_then B b9 : Below wr.heap.size wr w9); have q1 := (fun (a : Addr) (v : Value) (h : World.cell? _ a = some v) => (Kept.of_below (S := fun _ => False) b9).cell h id))
            | (go_at_call 23; refine (KY'.out _ B).mono ?_; rintro e w9 ⟨rfl, b9⟩; have B := (bel_then B b9 : Below wr.heap.size wr w9); have q1 := (fun (a : Addr) (v : Value) (h : World.cell? _ a = some v) => (Kept.of_below (S := fun _ => False) b9).cell h id)))
        all_goals
          have BB := Aside.mk (BW.out _ B)
          clear q1 B g0 g1 g2 g3 g4
          go_wp2_with fail
          go_ret
          exact ⟨rfl, BB.out⟩
end Go.Proofs.Ytflkfjjfhhapkaa
