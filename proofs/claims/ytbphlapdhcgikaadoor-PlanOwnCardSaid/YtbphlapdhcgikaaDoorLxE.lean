/- The law PlanOwn. -/
import Derived.Test.YtbphlapdhcgikaaDoorOwnA
namespace Go.Proofs.YtbphlapdhcgikaaDoor
open Go.RowKit
set_option linter.unusedVariables false
set_option linter.unusedSimpArgs false

set_option maxHeartbeats 6400000 in
set_option maxRecDepth 100000 in
theorem pown_any (w : World) (v : Value) (P : Plan) (hg : ETy w) (hv : PlanV w v P) (hz : Sz3 P) : Calls Tryd.prog 9 #[v] w fun e w' => e = .returned (.bool true) ∧ Below w.heap.size w w' := by
  have HV := Aside.mk hv
  have HG := Aside.mk hg
  obtain ⟨a0, c0, a1, c1, a2, c2, a3, c3, rfl, hp, hlen⟩ := hv.open_
  obtain ⟨W1, HW⟩ : ∃ W1, Aside (W1 = w.alloc (.cells #[.int .u16 (Plan.frame P), .slice a0 (Plan.cores P).length c0, .slice a1 (Plan.parts P).length c1, .slice a2 (Plan.chans P).length c2, .slice a3 (Plan.pairs P).length c3] 28)) := ⟨_, ⟨rfl⟩⟩
  have B1 : Aside (Below w.heap.size w W1 ∧ W1.heap[w.heap.size]? = some (.cells #[.int .u16 (Plan.frame P), .slice a0 (Plan.cores P).length c0, .slice a1 (Plan.parts P).length c1, .slice a2 (Plan.chans P).length c2, .slice a3 (Plan.pairs P).length c3] 28 (0, 0))) := ⟨by rw [HW.out]; exact ⟨bel_one _ _, heap_alloc_new _ _⟩⟩
  have K0 := Aside.mk (few3_any W1 _ P (HV.out.below B1.out.1) hz)
  obtain ⟨x0, x1, x2, x3, x4⟩ := box5 B1.out.2
  clear hv hg hz hp hlen
  go_enter Tryd.func9, Tryd.ntmps9
  go_upto_region 1 with (fail)
  rw [← HW.out]
  go_wp2_with fail
  refine K0.out.mono ?_
  rintro e w2 ⟨b, rfl, hF, bb⟩
  have B2 := Aside.mk (And.intro (bel_then B1.out.1 bb) (hup bb B1.out.2))
  clear bb x0 x1 x2 x3 x4 K0
  cases b with
  | false =>
    clear hF
    go_wp2_with fail
    refine (awake_any _ (HG.out.below B2.out.1)).mono ?_
    rintro e w3 ⟨rfl, b3⟩
    have B3 := Aside.mk (bel_then B2.out.1 b3)
    clear b3
    go_wp2_with fail
    go_ret
    exact ⟨rfl, B3.out⟩
  | true =>
    have F := Aside.mk (hF rfl)
    clear hF
    have KC : Aside (∀ W, Below w2.heap.size w2 W → Calls Tryd.prog 18 #[.agg #[.int .u16 (Plan.frame P), .slice a0 (Plan.cores P).length c0, .slice a1 (Plan.parts P).length c1, .slice a2 (Plan.chans P).length c2, .slice a3 (Plan.pairs P).length c3]] W fun e w' => ∃ e0 k0 e1 k1 e2 k2 e3 k3, e = .returned (.agg #[.int .u16 (Plan.frame P), .slice e0 (Plan.cores P).length k0, .slice e1 (Plan.parts P).length k1, .slice e2 (Plan.chans P).length k2, .slice e3 (Plan.pairs P).length k3]) ∧ Below w2.heap.size w2 w' ∧ C4.CopyR W w' P (.slice e0 (Plan.cores P).length k0) (.slice e1 (Plan.parts P).length k1) (.slice e2 (Plan.chans P).length k2) (.slice e3 (Plan.pairs P).length k3)) := ⟨fun W h => by
      have f1 := F.out.sum
      refine (C4.copy_any W _ P (HV.out.below (bel_then B2.out.1 h)) (by omega) (by omega) (by omega) (fun L hL => by have := F.out.cores L hL; omega) (fun x hx => by have := F.out.objs x hx; omega) (by omega)).mono ?_
      rintro e w' ⟨e0, k0, e1, k1, e2, k2, e3, k3, rfl, hc⟩
      exact ⟨e0, k0, e1, k1, e2, k2, e3, k3, rfl, bel_then h hc.below, hc⟩⟩
    have SW : Aside (∀ w', Below w2.heap.size w2 w' → w'.cell? ⟨w.heap.size, 0, none⟩ = some (.int .u16 (Plan.frame P)) ∧ w'.cell? ⟨w.heap.size, 1, none⟩ = some (.slice a0 (Plan.cores P).length c0) ∧ w'.cell? ⟨w.heap.size, 2, none⟩ = some (.slice a1 (Plan.parts P).length c1) ∧ w'.cell? ⟨w.heap.size, 3, none⟩ = some (.slice a2 (Plan.chans P).length c2) ∧ w'.cell? ⟨w.heap.size, 4, none⟩ = some (.slice a3 (Plan.pairs P).length c3)) := ⟨fun w' b => box5 (hup b B2.out.2)⟩
    have SR := Aside.mk (Below.refl w2.heap.size w2)
    go_upto_region 3 with (fail)
    go_cut [3, 4] (fun p q wc => ∃ (T U lo : Nat) (X : World), ∃ e0 k0 e1 k1 e2 k2 e3 k3 f0 l0 f1 l1 f2 l2 f3 l3, p = .pointer (some ⟨T, 0, none⟩) ∧ q = .pointer (some ⟨U, 0, none⟩) ∧
      Aside (OwSt w2 P lo X T U (.agg #[.int .u16 (Plan.frame P), .slice f0 (Plan.cores P).length l0, .slice f1 (Plan.parts P).length l1, .slice f2 (Plan.chans P).length l2, .slice f3 (Plan.pairs P).length l3]) e0 e1 e2 e3 wc ∧
        HeapAt wc T (.cells #[.int .u16 (Plan.frame P), .slice e0 (Plan.cores P).length k0, .slice e1 (Plan.parts P).length k1, .slice e2 (Plan.chans P).length k2, .slice e3 (Plan.pairs P).length k3] 28 (0, 0)) ∧
        HeapAt wc U (.cells #[.int .u16 (Plan.frame P), .slice f0 (Plan.cores P).length l0, .slice f1 (Plan.parts P).length l1, .slice f2 (Plan.chans P).length l2, .slice f3 (Plan.pairs P).length l3] 28 (0, 0))))
    case first =>
      go_loud (go_region_held3 (fun w' => w'.cell? ⟨w.heap.size, 0, none⟩ = some (.int .u16 (Plan.frame P)) ∧ w'.cell? ⟨w.heap.size, 1, none⟩ = some (.slice a0 (Plan.cores P).length c0) ∧ w'.cell? ⟨w.heap.size, 2, none⟩ = some (.slice a1 (Plan.parts P).length c1) ∧ w'.cell? ⟨w.heap.size, 3, none⟩ = some (.slice a2 (Plan.chans P).length c2) ∧ w'.cell? ⟨w.heap.size, 4, none⟩ = some (.slice a3 (Plan.pairs P).length c3)) (first | ((have h0 := hy); (with_reducible refine SW.out _ ?_); (repeat (first | with_reducible exact h0 | with_reducible apply bel_drew | with_reducible apply bel_alloc | ((with_reducible refine set5_below ?_ ?_); rotate_left; (have q1 := hx.size; (try have q2 := hy.size); (try simp only [World.heap_size_alloc]); omega)))); done) | ((have h0 := hx); (with_reducible refine SW.out _ ?_); (repeat (first | with_reducible exact h0 | with_reducible apply bel_drew | with_reducible apply bel_alloc | ((with_reducible refine set5_below ?_ ?_); rotate_left; (have q1 := hx.size; (try have q2 := hy.size); (try simp only [World.heap_size_alloc]); omega)))); done) | ((have h0 := SR.out); (with_reducible refine SW.out _ ?_); (repeat (first | with_reducible exact h0 | with_reducible apply bel_drew | with_reducible apply bel_alloc | ((with_reducible refine set5_below ?_ ?_); rotate_left; (have q1 := hx.size; (try have q2 := hy.size); (try simp only [World.heap_size_alloc]); omega)))); done) | go_keep)
        (first
          | (have h0 := hx; (with_reducible refine (KC.out _ ?_).mono ?_); (repeat (first | with_reducible exact h0 | with_reducible apply bel_drew | with_reducible apply bel_alloc | ((with_reducible refine set5_below ?_ ?_); rotate_left; (have q1 := hx.size; (try have q2 := hy.size); (try simp only [World.heap_size_alloc]); omega)))); rintro e x2 ⟨f0, l0, f1, l1, f2, l2, f3, l3, rfl, hy, hd⟩; have q2 := hy.size; have q3 := hd.below.size; (first | (with_reducible have T0 := hup hd.below T0; obtain ⟨p00, p01, p02, p03, p04, m00, m01, m02, m03, m04⟩ := boxz T0; have n05 := lt_of_block T0) | (with_reducible have T0 := hup hd.below (tu1 T0); obtain ⟨p00, p01, p02, p03, p04, m00, m01, m02, m03, m04⟩ := boxz T0; have n05 := lt_of_block T0) | skip); (first | (with_reducible have T1 := hup hd.below T1; obtain ⟨p10, p11, p12, p13, p14, m10, m11, m12, m13, m14⟩ := boxz T1; have n15 := lt_of_block T1) | (with_reducible have T1 := hup hd.below (tu1 T1); obtain ⟨p10, p11, p12, p13, p14, m10, m11, m12, m13, m14⟩ := boxz T1; have n15 := lt_of_block T1) | skip); (first | ((with_reducible have T2 : x2.heap[x1.heap.size]? = some (.cells #[.int .u16 0, .slice none 0 0, .slice none 0 0, .slice none 0 0, .slice none 0 0] 28 (0, 0)) := hup hd.below tz01; obtain ⟨p20, p21, p22, p23, p24, m20, m21, m22, m23, m24⟩ := boxz T2; have n25 := lt_of_block T2) ; (with_reducible have T3 : x2.heap[x1.heap.size + 1]? = some (.cells #[.int .u16 0, .slice none 0 0, .slice none 0 0, .slice none 0 0, .slice none 0 0] 28 (0, 0)) := hup hd.below tz10; obtain ⟨p30, p31, p32, p33, p34, m30, m31, m32, m33, m34⟩ := boxz T3; have n35 := lt_of_block T3)) | ((with_reducible have T2 : x2.heap[x1.heap.size]? = some (.cells #[.int .u16 0, .slice none 0 0, .slice none 0 0, .slice none 0 0, .slice none 0 0] 28 (0, 0)) := hup hd.below tz00; obtain ⟨p20, p21, p22, p23, p24, m20, m21, m22, m23, m24⟩ := boxz T2; have n25 := lt_of_block T2)) | ((with_reducible have T2 : x2.heap[x1.heap.size]? = some (.cells #[.int .u16 0, .slice none 0 0, .slice none 0 0, .slice none 0 0, .slice none 0 0] 28 (0, 0)) := hup hd.below tz01d; obtain ⟨p20, p21, p22, p23, p24, m20, m21, m22, m23, m24⟩ := boxz T2; have n25 := lt_of_block T2) ; (with_reducible have T3 : x2.heap[x1.heap.size + 1]? = some (.cells #[.int .u16 0, .slice none 0 0, .slice none 0 0, .slice none 0 0, .slice none 0 0] 28 (0, 0)) := hup hd.below tz10d; obtain ⟨p30, p31, p32, p33, p34, m30, m31, m32, m33, m34⟩ := boxz T3; have n35 := lt_of_block T3)) | ((with_reducible have T2 : x2.heap[x1.heap.size]? = some (.cells #[.int .u16 0, .slice none 0 0, .slice none 0 0, .slice none 0 0, .slice none 0 0] 28 (0, 0)) := hup hd.below tz00d; obtain ⟨p20, p21, p22, p23, p24, m20, m21, m22, m23, m24⟩ := boxz T2; have n25 := lt_of_block T2)) | skip))
          | (have h0 := SR.out; (with_reducible refine (KC.out _ ?_).mono ?_); (repeat (first | with_reducible exact h0 | with_reducible apply bel_drew | with_reducible apply bel_alloc | ((with_reducible refine set5_below ?_ ?_); rotate_left; (have q1 := hx.size; (try have q2 := hy.size); (try simp only [World.heap_size_alloc]); omega)))); rintro e x1 ⟨e0, k0, e1, k1, e2, k2, e3, k3, rfl, hx, hc⟩; have q1 := hx.size; (first | ((with_reducible have T0 : x1.heap[w2.heap.size]? = some (.cells #[.int .u16 0, .slice none 0 0, .slice none 0 0, .slice none 0 0, .slice none 0 0] 28 (0, 0)) := hup hc.below tz01; obtain ⟨p00, p01, p02, p03, p04, m00, m01, m02, m03, m04⟩ := boxz T0; have n05 := lt_of_block T0) ; (with_reducible have T1 : x1.heap[w2.heap.size + 1]? = some (.cells #[.int .u16 0, .slice none 0 0, .slice none 0 0, .slice none 0 0, .slice none 0 0] 28 (0, 0)) := hup hc.below tz10; obtain ⟨p10, p11, p12, p13, p14, m10, m11, m12, m13, m14⟩ := boxz T1; have n15 := lt_of_block T1)) | ((with_reducible have T0 : x1.heap[w2.heap.size]? = some (.cells #[.int .u16 0, .slice none 0 0, .slice none 0 0, .slice none 0 0, .slice none 0 0] 28 (0, 0)) := hup hc.below tz00; obtain ⟨p00, p01, p02, p03, p04, m00, m01, m02, m03, m04⟩ := boxz T0; have n05 := lt_of_block T0)) | ((with_reducible have T0 : x1.heap[w2.heap.size]? = some (.cells #[.int .u16 0, .slice none 0 0, .slice none 0 0, .slice none 0 0, .slice none 0 0] 28 (0, 0)) := hup hc.below tz01d; obtain ⟨p00, p01, p02, p03, p04, m00, m01, m02, m03, m04⟩ := boxz T0; have n05 := lt_of_block T0) ; (with_reducible have T1 : x1.heap[w2.heap.size + 1]? = some (.cells #[.int .u16 0, .slice none 0 0, .slice none 0 0, .slice none 0 0, .slice none 0 0] 28 (0, 0)) := hup hc.below tz10d; obtain ⟨p10, p11, p12, p13, p14, m10, m11, m12, m13, m14⟩ := boxz T1; have n15 := lt_of_block T1)) | ((with_reducible have T0 : x1.heap[w2.heap.size]? = some (.cells #[.int .u16 0, .slice none 0 0, .slice none 0 0, .slice none 0 0, .slice none 0 0] 28 (0, 0)) := hup hc.below tz00d; obtain ⟨p00, p01, p02, p03, p04, m00, m01, m02, m03, m04⟩ := boxz T0; have n05 := lt_of_block T0)) | skip))))
      all_goals go_wp2_with fail
      all_goals
        go_meet
        case rel =>
          have z1 := hc.below.size
          try (have G0 : HeapAt _ _ _ := T0)
          try (have G1 : HeapAt _ _ _ := T1)
          try (have G2 : HeapAt _ _ _ := T2)
          try (have G3 : HeapAt _ _ _ := T3)
          have z2 := hd.below.size
          refine ⟨_, _, _, x1, e0, k0, e1, k1, e2, k2, e3, k3, f0, l0, f1, l1, f2, l2, f3, l3, rfl, rfl, ⟨OwSt.of hc hd ?_ ?_ ?_ ?_ ?_ ?_ ?_, ?_⟩⟩
          · have h0 := SR.out
            repeat (first | with_reducible exact h0 | with_reducible apply bel_drew | with_reducible apply bel_alloc)
          · have h0 := Below.refl x1.heap.size x1
            repeat (first | with_reducible exact h0 | with_reducible apply bel_drew | with_reducible apply bel_alloc)
          · first
              | with_reducible exact kept_two
              | with_reducible exact kept_s1a (.inl rfl)
              | with_reducible exact kept_s1a (.inr rfl)
              | with_reducible exact kept_s2 (.inl rfl) (.inr rfl)
              | with_reducible exact kept_s2 (.inr rfl) (.inl rfl)
          · first | omega | (simp; done) | (simp at z1 z2 ⊢; omega)
          · first | omega | (simp; done) | (simp at z1 z2 ⊢; omega)
          · first | omega | (simp; done) | (simp at z1 z2 ⊢; omega)
          · first | omega | (simp; done) | (simp at z1 z2 ⊢; omega)
          · first
              | with_reducible exact shapeA
              | with_reducible exact shapeB
              | with_reducible exact shapeC G0
              | with_reducible exact shapeC G1
              | with_reducible exact shapeC G2
              | with_reducible exact shapeC G3
              | with_reducible exact shapeD G0
              | with_reducible exact shapeD G1
              | with_reducible exact shapeD G2
              | with_reducible exact shapeD G3
              | with_reducible exact shapeE G0 G1 (by omega)
              | with_reducible exact shapeE G0 G2 (by omega)
              | with_reducible exact shapeE G0 G3 (by omega)
              | with_reducible exact shapeE G1 G0 (by omega)
              | with_reducible exact shapeE G1 G2 (by omega)
              | with_reducible exact shapeE G1 G3 (by omega)
              | with_reducible exact shapeE G2 G0 (by omega)
              | with_reducible exact shapeE G2 G1 (by omega)
              | with_reducible exact shapeE G2 G3 (by omega)
              | with_reducible exact shapeE G3 G0 (by omega)
              | with_reducible exact shapeE G3 G1 (by omega)
              | with_reducible exact shapeE G3 G2 (by omega)
    case rest =>
      obtain ⟨T, U, lo, X, e0, k0, e1, k1, e2, k2, e3, k3, f0, l0, f1, l1, f2, l2, f3, l3, rfl, rfl, S⟩ := hcut
      have O0 : Aside (Own lo X wc wc) := ⟨Own.start S.out.1.xk⟩
      have TT : Aside (∀ wr, Own lo X wc wr → wr.heap[T]? = some (.cells #[.int .u16 (Plan.frame P), .slice e0 (Plan.cores P).length k0, .slice e1 (Plan.parts P).length k1, .slice e2 (Plan.chans P).length k2, .slice e3 (Plan.pairs P).length k3] 28 (0, 0))) := ⟨fun wr h => h.kept.heap S.out.2.1 (by have := S.out.1.tx; omega)⟩
      have nC : (Plan.cores P).length ≤ 2000 := by have := F.out.sum; omega
      have nA : (Plan.parts P).length ≤ 2000 := by have := F.out.sum; omega
      have nH : (Plan.chans P).length ≤ 2000 := by have := F.out.sum; omega
      have nQ : (Plan.pairs P).length ≤ 2000 := by have := F.out.sum; omega
      clear SW SR KC
      go_wp2_with fail
      go_loopg [5] (Plan.cores P).length (fun g sc wr => ∃ (i : Nat), i ≤ (Plan.cores P).length ∧ g = (Plan.cores P).length - i ∧ sc = .int .i64 i ∧ Aside (Own lo X wc wr))
      case atStart => exact ⟨0, by omega, rfl, rfl, O0⟩
      case round =>
        rename World => v1
        obtain ⟨i, hiv1, rfl, rfl, O1⟩ := hrel
        obtain ⟨x0, x1, x2, x3, x4⟩ := box5 (TT.out v1 O1.out)
        by_cases hlv1 : i < (Plan.cores P).length
        · obtain ⟨L, hL⟩ : ∃ L, (Plan.cores P)[i]? = some L := ⟨_, List.getElem?_eq_getElem hlv1⟩
          obtain ⟨G, AA, c, hE, hc, hin⟩ := S.out.1.wr.cores i L hL
          cases hE
          have hLn := F.out.cores L (List.mem_of_getElem? hL)
          have y := O1.out.sl hc
          clear hL
          go_wp2_with fail
          clear y x0 x1 x2 x3 x4
          go_loopg [6] L.length (fun g sc wr => ∃ (k : Nat), k ≤ L.length ∧ g = L.length - k ∧ sc = .int .i64 k ∧ Aside (Own lo X wc wr))
          case atStart => exact ⟨0, by omega, rfl, rfl, O1⟩
          case round =>
            rename World => v2
            obtain ⟨k, hkv2, rfl, rfl, O2⟩ := hrel
            obtain ⟨x0, x1, x2, x3, x4⟩ := box5 (TT.out v2 O2.out)
            by_cases hlv2 : k < L.length
            · obtain ⟨x, hx⟩ : ∃ x, L[k]? = some x := ⟨_, List.getElem?_eq_getElem hlv2⟩
              obtain ⟨g, n, hA, hw⟩ := hin k x hx
              cases hA
              obtain ⟨n', z, zf⟩ := O2.out.nt hw
              have y := O2.out.sl hc
              go_wp2_with fail
              go_roundg (L.length - (k + 1))
              case measure => omega
              case rel => exact ⟨k + 1, by omega, rfl, by go_num, ⟨O2.out.set hw _⟩⟩
            · obtain rfl : k = L.length := by omega
              clear hlv2 hkv2
              have y := O2.out.sl hc
              go_wp2_with fail
              go_roundg ((Plan.cores P).length - (i + 1))
              case measure => omega
              case rel => exact ⟨i + 1, by omega, rfl, by go_num, O2⟩
        · obtain rfl : i = (Plan.cores P).length := by omega
          clear hlv1 hiv1
          go_wp2_with fail
          clear x0 x1 x2 x3 x4
          go_loopg [7] (Plan.parts P).length (fun g sc wr => ∃ (i : Nat), i ≤ (Plan.parts P).length ∧ g = (Plan.parts P).length - i ∧ sc = .int .i64 i ∧ Aside (Own lo X wc wr))
          case atStart => exact ⟨0, by omega, rfl, rfl, O1⟩
          case round =>
            rename World => v3
            obtain ⟨i, hiv3, rfl, rfl, O3⟩ := hrel
            obtain ⟨x0, x1, x2, x3, x4⟩ := box5 (TT.out v3 O3.out)
            by_cases hlv3 : i < (Plan.parts P).length
            · obtain ⟨x, hx⟩ : ∃ x, (Plan.parts P)[i]? = some x := ⟨_, List.getElem?_eq_getElem hlv3⟩
              obtain ⟨G, AA, c, BB, d, n0, hE, hc0, hc1, hc2, hS, hPr⟩ := S.out.1.wr.parts i x hx
              cases hE
              obtain ⟨ho1, ho2⟩ := F.out.objs x (List.mem_of_getElem? hx)
              have y0 := O3.out.sl hc0
              clear hx
              go_wp2_with fail
              clear y0 x0 x1 x2 x3 x4
              go_loopg [8] (PartR.sems x).length (fun g sc wr => ∃ (k : Nat), k ≤ (PartR.sems x).length ∧ g = (PartR.sems x).length - k ∧ sc = .int .i64 k ∧ Aside (Own lo X wc wr))
              case atStart => exact ⟨0, by omega, rfl, rfl, O3⟩
              case round =>
                rename World => v4
                obtain ⟨k, hkv4, rfl, rfl, O4⟩ := hrel
                obtain ⟨x0, x1, x2, x3, x4⟩ := box5 (TT.out v4 O4.out)
                by_cases hlv4 : k < (PartR.sems x).length
                · obtain ⟨y', hy⟩ : ∃ y', (PartR.sems x)[k]? = some y' := ⟨_, List.getElem?_eq_getElem hlv4⟩
                  obtain ⟨g, n, hA, hw⟩ := hS k y' hy
                  cases hA
                  obtain ⟨n', z, zf⟩ := O4.out.nt hw
                  have y0 := O4.out.sl hc0
                  go_wp2_with fail
                  go_roundg ((PartR.sems x).length - (k + 1))
                  case measure => omega
                  case rel => exact ⟨k + 1, by omega, rfl, by go_num, ⟨O4.out.set hw _⟩⟩
                · obtain rfl : k = (PartR.sems x).length := by omega
                  clear hlv4 hkv4
                  have y0 := O4.out.sl hc0
                  have y2 := O4.out.sl hc2
                  go_wp2_with fail
                  clear y0 y2 x0 x1 x2 x3 x4
                  go_loopg [9] (PartR.procs x).length (fun g sc wr => ∃ (k : Nat), k ≤ (PartR.procs x).length ∧ g = (PartR.procs x).length - k ∧ sc = .int .i64 k ∧ Aside (Own lo X wc wr))
                  case atStart => exact ⟨0, by omega, rfl, rfl, O4⟩
                  case round =>
                    rename World => v5
                    obtain ⟨k, hkv5, rfl, rfl, O5⟩ := hrel
                    obtain ⟨x0, x1, x2, x3, x4⟩ := box5 (TT.out v5 O5.out)
                    by_cases hlv5 : k < (PartR.procs x).length
                    · obtain ⟨y', hy⟩ : ∃ y', (PartR.procs x)[k]? = some y' := ⟨_, List.getElem?_eq_getElem hlv5⟩
                      obtain ⟨g, n, hA, hw⟩ := hPr k y' hy
                      cases hA
                      obtain ⟨n', z, zf⟩ := O5.out.nt hw
                      have y2 := O5.out.sl hc2
                      go_wp2_with fail
                      go_roundg ((PartR.procs x).length - (k + 1))
                      case measure => omega
                      case rel => exact ⟨k + 1, by omega, rfl, by go_num, ⟨O5.out.set hw _⟩⟩
                    · obtain rfl : k = (PartR.procs x).length := by omega
                      clear hlv5 hkv5
                      have y2 := O5.out.sl hc2
                      obtain ⟨n', z, zf⟩ := O5.out.nt hc1
                      go_wp2_with fail
                      go_roundg ((Plan.parts P).length - (i + 1))
                      case measure => omega
                      case rel => exact ⟨i + 1, by omega, rfl, by go_num, ⟨O5.out.set hc1 _⟩⟩
            · obtain rfl : i = (Plan.parts P).length := by omega
              clear hlv3 hiv3
              go_wp2_with fail
              clear x0 x1 x2 x3 x4
              go_loopg [10] (Plan.chans P).length (fun g sc wr => ∃ (i : Nat), i ≤ (Plan.chans P).length ∧ g = (Plan.chans P).length - i ∧ sc = .int .i64 i ∧ Aside (Own lo X wc wr))
              case atStart => exact ⟨0, by omega, rfl, rfl, O3⟩
              case round =>
                rename World => v6
                obtain ⟨i, hiv6, rfl, rfl, O6⟩ := hrel
                obtain ⟨x0, x1, x2, x3, x4⟩ := box5 (TT.out v6 O6.out)
                by_cases hlv6 : i < (Plan.chans P).length
                · obtain ⟨x, hx⟩ : ∃ x, (Plan.chans P)[i]? = some x := ⟨_, List.getElem?_eq_getElem hlv6⟩
                  obtain ⟨g, n, hE, hw⟩ := S.out.1.wr.chans i x hx
                  cases hE
                  obtain ⟨n', z, zf⟩ := O6.out.nt hw
                  clear hx
                  go_wp2_with fail
                  go_roundg ((Plan.chans P).length - (i + 1))
                  case measure => omega
                  case rel => exact ⟨i + 1, by omega, rfl, by go_num, ⟨O6.out.set hw _⟩⟩
                · obtain rfl : i = (Plan.chans P).length := by omega
                  clear hlv6 hiv6
                  go_wp2_with fail
                  clear x0 x1 x2 x3 x4
                  go_loopg [11] (Plan.pairs P).length (fun g sc wr => ∃ (i : Nat), i ≤ (Plan.pairs P).length ∧ g = (Plan.pairs P).length - i ∧ sc = .int .i64 i ∧ Aside (Own lo X wc wr))
                  case atStart => exact ⟨0, by omega, rfl, rfl, O6⟩
                  case round =>
                    rename World => v7
                    obtain ⟨i, hiv7, rfl, rfl, O7⟩ := hrel
                    obtain ⟨x0, x1, x2, x3, x4⟩ := box5 (TT.out v7 O7.out)
                    by_cases hlv7 : i < (Plan.pairs P).length
                    · obtain ⟨x, hx⟩ : ∃ x, (Plan.pairs P)[i]? = some x := ⟨_, List.getElem?_eq_getElem hlv7⟩
                      obtain ⟨g, n, hE, hw⟩ := S.out.1.wr.pairs i x hx
                      cases hE
                      obtain ⟨n', z, zf⟩ := O7.out.nt hw
                      clear hx
                      go_wp2_with fail
                      go_roundg ((Plan.pairs P).length - (i + 1))
                      case measure => omega
                      case rel => exact ⟨i + 1, by omega, rfl, by go_num, ⟨O7.out.set hw _⟩⟩
                    · obtain rfl : i = (Plan.pairs P).length := by omega
                      clear hlv7 hiv7
                      have BZ : Aside (Below w2.heap.size w2 v7) := ⟨S.out.1.bc.trans (O7.out.kept.below S.out.1.bc.size (fun j hj => by have := S.out.1.bl; omega))⟩
                      have HB : Aside (PlanV v7 (.agg #[.int .u16 (Plan.frame P), .slice f0 (Plan.cores P).length l0, .slice f1 (Plan.parts P).length l1, .slice f2 (Plan.chans P).length l2, .slice f3 (Plan.pairs P).length l3]) P) := ⟨S.out.1.keep v7 O7.out.kept⟩
                      have UU : Aside (v7.heap[U]? = some (.cells #[.int .u16 (Plan.frame P), .slice f0 (Plan.cores P).length l0, .slice f1 (Plan.parts P).length l1, .slice f2 (Plan.chans P).length l2, .slice f3 (Plan.pairs P).length l3] 28 (0, 0))) := ⟨O7.out.kept.heap S.out.2.2 (by have := S.out.1.ux; omega)⟩
                      have KA : Aside (Calls Tryd.prog 11 #[] v7 fun e w' => e = .returned (.bool true) ∧ Below v7.heap.size v7 w') := ⟨awake_any v7 (HG.out.below (bel_then B2.out.1 BZ.out))⟩
                      go_wp2_with fail
                      refine KA.out.mono ?_
                      rintro e w8 ⟨rfl, b8⟩
                      clear x0 x1 x2 x3 x4
                      have hPP : eqB P P = true := eqB_yes rfl
                      have K1 : Aside (Calls Tryd.prog 17 #[.agg #[.int .u16 (Plan.frame P), .slice a0 (Plan.cores P).length c0, .slice a1 (Plan.parts P).length c1, .slice a2 (Plan.chans P).length c2, .slice a3 (Plan.pairs P).length c3], .agg #[.int .u16 (Plan.frame P), .slice f0 (Plan.cores P).length l0, .slice f1 (Plan.parts P).length l1, .slice f2 (Plan.chans P).length l2, .slice f3 (Plan.pairs P).length l3]] w8 fun e w' => e = .returned (.bool true) ∧ Below w8.heap.size w8 w') := ⟨(rsame3_any w8 _ _ _ _ (HV.out.below (bel_then B2.out.1 (bel_then BZ.out b8))) (HB.out.below b8)).mono fun e w' q => by
                        obtain ⟨q1, q2⟩ := q
                        rw [hPP] at q1
                        exact ⟨q1, q2⟩⟩
                      obtain ⟨x0, x1, x2, x3, x4⟩ := box5 (hup (bel_then BZ.out b8) B2.out.2)
                      obtain ⟨y0, y1, y2, y3, y4⟩ := box5 (hup b8 UU.out)
                      have B8 := Aside.mk (bel_then B2.out.1 (bel_then BZ.out b8))
                      clear hPP b8
                      go_wp2_with fail
                      refine K1.out.mono ?_
                      rintro e w9 ⟨rfl, b9⟩
                      go_wp2_with fail
                      go_ret
                      exact ⟨rfl, bel_then B8.out b9⟩
end Go.Proofs.YtbphlapdhcgikaaDoor
