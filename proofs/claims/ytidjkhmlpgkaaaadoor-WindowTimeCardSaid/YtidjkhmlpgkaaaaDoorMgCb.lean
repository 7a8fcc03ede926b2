/- The program's rules: twice, each. The program's rules: windows. The program's rules: pairs of windows. -/
import Derived.Test.YtidjkhmlpgkaaaaDoorMgCa
import Derived.Test.YtidjkhmlpgkaaaaDoorMgP
import Derived.Test.YtidjkhmlpgkaaaaDoorMgA
namespace Go.Proofs.YtidjkhmlpgkaaaaDoor
open Go.RowKit
set_option linter.unusedVariables false
set_option linter.unusedSimpArgs false

theorem twiceB_snoc {L : List Win} {j : Nat} {x : Win} (h : L[j]? = some x) (g : Int) : twiceB (L.take (j + 1)) g = (twiceB (L.take j) g || (decide (Win.g x = g) && decide (g ≠ 0))) := by
  rw [take_snoc h, twiceB, twiceB, List.any_append]
  simp
theorem twiceB_hit {L : List Win} {j : Nat} {x : Win} (h : L[j]? = some x) {g : Int} (h1 : Win.g x = g) (h2 : g ≠ 0) : twiceB L g = true := List.any_eq_true.2 ⟨x, List.mem_of_getElem? h, by simp [h1, h2]⟩
set_option maxHeartbeats 1600000 in
theorem twice_any (w : World) (v : Value) (L : List Win) (g : Int) (hv : Wins w v L) :
    Calls Tryd.prog 75 #[v, .int .u8 g] w fun e w' => e = .returned (.bool (twiceB L g)) ∧ Below w.heap.size w w' := by
  have HV := Aside.mk hv
  obtain ⟨a, cap, rfl, hlen⟩ := hv.len
  clear hv
  go_enter Tryd.func75, Tryd.ntmps75
  go_wp2_with fail
  go_loopg [9] L.length (fun q i wr => ∃ k : Nat, k ≤ L.length ∧ q = L.length - k ∧ i = .int .i64 k ∧ Aside (twiceB (L.take k) g = false ∧ Below w.heap.size w wr))
  case atStart => exact ⟨0, by omega, rfl, rfl, ⟨by simp [twiceB], Below.refl _ _⟩⟩
  case round =>
    obtain ⟨k, hk, rfl, rfl, S⟩ := hrel
    by_cases hkl : k < L.length
    · have hl := List.getElem?_eq_getElem hkl
      obtain ⟨x, hx⟩ : ∃ x, L[k] = x := ⟨_, rfl⟩
      rw [hx] at hl
      obtain ⟨ad, rfl, d0, d1, d2, d3, ok⟩ := (HV.out.below S.out.2).at_ k x hl
      have HL := Aside.mk hl
      obtain ⟨y, hy⟩ : ∃ y, Win.g x = y := ⟨_, rfl⟩
      rw [hy] at d3
      have HY := Aside.mk hy
      clear hl hx ok hy
      by_cases h1 : y = g
      · by_cases h2 : g = 0
        · have HN : Aside (twiceB (L.take (k + 1)) g = false) := ⟨by rw [twiceB_snoc HL.out, S.out.1]; simp [h2]⟩
          subst h1
          go_wp2_with fail
          go_roundg (L.length - (k + 1))
          case measure => omega
          case rel => exact ⟨k + 1, by omega, rfl, by go_num, ⟨HN.out, lthen S.out.2 (lone _ _)⟩⟩
        · have e2 : (g != 0) = true := by simp [h2]
          have HN : Aside (twiceB L g = true) := ⟨twiceB_hit HL.out (HY.out.trans h1) h2⟩
          subst h1
          go_wp2_with fail
          go_ret
          exact ⟨by rw [HN.out]; rfl, lthen S.out.2 (lone _ _)⟩
      · have e1 : (y == g) = false := beq_eq_false_iff_ne.2 h1
        have HN : Aside (twiceB (L.take (k + 1)) g = false) := ⟨by rw [twiceB_snoc HL.out, S.out.1, HY.out]; simp [h1]⟩
        go_wp2_with fail
        go_roundg (L.length - (k + 1))
        case measure => omega
        case rel => exact ⟨k + 1, by omega, rfl, by go_num, ⟨HN.out, lthen S.out.2 (lone _ _)⟩⟩
    · obtain rfl : k = L.length := by omega
      have hq := S.out.1
      rw [List.take_length] at hq
      have hq := Aside.mk hq
      go_wp2_with fail
      go_ret
      exact ⟨by rw [hq.out]; rfl, S.out.2⟩
/-- How an error of Failure is answered. -/
def ErrR (w : World) (q : Option Flt) (e : Ending) (w' : World) : Prop := ∃ v, e = .returned v ∧ ErrF w' q v ∧ Below w.heap.size w w'
set_option maxHeartbeats 3200000 in
set_option maxRecDepth 100000 in
theorem each_any (w : World) (v : Value) (P : Plan) (hv : PlanV w v P) (hC8 : (Plan.cores P).length ≤ 8) (hC256 : ∀ L ∈ Plan.cores P, L.length ≤ 256) (g : FuncId) (caps : Array Value) (hg : ∀ args w, (callFunc g args).run Tryd.prog w = .ok (.enter g args) w) (f : Nat → Nat → Win → Int)
    (hf : ∀ (c i : Nat) (L : List Win) (x : Win) (W : World), (Plan.cores P)[c]? = some L → L[i]? = some x → Win.Ok x → Below w.heap.size w W → Calls Tryd.prog g (#[.int .i64 (c : Int), .int .i64 (i : Int), Win.val x] ++ caps) W fun e W' => e = .returned (.int .i64 (f c i x)) ∧ Below W.heap.size W W') :
    Calls Tryd.prog 71 #[v, .func (.func g) #[] caps] w (ErrR w (eachF f (Plan.cores P))) := by
  obtain ⟨a0, n0, c0, a1, n1, c1, a2, n2, c2, a3, n3, c3, rfl, hp⟩ := hv
  obtain ⟨_, _, q, hlen⟩ := hp.cores.len
  obtain ⟨rfl, rfl, rfl⟩ : a0 = _ ∧ n0 = _ ∧ c0 = _ := by injection q with q1 q2 q3; exact ⟨q1, q2, q3⟩
  clear q
  have HC := Aside.mk hp.cores
  have HF := Aside.mk hf
  have H256 := Aside.mk hC256
  generalize hfr : Plan.frame P = fr at *
  generalize Plan.cores P = C at *
  clear hp hf hC256 hfr
  go_enter Tryd.func71, Tryd.ntmps71
  go_wp2_with fail
  go_loopg [13] C.length (fun q i wr => ∃ k : Nat, k ≤ C.length ∧ q = C.length - k ∧ i = .int .i64 k ∧ Aside (scan (fun c => rowF (f c) c (coreAt C c)) k = none ∧ Below w.heap.size w wr))
  case atStart => exact ⟨0, by omega, rfl, rfl, ⟨rfl, lone _ _⟩⟩
  case round =>
    obtain ⟨k, hk, rfl, rfl, S⟩ := hrel
    by_cases hkl : k < C.length
    · have hl := List.getElem?_eq_getElem hkl
      obtain ⟨L, hL⟩ : ∃ L, C[k] = L := ⟨_, rfl⟩
      rw [hL] at hl
      have hL256 : L.length ≤ 256 := H256.out L (List.mem_of_getElem? hl)
      obtain ⟨ad, lv, rfl, hlv0, hwins⟩ := HC.out.at_ k L hl
      have hlv := lkeep S.out.2 _ _ hlv0
      obtain ⟨la, lc, rfl, hlL⟩ := hwins.len
      have HWi := Aside.mk hwins
      have HL := Aside.mk hl
      clear hl hL hwins hlv0
      go_wp2_with fail
      go_loopg [20] L.length (fun q i wq => ∃ j : Nat, j ≤ L.length ∧ q = L.length - j ∧ i = .int .i64 j ∧ Aside (scan (fun i => hitF (f k i (winAt L i)) (256 * (k : Int) + (i : Int))) j = none ∧ Below w.heap.size w wq))
      case atStart => exact ⟨0, by omega, rfl, rfl, ⟨rfl, S.out.2⟩⟩
      case round =>
        obtain ⟨j, hj, rfl, rfl, T⟩ := hrel
        by_cases hjl : j < L.length
        · have hl := List.getElem?_eq_getElem hjl
          obtain ⟨x, hx⟩ : ∃ x, L[j] = x := ⟨_, rfl⟩
          rw [hx] at hl
          obtain ⟨ad2, rfl, d0, d1, d2, d3, ok⟩ := (HWi.out.below T.out.2).at_ j x hl
          obtain ⟨W1, HW⟩ : ∃ W1, Aside (W1 = wr.alloc (.cells #[.int .u16 (Win.s x), .int .u16 (Win.l x), .int .u8 (Win.p x), .int .u8 (Win.g x)] 87)) := ⟨_, ⟨rfl⟩⟩
          have B1 : Aside (Below w.heap.size w W1) := ⟨by rw [HW.out]; exact lthen T.out.2 (lone _ _)⟩
          have K := Aside.mk (HF.out k j L x W1 HL.out hl ok B1.out)
          have FX : Aside (winAt L j = x) := ⟨winAt_some hl⟩
          have HB : Aside (W1.heap[wr.heap.size]? = some (.cells #[.int .u16 (Win.s x), .int .u16 (Win.l x), .int .u8 (Win.p x), .int .u8 (Win.g x)] 87 (0, 0))) := ⟨by rw [HW.out]; exact heap_alloc_new _ _⟩
          obtain ⟨e0, e1, e2, e3⟩ := lbox4 HB.out
          unfold Win.val at K
          obtain ⟨n, hn⟩ : ∃ n, f k j x = n := ⟨_, rfl⟩
          rw [hn] at K
          have HN := Aside.mk hn
          have hm1 : IntKind.i64.wrap (256 * (k : Int)) = 256 * (k : Int) := IntWalk.i64_in _ (by omega)
          have hm2 : IntKind.i64.wrap (256 * (k : Int) + (j : Int)) = 256 * (k : Int) + (j : Int) := IntWalk.i64_in _ (by omega)
          clear hl hx ok hn
          go_upto_region 7 with (fail)
          rw [← HW.out]
          go_wp2_with fail
          refine K.out.mono ?_
          rintro e w5 ⟨rfl, b5⟩
          have B5 := Aside.mk (lthen B1.out b5)
          clear b5 d0 d1 d2 d3 e0 e1 e2 e3
          by_cases hz : n = 0
          · have HS : Aside (scan (fun i => hitF (f k i (winAt L i)) (256 * (k : Int) + (i : Int))) (j + 1) = none) := ⟨by
              rw [scan_succ T.out.1, FX.out, HN.out, hz]; rfl⟩
            subst hz
            go_wp2_with fail
            go_roundg (L.length - (j + 1))
            case measure => omega
            case rel => exact ⟨j + 1, by omega, rfl, by go_num, ⟨HS.out, B5.out⟩⟩
          · have ez : (n == 0) = false := beq_eq_false_iff_ne.2 hz
            have HE : Aside (eachF f C = some (n, 256 * (k : Int) + (j : Int))) := ⟨by
              refine scan_some S.out.1 ?_ hkl
              rw [coreAt_some HL.out]
              refine scan_some T.out.1 ?_ hjl
              show hitF (f k j (winAt L j)) _ = _
              rw [FX.out, HN.out, hitF_pos hz]⟩
            go_wp2_with fail
            refine (fault_any n (256 * (k : Int) + (j : Int)) w5).mono ?_
            rintro e w6 ⟨r, rfl, hr, b6⟩
            have HR := Aside.mk (And.intro hr (lthen B5.out b6))
            clear hr b6
            go_wp2_with fail
            go_ret
            exact ⟨_, rfl, by rw [HE.out]; exact HR.out.1, HR.out.2⟩
        · obtain rfl : j = L.length := by omega
          have HN : Aside (scan (fun c => rowF (f c) c (coreAt C c)) (k + 1) = none) := ⟨by
            rw [scan_succ S.out.1, coreAt_some HL.out]
            exact T.out.1⟩
          clear hjl hj
          go_wp2_with fail
          go_roundg (C.length - (k + 1))
          case measure => omega
          case rel => exact ⟨k + 1, by omega, rfl, by go_num, ⟨HN.out, T.out.2⟩⟩
    · obtain rfl : k = C.length := by omega
      have hq : Aside (eachF f C = none) := ⟨S.out.1⟩
      go_wp2_with fail
      go_ret
      exact ⟨_, rfl, by rw [hq.out]; rfl, S.out.2⟩
end Go.Proofs.YtidjkhmlpgkaaaaDoor

namespace Go.Proofs.YtidjkhmlpgkaaaaDoor
open Go.RowKit
set_option linter.unusedVariables false
set_option linter.unusedSimpArgs false

theorem callFunc_f1 (args : Array Value) (w : World) : (callFunc 72 args).run Tryd.prog w = .ok (.enter 72 args) w := by kernel_rfl
set_option maxHeartbeats 6400000 in
set_option maxRecDepth 100000 in
theorem win1_any (w0 : World) (P : Plan) (a0 : Option Addr) (c0 : Nat) (v2 v3 v4 : Value) (a1 : Option Addr) (c1 : Nat) (hv2 : v2 = .slice a1 (Plan.parts P).length c1) (hparts : (Plan.parts P).length ≤ 9223372036854775807) (hlen : (Plan.cores P).length ≤ 8) (hC256 : ∀ L ∈ Plan.cores P, L.length ≤ 256) (HC : Cores w0 (.slice a0 (Plan.cores P).length c0) (Plan.cores P)) (hfr : 0 ≤ Plan.frame P ∧ Plan.frame P ≤ 65535) (B : Nat) (c i : Nat) (L : List Win) (x : Win) (W : World) (hc : (Plan.cores P)[c]? = some L) (hi : L[i]? = some x) (ok : Win.Ok x) (hB : Below w0.heap.size w0 W)
    (hb : W.heap[B]? = some (.cells #[.int .u16 (Plan.frame P), .slice a0 (Plan.cores P).length c0, v2, v3, v4] 28 (0, 0))) :
    Calls Tryd.prog 72 #[.int .i64 (c : Int), .int .i64 (i : Int), Win.val x, .pointer (some ⟨B, 0, none⟩)] W fun e W' => e = .returned (.int .i64 (windowsN (Plan.frame P) ((Plan.parts P).length : Int) (Plan.cores P) c i x)) ∧ Below W.heap.size W W' := by
  subst hv2
  have hcl := (List.getElem?_eq_some_iff.1 hc).1
  have hil := (List.getElem?_eq_some_iff.1 hi).1
  have hL256 : L.length ≤ 256 := hC256 L (List.mem_of_getElem? hc)
  have KE := Aside.mk (end_any x ok)
  obtain ⟨ad, lv, rfl, hlv0, hwins⟩ := HC.at_ c L hc
  obtain ⟨la, lc, rfl, hlL⟩ := hwins.len
  obtain ⟨q0, q1⟩ := hfr
  have hs := ok.s
  have hl := ok.l
  have hp := ok.p
  have HPrev : Aside (∀ m, m + 1 = i → ∃ y ad2, la = some ad2 ∧ winAt (coreAt (Plan.cores P) c) (i - 1) = y ∧ Win.Ok y ∧ w0.cell? (ad2.add (m * 4)) = some (.int .u16 (Win.s y)) ∧ w0.cell? ⟨(ad2.add (m * 4)).block, (ad2.add (m * 4)).off + 1, none⟩ = some (.int .u16 (Win.l y)) ∧ w0.cell? ⟨(ad2.add (m * 4)).block, (ad2.add (m * 4)).off + 2, none⟩ = some (.int .u8 (Win.p y)) ∧ w0.cell? ⟨(ad2.add (m * 4)).block, (ad2.add (m * 4)).off + 3, none⟩ = some (.int .u8 (Win.g y))) := ⟨by
    rintro m rfl
    have e := List.getElem?_eq_getElem (show m < L.length by omega)
    obtain ⟨ad2, rfl, h0, h1, h2, h3, oky⟩ := hwins.at_ m _ e
    exact ⟨_, ad2, rfl, by rw [coreAt_some hc]; exact winAt_some e, oky, h0, h1, h2, h3⟩⟩
  obtain ⟨pe, hpe⟩ : ∃ pe, endS (winAt (coreAt (Plan.cores P) c) (i - 1)) = pe := ⟨_, rfl⟩
  have HWN : Aside (windowsN (Plan.frame P) ((Plan.parts P).length : Int) (Plan.cores P) c i x = if Win.l x = 0 ∨ (0 < i ∧ Win.s x < pe) ∨ Plan.frame P < endS x then 44 else if ((Plan.parts P).length : Int) ≤ Win.p x then 45 else 0) := ⟨by rw [windowsN, hpe]⟩
  have HPE := Aside.mk hpe
  unfold Win.val at KE ⊢
  generalize endS x = ex at *
  generalize Win.s x = s at *
  generalize Win.l x = l at *
  generalize Win.p x = p at *
  generalize Win.g x = g at *
  generalize Plan.frame P = fr at *
  generalize hnp : (Plan.parts P).length = np at *
  generalize hcc : (Plan.cores P).length = nc at *
  have k0 := lkeep hB _ _ hlv0
  obtain ⟨W1, HW⟩ : ∃ W1, Aside (W1 = W.alloc (.cells #[.int .u16 s, .int .u16 l, .int .u8 p, .int .u8 g] 87)) := ⟨_, ⟨rfl⟩⟩
  have B1 : Aside (Below W.heap.size W W1) := ⟨by rw [HW.out]; exact lone _ _⟩
  have HX : Aside (W1.heap[W.heap.size]? = some (.cells #[.int .u16 s, .int .u16 l, .int .u8 p, .int .u8 g] 87 (0, 0))) := ⟨by rw [HW.out]; exact heap_alloc_new _ _⟩
  have HB1 := Aside.mk (lup B1.out hb)
  have HB0 := Aside.mk (lthen hB B1.out)
  have hrow := lkeep B1.out _ _ k0
  obtain ⟨f0, f1, f2, f3⟩ := lbox4 HX.out
  obtain ⟨p0, p1, p2, p3, p4⟩ := lbox5 HB1.out
  have w1 : IntKind.i64.wrap s = s := IntWalk.i64_in _ (by omega)
  have w2 : IntKind.i64.wrap fr = fr := IntWalk.i64_in _ (by omega)
  have w3 : IntKind.i64.wrap p = p := IntWalk.i64_in _ (by omega)
  clear hc hi ok hb hpe HC hB hwins hlv0 k0 hC256 hs hl hp
  by_cases hl0 : l = 0
  · have HV := Aside.mk (HWN.out.trans (if_pos (.inl hl0)))
    subst hl0
    go_enter Tryd.func72, Tryd.ntmps72
    go_wp2_with fail
    go_ret
    exact ⟨by rw [HV.out]; rfl, lone _ _⟩
  · have el : (l == 0) = false := beq_eq_false_iff_ne.2 hl0
    obtain ⟨b2, hb2⟩ : ∃ b2, decide (0 < i ∧ s < pe) = b2 := ⟨_, rfl⟩
    have HB2 := Aside.mk hb2
    clear hb2
    go_enter Tryd.func72, Tryd.ntmps72
    go_upto_region 2 with (fail)
    rw [← HW.out]
    go_cut [8] (fun y wc => y = .bool b2 ∧ Aside (Below W1.heap.size W1 wc))
    case first =>
      rcases i with _ | m
      · go_quiet (fail)
        go_wp2_with fail
        go_meet
        case rel => exact ⟨by rw [← HB2.out]; simp, ⟨below_drewN _ _⟩⟩
      · obtain ⟨y, ad2, rfl, hy, oky, z0, z1, z2, z3⟩ := HPrev.out m rfl
        have z0 := lkeep HB0.out _ _ z0
        have z1 := lkeep HB0.out _ _ z1
        have z2 := lkeep HB0.out _ _ z2
        have z3 := lkeep HB0.out _ _ z3
        have KY := Aside.mk (end_any y oky)
        have hpy : endS y = pe := by rw [← hy]; exact HPE.out
        rw [hpy] at KY
        unfold Win.val at KY
        generalize Win.s y = ys at *
        generalize Win.l y = yl at *
        generalize Win.p y = yp at *
        generalize Win.g y = yg at *
        have hm : ((m + 1 : Nat) : Int) = (m : Int) + 1 := by omega
        rw [hm]
        have hb2 : b2 = decide (s < pe) := by rw [← HB2.out]; simp
        have HB2 := Aside.mk hb2
        have d1 : (0 : Int) < (m : Int) + 1 := by omega
        have w5 : IntKind.i64.wrap ((m : Int) + 1 - 1) = (m : Int) := by rw [show (m : Int) + 1 - 1 = (m : Int) by omega]; exact IntWalk.i64_in _ (by omega)
        have w6 : IntKind.i64.wrap (m : Int) = (m : Int) := IntWalk.i64_in _ (by omega)
        have i1 : (0 : Int) ≤ (c : Int) := by omega
        have i2 : (c : Int) < (nc : Int) := by omega
        have i3 : (0 : Int) ≤ (m : Int) := by omega
        have i4 : (m : Int) < (L.length : Int) := by omega
        have KD1 := Aside.mk (KY.out W1.drew)
        clear hy oky hpy hm hb2
        go_region_held3 (fun w' => w'.cell? ⟨W.heap.size, 0, none⟩ = some (.int .u16 s) ∧ w'.cell? ⟨B, 1, none⟩ = some (.slice (some ad) nc c0) ∧ w'.cell? (ad.add c) = some (.slice (some ad2) L.length lc) ∧ w'.cell? (ad2.add (m * 4)) = some (.int .u16 ys) ∧ w'.cell? ⟨(ad2.add (m * 4)).block, (ad2.add (m * 4)).off + 1, none⟩ = some (.int .u16 yl) ∧ w'.cell? ⟨(ad2.add (m * 4)).block, (ad2.add (m * 4)).off + 2, none⟩ = some (.int .u8 yp) ∧ w'.cell? ⟨(ad2.add (m * 4)).block, (ad2.add (m * 4)).off + 3, none⟩ = some (.int .u8 yg)) (first | go_keep | (exact ⟨k1 _ _ f0, k1 _ _ p1, k1 _ _ hrow, k1 _ _ z0, k1 _ _ z1, k1 _ _ z2, k1 _ _ z3⟩))
              (first | ((with_reducible refine KD1.out.mono ?_); rintro e w5 ⟨rfl, b5⟩; have Y5 : Aside (Below W1.heap.size W1 w5) := ⟨lthen (below_drewN W1 1) b5⟩; have k1 := lkeep Y5.out))
        all_goals
          go_wp2_with fail
          go_meet
          case rel => exact ⟨by rw [HB2.out], Y5⟩
    case rest =>
      obtain ⟨rfl, hC⟩ := hcut
      have f0 := lkeep hC.out _ _ f0
      have f1 := lkeep hC.out _ _ f1
      have f2 := lkeep hC.out _ _ f2
      have f3 := lkeep hC.out _ _ f3
      have p0 := lkeep hC.out _ _ p0
      have p2 := lkeep hC.out _ _ p2
      have BC := Aside.mk (lthen B1.out hC.out)
      clear HPE HPrev hrow p1 p3 p4
      cases b2
      · have hn : ¬ (0 < i ∧ s < pe) := by have := HB2.out; simpa using this
        have HN := Aside.mk hn
        clear hn
        have KD1 := Aside.mk (KE.out wc.drew)
        go_upto_region 3 with (fail)
        rcases Classical.em (fr < ex) with h4 | h4
        · have HV := Aside.mk (HWN.out.trans (if_pos (.inr (.inr h4))))
          go_region_held3 (fun w' => w'.cell? ⟨W.heap.size, 0, none⟩ = some (.int .u16 s) ∧ w'.cell? ⟨W.heap.size, 1, none⟩ = some (.int .u16 l) ∧ w'.cell? ⟨W.heap.size, 2, none⟩ = some (.int .u8 p) ∧ w'.cell? ⟨W.heap.size, 3, none⟩ = some (.int .u8 g) ∧ w'.cell? ⟨B, 0, none⟩ = some (.int .u16 fr)) (first | go_keep | (exact ⟨k1 _ _ f0, k1 _ _ f1, k1 _ _ f2, k1 _ _ f3, k1 _ _ p0⟩))
              (first | ((with_reducible refine KD1.out.mono ?_); rintro e w5 ⟨rfl, b5⟩; have Y5 : Aside (Below wc.heap.size wc w5) := ⟨lthen (below_drewN wc 1) b5⟩; have k1 := lkeep Y5.out))
          all_goals
            go_wp2_with fail
            go_ret
            exact ⟨by rw [HV.out]; rfl, lthen BC.out Y5.out⟩
        · have HV1 := HWN.out.trans (if_neg (by rintro (q | q | q); exact hl0 q; exact HN.out q; exact h4 q))
          rcases Classical.em ((np : Int) ≤ p) with h5 | h5
          · have HV := Aside.mk (HV1.trans (if_pos h5))
            clear HV1
            go_region_held3 (fun w' => w'.cell? ⟨W.heap.size, 0, none⟩ = some (.int .u16 s) ∧ w'.cell? ⟨W.heap.size, 1, none⟩ = some (.int .u16 l) ∧ w'.cell? ⟨W.heap.size, 2, none⟩ = some (.int .u8 p) ∧ w'.cell? ⟨W.heap.size, 3, none⟩ = some (.int .u8 g) ∧ w'.cell? ⟨B, 0, none⟩ = some (.int .u16 fr)) (first | go_keep | (exact ⟨k1 _ _ f0, k1 _ _ f1, k1 _ _ f2, k1 _ _ f3, k1 _ _ p0⟩))
              (first | ((with_reducible refine KD1.out.mono ?_); rintro e w5 ⟨rfl, b5⟩; have Y5 : Aside (Below wc.heap.size wc w5) := ⟨lthen (below_drewN wc 1) b5⟩; have k1 := lkeep Y5.out))
            all_goals
              have p2 := k1 _ _ p2
              have f2 := k1 _ _ f2
              go_wp2_with fail
              go_ret
              exact ⟨by rw [HV.out]; rfl, lthen BC.out Y5.out⟩
          · have HV := Aside.mk (HV1.trans (if_neg h5))
            clear HV1
            go_region_held3 (fun w' => w'.cell? ⟨W.heap.size, 0, none⟩ = some (.int .u16 s) ∧ w'.cell? ⟨W.heap.size, 1, none⟩ = some (.int .u16 l) ∧ w'.cell? ⟨W.heap.size, 2, none⟩ = some (.int .u8 p) ∧ w'.cell? ⟨W.heap.size, 3, none⟩ = some (.int .u8 g) ∧ w'.cell? ⟨B, 0, none⟩ = some (.int .u16 fr)) (first | go_keep | (exact ⟨k1 _ _ f0, k1 _ _ f1, k1 _ _ f2, k1 _ _ f3, k1 _ _ p0⟩))
              (first | ((with_reducible refine KD1.out.mono ?_); rintro e w5 ⟨rfl, b5⟩; have Y5 : Aside (Below wc.heap.size wc w5) := ⟨lthen (below_drewN wc 1) b5⟩; have k1 := lkeep Y5.out))
            all_goals
              have p2 := k1 _ _ p2
              have f2 := k1 _ _ f2
              go_wp2_with fail
              go_ret
              exact ⟨by rw [HV.out]; rfl, lthen BC.out Y5.out⟩
      · have hn : 0 < i ∧ s < pe := by have := HB2.out; simpa using this
        have HV := Aside.mk (HWN.out.trans (if_pos (.inr (.inl hn))))
        clear hn
        go_wp2_with fail
        go_ret
        exact ⟨by rw [HV.out]; rfl, BC.out⟩
set_option maxHeartbeats 1600000 in
theorem windows_any (w : World) (v : Value) (P : Plan) (hv : PlanV w v P) (hC8 : (Plan.cores P).length ≤ 8) (hC256 : ∀ L ∈ Plan.cores P, L.length ≤ 256) :
    Calls Tryd.prog 57 #[v] w (ErrR w (eachF (windowsN (Plan.frame P) ((Plan.parts P).length : Int) (Plan.cores P)) (Plan.cores P))) := by
  have hv0 := hv
  obtain ⟨a0, n0, c0, a1, n1, c1, a2, n2, c2, a3, n3, c3, rfl, hp⟩ := hv
  obtain ⟨_, _, q, hlen⟩ := hp.cores.len
  obtain ⟨rfl, rfl, rfl⟩ : a0 = _ ∧ n0 = _ ∧ c0 = _ := by injection q with q1 q2 q3; exact ⟨q1, q2, q3⟩
  clear q
  obtain ⟨_, _, q, hlen1⟩ := Elems.len hp.parts
  obtain ⟨rfl, rfl, rfl⟩ : a1 = _ ∧ n1 = _ ∧ c1 = _ := by injection q with q1 q2 q3; exact ⟨q1, q2, q3⟩
  clear q
  obtain ⟨W1, HW⟩ : ∃ W1, Aside (W1 = w.alloc (.cells #[.int .u16 (Plan.frame P), .slice a0 (Plan.cores P).length c0, .slice a1 (Plan.parts P).length c1, .slice a2 n2 c2, .slice a3 n3 c3] 28)) := ⟨_, ⟨rfl⟩⟩
  have hb1 : Below w.heap.size w W1 ∧ W1.heap[w.heap.size]? = some (.cells #[.int .u16 (Plan.frame P), .slice a0 (Plan.cores P).length c0, .slice a1 (Plan.parts P).length c1, .slice a2 n2 c2, .slice a3 n3 c3] 28 (0, 0)) := by rw [HW.out]; exact ⟨lone _ _, heap_alloc_new _ _⟩
  have K := Aside.mk (each_any W1 _ P (hv0.below hb1.1) hC8 hC256 72 #[.pointer (some ⟨w.heap.size, 0, none⟩)] callFunc_f1 (windowsN (Plan.frame P) ((Plan.parts P).length : Int) (Plan.cores P))
    (fun c i L x W hc hi ok hB => win1_any W1 P a0 c0 _ _ _ a1 c1 rfl hlen1 hC8 hC256 (hp.cores.below hb1.1) hp.frame w.heap.size c i L x W hc hi ok hB (lup hB hb1.2)))
  obtain ⟨p0, p1, p2, p3, p4⟩ := lbox5 hb1.2
  have HB := Aside.mk hb1.1
  clear hp hv0 hb1 hC8 hC256
  go_enter Tryd.func57, Tryd.ntmps57
  go_upto_region 1 with (fail)
  rw [← HW.out]
  go_wp2_with fail
  refine K.out.mono ?_
  rintro e w2 ⟨r, rfl, hr, b2⟩
  have HR := Aside.mk (And.intro hr (lthen HB.out b2))
  clear hr b2
  go_wp2_with fail
  go_ret
  exact ⟨_, rfl, HR.out.1, HR.out.2⟩
end Go.Proofs.YtidjkhmlpgkaaaaDoor

namespace Go.Proofs.YtidjkhmlpgkaaaaDoor
open Go.RowKit
set_option linter.unusedVariables false
set_option linter.unusedSimpArgs false

theorem callFunc_f2 (args : Array Value) (w : World) : (callFunc 74 args).run Tryd.prog w = .ok (.enter 74 args) w := by kernel_rfl
theorem Wins.take {w : World} {a : Option Addr} {n cap : Nat} {L : List Win} (h : Wins w (.slice a n cap) L) (i : Nat) (hi : i ≤ L.length) : Wins w (.slice a i cap) (L.take i) := by
  obtain ⟨a', cap', e, h1, h2, h3⟩ := h
  cases e
  have hl : (L.take i).length = i := by rw [List.length_take]; omega
  refine ⟨a, cap, by rw [hl], by omega, h2, fun hp => ?_⟩
  rw [hl] at hp
  obtain ⟨ad, rfl, h4⟩ := h3 (by omega)
  refine ⟨ad, rfl, fun j hj => ?_⟩
  rw [hl] at hj
  obtain ⟨cs, e, hc, hr⟩ := h4 j (by omega)
  exact ⟨cs, e, hc, by rw [List.getElem_take]; exact hr⟩
theorem Wins.cap {w : World} {a : Option Addr} {n cap : Nat} {L : List Win} (h : Wins w (.slice a n cap) L) : n = L.length ∧ L.length ≤ cap ∧ cap ≤ 9223372036854775807 := by
  obtain ⟨a', cap', e, h1, h2, h3⟩ := h
  cases e
  exact ⟨rfl, h1, h2⟩
theorem Cores.cap {w : World} {a : Option Addr} {n cap : Nat} {C : List (List Win)} (h : Cores w (.slice a n cap) C) : n = C.length ∧ C.length ≤ cap ∧ cap ≤ 9223372036854775807 := by
  obtain ⟨a', cap', e, h1, h2, h3⟩ := h
  cases e
  exact ⟨rfl, h1, h2⟩
set_option maxHeartbeats 6400000 in
set_option maxRecDepth 100000 in
theorem pair1_any (w0 : World) (P : Plan) (a0 : Option Addr) (c0 : Nat) (v0 v2 v3 v4 : Value) (hlen : (Plan.cores P).length ≤ 8) (hC256 : ∀ L ∈ Plan.cores P, L.length ≤ 256) (HC : Cores w0 (.slice a0 (Plan.cores P).length c0) (Plan.cores P)) (B : Nat) (c i : Nat) (L : List Win) (x : Win) (W : World) (hc : (Plan.cores P)[c]? = some L) (hi : L[i]? = some x) (ok : Win.Ok x) (hB : Below w0.heap.size w0 W)
    (hb : W.heap[B]? = some (.cells #[v0, .slice a0 (Plan.cores P).length c0, v2, v3, v4] 28 (0, 0))) :
    Calls Tryd.prog 74 #[.int .i64 (c : Int), .int .i64 (i : Int), Win.val x, .pointer (some ⟨B, 0, none⟩)] W fun e W' => e = .returned (.int .i64 (pairsN (Plan.cores P) c i x)) ∧ Below W.heap.size W W' := by
  generalize Plan.cores P = C at *
  have hcl := (List.getElem?_eq_some_iff.1 hc).1
  have hil := (List.getElem?_eq_some_iff.1 hi).1
  have hL256 : L.length ≤ 256 := hC256 L (List.mem_of_getElem? hc)
  obtain ⟨_, hcap, hcap2⟩ := HC.cap
  obtain ⟨ad, lv, rfl, hlv0, hwins⟩ := HC.at_ c L hc
  obtain ⟨la, lc, rfl, hlL⟩ := hwins.len
  obtain ⟨_, hlc, hlc2⟩ := hwins.cap
  have OK := Aside.mk ok
  have HCo := Aside.mk HC
  have HTw := Aside.mk (fun W (h : Below w0.heap.size w0 W) => twice_any W _ (L.take i) (Win.g x) ((hwins.below h).take i (by omega)))
  have HWN : Aside (pairsN C c i x = if twiceB (L.take i) (Win.g x) = true then 46 else laterN C c x) := ⟨by rw [pairsN, coreAt_some hc]⟩
  have HXV : Aside (Win.val x = .agg #[.int .u16 (Win.s x), .int .u16 (Win.l x), .int .u8 (Win.p x), .int .u8 (Win.g x)]) := ⟨rfl⟩
  have k0 := lkeep hB _ _ hlv0
  obtain ⟨W1, HW⟩ : ∃ W1, Aside (W1 = W.alloc (.cells #[.int .u16 (Win.s x), .int .u16 (Win.l x), .int .u8 (Win.p x), .int .u8 (Win.g x)] 87)) := ⟨_, ⟨rfl⟩⟩
  have B1 : Aside (Below W.heap.size W W1) := ⟨by rw [HW.out]; exact lone _ _⟩
  have HX : Aside (W1.heap[W.heap.size]? = some (.cells #[.int .u16 (Win.s x), .int .u16 (Win.l x), .int .u8 (Win.p x), .int .u8 (Win.g x)] 87 (0, 0))) := ⟨by rw [HW.out]; exact heap_alloc_new _ _⟩
  have HB1 := Aside.mk (lup B1.out hb)
  have HB0 := Aside.mk (lthen hB B1.out)
  have hrow := lkeep B1.out _ _ k0
  obtain ⟨f0, f1, f2, f3⟩ := lbox4 HX.out
  obtain ⟨p0, p1, p2, p3, p4⟩ := lbox5 HB1.out
  have i1 : (0 : Int) ≤ (c : Int) := by omega
  have i2 : (c : Int) < (C.length : Int) := by omega
  have i3 : (0 : Int) ≤ (i : Int) := by omega
  have i4 : (i : Int) ≤ (lc : Int) := by omega
  have w1 : IntKind.i64.wrap ((c : Int) + 1) = (c : Int) + 1 := IntWalk.i64_in _ (by omega)
  have KD1 := Aside.mk (HTw.out W1.drew (lthen HB0.out (below_drewN W1 1)))
  obtain ⟨tb, htb⟩ : ∃ tb, twiceB (L.take i) (Win.g x) = tb := ⟨_, rfl⟩
  rw [htb] at HWN KD1
  clear hc hi ok hb HC hB hwins hlv0 k0 hC256 htb
  unfold Win.val
  go_enter Tryd.func74, Tryd.ntmps74
  go_upto_region 1 with (fail)
  rw [← HW.out]
  go_cut [21] (fun y wc => y = .bool tb ∧ Aside (Below W1.heap.size W1 wc))
  case first =>
    go_region_held3 (fun w' => w'.cell? ⟨W.heap.size, 3, none⟩ = some (.int .u8 (Win.g x)) ∧ w'.cell? ⟨B, 1, none⟩ = some (.slice (some ad) C.length c0) ∧ w'.cell? (ad.add c) = some (.slice la L.length lc)) (first | go_keep | (exact ⟨k1 _ _ f3, k1 _ _ p1, k1 _ _ hrow⟩))
      (first | ((with_reducible refine KD1.out.mono ?_); rintro e w5 ⟨rfl, b5⟩; have Y5 : Aside (Below W1.heap.size W1 w5) := ⟨lthen (below_drewN W1 1) b5⟩; have k1 := lkeep Y5.out))
    all_goals
      go_wp2_with fail
      go_meet
      case rel => exact ⟨rfl, Y5⟩
  case rest =>
    obtain ⟨rfl, hC⟩ := hcut
    have BC := Aside.mk (lthen B1.out hC.out)
    have B0C := Aside.mk (lthen HB0.out hC.out)
    have HXC := Aside.mk (lup hC.out HX.out)
    have p1 := lkeep hC.out _ _ p1
    clear f0 f1 f2 f3 p0 p2 p3 p4 hrow KD1
    cases tb
    · have HV := Aside.mk (HWN.out.trans (if_neg (by decide)))
      obtain ⟨d, hd⟩ : ∃ d, C.length = c + 1 + d := ⟨C.length - (c + 1), by omega⟩
      go_upto_region 3 with (fail)
      go_cut [26, 27, 28] (fun y z u wx => ∃ A c', y = .slice A d c' ∧ z = .int .i64 (d : Int) ∧ u = .int .i64 0 ∧ (0 < d → A = some (ad.add (c + 1))) ∧ wc = wx)
      case first =>
        by_cases h0 : c0 = c + 1
        · go_wp2_with fail
          go_meet
          case rel => exact ⟨_, _, by congr 1, by congr 1, rfl, by omega, rfl⟩
        · go_wp2_with fail
          go_meet
          case rel => exact ⟨_, _, by congr 1, by congr 1, rfl, fun _ => by simp [Addr.add], rfl⟩
      case rest =>
        obtain ⟨A, c', rfl, rfl, rfl, hA, rfl⟩ := hcut
        have HV2 : Aside (pairsN C c i x = firstN (fun k => rowN (coreAt C (c + 1 + k)) x) d) := ⟨by rw [HV.out, laterN, hd]; congr 1; omega⟩
        obtain ⟨bd, hbd⟩ : ∃ bd, ad.add (c + 1) = bd := ⟨_, rfl⟩
        rw [hbd] at hA
        have HA := Aside.mk hA
        have HBD := Aside.mk hbd
        have HD := Aside.mk hd
        have hd8 : d ≤ 8 := by omega
        clear hbd
        clear hA hd p1
        go_wp2_with fail
        go_loopg [28] d (fun q s28 wr => ∃ k : Nat, k ≤ d ∧ q = d - k ∧ s28 = .int .i64 k ∧ Aside (firstN (fun k => rowN (coreAt C (c + 1 + k)) x) k = 0 ∧ Below wc.heap.size wc wr))
        case atStart => exact ⟨0, by omega, rfl, rfl, ⟨rfl, Below.refl _ _⟩⟩
        case round =>
          obtain ⟨k, hk, rfl, rfl, S⟩ := hrel
          by_cases hkd : k < d
          · have hl := List.getElem?_eq_getElem (show c + 1 + k < C.length by have := HD.out; omega)
            obtain ⟨M, hM⟩ : ∃ M, C[c + 1 + k]'(by have := HD.out; omega) = M := ⟨_, rfl⟩
            rw [hM] at hl
            obtain ⟨ad', lv, ead, hlv0, hwins⟩ := HCo.out.at_ (c + 1 + k) M hl
            obtain rfl : ad = ad' := Option.some.inj ead
            obtain ⟨ma, mc, rfl, hlM⟩ := hwins.len
            obtain rfl := HA.out (by omega)
            have hlv : wr.cell? (bd.add k) = some (.slice ma M.length mc) := by
              rw [← HBD.out, Addr.add_add]
              exact lkeep (lthen B0C.out S.out.2) _ _ hlv0
            have HM := Aside.mk (coreAt_some hl)
            have HWi := Aside.mk hwins
            clear hl hM ead hlv0 hwins
            go_wp2_with fail
            go_loopg [34] M.length (fun q s34 wr => ∃ j : Nat, j ≤ M.length ∧ q = M.length - j ∧ s34 = .int .i64 j ∧ Aside (firstN (fun j => crossN (winAt M j) x) j = 0 ∧ Below wc.heap.size wc wr))
            case atStart => exact ⟨0, by omega, rfl, rfl, ⟨rfl, S.out.2⟩⟩
            case round =>
              obtain ⟨j, hj, rfl, rfl, T⟩ := hrel
              by_cases hjl : j < M.length
              · have hl := List.getElem?_eq_getElem hjl
                obtain ⟨y, hy⟩ : ∃ y, M[j] = y := ⟨_, rfl⟩
                rw [hy] at hl
                obtain ⟨ad2, rfl, d0, d1, d2, d3, oky⟩ := (HWi.out.below (lthen B0C.out T.out.2)).at_ j y hl
                obtain ⟨W2, HW2⟩ : ∃ W2, Aside (W2 = wr.alloc (.cells #[.int .u16 (Win.s y), .int .u16 (Win.l y), .int .u8 (Win.p y), .int .u8 (Win.g y)] 87)) := ⟨_, ⟨rfl⟩⟩
                have B2 : Aside (Below wc.heap.size wc W2) := ⟨by rw [HW2.out]; exact lthen T.out.2 (lone _ _)⟩
                have HY : Aside (W2.heap[wr.heap.size]? = some (.cells #[.int .u16 (Win.s y), .int .u16 (Win.l y), .int .u8 (Win.p y), .int .u8 (Win.g y)] 87 (0, 0))) := ⟨by rw [HW2.out]; exact heap_alloc_new _ _⟩
                obtain ⟨e0, e1, e2, e3⟩ := lbox4 HY.out
                obtain ⟨f0, f1, f2, f3⟩ := lbox4 (lup B2.out HXC.out)
                have KT := Aside.mk (ptogether_any y x oky OK.out W2)
                have KO := Aside.mk (fun W => poverlap_any y x oky OK.out W)
                have FY : Aside (winAt M j = y) := ⟨winAt_some hl⟩
                obtain ⟨tg, htg⟩ : ∃ tg, togetherS y x = tg := ⟨_, rfl⟩
                obtain ⟨ob, hob⟩ : ∃ ob, overlapS y x = ob := ⟨_, rfl⟩
                have HCN : Aside (crossN (winAt M j) x = if tg = true then 0 else if Win.g y ≠ 0 ∧ Win.g y = Win.g x then 46 else if Win.p y = Win.p x ∧ ob = true then 47 else 0) := ⟨by rw [FY.out, crossN, htg, hob]⟩
                rw [htg] at KT
                rw [hob] at KO
                unfold Win.val at KT KO
                clear hl hy oky htg hob
                have zhit : ∀ z : Int, z ≠ 0 → crossN (winAt M j) x = z → pairsN C c i x = z := by
                  intro z hz h
                  have hr : rowN (coreAt C (c + 1 + k)) x = z := by
                    rw [HM.out, rowN, firstN_hit T.out.1 (by rw [h]; exact hz) hjl, h]
                  rw [HV2.out, firstN_hit (f := fun k => rowN (coreAt C (c + 1 + k)) x) S.out.1 (by show rowN _ _ ≠ 0; rw [hr]; exact hz) hkd]
                  exact hr
                have ZHit := Aside.mk zhit
                clear zhit
                go_upto_region 9 with (fail)
                rw [← HW2.out]
                go_wp2_with fail
                refine KT.out.mono ?_
                rintro e w5 ⟨rfl, b5⟩
                have B5 := Aside.mk (lthen B2.out b5)
                have f0 := lkeep b5 _ _ f0
                have f1 := lkeep b5 _ _ f1
                have f2 := lkeep b5 _ _ f2
                have f3 := lkeep b5 _ _ f3
                have e0 := lkeep b5 _ _ e0
                have e1 := lkeep b5 _ _ e1
                have e2 := lkeep b5 _ _ e2
                have e3 := lkeep b5 _ _ e3
                have KO := Aside.mk (KO.out w5)
                clear b5 d0 d1 d2 d3
                generalize Win.s y = ys at *
                generalize Win.l y = yl at *
                generalize Win.p y = yp at *
                generalize Win.g y = yg at *
                obtain ⟨xg, hxg⟩ : ∃ xg, Win.g x = xg := ⟨_, rfl⟩
                obtain ⟨xp, hxp⟩ : ∃ xp, Win.p x = xp := ⟨_, rfl⟩
                rw [hxg] at f3 HCN KO
                rw [hxp] at f2 HCN KO
                clear hxg hxp
                cases tg
                · have HC2 := Aside.mk (HCN.out.trans (if_neg (by decide)))
                  by_cases h1 : yg = 0
                  · have HC3 := Aside.mk (HC2.out.trans (if_neg (fun q => q.1 h1)))
                    have n1 : (yg != 0) = false := by simp [h1]
                    by_cases h2 : yp = xp
                    · have H2 := Aside.mk h2
                      subst h2
                      cases ob
                      · have HZ := Aside.mk (HC3.out.trans (if_neg (by simp)))
                        subst h1
                        go_wp2_with fail
                        refine KO.out.mono ?_
                        rintro e w6 ⟨rfl, b6⟩
                        have B6 := Aside.mk (lthen B5.out b6)
                        clear b6
                        go_wp2_with fail
                        go_roundg (M.length - (j + 1))
                        case measure => omega
                        case rel => exact ⟨j + 1, by omega, rfl, by go_num, ⟨by rw [firstN_succ T.out.1]; exact HZ.out, B6.out⟩⟩
                      · have HZ := Aside.mk (ZHit.out 47 (by decide) (HC3.out.trans (if_pos ⟨H2.out, rfl⟩)))
                        subst h1
                        go_wp2_with fail
                        refine KO.out.mono ?_
                        rintro e w6 ⟨rfl, b6⟩
                        have B6 := Aside.mk (lthen B5.out b6)
                        clear b6
                        go_wp2_with fail
                        go_ret
                        exact ⟨by rw [HZ.out]; rfl, lthen BC.out B6.out⟩
                    · have n2 : (yp == xp) = false := beq_eq_false_iff_ne.2 h2
                      have HZ := Aside.mk (HC3.out.trans (if_neg (fun q => h2 q.1)))
                      subst h1
                      go_wp2_with fail
                      go_roundg (M.length - (j + 1))
                      case measure => omega
                      case rel => exact ⟨j + 1, by omega, rfl, by go_num, ⟨by rw [firstN_succ T.out.1]; exact HZ.out, B5.out⟩⟩
                  · have n1 : (yg != 0) = true := by simp [h1]
                    by_cases h3 : yg = xg
                    · have HZ := Aside.mk (ZHit.out 46 (by decide) (HC2.out.trans (if_pos ⟨h1, h3⟩)))
                      subst h3
                      go_wp2_with fail
                      go_ret
                      exact ⟨by rw [HZ.out]; rfl, lthen BC.out B5.out⟩
                    · have n3 : (yg == xg) = false := beq_eq_false_iff_ne.2 h3
                      have HC3 := Aside.mk (HC2.out.trans (if_neg (fun q => h3 q.2)))
                      by_cases h2 : yp = xp
                      · have H2 := Aside.mk h2
                        subst h2
                        cases ob
                        · have HZ := Aside.mk (HC3.out.trans (if_neg (by simp)))
                          go_wp2_with fail
                          refine KO.out.mono ?_
                          rintro e w6 ⟨rfl, b6⟩
                          have B6 := Aside.mk (lthen B5.out b6)
                          clear b6
                          go_wp2_with fail
                          go_roundg (M.length - (j + 1))
                          case measure => omega
                          case rel => exact ⟨j + 1, by omega, rfl, by go_num, ⟨by rw [firstN_succ T.out.1]; exact HZ.out, B6.out⟩⟩
                        · have HZ := Aside.mk (ZHit.out 47 (by decide) (HC3.out.trans (if_pos ⟨H2.out, rfl⟩)))
                          go_wp2_with fail
                          refine KO.out.mono ?_
                          rintro e w6 ⟨rfl, b6⟩
                          have B6 := Aside.mk (lthen B5.out b6)
                          clear b6
                          go_wp2_with fail
                          go_ret
                          exact ⟨by rw [HZ.out]; rfl, lthen BC.out B6.out⟩
                      · have n2 : (yp == xp) = false := beq_eq_false_iff_ne.2 h2
                        have HZ := Aside.mk (HC3.out.trans (if_neg (fun q => h2 q.1)))
                        go_wp2_with fail
                        go_roundg (M.length - (j + 1))
                        case measure => omega
                        case rel => exact ⟨j + 1, by omega, rfl, by go_num, ⟨by rw [firstN_succ T.out.1]; exact HZ.out, B5.out⟩⟩
                · have HZ := Aside.mk (HCN.out.trans (if_pos rfl))
                  go_wp2_with fail
                  go_roundg (M.length - (j + 1))
                  case measure => omega
                  case rel => exact ⟨j + 1, by omega, rfl, by go_num, ⟨by rw [firstN_succ T.out.1]; exact HZ.out, B5.out⟩⟩
              · obtain rfl : j = M.length := by omega
                have HN : Aside (firstN (fun k => rowN (coreAt C (c + 1 + k)) x) (k + 1) = 0) := ⟨by
                  rw [firstN_succ S.out.1, HM.out]
                  exact T.out.1⟩
                clear hjl hj
                go_wp2_with fail
                go_roundg (d - (k + 1))
                case measure => omega
                case rel => exact ⟨k + 1, by omega, rfl, by go_num, ⟨HN.out, T.out.2⟩⟩
          · obtain rfl : k = d := by omega
            clear hkd hk
            go_wp2_with fail
            go_ret
            exact ⟨by rw [HV2.out, S.out.1]; rfl, lthen BC.out S.out.2⟩
    · have HV := Aside.mk (HWN.out.trans (if_pos rfl))
      go_wp2_with fail
      go_ret
      exact ⟨by rw [HV.out]; rfl, BC.out⟩
end Go.Proofs.YtidjkhmlpgkaaaaDoor
