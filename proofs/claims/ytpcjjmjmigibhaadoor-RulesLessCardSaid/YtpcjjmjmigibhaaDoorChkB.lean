/- The program's rules: twice, each. -/
import Derived.Test.YtpcjjmjmigibhaaDoorChkA
import Derived.Test.YtpcjjmjmigibhaaDoorChkP
namespace Go.Proofs.YtpcjjmjmigibhaaDoor
open Go.RowKit
set_option linter.unusedVariables false
set_option linter.unusedSimpArgs false

theorem twiceB_snoc {L : List Win} {j : Nat} {x : Win} (h : L[j]? = some x) (g : Int) : twiceB (L.take (j + 1)) g = (twiceB (L.take j) g || (decide (Win.g x = g) && decide (g ≠ 0))) := by
  rw [take_snoc h, twiceB, twiceB, List.any_append]
  simp
theorem twiceB_hit {L : List Win} {j : Nat} {x : Win} (h : L[j]? = some x) {g : Int} (h1 : Win.g x = g) (h2 : g ≠ 0) : twiceB L g = true := List.any_eq_true.2 ⟨x, List.mem_of_getElem? h, by simp [h1, h2]⟩
set_option maxHeartbeats 1600000 in
theorem twice_any (w : World) (v : Value) (L : List Win) (g : Int) (hv : Wins w v L) :
    Calls Tryd.prog 40 #[v, .int .u8 g] w fun e w' => e = .returned (.bool (twiceB L g)) ∧ Below w.heap.size w w' := by
  have HV := Aside.mk hv
  obtain ⟨a, cap, rfl, hlen⟩ := hv.len
  clear hv
  go_enter Tryd.func40, Tryd.ntmps40
  go_wp2_with fail
  go_loopg [9] L.length (fun q i wr => ∃ k : Nat, k ≤ L.length ∧ q = L.length - k ∧ i = .int .i64 k ∧ Aside (twiceB (L.take k) g = false ∧ Below w.heap.size w wr))
  case atStart => exact ⟨0, by omega, rfl, rfl, ⟨by simp [twiceB], Below.refl _ _⟩⟩
  case round =>
    obtain ⟨k, hk, rfl, rfl, S⟩ := hrel
    by_cases hkl : k < L.length
    · have hl := List.getElem?_eq_getElem hkl
      obtain ⟨x, hx⟩ : ∃ x, L[k] = x := ⟨_, rfl⟩
      rw [hx] at hl
      obtain ⟨ad, rfl, d0, d1, d2, d3, ok⟩ := (HV.out.below S.out.2).at_ k x hl
      have HL := Aside.mk hl
      obtain ⟨y, hy⟩ : ∃ y, Win.g x = y := ⟨_, rfl⟩
      rw [hy] at d3
      have HY := Aside.mk hy
      clear hl hx ok hy
      by_cases h1 : y = g
      · by_cases h2 : g = 0
        · have HN : Aside (twiceB (L.take (k + 1)) g = false) := ⟨by rw [twiceB_snoc HL.out, S.out.1]; simp [h2]⟩
          subst h1
          go_wp2_with fail
          go_roundg (L.length - (k + 1))
          case measure => omega
          case rel => exact ⟨k + 1, by omega, rfl, by go_num, ⟨HN.out, lthen S.out.2 (lone _ _)⟩⟩
        · have e2 : (g != 0) = true := by simp [h2]
          have HN : Aside (twiceB L g = true) := ⟨twiceB_hit HL.out (HY.out.trans h1) h2⟩
          subst h1
          go_wp2_with fail
          go_ret
          exact ⟨by rw [HN.out]; rfl, lthen S.out.2 (lone _ _)⟩
      · have e1 : (y == g) = false := beq_eq_false_iff_ne.2 h1
        have HN : Aside (twiceB (L.take (k + 1)) g = false) := ⟨by rw [twiceB_snoc HL.out, S.out.1, HY.out]; simp [h1]⟩
        go_wp2_with fail
        go_roundg (L.length - (k + 1))
        case measure => omega
        case rel => exact ⟨k + 1, by omega, rfl, by go_num, ⟨HN.out, lthen S.out.2 (lone _ _)⟩⟩
    · obtain rfl : k = L.length := by omega
      have hq := S.out.1
      rw [List.take_length] at hq
      have hq := Aside.mk hq
      go_wp2_with fail
      go_ret
      exact ⟨by rw [hq.out]; rfl, S.out.2⟩
/-- How an error of Failure is answered. -/
def ErrR (w : World) (q : Option Flt) (e : Ending) (w' : World) : Prop := ∃ v, e = .returned v ∧ ErrF w' q v ∧ Below w.heap.size w w'
set_option maxHeartbeats 3200000 in
set_option maxRecDepth 100000 in
theorem each_any (w : World) (v : Value) (P : Plan) (hv : PlanV w v P) (hC8 : (Plan.cores P).length ≤ 8) (hC256 : ∀ L ∈ Plan.cores P, L.length ≤ 256) (g : FuncId) (caps : Array Value) (hg : ∀ args w, (callFunc g args).run Tryd.prog w = .ok (.enter g args) w) (f : Nat → Nat → Win → Int)
    (hf : ∀ (c i : Nat) (L : List Win) (x : Win) (W : World), (Plan.cores P)[c]? = some L → L[i]? = some x → Win.Ok x → Below w.heap.size w W → Calls Tryd.prog g (#[.int .i64 (c : Int), .int .i64 (i : Int), Win.val x] ++ caps) W fun e W' => e = .returned (.int .i64 (f c i x)) ∧ Below W.heap.size W W') :
    Calls Tryd.prog 37 #[v, .func (.func g) #[] caps] w (ErrR w (eachF f (Plan.cores P))) := by
  obtain ⟨a0, n0, c0, a1, n1, c1, a2, n2, c2, a3, n3, c3, rfl, hp⟩ := hv
  obtain ⟨_, _, q, hlen⟩ := hp.cores.len
  obtain ⟨rfl, rfl, rfl⟩ : a0 = _ ∧ n0 = _ ∧ c0 = _ := by injection q with q1 q2 q3; exact ⟨q1, q2, q3⟩
  clear q
  have HC := Aside.mk hp.cores
  have HF := Aside.mk hf
  have H256 := Aside.mk hC256
  generalize hfr : Plan.frame P = fr at *
  generalize Plan.cores P = C at *
  clear hp hf hC256 hfr
  go_enter Tryd.func37, Tryd.ntmps37
  go_wp2_with fail
  go_loopg [13] C.length (fun q i wr => ∃ k : Nat, k ≤ C.length ∧ q = C.length - k ∧ i = .int .i64 k ∧ Aside (scan (fun c => rowF (f c) c (coreAt C c)) k = none ∧ Below w.heap.size w wr))
  case atStart => exact ⟨0, by omega, rfl, rfl, ⟨rfl, lone _ _⟩⟩
  case round =>
    obtain ⟨k, hk, rfl, rfl, S⟩ := hrel
    by_cases hkl : k < C.length
    · have hl := List.getElem?_eq_getElem hkl
      obtain ⟨L, hL⟩ : ∃ L, C[k] = L := ⟨_, rfl⟩
      rw [hL] at hl
      have hL256 : L.length ≤ 256 := H256.out L (List.mem_of_getElem? hl)
      obtain ⟨ad, lv, rfl, hlv0, hwins⟩ := HC.out.at_ k L hl
      have hlv := lkeep S.out.2 _ _ hlv0
      obtain ⟨la, lc, rfl, hlL⟩ := hwins.len
      have HWi := Aside.mk hwins
      have HL := Aside.mk hl
      clear hl hL hwins hlv0
      go_wp2_with fail
      go_loopg [20] L.length (fun q i wq => ∃ j : Nat, j ≤ L.length ∧ q = L.length - j ∧ i = .int .i64 j ∧ Aside (scan (fun i => hitF (f k i (winAt L i)) (256 * (k : Int) + (i : Int))) j = none ∧ Below w.heap.size w wq))
      case atStart => exact ⟨0, by omega, rfl, rfl, ⟨rfl, S.out.2⟩⟩
      case round =>
        obtain ⟨j, hj, rfl, rfl, T⟩ := hrel
        by_cases hjl : j < L.length
        · have hl := List.getElem?_eq_getElem hjl
          obtain ⟨x, hx⟩ : ∃ x, L[j] = x := ⟨_, rfl⟩
          rw [hx] at hl
          obtain ⟨ad2, rfl, d0, d1, d2, d3, ok⟩ := (HWi.out.below T.out.2).at_ j x hl
          obtain ⟨W1, HW⟩ : ∃ W1, Aside (W1 = wr.alloc (.cells #[.int .u16 (Win.s x), .int .u16 (Win.l x), .int .u8 (Win.p x), .int .u8 (Win.g x)] 39)) := ⟨_, ⟨rfl⟩⟩
          have B1 : Aside (Below w.heap.size w W1) := ⟨by rw [HW.out]; exact lthen T.out.2 (lone _ _)⟩
          have K := Aside.mk (HF.out k j L x W1 HL.out hl ok B1.out)
          have FX : Aside (winAt L j = x) := ⟨winAt_some hl⟩
          have HB : Aside (W1.heap[wr.heap.size]? = some (.cells #[.int .u16 (Win.s x), .int .u16 (Win.l x), .int .u8 (Win.p x), .int .u8 (Win.g x)] 39 (0, 0))) := ⟨by rw [HW.out]; exact heap_alloc_new _ _⟩
          obtain ⟨e0, e1, e2, e3⟩ := lbox4 HB.out
          unfold Win.val at K
          obtain ⟨n, hn⟩ : ∃ n, f k j x = n := ⟨_, rfl⟩
          rw [hn] at K
          have HN := Aside.mk hn
          have hm1 : IntKind.i64.wrap (256 * (k : Int)) = 256 * (k : Int) := IntWalk.i64_in _ (by omega)
          have hm2 : IntKind.i64.wrap (256 * (k : Int) + (j : Int)) = 256 * (k : Int) + (j : Int) := IntWalk.i64_in _ (by omega)
          clear hl hx ok hn
          go_upto_region 7 with (fail)
          rw [← HW.out]
          go_wp2_with fail
          refine K.out.mono ?_
          rintro e w5 ⟨rfl, b5⟩
          have B5 := Aside.mk (lthen B1.out b5)
          clear b5 d0 d1 d2 d3 e0 e1 e2 e3
          by_cases hz : n = 0
          · have HS : Aside (scan (fun i => hitF (f k i (winAt L i)) (256 * (k : Int) + (i : Int))) (j + 1) = none) := ⟨by
              rw [scan_succ T.out.1, FX.out, HN.out, hz]; rfl⟩
            subst hz
            go_wp2_with fail
            go_roundg (L.length - (j + 1))
            case measure => omega
            case rel => exact ⟨j + 1, by omega, rfl, by go_num, ⟨HS.out, B5.out⟩⟩
          · have ez : (n == 0) = false := beq_eq_false_iff_ne.2 hz
            have HE : Aside (eachF f C = some (n, 256 * (k : Int) + (j : Int))) := ⟨by
              refine scan_some S.out.1 ?_ hkl
              rw [coreAt_some HL.out]
              refine scan_some T.out.1 ?_ hjl
              show hitF (f k j (winAt L j)) _ = _
              rw [FX.out, HN.out, hitF_pos hz]⟩
            go_wp2_with fail
            refine (fault_any n (256 * (k : Int) + (j : Int)) w5).mono ?_
            rintro e w6 ⟨r, rfl, hr, b6⟩
            have HR := Aside.mk (And.intro hr (lthen B5.out b6))
            clear hr b6
            go_wp2_with fail
            go_ret
            exact ⟨_, rfl, by rw [HE.out]; exact HR.out.1, HR.out.2⟩
        · obtain rfl : j = L.length := by omega
          have HN : Aside (scan (fun c => rowF (f c) c (coreAt C c)) (k + 1) = none) := ⟨by
            rw [scan_succ S.out.1, coreAt_some HL.out]
            exact T.out.1⟩
          clear hjl hj
          go_wp2_with fail
          go_roundg (C.length - (k + 1))
          case measure => omega
          case rel => exact ⟨k + 1, by omega, rfl, by go_num, ⟨HN.out, T.out.2⟩⟩
    · obtain rfl : k = C.length := by omega
      have hq : Aside (eachF f C = none) := ⟨S.out.1⟩
      go_wp2_with fail
      go_ret
      exact ⟨_, rfl, by rw [hq.out]; rfl, S.out.2⟩
end Go.Proofs.YtpcjjmjmigibhaaDoor
