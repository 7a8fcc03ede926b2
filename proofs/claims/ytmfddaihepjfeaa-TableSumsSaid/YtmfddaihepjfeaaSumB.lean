/- Table: the law TableSums. -/
import Derived.Test.YtmfddaihepjfeaaSumA
import Derived.Test.YtmfddaihepjfeaaTabZ
namespace Go.Proofs.Ytmfddaihepjfeaa
open Go.RowKit
set_option linter.unusedVariables false
set_option linter.unusedSimpArgs false

theorem hup {a b : World} (h : Below a.heap.size a b) {k : Nat} {o : Obj} (hk : a.heap[k]? = some o) : b.heap[k]? = some o := (h.block k (lt_of_block hk)).trans hk
theorem sumL_bd (d : List Win) (h : ∀ x ∈ d, Win.Ok x) : 0 ≤ sumL d ∧ sumL d ≤ 65535 * d.length := by
  induction d with
  | nil => simp [sumL]
  | cons x d ih =>
    have h1 := ih (fun y hy => h y (List.mem_cons_of_mem _ hy))
    have h2 := (h x (List.mem_cons_self ..)).l
    simp only [sumL, List.map_cons, List.sum_cons, List.length_cons] at h1 ⊢
    omega
theorem flat_len (C : List (List Win)) (h : ∀ L ∈ C, L.length ≤ 256) : C.flatten.length ≤ 256 * C.length := by
  induction C with
  | nil => simp
  | cons L C ih =>
    have h1 := ih (fun y hy => h y (List.mem_cons_of_mem _ hy))
    have h2 := h L (List.mem_cons_self ..)
    simp only [List.flatten_cons, List.length_append, List.length_cons]
    omega
theorem flat_snoc {C : List (List Win)} {k : Nat} {L : List Win} (h : C[k]? = some L) : sumL (C.take (k + 1)).flatten = sumL (C.take k).flatten + sumL L := by
  rw [take_snoc h, List.flatten_append]
  simp [sumL]
theorem row_snoc {L : List Win} {j : Nat} {x : Win} (h : L[j]? = some x) : sumL (L.take (j + 1)) = sumL (L.take j) + Win.l x := by
  rw [take_snoc h, sumL_snoc]
theorem take_flat_ok {C : List (List Win)} (k : Nat) (h : ∀ L ∈ C, ∀ x ∈ L, Win.Ok x) : ∀ x ∈ (C.take k).flatten, Win.Ok x := by
  intro x hx
  obtain ⟨L, hL, hx⟩ := List.mem_flatten.1 hx
  exact h L (List.mem_of_mem_take hL) x hx
theorem sumI_bd {f : Nat → Int} {b : Int} (h : ∀ p, 0 ≤ f p ∧ f p ≤ b) (k : Nat) : 0 ≤ sumI f k ∧ sumI f k ≤ k * b := by
  induction k with
  | zero => simp [sumI]
  | succ k ih =>
    have h1 := h k
    have : ((k + 1 : Nat) : Int) * b = k * b + b := by rw [Int.natCast_succ, Int.add_mul, Int.one_mul]
    rw [sumI, this]
    omega
set_option maxHeartbeats 6400000 in
set_option maxRecDepth 100000 in
theorem tsums_any (w : World) (v : Value) (P : Plan) (hv : PlanV w v P) :
    Calls Try.prog 9 #[v] w fun e w' => e = .returned (.bool true) ∧ Below w.heap.size w w' := by
  have hok := cores_ok hv
  have hv0 := hv
  obtain ⟨a0, c0, a1, c1, a2, c2, a3, c3, rfl, hp, hlen⟩ := hv.open_
  obtain ⟨f0, f1⟩ := hp.frame
  have HCo := Aside.mk hp.cores
  have hlm : (Plan.parts P).length ≤ 9223372036854775807 := (Elems.len hp.parts).choose_spec.choose_spec.2
  obtain ⟨W1, HW⟩ : ∃ W1, Aside (W1 = w.alloc (.cells #[.int .u16 (Plan.frame P), .slice a0 (Plan.cores P).length c0, .slice a1 (Plan.parts P).length c1, .slice a2 (Plan.chans P).length c2, .slice a3 (Plan.pairs P).length c3] 28)) := ⟨_, ⟨rfl⟩⟩
  have hb1 : Aside (Below w.heap.size w W1 ∧ W1.heap[w.heap.size]? = some (.cells #[.int .u16 (Plan.frame P), .slice a0 (Plan.cores P).length c0, .slice a1 (Plan.parts P).length c1, .slice a2 (Plan.chans P).length c2, .slice a3 (Plan.pairs P).length c3] 28 (0, 0))) := ⟨by rw [HW.out]; exact ⟨bel_one _ _, heap_alloc_new _ _⟩⟩
  have K1 := Aside.mk (taken_any W1 _ P (hv0.below hb1.out.1))
  have HV := Aside.mk hv0
  have HO := Aside.mk hok
  obtain ⟨n, hn⟩ : ∃ n : Nat, Plan.frame P = (n : Int) := ⟨(Plan.frame P).toNat, (Int.toNat_of_nonneg f0).symm⟩
  have KG0 : Aside (∀ W p, Below w.heap.size w W → Calls Try.prog 22 #[.agg #[.int .u16 (Plan.frame P), .slice a0 (Plan.cores P).length c0, .slice a1 (Plan.parts P).length c1, .slice a2 (Plan.chans P).length c2, .slice a3 (Plan.pairs P).length c3], .int .i64 p] W fun e w' => e = .returned (.int .i64 (gapV n (matchS (Plan.cores P) p))) ∧ Below W.heap.size W w') := ⟨fun W p h => gap_any W _ P p n hn (HV.out.below h)⟩
  have KS0 : Aside (Tk P → ∀ W p, Below w.heap.size w W → Calls Try.prog 20 #[.agg #[.int .u16 (Plan.frame P), .slice a0 (Plan.cores P).length c0, .slice a1 (Plan.parts P).length c1, .slice a2 (Plan.chans P).length c2, .slice a3 (Plan.pairs P).length c3], .int .i64 p] W fun e w' => e = .returned (.int .i64 (sumL (matchS (Plan.cores P) p))) ∧ Below W.heap.size W w') := ⟨fun tk W p h => share_any W _ P p (HV.out.below h) (many_le (rules_of tk.check)) tk.cores⟩
  have PL : Aside (Tk P → (∀ p : Int, 0 ≤ gapV n (matchS (Plan.cores P) p) ∧ gapV n (matchS (Plan.cores P) p) ≤ n ∧ (sumL (matchS (Plan.cores P) p) = 0 ↔ gapV n (matchS (Plan.cores P) p) = n) ∧ 0 ≤ sumL (matchS (Plan.cores P) p) ∧ sumL (matchS (Plan.cores P) p) ≤ ((n * (Plan.cores P).length : Nat) : Int)) ∧ (Plan.cores P).length ≤ 8 ∧ n ≤ 200 ∧ (Plan.parts P).length ≤ 64 ∧ (∀ L ∈ Plan.cores P, L.length ≤ 256) ∧ sumI (fun p => sumL (matchS (Plan.cores P) (p : Int))) (Plan.parts P).length = sumL (Plan.cores P).flatten) := ⟨fun tk => by
    have R := rules_of tk.check
    have hf := tk.frame
    refine ⟨fun p => sums_plain HO.out R n hn p, tk.cores, by omega, tk.parts, many_le R, ?_⟩
    refine part_sum (Plan.cores P).flatten (Plan.parts P).length (fun x hx => ?_)
    obtain ⟨L, hL, hx⟩ := List.mem_flatten.1 hx
    obtain ⟨c, hc, rfl⟩ := List.getElem_of_mem hL
    obtain ⟨i, hi, rfl⟩ := List.getElem_of_mem hx
    exact ⟨(HO.out _ hL _ hx).p.1, (order_at R (List.getElem?_eq_getElem hc) (List.getElem?_eq_getElem hi)).2.2.1⟩⟩
  obtain ⟨C, hC⟩ : ∃ C, Plan.cores P = C := ⟨_, rfl⟩
  obtain ⟨m, hm⟩ : ∃ m, (Plan.parts P).length = m := ⟨_, rfl⟩
  rw [hn, hC, hm] at KG0 KS0 HW hb1 HV
  rw [hC, hm] at PL
  rw [hn, hC, hm] at K1
  rw [hn] at f0 f1
  rw [hC] at HCo HO
  rw [hm] at hlm
  rw [hn, hC, hm]
  obtain ⟨g0, g1, g2, g3, g4⟩ := box5 hb1.out.2
  clear hp hv hv0 hn hC hm hok
  go_enter Try.func9, Try.ntmps9
  go_wp2_with fail
  rw [← HW.out]
  refine K1.out.mono ?_
  rintro e w2 ⟨b, rfl, htk, b2⟩
  have B2 := Aside.mk (bel_then hb1.out.1 b2)
  have X2 := Aside.mk ((b2.block _ (lt_of_block hb1.out.2)).trans hb1.out.2)
  clear b2 g0 g1 g2 g3 g4
  obtain ⟨g0, g1, g2, g3, g4⟩ := box5 X2.out
  cases b
  · clear htk
    go_wp2_with fail
    refine (awake_any w2).mono ?_
    rintro e w3 ⟨rfl, b3⟩
    have B3 := Aside.mk (bel_then B2.out b3)
    clear b3 g0 g1 g2 g3 g4
    go_wp2_with fail
    go_ret
    exact ⟨rfl, B3.out⟩
  · have KS := Aside.mk (KS0.out (htk rfl))
    obtain ⟨hpl, h8, h200, h64, h256, htot⟩ := PL.out (htk rfl)
    have HPL := Aside.mk hpl
    have H256 := Aside.mk h256
    have HTot := Aside.mk htot
    have hbd : Aside (∀ k, 0 ≤ sumL (C.take k).flatten ∧ sumL (C.take k).flatten ≤ 134217728) := ⟨fun k => by
      have h1 := sumL_bd (C.take k).flatten (take_flat_ok k HO.out)
      have h2 := flat_len (C.take k) (fun L hL => h256 L (List.mem_of_mem_take hL))
      have h3 : (C.take k).length ≤ 8 := by rw [List.length_take]; omega
      omega⟩
    clear htk hpl h256 htot
    go_wp2_with fail
    go_loopg [3, 5] C.length (fun q s3 s5 wr => ∃ k : Nat, k ≤ C.length ∧ q = C.length - k ∧ s3 = .int .i64 (sumL (C.take k).flatten) ∧ s5 = .int .i64 k ∧ w2 = wr)
    case atStart => exact ⟨0, by omega, rfl, by simp [sumL], rfl, rfl⟩
    case round =>
      obtain ⟨k, hk, rfl, rfl, rfl, rfl⟩ := hrel
      by_cases hlt : k < C.length
      · have hl := List.getElem?_eq_getElem hlt
        obtain ⟨L, hL⟩ : ∃ L, C[k] = L := ⟨_, rfl⟩
        rw [hL] at hl
        have hLm : L.length ≤ 256 := H256.out L (List.mem_of_getElem? hl)
        have hLo := Aside.mk (HO.out L (List.mem_of_getElem? hl))
        obtain ⟨ad, lv, rfl, hlv, hwins⟩ := (HCo.out.below B2.out).at_ k L hl
        obtain ⟨la, lc, rfl, hlL⟩ := hwins.len
        have HWi := Aside.mk hwins
        have HF := Aside.mk (flat_snoc hl)
        obtain ⟨t, ht⟩ : ∃ t, sumL (C.take k).flatten = t := ⟨_, rfl⟩
        have htb := hbd.out k
        rw [ht] at HF htb ⊢
        clear hl hL hwins ht
        go_wp2_with fail
        go_loopg [3, 6] L.length (fun q s3 s6 wr => ∃ j : Nat, j ≤ L.length ∧ q = L.length - j ∧ s3 = .int .i64 (t + sumL (L.take j)) ∧ s6 = .int .i64 j ∧ w2 = wr)
        case atStart => exact ⟨0, by omega, rfl, by simp [sumL], rfl, rfl⟩
        case round =>
          obtain ⟨j, hj, rfl, rfl, rfl, rfl⟩ := hrel
          by_cases hltj : j < L.length
          · have hl := List.getElem?_eq_getElem hltj
            obtain ⟨x, hx⟩ : ∃ x, L[j] = x := ⟨_, rfl⟩
            rw [hx] at hl
            obtain ⟨ad2, rfl, _, w1, _, _, okx⟩ := HWi.out.at_ j x hl
            have HR := Aside.mk (row_snoc hl)
            have hb := sumL_bd (L.take j) (fun y hy => hLo.out y (List.mem_of_mem_take hy))
            have hlj : (L.take j).length ≤ 256 := by rw [List.length_take]; omega
            obtain ⟨u, hu⟩ : ∃ u, sumL (L.take j) = u := ⟨_, rfl⟩
            obtain ⟨l, hl2⟩ : ∃ l, Win.l x = l := ⟨_, rfl⟩
            have hlr := okx.l
            rw [hu] at HR hb ⊢
            rw [hl2] at HR w1 hlr
            have hw1 : IntKind.i64.wrap l = l := IntWalk.i64_in _ (by omega)
            have hw2 : IntKind.i64.wrap (t + u + l) = t + u + l := IntWalk.i64_in _ (by omega)
            clear hl hx hb hlj hu hl2 okx hlr
            go_wp2_with fail
            go_roundg (L.length - (j + 1))
            case measure => omega
            case rel => exact ⟨j + 1, by omega, rfl, by rw [HR.out]; congr 1; omega, by go_num, rfl⟩
          · obtain rfl : j = L.length := by omega
            rw [List.take_length]
            clear hltj hj
            go_wp2_with fail
            go_roundg (C.length - (k + 1))
            case measure => omega
            case rel => exact ⟨k + 1, by omega, rfl, by rw [HF.out], by go_num, rfl⟩
      · obtain rfl : k = C.length := by omega
        rw [List.take_length]
        obtain ⟨T, hT⟩ : ∃ T, sumL C.flatten = T := ⟨_, rfl⟩
        rw [hT] at HTot ⊢
        clear hlt hk hT
        have hnc : n * C.length ≤ 1600 := Nat.mul_le_mul h200 h8
        have hqc : (C.length : Int) * (n : Int) = ((n * C.length : Nat) : Int) := by rw [Int.natCast_mul, Int.mul_comm]
        have hSI : Aside (∀ k : Nat, k ≤ 64 → 0 ≤ sumI (fun p => sumL (matchS C (p : Int))) k ∧ sumI (fun p => sumL (matchS C (p : Int))) k ≤ 102400) := ⟨fun k hk => by
          have h1 := sumI_bd (f := fun p => sumL (matchS C (p : Int))) (b := 1600) (fun p => by have := HPL.out (p : Int); omega) k
          omega⟩
        go_wp2_with fail
        clear g0 g1 g2 g3 g4
        go_loopg [4, 7] m (fun q s4 s7 wr => ∃ k : Nat, k ≤ m ∧ q = m - k ∧ s4 = .int .i64 (sumI (fun p => sumL (matchS C (p : Int))) k) ∧ s7 = .int .i64 k ∧ Aside (Below w2.heap.size w2 wr))
        case atStart => exact ⟨0, by omega, rfl, rfl, rfl, ⟨Below.refl _ _⟩⟩
        case round =>
          obtain ⟨k, hk, rfl, rfl, rfl, hst⟩ := hrel
          obtain ⟨g0, g1, g2, g3, g4⟩ := box5 (hup hst.out X2.out)
          have BW := Aside.mk (bel_then B2.out hst.out)
          by_cases hlt : k < m
          · obtain ⟨p1, p2, p3, p4, p5⟩ := HPL.out (k : Int)
            have hs1 := hSI.out k (by omega)
            have HN : Aside (sumI (fun p => sumL (matchS C (p : Int))) (k + 1) = sumI (fun p => sumL (matchS C (p : Int))) k + sumL (matchS C (k : Int))) := ⟨rfl⟩
            have K1' := Aside.mk (fun W (h : Below w.heap.size w W) => KS.out W k h)
            have K2' := Aside.mk (fun W (h : Below w.heap.size w W) => KG0.out W k h)
            obtain ⟨t, ht⟩ : ∃ t, sumI (fun p => sumL (matchS C (p : Int))) k = t := ⟨_, rfl⟩
            rw [ht] at hs1 HN ⊢
            generalize gapV n (matchS C (k : Int)) = g at *
            generalize sumL (matchS C (k : Int)) = s at *
            obtain ⟨qc, hqc'⟩ : ∃ qc : Int, (C.length : Int) * (n : Int) = qc := ⟨_, rfl⟩
            have hw0 : IntKind.i64.wrap (n : Int) = (n : Int) := IntWalk.i64_in _ (by omega)
            have hw1 : IntKind.i64.wrap (s + g) = s + g := IntWalk.i64_in _ (by omega)
            have hw2 : IntKind.i64.wrap ((C.length : Int) * (n : Int)) = qc := by rw [hqc']; exact IntWalk.i64_in _ (by omega)
            have hw3 : IntKind.i64.wrap (qc + (n : Int)) = qc + (n : Int) := IntWalk.i64_in _ (by omega)
            have hw4 : IntKind.i64.wrap (t + s) = t + s := IntWalk.i64_in _ (by omega)
            have hw5 : IntKind.i64.wrap t = t := IntWalk.i64_in _ (by omega)
            have n1 : ¬ g < 0 := by omega
            have n2 : ¬ (n : Int) < g := by omega
            have n3 : ¬ qc + (n : Int) < s + g := by omega
            have KD1 := Aside.mk (K1'.out wr.drew (bel_then BW.out (below_drewN wr 1)))
            clear p1 p2 p4 p5 hs1 ht hqc hqc' K1'
            go_upto_region 14 with (fail)
            go_cut [8, 9] (fun x y wc => x = .int .i64 s ∧ y = .int .i64 g ∧ Aside (Below w2.heap.size w2 wc))
            case first =>
              go_region_held3 (fun w' => w'.cell? ⟨w.heap.size, 0, none⟩ = some (.int .u16 (n : Int)) ∧ w'.cell? ⟨w.heap.size, 1, none⟩ = some (.slice a0 C.length c0) ∧ w'.cell? ⟨w.heap.size, 2, none⟩ = some (.slice a1 m c1) ∧ w'.cell? ⟨w.heap.size, 3, none⟩ = some (.slice a2 (Plan.chans P).length c2) ∧ w'.cell? ⟨w.heap.size, 4, none⟩ = some (.slice a3 (Plan.pairs P).length c3)) (first | go_keep | (exact ⟨k1 _ _ g0, k1 _ _ g1, k1 _ _ g2, k1 _ _ g3, k1 _ _ g4⟩))
                (first
                  | ((with_reducible refine KD1.out.mono ?_); rintro e w5 ⟨rfl, b5⟩; have Y5 : Aside (Below wr.heap.size wr w5) := ⟨bel_then (below_drewN wr 1) b5⟩; have KD2 := Aside.mk (K2'.out w5 (bel_then BW.out Y5.out)); have k1 := (fun (a : Addr) (v : Value) (h : World.cell? wr a = some v) => (Kept.of_below (S := fun _ => False) Y5.out).cell h id))
                  | ((with_reducible refine KD2.out.mono ?_); rintro e w6 ⟨rfl, b6⟩; have Y6 : Aside (Below wr.heap.size wr w6) := ⟨bel_then Y5.out b6⟩; have k1 := (fun (a : Addr) (v : Value) (h : World.cell? wr a = some v) => (Kept.of_below (S := fun _ => False) Y6.out).cell h id)))
              all_goals
                go_wp2_with fail
                go_meet
                case rel => exact ⟨rfl, rfl, ⟨bel_then hst.out Y6.out⟩⟩
            case rest =>
              obtain ⟨rfl, rfl, hC⟩ := hcut
              clear g0 g1 g2 g3 g4
              obtain ⟨g0, g1, g2, g3, g4⟩ := box5 (hup hC.out X2.out)
              have hcase : (s = 0 ∧ g = (n : Int)) ∨ ((s == 0) = false ∧ (g == (n : Int)) = false ∧ ¬ s = 0 ∧ ¬ g = (n : Int)) := by
                rcases Classical.em (s = 0) with q | q
                · exact .inl ⟨q, p3.1 q⟩
                · exact .inr ⟨beq_eq_false_iff_ne.2 q, beq_eq_false_iff_ne.2 (fun e => q (p3.2 e)), q, fun e => q (p3.2 e)⟩
              clear p3
              rcases hcase with ⟨rfl, rfl⟩ | ⟨q1, q2, q3, q4⟩
              all_goals
                go_wp2_with fail
                go_roundg (m - (k + 1))
                case measure => omega
                case rel => exact ⟨k + 1, by omega, rfl, by rw [HN.out] <;> simp, by go_num, hC⟩
          · obtain rfl : k = m := by omega
            rw [HTot.out]
            clear hk
            go_wp2_with fail
            refine (awake_any wr).mono ?_
            rintro e w5 ⟨rfl, b5⟩
            have B5 := Aside.mk (bel_then BW.out b5)
            clear b5
            go_wp2_with fail
            go_ret
            exact ⟨rfl, B5.out⟩
end Go.Proofs.Ytmfddaihepjfeaa