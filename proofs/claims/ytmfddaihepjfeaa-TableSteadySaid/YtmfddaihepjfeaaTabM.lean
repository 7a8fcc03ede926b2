/- The table's laws: the next beginning or end. -/
import Derived.Test.YtmfddaihepjfeaaTabK
namespace Go.Proofs.Ytmfddaihepjfeaa
open Go.RowKit
set_option linter.unusedVariables false
set_option linter.unusedSimpArgs false

theorem next_unique {fr t : Int} {E : List Int} {n : Int} (ht : t < fr) (h1 : 1 ≤ n) (h2 : t + n ≤ fr) (h3 : ∀ k, 1 ≤ k → k < n → t + k ∉ E) (h4 : t + n = fr ∨ t + n ∈ E) : n = nearAll t fr E - t := by
  have a := nearAll_gt t fr E ht
  have b := nearAll_le t fr E
  have c := nearAll_mem t fr E
  have hle : nearAll t fr E ≤ t + n := by
    rcases h4 with h | h
    · omega
    · exact nearAll_least t fr E _ h (by omega)
  have hge : ¬ nearAll t fr E < t + n := by
    intro q
    rcases c with c | ⟨c, _⟩
    · omega
    · exact h3 (nearAll t fr E - t) (by omega) (by omega) (by rw [show t + (nearAll t fr E - t) = nearAll t fr E by omega]; exact c)
  omega
set_option maxHeartbeats 1600000 in
theorem edge_any (w : World) (v : Value) (L : List Win) (t : Int) (hv : Wins w v L) :
    Calls Try.prog 31 #[v, .int .i64 t] w fun e w' => e = .returned (.bool (decide (t ∈ edgesS L))) ∧ ∃ m, w' = w.drewN m := by
  have HV := Aside.mk hv
  obtain ⟨a, cap, rfl, hlen⟩ := hv.len
  have HE : Aside (edgesS (L.take L.length) = edgesS L) := ⟨by rw [List.take_length]⟩
  clear hv
  go_enter Try.func31, Try.ntmps31
  go_wp2_with fail
  go_loopw [5] (fun i wr => ∃ (k m : Nat), k ≤ L.length ∧ i = .int .i64 k ∧ w.drewN m = wr ∧ Aside (t ∉ edgesS (L.take k))) (fun i _ => L.length - (intOf i).toNat)
  case atStart => exact ⟨0, 0, by omega, rfl, rfl, ⟨by simp [edgesS]⟩⟩
  case round =>
    obtain ⟨k, m, hk, rfl, rfl, S⟩ := hrel
    by_cases hkl : k < L.length
    · have hl := List.getElem?_eq_getElem hkl
      obtain ⟨X, hX⟩ : ∃ X, L[k] = X := ⟨_, rfl⟩
      rw [hX] at hl
      obtain ⟨ad, rfl, e0, e1, e2, e3, ok⟩ := HV.out.at_ k X hl
      have HS : Aside (edgesS (L.take (k + 1)) = edgesS (L.take k) ++ [Win.s X, Win.s X + Win.l X]) := ⟨edgesS_snoc hl⟩
      have HM : Aside (∀ e ∈ [Win.s X, Win.s X + Win.l X], e ∈ edgesS L) := ⟨fun e he => by
        rw [edgesS, List.mem_flatMap]; exact ⟨X, List.mem_of_getElem? hl, he⟩⟩
      obtain ⟨⟨s0, s1⟩, ⟨l0, l1⟩, _, _⟩ := ok
      generalize Win.s X = sx at *
      generalize Win.l X = lx at *
      have hw : IntKind.i64.wrap (sx + lx) = sx + lx := IntWalk.i64_in _ (by omega)
      clear hl hX e2 e3
      by_cases q1 : sx = t
      · have HR : Aside (decide (t ∈ edgesS L) = true) := ⟨by simpa using HM.out sx (by simp) |> fun h => by rw [← q1]; exact h⟩
        subst q1
        go_wp2_with fail
        go_quiet (fail)
        go_wp2_with fail
        rw [HR.out]
        go_ret
        exact ⟨rfl, _, by first | rfl | exact World.drewN_drewN _ _ _⟩
      · have q1b : (sx == t) = false := by simp [q1]
        by_cases q2 : sx + lx = t
        · have HR : Aside (decide (t ∈ edgesS L) = true) := ⟨by simpa using HM.out (sx + lx) (by simp) |> fun h => by rw [← q2]; exact h⟩
          subst q2
          go_wp2_with fail
          go_quiet (fail)
          go_wp2_with fail
          rw [HR.out]
          go_ret
          exact ⟨rfl, _, by first | rfl | exact World.drewN_drewN _ _ _⟩
        · have q2b : (sx + lx == t) = false := by simp [q2]
          have HN : Aside (t ∉ edgesS (L.take (k + 1))) := ⟨by
            rw [HS.out, List.mem_append]
            rintro (h | h)
            · exact S.out h
            · simp at h; omega⟩
          go_wp2_with fail
          go_quiet (fail)
          go_wp2_with fail
          go_roundw
          case rel => exact ⟨k + 1, _, by omega, by go_num, rfl, HN⟩
          case measure => simp [intOf]; omega
    · obtain rfl : k = L.length := by omega
      have HR : Aside (decide (t ∈ edgesS L) = false) := ⟨by
        have := S.out
        rw [HE.out] at this
        simpa using this⟩
      go_wp2_with fail
      rw [HR.out]
      go_ret
      exact ⟨rfl, _, rfl⟩

theorem rnext_out (w : World) (v u : Value) (P : Plan) (t : Int) (cs : List Int) (hv : PlanV w v P) (hu : Ints w .i64 u cs) (ht : t < 0 ∨ Plan.frame P ≤ t) :
    Calls Try.prog 19 #[v, .int .i64 t, u] w (nxP w (0, 60)) := by
  obtain ⟨a0, c0, a1, c1, a2, c2, a3, c3, rfl, hp, hlen⟩ := hv.open_
  obtain ⟨A, cc, rfl, hm, _⟩ := hu
  obtain ⟨f0, f1⟩ := hp.frame
  clear hp hv
  generalize Plan.frame P = fr at *
  by_cases h1 : t < 0
  · go_enter Try.func19, Try.ntmps19
    go_wp2_with fail
    go_ret2
    exact ⟨rfl, bel_one _ _⟩
  · have h2 : fr ≤ t := by omega
    go_enter Try.func19, Try.ntmps19
    go_wp2_with fail
    go_ret2
    exact ⟨rfl, bel_one _ _⟩

set_option maxHeartbeats 3200000 in
set_option maxRecDepth 100000 in
theorem rnext_in (w : World) (v u : Value) (P : Plan) (t : Int) (cs : List Int) (hv : PlanV w v P) (hu : Ints w .i64 u cs) (h1 : 0 ≤ t) (h2 : t < Plan.frame P) :
    Calls Try.prog 19 #[v, .int .i64 t, u] w (nxP w (nextS (Plan.frame P) (Plan.cores P) t cs)) := by
  obtain ⟨a0, c0, a1, c1, a2, c2, a3, c3, rfl, hp, hlen⟩ := hv.open_
  have HU := Aside.mk hu
  obtain ⟨A, cc, rfl, hm, _⟩ := hu
  obtain ⟨f0, f1⟩ := hp.frame
  have HC := Aside.mk hp.cores
  clear hp hv
  have HN : Aside (∀ fr C, fr = Plan.frame P → C = Plan.cores P → nextS (Plan.frame P) (Plan.cores P) t cs = if ∃ c ∈ cs, c < 0 ∨ (C.length : Int) ≤ c then (0, 61) else (nearAll t fr (edgesOf C cs) - t, 0)) := ⟨fun fr C e1 e2 => by subst e1 e2; rw [nextS, if_neg (by omega)]⟩
  have HN := Aside.mk (HN.out _ _ rfl rfl)
  generalize nextS (Plan.frame P) (Plan.cores P) t cs = r at *
  generalize Plan.frame P = fr at *
  generalize Plan.cores P = C at *
  obtain ⟨W1, HW⟩ : ∃ W1, Aside (W1 = w.alloc (.cells #[.int .u16 fr, .slice a0 C.length c0, .slice a1 (Plan.parts P).length c1, .slice a2 (Plan.chans P).length c2, .slice a3 (Plan.pairs P).length c3] 28)) := ⟨_, ⟨rfl⟩⟩
  have hb1 : Aside (Below w.heap.size w W1) := ⟨by rw [HW.out]; exact bel_one _ _⟩
  obtain ⟨g0, g1, g2, g3, g4⟩ := box5 (w := W1) (B := w.heap.size) (by rw [HW.out]; exact heap_alloc_new _ _)
  clear g2 g3 g4
  go_enter Try.func19, Try.ntmps19
  go_wp2_with fail
  rw [← HW.out]
  go_loopw [6, 7, 8] (fun x y i wr => ∃ (k m : Nat), x = .int .i64 0 ∧ y = .int .i64 0 ∧ k ≤ cs.length ∧ i = .int .i64 k ∧ W1.drewN m = wr ∧ Aside (∀ c ∈ cs.take k, ¬ (c < 0 ∨ (C.length : Int) ≤ c))) (fun _ _ i _ => cs.length - (intOf i).toNat)
  case atStart => exact ⟨0, 0, rfl, rfl, by omega, rfl, rfl, ⟨by simp⟩⟩
  case round =>
    obtain ⟨k, m, rfl, rfl, hk, rfl, rfl, S⟩ := hrel
    by_cases hkl : k < cs.length
    · obtain ⟨A', cc', q, _, hA⟩ := HU.out.below hb1.out
      obtain ⟨rfl, rfl⟩ : A = A' ∧ cc = cc' := by injection q with q1 q2 q3; exact ⟨q1, q3⟩
      obtain ⟨ad, rfl, hce⟩ := hA (by omega)
      have e0 := hce k hkl
      obtain ⟨cv, hcv⟩ : ∃ cv, cs.getD k 0 = cv := ⟨_, rfl⟩
      rw [hcv] at e0
      have hg : Aside (cs[k]? = some cv) := ⟨by rw [← hcv, List.getD_eq_getElem?_getD, List.getElem?_eq_getElem hkl]; rfl⟩
      clear hA hce hcv q
      by_cases t1 : cv < 0
      · have HR : Aside (r = (0, 61)) := ⟨by rw [HN.out, if_pos ⟨cv, List.mem_of_getElem? hg.out, .inl t1⟩]⟩
        go_wp2_with fail
        go_quiet (fail)
        go_wp2_with fail
        go_ret2
        exact ⟨by rw [HR.out]; rfl, by repeat (first | exact hb1.out | refine bel_drewN ?_ _)⟩
      have t1b : decide (cv < 0) = false := by simp [t1]
      by_cases t2 : (C.length : Int) ≤ cv
      · have HR : Aside (r = (0, 61)) := ⟨by rw [HN.out, if_pos ⟨cv, List.mem_of_getElem? hg.out, .inr t2⟩]⟩
        go_wp2_with fail
        go_quiet (fail)
        go_wp2_with fail
        go_ret2
        exact ⟨by rw [HR.out]; rfl, by repeat (first | exact hb1.out | refine bel_drewN ?_ _)⟩
      have t2b : decide ((C.length : Int) ≤ cv) = false := by simp [t2]
      have hgood : Aside (∀ x ∈ cs.take (k + 1), ¬ (x < 0 ∨ (C.length : Int) ≤ x)) := ⟨by
        rw [take_snoc hg.out]
        intro x hx
        rcases List.mem_append.1 hx with h | h
        · exact S.out x h
        · obtain rfl := List.mem_singleton.1 h; omega⟩
      go_wp2_with fail
      go_quiet (fail)
      go_wp2_with fail
      go_roundw
      case rel => exact ⟨k + 1, _, rfl, rfl, by omega, by go_num, rfl, hgood⟩
      case measure => simp [intOf]; omega
    · obtain rfl : k = cs.length := by omega
      have hall : Aside (∀ c ∈ cs, ¬ (c < 0 ∨ (C.length : Int) ≤ c)) := ⟨by have := S.out; rwa [List.take_length] at this⟩
      have HR : Aside (r = (nearAll t fr (edgesOf C cs) - t, 0)) := ⟨by
        rw [HN.out, if_neg]
        rintro ⟨c, hc, h⟩
        exact hall.out c hc h⟩
      go_wp2_with fail
      go_loopw [6, 7, 9] (fun x y i wr => ∃ (n m : Nat), x = .int .i64 0 ∧ y = .int .i64 0 ∧ 1 ≤ n ∧ t + (n : Int) ≤ fr ∧ i = .int .i64 n ∧ W1.drewN m = wr ∧ Aside (∀ k : Int, 1 ≤ k → k < (n : Int) → t + k ∉ edgesOf C cs)) (fun _ _ i _ => (fr - intOf i).toNat)
      case atStart => exact ⟨1, _, rfl, rfl, by omega, by omega, rfl, rfl, ⟨fun k a b => by omega⟩⟩
      case round =>
        obtain ⟨n, m2, rfl, rfl, hn1, hn2, rfl, rfl, T⟩ := hrel
        by_cases hlt : t + (n : Int) < fr
        · have hsum : IntKind.i64.wrap (t + (n : Int)) = t + (n : Int) := IntWalk.i64_in _ (by omega)
          go_wp2_with fail
          go_loopw [6, 7, 10] (fun x y i wr => ∃ (j m : Nat), x = .int .i64 0 ∧ y = .int .i64 0 ∧ j ≤ cs.length ∧ i = .int .i64 j ∧ W1.drewN m = wr ∧ Aside (t + (n : Int) ∉ edgesOf C (cs.take j))) (fun _ _ i _ => cs.length - (intOf i).toNat)
          case atStart => exact ⟨0, _, rfl, rfl, by omega, rfl, rfl, ⟨by simp [edgesOf]⟩⟩
          case round =>
            obtain ⟨j, m3, rfl, rfl, hj, rfl, hwr, U⟩ := hrel
            have HWr := Aside.mk hwr
            have g1' : wr.cell? ⟨w.heap.size, 1, none⟩ = some (.slice a0 C.length c0) := by rw [← hwr]; simpa using g1
            have hbw : Aside (Below W1.heap.size W1 wr) := ⟨by rw [← hwr]; exact below_drewN _ _⟩
            clear hwr
            by_cases hjl : j < cs.length
            · obtain ⟨A', cc', q, _, hA⟩ := HU.out.below (bel_then hb1.out hbw.out)
              obtain ⟨rfl, rfl⟩ : A = A' ∧ cc = cc' := by injection q with q1 q2 q3; exact ⟨q1, q3⟩
              obtain ⟨ad, rfl, hce⟩ := hA (by omega)
              have e0 := hce j hjl
              obtain ⟨cv, hcv⟩ : ∃ cv, cs.getD j 0 = cv := ⟨_, rfl⟩
              rw [hcv] at e0
              have hg : cs[j]? = some cv := by rw [← hcv, List.getD_eq_getElem?_getD, List.getElem?_eq_getElem hjl]; rfl
              have hgd := hall.out cv (List.mem_of_getElem? hg)
              obtain ⟨c, rfl⟩ := Int.eq_ofNat_of_zero_le (show 0 ≤ cv by omega)
              have hcl : c < C.length := by omega
              have hcl2 : (c : Int) < (C.length : Int) := by omega
              have hl := List.getElem?_eq_getElem hcl
              obtain ⟨L, hL⟩ : ∃ L, C[c] = L := ⟨_, rfl⟩
              rw [hL] at hl
              obtain ⟨ad2, lv, rfl, hlv, hwins⟩ := (HC.out.below (bel_then hb1.out hbw.out)).at_ c L hl
              have HW2 := Aside.mk hwins
              have HE : Aside (edgesOf C (cs.take (j + 1)) = edgesOf C (cs.take j) ++ edgesS L) := ⟨edgesOf_snoc hg hl⟩
              have HM : Aside (t + (n : Int) ∈ edgesS L → t + (n : Int) ∈ edgesOf C cs) := ⟨fun h => by
                rw [edgesOf, List.mem_flatMap]
                refine ⟨(c : Int), List.mem_of_getElem? hg, ?_⟩
                rw [Int.toNat_natCast, List.getD_eq_getElem?_getD, hl]
                exact h⟩
              obtain ⟨b, hb⟩ : ∃ b, Aside (decide (t + (n : Int) ∈ edgesS L) = b) := ⟨_, ⟨rfl⟩⟩
              have KE : Aside (∀ W, Below wr.heap.size wr W → Calls Try.prog 31 #[lv, .int .i64 (t + (n : Int))] W fun e w' => e = .returned (.bool b) ∧ ∃ m, w' = W.drewN m) := ⟨fun W h => by
                have := edge_any W lv L (t + (n : Int)) (HW2.out.below h)
                rw [hb.out] at this
                exact this⟩
              clear hA hce hcv q hg hgd hl hL hwins
              cases b
              · have HN : Aside (t + (n : Int) ∉ edgesOf C (cs.take (j + 1))) := ⟨by
                  rw [HE.out, List.mem_append]
                  rintro (h | h)
                  · exact U.out h
                  · have := hb.out; simp at this; exact this h⟩
                go_wp2_with fail
                go_quiet ((go_at_call 31; exact Calls.quiet_of (KE.out _ (below_drewN _ _))))
                go_wp2_with fail
                go_roundw
                case rel => exact ⟨j + 1, _, rfl, rfl, by omega, by go_num, by rw [← HWr.out, World.drewN_drewN], HN⟩
                case measure => simp [intOf]; omega
              · have HR2 : Aside (r = ((n : Int), 0)) := ⟨by
                  rw [HR.out, ← next_unique h2 (by omega) hn2 T.out (.inr (HM.out (by have := hb.out; simpa using this)))]⟩
                go_wp2_with fail
                go_quiet ((go_at_call 31; exact Calls.quiet_of (KE.out _ (below_drewN _ _))))
                go_wp2_with fail
                go_ret2
                exact ⟨by rw [HR2.out]; rfl, by repeat (first | exact bel_then hb1.out hbw.out | refine bel_drewN ?_ _)⟩
            · obtain rfl : j = cs.length := by omega
              have HT : Aside (∀ k : Int, 1 ≤ k → k < (n : Int) + 1 → t + k ∉ edgesOf C cs) := ⟨fun k a b => by
                by_cases e : k = (n : Int)
                · subst e; have := U.out; rwa [List.take_length] at this
                · exact T.out k a (by omega)⟩
              go_wp2_with fail
              go_roundw
              case rel => exact ⟨n + 1, _, rfl, rfl, by omega, by omega, by go_num, HWr.out, ⟨fun k a b => HT.out k a (by omega)⟩⟩
              case measure => simp [intOf]; omega
        · have HR2 : Aside (r = ((n : Int), 0)) := ⟨by
            rw [HR.out, ← next_unique h2 (by omega) hn2 T.out (.inl (by omega))]⟩
          go_wp2_with fail
          go_ret2
          exact ⟨by rw [HR2.out]; rfl, by repeat (first | exact hb1.out | refine bel_drewN ?_ _)⟩
end Go.Proofs.Ytmfddaihepjfeaa
