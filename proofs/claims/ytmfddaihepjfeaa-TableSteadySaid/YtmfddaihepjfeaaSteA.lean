/- Table: the law TableSteady. -/
import Derived.Test.YtmfddaihepjfeaaTabL
import Derived.Test.YtmfddaihepjfeaaTabN
import Derived.Test.YtmfddaihepjfeaaTabW
namespace Go.Proofs.Ytmfddaihepjfeaa
open Go.RowKit
set_option linter.unusedVariables false
set_option linter.unusedSimpArgs false

theorem hup2 {a b : World} (h : Below a.heap.size a b) {k : Nat} {o : Obj} (hk : a.heap[k]? = some o) : b.heap[k]? = some o := (h.block k (lt_of_block hk)).trans hk
theorem sv_same (L : List Win) (t u : Int) (h : ∀ x ∈ L, hasS x t = hasS x u) : servesS L t = servesS L u := by
  induction L with
  | nil => rfl
  | cons x L ih => rw [serves_cons, serves_cons, h x (List.mem_cons_self ..), ih (fun y hy => h y (List.mem_cons_of_mem _ hy))]
def rangeL (m : Nat) : List Int := (List.range m).map fun c : Nat => (c : Int)
theorem rangeL_len (m : Nat) : (rangeL m).length = m := by simp [rangeL]
theorem rangeL_succ (m : Nat) : rangeL (m + 1) = rangeL m ++ [(m : Int)] := by simp [rangeL, List.range_succ]
theorem edges_all (C : List (List Win)) (L : List Win) (hL : L ∈ C) (e : Int) (he : e ∈ edgesS L) : e ∈ edgesOf C (rangeL C.length) := by
  obtain ⟨c, hc, rfl⟩ := List.getElem_of_mem hL
  refine List.mem_flatMap.2 ⟨(c : Int), List.mem_map.2 ⟨c, List.mem_range.2 hc, rfl⟩, ?_⟩
  rw [Int.toNat_natCast, List.getD_eq_getElem?_getD, List.getElem?_eq_getElem hc]
  exact he
/-- Between two edges no core turns to another partition. -/
theorem steady_plain (C : List (List Win)) (F t u : Int) (h1 : t ≤ u) (h2 : u < nearAll t F (edgesOf C (rangeL C.length))) : turnS C u = turnS C t := by
  refine List.map_congr_left fun L hL => sv_same L u t fun x hx => ?_
  have he : ∀ e ∈ [Win.s x, Win.s x + Win.l x], t < e → u < e := fun e hm hte => by
    have := nearAll_least t F (edgesOf C (rangeL C.length)) e (edges_all C L hL e (List.mem_flatMap.2 ⟨x, hx, hm⟩)) hte
    omega
  have e1 := he (Win.s x) (by simp)
  have e2 := he (Win.s x + Win.l x) (by simp)
  rw [Bool.eq_iff_iff, hasS_iff, hasS_iff]
  omega
theorem next_all (F : Int) (C : List (List Win)) (t : Int) (h0 : 0 ≤ t) (h1 : t < F) : ∃ n : Nat, nextS F C t (rangeL C.length) = ((n : Int), 0) ∧ 1 ≤ n ∧ t + n ≤ F ∧ ∀ k : Nat, k < n → turnS C (t + k) = turnS C t := by
  have a := nearAll_gt t F (edgesOf C (rangeL C.length)) h1
  have b := nearAll_le t F (edgesOf C (rangeL C.length))
  obtain ⟨n, hn⟩ := Int.eq_ofNat_of_zero_le (show 0 ≤ nearAll t F (edgesOf C (rangeL C.length)) - t by omega)
  refine ⟨n, ?_, by omega, by omega, fun k hk => steady_plain C F t (t + k) (by omega) (by omega)⟩
  have hno : ¬ ∃ c ∈ rangeL C.length, c < 0 ∨ (C.length : Int) ≤ c := by
    rintro ⟨c, hc, h⟩
    obtain ⟨j, hj, rfl⟩ := List.mem_map.1 hc
    have := List.mem_range.1 hj
    omega
  rw [nextS, if_neg (by omega), if_neg hno, hn]
set_option maxHeartbeats 6400000 in
set_option maxRecDepth 100000 in
theorem steady_any (w : World) (v : Value) (P : Plan) (t : Int) (hv : PlanV w v P) :
    Calls Try.prog 8 #[v, .int .i64 t] w fun e w' => e = .returned (.bool true) ∧ Below w.heap.size w w' := by
  have hv0 := hv
  obtain ⟨a0, c0, a1, c1, a2, c2, a3, c3, rfl, hp, hlen⟩ := hv.open_
  obtain ⟨f0, f1⟩ := hp.frame
  obtain ⟨W1, HW⟩ : ∃ W1, Aside (W1 = w.alloc (.cells #[.int .u16 (Plan.frame P), .slice a0 (Plan.cores P).length c0, .slice a1 (Plan.parts P).length c1, .slice a2 (Plan.chans P).length c2, .slice a3 (Plan.pairs P).length c3] 28)) := ⟨_, ⟨rfl⟩⟩
  have hb1 : Aside (Below w.heap.size w W1 ∧ W1.heap[w.heap.size]? = some (.cells #[.int .u16 (Plan.frame P), .slice a0 (Plan.cores P).length c0, .slice a1 (Plan.parts P).length c1, .slice a2 (Plan.chans P).length c2, .slice a3 (Plan.pairs P).length c3] 28 (0, 0))) := ⟨by rw [HW.out]; exact ⟨bel_one _ _, heap_alloc_new _ _⟩⟩
  have K1 := Aside.mk (taken_any W1 _ P (hv0.below hb1.out.1))
  have HV := Aside.mk hv0
  obtain ⟨fr, hfr⟩ : ∃ fr, Plan.frame P = fr := ⟨_, rfl⟩
  have hfw : IntKind.i64.wrap fr = fr := IntWalk.i64_in _ (by omega)
  have HFR := Aside.mk hfr
  rw [hfr] at f0 f1 HW hb1 HV K1
  rw [hfr]
  obtain ⟨g0, g1, g2, g3, g4⟩ := box5 hb1.out.2
  clear hp hv hv0 hfr
  go_enter Try.func8, Try.ntmps8
  go_wp2_with fail
  rw [← HW.out]
  refine K1.out.mono ?_
  rintro e w2 ⟨b, rfl, htk, b2⟩
  have B2 := Aside.mk (bel_then hb1.out.1 b2)
  have X2 := Aside.mk ((b2.block _ (lt_of_block hb1.out.2)).trans hb1.out.2)
  clear b2 g0 g1 g2 g3 g4
  obtain ⟨g0, g1, g2, g3, g4⟩ := box5 X2.out
  cases b
  · clear htk
    go_wp2_with fail
    refine (awake_any w2).mono ?_
    rintro e w3 ⟨rfl, b3⟩
    have B3 := Aside.mk (bel_then B2.out b3)
    clear b3 g0 g1 g2 g3 g4
    go_wp2_with fail
    go_ret
    exact ⟨rfl, B3.out⟩
  · by_cases ht0 : t < 0
    · clear htk
      go_wp2_with fail
      refine (awake_any w2).mono ?_
      rintro e w3 ⟨rfl, b3⟩
      have B3 := Aside.mk (bel_then B2.out b3)
      clear b3 g0 g1 g2 g3 g4
      go_wp2_with fail
      go_ret
      exact ⟨rfl, B3.out⟩
    · by_cases ht1 : fr ≤ t
      · clear htk
        go_wp2_with fail
        refine (awake_any w2).mono ?_
        rintro e w3 ⟨rfl, b3⟩
        have B3 := Aside.mk (bel_then B2.out b3)
        clear b3 g0 g1 g2 g3 g4
        go_wp2_with fail
        go_ret
        exact ⟨rfl, B3.out⟩
      · have h8 := (htk rfl).cores
        obtain ⟨n, hnx, hn1, hn2, hsame⟩ := next_all fr (Plan.cores P) t (by omega) (by omega)
        have KN : Aside (∀ W q, Below w.heap.size w W → Ints W .i64 q (rangeL (Plan.cores P).length) → Calls Try.prog 18 #[.agg #[.int .u16 fr, .slice a0 (Plan.cores P).length c0, .slice a1 (Plan.parts P).length c1, .slice a2 (Plan.chans P).length c2, .slice a3 (Plan.pairs P).length c3], .int .i64 t, q] W (nxP W ((n : Int), 0))) := ⟨fun W q h hi => by
          rw [← hnx, ← HFR.out]
          exact next_in W _ q P t _ (by rw [HFR.out]; exact HV.out.below h) hi (by omega) (by rw [HFR.out]; omega)⟩
        have KT : Aside (∀ W (k : Nat), k < n → Below w.heap.size w W → Calls Try.prog 12 #[.agg #[.int .u16 fr, .slice a0 (Plan.cores P).length c0, .slice a1 (Plan.parts P).length c1, .slice a2 (Plan.chans P).length c2, .slice a3 (Plan.pairs P).length c3], .int .i64 (t + k)] W fun e w' => ∃ r, e = .returned (.tuple #[r, .int .i64 0]) ∧ Ints w' .i64 r (turnS (Plan.cores P) t) ∧ Below W.heap.size W w') := ⟨fun W k hk h => (turn_in W _ P (t + k) (HV.out.below h) (by omega) (by rw [HFR.out]; omega) (by omega)).mono fun e w' q => by
          obtain ⟨r, q1, q2, _, q3⟩ := q
          rw [hsame k hk] at q2
          exact ⟨r, q1, q2, q3⟩⟩
        have KT0 : Aside (∀ W, Below w.heap.size w W → Calls Try.prog 12 #[.agg #[.int .u16 fr, .slice a0 (Plan.cores P).length c0, .slice a1 (Plan.parts P).length c1, .slice a2 (Plan.chans P).length c2, .slice a3 (Plan.pairs P).length c3], .int .i64 t] W fun e w' => ∃ r, e = .returned (.tuple #[r, .int .i64 0]) ∧ Ints w' .i64 r (turnS (Plan.cores P) t) ∧ Below W.heap.size W w') := ⟨fun W h => by have := KT.out W 0 (by omega) h; simpa using this⟩
        have KM : Aside (∀ W x y, Ints W .i64 x (turnS (Plan.cores P) t) → Ints W .i64 y (turnS (Plan.cores P) t) → Calls Try.prog 16 #[x, y] W fun e w' => e = .returned (.bool true) ∧ Below W.heap.size W w') := ⟨fun W x y hx hy => by have := rsame_any W x y _ _ hx hy; simpa using this⟩
        clear htk hnx hsame
        generalize turnS (Plan.cores P) t = TT at *
        go_wp2_with fail
        go_loopg [5, 6] (Plan.cores P).length (fun q s5 s6 wr => ∃ k : Nat, k ≤ (Plan.cores P).length ∧ q = (Plan.cores P).length - k ∧ s6 = .int .i64 k ∧ Aside (wr.ownsRow w2.heap.size 3 1 s5 k ((rangeL k).map (Value.int .i64)) ∧ Below w2.heap.size w2 wr))
        case atStart => exact ⟨0, by omega, rfl, rfl, ⟨⟨by simp [rangeL], .inr ⟨_, 0, #[], rfl, Nat.le_refl _, heap_alloc_new _ _, Nat.le_refl _, by decide, by simp, by simp [rangeL]⟩⟩, bel_one _ _⟩⟩
        case round =>
          obtain ⟨k, hk, rfl, rfl, hst⟩ := hrel
          clear g0 g1 g2 g3 g4
          obtain ⟨g0, g1, g2, g3, g4⟩ := box5 (hup2 hst.out.2 X2.out)
          obtain ⟨Ab, cb, hvb⟩ := own_len hst.out.1
          subst hvb
          by_cases hlt : k < (Plan.cores P).length
          · go_wp2_with (at_builtin; go_loud (refine append_elem w2.heap.size rfl _ _ 31 3 (.int .i64 0) 1 8 rfl Try.underlying31 A_info_int rfl (by decide) (by decide) (.slice Ab k cb) k ((rangeL k).map (Value.int .i64)) [.int .i64 k] rfl rfl rfl (by intro u hu; simp at hu; subst hu; rfl) hst.out.1 hst.out.2.size (by omega) ?_))
            intro v5 w5 o5 g5 _
            have H5 : Aside (w5.ownsRow w2.heap.size 3 1 v5 (k + 1) ((rangeL (k + 1)).map (Value.int .i64)) ∧ Below w2.heap.size w2 w5) := ⟨by rw [rangeL_succ, List.map_append]; exact o5, hst.out.2.grown g5 hst.out.2.size (fun j hj => own_base hst.out.1 j hj)⟩
            clear o5 g5
            go_wp2_with fail
            go_roundg ((Plan.cores P).length - (k + 1))
            case measure => omega
            case rel => exact ⟨k + 1, by omega, rfl, by go_num, H5⟩
          · obtain rfl : k = (Plan.cores P).length := by omega
            have BW := Aside.mk (bel_then B2.out hst.out.2)
            have hI : Ints wr .i64 (.slice Ab (Plan.cores P).length cb) (rangeL (Plan.cores P).length) := own_ints hst.out.1
            have KN1 := Aside.mk (KN.out wr _ BW.out hI)
            have XW := Aside.mk (hup2 hst.out.2 X2.out)
            clear hI hlt hk hst
            go_wp2_with fail
            refine KN1.out.mono ?_
            rintro e w5 ⟨rfl, b5⟩
            have B5 := Aside.mk (bel_then BW.out b5)
            have X5 := Aside.mk (hup2 b5 XW.out)
            clear b5 g0 g1 g2 g3 g4
            obtain ⟨g0, g1, g2, g3, g4⟩ := box5 X5.out
            go_wp2_with fail
            refine (KT0.out _ B5.out).mono ?_
            rintro e w6 ⟨r0, rfl, hr0, b6⟩
            have B6 := Aside.mk (bel_then B5.out b6)
            have X6 := Aside.mk (hup2 b6 X5.out)
            have R6 := Aside.mk hr0
            clear b6 hr0 g0 g1 g2 g3 g4
            go_wp2_with fail
            refine (awake_any w6).mono ?_
            rintro e w7 ⟨rfl, b7⟩
            have B7 := Aside.mk (bel_then B6.out b7)
            have X7 := Aside.mk (hup2 b7 X6.out)
            have R7 := Aside.mk (R6.out.below b7)
            clear b7
            obtain ⟨g0, g1, g2, g3, g4⟩ := box5 X7.out
            have hw1 : IntKind.i64.wrap (t + (n : Int)) = t + (n : Int) := IntWalk.i64_in _ (by omega)
            have n1 : ¬ (n : Int) < 1 := by omega
            have n2 : ¬ fr < t + (n : Int) := by omega
            go_wp2_with fail
            go_loopg [11] n (fun q s11 wr => ∃ k : Nat, k ≤ n ∧ q = n - k ∧ s11 = .int .i64 (t + (k : Int)) ∧ Aside (Below w7.heap.size w7 wr))
            case atStart => exact ⟨0, by omega, rfl, by simp, ⟨Below.refl _ _⟩⟩
            case round =>
              obtain ⟨k, hk, rfl, rfl, hst⟩ := hrel
              clear g0 g1 g2 g3 g4
              obtain ⟨g0, g1, g2, g3, g4⟩ := box5 (hup2 hst.out X7.out)
              have BR := Aside.mk (bel_then B7.out hst.out)
              by_cases hlt : k < n
              · have hlt' : t + (k : Int) < t + (n : Int) := by omega
                have KTk := Aside.mk (KT.out wr k hlt BR.out)
                have hw2 : IntKind.i64.wrap (t + (k : Int) + 1) = t + (k : Int) + 1 := IntWalk.i64_in _ (by omega)
                go_wp2_with fail
                refine KTk.out.mono ?_
                rintro e w8 ⟨r, rfl, hr, b8⟩
                have KMk := Aside.mk (KM.out w8 r0 r (R7.out.below (bel_then hst.out b8)) hr)
                have B8 := Aside.mk (bel_then hst.out b8)
                clear hr b8 g0 g1 g2 g3 g4
                go_wp2_with fail
                refine KMk.out.mono ?_
                rintro e w9 ⟨rfl, b9⟩
                have B9 := Aside.mk (bel_then B8.out b9)
                clear b9
                go_wp2_with fail
                go_roundg (n - (k + 1))
                case measure => omega
                case rel => exact ⟨k + 1, by omega, rfl, by congr 1; omega, B9⟩
              · have hlt' : ¬ t + (k : Int) < t + (n : Int) := by omega
                clear hlt
                go_wp2_with fail
                go_ret
                exact ⟨rfl, BR.out⟩
end Go.Proofs.Ytmfddaihepjfeaa
