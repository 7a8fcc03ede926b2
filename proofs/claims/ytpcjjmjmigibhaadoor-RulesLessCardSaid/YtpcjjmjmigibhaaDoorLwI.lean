/- Layer 4's laws: RulesLess. -/
import Derived.Test.YtpcjjmjmigibhaaDoorLessA
namespace Go.Proofs.YtpcjjmjmigibhaaDoor
open Go.RowKit
set_option linter.unusedVariables false
set_option linter.unusedSimpArgs false

set_option maxHeartbeats 6400000 in
set_option maxRecDepth 100000 in
theorem rless_any (w : World) (v : Value) (P : Plan) (co at_ : Int) (hc0 : 0 ≤ co) (hc1 : co ≤ 255) (ha0 : 0 ≤ at_) (ha1 : at_ ≤ 255) (hg : ETy w) (hv : PlanV w v P) : Calls Tryd.prog 8 #[v, .int .u8 co, .int .u8 at_] w fun e w' => e = .returned (.bool true) ∧ Below w.heap.size w w' := by
  obtain ⟨a0, c0, a1, c1, a2, c2, a3, c3, rfl, hp⟩ := planV_lens hv
  have HG := Aside.mk hg
  have HV := Aside.mk hv
  have HP := Aside.mk hp
  obtain ⟨W1, HW⟩ : ∃ W1, Aside (W1 = w.alloc (.cells #[.int .u16 (Plan.frame P), .slice a0 (Plan.cores P).length c0, .slice a1 (Plan.parts P).length c1, .slice a2 (Plan.chans P).length c2, .slice a3 (Plan.pairs P).length c3] 28)) := ⟨_, ⟨rfl⟩⟩
  have hb1 : Aside (Below w.heap.size w W1 ∧ W1.heap[w.heap.size]? = some (.cells #[.int .u16 (Plan.frame P), .slice a0 (Plan.cores P).length c0, .slice a1 (Plan.parts P).length c1, .slice a2 (Plan.chans P).length c2, .slice a3 (Plan.pairs P).length c3] 28 (0, 0))) := ⟨by rw [HW.out]; exact ⟨lone _ _, heap_alloc_new _ _⟩⟩
  have KF := Aside.mk (fun W (h : Below w.heap.size w W) => few_any W _ P (HV.out.below h))
  have KP := Aside.mk (fun W (h : Below w.heap.size w W) => pcheck_any W _ P (HV.out.below h))
  have KA := Aside.mk (fun W (h : Below w.heap.size w W) => awake_any W (HG.out.below h))
  have HR := Aside.mk (@rules_checkO P)
  have HOK := Aside.mk (plan_ok hv)
  have HL : Aside (checkO P = none → 1 ≤ (Plan.cores P).length ∧ (Plan.cores P).length ≤ 8 ∧ (∀ L ∈ Plan.cores P, L.length ≤ 256) ∧ ∀ C', Sub C' (Plan.cores P) → ∀ Q', Q' = Plan.pairs P ∨ Q' = [] → checkO (Plan.frame P, C', Plan.parts P, Plan.chans P, Q', ()) = none) := ⟨fun h => by
    have R := rules_checkO h
    have hs := check_split P (fun L hL x hx => (HOK.out L hL x hx).s.1)
    rw [h] at hs
    exact ⟨R.c1, R.c8, (sizes_none (orElse_none hs.symm).1).2.2, fun C' s Q' hQ => less_taken HOK.out h s Q' hQ⟩⟩
  have HF := Aside.mk hp.frame
  have HA := Aside.mk hp.parts
  have HH := Aside.mk hp.chans
  have HQ := Aside.mk hp.pairs
  have HCo := Aside.mk hp.cores
  obtain ⟨_, _, _, hlC⟩ := hp.cores.len
  obtain ⟨q, hq⟩ : ∃ q, checkO P = q := ⟨_, rfl⟩
  rw [hq] at HL KP
  clear hq
  generalize Plan.frame P = fr at *
  generalize Plan.cores P = C at *
  generalize Plan.chans P = H at *
  generalize Plan.parts P = A at *
  generalize Plan.pairs P = Q at *
  obtain ⟨p0, p1, p2, p3, p4⟩ := lbox5 hb1.out.2
  clear hp hg hv
  go_enter Tryd.func8, Tryd.ntmps8
  go_upto_region 1 with (fail)
  rw [← HW.out]
  go_wp2_with fail
  refine (KF.out _ hb1.out.1).mono ?_
  rintro e w2 ⟨b, rfl, b2⟩
  have B2 := Aside.mk (lthen hb1.out.1 b2)
  have X2 := Aside.mk (lup b2 hb1.out.2)
  clear b2 p0 p1 p2 p3 p4
  obtain ⟨p0, p1, p2, p3, p4⟩ := lbox5 X2.out
  cases b
  · go_wp2_with fail
    refine (KA.out _ B2.out).mono ?_
    rintro e w3 ⟨rfl, b3⟩
    have B3 := Aside.mk (lthen B2.out b3)
    clear b3 p0 p1 p2 p3 p4
    go_wp2_with fail
    go_ret
    exact ⟨rfl, B3.out⟩
  · go_wp2_with fail
    refine (KA.out _ B2.out).mono ?_
    rintro e w3 ⟨rfl, b3⟩
    have B3 := Aside.mk (lthen B2.out b3)
    have X3 := Aside.mk (lup b3 X2.out)
    clear b3 p0 p1 p2 p3 p4
    obtain ⟨p0, p1, p2, p3, p4⟩ := lbox5 X3.out
    go_wp2_with fail
    refine (KP.out _ B3.out).mono ?_
    rintro e w4 ⟨r, rfl, hr, b4⟩
    have B4 := Aside.mk (lthen B3.out b4)
    have X4 := Aside.mk (lup b4 X3.out)
    clear b4 p0 p1 p2 p3 p4
    obtain ⟨p0, p1, p2, p3, p4⟩ := lbox5 X4.out
    rcases errF_cases hr with ⟨e1, rfl⟩ | ⟨e1, f, rfl⟩
    rotate_left
    · clear hr e1
      go_wp2_with fail
      refine (KA.out _ B4.out).mono ?_
      rintro e w5 ⟨rfl, b5⟩
      have B5 := Aside.mk (lthen B4.out b5)
      clear b5 p0 p1 p2 p3 p4
      go_wp2_with fail
      go_ret
      exact ⟨rfl, B5.out⟩
    obtain ⟨n1, n2, n3, n4⟩ := HL.out e1
    have N4 := Aside.mk (And.intro n3 n4)
    clear hr e1 n3 n4
    obtain ⟨c, hcm, hcl⟩ : ∃ c : Nat, co % (C.length : Int) = (c : Int) ∧ c < C.length := by
      have h1 := Int.emod_nonneg co (show (C.length : Int) ≠ 0 by omega)
      have h2 := Int.emod_lt_of_pos co (show (0 : Int) < (C.length : Int) by omega)
      exact ⟨(co % (C.length : Int)).toNat, by omega, by omega⟩
    have hl := List.getElem?_eq_getElem hcl
    obtain ⟨L, hL⟩ : ∃ L, C[c] = L := ⟨_, rfl⟩
    rw [hL] at hl
    have HLc := Aside.mk hl
    obtain ⟨ad, lv, rfl, hlv, hwins⟩ := (HCo.out.below B4.out).at_ c L hl
    obtain ⟨la, lc, rfl, hlL⟩ := hwins.len
    have hl256 : L.length ≤ 256 := N4.out.1 L (List.mem_of_getElem? hl)
    have HWL := Aside.mk hwins
    clear hl hL hwins
    obtain ⟨n, hn⟩ : ∃ n, L.length = n := ⟨_, rfl⟩
    rw [hn] at HWL hlL hlv hl256
    have HNn := Aside.mk hn
    clear hn
    have z1 : ((C.length : Int) == 0) = false := beq_eq_false_iff_ne.2 (by omega)
    have i0 : (0 : Int) ≤ (c : Int) := by omega
    have i1 : (c : Int) < (C.length : Int) := by omega
    obtain ⟨W3, HW3⟩ : ∃ W3, Aside (W3 = w4.alloc (.cells #[.int .u16 fr, .slice (some ad) C.length c0, .slice a1 A.length c1, .slice a2 H.length c2, .slice a3 Q.length c3] 28)) := ⟨_, ⟨rfl⟩⟩
    go_upto_region 8 with (fail)
    rw [hcm, ← HW3.out]
    clear hcm p0 p1 p2 p3 p4 hlv z1
    have X3' : Aside (W3.heap[w4.heap.size]? = some (.cells #[.int .u16 fr, .slice (some ad) C.length c0, .slice a1 A.length c1, .slice a2 H.length c2, .slice a3 Q.length c3] 28 (0, 0)) ∧ Below w4.heap.size w4 W3 ∧ W3.heap.size = w4.heap.size + 1) := ⟨by rw [HW3.out]; exact ⟨heap_alloc_new _ _, lone _ _, by simp⟩⟩
    obtain ⟨p0, p1, p2, p3, p4⟩ := lbox5 (lup X3'.out.2.1 X4.out)
    have L1 := lt_of_block (lup X3'.out.2.1 X4.out)
    have L2 := lt_of_block X3'.out.1
    obtain ⟨vs, v1, v2, v3⟩ := cores_rows HCo.out
    have V1 := Aside.mk v1
    have V3 := Aside.mk v3
    have hone : ∀ u ∈ vs, u.oneCell' = true := by
      intro u hu
      obtain ⟨j, hj, rfl⟩ := List.getElem_of_mem hu
      obtain ⟨_, _, e, _⟩ := (V3.out j _ _ (List.getElem?_eq_getElem hj) (List.getElem?_eq_getElem (by rw [← V1.out]; exact hj))).len
      rw [e]; rfl
    have H1 := Aside.mk hone
    have V2 : Aside (∀ W, Below w.heap.size w W → 0 < C.length → ∃ ad', some ad = some ad' ∧ ∀ j u, vs[j]? = some u → W.cell? (ad'.add j) = some u) := ⟨fun W h h0 => by
      obtain ⟨ad', e, q⟩ := v2 h0
      exact ⟨ad', e, fun j u hu => lkeep h _ _ (q j u hu)⟩⟩
    clear v1 v2 v3 hone
    go_wp2_with (at_builtin; go_loud (refine append_row W3.heap.size rfl _ _ 23 43 (.slice none 0 0) 24 rfl Tryd.underlying23 A_info_core rfl (by decide) (.slice (some ⟨W3.heap.size, 0, none⟩) 0 0) 0 [] vs (some ad) C.length c0 rfl rfl (own_zero _ _ _) V1.out (V2.out _ (lthen (lthen B4.out X3'.out.2.1) (lone _ _))) H1.out (by simp) (by omega) ?_))
    intro u1 w5 o5 g5 _
    obtain ⟨g, cap, rfl, hg1, hg2⟩ := own_some o5 (by omega)
    have b5 : Below W3.heap.size W3 w5 := Below.grown (lone _ _) g5 (by simp) (fun j hj => by simp [Value.ownBlock] at hj; omega)
    have XZ := lup b5 X3'.out.1
    obtain ⟨y0, y1, y2, y3, y4⟩ := lbox5 XZ
    have f1 : w5.frozen? ⟨w4.heap.size, 1, none⟩ = false := by simp [World.frozen?, XZ]
    obtain ⟨W6, HW6⟩ : ∃ W6, Aside (W6 = w5.setCell ⟨w4.heap.size, 1, none⟩ (.slice (some ⟨g, 0, none⟩) C.length cap)) := ⟨_, ⟨rfl⟩⟩
    have B6 : Aside (Below w4.heap.size w4 W6) := ⟨by rw [HW6.out]; exact (lthen X3'.out.2.1 b5).setCell (p := ⟨w4.heap.size, 1, none⟩) (Nat.le_refl _) _⟩
    have X6 : Aside (W6.heap[w4.heap.size]? = some (.cells #[.int .u16 fr, .slice (some ⟨g, 0, none⟩) C.length cap, .slice a1 A.length c1, .slice a2 H.length c2, .slice a3 Q.length c3] 28 (0, 0))) := ⟨by
      rw [HW6.out]
      have := heap_setCell_at (off := 1) XZ (.slice (some ⟨g, 0, none⟩) C.length cap)
      simpa using this⟩
    have O6 : Aside (W6.ownsRow W3.heap.size 43 1 (.slice (some ⟨g, 0, none⟩) C.length cap) C.length vs) := ⟨by
      rw [HW6.out]
      have q : w5.ownsRow W3.heap.size 43 1 (.slice (some ⟨g, 0, none⟩) C.length cap) C.length vs := by simpa using o5
      exact own_kept (S := fun k => k = w4.heap.size) q ((Kept.refl (fun k => k = w4.heap.size) w5).setCell (p := ⟨w4.heap.size, 1, none⟩) (.inl rfl) _) (fun r hr => by simp [Value.ownBlock] at hr; omega)⟩
    have hgZ : w4.heap.size < g := by omega
    go_upto_region 9 with (fail)
    rw [← HW6.out]
    clear p0 p1 p2 p3 p4 y0 y1 y2 y3 y4 f1 XZ b5 o5 g5 hg1 hg2 L1 L2
    have hg6 : g < W6.heap.size := by
      have := O6.out.2
      rcases this with ⟨q, _⟩ | ⟨g', cap', cur, q, _, hh, _⟩
      · cases q
      · injection q with q1
        injection q1 with q1
        injection q1 with q1
        subst q1
        exact lt_of_block hh
    go_upto_if 43 with (fail)
    go_cut [] (fun wc => Aside (∃ C', Sub C' C ∧ Below w4.heap.size w4 wc ∧ wc.heap[w4.heap.size]? = some (.cells #[.int .u16 fr, .slice (some ⟨g, 0, none⟩) C.length cap, .slice a1 A.length c1, .slice a2 H.length c2, .slice a3 Q.length c3] 28 (0, 0)) ∧ Cores wc (.slice (some ⟨g, 0, none⟩) C.length cap) C'))
    case first =>
      by_cases hL0 : n = 0
      · have z0 : ¬ 0 < n := by omega
        have z1 : ¬ (0 : Int) < (n : Int) := by omega
        clear hL0
        go_wp2_with fail
        go_meet
        case rel => exact ⟨C, sub_refl C, B6.out, X6.out, rows_cores O6.out (fun j u L h1 h2 => (V3.out j u L h1 h2).below (lthen B4.out B6.out))⟩
      · obtain ⟨k, hkm, hkl⟩ : ∃ k : Nat, at_ % (n : Int) = (k : Int) ∧ k < n := by
          have h1 := Int.emod_nonneg at_ (show (n : Int) ≠ 0 by omega)
          have h2 := Int.emod_lt_of_pos at_ (show (0 : Int) < (n : Int) by omega)
          exact ⟨(at_ % (n : Int)).toNat, by omega, by omega⟩
        have z0 : (0 : Int) < (n : Int) := by omega
        have z1 : ((n : Int) == 0) = false := beq_eq_false_iff_ne.2 (by omega)
        obtain ⟨ld, rfl⟩ : ∃ ld, la = some ld := by
          obtain ⟨a', c', e, h1, h2, h3⟩ := HWL.out
          obtain ⟨ad', rfl, _⟩ := h3 (by have := HNn.out; omega)
          injection e with e1
          exact ⟨_, e1⟩
        have hcap : n ≤ lc ∧ lc ≤ 9223372036854775807 := by
          obtain ⟨a', c', e, h1, h2, h3⟩ := HWL.out
          injection e with _ _ e3
          subst e3
          have := HNn.out
          exact ⟨by omega, h2⟩
        obtain ⟨hcap1, hcap2⟩ := hcap
        clear hL0
        go_upto_region 11 with (fail)
        rw [hkm]
        clear hkm z0 z1
        obtain ⟨y0, y1, y2, y3, y4⟩ := lbox5 X6.out
        obtain ⟨ou, o1, o2⟩ := own_cell O6.out c hcl
        have NT : Aside (∀ W, Below W6.heap.size W6 W → ((L.take k).flatMap Win.vals).length = k * 4 ∧ (0 < k → ∃ ad, some ld = some ad ∧ ∀ j u, ((L.take k).flatMap Win.vals)[j]? = some u → W.cell? (ad.add j) = some u)) := ⟨fun W h => news_take (HWL.out.below (lthen B6.out h)) HNn.out k hkl⟩
        have ND : Aside (∀ W A', Below W6.heap.size W6 W → (0 < n - (k + 1) → A' = some (ld.add ((k + 1) * 4))) → ((L.drop (k + 1)).flatMap Win.vals).length = (n - (k + 1)) * 4 ∧ (0 < n - (k + 1) → ∃ ad, A' = some ad ∧ ∀ j u, ((L.drop (k + 1)).flatMap Win.vals)[j]? = some u → W.cell? (ad.add j) = some u)) := ⟨fun W A' h hA => news_drop (HWL.out.below (lthen B6.out h)) HNn.out k hkl A' hA⟩
        have iw1 : IntKind.i64.wrap ((k : Int) + 1) = (k : Int) + 1 := IntWalk.i64_in _ (by omega)
        have iw2 : (0 : Int) ≤ (k : Int) + 1 := by omega
        have iw3 : ((k : Int) + 1).toNat = k + 1 := by omega
        have iw4 : (k : Int) + 1 ≤ (n : Int) := by omega
        have iw5 : (0 : Int) ≤ (k : Int) := by omega
        have iw6 : (k : Int) ≤ (n : Int) := by omega
        have iw7 : (n : Int) ≤ (lc : Int) := by omega
        have iw8 : (k : Int) ≤ (lc : Int) := by omega
        have iw9 : ((k : Int)).toNat = k := by omega
        rcases Nat.lt_or_ge (k + 1) lc with hlc | hlc
        rotate_left
        · obtain rfl : lc = k + 1 := by omega
          obtain rfl : n = k + 1 := by omega
          have jw1 : (k : Int) ≤ (k : Int) + 1 := by omega
          have jw2 : k ≤ k + 1 := by omega
          have jw3 : (((k + 1 : Nat)) : Int) = (k : Int) + 1 := by omega
          have HD : Aside (L.drop (k + 1) = []) := ⟨List.drop_eq_nil_of_le (by rw [HNn.out]; exact Nat.le_refl _)⟩
          go_region_held3 (fun w' => w'.cell? ⟨w4.heap.size, 1, none⟩ = some (.slice (some ⟨g, 0, none⟩) C.length cap)) (first | go_keep | (exact q1 _ _ y1) | (exact set1_cell (q1 _ _ y1) (Nat.ne_of_lt hgZ)))
            (first
              | (refine step_append_rows W6.heap.size (by rfl) _ _ 43 39 _ 4 6 (by rfl) Tryd.underlying43 A_info_win (by rfl) (by decide) (by decide) _ 0 [] ((L.take k).flatMap Win.vals) (some ld) k _ (by rfl) (by rfl) (own_zero W6.drew _ _) (NT.out _ (Below.refl _ _)).1 (NT.out _ (by repeat (first | exact Below.refl _ _ | apply lalloc | apply ldrew))).2 (wins_one' _) (by simp) (by omega) ?_; intro u2 w8 o8 r8 _; have B8 : Below W6.heap.size W6 w8 := Below.grown (by repeat (first | exact Below.refl _ _ | apply lalloc | apply ldrew)) r8 (by simp <;> omega) (fun j hj => by simp [Value.ownBlock] at hj; omega); have q1 := lkeep B8)
              | (refine step_append_rows W6.heap.size (by rfl) _ _ 43 39 _ 4 6 (by rfl) Tryd.underlying43 A_info_win (by rfl) (by decide) (by decide) u2 _ _ [] _ 0 _ (by rfl) (by rfl) o8 (by rfl) (fun h => absurd h (Nat.lt_irrefl 0)) (by simp) B8.size (by omega) ?_; intro u3 w9 o9 r9 _; have B9 : Below W6.heap.size W6 w9 := Below.grown B8 r9 B8.size (fun j hj => own_base o8 j hj); have q1 := lkeep B9; have o2 := (B9.frozen (p := ⟨g, c, none⟩) hg6).trans o2; have o1 := q1 _ _ o1; obtain ⟨A3, k3, rfl⟩ := own_len o9))
          all_goals
            go_wp2_with fail
            go_meet
            case rel => exact ⟨_, less_end HOK.out B4.out B6.out B9 X6.out O6.out hgZ hg6 HLc.out HNn.out hkl V3.out (xs := (L.take k).flatMap Win.vals ++ (L.drop (k + 1)).flatMap Win.vals) (by rw [HD.out]; simpa using o9) (by omega) rfl⟩
        · have hlc : ¬ lc = k + 1 := by omega
          go_region_held3 (fun w' => w'.cell? ⟨w4.heap.size, 1, none⟩ = some (.slice (some ⟨g, 0, none⟩) C.length cap)) (first | go_keep | (exact q1 _ _ y1) | (exact set1_cell (q1 _ _ y1) (Nat.ne_of_lt hgZ)))
            (first
              | (refine step_append_rows W6.heap.size (by rfl) _ _ 43 39 _ 4 6 (by rfl) Tryd.underlying43 A_info_win (by rfl) (by decide) (by decide) _ 0 [] ((L.take k).flatMap Win.vals) (some ld) k _ (by rfl) (by rfl) (own_zero W6.drew _ _) (NT.out _ (Below.refl _ _)).1 (NT.out _ (by repeat (first | exact Below.refl _ _ | apply lalloc | apply ldrew))).2 (wins_one' _) (by simp) (by omega) ?_; intro u2 w8 o8 r8 _; have B8 : Below W6.heap.size W6 w8 := Below.grown (by repeat (first | exact Below.refl _ _ | apply lalloc | apply ldrew)) r8 (by simp <;> omega) (fun j hj => by simp [Value.ownBlock] at hj; omega); have q1 := lkeep B8)
              | (refine step_append_rows W6.heap.size (by rfl) _ _ 43 39 _ 4 6 (by rfl) Tryd.underlying43 A_info_win (by rfl) (by decide) (by decide) u2 _ _ ((L.drop (k + 1)).flatMap Win.vals) _ _ _ (by rfl) (by rfl) o8 (ND.out _ _ (Below.refl _ _) (fun _ => by first | rfl | simp [Addr.add] | omega)).1 (ND.out _ _ B8 (fun _ => by first | rfl | simp [Addr.add] | omega)).2 (wins_one' _) B8.size (by omega) ?_; intro u3 w9 o9 r9 _; have B9 : Below W6.heap.size W6 w9 := Below.grown B8 r9 B8.size (fun j hj => own_base o8 j hj); have q1 := lkeep B9; have o2 := (B9.frozen (p := ⟨g, c, none⟩) hg6).trans o2; have o1 := q1 _ _ o1; obtain ⟨A3, k3, rfl⟩ := own_len o9))
          all_goals
            go_wp2_with fail
            go_meet
            case rel => exact ⟨_, less_end HOK.out B4.out B6.out B9 X6.out O6.out hgZ hg6 HLc.out HNn.out hkl V3.out (xs := (L.take k).flatMap Win.vals ++ (L.drop (k + 1)).flatMap Win.vals) (by simpa using o9) (by omega) rfl⟩
    case rest =>
      obtain ⟨C', hS, hB, hX, hCo⟩ := hcut.out
      have NQ := Aside.mk (N4.out.2 C' hS)
      have BC := Aside.mk (lthen B4.out hB)
      have XC := Aside.mk hX
      have CC := Aside.mk hCo
      have PQ : Aside (∀ W, Below wc.heap.size wc W → PlanV W (.agg #[.int .u16 fr, .slice (some ⟨g, 0, none⟩) C.length cap, .slice a1 A.length c1, .slice a2 H.length c2, .slice a3 Q.length c3]) (fr, C', A, H, Q, ())) := ⟨fun W h => ⟨_, _, _, _, _, _, _, _, _, _, _, _, rfl, ⟨HF.out, CC.out.below h, elems_below HA.out (lthen BC.out h), elems_below HH.out (lthen BC.out h), elems_below HQ.out (lthen BC.out h)⟩⟩⟩
      have PR : Aside (∀ W, Below wc.heap.size wc W → PlanV W (.agg #[.int .u16 fr, .slice (some ⟨g, 0, none⟩) C.length cap, .slice a1 A.length c1, .slice a2 H.length c2, .slice none 0 0]) (fr, C', A, H, [], ())) := ⟨fun W h => ⟨_, _, _, _, _, _, _, _, _, _, _, _, rfl, ⟨HF.out, CC.out.below h, elems_below HA.out (lthen BC.out h), elems_below HH.out (lthen BC.out h), ⟨none, 0, rfl, Nat.le_refl 0, by decide, fun h => absurd h (Nat.lt_irrefl 0)⟩⟩⟩⟩
      clear hS hB hX hCo hcut
      obtain ⟨y0, y1, y2, y3, y4⟩ := lbox5 XC.out
      obtain ⟨W7, HW7⟩ : ∃ W7, Aside (W7 = wc.alloc (.cells #[.int .u16 fr, .slice (some ⟨g, 0, none⟩) C.length cap, .slice a1 A.length c1, .slice a2 H.length c2, .slice a3 Q.length c3] 28)) := ⟨_, ⟨rfl⟩⟩
      have X7 : Aside (W7.heap[wc.heap.size]? = some (.cells #[.int .u16 fr, .slice (some ⟨g, 0, none⟩) C.length cap, .slice a1 A.length c1, .slice a2 H.length c2, .slice a3 Q.length c3] 28 (0, 0)) ∧ Below wc.heap.size wc W7) := ⟨by rw [HW7.out]; exact ⟨heap_alloc_new _ _, lone _ _⟩⟩
      go_upto_region 13 with (fail)
      rw [← HW7.out]
      clear y0 y1 y2 y3 y4
      obtain ⟨r0, r1, r2, r3, r4⟩ := lbox5 X7.out.1
      have f4 : W7.frozen? ⟨wc.heap.size, 4, none⟩ = false := by simp [World.frozen?, X7.out.1]
      obtain ⟨W8, HW8⟩ : ∃ W8, Aside (W8 = W7.setCell ⟨wc.heap.size, 4, none⟩ (.slice none 0 0)) := ⟨_, ⟨rfl⟩⟩
      have X8 : Aside (W8.heap[wc.heap.size]? = some (.cells #[.int .u16 fr, .slice (some ⟨g, 0, none⟩) C.length cap, .slice a1 A.length c1, .slice a2 H.length c2, .slice none 0 0] 28 (0, 0)) ∧ Below wc.heap.size wc W8) := ⟨by
        rw [HW8.out]
        have := heap_setCell_at (off := 4) X7.out.1 (.slice none 0 0)
        exact ⟨by simpa using this, X7.out.2.setCell (p := ⟨wc.heap.size, 4, none⟩) (Nat.le_refl _) _⟩⟩
      go_upto_region 14 with (fail)
      rw [← HW8.out]
      clear r0 r1 r2 r3 r4 f4
      obtain ⟨y0, y1, y2, y3, y4⟩ := lbox5 (lup X8.out.2 XC.out)
      have KC : Aside (Calls Tryd.prog 12 #[.agg #[.int .u16 fr, .slice (some ⟨g, 0, none⟩) C.length cap, .slice a1 A.length c1, .slice a2 H.length c2, .slice a3 Q.length c3]] W8 (ErrR W8 none)) := ⟨by
        have h := pcheck_any W8 _ _ (PQ.out _ X8.out.2)
        rw [NQ.out Q (.inl rfl)] at h
        exact h⟩
      go_wp2_with fail
      refine KC.out.mono ?_
      rintro e w8 ⟨r, rfl, hr, b8⟩
      obtain rfl : r = .nilIface := hr
      have B8 := Aside.mk (lthen X8.out.2 b8)
      have KD : Aside (Calls Tryd.prog 12 #[.agg #[.int .u16 fr, .slice (some ⟨g, 0, none⟩) C.length cap, .slice a1 A.length c1, .slice a2 H.length c2, .slice none 0 0]] w8 (ErrR w8 none)) := ⟨by
        have h := pcheck_any w8 _ _ (PR.out _ B8.out)
        rw [NQ.out [] (.inr rfl)] at h
        exact h⟩
      clear y0 y1 y2 y3 y4
      obtain ⟨r0, r1, r2, r3, r4⟩ := lbox5 (lup b8 X8.out.1)
      clear b8
      go_wp2_with fail
      refine KD.out.mono ?_
      rintro e w9 ⟨r, rfl, hr, b9⟩
      obtain rfl : r = .nilIface := hr
      have B9 := Aside.mk (lthen B8.out b9)
      clear r0 r1 r2 r3 r4 b9
      go_wp2_with fail
      go_ret
      exact ⟨rfl, lthen BC.out B9.out⟩
end Go.Proofs.YtpcjjmjmigibhaaDoor
