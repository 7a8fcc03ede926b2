/- The program's rules: pairs of windows. -/
import Derived.Test.YtpcjjmjmigibhaaDoorChkC
namespace Go.Proofs.YtpcjjmjmigibhaaDoor
open Go.RowKit
set_option linter.unusedVariables false
set_option linter.unusedSimpArgs false

theorem callFunc_f2 (args : Array Value) (w : World) : (callFunc 39 args).run Tryd.prog w = .ok (.enter 39 args) w := by kernel_rfl
theorem Wins.take {w : World} {a : Option Addr} {n cap : Nat} {L : List Win} (h : Wins w (.slice a n cap) L) (i : Nat) (hi : i ≤ L.length) : Wins w (.slice a i cap) (L.take i) := by
  obtain ⟨a', cap', e, h1, h2, h3⟩ := h
  cases e
  have hl : (L.take i).length = i := by rw [List.length_take]; omega
  refine ⟨a, cap, by rw [hl], by omega, h2, fun hp => ?_⟩
  rw [hl] at hp
  obtain ⟨ad, rfl, h4⟩ := h3 (by omega)
  refine ⟨ad, rfl, fun j hj => ?_⟩
  rw [hl] at hj
  obtain ⟨cs, e, hc, hr⟩ := h4 j (by omega)
  exact ⟨cs, e, hc, by rw [List.getElem_take]; exact hr⟩
theorem Wins.cap {w : World} {a : Option Addr} {n cap : Nat} {L : List Win} (h : Wins w (.slice a n cap) L) : n = L.length ∧ L.length ≤ cap ∧ cap ≤ 9223372036854775807 := by
  obtain ⟨a', cap', e, h1, h2, h3⟩ := h
  cases e
  exact ⟨rfl, h1, h2⟩
theorem Cores.cap {w : World} {a : Option Addr} {n cap : Nat} {C : List (List Win)} (h : Cores w (.slice a n cap) C) : n = C.length ∧ C.length ≤ cap ∧ cap ≤ 9223372036854775807 := by
  obtain ⟨a', cap', e, h1, h2, h3⟩ := h
  cases e
  exact ⟨rfl, h1, h2⟩
set_option maxHeartbeats 6400000 in
set_option maxRecDepth 100000 in
theorem pair1_any (w0 : World) (P : Plan) (a0 : Option Addr) (c0 : Nat) (v0 v2 v3 v4 : Value) (hlen : (Plan.cores P).length ≤ 8) (hC256 : ∀ L ∈ Plan.cores P, L.length ≤ 256) (HC : Cores w0 (.slice a0 (Plan.cores P).length c0) (Plan.cores P)) (B : Nat) (c i : Nat) (L : List Win) (x : Win) (W : World) (hc : (Plan.cores P)[c]? = some L) (hi : L[i]? = some x) (ok : Win.Ok x) (hB : Below w0.heap.size w0 W)
    (hb : W.heap[B]? = some (.cells #[v0, .slice a0 (Plan.cores P).length c0, v2, v3, v4] 28 (0, 0))) :
    Calls Tryd.prog 39 #[.int .i64 (c : Int), .int .i64 (i : Int), Win.val x, .pointer (some ⟨B, 0, none⟩)] W fun e W' => e = .returned (.int .i64 (pairsN (Plan.cores P) c i x)) ∧ Below W.heap.size W W' := by
  generalize Plan.cores P = C at *
  have hcl := (List.getElem?_eq_some_iff.1 hc).1
  have hil := (List.getElem?_eq_some_iff.1 hi).1
  have hL256 : L.length ≤ 256 := hC256 L (List.mem_of_getElem? hc)
  obtain ⟨_, hcap, hcap2⟩ := HC.cap
  obtain ⟨ad, lv, rfl, hlv0, hwins⟩ := HC.at_ c L hc
  obtain ⟨la, lc, rfl, hlL⟩ := hwins.len
  obtain ⟨_, hlc, hlc2⟩ := hwins.cap
  have OK := Aside.mk ok
  have HCo := Aside.mk HC
  have HTw := Aside.mk (fun W (h : Below w0.heap.size w0 W) => twice_any W _ (L.take i) (Win.g x) ((hwins.below h).take i (by omega)))
  have HWN : Aside (pairsN C c i x = if twiceB (L.take i) (Win.g x) = true then 46 else laterN C c x) := ⟨by rw [pairsN, coreAt_some hc]⟩
  have HXV : Aside (Win.val x = .agg #[.int .u16 (Win.s x), .int .u16 (Win.l x), .int .u8 (Win.p x), .int .u8 (Win.g x)]) := ⟨rfl⟩
  have k0 := lkeep hB _ _ hlv0
  obtain ⟨W1, HW⟩ : ∃ W1, Aside (W1 = W.alloc (.cells #[.int .u16 (Win.s x), .int .u16 (Win.l x), .int .u8 (Win.p x), .int .u8 (Win.g x)] 39)) := ⟨_, ⟨rfl⟩⟩
  have B1 : Aside (Below W.heap.size W W1) := ⟨by rw [HW.out]; exact lone _ _⟩
  have HX : Aside (W1.heap[W.heap.size]? = some (.cells #[.int .u16 (Win.s x), .int .u16 (Win.l x), .int .u8 (Win.p x), .int .u8 (Win.g x)] 39 (0, 0))) := ⟨by rw [HW.out]; exact heap_alloc_new _ _⟩
  have HB1 := Aside.mk (lup B1.out hb)
  have HB0 := Aside.mk (lthen hB B1.out)
  have hrow := lkeep B1.out _ _ k0
  obtain ⟨f0, f1, f2, f3⟩ := lbox4 HX.out
  obtain ⟨p0, p1, p2, p3, p4⟩ := lbox5 HB1.out
  have i1 : (0 : Int) ≤ (c : Int) := by omega
  have i2 : (c : Int) < (C.length : Int) := by omega
  have i3 : (0 : Int) ≤ (i : Int) := by omega
  have i4 : (i : Int) ≤ (lc : Int) := by omega
  have w1 : IntKind.i64.wrap ((c : Int) + 1) = (c : Int) + 1 := IntWalk.i64_in _ (by omega)
  have KD1 := Aside.mk (HTw.out W1.drew (lthen HB0.out (below_drewN W1 1)))
  obtain ⟨tb, htb⟩ : ∃ tb, twiceB (L.take i) (Win.g x) = tb := ⟨_, rfl⟩
  rw [htb] at HWN KD1
  clear hc hi ok hb HC hB hwins hlv0 k0 hC256 htb
  unfold Win.val
  go_enter Tryd.func39, Tryd.ntmps39
  go_upto_region 1 with (fail)
  rw [← HW.out]
  go_cut [21] (fun y wc => y = .bool tb ∧ Aside (Below W1.heap.size W1 wc))
  case first =>
    go_region_held3 (fun w' => w'.cell? ⟨W.heap.size, 3, none⟩ = some (.int .u8 (Win.g x)) ∧ w'.cell? ⟨B, 1, none⟩ = some (.slice (some ad) C.length c0) ∧ w'.cell? (ad.add c) = some (.slice la L.length lc)) (first | go_keep | (exact ⟨k1 _ _ f3, k1 _ _ p1, k1 _ _ hrow⟩))
      (first | ((with_reducible refine KD1.out.mono ?_); rintro e w5 ⟨rfl, b5⟩; have Y5 : Aside (Below W1.heap.size W1 w5) := ⟨lthen (below_drewN W1 1) b5⟩; have k1 := lkeep Y5.out))
    all_goals
      go_wp2_with fail
      go_meet
      case rel => exact ⟨rfl, Y5⟩
  case rest =>
    obtain ⟨rfl, hC⟩ := hcut
    have BC := Aside.mk (lthen B1.out hC.out)
    have B0C := Aside.mk (lthen HB0.out hC.out)
    have HXC := Aside.mk (lup hC.out HX.out)
    have p1 := lkeep hC.out _ _ p1
    clear f0 f1 f2 f3 p0 p2 p3 p4 hrow KD1
    cases tb
    · have HV := Aside.mk (HWN.out.trans (if_neg (by decide)))
      obtain ⟨d, hd⟩ : ∃ d, C.length = c + 1 + d := ⟨C.length - (c + 1), by omega⟩
      go_upto_region 3 with (fail)
      go_cut [26, 27, 28] (fun y z u wx => ∃ A c', y = .slice A d c' ∧ z = .int .i64 (d : Int) ∧ u = .int .i64 0 ∧ (0 < d → A = some (ad.add (c + 1))) ∧ wc = wx)
      case first =>
        by_cases h0 : c0 = c + 1
        · go_wp2_with fail
          go_meet
          case rel => exact ⟨_, _, by congr 1, by congr 1, rfl, by omega, rfl⟩
        · go_wp2_with fail
          go_meet
          case rel => exact ⟨_, _, by congr 1, by congr 1, rfl, fun _ => by simp [Addr.add], rfl⟩
      case rest =>
        obtain ⟨A, c', rfl, rfl, rfl, hA, rfl⟩ := hcut
        have HV2 : Aside (pairsN C c i x = firstN (fun k => rowN (coreAt C (c + 1 + k)) x) d) := ⟨by rw [HV.out, laterN, hd]; congr 1; omega⟩
        obtain ⟨bd, hbd⟩ : ∃ bd, ad.add (c + 1) = bd := ⟨_, rfl⟩
        rw [hbd] at hA
        have HA := Aside.mk hA
        have HBD := Aside.mk hbd
        have HD := Aside.mk hd
        have hd8 : d ≤ 8 := by omega
        clear hbd
        clear hA hd p1
        go_wp2_with fail
        go_loopg [28] d (fun q s28 wr => ∃ k : Nat, k ≤ d ∧ q = d - k ∧ s28 = .int .i64 k ∧ Aside (firstN (fun k => rowN (coreAt C (c + 1 + k)) x) k = 0 ∧ Below wc.heap.size wc wr))
        case atStart => exact ⟨0, by omega, rfl, rfl, ⟨rfl, Below.refl _ _⟩⟩
        case round =>
          obtain ⟨k, hk, rfl, rfl, S⟩ := hrel
          by_cases hkd : k < d
          · have hl := List.getElem?_eq_getElem (show c + 1 + k < C.length by have := HD.out; omega)
            obtain ⟨M, hM⟩ : ∃ M, C[c + 1 + k]'(by have := HD.out; omega) = M := ⟨_, rfl⟩
            rw [hM] at hl
            obtain ⟨ad', lv, ead, hlv0, hwins⟩ := HCo.out.at_ (c + 1 + k) M hl
            obtain rfl : ad = ad' := Option.some.inj ead
            obtain ⟨ma, mc, rfl, hlM⟩ := hwins.len
            obtain rfl := HA.out (by omega)
            have hlv : wr.cell? (bd.add k) = some (.slice ma M.length mc) := by
              rw [← HBD.out, Addr.add_add]
              exact lkeep (lthen B0C.out S.out.2) _ _ hlv0
            have HM := Aside.mk (coreAt_some hl)
            have HWi := Aside.mk hwins
            clear hl hM ead hlv0 hwins
            go_wp2_with fail
            go_loopg [34] M.length (fun q s34 wr => ∃ j : Nat, j ≤ M.length ∧ q = M.length - j ∧ s34 = .int .i64 j ∧ Aside (firstN (fun j => crossN (winAt M j) x) j = 0 ∧ Below wc.heap.size wc wr))
            case atStart => exact ⟨0, by omega, rfl, rfl, ⟨rfl, S.out.2⟩⟩
            case round =>
              obtain ⟨j, hj, rfl, rfl, T⟩ := hrel
              by_cases hjl : j < M.length
              · have hl := List.getElem?_eq_getElem hjl
                obtain ⟨y, hy⟩ : ∃ y, M[j] = y := ⟨_, rfl⟩
                rw [hy] at hl
                obtain ⟨ad2, rfl, d0, d1, d2, d3, oky⟩ := (HWi.out.below (lthen B0C.out T.out.2)).at_ j y hl
                obtain ⟨W2, HW2⟩ : ∃ W2, Aside (W2 = wr.alloc (.cells #[.int .u16 (Win.s y), .int .u16 (Win.l y), .int .u8 (Win.p y), .int .u8 (Win.g y)] 39)) := ⟨_, ⟨rfl⟩⟩
                have B2 : Aside (Below wc.heap.size wc W2) := ⟨by rw [HW2.out]; exact lthen T.out.2 (lone _ _)⟩
                have HY : Aside (W2.heap[wr.heap.size]? = some (.cells #[.int .u16 (Win.s y), .int .u16 (Win.l y), .int .u8 (Win.p y), .int .u8 (Win.g y)] 39 (0, 0))) := ⟨by rw [HW2.out]; exact heap_alloc_new _ _⟩
                obtain ⟨e0, e1, e2, e3⟩ := lbox4 HY.out
                obtain ⟨f0, f1, f2, f3⟩ := lbox4 (lup B2.out HXC.out)
                have KT := Aside.mk (ptogether_any y x oky OK.out W2)
                have KO := Aside.mk (fun W => poverlap_any y x oky OK.out W)
                have FY : Aside (winAt M j = y) := ⟨winAt_some hl⟩
                obtain ⟨tg, htg⟩ : ∃ tg, togetherS y x = tg := ⟨_, rfl⟩
                obtain ⟨ob, hob⟩ : ∃ ob, overlapS y x = ob := ⟨_, rfl⟩
                have HCN : Aside (crossN (winAt M j) x = if tg = true then 0 else if Win.g y ≠ 0 ∧ Win.g y = Win.g x then 46 else if Win.p y = Win.p x ∧ ob = true then 47 else 0) := ⟨by rw [FY.out, crossN, htg, hob]⟩
                rw [htg] at KT
                rw [hob] at KO
                unfold Win.val at KT KO
                clear hl hy oky htg hob
                have zhit : ∀ z : Int, z ≠ 0 → crossN (winAt M j) x = z → pairsN C c i x = z := by
                  intro z hz h
                  have hr : rowN (coreAt C (c + 1 + k)) x = z := by
                    rw [HM.out, rowN, firstN_hit T.out.1 (by rw [h]; exact hz) hjl, h]
                  rw [HV2.out, firstN_hit (f := fun k => rowN (coreAt C (c + 1 + k)) x) S.out.1 (by show rowN _ _ ≠ 0; rw [hr]; exact hz) hkd]
                  exact hr
                have ZHit := Aside.mk zhit
                clear zhit
                go_upto_region 9 with (fail)
                rw [← HW2.out]
                go_wp2_with fail
                refine KT.out.mono ?_
                rintro e w5 ⟨rfl, b5⟩
                have B5 := Aside.mk (lthen B2.out b5)
                have f0 := lkeep b5 _ _ f0
                have f1 := lkeep b5 _ _ f1
                have f2 := lkeep b5 _ _ f2
                have f3 := lkeep b5 _ _ f3
                have e0 := lkeep b5 _ _ e0
                have e1 := lkeep b5 _ _ e1
                have e2 := lkeep b5 _ _ e2
                have e3 := lkeep b5 _ _ e3
                have KO := Aside.mk (KO.out w5)
                clear b5 d0 d1 d2 d3
                generalize Win.s y = ys at *
                generalize Win.l y = yl at *
                generalize Win.p y = yp at *
                generalize Win.g y = yg at *
                obtain ⟨xg, hxg⟩ : ∃ xg, Win.g x = xg := ⟨_, rfl⟩
                obtain ⟨xp, hxp⟩ : ∃ xp, Win.p x = xp := ⟨_, rfl⟩
                rw [hxg] at f3 HCN KO
                rw [hxp] at f2 HCN KO
                clear hxg hxp
                cases tg
                · have HC2 := Aside.mk (HCN.out.trans (if_neg (by decide)))
                  by_cases h1 : yg = 0
                  · have HC3 := Aside.mk (HC2.out.trans (if_neg (fun q => q.1 h1)))
                    have n1 : (yg != 0) = false := by simp [h1]
                    by_cases h2 : yp = xp
                    · have H2 := Aside.mk h2
                      subst h2
                      cases ob
                      · have HZ := Aside.mk (HC3.out.trans (if_neg (by simp)))
                        subst h1
                        go_wp2_with fail
                        refine KO.out.mono ?_
                        rintro e w6 ⟨rfl, b6⟩
                        have B6 := Aside.mk (lthen B5.out b6)
                        clear b6
                        go_wp2_with fail
                        go_roundg (M.length - (j + 1))
                        case measure => omega
                        case rel => exact ⟨j + 1, by omega, rfl, by go_num, ⟨by rw [firstN_succ T.out.1]; exact HZ.out, B6.out⟩⟩
                      · have HZ := Aside.mk (ZHit.out 47 (by decide) (HC3.out.trans (if_pos ⟨H2.out, rfl⟩)))
                        subst h1
                        go_wp2_with fail
                        refine KO.out.mono ?_
                        rintro e w6 ⟨rfl, b6⟩
                        have B6 := Aside.mk (lthen B5.out b6)
                        clear b6
                        go_wp2_with fail
                        go_ret
                        exact ⟨by rw [HZ.out]; rfl, lthen BC.out B6.out⟩
                    · have n2 : (yp == xp) = false := beq_eq_false_iff_ne.2 h2
                      have HZ := Aside.mk (HC3.out.trans (if_neg (fun q => h2 q.1)))
                      subst h1
                      go_wp2_with fail
                      go_roundg (M.length - (j + 1))
                      case measure => omega
                      case rel => exact ⟨j + 1, by omega, rfl, by go_num, ⟨by rw [firstN_succ T.out.1]; exact HZ.out, B5.out⟩⟩
                  · have n1 : (yg != 0) = true := by simp [h1]
                    by_cases h3 : yg = xg
                    · have HZ := Aside.mk (ZHit.out 46 (by decide) (HC2.out.trans (if_pos ⟨h1, h3⟩)))
                      subst h3
                      go_wp2_with fail
                      go_ret
                      exact ⟨by rw [HZ.out]; rfl, lthen BC.out B5.out⟩
                    · have n3 : (yg == xg) = false := beq_eq_false_iff_ne.2 h3
                      have HC3 := Aside.mk (HC2.out.trans (if_neg (fun q => h3 q.2)))
                      by_cases h2 : yp = xp
                      · have H2 := Aside.mk h2
                        subst h2
                        cases ob
                        · have HZ := Aside.mk (HC3.out.trans (if_neg (by simp)))
                          go_wp2_with fail
                          refine KO.out.mono ?_
                          rintro e w6 ⟨rfl, b6⟩
                          have B6 := Aside.mk (lthen B5.out b6)
                          clear b6
                          go_wp2_with fail
                          go_roundg (M.length - (j + 1))
                          case measure => omega
                          case rel => exact ⟨j + 1, by omega, rfl, by go_num, ⟨by rw [firstN_succ T.out.1]; exact HZ.out, B6.out⟩⟩
                        · have HZ := Aside.mk (ZHit.out 47 (by decide) (HC3.out.trans (if_pos ⟨H2.out, rfl⟩)))
                          go_wp2_with fail
                          refine KO.out.mono ?_
                          rintro e w6 ⟨rfl, b6⟩
                          have B6 := Aside.mk (lthen B5.out b6)
                          clear b6
                          go_wp2_with fail
                          go_ret
                          exact ⟨by rw [HZ.out]; rfl, lthen BC.out B6.out⟩
                      · have n2 : (yp == xp) = false := beq_eq_false_iff_ne.2 h2
                        have HZ := Aside.mk (HC3.out.trans (if_neg (fun q => h2 q.1)))
                        go_wp2_with fail
                        go_roundg (M.length - (j + 1))
                        case measure => omega
                        case rel => exact ⟨j + 1, by omega, rfl, by go_num, ⟨by rw [firstN_succ T.out.1]; exact HZ.out, B5.out⟩⟩
                · have HZ := Aside.mk (HCN.out.trans (if_pos rfl))
                  go_wp2_with fail
                  go_roundg (M.length - (j + 1))
                  case measure => omega
                  case rel => exact ⟨j + 1, by omega, rfl, by go_num, ⟨by rw [firstN_succ T.out.1]; exact HZ.out, B5.out⟩⟩
              · obtain rfl : j = M.length := by omega
                have HN : Aside (firstN (fun k => rowN (coreAt C (c + 1 + k)) x) (k + 1) = 0) := ⟨by
                  rw [firstN_succ S.out.1, HM.out]
                  exact T.out.1⟩
                clear hjl hj
                go_wp2_with fail
                go_roundg (d - (k + 1))
                case measure => omega
                case rel => exact ⟨k + 1, by omega, rfl, by go_num, ⟨HN.out, T.out.2⟩⟩
          · obtain rfl : k = d := by omega
            clear hkd hk
            go_wp2_with fail
            go_ret
            exact ⟨by rw [HV2.out, S.out.1]; rfl, lthen BC.out S.out.2⟩
    · have HV := Aside.mk (HWN.out.trans (if_pos rfl))
      go_wp2_with fail
      go_ret
      exact ⟨by rw [HV.out]; rfl, BC.out⟩
end Go.Proofs.YtpcjjmjmigibhaaDoor
