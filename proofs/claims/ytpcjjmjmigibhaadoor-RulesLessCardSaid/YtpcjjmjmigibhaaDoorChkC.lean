/- The program's rules: windows. -/
import Derived.Test.YtpcjjmjmigibhaaDoorChkB
import Derived.Test.YtpcjjmjmigibhaaDoorPlanB
namespace Go.Proofs.YtpcjjmjmigibhaaDoor
open Go.RowKit
set_option linter.unusedVariables false
set_option linter.unusedSimpArgs false

theorem callFunc_f1 (args : Array Value) (w : World) : (callFunc 38 args).run Tryd.prog w = .ok (.enter 38 args) w := by kernel_rfl
set_option maxHeartbeats 6400000 in
set_option maxRecDepth 100000 in
theorem win1_any (w0 : World) (P : Plan) (a0 : Option Addr) (c0 : Nat) (v2 v3 v4 : Value) (a1 : Option Addr) (c1 : Nat) (hv2 : v2 = .slice a1 (Plan.parts P).length c1) (hparts : (Plan.parts P).length ≤ 9223372036854775807) (hlen : (Plan.cores P).length ≤ 8) (hC256 : ∀ L ∈ Plan.cores P, L.length ≤ 256) (HC : Cores w0 (.slice a0 (Plan.cores P).length c0) (Plan.cores P)) (hfr : 0 ≤ Plan.frame P ∧ Plan.frame P ≤ 65535) (B : Nat) (c i : Nat) (L : List Win) (x : Win) (W : World) (hc : (Plan.cores P)[c]? = some L) (hi : L[i]? = some x) (ok : Win.Ok x) (hB : Below w0.heap.size w0 W)
    (hb : W.heap[B]? = some (.cells #[.int .u16 (Plan.frame P), .slice a0 (Plan.cores P).length c0, v2, v3, v4] 28 (0, 0))) :
    Calls Tryd.prog 38 #[.int .i64 (c : Int), .int .i64 (i : Int), Win.val x, .pointer (some ⟨B, 0, none⟩)] W fun e W' => e = .returned (.int .i64 (windowsN (Plan.frame P) ((Plan.parts P).length : Int) (Plan.cores P) c i x)) ∧ Below W.heap.size W W' := by
  subst hv2
  have hcl := (List.getElem?_eq_some_iff.1 hc).1
  have hil := (List.getElem?_eq_some_iff.1 hi).1
  have hL256 : L.length ≤ 256 := hC256 L (List.mem_of_getElem? hc)
  have KE := Aside.mk (end_any x ok)
  obtain ⟨ad, lv, rfl, hlv0, hwins⟩ := HC.at_ c L hc
  obtain ⟨la, lc, rfl, hlL⟩ := hwins.len
  obtain ⟨q0, q1⟩ := hfr
  have hs := ok.s
  have hl := ok.l
  have hp := ok.p
  have HPrev : Aside (∀ m, m + 1 = i → ∃ y ad2, la = some ad2 ∧ winAt (coreAt (Plan.cores P) c) (i - 1) = y ∧ Win.Ok y ∧ w0.cell? (ad2.add (m * 4)) = some (.int .u16 (Win.s y)) ∧ w0.cell? ⟨(ad2.add (m * 4)).block, (ad2.add (m * 4)).off + 1, none⟩ = some (.int .u16 (Win.l y)) ∧ w0.cell? ⟨(ad2.add (m * 4)).block, (ad2.add (m * 4)).off + 2, none⟩ = some (.int .u8 (Win.p y)) ∧ w0.cell? ⟨(ad2.add (m * 4)).block, (ad2.add (m * 4)).off + 3, none⟩ = some (.int .u8 (Win.g y))) := ⟨by
    rintro m rfl
    have e := List.getElem?_eq_getElem (show m < L.length by omega)
    obtain ⟨ad2, rfl, h0, h1, h2, h3, oky⟩ := hwins.at_ m _ e
    exact ⟨_, ad2, rfl, by rw [coreAt_some hc]; exact winAt_some e, oky, h0, h1, h2, h3⟩⟩
  obtain ⟨pe, hpe⟩ : ∃ pe, endS (winAt (coreAt (Plan.cores P) c) (i - 1)) = pe := ⟨_, rfl⟩
  have HWN : Aside (windowsN (Plan.frame P) ((Plan.parts P).length : Int) (Plan.cores P) c i x = if Win.l x = 0 ∨ (0 < i ∧ Win.s x < pe) ∨ Plan.frame P < endS x then 44 else if ((Plan.parts P).length : Int) ≤ Win.p x then 45 else 0) := ⟨by rw [windowsN, hpe]⟩
  have HPE := Aside.mk hpe
  unfold Win.val at KE ⊢
  generalize endS x = ex at *
  generalize Win.s x = s at *
  generalize Win.l x = l at *
  generalize Win.p x = p at *
  generalize Win.g x = g at *
  generalize Plan.frame P = fr at *
  generalize hnp : (Plan.parts P).length = np at *
  generalize hcc : (Plan.cores P).length = nc at *
  have k0 := lkeep hB _ _ hlv0
  obtain ⟨W1, HW⟩ : ∃ W1, Aside (W1 = W.alloc (.cells #[.int .u16 s, .int .u16 l, .int .u8 p, .int .u8 g] 39)) := ⟨_, ⟨rfl⟩⟩
  have B1 : Aside (Below W.heap.size W W1) := ⟨by rw [HW.out]; exact lone _ _⟩
  have HX : Aside (W1.heap[W.heap.size]? = some (.cells #[.int .u16 s, .int .u16 l, .int .u8 p, .int .u8 g] 39 (0, 0))) := ⟨by rw [HW.out]; exact heap_alloc_new _ _⟩
  have HB1 := Aside.mk (lup B1.out hb)
  have HB0 := Aside.mk (lthen hB B1.out)
  have hrow := lkeep B1.out _ _ k0
  obtain ⟨f0, f1, f2, f3⟩ := lbox4 HX.out
  obtain ⟨p0, p1, p2, p3, p4⟩ := lbox5 HB1.out
  have w1 : IntKind.i64.wrap s = s := IntWalk.i64_in _ (by omega)
  have w2 : IntKind.i64.wrap fr = fr := IntWalk.i64_in _ (by omega)
  have w3 : IntKind.i64.wrap p = p := IntWalk.i64_in _ (by omega)
  clear hc hi ok hb hpe HC hB hwins hlv0 k0 hC256 hs hl hp
  by_cases hl0 : l = 0
  · have HV := Aside.mk (HWN.out.trans (if_pos (.inl hl0)))
    subst hl0
    go_enter Tryd.func38, Tryd.ntmps38
    go_wp2_with fail
    go_ret
    exact ⟨by rw [HV.out]; rfl, lone _ _⟩
  · have el : (l == 0) = false := beq_eq_false_iff_ne.2 hl0
    obtain ⟨b2, hb2⟩ : ∃ b2, decide (0 < i ∧ s < pe) = b2 := ⟨_, rfl⟩
    have HB2 := Aside.mk hb2
    clear hb2
    go_enter Tryd.func38, Tryd.ntmps38
    go_upto_region 2 with (fail)
    rw [← HW.out]
    go_cut [8] (fun y wc => y = .bool b2 ∧ Aside (Below W1.heap.size W1 wc))
    case first =>
      rcases i with _ | m
      · go_quiet (fail)
        go_wp2_with fail
        go_meet
        case rel => exact ⟨by rw [← HB2.out]; simp, ⟨below_drewN _ _⟩⟩
      · obtain ⟨y, ad2, rfl, hy, oky, z0, z1, z2, z3⟩ := HPrev.out m rfl
        have z0 := lkeep HB0.out _ _ z0
        have z1 := lkeep HB0.out _ _ z1
        have z2 := lkeep HB0.out _ _ z2
        have z3 := lkeep HB0.out _ _ z3
        have KY := Aside.mk (end_any y oky)
        have hpy : endS y = pe := by rw [← hy]; exact HPE.out
        rw [hpy] at KY
        unfold Win.val at KY
        generalize Win.s y = ys at *
        generalize Win.l y = yl at *
        generalize Win.p y = yp at *
        generalize Win.g y = yg at *
        have hm : ((m + 1 : Nat) : Int) = (m : Int) + 1 := by omega
        rw [hm]
        have hb2 : b2 = decide (s < pe) := by rw [← HB2.out]; simp
        have HB2 := Aside.mk hb2
        have d1 : (0 : Int) < (m : Int) + 1 := by omega
        have w5 : IntKind.i64.wrap ((m : Int) + 1 - 1) = (m : Int) := by rw [show (m : Int) + 1 - 1 = (m : Int) by omega]; exact IntWalk.i64_in _ (by omega)
        have w6 : IntKind.i64.wrap (m : Int) = (m : Int) := IntWalk.i64_in _ (by omega)
        have i1 : (0 : Int) ≤ (c : Int) := by omega
        have i2 : (c : Int) < (nc : Int) := by omega
        have i3 : (0 : Int) ≤ (m : Int) := by omega
        have i4 : (m : Int) < (L.length : Int) := by omega
        have KD1 := Aside.mk (KY.out W1.drew)
        clear hy oky hpy hm hb2
        go_region_held3 (fun w' => w'.cell? ⟨W.heap.size, 0, none⟩ = some (.int .u16 s) ∧ w'.cell? ⟨B, 1, none⟩ = some (.slice (some ad) nc c0) ∧ w'.cell? (ad.add c) = some (.slice (some ad2) L.length lc) ∧ w'.cell? (ad2.add (m * 4)) = some (.int .u16 ys) ∧ w'.cell? ⟨(ad2.add (m * 4)).block, (ad2.add (m * 4)).off + 1, none⟩ = some (.int .u16 yl) ∧ w'.cell? ⟨(ad2.add (m * 4)).block, (ad2.add (m * 4)).off + 2, none⟩ = some (.int .u8 yp) ∧ w'.cell? ⟨(ad2.add (m * 4)).block, (ad2.add (m * 4)).off + 3, none⟩ = some (.int .u8 yg)) (first | go_keep | (exact ⟨k1 _ _ f0, k1 _ _ p1, k1 _ _ hrow, k1 _ _ z0, k1 _ _ z1, k1 _ _ z2, k1 _ _ z3⟩))
              (first | ((with_reducible refine KD1.out.mono ?_); rintro e w5 ⟨rfl, b5⟩; have Y5 : Aside (Below W1.heap.size W1 w5) := ⟨lthen (below_drewN W1 1) b5⟩; have k1 := lkeep Y5.out))
        all_goals
          go_wp2_with fail
          go_meet
          case rel => exact ⟨by rw [HB2.out], Y5⟩
    case rest =>
      obtain ⟨rfl, hC⟩ := hcut
      have f0 := lkeep hC.out _ _ f0
      have f1 := lkeep hC.out _ _ f1
      have f2 := lkeep hC.out _ _ f2
      have f3 := lkeep hC.out _ _ f3
      have p0 := lkeep hC.out _ _ p0
      have p2 := lkeep hC.out _ _ p2
      have BC := Aside.mk (lthen B1.out hC.out)
      clear HPE HPrev hrow p1 p3 p4
      cases b2
      · have hn : ¬ (0 < i ∧ s < pe) := by have := HB2.out; simpa using this
        have HN := Aside.mk hn
        clear hn
        have KD1 := Aside.mk (KE.out wc.drew)
        go_upto_region 3 with (fail)
        rcases Classical.em (fr < ex) with h4 | h4
        · have HV := Aside.mk (HWN.out.trans (if_pos (.inr (.inr h4))))
          go_region_held3 (fun w' => w'.cell? ⟨W.heap.size, 0, none⟩ = some (.int .u16 s) ∧ w'.cell? ⟨W.heap.size, 1, none⟩ = some (.int .u16 l) ∧ w'.cell? ⟨W.heap.size, 2, none⟩ = some (.int .u8 p) ∧ w'.cell? ⟨W.heap.size, 3, none⟩ = some (.int .u8 g) ∧ w'.cell? ⟨B, 0, none⟩ = some (.int .u16 fr)) (first | go_keep | (exact ⟨k1 _ _ f0, k1 _ _ f1, k1 _ _ f2, k1 _ _ f3, k1 _ _ p0⟩))
              (first | ((with_reducible refine KD1.out.mono ?_); rintro e w5 ⟨rfl, b5⟩; have Y5 : Aside (Below wc.heap.size wc w5) := ⟨lthen (below_drewN wc 1) b5⟩; have k1 := lkeep Y5.out))
          all_goals
            go_wp2_with fail
            go_ret
            exact ⟨by rw [HV.out]; rfl, lthen BC.out Y5.out⟩
        · have HV1 := HWN.out.trans (if_neg (by rintro (q | q | q); exact hl0 q; exact HN.out q; exact h4 q))
          rcases Classical.em ((np : Int) ≤ p) with h5 | h5
          · have HV := Aside.mk (HV1.trans (if_pos h5))
            clear HV1
            go_region_held3 (fun w' => w'.cell? ⟨W.heap.size, 0, none⟩ = some (.int .u16 s) ∧ w'.cell? ⟨W.heap.size, 1, none⟩ = some (.int .u16 l) ∧ w'.cell? ⟨W.heap.size, 2, none⟩ = some (.int .u8 p) ∧ w'.cell? ⟨W.heap.size, 3, none⟩ = some (.int .u8 g) ∧ w'.cell? ⟨B, 0, none⟩ = some (.int .u16 fr)) (first | go_keep | (exact ⟨k1 _ _ f0, k1 _ _ f1, k1 _ _ f2, k1 _ _ f3, k1 _ _ p0⟩))
              (first | ((with_reducible refine KD1.out.mono ?_); rintro e w5 ⟨rfl, b5⟩; have Y5 : Aside (Below wc.heap.size wc w5) := ⟨lthen (below_drewN wc 1) b5⟩; have k1 := lkeep Y5.out))
            all_goals
              have p2 := k1 _ _ p2
              have f2 := k1 _ _ f2
              go_wp2_with fail
              go_ret
              exact ⟨by rw [HV.out]; rfl, lthen BC.out Y5.out⟩
          · have HV := Aside.mk (HV1.trans (if_neg h5))
            clear HV1
            go_region_held3 (fun w' => w'.cell? ⟨W.heap.size, 0, none⟩ = some (.int .u16 s) ∧ w'.cell? ⟨W.heap.size, 1, none⟩ = some (.int .u16 l) ∧ w'.cell? ⟨W.heap.size, 2, none⟩ = some (.int .u8 p) ∧ w'.cell? ⟨W.heap.size, 3, none⟩ = some (.int .u8 g) ∧ w'.cell? ⟨B, 0, none⟩ = some (.int .u16 fr)) (first | go_keep | (exact ⟨k1 _ _ f0, k1 _ _ f1, k1 _ _ f2, k1 _ _ f3, k1 _ _ p0⟩))
              (first | ((with_reducible refine KD1.out.mono ?_); rintro e w5 ⟨rfl, b5⟩; have Y5 : Aside (Below wc.heap.size wc w5) := ⟨lthen (below_drewN wc 1) b5⟩; have k1 := lkeep Y5.out))
            all_goals
              have p2 := k1 _ _ p2
              have f2 := k1 _ _ f2
              go_wp2_with fail
              go_ret
              exact ⟨by rw [HV.out]; rfl, lthen BC.out Y5.out⟩
      · have hn : 0 < i ∧ s < pe := by have := HB2.out; simpa using this
        have HV := Aside.mk (HWN.out.trans (if_pos (.inr (.inl hn))))
        clear hn
        go_wp2_with fail
        go_ret
        exact ⟨by rw [HV.out]; rfl, BC.out⟩
set_option maxHeartbeats 1600000 in
theorem windows_any (w : World) (v : Value) (P : Plan) (hv : PlanV w v P) (hC8 : (Plan.cores P).length ≤ 8) (hC256 : ∀ L ∈ Plan.cores P, L.length ≤ 256) :
    Calls Tryd.prog 22 #[v] w (ErrR w (eachF (windowsN (Plan.frame P) ((Plan.parts P).length : Int) (Plan.cores P)) (Plan.cores P))) := by
  have hv0 := hv
  obtain ⟨a0, n0, c0, a1, n1, c1, a2, n2, c2, a3, n3, c3, rfl, hp⟩ := hv
  obtain ⟨_, _, q, hlen⟩ := hp.cores.len
  obtain ⟨rfl, rfl, rfl⟩ : a0 = _ ∧ n0 = _ ∧ c0 = _ := by injection q with q1 q2 q3; exact ⟨q1, q2, q3⟩
  clear q
  obtain ⟨_, _, q, hlen1⟩ := Elems.len hp.parts
  obtain ⟨rfl, rfl, rfl⟩ : a1 = _ ∧ n1 = _ ∧ c1 = _ := by injection q with q1 q2 q3; exact ⟨q1, q2, q3⟩
  clear q
  obtain ⟨W1, HW⟩ : ∃ W1, Aside (W1 = w.alloc (.cells #[.int .u16 (Plan.frame P), .slice a0 (Plan.cores P).length c0, .slice a1 (Plan.parts P).length c1, .slice a2 n2 c2, .slice a3 n3 c3] 28)) := ⟨_, ⟨rfl⟩⟩
  have hb1 : Below w.heap.size w W1 ∧ W1.heap[w.heap.size]? = some (.cells #[.int .u16 (Plan.frame P), .slice a0 (Plan.cores P).length c0, .slice a1 (Plan.parts P).length c1, .slice a2 n2 c2, .slice a3 n3 c3] 28 (0, 0)) := by rw [HW.out]; exact ⟨lone _ _, heap_alloc_new _ _⟩
  have K := Aside.mk (each_any W1 _ P (hv0.below hb1.1) hC8 hC256 38 #[.pointer (some ⟨w.heap.size, 0, none⟩)] callFunc_f1 (windowsN (Plan.frame P) ((Plan.parts P).length : Int) (Plan.cores P))
    (fun c i L x W hc hi ok hB => win1_any W1 P a0 c0 _ _ _ a1 c1 rfl hlen1 hC8 hC256 (hp.cores.below hb1.1) hp.frame w.heap.size c i L x W hc hi ok hB (lup hB hb1.2)))
  obtain ⟨p0, p1, p2, p3, p4⟩ := lbox5 hb1.2
  have HB := Aside.mk hb1.1
  clear hp hv0 hb1 hC8 hC256
  go_enter Tryd.func22, Tryd.ntmps22
  go_upto_region 1 with (fail)
  rw [← HW.out]
  go_wp2_with fail
  refine K.out.mono ?_
  rintro e w2 ⟨r, rfl, hr, b2⟩
  have HR := Aside.mk (And.intro hr (lthen HB.out b2))
  clear hr b2
  go_wp2_with fail
  go_ret
  exact ⟨_, rfl, HR.out.1, HR.out.2⟩
end Go.Proofs.YtpcjjmjmigibhaaDoor
