/- The reference's bytes of a plan. -/
import Derived.Test.YtbphlapdhcgikaaDoorBytA
namespace Go.Proofs.YtbphlapdhcgikaaDoor
open Go.RowKit
set_option linter.unusedVariables false
set_option linter.unusedSimpArgs false

/-- What the reference's Bytes hands back. -/
def BytP (w : World) (P : Plan) (e : Ending) (w' : World) : Prop :=
  ∃ s a ok, e = .returned (.tuple #[.string s, .int .i64 a, .bool ok]) ∧ Below w.heap.size w w' ∧ ((whyF P = none ∧ s = strOfNums (encL P) ∧ ok = true) ∨ (whyF P = some (31, a) ∧ ok = false))
theorem pur1 : (ByteArray.mk #[80, 85, 82, 49]) = strOfNums [80, 85, 82, 49] := by kernel_rfl
/-- How many of each list there are. -/
def cntL (P : Plan) : List Int := [((Plan.cores P).length : Int), ((Plan.parts P).length : Int), ((Plan.chans P).length : Int), ((Plan.pairs P).length : Int)]
theorem cnt_no {n m : Nat} {a : Int} (h : ¬ m < n) : cntF n m a = none := by unfold cntF; rw [if_neg h]
theorem cnt_yes {n m : Nat} {a : Int} (h : m < n) : cntF n m a = some (31, a) := by unfold cntF; rw [if_pos h]
theorem why0 {P : Plan} (h : 255 < (Plan.cores P).length) : whyF P = some (31, 0) := by
  unfold whyF; rw [cnt_yes h]; rfl
theorem why1 {P : Plan} (h0 : ¬ 255 < (Plan.cores P).length) (h : 255 < (Plan.parts P).length) : whyF P = some (31, 1) := by
  unfold whyF; rw [cnt_no h0, cnt_yes h]; rfl
theorem why2 {P : Plan} (h0 : ¬ 255 < (Plan.cores P).length) (h1 : ¬ 255 < (Plan.parts P).length) (h : 255 < (Plan.chans P).length) : whyF P = some (31, 2) := by
  unfold whyF; rw [cnt_no h0, cnt_no h1, cnt_yes h]; rfl
theorem why3 {P : Plan} (h0 : ¬ 255 < (Plan.cores P).length) (h1 : ¬ 255 < (Plan.parts P).length) (h2 : ¬ 255 < (Plan.chans P).length) (h : 255 < (Plan.pairs P).length) : whyF P = some (31, 3) := by
  unfold whyF; rw [cnt_no h0, cnt_no h1, cnt_no h2, cnt_yes h]; rfl
/-- The counts are right; the cores too. -/
structure CntOk (P : Plan) : Prop where
  c : ¬ 255 < (Plan.cores P).length
  a : ¬ 255 < (Plan.parts P).length
  h : ¬ 255 < (Plan.chans P).length
  q : ¬ 255 < (Plan.pairs P).length
theorem why_parts {P : Plan} (k : CntOk P) (hF : Few3 P) : whyF P = partsF (Plan.parts P) := by
  unfold whyF
  rw [cnt_no k.c, cnt_no k.a, cnt_no k.h, cnt_no k.q]
  have : coresF (Plan.cores P) = none := scan_none_of fun i hi => by
    refine cnt_no ?_
    rw [List.getD_eq_getElem?_getD, List.getElem?_eq_getElem hi]
    have := hF.cores _ (List.getElem_mem hi)
    show ¬ 65535 < ((Plan.cores P)[i]).length
    omega
  rw [this]
  rfl
/-- No part up to a number has too much. -/
def PrtOk (P : Plan) (i : Nat) : Prop := ∀ k x, k < i → (Plan.parts P)[k]? = some x → (PartR.sems x).length ≤ 255 ∧ (PartR.procs x).length ≤ 255
theorem scan_parts {P : Plan} {i : Nat} (h : PrtOk P i) (hi : i ≤ (Plan.parts P).length) : scan (fun i => orElseF (cntF (PartR.sems (ptAt (Plan.parts P) i)).length 255 5) (cntF (PartR.procs (ptAt (Plan.parts P) i)).length 255 6)) i = none := scan_none_of fun k hk => by
  have e : (Plan.parts P)[k]? = some (Plan.parts P)[k] := List.getElem?_eq_getElem (by omega)
  obtain ⟨h1, h2⟩ := h k _ hk e
  show orElseF (cntF (PartR.sems (ptAt (Plan.parts P) k)).length 255 5) (cntF (PartR.procs (ptAt (Plan.parts P) k)).length 255 6) = none
  rw [ptAt_some e, cnt_no (by omega), cnt_no (by omega)]
  rfl
theorem why_sems {P : Plan} (k : CntOk P) (hF : Few3 P) {i : Nat} {x : PartR} (h : PrtOk P i) (hx : (Plan.parts P)[i]? = some x) (hs : 255 < (PartR.sems x).length) : whyF P = some (31, 5) := by
  rw [why_parts k hF]
  have hi : i < (Plan.parts P).length := (List.getElem?_eq_some_iff.1 hx).1
  refine scan_some (k := i) (scan_parts h (by omega)) ?_ hi
  show orElseF (cntF (PartR.sems (ptAt (Plan.parts P) i)).length 255 5) (cntF (PartR.procs (ptAt (Plan.parts P) i)).length 255 6) = _
  rw [ptAt_some hx, cnt_yes hs]
  rfl
theorem why_procs {P : Plan} (k : CntOk P) (hF : Few3 P) {i : Nat} {x : PartR} (h : PrtOk P i) (hx : (Plan.parts P)[i]? = some x) (h0 : ¬ 255 < (PartR.sems x).length) (hs : 255 < (PartR.procs x).length) : whyF P = some (31, 6) := by
  rw [why_parts k hF]
  have hi : i < (Plan.parts P).length := (List.getElem?_eq_some_iff.1 hx).1
  refine scan_some (k := i) (scan_parts h (by omega)) ?_ hi
  show orElseF (cntF (PartR.sems (ptAt (Plan.parts P) i)).length 255 5) (cntF (PartR.procs (ptAt (Plan.parts P) i)).length 255 6) = _
  rw [ptAt_some hx, cnt_no h0, cnt_yes hs]
  rfl
theorem why_ok {P : Plan} (k : CntOk P) (hF : Few3 P) (h : PrtOk P (Plan.parts P).length) : whyF P = none := by
  rw [why_parts k hF]
  exact scan_parts h (Nat.le_refl _)
theorem PrtOk.next {P : Plan} {i : Nat} {x : PartR} (h : PrtOk P i) (hx : (Plan.parts P)[i]? = some x) (h1 : ¬ 255 < (PartR.sems x).length) (h2 : ¬ 255 < (PartR.procs x).length) : PrtOk P (i + 1) := fun k y hk hy => by
  rcases Nat.lt_succ_iff_lt_or_eq.1 hk with q | rfl
  · exact h k y q hy
  · rw [hx] at hy; injection hy with hy; subst hy; omega
set_option maxHeartbeats 6400000 in
set_option maxRecDepth 100000 in
theorem bytes_any (w : World) (v : Value) (P : Plan) (hv : PlanV w v P) (hF : Few3 P) : Calls Tryd.prog 13 #[v] w (BytP w P) := by
  have HV := Aside.mk hv
  have HF := Aside.mk hF
  obtain ⟨a0, c0, a1, c1, a2, c2, a3, c3, rfl, hp, hlen⟩ := hv.open_
  have HP := Aside.mk hp
  obtain ⟨W1, HW⟩ : ∃ W1, Aside (W1 = w.alloc (.cells #[.int .u16 (Plan.frame P), .slice a0 (Plan.cores P).length c0, .slice a1 (Plan.parts P).length c1, .slice a2 (Plan.chans P).length c2, .slice a3 (Plan.pairs P).length c3] 28)) := ⟨_, ⟨rfl⟩⟩
  have B1 : Aside (Below w.heap.size w W1 ∧ W1.heap[w.heap.size]? = some (.cells #[.int .u16 (Plan.frame P), .slice a0 (Plan.cores P).length c0, .slice a1 (Plan.parts P).length c1, .slice a2 (Plan.chans P).length c2, .slice a3 (Plan.pairs P).length c3] 28 (0, 0))) := ⟨by rw [HW.out]; exact ⟨bel_one _ _, heap_alloc_new _ _⟩⟩
  obtain ⟨x0, x1, x2, x3, x4⟩ := box5 B1.out.2
  have L1 : w.heap.size < W1.heap.size := lt_of_block B1.out.2
  obtain ⟨fr0, fr1⟩ := hp.frame
  have nC : (Plan.cores P).length ≤ 2000 := by have := HF.out.sum; omega
  have nA : (Plan.parts P).length ≤ 2000 := by have := HF.out.sum; omega
  have nH : (Plan.chans P).length ≤ 2000 := by have := HF.out.sum; omega
  have nQ : (Plan.pairs P).length ≤ 2000 := by have := HF.out.sum; omega
  obtain ⟨W2, HW2⟩ : ∃ W2, Aside (W2 = W1.alloc (.cells #[.int .i64 ((Plan.cores P).length : Int), .int .i64 ((Plan.parts P).length : Int), .int .i64 ((Plan.chans P).length : Int), .int .i64 ((Plan.pairs P).length : Int)] 67)) := ⟨_, ⟨rfl⟩⟩
  have B2 : Aside (Below w.heap.size w W2 ∧ W2.heap[w.heap.size]? = some (.cells #[.int .u16 (Plan.frame P), .slice a0 (Plan.cores P).length c0, .slice a1 (Plan.parts P).length c1, .slice a2 (Plan.chans P).length c2, .slice a3 (Plan.pairs P).length c3] 28 (0, 0)) ∧
      W2.heap[W1.heap.size]? = some (.cells #[.int .i64 ((Plan.cores P).length : Int), .int .i64 ((Plan.parts P).length : Int), .int .i64 ((Plan.chans P).length : Int), .int .i64 ((Plan.pairs P).length : Int)] 67 (0, 0))) := ⟨by
    rw [HW2.out]; exact ⟨bel_then B1.out.1 (bel_one _ _), heap_up B1.out.2, heap_alloc_new _ _⟩⟩
  clear hv hF hp hlen
  go_enter Tryd.func13, Tryd.ntmps13
  go_upto_region 1 with (fail)
  rw [← HW.out]
  go_upto_region 2 with (fail)
  rw [← HW2.out]
  clear x0 x1 x2 x3 x4
  obtain ⟨x0, x1, x2, x3, x4⟩ := box5 B2.out.2.1
  go_wp2_with fail
  refine (two_any W2 _ fr0 fr1).mono ?_
  rintro e w3 ⟨rfl, b3⟩
  have B3 := Aside.mk b3
  clear x0 x1 x2 x3 x4 b3
  have zz : ¬ 9223372036854775807 < 4 + (strOfNums (twoB (Plan.frame P))).size := by rw [strs_size]; simp [twoB]
  go_wp2_with fail
  rw [pur1, strs_app]
  clear zz
  go_loopg [6, 7] 4 (fun g s6 s7 wr => ∃ (i : Nat) (bs : List Int), i ≤ 4 ∧ g = 4 - i ∧ s6 = .string (strOfNums bs) ∧ s7 = .int .i64 i ∧ Aside (bs = [80, 85, 82, 49] ++ twoB (Plan.frame P) ++ (cntL P).take i) ∧
    (0 < i → ¬ 255 < (Plan.cores P).length) ∧ (1 < i → ¬ 255 < (Plan.parts P).length) ∧ (2 < i → ¬ 255 < (Plan.chans P).length) ∧ (3 < i → ¬ 255 < (Plan.pairs P).length) ∧ Aside (Below W2.heap.size W2 wr) ∧ bs.length ≤ 6 + i)
  case atStart => exact ⟨0, _, by omega, rfl, rfl, rfl, ⟨by simp⟩, by omega, by omega, by omega, by omega, ⟨B3.out⟩, by simp [twoB]⟩
  case round =>
    obtain ⟨i, bs, hi, rfl, rfl, rfl, HB, g0, g1, g2, g3, hst, hbl⟩ := hrel
    by_cases hlt : i < 4
    · have Y4 := hup hst.out B2.out.2.2
      have y0 : wr.cell? ⟨W1.heap.size, 0, none⟩ = some (.int .i64 ((Plan.cores P).length : Int)) := by simp [World.cell?, Y4]
      have y1 : wr.cell? ⟨W1.heap.size, 1, none⟩ = some (.int .i64 ((Plan.parts P).length : Int)) := by simp [World.cell?, Y4]
      have y2 : wr.cell? ⟨W1.heap.size, 2, none⟩ = some (.int .i64 ((Plan.chans P).length : Int)) := by simp [World.cell?, Y4]
      have y3 : wr.cell? ⟨W1.heap.size, 3, none⟩ = some (.int .i64 ((Plan.pairs P).length : Int)) := by simp [World.cell?, Y4]
      clear Y4
      have : i = 0 ∨ i = 1 ∨ i = 2 ∨ i = 3 := by omega
      rcases this with rfl | rfl | rfl | rfl
      · by_cases h : (255 : Int) < ((Plan.cores P).length : Int)
        · go_wp2_with fail
          go_ret3
          exact ⟨_, _, _, rfl, bel_then B2.out.1 hst.out, .inr ⟨why0 (by omega), rfl⟩⟩
        · have zz := fit2 (a := bs) (b := [((Plan.cores P).length : Int)]) (by simp; omega)
          go_wp2_with fail
          refine (one_any wr _).mono ?_
          rintro e w4 ⟨rfl, b4⟩
          have B4 := Aside.mk (bel_then hst.out b4)
          clear b4
          go_wp2_with fail
          go_roundg (4 - (0 + 1))
          case measure => omega
          case rel => exact ⟨0 + 1, bs ++ [((Plan.cores P).length : Int)], by omega, rfl, by rw [strs_app], by go_num, ⟨by rw [HB.out]; simp [cntL]⟩, by omega, by omega, by omega, by omega, ⟨B4.out⟩, by simp; omega⟩
      · by_cases h : (255 : Int) < ((Plan.parts P).length : Int)
        · go_wp2_with fail
          go_ret3
          exact ⟨_, _, _, rfl, bel_then B2.out.1 hst.out, .inr ⟨why1 (by omega) (by omega), rfl⟩⟩
        · have zz := fit2 (a := bs) (b := [((Plan.parts P).length : Int)]) (by simp; omega)
          go_wp2_with fail
          refine (one_any wr _).mono ?_
          rintro e w4 ⟨rfl, b4⟩
          have B4 := Aside.mk (bel_then hst.out b4)
          clear b4
          go_wp2_with fail
          go_roundg (4 - (1 + 1))
          case measure => omega
          case rel => exact ⟨1 + 1, bs ++ [((Plan.parts P).length : Int)], by omega, rfl, by rw [strs_app], by go_num, ⟨by rw [HB.out]; simp [cntL]⟩, by omega, by omega, by omega, by omega, ⟨B4.out⟩, by simp; omega⟩
      · by_cases h : (255 : Int) < ((Plan.chans P).length : Int)
        · go_wp2_with fail
          go_ret3
          exact ⟨_, _, _, rfl, bel_then B2.out.1 hst.out, .inr ⟨why2 (by omega) (by omega) (by omega), rfl⟩⟩
        · have zz := fit2 (a := bs) (b := [((Plan.chans P).length : Int)]) (by simp; omega)
          go_wp2_with fail
          refine (one_any wr _).mono ?_
          rintro e w4 ⟨rfl, b4⟩
          have B4 := Aside.mk (bel_then hst.out b4)
          clear b4
          go_wp2_with fail
          go_roundg (4 - (2 + 1))
          case measure => omega
          case rel => exact ⟨2 + 1, bs ++ [((Plan.chans P).length : Int)], by omega, rfl, by rw [strs_app], by go_num, ⟨by rw [HB.out]; simp [cntL]⟩, by omega, by omega, by omega, by omega, ⟨B4.out⟩, by simp; omega⟩
      · by_cases h : (255 : Int) < ((Plan.pairs P).length : Int)
        · go_wp2_with fail
          go_ret3
          exact ⟨_, _, _, rfl, bel_then B2.out.1 hst.out, .inr ⟨why3 (by omega) (by omega) (by omega) (by omega), rfl⟩⟩
        · have zz := fit2 (a := bs) (b := [((Plan.pairs P).length : Int)]) (by simp; omega)
          go_wp2_with fail
          refine (one_any wr _).mono ?_
          rintro e w4 ⟨rfl, b4⟩
          have B4 := Aside.mk (bel_then hst.out b4)
          clear b4
          go_wp2_with fail
          go_roundg (4 - (3 + 1))
          case measure => omega
          case rel => exact ⟨3 + 1, bs ++ [((Plan.pairs P).length : Int)], by omega, rfl, by rw [strs_app], by go_num, ⟨by rw [HB.out]; simp [cntL]⟩, by omega, by omega, by omega, by omega, ⟨B4.out⟩, by simp; omega⟩
    · obtain rfl : i = 4 := by omega
      have KO : Aside (CntOk P) := ⟨⟨g0 (by omega), g1 (by omega), g2 (by omega), g3 (by omega)⟩⟩
      have HB0 : Aside (bs = hdrB P ∧ bs.length ≤ 10) := ⟨by rw [HB.out]; rfl, hbl⟩
      have B5 := hst
      clear g0 g1 g2 g3 hlt hi HB hst hbl
      go_wp2_with fail
      rename World => w5
      go_loopg [6, 8] (Plan.cores P).length (fun g s6 s8 wr => ∃ (i : Nat) (bs : List Int), i ≤ (Plan.cores P).length ∧ g = (Plan.cores P).length - i ∧ s6 = .string (strOfNums bs) ∧ s8 = .int .i64 i ∧ Aside (bs = hdrB P ++ ((Plan.cores P).take i).flatMap coreB) ∧ Aside (Below W2.heap.size W2 wr) ∧ bs.length ≤ 10 + 12002 * i)
      case atStart => exact ⟨0, _, by omega, rfl, rfl, rfl, ⟨by rw [HB0.out.1]; simp⟩, ⟨B5.out⟩, HB0.out.2⟩
      case round =>
        rename World => v5
        obtain ⟨i, bs, hi, rfl, rfl, rfl, HB, hst, hbl⟩ := hrel
        obtain ⟨x0, x1, x2, x3, x4⟩ := box5 (hup hst.out B2.out.2.1)
        by_cases hlt : i < (Plan.cores P).length
        · obtain ⟨L, hL⟩ : ∃ L, (Plan.cores P)[i]? = some L := ⟨_, List.getElem?_eq_getElem hlt⟩
          obtain ⟨ad, lv, rfl, y0, hw⟩ := (HP.out.cores.below (bel_then B2.out.1 hst.out)).at_ i L hL
          obtain ⟨la, lc, rfl, _⟩ := hw.len
          have HWi := Aside.mk hw
          have hl0 := HF.out.cores L (List.mem_of_getElem? hL)
          have hl1 : ¬ (65535 : Int) < (L.length : Int) := by omega
          have HL := Aside.mk hL
          have K2 := Aside.mk (two_any v5 (L.length : Int) (by omega) (by omega))
          have zz := fit2 (a := bs) (b := twoB (L.length : Int)) (by simp [twoB]; omega)
          clear hw hL
          go_wp2_with fail
          refine K2.out.mono ?_
          rintro e w6 ⟨rfl, b6⟩
          have B6 := Aside.mk (And.intro (bel_then hst.out b6) b6)
          clear b6 K2 x0 x1 x2 x3 x4 y0
          go_wp2_with fail
          rw [strs_app]
          go_loopg [6, 10] L.length (fun g s6 s10 wr => ∃ (k : Nat) (cs : List Int), k ≤ L.length ∧ g = L.length - k ∧ s6 = .string (strOfNums cs) ∧ s10 = .int .i64 k ∧ Aside (cs = bs ++ twoB (L.length : Int) ++ (L.take k).flatMap winB) ∧ Aside (Below w6.heap.size w6 wr) ∧ cs.length ≤ bs.length + 2 + 6 * k)
          case atStart => exact ⟨0, _, by omega, rfl, rfl, rfl, ⟨by simp⟩, ⟨Below.refl _ _⟩, by simp [twoB]⟩
          case round =>
            obtain ⟨k, cs, hk, rfl, rfl, rfl, HB7, hst7, hbl7⟩ := hrel
            by_cases hlt7 : k < L.length
            · obtain ⟨x, hx⟩ : ∃ x, L[k]? = some x := ⟨_, List.getElem?_eq_getElem hlt7⟩
              have HX := Aside.mk hx
              have HW7 := Aside.mk (HWi.out.below (bel_then B6.out.2 hst7.out))
              obtain ⟨ad2, rfl, _, _, _, _, okx⟩ := HW7.out.at_ k x hx
              clear hx
              have SW : Aside (∀ w', Below wr.heap.size wr w' → w'.cell? (ad2.add (k * 4)) = some (.int .u16 (Win.s x)) ∧ w'.cell? ⟨(ad2.add (k * 4)).block, (ad2.add (k * 4)).off + 1, none⟩ = some (.int .u16 (Win.l x)) ∧ w'.cell? ⟨(ad2.add (k * 4)).block, (ad2.add (k * 4)).off + 2, none⟩ = some (.int .u8 (Win.p x)) ∧ w'.cell? ⟨(ad2.add (k * 4)).block, (ad2.add (k * 4)).off + 3, none⟩ = some (.int .u8 (Win.g x))) := ⟨fun w' b => by
                obtain ⟨ad3, e3, z0, z1, z2, z3, _⟩ := (HW7.out.below b).at_ k x HX.out
                cases e3
                exact ⟨z0, z1, z2, z3⟩⟩
              have SR := Aside.mk (Below.refl wr.heap.size wr)
              have K0 : Aside (∀ W, Below wr.heap.size wr W → Calls Tryd.prog 23 #[.int .i64 (Win.s x)] W fun e w' => e = .returned (.string (strOfNums (twoB (Win.s x)))) ∧ Below wr.heap.size wr w') := ⟨fun W h => (two_any W _ okx.s.1 okx.s.2).mono fun e w' q => ⟨q.1, bel_then h q.2⟩⟩
              have K0w : Aside (∀ W, Below wr.heap.size wr W → Calls Tryd.prog 23 #[.int .i64 (IntKind.i64.wrap (Win.s x))] W fun e w' => e = .returned (.string (strOfNums (twoB (Win.s x)))) ∧ Below wr.heap.size wr w') := ⟨fun W h => by rw [show IntKind.i64.wrap (Win.s x) = (Win.s x) from IntWalk.i64_in _ (by have q2 := okx.s; omega)]; exact K0.out W h⟩
              have K1 : Aside (∀ W, Below wr.heap.size wr W → Calls Tryd.prog 23 #[.int .i64 (Win.l x)] W fun e w' => e = .returned (.string (strOfNums (twoB (Win.l x)))) ∧ Below wr.heap.size wr w') := ⟨fun W h => (two_any W _ okx.l.1 okx.l.2).mono fun e w' q => ⟨q.1, bel_then h q.2⟩⟩
              have K1w : Aside (∀ W, Below wr.heap.size wr W → Calls Tryd.prog 23 #[.int .i64 (IntKind.i64.wrap (Win.l x))] W fun e w' => e = .returned (.string (strOfNums (twoB (Win.l x)))) ∧ Below wr.heap.size wr w') := ⟨fun W h => by rw [show IntKind.i64.wrap (Win.l x) = (Win.l x) from IntWalk.i64_in _ (by have q2 := okx.l; omega)]; exact K1.out W h⟩
              have K2 : Aside (∀ W, Below wr.heap.size wr W → Calls Tryd.prog 24 #[.int .u8 (Win.p x)] W fun e w' => e = .returned (.string (strOfNums ([Win.p x]))) ∧ Below wr.heap.size wr w') := ⟨fun W h => (one_any W _).mono fun e w' q => ⟨q.1, bel_then h q.2⟩⟩
              have K3 : Aside (∀ W, Below wr.heap.size wr W → Calls Tryd.prog 24 #[.int .u8 (Win.g x)] W fun e w' => e = .returned (.string (strOfNums ([Win.g x]))) ∧ Below wr.heap.size wr w') := ⟨fun W h => (one_any W _).mono fun e w' q => ⟨q.1, bel_then h q.2⟩⟩
              have zz2 : ¬ 9223372036854775807 < (strOfNums (twoB (Win.s x))).size + (strOfNums (twoB (Win.l x))).size := by simp only [strs_size, twoB, List.length_cons, List.length_nil]; omega
              have zz3 : ¬ 9223372036854775807 < (strOfNums (twoB (Win.s x))).size + (strOfNums (twoB (Win.l x))).size + (strOfNums ([Win.p x])).size := by simp only [strs_size, twoB, List.length_cons, List.length_nil]; omega
              have zz4 : ¬ 9223372036854775807 < (strOfNums (twoB (Win.s x))).size + (strOfNums (twoB (Win.l x))).size + (strOfNums ([Win.p x])).size + (strOfNums ([Win.g x])).size := by simp only [strs_size, twoB, List.length_cons, List.length_nil]; omega
              have zz : ¬ 9223372036854775807 < (strOfNums cs).size + ((strOfNums (twoB (Win.s x))).size + (strOfNums (twoB (Win.l x))).size + (strOfNums ([Win.p x])).size + (strOfNums ([Win.g x])).size) := by simp only [strs_size, twoB, List.length_cons, List.length_nil]; omega
              go_upto_region 19 with (fail)
              go_loud (go_region_held3 (fun w' => w'.cell? (ad2.add (k * 4)) = some (.int .u16 (Win.s x)) ∧ w'.cell? ⟨(ad2.add (k * 4)).block, (ad2.add (k * 4)).off + 1, none⟩ = some (.int .u16 (Win.l x)) ∧ w'.cell? ⟨(ad2.add (k * 4)).block, (ad2.add (k * 4)).off + 2, none⟩ = some (.int .u8 (Win.p x)) ∧ w'.cell? ⟨(ad2.add (k * 4)).block, (ad2.add (k * 4)).off + 3, none⟩ = some (.int .u8 (Win.g x))) (first | (with_reducible exact SW.out _ hx) | (with_reducible exact SW.out _ (bel_drew hx)) | (with_reducible exact SW.out _ SR.out) | (with_reducible exact SW.out _ (bel_drew SR.out)) | go_keep) (first
                | (with_reducible refine (K0.out _ hx).mono ?_; rintro e wx ⟨rfl, hx⟩)
                | (with_reducible refine (K0w.out _ hx).mono ?_; rintro e wx ⟨rfl, hx⟩)
                | (with_reducible refine (K0.out _ (bel_drew hx)).mono ?_; rintro e wx ⟨rfl, hx⟩)
                | (with_reducible refine (K0w.out _ (bel_drew hx)).mono ?_; rintro e wx ⟨rfl, hx⟩)
                | (with_reducible refine (K0.out _ SR.out).mono ?_; rintro e wx ⟨rfl, hx⟩)
                | (with_reducible refine (K0w.out _ SR.out).mono ?_; rintro e wx ⟨rfl, hx⟩)
                | (with_reducible refine (K0.out _ (bel_drew SR.out)).mono ?_; rintro e wx ⟨rfl, hx⟩)
                | (with_reducible refine (K0w.out _ (bel_drew SR.out)).mono ?_; rintro e wx ⟨rfl, hx⟩)
                | (with_reducible refine (K1.out _ hx).mono ?_; rintro e wx ⟨rfl, hx⟩)
                | (with_reducible refine (K1w.out _ hx).mono ?_; rintro e wx ⟨rfl, hx⟩)
                | (with_reducible refine (K1.out _ (bel_drew hx)).mono ?_; rintro e wx ⟨rfl, hx⟩)
                | (with_reducible refine (K1w.out _ (bel_drew hx)).mono ?_; rintro e wx ⟨rfl, hx⟩)
                | (with_reducible refine (K1.out _ SR.out).mono ?_; rintro e wx ⟨rfl, hx⟩)
                | (with_reducible refine (K1w.out _ SR.out).mono ?_; rintro e wx ⟨rfl, hx⟩)
                | (with_reducible refine (K1.out _ (bel_drew SR.out)).mono ?_; rintro e wx ⟨rfl, hx⟩)
                | (with_reducible refine (K1w.out _ (bel_drew SR.out)).mono ?_; rintro e wx ⟨rfl, hx⟩)
                | (with_reducible refine (K2.out _ hx).mono ?_; rintro e wx ⟨rfl, hx⟩)
                | (with_reducible refine (K2.out _ (bel_drew hx)).mono ?_; rintro e wx ⟨rfl, hx⟩)
                | (with_reducible refine (K2.out _ SR.out).mono ?_; rintro e wx ⟨rfl, hx⟩)
                | (with_reducible refine (K2.out _ (bel_drew SR.out)).mono ?_; rintro e wx ⟨rfl, hx⟩)
                | (with_reducible refine (K3.out _ hx).mono ?_; rintro e wx ⟨rfl, hx⟩)
                | (with_reducible refine (K3.out _ (bel_drew hx)).mono ?_; rintro e wx ⟨rfl, hx⟩)
                | (with_reducible refine (K3.out _ SR.out).mono ?_; rintro e wx ⟨rfl, hx⟩)
                | (with_reducible refine (K3.out _ (bel_drew SR.out)).mono ?_; rintro e wx ⟨rfl, hx⟩)))
              all_goals
                go_wp2_with fail
                go_roundg (L.length - (k + 1))
                case measure => omega
                case rel => exact ⟨k + 1, cs ++ (twoB (Win.s x) ++ twoB (Win.l x) ++ [Win.p x] ++ [Win.g x]), by omega, rfl, by simp only [strs_app], by go_num, ⟨by rw [HB7.out, flat_succ winB HX.out]; simp [winB, twoB]⟩, ⟨bel_then hst7.out hx⟩, by simp [twoB]; omega⟩
            · obtain rfl : k = L.length := by omega
              clear hlt7
              go_wp2_with fail
              go_roundg ((Plan.cores P).length - (i + 1))
              case measure => omega
              case rel => exact ⟨i + 1, _, by omega, rfl, rfl, by go_num, ⟨by rw [HB7.out, HB.out, flat_succ coreB HL.out, List.take_length]; simp [coreB]⟩, ⟨bel_then B6.out.1 hst7.out⟩, by omega⟩
        · obtain rfl : i = (Plan.cores P).length := by omega
          have HBC : Aside (bs = hdrB P ++ (Plan.cores P).flatMap coreB ∧ bs.length ≤ 24004010) := ⟨by rw [HB.out, List.take_length], by omega⟩
          have B8 := hst
          clear hlt hi HB hst hbl
          go_wp2_with fail
          clear x0 x1 x2 x3 x4
          go_loopg [6, 11] (Plan.parts P).length (fun g s6 s11 wr => ∃ (i : Nat) (bs : List Int), i ≤ (Plan.parts P).length ∧ g = (Plan.parts P).length - i ∧ s6 = .string (strOfNums bs) ∧ s11 = .int .i64 i ∧ Aside (bs = hdrB P ++ (Plan.cores P).flatMap coreB ++ ((Plan.parts P).take i).flatMap partB) ∧ Aside (Below W2.heap.size W2 wr) ∧ Aside (PrtOk P i) ∧ bs.length ≤ 24004010 + 6100 * i)
          case atStart => exact ⟨0, _, by omega, rfl, rfl, rfl, ⟨by rw [HBC.out.1]; simp⟩, ⟨B8.out⟩, ⟨fun k x h => by omega⟩, HBC.out.2⟩
          case round =>
            rename World => v6
            obtain ⟨i, bs, hi, rfl, rfl, rfl, HB, hst, hpo, hbl⟩ := hrel
            obtain ⟨x0, x1, x2, x3, x4⟩ := box5 (hup hst.out B2.out.2.1)
            by_cases hlt : i < (Plan.parts P).length
            · obtain ⟨x, hx⟩ : ∃ x, (Plan.parts P)[i]? = some x := ⟨_, List.getElem?_eq_getElem hlt⟩
              obtain ⟨ad, sv, pv, rfl, y0, y1, y2, y3, y4, y5, hp⟩ := Parts.at_ (elems_below HP.out.parts (bel_then B2.out.1 hst.out)) i x hx
              obtain ⟨sa, sc, rfl, _⟩ := Elems.len hp.sems
              obtain ⟨pa, pc, rfl, _⟩ := Elems.len hp.procs
              have HPt := Aside.mk hp
              have HX := Aside.mk hx
              have ho := HF.out.objs x (List.mem_of_getElem? hx)
              obtain ⟨ho1, ho2⟩ := ho
              clear hp hx
              obtain ⟨W7, HW7⟩ : ∃ W7, Aside (W7 = v6.alloc (.cells #[.slice sa (PartR.sems x).length sc, .int .u8 (PartR.events x), .slice pa (PartR.procs x).length pc, .int .u8 (PartR.a0 x), .int .u8 (PartR.a1 x), .int .u8 (PartR.a2 x)] 56)) := ⟨_, ⟨rfl⟩⟩
              have B7 : Aside (Below v6.heap.size v6 W7) := ⟨by rw [HW7.out]; exact bel_one _ _⟩
              have H7 : Aside (W7.heap[v6.heap.size]? = some (.cells #[.slice sa (PartR.sems x).length sc, .int .u8 (PartR.events x), .slice pa (PartR.procs x).length pc, .int .u8 (PartR.a0 x), .int .u8 (PartR.a1 x), .int .u8 (PartR.a2 x)] 56 (0, 0))) := ⟨by rw [HW7.out]; exact heap_alloc_new _ _⟩
              go_upto_region 24 with (fail)
              rw [← HW7.out]
              clear y0 y1 y2 y3 y4 y5 x0 x1 x2 x3 x4
              obtain ⟨y0, y1, y2, y3, y4, y5⟩ := boxc6 H7.out
              by_cases hs : (255 : Int) < ((PartR.sems x).length : Int)
              · go_wp2_with fail
                go_ret3
                exact ⟨_, _, _, rfl, bel_then B2.out.1 (bel_then hst.out B7.out), .inr ⟨why_sems KO.out HF.out hpo.out HX.out (by omega), rfl⟩⟩
              by_cases hq : (255 : Int) < ((PartR.procs x).length : Int)
              · go_wp2_with fail
                go_ret3
                exact ⟨_, _, _, rfl, bel_then B2.out.1 (bel_then hst.out B7.out), .inr ⟨why_procs KO.out HF.out hpo.out HX.out (by omega) (by omega), rfl⟩⟩
              have zz := fit2 (a := bs) (b := [((PartR.sems x).length : Int)]) (by simp; omega)
              go_wp2_with fail
              refine (one_any W7 _).mono ?_
              rintro e w6 ⟨rfl, b6⟩
              have B6 := Aside.mk b6
              clear b6 y0 y1 y2 y3 y4 y5
              go_wp2_with fail
              rw [strs_app]
              clear zz
              go_loopg [6, 13] (PartR.sems x).length (fun g s6 s13 wr => ∃ (k : Nat) (cs : List Int), k ≤ (PartR.sems x).length ∧ g = (PartR.sems x).length - k ∧ s6 = .string (strOfNums cs) ∧ s13 = .int .i64 k ∧ Aside (cs = bs ++ [((PartR.sems x).length : Int)] ++ ((PartR.sems x).take k).flatMap semB) ∧ Aside (Below W7.heap.size W7 wr) ∧ cs.length ≤ bs.length + 1 + 2 * k)
              case atStart => exact ⟨0, _, by omega, rfl, rfl, rfl, ⟨by simp⟩, ⟨B6.out⟩, by simp⟩
              case round =>
                obtain ⟨k, cs, hk, rfl, rfl, rfl, HB7, hst7, hbl7⟩ := hrel
                obtain ⟨y0, y1, y2, y3, y4, y5⟩ := boxc6 (hup hst7.out H7.out)
                by_cases hlt7 : k < (PartR.sems x).length
                · obtain ⟨y, hy⟩ : ∃ y, (PartR.sems x)[k]? = some y := ⟨_, List.getElem?_eq_getElem hlt7⟩
                  have HY := Aside.mk hy
                  obtain ⟨ad2, rfl, _, _, oky⟩ := Sems.at_ (HPt.out.sems.below (bel_then B7.out hst7.out)) k y hy
                  clear hy
                  have SW : Aside (∀ w', Below wr.heap.size wr w' → w'.cell? ⟨v6.heap.size, 0, none⟩ = some (.slice (some ad2) (PartR.sems x).length sc) ∧ w'.cell? (ad2.add (k * 2)) = some (.int .u8 (SemR.i y)) ∧ w'.cell? ⟨(ad2.add (k * 2)).block, (ad2.add (k * 2)).off + 1, none⟩ = some (.int .u8 (SemR.m y))) := ⟨fun w' b => by
                    obtain ⟨q0, q1, q2, q3, q4, q5⟩ := boxc6 (hup (bel_then hst7.out b) H7.out)
                    obtain ⟨ad3, e3, z0, z1, _⟩ := Sems.at_ (HPt.out.sems.below (bel_then (bel_then B7.out hst7.out) b)) k y HY.out
                    cases e3
                    exact ⟨q0, z0, z1⟩⟩
                  have SR := Aside.mk (Below.refl wr.heap.size wr)
                  have K0 : Aside (∀ W, Below wr.heap.size wr W → Calls Tryd.prog 24 #[.int .u8 (SemR.i y)] W fun e w' => e = .returned (.string (strOfNums ([SemR.i y]))) ∧ Below wr.heap.size wr w') := ⟨fun W h => (one_any W _).mono fun e w' q => ⟨q.1, bel_then h q.2⟩⟩
                  have K1 : Aside (∀ W, Below wr.heap.size wr W → Calls Tryd.prog 24 #[.int .u8 (SemR.m y)] W fun e w' => e = .returned (.string (strOfNums ([SemR.m y]))) ∧ Below wr.heap.size wr w') := ⟨fun W h => (one_any W _).mono fun e w' q => ⟨q.1, bel_then h q.2⟩⟩
                  have zz2 : ¬ 9223372036854775807 < (strOfNums ([SemR.i y])).size + (strOfNums ([SemR.m y])).size := by simp only [strs_size, twoB, List.length_cons, List.length_nil]; omega
                  have zz : ¬ 9223372036854775807 < (strOfNums cs).size + ((strOfNums ([SemR.i y])).size + (strOfNums ([SemR.m y])).size) := by simp only [strs_size, twoB, List.length_cons, List.length_nil]; omega
                  go_upto_region 32 with (fail)
                  go_loud (go_region_held3 (fun w' => w'.cell? ⟨v6.heap.size, 0, none⟩ = some (.slice (some ad2) (PartR.sems x).length sc) ∧ w'.cell? (ad2.add (k * 2)) = some (.int .u8 (SemR.i y)) ∧ w'.cell? ⟨(ad2.add (k * 2)).block, (ad2.add (k * 2)).off + 1, none⟩ = some (.int .u8 (SemR.m y))) (first | (with_reducible exact SW.out _ hx) | (with_reducible exact SW.out _ (bel_drew hx)) | (with_reducible exact SW.out _ SR.out) | (with_reducible exact SW.out _ (bel_drew SR.out)) | go_keep) (first
                    | (with_reducible refine (K0.out _ hx).mono ?_; rintro e wx ⟨rfl, hx⟩)
                    | (with_reducible refine (K0.out _ (bel_drew hx)).mono ?_; rintro e wx ⟨rfl, hx⟩)
                    | (with_reducible refine (K0.out _ SR.out).mono ?_; rintro e wx ⟨rfl, hx⟩)
                    | (with_reducible refine (K0.out _ (bel_drew SR.out)).mono ?_; rintro e wx ⟨rfl, hx⟩)
                    | (with_reducible refine (K1.out _ hx).mono ?_; rintro e wx ⟨rfl, hx⟩)
                    | (with_reducible refine (K1.out _ (bel_drew hx)).mono ?_; rintro e wx ⟨rfl, hx⟩)
                    | (with_reducible refine (K1.out _ SR.out).mono ?_; rintro e wx ⟨rfl, hx⟩)
                    | (with_reducible refine (K1.out _ (bel_drew SR.out)).mono ?_; rintro e wx ⟨rfl, hx⟩)))
                  all_goals
                    go_wp2_with fail
                    go_roundg ((PartR.sems x).length - (k + 1))
                    case measure => omega
                    case rel => exact ⟨k + 1, cs ++ ([SemR.i y] ++ [SemR.m y]), by omega, rfl, by simp only [strs_app], by go_num, ⟨by rw [HB7.out, flat_succ semB HY.out]; simp [semB]⟩, ⟨bel_then hst7.out hx⟩, by simp; omega⟩
                · obtain rfl : k = (PartR.sems x).length := by omega
                  rename World => w8
                  have HBS : Aside (cs = bs ++ [((PartR.sems x).length : Int)] ++ (PartR.sems x).flatMap semB) := ⟨by rw [HB7.out, List.take_length]⟩
                  have B8 := hst7
                  clear hlt7 hk HB7 hst7
                  go_upto_region 33 with (fail)
                  clear y0 y1 y2 y3 y4 y5
                  go_cut [6] (fun y wc => y = .string (strOfNums (cs ++ ([PartR.events x] ++ [((PartR.procs x).length : Int)]))) ∧ Aside (Below W7.heap.size W7 wc))
                  case first =>
                    have SW : Aside (∀ w', Below w8.heap.size w8 w' → w'.cell? ⟨v6.heap.size, 1, none⟩ = some (.int .u8 (PartR.events x)) ∧ w'.cell? ⟨v6.heap.size, 2, none⟩ = some (.slice pa (PartR.procs x).length pc)) := ⟨fun w' b => by
                      obtain ⟨q0, q1, q2, q3, q4, q5⟩ := boxc6 (hup (bel_then B8.out b) H7.out)
                      exact ⟨q1, q2⟩⟩
                    have SR := Aside.mk (Below.refl w8.heap.size w8)
                    have K0 : Aside (∀ W, Below w8.heap.size w8 W → Calls Tryd.prog 24 #[.int .u8 (PartR.events x)] W fun e w' => e = .returned (.string (strOfNums ([PartR.events x]))) ∧ Below w8.heap.size w8 w') := ⟨fun W h => (one_any W _).mono fun e w' q => ⟨q.1, bel_then h q.2⟩⟩
                    have K1 : Aside (∀ W, Below w8.heap.size w8 W → Calls Tryd.prog 24 #[.int .u8 ((PartR.procs x).length : Int)] W fun e w' => e = .returned (.string (strOfNums ([((PartR.procs x).length : Int)]))) ∧ Below w8.heap.size w8 w') := ⟨fun W h => (one_any W _).mono fun e w' q => ⟨q.1, bel_then h q.2⟩⟩
                    have K1w : Aside (∀ W, Below w8.heap.size w8 W → Calls Tryd.prog 24 #[.int .u8 (IntKind.u8.wrap ((PartR.procs x).length : Int))] W fun e w' => e = .returned (.string (strOfNums ([((PartR.procs x).length : Int)]))) ∧ Below w8.heap.size w8 w') := ⟨fun W h => by rw [show IntKind.u8.wrap ((PartR.procs x).length : Int) = ((PartR.procs x).length : Int) from u8_in _ (by omega) (by omega)]; exact K1.out W h⟩
                    have zz2 : ¬ 9223372036854775807 < (strOfNums ([PartR.events x])).size + (strOfNums ([((PartR.procs x).length : Int)])).size := by simp only [strs_size, twoB, List.length_cons, List.length_nil]; omega
                    have zz : ¬ 9223372036854775807 < (strOfNums cs).size + ((strOfNums ([PartR.events x])).size + (strOfNums ([((PartR.procs x).length : Int)])).size) := by simp only [strs_size, twoB, List.length_cons, List.length_nil]; omega
                    go_loud (go_region_held3 (fun w' => w'.cell? ⟨v6.heap.size, 1, none⟩ = some (.int .u8 (PartR.events x)) ∧ w'.cell? ⟨v6.heap.size, 2, none⟩ = some (.slice pa (PartR.procs x).length pc)) (first | (with_reducible exact SW.out _ hx) | (with_reducible exact SW.out _ (bel_drew hx)) | (with_reducible exact SW.out _ SR.out) | (with_reducible exact SW.out _ (bel_drew SR.out)) | go_keep) (first
                      | (with_reducible refine (K0.out _ hx).mono ?_; rintro e wx ⟨rfl, hx⟩)
                      | (with_reducible refine (K0.out _ (bel_drew hx)).mono ?_; rintro e wx ⟨rfl, hx⟩)
                      | (with_reducible refine (K0.out _ SR.out).mono ?_; rintro e wx ⟨rfl, hx⟩)
                      | (with_reducible refine (K0.out _ (bel_drew SR.out)).mono ?_; rintro e wx ⟨rfl, hx⟩)
                      | (with_reducible refine (K1.out _ hx).mono ?_; rintro e wx ⟨rfl, hx⟩)
                      | (with_reducible refine (K1w.out _ hx).mono ?_; rintro e wx ⟨rfl, hx⟩)
                      | (with_reducible refine (K1.out _ (bel_drew hx)).mono ?_; rintro e wx ⟨rfl, hx⟩)
                      | (with_reducible refine (K1w.out _ (bel_drew hx)).mono ?_; rintro e wx ⟨rfl, hx⟩)
                      | (with_reducible refine (K1.out _ SR.out).mono ?_; rintro e wx ⟨rfl, hx⟩)
                      | (with_reducible refine (K1w.out _ SR.out).mono ?_; rintro e wx ⟨rfl, hx⟩)
                      | (with_reducible refine (K1.out _ (bel_drew SR.out)).mono ?_; rintro e wx ⟨rfl, hx⟩)
                      | (with_reducible refine (K1w.out _ (bel_drew SR.out)).mono ?_; rintro e wx ⟨rfl, hx⟩)))
                    all_goals
                      go_wp2_with fail
                      go_meet
                      case rel => exact ⟨by simp only [strs_app], ⟨bel_then B8.out hx⟩⟩
                  case rest =>
                    obtain ⟨rfl, BC⟩ := hcut
                    go_wp2_with fail
                    go_loopg [6, 14] (PartR.procs x).length (fun g s6 s14 wr => ∃ (k : Nat) (ds : List Int), k ≤ (PartR.procs x).length ∧ g = (PartR.procs x).length - k ∧ s6 = .string (strOfNums ds) ∧ s14 = .int .i64 k ∧ Aside (ds = cs ++ ([PartR.events x] ++ [((PartR.procs x).length : Int)]) ++ (PartR.procs x).take k) ∧ Aside (Below W7.heap.size W7 wr) ∧ ds.length ≤ cs.length + 2 + k)
                    case atStart => exact ⟨0, _, by omega, rfl, rfl, rfl, ⟨by simp⟩, ⟨BC.out⟩, by simp⟩
                    case round =>
                      obtain ⟨k, ds, hk, rfl, rfl, rfl, HB9, hst9, hbl9⟩ := hrel
                      obtain ⟨y0, y1, y2, y3, y4, y5⟩ := boxc6 (hup hst9.out H7.out)
                      by_cases hlt9 : k < (PartR.procs x).length
                      · obtain ⟨y, hy⟩ : ∃ y, (PartR.procs x)[k]? = some y := ⟨_, List.getElem?_eq_getElem hlt9⟩
                        have HY := Aside.mk hy
                        obtain ⟨ad2, rfl, z0, _⟩ := Bytes8.at_ (HPt.out.procs.below (bel_then B7.out hst9.out)) k y hy
                        clear hy
                        have zz := fit2 (a := ds) (b := [y]) (by simp; omega)
                        go_wp2_with fail
                        refine (one_any wr _).mono ?_
                        rintro e wx ⟨rfl, hx⟩
                        go_wp2_with fail
                        go_roundg ((PartR.procs x).length - (k + 1))
                        case measure => omega
                        case rel => exact ⟨k + 1, ds ++ [y], by omega, rfl, by rw [strs_app], by go_num, ⟨by rw [HB9.out, take_snoc HY.out]; simp⟩, ⟨bel_then hst9.out hx⟩, by simp; omega⟩
                      · obtain rfl : k = (PartR.procs x).length := by omega
                        clear hlt9
                        have SW : Aside (∀ w', Below wr.heap.size wr w' → w'.cell? ⟨v6.heap.size, 3, none⟩ = some (.int .u8 (PartR.a0 x)) ∧ w'.cell? ⟨v6.heap.size, 4, none⟩ = some (.int .u8 (PartR.a1 x)) ∧ w'.cell? ⟨v6.heap.size, 5, none⟩ = some (.int .u8 (PartR.a2 x))) := ⟨fun w' b => by
                          obtain ⟨q0, q1, q2, q3, q4, q5⟩ := boxc6 (hup (bel_then hst9.out b) H7.out)
                          exact ⟨q3, q4, q5⟩⟩
                        have SR := Aside.mk (Below.refl wr.heap.size wr)
                        have K0 : Aside (∀ W, Below wr.heap.size wr W → Calls Tryd.prog 24 #[.int .u8 (PartR.a0 x)] W fun e w' => e = .returned (.string (strOfNums ([PartR.a0 x]))) ∧ Below wr.heap.size wr w') := ⟨fun W h => (one_any W _).mono fun e w' q => ⟨q.1, bel_then h q.2⟩⟩
                        have K1 : Aside (∀ W, Below wr.heap.size wr W → Calls Tryd.prog 24 #[.int .u8 (PartR.a1 x)] W fun e w' => e = .returned (.string (strOfNums ([PartR.a1 x]))) ∧ Below wr.heap.size wr w') := ⟨fun W h => (one_any W _).mono fun e w' q => ⟨q.1, bel_then h q.2⟩⟩
                        have K2 : Aside (∀ W, Below wr.heap.size wr W → Calls Tryd.prog 24 #[.int .u8 (PartR.a2 x)] W fun e w' => e = .returned (.string (strOfNums ([PartR.a2 x]))) ∧ Below wr.heap.size wr w') := ⟨fun W h => (one_any W _).mono fun e w' q => ⟨q.1, bel_then h q.2⟩⟩
                        have zz2 : ¬ 9223372036854775807 < (strOfNums ([PartR.a0 x])).size + (strOfNums ([PartR.a1 x])).size := by simp only [strs_size, twoB, List.length_cons, List.length_nil]; omega
                        have zz3 : ¬ 9223372036854775807 < (strOfNums ([PartR.a0 x])).size + (strOfNums ([PartR.a1 x])).size + (strOfNums ([PartR.a2 x])).size := by simp only [strs_size, twoB, List.length_cons, List.length_nil]; omega
                        have zz : ¬ 9223372036854775807 < (strOfNums ds).size + ((strOfNums ([PartR.a0 x])).size + (strOfNums ([PartR.a1 x])).size + (strOfNums ([PartR.a2 x])).size) := by simp only [strs_size, twoB, List.length_cons, List.length_nil]; omega
                        go_upto_region 38 with (fail)
                        go_loud (go_region_held3 (fun w' => w'.cell? ⟨v6.heap.size, 3, none⟩ = some (.int .u8 (PartR.a0 x)) ∧ w'.cell? ⟨v6.heap.size, 4, none⟩ = some (.int .u8 (PartR.a1 x)) ∧ w'.cell? ⟨v6.heap.size, 5, none⟩ = some (.int .u8 (PartR.a2 x))) (first | (with_reducible exact SW.out _ hx) | (with_reducible exact SW.out _ (bel_drew hx)) | (with_reducible exact SW.out _ SR.out) | (with_reducible exact SW.out _ (bel_drew SR.out)) | go_keep) (first
                          | (with_reducible refine (K0.out _ hx).mono ?_; rintro e wx ⟨rfl, hx⟩)
                          | (with_reducible refine (K0.out _ (bel_drew hx)).mono ?_; rintro e wx ⟨rfl, hx⟩)
                          | (with_reducible refine (K0.out _ SR.out).mono ?_; rintro e wx ⟨rfl, hx⟩)
                          | (with_reducible refine (K0.out _ (bel_drew SR.out)).mono ?_; rintro e wx ⟨rfl, hx⟩)
                          | (with_reducible refine (K1.out _ hx).mono ?_; rintro e wx ⟨rfl, hx⟩)
                          | (with_reducible refine (K1.out _ (bel_drew hx)).mono ?_; rintro e wx ⟨rfl, hx⟩)
                          | (with_reducible refine (K1.out _ SR.out).mono ?_; rintro e wx ⟨rfl, hx⟩)
                          | (with_reducible refine (K1.out _ (bel_drew SR.out)).mono ?_; rintro e wx ⟨rfl, hx⟩)
                          | (with_reducible refine (K2.out _ hx).mono ?_; rintro e wx ⟨rfl, hx⟩)
                          | (with_reducible refine (K2.out _ (bel_drew hx)).mono ?_; rintro e wx ⟨rfl, hx⟩)
                          | (with_reducible refine (K2.out _ SR.out).mono ?_; rintro e wx ⟨rfl, hx⟩)
                          | (with_reducible refine (K2.out _ (bel_drew SR.out)).mono ?_; rintro e wx ⟨rfl, hx⟩)))
                        all_goals
                          go_wp2_with fail
                          go_roundg ((Plan.parts P).length - (i + 1))
                          case measure => omega
                          case rel => exact ⟨i + 1, ds ++ ([PartR.a0 x] ++ [PartR.a1 x] ++ [PartR.a2 x]), by omega, rfl, by simp only [strs_app], by go_num, ⟨by rw [HB9.out, HBS.out, HB.out, flat_succ partB HX.out, List.take_length]; simp [partB, PartR.a0, PartR.a1, PartR.a2]⟩, ⟨bel_then (bel_then (bel_then hst.out B7.out) hst9.out) hx⟩, ⟨hpo.out.next HX.out (by omega) (by omega)⟩, by simp; omega⟩
            · obtain rfl : i = (Plan.parts P).length := by omega
              have HBA : Aside (bs = hdrB P ++ (Plan.cores P).flatMap coreB ++ (Plan.parts P).flatMap partB ∧ bs.length ≤ 36204010) := ⟨by rw [HB.out, List.take_length], by omega⟩
              have B10 := hst
              have hpo9 := hpo
              clear hlt hi HB hst hbl hpo
              go_wp2_with fail
              clear x0 x1 x2 x3 x4
              go_loopg [6, 15] (Plan.chans P).length (fun g s6 s15 wr => ∃ (i : Nat) (bs : List Int), i ≤ (Plan.chans P).length ∧ g = (Plan.chans P).length - i ∧ s6 = .string (strOfNums bs) ∧ s15 = .int .i64 i ∧ Aside (bs = hdrB P ++ (Plan.cores P).flatMap coreB ++ (Plan.parts P).flatMap partB ++ ((Plan.chans P).take i).flatMap chanB) ∧ Aside (Below W2.heap.size W2 wr) ∧ bs.length ≤ 36204010 + 7 * i)
              case atStart => exact ⟨0, _, by omega, rfl, rfl, rfl, ⟨by rw [HBA.out.1]; simp⟩, ⟨B10.out⟩, HBA.out.2⟩
              case round =>
                rename World => v7
                obtain ⟨i, bs, hi, rfl, rfl, rfl, HB, hst, hbl⟩ := hrel
                obtain ⟨x0, x1, x2, x3, x4⟩ := box5 (hup hst.out B2.out.2.1)
                by_cases hlt : i < (Plan.chans P).length
                · obtain ⟨x, hx⟩ : ∃ x, (Plan.chans P)[i]? = some x := ⟨_, List.getElem?_eq_getElem hlt⟩
                  obtain ⟨ad, rfl, y0, y1, y2, y3, y4, y5, okx⟩ := Chans.at_ (elems_below HP.out.chans (bel_then B2.out.1 hst.out)) i x hx
                  have HX := Aside.mk hx
                  clear hx
                  obtain ⟨W7, HW7⟩ : ∃ W7, Aside (W7 = v7.alloc (.cells #[.int .u8 (ChanR.k x), .int .u8 (ChanR.f x), .int .u8 (ChanR.t x), .int .u8 (ChanR.z x), .int .u8 (ChanR.d x), .int .u16 (ChanR.y x)] 60)) := ⟨_, ⟨rfl⟩⟩
                  have B7 : Aside (Below v7.heap.size v7 W7) := ⟨by rw [HW7.out]; exact bel_one _ _⟩
                  have H7 : Aside (W7.heap[v7.heap.size]? = some (.cells #[.int .u8 (ChanR.k x), .int .u8 (ChanR.f x), .int .u8 (ChanR.t x), .int .u8 (ChanR.z x), .int .u8 (ChanR.d x), .int .u16 (ChanR.y x)] 60 (0, 0))) := ⟨by rw [HW7.out]; exact heap_alloc_new _ _⟩
                  have SW : Aside (∀ w', Below W7.heap.size W7 w' → w'.cell? ⟨v7.heap.size, 0, none⟩ = some (.int .u8 (ChanR.k x)) ∧ w'.cell? ⟨v7.heap.size, 1, none⟩ = some (.int .u8 (ChanR.f x)) ∧ w'.cell? ⟨v7.heap.size, 2, none⟩ = some (.int .u8 (ChanR.t x)) ∧ w'.cell? ⟨v7.heap.size, 3, none⟩ = some (.int .u8 (ChanR.z x)) ∧ w'.cell? ⟨v7.heap.size, 4, none⟩ = some (.int .u8 (ChanR.d x)) ∧ w'.cell? ⟨v7.heap.size, 5, none⟩ = some (.int .u16 (ChanR.y x))) := ⟨fun w' b => by
                    exact boxc6 (hup b H7.out)⟩
                  have SR := Aside.mk (Below.refl W7.heap.size W7)
                  have K0 : Aside (∀ W, Below W7.heap.size W7 W → Calls Tryd.prog 24 #[.int .u8 (ChanR.k x)] W fun e w' => e = .returned (.string (strOfNums ([ChanR.k x]))) ∧ Below W7.heap.size W7 w') := ⟨fun W h => (one_any W _).mono fun e w' q => ⟨q.1, bel_then h q.2⟩⟩
                  have K1 : Aside (∀ W, Below W7.heap.size W7 W → Calls Tryd.prog 24 #[.int .u8 (ChanR.f x)] W fun e w' => e = .returned (.string (strOfNums ([ChanR.f x]))) ∧ Below W7.heap.size W7 w') := ⟨fun W h => (one_any W _).mono fun e w' q => ⟨q.1, bel_then h q.2⟩⟩
                  have K2 : Aside (∀ W, Below W7.heap.size W7 W → Calls Tryd.prog 24 #[.int .u8 (ChanR.t x)] W fun e w' => e = .returned (.string (strOfNums ([ChanR.t x]))) ∧ Below W7.heap.size W7 w') := ⟨fun W h => (one_any W _).mono fun e w' q => ⟨q.1, bel_then h q.2⟩⟩
                  have K3 : Aside (∀ W, Below W7.heap.size W7 W → Calls Tryd.prog 24 #[.int .u8 (ChanR.z x)] W fun e w' => e = .returned (.string (strOfNums ([ChanR.z x]))) ∧ Below W7.heap.size W7 w') := ⟨fun W h => (one_any W _).mono fun e w' q => ⟨q.1, bel_then h q.2⟩⟩
                  have K4 : Aside (∀ W, Below W7.heap.size W7 W → Calls Tryd.prog 24 #[.int .u8 (ChanR.d x)] W fun e w' => e = .returned (.string (strOfNums ([ChanR.d x]))) ∧ Below W7.heap.size W7 w') := ⟨fun W h => (one_any W _).mono fun e w' q => ⟨q.1, bel_then h q.2⟩⟩
                  have K5 : Aside (∀ W, Below W7.heap.size W7 W → Calls Tryd.prog 23 #[.int .i64 (ChanR.y x)] W fun e w' => e = .returned (.string (strOfNums (twoB (ChanR.y x)))) ∧ Below W7.heap.size W7 w') := ⟨fun W h => (two_any W _ okx.y.1 okx.y.2).mono fun e w' q => ⟨q.1, bel_then h q.2⟩⟩
                  have K5w : Aside (∀ W, Below W7.heap.size W7 W → Calls Tryd.prog 23 #[.int .i64 (IntKind.i64.wrap (ChanR.y x))] W fun e w' => e = .returned (.string (strOfNums (twoB (ChanR.y x)))) ∧ Below W7.heap.size W7 w') := ⟨fun W h => by rw [show IntKind.i64.wrap (ChanR.y x) = (ChanR.y x) from IntWalk.i64_in _ (by have q2 := okx.y; omega)]; exact K5.out W h⟩
                  have zz2 : ¬ 9223372036854775807 < (strOfNums ([ChanR.k x])).size + (strOfNums ([ChanR.f x])).size := by simp only [strs_size, twoB, List.length_cons, List.length_nil]; omega
                  have zz3 : ¬ 9223372036854775807 < (strOfNums ([ChanR.k x])).size + (strOfNums ([ChanR.f x])).size + (strOfNums ([ChanR.t x])).size := by simp only [strs_size, twoB, List.length_cons, List.length_nil]; omega
                  have zz4 : ¬ 9223372036854775807 < (strOfNums ([ChanR.k x])).size + (strOfNums ([ChanR.f x])).size + (strOfNums ([ChanR.t x])).size + (strOfNums ([ChanR.z x])).size := by simp only [strs_size, twoB, List.length_cons, List.length_nil]; omega
                  have zz5 : ¬ 9223372036854775807 < (strOfNums ([ChanR.k x])).size + (strOfNums ([ChanR.f x])).size + (strOfNums ([ChanR.t x])).size + (strOfNums ([ChanR.z x])).size + (strOfNums ([ChanR.d x])).size := by simp only [strs_size, twoB, List.length_cons, List.length_nil]; omega
                  have zz6 : ¬ 9223372036854775807 < (strOfNums ([ChanR.k x])).size + (strOfNums ([ChanR.f x])).size + (strOfNums ([ChanR.t x])).size + (strOfNums ([ChanR.z x])).size + (strOfNums ([ChanR.d x])).size + (strOfNums (twoB (ChanR.y x))).size := by simp only [strs_size, twoB, List.length_cons, List.length_nil]; omega
                  have zz : ¬ 9223372036854775807 < (strOfNums bs).size + ((strOfNums ([ChanR.k x])).size + (strOfNums ([ChanR.f x])).size + (strOfNums ([ChanR.t x])).size + (strOfNums ([ChanR.z x])).size + (strOfNums ([ChanR.d x])).size + (strOfNums (twoB (ChanR.y x))).size) := by simp only [strs_size, twoB, List.length_cons, List.length_nil]; omega
                  go_upto_region 43 with (fail)
                  rw [← HW7.out]
                  clear y0 y1 y2 y3 y4 y5 x0 x1 x2 x3 x4
                  go_loud (go_region_held3 (fun w' => w'.cell? ⟨v7.heap.size, 0, none⟩ = some (.int .u8 (ChanR.k x)) ∧ w'.cell? ⟨v7.heap.size, 1, none⟩ = some (.int .u8 (ChanR.f x)) ∧ w'.cell? ⟨v7.heap.size, 2, none⟩ = some (.int .u8 (ChanR.t x)) ∧ w'.cell? ⟨v7.heap.size, 3, none⟩ = some (.int .u8 (ChanR.z x)) ∧ w'.cell? ⟨v7.heap.size, 4, none⟩ = some (.int .u8 (ChanR.d x)) ∧ w'.cell? ⟨v7.heap.size, 5, none⟩ = some (.int .u16 (ChanR.y x))) (first | (with_reducible exact SW.out _ hx) | (with_reducible exact SW.out _ (bel_drew hx)) | (with_reducible exact SW.out _ SR.out) | (with_reducible exact SW.out _ (bel_drew SR.out)) | go_keep) (first
                    | (with_reducible refine (K0.out _ hx).mono ?_; rintro e wx ⟨rfl, hx⟩)
                    | (with_reducible refine (K0.out _ (bel_drew hx)).mono ?_; rintro e wx ⟨rfl, hx⟩)
                    | (with_reducible refine (K0.out _ SR.out).mono ?_; rintro e wx ⟨rfl, hx⟩)
                    | (with_reducible refine (K0.out _ (bel_drew SR.out)).mono ?_; rintro e wx ⟨rfl, hx⟩)
                    | (with_reducible refine (K1.out _ hx).mono ?_; rintro e wx ⟨rfl, hx⟩)
                    | (with_reducible refine (K1.out _ (bel_drew hx)).mono ?_; rintro e wx ⟨rfl, hx⟩)
                    | (with_reducible refine (K1.out _ SR.out).mono ?_; rintro e wx ⟨rfl, hx⟩)
                    | (with_reducible refine (K1.out _ (bel_drew SR.out)).mono ?_; rintro e wx ⟨rfl, hx⟩)
                    | (with_reducible refine (K2.out _ hx).mono ?_; rintro e wx ⟨rfl, hx⟩)
                    | (with_reducible refine (K2.out _ (bel_drew hx)).mono ?_; rintro e wx ⟨rfl, hx⟩)
                    | (with_reducible refine (K2.out _ SR.out).mono ?_; rintro e wx ⟨rfl, hx⟩)
                    | (with_reducible refine (K2.out _ (bel_drew SR.out)).mono ?_; rintro e wx ⟨rfl, hx⟩)
                    | (with_reducible refine (K3.out _ hx).mono ?_; rintro e wx ⟨rfl, hx⟩)
                    | (with_reducible refine (K3.out _ (bel_drew hx)).mono ?_; rintro e wx ⟨rfl, hx⟩)
                    | (with_reducible refine (K3.out _ SR.out).mono ?_; rintro e wx ⟨rfl, hx⟩)
                    | (with_reducible refine (K3.out _ (bel_drew SR.out)).mono ?_; rintro e wx ⟨rfl, hx⟩)
                    | (with_reducible refine (K4.out _ hx).mono ?_; rintro e wx ⟨rfl, hx⟩)
                    | (with_reducible refine (K4.out _ (bel_drew hx)).mono ?_; rintro e wx ⟨rfl, hx⟩)
                    | (with_reducible refine (K4.out _ SR.out).mono ?_; rintro e wx ⟨rfl, hx⟩)
                    | (with_reducible refine (K4.out _ (bel_drew SR.out)).mono ?_; rintro e wx ⟨rfl, hx⟩)
                    | (with_reducible refine (K5.out _ hx).mono ?_; rintro e wx ⟨rfl, hx⟩)
                    | (with_reducible refine (K5w.out _ hx).mono ?_; rintro e wx ⟨rfl, hx⟩)
                    | (with_reducible refine (K5.out _ (bel_drew hx)).mono ?_; rintro e wx ⟨rfl, hx⟩)
                    | (with_reducible refine (K5w.out _ (bel_drew hx)).mono ?_; rintro e wx ⟨rfl, hx⟩)
                    | (with_reducible refine (K5.out _ SR.out).mono ?_; rintro e wx ⟨rfl, hx⟩)
                    | (with_reducible refine (K5w.out _ SR.out).mono ?_; rintro e wx ⟨rfl, hx⟩)
                    | (with_reducible refine (K5.out _ (bel_drew SR.out)).mono ?_; rintro e wx ⟨rfl, hx⟩)
                    | (with_reducible refine (K5w.out _ (bel_drew SR.out)).mono ?_; rintro e wx ⟨rfl, hx⟩)))
                  all_goals
                    go_wp2_with fail
                    go_roundg ((Plan.chans P).length - (i + 1))
                    case measure => omega
                    case rel => exact ⟨i + 1, bs ++ ([ChanR.k x] ++ [ChanR.f x] ++ [ChanR.t x] ++ [ChanR.z x] ++ [ChanR.d x] ++ twoB (ChanR.y x)), by omega, rfl, by simp only [strs_app], by go_num, ⟨by rw [HB.out, flat_succ chanB HX.out]; simp [chanB, twoB]⟩, ⟨bel_then hst.out (bel_then B7.out hx)⟩, by simp [twoB]; omega⟩
                · obtain rfl : i = (Plan.chans P).length := by omega
                  have HBH : Aside (bs = hdrB P ++ (Plan.cores P).flatMap coreB ++ (Plan.parts P).flatMap partB ++ (Plan.chans P).flatMap chanB ∧ bs.length ≤ 36218010) := ⟨by rw [HB.out, List.take_length], by omega⟩
                  have B11 := hst
                  clear hlt hi HB hst hbl
                  go_wp2_with fail
                  clear x0 x1 x2 x3 x4
                  go_loopg [6, 17] (Plan.pairs P).length (fun g s6 s17 wr => ∃ (i : Nat) (bs : List Int), i ≤ (Plan.pairs P).length ∧ g = (Plan.pairs P).length - i ∧ s6 = .string (strOfNums bs) ∧ s17 = .int .i64 i ∧ Aside (bs = hdrB P ++ (Plan.cores P).flatMap coreB ++ (Plan.parts P).flatMap partB ++ (Plan.chans P).flatMap chanB ++ ((Plan.pairs P).take i).flatMap pairB) ∧ Aside (Below W2.heap.size W2 wr) ∧ bs.length ≤ 36218010 + 2 * i)
                  case atStart => exact ⟨0, _, by omega, rfl, rfl, rfl, ⟨by rw [HBH.out.1]; simp⟩, ⟨B11.out⟩, HBH.out.2⟩
                  case round =>
                    obtain ⟨i, bs, hi, rfl, rfl, rfl, HB, hst, hbl⟩ := hrel
                    obtain ⟨x0, x1, x2, x3, x4⟩ := box5 (hup hst.out B2.out.2.1)
                    by_cases hlt : i < (Plan.pairs P).length
                    · obtain ⟨x, hx⟩ : ∃ x, (Plan.pairs P)[i]? = some x := ⟨_, List.getElem?_eq_getElem hlt⟩
                      obtain ⟨ad, rfl, _, _, okx⟩ := Pairs.at_ (elems_below HP.out.pairs (bel_then B2.out.1 hst.out)) i x hx
                      have HX := Aside.mk hx
                      clear hx
                      have SW : Aside (∀ w', Below wr.heap.size wr w' → w'.cell? ⟨w.heap.size, 4, none⟩ = some (.slice (some ad) (Plan.pairs P).length c3) ∧ w'.cell? (ad.add (i * 2)) = some (.int .u8 (PairR.a x)) ∧ w'.cell? ⟨(ad.add (i * 2)).block, (ad.add (i * 2)).off + 1, none⟩ = some (.int .u8 (PairR.b x))) := ⟨fun w' b => by
                        obtain ⟨q0, q1, q2, q3, q4⟩ := box5 (hup (bel_then hst.out b) B2.out.2.1)
                        obtain ⟨ad3, e3, z0, z1, _⟩ := Pairs.at_ (elems_below HP.out.pairs (bel_then B2.out.1 (bel_then hst.out b))) i x HX.out
                        cases e3
                        exact ⟨q4, z0, z1⟩⟩
                      have SR := Aside.mk (Below.refl wr.heap.size wr)
                      have K0 : Aside (∀ W, Below wr.heap.size wr W → Calls Tryd.prog 24 #[.int .u8 (PairR.a x)] W fun e w' => e = .returned (.string (strOfNums ([PairR.a x]))) ∧ Below wr.heap.size wr w') := ⟨fun W h => (one_any W _).mono fun e w' q => ⟨q.1, bel_then h q.2⟩⟩
                      have K1 : Aside (∀ W, Below wr.heap.size wr W → Calls Tryd.prog 24 #[.int .u8 (PairR.b x)] W fun e w' => e = .returned (.string (strOfNums ([PairR.b x]))) ∧ Below wr.heap.size wr w') := ⟨fun W h => (one_any W _).mono fun e w' q => ⟨q.1, bel_then h q.2⟩⟩
                      have zz2 : ¬ 9223372036854775807 < (strOfNums ([PairR.a x])).size + (strOfNums ([PairR.b x])).size := by simp only [strs_size, twoB, List.length_cons, List.length_nil]; omega
                      have zz : ¬ 9223372036854775807 < (strOfNums bs).size + ((strOfNums ([PairR.a x])).size + (strOfNums ([PairR.b x])).size) := by simp only [strs_size, twoB, List.length_cons, List.length_nil]; omega
                      go_upto_region 47 with (fail)
                      go_loud (go_region_held3 (fun w' => w'.cell? ⟨w.heap.size, 4, none⟩ = some (.slice (some ad) (Plan.pairs P).length c3) ∧ w'.cell? (ad.add (i * 2)) = some (.int .u8 (PairR.a x)) ∧ w'.cell? ⟨(ad.add (i * 2)).block, (ad.add (i * 2)).off + 1, none⟩ = some (.int .u8 (PairR.b x))) (first | (with_reducible exact SW.out _ hx) | (with_reducible exact SW.out _ (bel_drew hx)) | (with_reducible exact SW.out _ SR.out) | (with_reducible exact SW.out _ (bel_drew SR.out)) | go_keep) (first
                        | (with_reducible refine (K0.out _ hx).mono ?_; rintro e wx ⟨rfl, hx⟩)
                        | (with_reducible refine (K0.out _ (bel_drew hx)).mono ?_; rintro e wx ⟨rfl, hx⟩)
                        | (with_reducible refine (K0.out _ SR.out).mono ?_; rintro e wx ⟨rfl, hx⟩)
                        | (with_reducible refine (K0.out _ (bel_drew SR.out)).mono ?_; rintro e wx ⟨rfl, hx⟩)
                        | (with_reducible refine (K1.out _ hx).mono ?_; rintro e wx ⟨rfl, hx⟩)
                        | (with_reducible refine (K1.out _ (bel_drew hx)).mono ?_; rintro e wx ⟨rfl, hx⟩)
                        | (with_reducible refine (K1.out _ SR.out).mono ?_; rintro e wx ⟨rfl, hx⟩)
                        | (with_reducible refine (K1.out _ (bel_drew SR.out)).mono ?_; rintro e wx ⟨rfl, hx⟩)))
                      all_goals
                        go_wp2_with fail
                        go_roundg ((Plan.pairs P).length - (i + 1))
                        case measure => omega
                        case rel => exact ⟨i + 1, bs ++ ([PairR.a x] ++ [PairR.b x]), by omega, rfl, by simp only [strs_app], by go_num, ⟨by rw [HB.out, flat_succ pairB HX.out]; simp [pairB]⟩, ⟨bel_then hst.out hx⟩, by simp; omega⟩
                    · obtain rfl : i = (Plan.pairs P).length := by omega
                      go_wp2_with fail
                      go_ret3
                      exact ⟨_, _, _, rfl, bel_then B2.out.1 hst.out, .inl ⟨why_ok KO.out HF.out hpo9.out, by rw [HB.out, List.take_length]; rfl, rfl⟩⟩
end Go.Proofs.YtbphlapdhcgikaaDoor
