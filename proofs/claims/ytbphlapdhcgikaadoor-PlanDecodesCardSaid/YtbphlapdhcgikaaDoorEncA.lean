/- A plan's bytes: count, why. -/
import Derived.Test.YtbphlapdhcgikaaDoorEncP
import Derived.Test.YtbphlapdhcgikaaDoorCpy3
import Derived.Test.YtbphlapdhcgikaaDoorErrB
namespace Go.Proofs.YtbphlapdhcgikaaDoor
open Go.RowKit
set_option linter.unusedVariables false
set_option linter.unusedSimpArgs false

theorem count_any (w : World) (n most : Nat) (a : Int) (hn : n ≤ 9223372036854775807) (hm : most ≤ 65535) : Calls Tryd.prog 53 #[.int .i64 n, .int .i64 most, .int .i64 a] w fun e w' => ∃ v, e = .returned v ∧ ErrF w' (cntF n most a) v ∧ Below w.heap.size w w' := by
  by_cases h : most < n
  · have h' : (most : Int) < (n : Int) := by omega
    have HC : Aside (cntF n most a = some (31, a)) := ⟨by rw [cntF, if_pos h]⟩
    clear h
    go_enter Tryd.func53, Tryd.ntmps53
    go_wp2_with fail
    go_ret
    exact ⟨_, rfl, by rw [HC.out]; exact ⟨w.heap.size, rfl, heap_alloc_new _ _⟩, bel_one _ _⟩
  · have h' : ¬ (most : Int) < (n : Int) := by omega
    have HC : Aside (cntF n most a = none) := ⟨by rw [cntF, if_neg h]⟩
    clear h
    go_enter Tryd.func53, Tryd.ntmps53
    go_wp2_with fail
    go_ret
    exact ⟨_, rfl, by rw [HC.out]; rfl, Below.refl _ _⟩
theorem idx4_0 (a b c d : Int) (W : World) : (Instr.index 67 (.agg #[.int .i64 a, .int .i64 b, .int .i64 c, .int .i64 d]) (.int .i64 0)).run Tryd.prog W = .ok (.int .i64 a) W := by kernel_rfl
theorem idx4_1 (a b c d : Int) (W : World) : (Instr.index 67 (.agg #[.int .i64 a, .int .i64 b, .int .i64 c, .int .i64 d]) (.int .i64 1)).run Tryd.prog W = .ok (.int .i64 b) W := by kernel_rfl
theorem idx4_2 (a b c d : Int) (W : World) : (Instr.index 67 (.agg #[.int .i64 a, .int .i64 b, .int .i64 c, .int .i64 d]) (.int .i64 2)).run Tryd.prog W = .ok (.int .i64 c) W := by kernel_rfl
theorem idx4_3 (a b c d : Int) (W : World) : (Instr.index 67 (.agg #[.int .i64 a, .int .i64 b, .int .i64 c, .int .i64 d]) (.int .i64 3)).run Tryd.prog W = .ok (.int .i64 d) W := by kernel_rfl
def ErrR (w : World) (q : Option Flt) (e : Ending) (w' : World) : Prop := ∃ v, e = .returned v ∧ ErrF w' q v ∧ Below w.heap.size w w'
theorem errF_two {w : World} {q : Option Flt} {v : Value} (h : ErrF w q v) : (q = none ∧ v = .nilIface) ∨ (∃ x, q = some x ∧ ∃ f, v = .iface 70 (.pointer (some ⟨f, 0, none⟩))) := by
  cases q with
  | none => exact .inl ⟨rfl, h⟩
  | some x => obtain ⟨f, hf, _⟩ := h; exact .inr ⟨x, rfl, f, hf⟩
set_option maxHeartbeats 6400000 in
set_option maxRecDepth 100000 in
theorem why_plan (w : World) (v : Value) (P : Plan) (hv : PlanV w v P) : Calls Tryd.prog 21 #[v] w (ErrR w (whyF P)) := by
  obtain ⟨a0, c0, a1, c1, a2, c2, a3, c3, rfl, hp, hlen⟩ := hv.open_
  have HCo := Aside.mk hp.cores
  have HA := Aside.mk hp.parts
  have HY : Aside (whyF P = orElseF (cntF (Plan.cores P).length 255 0) (orElseF (cntF (Plan.parts P).length 255 1) (orElseF (cntF (Plan.chans P).length 255 2) (orElseF (cntF (Plan.pairs P).length 255 3) (orElseF (coresF (Plan.cores P)) (partsF (Plan.parts P))))))) := ⟨rfl⟩
  obtain ⟨_, _, _, hl1⟩ := Elems.len hp.parts
  obtain ⟨_, _, _, hl2⟩ := Elems.len hp.chans
  obtain ⟨_, _, _, hl3⟩ := Elems.len hp.pairs
  obtain ⟨_, _, _, hl0⟩ := hp.cores.len
  generalize whyF P = yy at *
  generalize Plan.frame P = fr at *
  generalize Plan.cores P = C at *
  generalize Plan.parts P = A at *
  generalize hH : (Plan.chans P).length = nH at *
  generalize hQ : (Plan.pairs P).length = nQ at *
  obtain ⟨W1, HW⟩ : ∃ W1, Aside (W1 = w.alloc (.cells #[.int .u16 fr, .slice a0 C.length c0, .slice a1 A.length c1, .slice a2 nH c2, .slice a3 nQ c3] 28)) := ⟨_, ⟨rfl⟩⟩
  have hb1 : Aside (Below w.heap.size w W1 ∧ W1.heap[w.heap.size]? = some (.cells #[.int .u16 fr, .slice a0 C.length c0, .slice a1 A.length c1, .slice a2 nH c2, .slice a3 nQ c3] 28 (0, 0))) := ⟨by rw [HW.out]; exact ⟨bel_one _ _, heap_alloc_new _ _⟩⟩
  obtain ⟨p0, p1, p2, p3, p4⟩ := box5 hb1.out.2
  have i0 := idx4_0
  have i1 := idx4_1
  have i2 := idx4_2
  have i3 := idx4_3
  clear hp hv hH hQ
  go_enter Tryd.func21, Tryd.ntmps21
  go_upto_region 1 with (fail)
  rw [← HW.out]
  go_wp2_with fail
  refine wp_loop_rounds 5 ?_
  rw [rounds_succ]
  go_wp2_with fail
  refine (count_any W1 C.length 255 0 hl0 (by omega)).mono ?_
  rintro e w2 ⟨r, rfl, hr, b2⟩
  have B2 : Aside (Below W1.heap.size W1 w2) := ⟨b2⟩
  clear b2 p0 p1 p2 p3 p4
  rcases errF_two hr with ⟨e1, rfl⟩ | ⟨x, e1, f, rfl⟩
  rotate_left
  · have HR := Aside.mk hr
    have HV : Aside (yy = some x) := ⟨by rw [HY.out, e1]; rfl⟩
    rw [e1] at HR
    clear hr e1
    go_wp2_with fail
    go_ret
    exact ⟨_, rfl, by rw [HV.out]; exact HR.out, bel_then hb1.out.1 B2.out⟩
  have Y2 : Aside (yy = orElseF (cntF A.length 255 1) (orElseF (cntF nH 255 2) (orElseF (cntF nQ 255 3) (orElseF (coresF C) (partsF A))))) := ⟨by rw [HY.out, e1]; rfl⟩
  clear hr e1
  go_wp2_with fail
  rw [rounds_succ]
  go_wp2_with fail
  refine (count_any w2 A.length 255 1 hl1 (by omega)).mono ?_
  rintro e w3 ⟨r, rfl, hr, b3⟩
  have B3 := Aside.mk (bel_then B2.out b3)
  clear b3
  rcases errF_two hr with ⟨e1, rfl⟩ | ⟨x, e1, f, rfl⟩
  rotate_left
  · have HR := Aside.mk hr
    have HV : Aside (yy = some x) := ⟨by rw [Y2.out, e1]; rfl⟩
    rw [e1] at HR
    clear hr e1
    go_wp2_with fail
    go_ret
    exact ⟨_, rfl, by rw [HV.out]; exact HR.out, bel_then hb1.out.1 B3.out⟩
  have Y3 : Aside (yy = orElseF (cntF nH 255 2) (orElseF (cntF nQ 255 3) (orElseF (coresF C) (partsF A)))) := ⟨by rw [Y2.out, e1]; rfl⟩
  clear hr e1
  go_wp2_with fail
  rw [rounds_succ]
  go_wp2_with fail
  refine (count_any w3 nH 255 2 hl2 (by omega)).mono ?_
  rintro e w4 ⟨r, rfl, hr, b4⟩
  have B4 := Aside.mk (bel_then B3.out b4)
  clear b4
  rcases errF_two hr with ⟨e1, rfl⟩ | ⟨x, e1, f, rfl⟩
  rotate_left
  · have HR := Aside.mk hr
    have HV : Aside (yy = some x) := ⟨by rw [Y3.out, e1]; rfl⟩
    rw [e1] at HR
    clear hr e1
    go_wp2_with fail
    go_ret
    exact ⟨_, rfl, by rw [HV.out]; exact HR.out, bel_then hb1.out.1 B4.out⟩
  have Y4 : Aside (yy = orElseF (cntF nQ 255 3) (orElseF (coresF C) (partsF A))) := ⟨by rw [Y3.out, e1]; rfl⟩
  clear hr e1
  go_wp2_with fail
  rw [rounds_succ]
  go_wp2_with fail
  refine (count_any w4 nQ 255 3 hl3 (by omega)).mono ?_
  rintro e w5 ⟨r, rfl, hr, b5⟩
  have B5 := Aside.mk (bel_then B4.out b5)
  clear b5
  rcases errF_two hr with ⟨e1, rfl⟩ | ⟨x, e1, f, rfl⟩
  rotate_left
  · have HR := Aside.mk hr
    have HV : Aside (yy = some x) := ⟨by rw [Y4.out, e1]; rfl⟩
    rw [e1] at HR
    clear hr e1
    go_wp2_with fail
    go_ret
    exact ⟨_, rfl, by rw [HV.out]; exact HR.out, bel_then hb1.out.1 B5.out⟩
  have Y5 : Aside (yy = orElseF (coresF C) (partsF A)) := ⟨by rw [Y4.out, e1]; rfl⟩
  clear hr e1
  go_wp2_with fail
  rw [rounds_succ]
  go_upto_region 8 with (fail)
  obtain ⟨p0, p1, p2, p3, p4⟩ := box5 (hup B5.out hb1.out.2)
  go_wp2_with fail
  clear p0 p1 p2 p3 p4 i0 i1 i2 i3
  go_loopg [40] C.length (fun q i wr => ∃ k : Nat, k ≤ C.length ∧ q = C.length - k ∧ i = .int .i64 k ∧ Aside (scan (fun i => cntF (C.getD i []).length 65535 4) k = none ∧ Below W1.heap.size W1 wr))
  case atStart => exact ⟨0, by omega, rfl, rfl, ⟨rfl, B5.out⟩⟩
  case round =>
    obtain ⟨k, hk, rfl, rfl, S⟩ := hrel
    by_cases hkl : k < C.length
    · have hl := List.getElem?_eq_getElem hkl
      obtain ⟨L, hL⟩ : ∃ L, C[k] = L := ⟨_, rfl⟩
      rw [hL] at hl
      obtain ⟨ad, lv, rfl, hlv, hwins⟩ := (HCo.out.below (bel_then hb1.out.1 S.out.2)).at_ k L hl
      obtain ⟨la, lc, rfl, hlL⟩ := hwins.len
      have HF : Aside ((fun i => cntF (C.getD i []).length 65535 4) k = cntF L.length 65535 4) := ⟨by
        show cntF (C.getD k []).length 65535 4 = _
        rw [List.getD_eq_getElem?_getD, hl]; rfl⟩
      clear hl hL hwins
      go_wp2_with fail
      refine (count_any wr L.length 65535 4 hlL (by omega)).mono ?_
      rintro e w6 ⟨r, rfl, hr, b6⟩
      have B6 := Aside.mk (bel_then S.out.2 b6)
      clear b6 hlv
      rcases errF_two hr with ⟨e1, rfl⟩ | ⟨x, e1, f, rfl⟩
      · have HN : Aside (scan (fun i => cntF (C.getD i []).length 65535 4) (k + 1) = none) := ⟨by rw [scan_succ S.out.1, HF.out, e1]⟩
        clear hr e1
        go_wp2_with fail
        go_roundg (C.length - (k + 1))
        case measure => omega
        case rel => exact ⟨k + 1, by omega, rfl, by go_num, ⟨HN.out, B6.out⟩⟩
      · have HR := Aside.mk hr
        have HV : Aside (yy = some x) := ⟨by rw [Y5.out, coresF, scan_some S.out.1 (HF.out.trans e1) hkl]; rfl⟩
        rw [e1] at HR
        clear hr e1
        go_wp2_with fail
        go_ret
        exact ⟨_, rfl, by rw [HV.out]; exact HR.out, bel_then hb1.out.1 B6.out⟩
    · obtain rfl : k = C.length := by omega
      have Y6 : Aside (yy = partsF A) := ⟨by rw [Y5.out, coresF, S.out.1]; rfl⟩
      clear hkl hk
      rename World => w7
      obtain ⟨p0, p1, p2, p3, p4⟩ := box5 (hup S.out.2 hb1.out.2)
      go_wp2_with fail
      clear p0 p1 p2 p3 p4
      go_loopg [54] A.length (fun q i wr => ∃ k : Nat, k ≤ A.length ∧ q = A.length - k ∧ i = .int .i64 k ∧ Aside (scan (fun i => orElseF (cntF (PartR.sems (ptAt A i)).length 255 5) (cntF (PartR.procs (ptAt A i)).length 255 6)) k = none ∧ Below W1.heap.size W1 wr))
      case atStart => exact ⟨0, by omega, rfl, rfl, ⟨rfl, S.out.2⟩⟩
      case round =>
        obtain ⟨k, hk, rfl, rfl, T⟩ := hrel
        by_cases hkl : k < A.length
        · have hl := List.getElem?_eq_getElem hkl
          obtain ⟨x, hx⟩ : ∃ x, A[k] = x := ⟨_, rfl⟩
          rw [hx] at hl
          obtain ⟨ad, sv, pv, rfl, d0, d1, d2, d3, d4, d5, ok⟩ := Parts.at_ (elems_below HA.out (bel_then hb1.out.1 T.out.2)) k x hl
          obtain ⟨sa, sc, pa, pc, rfl, rfl, hls, hlp⟩ := ok.lens
          have HF : Aside ((fun i => orElseF (cntF (PartR.sems (ptAt A i)).length 255 5) (cntF (PartR.procs (ptAt A i)).length 255 6)) k = orElseF (cntF (PartR.sems x).length 255 5) (cntF (PartR.procs x).length 255 6)) := ⟨by
            show orElseF (cntF (PartR.sems (ptAt A k)).length 255 5) (cntF (PartR.procs (ptAt A k)).length 255 6) = _
            rw [ptAt_some hl]⟩
          obtain ⟨W2, HW2⟩ : ∃ W2, Aside (W2 = wr.alloc (.cells #[.slice sa (PartR.sems x).length sc, .int .u8 (PartR.events x), .slice pa (PartR.procs x).length pc, .int .u8 (PartR.a0 x), .int .u8 (PartR.a1 x), .int .u8 (PartR.a2 x)] 56)) := ⟨_, ⟨rfl⟩⟩
          have B8 : Aside (Below W1.heap.size W1 W2) := ⟨by rw [HW2.out]; exact bel_then T.out.2 (bel_one _ _)⟩
          have HX : Aside (W2.heap[wr.heap.size]? = some (.cells #[.slice sa (PartR.sems x).length sc, .int .u8 (PartR.events x), .slice pa (PartR.procs x).length pc, .int .u8 (PartR.a0 x), .int .u8 (PartR.a1 x), .int .u8 (PartR.a2 x)] 56 (0, 0))) := ⟨by rw [HW2.out]; exact heap_alloc_new _ _⟩
          clear hl hx ok
          go_upto_region 18 with (fail)
          rw [← HW2.out]
          clear d0 d1 d2 d3 d4 d5
          have e0 : W2.cell? ⟨wr.heap.size, 0, none⟩ = some (.slice sa (PartR.sems x).length sc) := by simp [World.cell?, HX.out]
          go_wp2_with fail
          refine (count_any W2 (PartR.sems x).length 255 5 hls (by omega)).mono ?_
          rintro e w8 ⟨r, rfl, hr, b8⟩
          have B9 := Aside.mk (bel_then B8.out b8)
          have HX8 := Aside.mk (hup b8 HX.out)
          clear b8 e0
          rcases errF_two hr with ⟨e1, rfl⟩ | ⟨x', e1, f, rfl⟩
          rotate_left
          · have HR := Aside.mk hr
            have HV : Aside (yy = some x') := ⟨by rw [Y6.out, partsF, scan_some T.out.1 (HF.out.trans (by rw [e1]; rfl)) hkl]⟩
            rw [e1] at HR
            clear hr e1
            go_wp2_with fail
            go_ret
            exact ⟨_, rfl, by rw [HV.out]; exact HR.out, bel_then hb1.out.1 B9.out⟩
          have HF2 : Aside ((fun i => orElseF (cntF (PartR.sems (ptAt A i)).length 255 5) (cntF (PartR.procs (ptAt A i)).length 255 6)) k = cntF (PartR.procs x).length 255 6) := ⟨HF.out.trans (by rw [e1]; rfl)⟩
          clear hr e1
          have e2 : w8.cell? ⟨wr.heap.size, 2, none⟩ = some (.slice pa (PartR.procs x).length pc) := by simp [World.cell?, HX8.out]
          go_wp2_with fail
          refine (count_any w8 (PartR.procs x).length 255 6 hlp (by omega)).mono ?_
          rintro e w9 ⟨r, rfl, hr, b9⟩
          have B10 := Aside.mk (bel_then B9.out b9)
          clear b9 e2
          rcases errF_two hr with ⟨e1, rfl⟩ | ⟨x', e1, f, rfl⟩
          · have HN : Aside (scan (fun i => orElseF (cntF (PartR.sems (ptAt A i)).length 255 5) (cntF (PartR.procs (ptAt A i)).length 255 6)) (k + 1) = none) := ⟨by rw [scan_succ T.out.1, HF2.out, e1]⟩
            clear hr e1
            go_wp2_with fail
            go_roundg (A.length - (k + 1))
            case measure => omega
            case rel => exact ⟨k + 1, by omega, rfl, by go_num, ⟨HN.out, B10.out⟩⟩
          · have HR := Aside.mk hr
            have HV : Aside (yy = some x') := ⟨by rw [Y6.out, partsF, scan_some T.out.1 (HF2.out.trans e1) hkl]⟩
            rw [e1] at HR
            clear hr e1
            go_wp2_with fail
            go_ret
            exact ⟨_, rfl, by rw [HV.out]; exact HR.out, bel_then hb1.out.1 B10.out⟩
        · obtain rfl : k = A.length := by omega
          have HV : Aside (yy = none) := ⟨by rw [Y6.out, partsF, T.out.1]⟩
          clear hkl hk
          go_wp2_with fail
          go_ret
          exact ⟨_, rfl, by rw [HV.out]; rfl, bel_then hb1.out.1 T.out.2⟩
end Go.Proofs.YtbphlapdhcgikaaDoor
