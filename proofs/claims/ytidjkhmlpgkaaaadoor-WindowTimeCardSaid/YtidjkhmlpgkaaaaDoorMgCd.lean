/- The program's rules: channels, a partition's objects. The program's rules: partitions, sizes, Check. The program's rules: Check. -/
import Derived.Test.YtidjkhmlpgkaaaaDoorMgCc
namespace Go.Proofs.YtidjkhmlpgkaaaaDoor
open Go.RowKit
set_option linter.unusedVariables false
set_option linter.unusedSimpArgs false

set_option maxHeartbeats 3200000 in
set_option maxRecDepth 100000 in
theorem channels_any (w : World) (v : Value) (P : Plan) (hv : PlanV w v P) :
    Calls Tryd.prog 60 #[v] w (ErrR w (scan (chanF ((Plan.parts P).length : Int) (Plan.chans P)) (Plan.chans P).length)) := by
  obtain ⟨a0, n0, c0, a1, n1, c1, a2, n2, c2, a3, n3, c3, rfl, hp⟩ := hv
  obtain ⟨_, _, q, hlen1⟩ := Elems.len hp.parts
  obtain ⟨rfl, rfl, rfl⟩ : a1 = _ ∧ n1 = _ ∧ c1 = _ := by injection q with q1 q2 q3; exact ⟨q1, q2, q3⟩
  clear q
  obtain ⟨_, _, q, hlen2⟩ := Elems.len hp.chans
  obtain ⟨rfl, rfl, rfl⟩ : a2 = _ ∧ n2 = _ ∧ c2 = _ := by injection q with q1 q2 q3; exact ⟨q1, q2, q3⟩
  clear q
  have HQ := Aside.mk hp.chans
  have HE : Aside (∀ (i : Nat) (x : ChanR), (Plan.chans P)[i]? = some x → chanF ((Plan.parts P).length : Int) (Plan.chans P) i = if (decide (i ≤ 63) && chB ((Plan.parts P).length : Int) x) = true then none else some (50, (i : Int))) := ⟨fun i x h => by rw [chanF, chAt_some h, chanOk_eq]⟩
  generalize chanF ((Plan.parts P).length : Int) (Plan.chans P) = F at *
  generalize Plan.frame P = fr at *
  generalize Plan.chans P = Q at *
  obtain ⟨np, hnp⟩ : ∃ np, (Plan.parts P).length = np := ⟨_, rfl⟩
  rw [hnp] at HE hlen1 ⊢
  obtain ⟨W1, HW⟩ : ∃ W1, Aside (W1 = w.alloc (.cells #[.int .u16 fr, .slice a0 n0 c0, .slice a1 np c1, .slice a2 Q.length c2, .slice a3 n3 c3] 28)) := ⟨_, ⟨rfl⟩⟩
  have hb1 : Aside (Below w.heap.size w W1 ∧ W1.heap[w.heap.size]? = some (.cells #[.int .u16 fr, .slice a0 n0 c0, .slice a1 np c1, .slice a2 Q.length c2, .slice a3 n3 c3] 28 (0, 0))) := ⟨by rw [HW.out]; exact ⟨lone _ _, heap_alloc_new _ _⟩⟩
  obtain ⟨p0, p1, p2, p3, p4⟩ := lbox5 hb1.out.2
  clear hp hnp
  go_enter Tryd.func60, Tryd.ntmps60
  go_upto_region 1 with (fail)
  rw [← HW.out]
  go_wp2_with fail
  clear p0 p1 p2 p3 p4
  go_loopg [8] Q.length (fun q i wr => ∃ k : Nat, k ≤ Q.length ∧ q = Q.length - k ∧ i = .int .i64 k ∧ Aside (scan F k = none ∧ Below W1.heap.size W1 wr))
  case atStart => exact ⟨0, by omega, rfl, rfl, ⟨rfl, Below.refl _ _⟩⟩
  case round =>
    obtain ⟨k, hk, rfl, rfl, S⟩ := hrel
    by_cases hkl : k < Q.length
    · have hl := List.getElem?_eq_getElem hkl
      obtain ⟨x, hx⟩ : ∃ x, Q[k] = x := ⟨_, rfl⟩
      rw [hx] at hl
      have B0 := Aside.mk (lthen hb1.out.1 S.out.2)
      obtain ⟨ad, rfl, d0, d1, d2, d3, d4, d5, ok⟩ := Chans.at_ (elems_below HQ.out B0.out) k x hl
      have HEk := HE.out k x hl
      obtain ⟨W2, HW2⟩ : ∃ W2, Aside (W2 = wr.alloc (.cells #[.int .u8 (ChanR.k x), .int .u8 (ChanR.f x), .int .u8 (ChanR.t x), .int .u8 (ChanR.z x), .int .u8 (ChanR.d x), .int .u16 (ChanR.y x)] 129)) := ⟨_, ⟨rfl⟩⟩
      have B2 : Aside (Below W1.heap.size W1 W2) := ⟨by rw [HW2.out]; exact lthen S.out.2 (lone _ _)⟩
      have HX : Aside (W2.heap[wr.heap.size]? = some (.cells #[.int .u8 (ChanR.k x), .int .u8 (ChanR.f x), .int .u8 (ChanR.t x), .int .u8 (ChanR.z x), .int .u8 (ChanR.d x), .int .u16 (ChanR.y x)] 129 (0, 0))) := ⟨by rw [HW2.out]; exact heap_alloc_new _ _⟩
      obtain ⟨e0, e1, e2, e3, e4, e5⟩ := lbox6 HX.out
      obtain ⟨p0, p1, p2, p3, p4⟩ := lbox5 (lup B2.out hb1.out.2)
      have KC := Aside.mk (channel_any W2 x ok (np : Int))
      unfold ChanR.val at KC
      obtain ⟨cb, hcb⟩ : ∃ cb, chB (np : Int) x = cb := ⟨_, rfl⟩
      rw [hcb] at KC HEk
      have HEk := Aside.mk HEk
      clear hl hx ok hcb
      go_upto_region 4 with (fail)
      rw [← HW2.out]
      by_cases h64 : 64 ≤ k
      · have h64' : (64 : Int) ≤ (k : Int) := by omega
        have HN : Aside (scan F Q.length = some (50, (k : Int))) := ⟨scan_some S.out.1 (by rw [HEk.out, if_neg (by simp; omega)]) hkl⟩
        clear d0 d1 d2 d3 d4 d5
        go_wp2_with fail
        refine (fault_any 50 (k : Int) W2).mono ?_
        rintro e w6 ⟨r, rfl, hr, b6⟩
        have HR := Aside.mk (And.intro hr (lthen (lthen hb1.out.1 B2.out) b6))
        clear hr b6
        go_wp2_with fail
        go_ret
        exact ⟨_, rfl, by rw [HN.out]; exact HR.out.1, HR.out.2⟩
      · have h64' : (k : Int) < (64 : Int) := by omega
        have n64 : ¬ (64 : Int) ≤ (k : Int) := by omega
        clear d0 d1 d2 d3 d4 d5
        go_wp2_with fail
        refine KC.out.mono ?_
        rintro e w5 ⟨rfl, b5⟩
        have B5 := Aside.mk (lthen B2.out b5)
        clear b5 e0 e1 e2 e3 e4 e5 p0 p1 p2 p3 p4
        cases cb
        · have HN : Aside (scan F Q.length = some (50, (k : Int))) := ⟨scan_some S.out.1 (by rw [HEk.out, if_neg (by simp)]) hkl⟩
          go_wp2_with fail
          refine (fault_any 50 (k : Int) w5).mono ?_
          rintro e w6 ⟨r, rfl, hr, b6⟩
          have HR := Aside.mk (And.intro hr (lthen (lthen hb1.out.1 B5.out) b6))
          clear hr b6
          go_wp2_with fail
          go_ret
          exact ⟨_, rfl, by rw [HN.out]; exact HR.out.1, HR.out.2⟩
        · have HN : Aside (scan F (k + 1) = none) := ⟨by rw [scan_succ S.out.1, HEk.out, if_pos (by simp; omega)]⟩
          go_wp2_with fail
          go_roundg (Q.length - (k + 1))
          case measure => omega
          case rel => exact ⟨k + 1, by omega, rfl, by go_num, ⟨HN.out, B5.out⟩⟩
    · obtain rfl : k = Q.length := by omega
      clear hkl hk
      go_wp2_with fail
      go_ret
      exact ⟨_, rfl, by rw [S.out.1]; rfl, lthen hb1.out.1 S.out.2⟩
/-! ### Partitions -/
def actsB (x0 x1 x2 : Int) : Nat → Bool
  | 0 => true
  | 1 => decide (x0 ≤ 2)
  | 2 => decide (x0 ≤ 2) && decide (x1 ≤ 2)
  | _ => decide (x0 ≤ 2) && decide (x1 ≤ 2) && decide (x2 ≤ 2)
theorem all_snoc {α : Type} {p : α → Bool} {L : List α} {j : Nat} {x : α} (h : L[j]? = some x) : (L.take (j + 1)).all p = ((L.take j).all p && p x) := by
  rw [take_snoc h, List.all_append]
  simp
set_option maxHeartbeats 3200000 in
set_option maxRecDepth 100000 in
theorem pobject_any (w : World) (sv pv : Value) (x : PartR) (ok : PartAt w sv pv x) :
    Calls Tryd.prog 80 #[.agg #[sv, .int .u8 (PartR.events x), pv, .int .u8 (PartR.a0 x), .int .u8 (PartR.a1 x), .int .u8 (PartR.a2 x)]] w fun e w' => e = .returned (.bool (objectS x)) ∧ Below w.heap.size w w' := by
  obtain ⟨sa, sc, pa, pc, rfl, rfl, hls, hlp⟩ := ok.lens
  have HS := Aside.mk ok.sems
  have HP := Aside.mk ok.procs
  have E : objectS x = ((decide ((PartR.sems x).length ≤ 16) && decide (PartR.events x ≤ 16) && (decide (1 ≤ (PartR.procs x).length) && decide ((PartR.procs x).length ≤ 16))) && (PartR.sems x).all semOk && ((PartR.procs x).all fun p => decide (p ≤ 63)) && (decide (PartR.a0 x ≤ 2) && decide (PartR.a1 x ≤ 2) && decide (PartR.a2 x ≤ 2))) := by
    have e : objectS x = ((decide ((PartR.sems x).length ≤ 16) && decide (PartR.events x ≤ 16) && (decide (1 ≤ (PartR.procs x).length) && decide ((PartR.procs x).length ≤ 16))) && (PartR.sems x).all semOk && ((PartR.procs x).all fun p => decide (p ≤ 63)) && (decide ((PartR.acts x).getD 0 0 ≤ 2) && decide ((PartR.acts x).getD 1 0 ≤ 2) && decide ((PartR.acts x).getD 2 0 ≤ 2))) := by
      unfold objectS sizesOk
      generalize decide ((PartR.sems x).length ≤ 16) = b1
      generalize decide (PartR.events x ≤ 16) = b2
      generalize decide (1 ≤ (PartR.procs x).length) = b3
      generalize decide ((PartR.procs x).length ≤ 16) = b4
      generalize (PartR.sems x).all semOk = b5
      generalize ((PartR.procs x).all fun p => decide (p ≤ 63)) = b6
      generalize decide ((PartR.acts x).getD 0 0 ≤ 2) = b7
      generalize decide ((PartR.acts x).getD 1 0 ≤ 2) = b8
      generalize decide ((PartR.acts x).getD 2 0 ≤ 2) = b9
      revert b1 b2 b3 b4 b5 b6 b7 b8 b9
      decide
    exact e
  rw [E]
  obtain ⟨e0, e1⟩ := ok.ev
  clear E ok
  generalize PartR.events x = ev at *
  generalize PartR.a0 x = x0 at *
  generalize PartR.a1 x = x1 at *
  generalize PartR.a2 x = x2 at *
  generalize PartR.sems x = L at *
  generalize PartR.procs x = M at *
  obtain ⟨wi, hwi⟩ : ∃ wi, (decide (1 ≤ M.length) && decide (M.length ≤ 16)) = wi := ⟨_, rfl⟩
  have KW : Aside (∀ W, Calls Tryd.prog 70 #[.int .i64 (M.length : Int), .int .i64 1, .int .i64 16] W fun e w' => e = .returned (.bool wi) ∧ W = w') := ⟨fun W => by
    have h := within_any (M.length : Int) 1 16 W
    have e : (decide ((1 : Int) ≤ (M.length : Int)) && decide ((M.length : Int) ≤ 16)) = wi := by
      rw [← hwi]
      congr 1 <;> apply decide_eq_decide.2 <;> omega
    rw [e] at h
    exact h⟩
  rw [hwi]
  obtain ⟨b1, hb1⟩ : ∃ b1, (decide (L.length ≤ 16) && decide (ev ≤ 16) && wi) = b1 := ⟨_, rfl⟩
  rw [hb1]
  have HB1 := Aside.mk hb1
  clear hwi hb1
  obtain ⟨W1, HW⟩ : ∃ W1, Aside (W1 = w.alloc (.cells #[.slice sa L.length sc, .int .u8 ev, .slice pa M.length pc, .int .u8 x0, .int .u8 x1, .int .u8 x2] 77)) := ⟨_, ⟨rfl⟩⟩
  have hbw : Aside (Below w.heap.size w W1 ∧ W1.heap[w.heap.size]? = some (.cells #[.slice sa L.length sc, .int .u8 ev, .slice pa M.length pc, .int .u8 x0, .int .u8 x1, .int .u8 x2] 77 (0, 0))) := ⟨by rw [HW.out]; exact ⟨lone _ _, heap_alloc_new _ _⟩⟩
  obtain ⟨p0, p1, p2, p3, p4, p5⟩ := lbox6 hbw.out.2
  go_enter Tryd.func80, Tryd.ntmps80
  go_upto_region 1 with (fail)
  rw [← HW.out]
  go_cut [3] (fun y wc => y = .bool b1 ∧ W1 = wc)
  case first =>
    by_cases h1 : L.length ≤ 16
    · have h1' : (L.length : Int) ≤ 16 := by omega
      by_cases h2 : ev ≤ 16
      · have HB2 : Aside (b1 = wi) := ⟨by rw [← HB1.out]; simp [h1, h2]⟩
        go_wp2_with fail
        refine (KW.out _).mono ?_
        rintro e w5 ⟨rfl, rfl⟩
        go_wp2_with fail
        go_meet
        case rel => exact ⟨by rw [HB2.out], rfl⟩
      · have HB2 : Aside (b1 = false) := ⟨by rw [← HB1.out]; simp [h2]⟩
        go_wp2_with fail
        go_meet
        case rel => exact ⟨by rw [HB2.out], rfl⟩
    · have h1' : ¬ (L.length : Int) ≤ 16 := by omega
      have HB2 : Aside (b1 = false) := ⟨by rw [← HB1.out]; simp [h1]⟩
      go_wp2_with fail
      go_meet
      case rel => exact ⟨by rw [HB2.out], rfl⟩
  case rest =>
    obtain ⟨rfl, rfl⟩ := hcut
    go_wp2_with fail
    clear p0 p1 p2 p3 p4 p5
    go_loopg [3, 27] L.length (fun q s3 i wr => ∃ (k : Nat) (b : Bool), k ≤ L.length ∧ q = L.length - k ∧ i = .int .i64 k ∧ s3 = .bool b ∧ Aside (b = (b1 && (L.take k).all semOk) ∧ Below W1.heap.size W1 wr))
    case atStart => exact ⟨0, b1, by omega, rfl, rfl, rfl, ⟨by simp, Below.refl _ _⟩⟩
    case round =>
      obtain ⟨k, b, hk, rfl, rfl, rfl, S⟩ := hrel
      by_cases hkl : k < L.length
      · have hl := List.getElem?_eq_getElem hkl
        obtain ⟨y, hy⟩ : ∃ y, L[k] = y := ⟨_, rfl⟩
        rw [hy] at hl
        obtain ⟨ad, rfl, d0, d1, oky⟩ := (HS.out.below (lthen hbw.out.1 S.out.2)).at_ k y hl
        have HN : Aside ((b && semOk y) = (b1 && (L.take (k + 1)).all semOk)) := ⟨by rw [all_snoc hl, S.out.1, Bool.and_assoc]⟩
        have HSM : Aside (semOk y = (decide (SemR.m y ≠ 0) && decide (SemR.i y ≤ SemR.m y))) := ⟨rfl⟩
        obtain ⟨m0, m1⟩ := oky.m
        generalize semOk y = so at *
        generalize SemR.m y = m at *
        generalize SemR.i y = i at *
        clear hl hy oky
        cases b
        · have HN2 : Aside (false = (b1 && (L.take (k + 1)).all semOk)) := ⟨by rw [← HN.out]; simp⟩
          go_wp2_with fail
          go_roundg (L.length - (k + 1))
          case measure => omega
          case rel => exact ⟨k + 1, _, by omega, rfl, by go_num, rfl, ⟨HN2.out, lthen S.out.2 (lone _ _)⟩⟩
        · by_cases h1 : 0 < m
          · by_cases h2 : i ≤ m
            · have HN2 : Aside (true = (b1 && (L.take (k + 1)).all semOk)) := ⟨by rw [← HN.out, HSM.out]; simp [h2]; omega⟩
              go_wp2_with fail
              go_roundg (L.length - (k + 1))
              case measure => omega
              case rel => exact ⟨k + 1, _, by omega, rfl, by go_num, rfl, ⟨HN2.out, lthen S.out.2 (lone _ _)⟩⟩
            · have HN2 : Aside (false = (b1 && (L.take (k + 1)).all semOk)) := ⟨by rw [← HN.out, HSM.out]; simp [h2]⟩
              go_wp2_with fail
              go_roundg (L.length - (k + 1))
              case measure => omega
              case rel => exact ⟨k + 1, _, by omega, rfl, by go_num, rfl, ⟨HN2.out, lthen S.out.2 (lone _ _)⟩⟩
          · obtain rfl : m = 0 := by omega
            have HN2 : Aside (false = (b1 && (L.take (k + 1)).all semOk)) := ⟨by rw [← HN.out, HSM.out]; simp⟩
            go_wp2_with fail
            go_roundg (L.length - (k + 1))
            case measure => omega
            case rel => exact ⟨k + 1, _, by omega, rfl, by go_num, rfl, ⟨HN2.out, lthen S.out.2 (lone _ _)⟩⟩
      · obtain rfl : k = L.length := by omega
        have HB2 := S.out.1
        rw [List.take_length] at HB2
        have HB2 := Aside.mk HB2
        have BW := S.out.2
        obtain ⟨p0, p1, p2, p3, p4, p5⟩ := lbox6 (lup BW hbw.out.2)
        have BW := Aside.mk BW
        clear S hkl hk
        go_wp2_with fail
        clear p0 p1 p2 p3 p4 p5
        go_loopg [3, 48] M.length (fun q s3 i wr => ∃ (k : Nat) (d : Bool), k ≤ M.length ∧ q = M.length - k ∧ i = .int .i64 k ∧ s3 = .bool d ∧ Aside (d = (b && (M.take k).all fun p => decide (p ≤ 63)) ∧ Below W1.heap.size W1 wr))
        case atStart => exact ⟨0, b, by omega, rfl, rfl, rfl, ⟨by simp, BW.out⟩⟩
        case round =>
          obtain ⟨k, d, hk, rfl, rfl, rfl, S⟩ := hrel
          by_cases hkl : k < M.length
          · have hl := List.getElem?_eq_getElem hkl
            obtain ⟨y, hy⟩ : ∃ y, M[k] = y := ⟨_, rfl⟩
            rw [hy] at hl
            obtain ⟨ad, rfl, d0, y0, y1⟩ := (HP.out.below (lthen hbw.out.1 S.out.2)).at_ k y hl
            have HN : Aside ((d && decide (y ≤ 63)) = (b && (M.take (k + 1)).all fun p => decide (p ≤ 63))) := ⟨by rw [all_snoc hl, S.out.1, Bool.and_assoc]⟩
            clear hl hy
            cases d
            · have HN2 : Aside (false = (b && (M.take (k + 1)).all fun p => decide (p ≤ 63))) := ⟨by rw [← HN.out]; simp⟩
              go_wp2_with fail
              go_roundg (M.length - (k + 1))
              case measure => omega
              case rel => exact ⟨k + 1, _, by omega, rfl, by go_num, rfl, ⟨HN2.out, S.out.2⟩⟩
            · by_cases h1 : y ≤ 63
              · have HN2 : Aside (true = (b && (M.take (k + 1)).all fun p => decide (p ≤ 63))) := ⟨by rw [← HN.out]; simp [h1]⟩
                go_wp2_with fail
                go_roundg (M.length - (k + 1))
                case measure => omega
                case rel => exact ⟨k + 1, _, by omega, rfl, by go_num, rfl, ⟨HN2.out, S.out.2⟩⟩
              · have HN2 : Aside (false = (b && (M.take (k + 1)).all fun p => decide (p ≤ 63))) := ⟨by rw [← HN.out]; simp [h1]⟩
                go_wp2_with fail
                go_roundg (M.length - (k + 1))
                case measure => omega
                case rel => exact ⟨k + 1, _, by omega, rfl, by go_num, rfl, ⟨HN2.out, S.out.2⟩⟩
          · obtain rfl : k = M.length := by omega
            have HD2 := S.out.1
            rw [List.take_length] at HD2
            have HD2 := Aside.mk HD2
            have BW2 := Aside.mk S.out.2
            obtain ⟨p0, p1, p2, p3, p4, p5⟩ := lbox6 (lup S.out.2 hbw.out.2)
            clear S hkl hk
            go_wp2_with fail
            go_loopg [3, 58] 3 (fun q s3 i wq => ∃ (k : Nat) (f : Bool), k ≤ 3 ∧ q = 3 - k ∧ i = .int .i64 k ∧ s3 = .bool f ∧ wr = wq ∧ Aside (f = (d && actsB x0 x1 x2 k)))
            case atStart => exact ⟨0, d, by omega, rfl, rfl, rfl, rfl, ⟨by simp [actsB]⟩⟩
            case round =>
              obtain ⟨k, f, hk, rfl, rfl, rfl, rfl, hf⟩ := hrel
              rcases k with _ | _ | _ | k
              case zero => 
                have HN : Aside ((f && decide (x0 ≤ 2)) = (d && actsB x0 x1 x2 1)) := ⟨by rw [hf.out]; simp [actsB, Bool.and_assoc]⟩
                clear hf
                cases f
                · have HN2 : Aside (false = (d && actsB x0 x1 x2 1)) := ⟨by rw [← HN.out]; simp⟩
                  go_wp2_with fail
                  go_roundg (3 - 1)
                  case measure => omega
                  case rel => exact ⟨1, _, by omega, rfl, rfl, rfl, rfl, ⟨HN2.out⟩⟩
                · by_cases h1 : x0 ≤ 2
                  · have HN2 : Aside (true = (d && actsB x0 x1 x2 1)) := ⟨by rw [← HN.out]; simp [h1]⟩
                    go_wp2_with fail
                    go_roundg (3 - 1)
                    case measure => omega
                    case rel => exact ⟨1, _, by omega, rfl, rfl, rfl, rfl, ⟨HN2.out⟩⟩
                  · have HN2 : Aside (false = (d && actsB x0 x1 x2 1)) := ⟨by rw [← HN.out]; simp [h1]⟩
                    go_wp2_with fail
                    go_roundg (3 - 1)
                    case measure => omega
                    case rel => exact ⟨1, _, by omega, rfl, rfl, rfl, rfl, ⟨HN2.out⟩⟩
              case succ.zero => 
                have HN : Aside ((f && decide (x1 ≤ 2)) = (d && actsB x0 x1 x2 2)) := ⟨by rw [hf.out]; simp [actsB, Bool.and_assoc]⟩
                clear hf
                cases f
                · have HN2 : Aside (false = (d && actsB x0 x1 x2 2)) := ⟨by rw [← HN.out]; simp⟩
                  go_wp2_with fail
                  go_roundg (3 - 2)
                  case measure => omega
                  case rel => exact ⟨2, _, by omega, rfl, rfl, rfl, rfl, ⟨HN2.out⟩⟩
                · by_cases h1 : x1 ≤ 2
                  · have HN2 : Aside (true = (d && actsB x0 x1 x2 2)) := ⟨by rw [← HN.out]; simp [h1]⟩
                    go_wp2_with fail
                    go_roundg (3 - 2)
                    case measure => omega
                    case rel => exact ⟨2, _, by omega, rfl, rfl, rfl, rfl, ⟨HN2.out⟩⟩
                  · have HN2 : Aside (false = (d && actsB x0 x1 x2 2)) := ⟨by rw [← HN.out]; simp [h1]⟩
                    go_wp2_with fail
                    go_roundg (3 - 2)
                    case measure => omega
                    case rel => exact ⟨2, _, by omega, rfl, rfl, rfl, rfl, ⟨HN2.out⟩⟩
              case succ.succ.zero => 
                have HN : Aside ((f && decide (x2 ≤ 2)) = (d && actsB x0 x1 x2 3)) := ⟨by rw [hf.out]; simp [actsB, Bool.and_assoc]⟩
                clear hf
                cases f
                · have HN2 : Aside (false = (d && actsB x0 x1 x2 3)) := ⟨by rw [← HN.out]; simp⟩
                  go_wp2_with fail
                  go_roundg (3 - 3)
                  case measure => omega
                  case rel => exact ⟨3, _, by omega, rfl, rfl, rfl, rfl, ⟨HN2.out⟩⟩
                · by_cases h1 : x2 ≤ 2
                  · have HN2 : Aside (true = (d && actsB x0 x1 x2 3)) := ⟨by rw [← HN.out]; simp [h1]⟩
                    go_wp2_with fail
                    go_roundg (3 - 3)
                    case measure => omega
                    case rel => exact ⟨3, _, by omega, rfl, rfl, rfl, rfl, ⟨HN2.out⟩⟩
                  · have HN2 : Aside (false = (d && actsB x0 x1 x2 3)) := ⟨by rw [← HN.out]; simp [h1]⟩
                    go_wp2_with fail
                    go_roundg (3 - 3)
                    case measure => omega
                    case rel => exact ⟨3, _, by omega, rfl, rfl, rfl, rfl, ⟨HN2.out⟩⟩
              case succ.succ.succ =>
                obtain rfl : k = 0 := by omega
                go_wp2_with fail
                go_ret
                exact ⟨by rw [hf.out, HD2.out, HB2.out]; rfl, lthen hbw.out.1 BW2.out⟩
end Go.Proofs.YtidjkhmlpgkaaaaDoor

namespace Go.Proofs.YtidjkhmlpgkaaaaDoor
open Go.RowKit
set_option linter.unusedVariables false
set_option linter.unusedSimpArgs false

set_option maxHeartbeats 3200000 in
set_option maxRecDepth 100000 in
theorem objects_any (w : World) (v : Value) (P : Plan) (hv : PlanV w v P) :
    Calls Tryd.prog 61 #[v] w (ErrR w (scan (partF (Plan.parts P)) (Plan.parts P).length)) := by
  obtain ⟨a0, n0, c0, a1, n1, c1, a2, n2, c2, a3, n3, c3, rfl, hp⟩ := hv
  obtain ⟨_, _, q, hlen1⟩ := Elems.len hp.parts
  obtain ⟨rfl, rfl, rfl⟩ : a1 = _ ∧ n1 = _ ∧ c1 = _ := by injection q with q1 q2 q3; exact ⟨q1, q2, q3⟩
  clear q
  have HQ := Aside.mk hp.parts
  have HE : Aside (∀ (i : Nat) (x : PartR), (Plan.parts P)[i]? = some x → partF (Plan.parts P) i = if objectS x = true then none else some (51, (i : Int))) := ⟨fun i x h => by rw [partF, ptAt_some h]⟩
  generalize Plan.frame P = fr at *
  generalize Plan.parts P = Q at *
  generalize partF Q = F at *
  obtain ⟨W1, HW⟩ : ∃ W1, Aside (W1 = w.alloc (.cells #[.int .u16 fr, .slice a0 n0 c0, .slice a1 Q.length c1, .slice a2 n2 c2, .slice a3 n3 c3] 28)) := ⟨_, ⟨rfl⟩⟩
  have hb1 : Aside (Below w.heap.size w W1 ∧ W1.heap[w.heap.size]? = some (.cells #[.int .u16 fr, .slice a0 n0 c0, .slice a1 Q.length c1, .slice a2 n2 c2, .slice a3 n3 c3] 28 (0, 0))) := ⟨by rw [HW.out]; exact ⟨lone _ _, heap_alloc_new _ _⟩⟩
  obtain ⟨p0, p1, p2, p3, p4⟩ := lbox5 hb1.out.2
  clear hp
  go_enter Tryd.func61, Tryd.ntmps61
  go_upto_region 1 with (fail)
  rw [← HW.out]
  go_wp2_with fail
  clear p0 p1 p2 p3 p4
  go_loopg [8] Q.length (fun q i wr => ∃ k : Nat, k ≤ Q.length ∧ q = Q.length - k ∧ i = .int .i64 k ∧ Aside (scan F k = none ∧ Below W1.heap.size W1 wr))
  case atStart => exact ⟨0, by omega, rfl, rfl, ⟨rfl, Below.refl _ _⟩⟩
  case round =>
    obtain ⟨k, hk, rfl, rfl, S⟩ := hrel
    by_cases hkl : k < Q.length
    · have hl := List.getElem?_eq_getElem hkl
      obtain ⟨x, hx⟩ : ∃ x, Q[k] = x := ⟨_, rfl⟩
      rw [hx] at hl
      have B0 := Aside.mk (lthen hb1.out.1 S.out.2)
      obtain ⟨ad, sv, pv, rfl, d0, d1, d2, d3, d4, d5, ok⟩ := Parts.at_ (elems_below HQ.out B0.out) k x hl
      obtain ⟨sa, sc, pa, pc, es, ep, _, _⟩ := ok.lens
      have HEk := HE.out k x hl
      obtain ⟨W2, HW2⟩ : ∃ W2, Aside (W2 = wr.alloc (.cells #[sv, .int .u8 (PartR.events x), pv, .int .u8 (PartR.a0 x), .int .u8 (PartR.a1 x), .int .u8 (PartR.a2 x)] 77)) := ⟨_, ⟨rfl⟩⟩
      have B2 : Aside (Below W1.heap.size W1 W2) := ⟨by rw [HW2.out]; exact lthen S.out.2 (lone _ _)⟩
      have HX : Aside (W2.heap[wr.heap.size]? = some (.cells #[sv, .int .u8 (PartR.events x), pv, .int .u8 (PartR.a0 x), .int .u8 (PartR.a1 x), .int .u8 (PartR.a2 x)] 77 (0, 0))) := ⟨by rw [HW2.out]; exact heap_alloc_new _ _⟩
      have KC := Aside.mk (pobject_any W2 sv pv x (ok.below (by rw [HW2.out]; exact lone _ _)))
      subst es ep
      obtain ⟨e0, e1, e2, e3, e4, e5⟩ := lbox6 HX.out
      obtain ⟨cb, hcb⟩ : ∃ cb, objectS x = cb := ⟨_, rfl⟩
      rw [hcb] at KC HEk
      have HEk := Aside.mk HEk
      clear hl hx ok hcb
      go_upto_region 4 with (fail)
      rw [← HW2.out]
      clear d0 d1 d2 d3 d4 d5
      go_wp2_with fail
      refine KC.out.mono ?_
      rintro e w5 ⟨rfl, b5⟩
      have B5 := Aside.mk (lthen B2.out b5)
      clear b5 e0 e1 e2 e3 e4 e5
      cases cb
      · have HN : Aside (scan F Q.length = some (51, (k : Int))) := ⟨scan_some S.out.1 (by rw [HEk.out, if_neg (by simp)]) hkl⟩
        go_wp2_with fail
        refine (fault_any 51 (k : Int) w5).mono ?_
        rintro e w6 ⟨r, rfl, hr, b6⟩
        have HR := Aside.mk (And.intro hr (lthen (lthen hb1.out.1 B5.out) b6))
        clear hr b6
        go_wp2_with fail
        go_ret
        exact ⟨_, rfl, by rw [HN.out]; exact HR.out.1, HR.out.2⟩
      · have HN : Aside (scan F (k + 1) = none) := ⟨by rw [scan_succ S.out.1, HEk.out, if_pos rfl]⟩
        go_wp2_with fail
        go_roundg (Q.length - (k + 1))
        case measure => omega
        case rel => exact ⟨k + 1, by omega, rfl, by go_num, ⟨HN.out, B5.out⟩⟩
    · obtain rfl : k = Q.length := by omega
      clear hkl hk
      go_wp2_with fail
      go_ret
      exact ⟨_, rfl, by rw [S.out.1]; rfl, lthen hb1.out.1 S.out.2⟩
set_option maxHeartbeats 3200000 in
set_option maxRecDepth 100000 in
theorem sizes_any (w : World) (v : Value) (P : Plan) (hv : PlanV w v P) : Calls Tryd.prog 56 #[v] w (ErrR w (sizesO P)) := by
  obtain ⟨a0, n0, c0, a1, n1, c1, a2, n2, c2, a3, n3, c3, rfl, hp⟩ := hv
  obtain ⟨_, _, q, hlen⟩ := hp.cores.len
  obtain ⟨rfl, rfl, rfl⟩ : a0 = _ ∧ n0 = _ ∧ c0 = _ := by injection q with q1 q2 q3; exact ⟨q1, q2, q3⟩
  clear q
  obtain ⟨_, _, q, hlen1⟩ := Elems.len hp.parts
  obtain ⟨rfl, rfl, rfl⟩ : a1 = _ ∧ n1 = _ ∧ c1 = _ := by injection q with q1 q2 q3; exact ⟨q1, q2, q3⟩
  clear q
  have HC := Aside.mk hp.cores
  have HS : Aside (sizesO P = if Plan.frame P = 0 then some (40, 0) else if (Plan.cores P).length < 1 ∨ 8 < (Plan.cores P).length then some (41, ((Plan.cores P).length : Int)) else if (Plan.parts P).length < 1 ∨ 64 < (Plan.parts P).length then some (42, ((Plan.parts P).length : Int)) else scan (manyF (Plan.cores P)) (Plan.cores P).length) := ⟨rfl⟩
  generalize sizesO P = so at *
  generalize Plan.frame P = fr at *
  generalize Plan.cores P = C at *
  obtain ⟨np, hnp⟩ : ∃ np, (Plan.parts P).length = np := ⟨_, rfl⟩
  rw [hnp] at hlen1 HS ⊢
  obtain ⟨W1, HW⟩ : ∃ W1, Aside (W1 = w.alloc (.cells #[.int .u16 fr, .slice a0 C.length c0, .slice a1 np c1, .slice a2 n2 c2, .slice a3 n3 c3] 28)) := ⟨_, ⟨rfl⟩⟩
  have hb1 : Aside (Below w.heap.size w W1 ∧ W1.heap[w.heap.size]? = some (.cells #[.int .u16 fr, .slice a0 C.length c0, .slice a1 np c1, .slice a2 n2 c2, .slice a3 n3 c3] 28 (0, 0))) := ⟨by rw [HW.out]; exact ⟨lone _ _, heap_alloc_new _ _⟩⟩
  obtain ⟨p0, p1, p2, p3, p4⟩ := lbox5 hb1.out.2
  have KW1 : Aside (∀ W, Calls Tryd.prog 70 #[.int .i64 (C.length : Int), .int .i64 1, .int .i64 8] W fun e w' => e = .returned (.bool (!decide (C.length < 1 ∨ 8 < C.length))) ∧ W = w') := ⟨fun W => by
    have h := within_any (C.length : Int) 1 8 W
    have e : (decide ((1 : Int) ≤ (C.length : Int)) && decide ((C.length : Int) ≤ 8)) = !decide (C.length < 1 ∨ 8 < C.length) := by
      rw [Bool.eq_iff_iff]; simp only [Bool.and_eq_true, Bool.not_eq_true', decide_eq_true_eq, decide_eq_false_iff_not]; omega
    rw [e] at h
    exact h⟩
  have KW2 : Aside (∀ W, Calls Tryd.prog 70 #[.int .i64 (np : Int), .int .i64 1, .int .i64 64] W fun e w' => e = .returned (.bool (!decide (np < 1 ∨ 64 < np))) ∧ W = w') := ⟨fun W => by
    have h := within_any (np : Int) 1 64 W
    have e : (decide ((1 : Int) ≤ (np : Int)) && decide ((np : Int) ≤ 64)) = !decide (np < 1 ∨ 64 < np) := by
      rw [Bool.eq_iff_iff]; simp only [Bool.and_eq_true, Bool.not_eq_true', decide_eq_true_eq, decide_eq_false_iff_not]; omega
    rw [e] at h
    exact h⟩
  clear hp hnp
  by_cases h1 : fr = 0
  · have HV := Aside.mk (HS.out.trans (if_pos h1))
    subst h1
    go_enter Tryd.func56, Tryd.ntmps56
    go_upto_region 1 with (fail)
    rw [← HW.out]
    go_wp2_with fail
    refine (fault_any 40 0 W1).mono ?_
    rintro e w6 ⟨r, rfl, hr, b6⟩
    have HR := Aside.mk (And.intro hr (lthen hb1.out.1 b6))
    clear hr b6
    go_wp2_with fail
    go_ret
    exact ⟨_, rfl, by rw [HV.out]; exact HR.out.1, HR.out.2⟩
  · have n1 : (fr == 0) = false := beq_eq_false_iff_ne.2 h1
    have HS2 := Aside.mk (HS.out.trans (if_neg h1))
    clear h1
    obtain ⟨b1, hb⟩ : ∃ b1, decide (C.length < 1 ∨ 8 < C.length) = b1 := ⟨_, rfl⟩
    rw [hb] at KW1
    cases b1
    · have HC8 : C.length ≤ 8 := by have := of_decide_eq_false hb; omega
      have HS3 := Aside.mk (HS2.out.trans (if_neg (of_decide_eq_false hb)))
      clear hb
      obtain ⟨b2, hb⟩ : ∃ b2, decide (np < 1 ∨ 64 < np) = b2 := ⟨_, rfl⟩
      rw [hb] at KW2
      cases b2
      · have HS4 := Aside.mk (HS3.out.trans (if_neg (of_decide_eq_false hb)))
        clear hb
        go_enter Tryd.func56, Tryd.ntmps56
        go_upto_region 1 with (fail)
        rw [← HW.out]
        go_wp2_with fail
        refine (KW1.out _).mono ?_
        rintro e w5 ⟨rfl, rfl⟩
        go_wp2_with fail
        refine (KW2.out _).mono ?_
        rintro e w5 ⟨rfl, rfl⟩
        go_wp2_with fail
        clear p0 p1 p2 p3 p4
        go_loopg [33] C.length (fun q i wr => ∃ k : Nat, k ≤ C.length ∧ q = C.length - k ∧ i = .int .i64 k ∧ W1 = wr ∧ Aside (scan (manyF C) k = none))
        case atStart => exact ⟨0, by omega, rfl, rfl, rfl, ⟨rfl⟩⟩
        case round =>
          obtain ⟨k, hk, rfl, rfl, rfl, S⟩ := hrel
          by_cases hkl : k < C.length
          · have hl := List.getElem?_eq_getElem hkl
            obtain ⟨L, hL⟩ : ∃ L, C[k] = L := ⟨_, rfl⟩
            rw [hL] at hl
            obtain ⟨ad, lv, rfl, hlv, hwins⟩ := (HC.out.below hb1.out.1).at_ k L hl
            obtain ⟨la, lc, rfl, hlL⟩ := hwins.len
            have HM : Aside (manyF C k = if 256 < L.length then some (43, (k : Int)) else none) := ⟨by rw [manyF, List.getD_eq_getElem?_getD, hl]; rfl⟩
            clear hl hL hwins
            by_cases h256 : 256 < L.length
            · have h256' : (256 : Int) < (L.length : Int) := by omega
              have HN : Aside (so = some (43, (k : Int))) := ⟨by rw [HS4.out]; exact scan_some S.out (by rw [HM.out, if_pos h256]) hkl⟩
              go_wp2_with fail
              refine (fault_any 43 (k : Int) W1).mono ?_
              rintro e w6 ⟨r, rfl, hr, b6⟩
              have HR := Aside.mk (And.intro hr (lthen hb1.out.1 b6))
              clear hr b6
              go_wp2_with fail
              go_ret
              exact ⟨_, rfl, by rw [HN.out]; exact HR.out.1, HR.out.2⟩
            · have h256' : ¬ (256 : Int) < (L.length : Int) := by omega
              have HN : Aside (scan (manyF C) (k + 1) = none) := ⟨by rw [scan_succ S.out, HM.out, if_neg h256]⟩
              go_wp2_with fail
              go_roundg (C.length - (k + 1))
              case measure => omega
              case rel => exact ⟨k + 1, by omega, rfl, by go_num, rfl, HN⟩
          · obtain rfl : k = C.length := by omega
            clear hkl hk
            go_wp2_with fail
            go_ret
            exact ⟨_, rfl, by rw [HS4.out, S.out]; rfl, hb1.out.1⟩
      · have HV := Aside.mk (HS3.out.trans (if_pos (of_decide_eq_true hb)))
        clear hb
        go_enter Tryd.func56, Tryd.ntmps56
        go_upto_region 1 with (fail)
        rw [← HW.out]
        go_wp2_with fail
        refine (KW1.out _).mono ?_
        rintro e w5 ⟨rfl, rfl⟩
        go_wp2_with fail
        refine (KW2.out _).mono ?_
        rintro e w5 ⟨rfl, rfl⟩
        go_wp2_with fail
        refine (fault_any 42 (np : Int) W1).mono ?_
        rintro e w6 ⟨r, rfl, hr, b6⟩
        have HR := Aside.mk (And.intro hr (lthen hb1.out.1 b6))
        clear hr b6
        go_wp2_with fail
        go_ret
        exact ⟨_, rfl, by rw [HV.out]; exact HR.out.1, HR.out.2⟩
    · have HV := Aside.mk (HS2.out.trans (if_pos (of_decide_eq_true hb)))
      clear hb
      go_enter Tryd.func56, Tryd.ntmps56
      go_upto_region 1 with (fail)
      rw [← HW.out]
      go_wp2_with fail
      refine (KW1.out _).mono ?_
      rintro e w5 ⟨rfl, rfl⟩
      go_wp2_with fail
      refine (fault_any 41 (C.length : Int) W1).mono ?_
      rintro e w6 ⟨r, rfl, hr, b6⟩
      have HR := Aside.mk (And.intro hr (lthen hb1.out.1 b6))
      clear hr b6
      go_wp2_with fail
      go_ret
      exact ⟨_, rfl, by rw [HV.out]; exact HR.out.1, HR.out.2⟩
end Go.Proofs.YtidjkhmlpgkaaaaDoor

namespace Go.Proofs.YtidjkhmlpgkaaaaDoor
open Go.RowKit
set_option linter.unusedVariables false
set_option linter.unusedSimpArgs false

theorem wins_ok {w : World} {v : Value} {L : List Win} (h : Wins w v L) : ∀ x ∈ L, Win.Ok x := by
  intro x hx
  obtain ⟨i, hi, rfl⟩ := List.getElem_of_mem hx
  obtain ⟨a, c, rfl, _⟩ := h.len
  exact (h.at_ i _ (List.getElem?_eq_getElem hi)).choose_spec.2.2.2.2.2
theorem plan_ok {w : World} {v : Value} {P : Plan} (h : PlanV w v P) : ∀ L ∈ Plan.cores P, ∀ x ∈ L, Win.Ok x := by
  intro L hL
  obtain ⟨c, hc, rfl⟩ := List.getElem_of_mem hL
  obtain ⟨a0, n0, c0, a1, n1, c1, a2, n2, c2, a3, n3, c3, rfl, hp⟩ := h
  obtain ⟨_, lv, _, _, hw⟩ := hp.cores.at_ c _ (List.getElem?_eq_getElem hc)
  exact wins_ok hw
theorem errF_cases {w : World} {q : Option Flt} {v : Value} (h : ErrF w q v) : (q = none ∧ v = .nilIface) ∨ (q ≠ none ∧ ∃ f, v = .iface 157 (.pointer (some ⟨f, 0, none⟩))) := by
  cases q with
  | none => exact .inl ⟨rfl, h⟩
  | some x => obtain ⟨f, hf, _⟩ := h; exact .inr ⟨by simp, f, hf⟩
theorem callFunc_s1 (args : Array Value) (w : World) : (callFunc 56 args).run Tryd.prog w = .ok (.enter 56 args) w := by kernel_rfl
theorem callFunc_s2 (args : Array Value) (w : World) : (callFunc 57 args).run Tryd.prog w = .ok (.enter 57 args) w := by kernel_rfl
theorem callFunc_s3 (args : Array Value) (w : World) : (callFunc 58 args).run Tryd.prog w = .ok (.enter 58 args) w := by kernel_rfl
theorem callFunc_s4 (args : Array Value) (w : World) : (callFunc 59 args).run Tryd.prog w = .ok (.enter 59 args) w := by kernel_rfl
theorem callFunc_s5 (args : Array Value) (w : World) : (callFunc 60 args).run Tryd.prog w = .ok (.enter 60 args) w := by kernel_rfl
theorem callFunc_s6 (args : Array Value) (w : World) : (callFunc 61 args).run Tryd.prog w = .ok (.enter 61 args) w := by kernel_rfl
theorem look0 (W : World) : (Instr.index 131 (.agg #[.func (.func 56) #[] #[], .func (.func 57) #[] #[], .func (.func 58) #[] #[], .func (.func 59) #[] #[], .func (.func 60) #[] #[], .func (.func 61) #[] #[]]) (.int .i64 0)).run Tryd.prog W = .ok (.func (.func 56) #[] #[]) W := by kernel_rfl
theorem look1 (W : World) : (Instr.index 131 (.agg #[.func (.func 56) #[] #[], .func (.func 57) #[] #[], .func (.func 58) #[] #[], .func (.func 59) #[] #[], .func (.func 60) #[] #[], .func (.func 61) #[] #[]]) (.int .i64 1)).run Tryd.prog W = .ok (.func (.func 57) #[] #[]) W := by kernel_rfl
theorem look2 (W : World) : (Instr.index 131 (.agg #[.func (.func 56) #[] #[], .func (.func 57) #[] #[], .func (.func 58) #[] #[], .func (.func 59) #[] #[], .func (.func 60) #[] #[], .func (.func 61) #[] #[]]) (.int .i64 2)).run Tryd.prog W = .ok (.func (.func 58) #[] #[]) W := by kernel_rfl
theorem look3 (W : World) : (Instr.index 131 (.agg #[.func (.func 56) #[] #[], .func (.func 57) #[] #[], .func (.func 58) #[] #[], .func (.func 59) #[] #[], .func (.func 60) #[] #[], .func (.func 61) #[] #[]]) (.int .i64 3)).run Tryd.prog W = .ok (.func (.func 59) #[] #[]) W := by kernel_rfl
theorem look4 (W : World) : (Instr.index 131 (.agg #[.func (.func 56) #[] #[], .func (.func 57) #[] #[], .func (.func 58) #[] #[], .func (.func 59) #[] #[], .func (.func 60) #[] #[], .func (.func 61) #[] #[]]) (.int .i64 4)).run Tryd.prog W = .ok (.func (.func 60) #[] #[]) W := by kernel_rfl
theorem look5 (W : World) : (Instr.index 131 (.agg #[.func (.func 56) #[] #[], .func (.func 57) #[] #[], .func (.func 58) #[] #[], .func (.func 59) #[] #[], .func (.func 60) #[] #[], .func (.func 61) #[] #[]]) (.int .i64 5)).run Tryd.prog W = .ok (.func (.func 61) #[] #[]) W := by kernel_rfl
theorem orElse_pos {a : Option Flt} (h : a ≠ none) (b : Option Flt) : orElseF a b = a := by
  cases a with
  | none => exact absurd rfl h
  | some x => rfl
set_option maxHeartbeats 6400000 in
set_option maxRecDepth 100000 in
theorem pcheck_any (w : World) (v : Value) (P : Plan) (hv : PlanV w v P) : Calls Tryd.prog 36 #[v] w (ErrR w (checkO P)) := by
  have hv0 := hv
  have hok := plan_ok hv
  have CS := Aside.mk (check_split P (fun L hL x hx => (hok L hL x hx).s.1))
  obtain ⟨a0, n0, c0, a1, n1, c1, a2, n2, c2, a3, n3, c3, rfl, hp⟩ := hv
  have K1 := Aside.mk (fun W (h : Below w.heap.size w W) => sizes_any W _ P (hv0.below h))
  have K2 := Aside.mk (fun W (h : Below w.heap.size w W) (hs : sizesO P = none) => windows_any W _ P (hv0.below h) (sizes_none hs).1 (sizes_none hs).2.2)
  have K3 := Aside.mk (fun W (h : Below w.heap.size w W) (hs : sizesO P = none) => pairs_any W _ P (hv0.below h) (sizes_none hs).1 (sizes_none hs).2.2)
  have K4 := Aside.mk (fun W (h : Below w.heap.size w W) (hs : sizesO P = none) => excluded_any W _ P (hv0.below h) (sizes_none hs).1 (sizes_none hs).2.2)
  have K5 := Aside.mk (fun W (h : Below w.heap.size w W) => channels_any W _ P (hv0.below h))
  have K6 := Aside.mk (fun W (h : Below w.heap.size w W) => objects_any W _ P (hv0.below h))
  generalize checkO P = co at *
  generalize sizesO P = q1 at *
  generalize eachF (windowsN (Plan.frame P) ((Plan.parts P).length : Int) (Plan.cores P)) (Plan.cores P) = q2 at *
  generalize eachF (pairsN (Plan.cores P)) (Plan.cores P) = q3 at *
  generalize scan (pairF ((Plan.parts P).length : Int) (allS (Plan.cores P)) (Plan.pairs P)) (Plan.pairs P).length = q4 at *
  generalize scan (chanF ((Plan.parts P).length : Int) (Plan.chans P)) (Plan.chans P).length = q5 at *
  generalize scan (partF (Plan.parts P)) (Plan.parts P).length = q6 at *
  generalize Plan.frame P = fr at *
  obtain ⟨W1, HW⟩ : ∃ W1, Aside (W1 = w.alloc (.cells #[.int .u16 fr, .slice a0 n0 c0, .slice a1 n1 c1, .slice a2 n2 c2, .slice a3 n3 c3] 28)) := ⟨_, ⟨rfl⟩⟩
  have hb1 : Aside (Below w.heap.size w W1 ∧ W1.heap[w.heap.size]? = some (.cells #[.int .u16 fr, .slice a0 n0 c0, .slice a1 n1 c1, .slice a2 n2 c2, .slice a3 n3 c3] 28 (0, 0))) := ⟨by rw [HW.out]; exact ⟨lone _ _, heap_alloc_new _ _⟩⟩
  obtain ⟨p0, p1, p2, p3, p4⟩ := lbox5 hb1.out.2
  have h1 := callFunc_s1
  have h2 := callFunc_s2
  have h3 := callFunc_s3
  have h4 := callFunc_s4
  have h5 := callFunc_s5
  have h6 := callFunc_s6
  have l0 := look0
  have l1 := look1
  have l2 := look2
  have l3 := look3
  have l4 := look4
  have l5 := look5
  clear hp hv0 hok
  go_enter Tryd.func36, Tryd.ntmps36
  go_upto_region 1 with (fail)
  rw [← HW.out]
  go_wp2_with fail
  refine wp_loop_rounds 7 ?_
  rw [rounds_succ]
  go_wp2_with fail
  refine (K1.out _ hb1.out.1).mono ?_
  rintro e w2 ⟨r, rfl, hr, b⟩
  have B2 := Aside.mk b
  clear b p0 p1 p2 p3 p4
  rcases errF_cases hr with ⟨e1, rfl⟩ | ⟨e1, f, rfl⟩
  rotate_left
  · have HV : Aside (co = q1) := ⟨by rw [CS.out, orElse_pos e1]⟩
    have HR := Aside.mk hr
    clear hr e1
    go_wp2_with fail
    go_ret
    exact ⟨_, rfl, by rw [HV.out]; exact HR.out, lthen hb1.out.1 B2.out⟩
  have CS2 : Aside (co = orElseF q2 (orElseF q3 (orElseF q4 (orElseF q5 q6)))) := ⟨by rw [CS.out, e1]; rfl⟩
  have hs1 := Aside.mk e1
  clear hr e1
  obtain ⟨p0, p1, p2, p3, p4⟩ := lbox5 (lup B2.out hb1.out.2)
  go_wp2_with fail
  rw [rounds_succ]
  go_wp2_with fail
  refine (K2.out _ (lthen hb1.out.1 B2.out) (hs1.out)).mono ?_
  rintro e w3 ⟨r, rfl, hr, b⟩
  have B3 := Aside.mk (lthen B2.out b)
  clear b p0 p1 p2 p3 p4
  rcases errF_cases hr with ⟨e1, rfl⟩ | ⟨e1, f, rfl⟩
  rotate_left
  · have HV : Aside (co = q2) := ⟨by rw [CS2.out, orElse_pos e1]⟩
    have HR := Aside.mk hr
    clear hr e1
    go_wp2_with fail
    go_ret
    exact ⟨_, rfl, by rw [HV.out]; exact HR.out, lthen hb1.out.1 B3.out⟩
  have CS3 : Aside (co = orElseF q3 (orElseF q4 (orElseF q5 q6))) := ⟨by rw [CS2.out, e1]; rfl⟩
  clear hr e1
  obtain ⟨p0, p1, p2, p3, p4⟩ := lbox5 (lup B3.out hb1.out.2)
  go_wp2_with fail
  rw [rounds_succ]
  go_wp2_with fail
  refine (K3.out _ (lthen hb1.out.1 B3.out) (hs1.out)).mono ?_
  rintro e w4 ⟨r, rfl, hr, b⟩
  have B4 := Aside.mk (lthen B3.out b)
  clear b p0 p1 p2 p3 p4
  rcases errF_cases hr with ⟨e1, rfl⟩ | ⟨e1, f, rfl⟩
  rotate_left
  · have HV : Aside (co = q3) := ⟨by rw [CS3.out, orElse_pos e1]⟩
    have HR := Aside.mk hr
    clear hr e1
    go_wp2_with fail
    go_ret
    exact ⟨_, rfl, by rw [HV.out]; exact HR.out, lthen hb1.out.1 B4.out⟩
  have CS4 : Aside (co = orElseF q4 (orElseF q5 q6)) := ⟨by rw [CS3.out, e1]; rfl⟩
  clear hr e1
  obtain ⟨p0, p1, p2, p3, p4⟩ := lbox5 (lup B4.out hb1.out.2)
  go_wp2_with fail
  rw [rounds_succ]
  go_wp2_with fail
  refine (K4.out _ (lthen hb1.out.1 B4.out) (hs1.out)).mono ?_
  rintro e w5 ⟨r, rfl, hr, b⟩
  have B5 := Aside.mk (lthen B4.out b)
  clear b p0 p1 p2 p3 p4
  rcases errF_cases hr with ⟨e1, rfl⟩ | ⟨e1, f, rfl⟩
  rotate_left
  · have HV : Aside (co = q4) := ⟨by rw [CS4.out, orElse_pos e1]⟩
    have HR := Aside.mk hr
    clear hr e1
    go_wp2_with fail
    go_ret
    exact ⟨_, rfl, by rw [HV.out]; exact HR.out, lthen hb1.out.1 B5.out⟩
  have CS5 : Aside (co = orElseF q5 q6) := ⟨by rw [CS4.out, e1]; rfl⟩
  clear hr e1
  obtain ⟨p0, p1, p2, p3, p4⟩ := lbox5 (lup B5.out hb1.out.2)
  go_wp2_with fail
  rw [rounds_succ]
  go_wp2_with fail
  refine (K5.out _ (lthen hb1.out.1 B5.out)).mono ?_
  rintro e w6 ⟨r, rfl, hr, b⟩
  have B6 := Aside.mk (lthen B5.out b)
  clear b p0 p1 p2 p3 p4
  rcases errF_cases hr with ⟨e1, rfl⟩ | ⟨e1, f, rfl⟩
  rotate_left
  · have HV : Aside (co = q5) := ⟨by rw [CS5.out, orElse_pos e1]⟩
    have HR := Aside.mk hr
    clear hr e1
    go_wp2_with fail
    go_ret
    exact ⟨_, rfl, by rw [HV.out]; exact HR.out, lthen hb1.out.1 B6.out⟩
  have CS6 : Aside (co = q6) := ⟨by rw [CS5.out, e1]; rfl⟩
  clear hr e1
  obtain ⟨p0, p1, p2, p3, p4⟩ := lbox5 (lup B6.out hb1.out.2)
  go_wp2_with fail
  rw [rounds_succ]
  go_wp2_with fail
  refine (K6.out _ (lthen hb1.out.1 B6.out)).mono ?_
  rintro e w7 ⟨r, rfl, hr, b⟩
  have B7 := Aside.mk (lthen B6.out b)
  clear b p0 p1 p2 p3 p4
  rcases errF_cases hr with ⟨e1, rfl⟩ | ⟨e1, f, rfl⟩
  rotate_left
  · have HR := Aside.mk hr
    clear hr e1
    go_wp2_with fail
    go_ret
    exact ⟨_, rfl, by rw [CS6.out]; exact HR.out, lthen hb1.out.1 B7.out⟩
  have HV : Aside (co = none) := ⟨by rw [CS6.out, e1]⟩
  clear hr e1
  go_wp2_with fail
  rw [rounds_succ]
  go_wp2_with fail
  go_ret
  exact ⟨_, rfl, by rw [HV.out]; rfl, lthen hb1.out.1 B7.out⟩
end Go.Proofs.YtidjkhmlpgkaaaaDoor
