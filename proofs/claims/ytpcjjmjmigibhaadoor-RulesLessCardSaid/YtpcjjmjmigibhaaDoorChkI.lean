/- The program's rules: channels, a partition's objects. -/
import Derived.Test.YtpcjjmjmigibhaaDoorChkH
namespace Go.Proofs.YtpcjjmjmigibhaaDoor
open Go.RowKit
set_option linter.unusedVariables false
set_option linter.unusedSimpArgs false

set_option maxHeartbeats 3200000 in
set_option maxRecDepth 100000 in
theorem channels_any (w : World) (v : Value) (P : Plan) (hv : PlanV w v P) :
    Calls Tryd.prog 25 #[v] w (ErrR w (scan (chanF ((Plan.parts P).length : Int) (Plan.chans P)) (Plan.chans P).length)) := by
  obtain ⟨a0, n0, c0, a1, n1, c1, a2, n2, c2, a3, n3, c3, rfl, hp⟩ := hv
  obtain ⟨_, _, q, hlen1⟩ := Elems.len hp.parts
  obtain ⟨rfl, rfl, rfl⟩ : a1 = _ ∧ n1 = _ ∧ c1 = _ := by injection q with q1 q2 q3; exact ⟨q1, q2, q3⟩
  clear q
  obtain ⟨_, _, q, hlen2⟩ := Elems.len hp.chans
  obtain ⟨rfl, rfl, rfl⟩ : a2 = _ ∧ n2 = _ ∧ c2 = _ := by injection q with q1 q2 q3; exact ⟨q1, q2, q3⟩
  clear q
  have HQ := Aside.mk hp.chans
  have HE : Aside (∀ (i : Nat) (x : ChanR), (Plan.chans P)[i]? = some x → chanF ((Plan.parts P).length : Int) (Plan.chans P) i = if (decide (i ≤ 63) && chB ((Plan.parts P).length : Int) x) = true then none else some (50, (i : Int))) := ⟨fun i x h => by rw [chanF, chAt_some h, chanOk_eq]⟩
  generalize chanF ((Plan.parts P).length : Int) (Plan.chans P) = F at *
  generalize Plan.frame P = fr at *
  generalize Plan.chans P = Q at *
  obtain ⟨np, hnp⟩ : ∃ np, (Plan.parts P).length = np := ⟨_, rfl⟩
  rw [hnp] at HE hlen1 ⊢
  obtain ⟨W1, HW⟩ : ∃ W1, Aside (W1 = w.alloc (.cells #[.int .u16 fr, .slice a0 n0 c0, .slice a1 np c1, .slice a2 Q.length c2, .slice a3 n3 c3] 28)) := ⟨_, ⟨rfl⟩⟩
  have hb1 : Aside (Below w.heap.size w W1 ∧ W1.heap[w.heap.size]? = some (.cells #[.int .u16 fr, .slice a0 n0 c0, .slice a1 np c1, .slice a2 Q.length c2, .slice a3 n3 c3] 28 (0, 0))) := ⟨by rw [HW.out]; exact ⟨lone _ _, heap_alloc_new _ _⟩⟩
  obtain ⟨p0, p1, p2, p3, p4⟩ := lbox5 hb1.out.2
  clear hp hnp
  go_enter Tryd.func25, Tryd.ntmps25
  go_upto_region 1 with (fail)
  rw [← HW.out]
  go_wp2_with fail
  clear p0 p1 p2 p3 p4
  go_loopg [8] Q.length (fun q i wr => ∃ k : Nat, k ≤ Q.length ∧ q = Q.length - k ∧ i = .int .i64 k ∧ Aside (scan F k = none ∧ Below W1.heap.size W1 wr))
  case atStart => exact ⟨0, by omega, rfl, rfl, ⟨rfl, Below.refl _ _⟩⟩
  case round =>
    obtain ⟨k, hk, rfl, rfl, S⟩ := hrel
    by_cases hkl : k < Q.length
    · have hl := List.getElem?_eq_getElem hkl
      obtain ⟨x, hx⟩ : ∃ x, Q[k] = x := ⟨_, rfl⟩
      rw [hx] at hl
      have B0 := Aside.mk (lthen hb1.out.1 S.out.2)
      obtain ⟨ad, rfl, d0, d1, d2, d3, d4, d5, ok⟩ := Chans.at_ (elems_below HQ.out B0.out) k x hl
      have HEk := HE.out k x hl
      obtain ⟨W2, HW2⟩ : ∃ W2, Aside (W2 = wr.alloc (.cells #[.int .u8 (ChanR.k x), .int .u8 (ChanR.f x), .int .u8 (ChanR.t x), .int .u8 (ChanR.z x), .int .u8 (ChanR.d x), .int .u16 (ChanR.y x)] 48)) := ⟨_, ⟨rfl⟩⟩
      have B2 : Aside (Below W1.heap.size W1 W2) := ⟨by rw [HW2.out]; exact lthen S.out.2 (lone _ _)⟩
      have HX : Aside (W2.heap[wr.heap.size]? = some (.cells #[.int .u8 (ChanR.k x), .int .u8 (ChanR.f x), .int .u8 (ChanR.t x), .int .u8 (ChanR.z x), .int .u8 (ChanR.d x), .int .u16 (ChanR.y x)] 48 (0, 0))) := ⟨by rw [HW2.out]; exact heap_alloc_new _ _⟩
      obtain ⟨e0, e1, e2, e3, e4, e5⟩ := lbox6 HX.out
      obtain ⟨p0, p1, p2, p3, p4⟩ := lbox5 (lup B2.out hb1.out.2)
      have KC := Aside.mk (channel_any W2 x ok (np : Int))
      unfold ChanR.val at KC
      obtain ⟨cb, hcb⟩ : ∃ cb, chB (np : Int) x = cb := ⟨_, rfl⟩
      rw [hcb] at KC HEk
      have HEk := Aside.mk HEk
      clear hl hx ok hcb
      go_upto_region 4 with (fail)
      rw [← HW2.out]
      by_cases h64 : 64 ≤ k
      · have h64' : (64 : Int) ≤ (k : Int) := by omega
        have HN : Aside (scan F Q.length = some (50, (k : Int))) := ⟨scan_some S.out.1 (by rw [HEk.out, if_neg (by simp; omega)]) hkl⟩
        clear d0 d1 d2 d3 d4 d5
        go_wp2_with fail
        refine (fault_any 50 (k : Int) W2).mono ?_
        rintro e w6 ⟨r, rfl, hr, b6⟩
        have HR := Aside.mk (And.intro hr (lthen (lthen hb1.out.1 B2.out) b6))
        clear hr b6
        go_wp2_with fail
        go_ret
        exact ⟨_, rfl, by rw [HN.out]; exact HR.out.1, HR.out.2⟩
      · have h64' : (k : Int) < (64 : Int) := by omega
        have n64 : ¬ (64 : Int) ≤ (k : Int) := by omega
        clear d0 d1 d2 d3 d4 d5
        go_wp2_with fail
        refine KC.out.mono ?_
        rintro e w5 ⟨rfl, b5⟩
        have B5 := Aside.mk (lthen B2.out b5)
        clear b5 e0 e1 e2 e3 e4 e5 p0 p1 p2 p3 p4
        cases cb
        · have HN : Aside (scan F Q.length = some (50, (k : Int))) := ⟨scan_some S.out.1 (by rw [HEk.out, if_neg (by simp)]) hkl⟩
          go_wp2_with fail
          refine (fault_any 50 (k : Int) w5).mono ?_
          rintro e w6 ⟨r, rfl, hr, b6⟩
          have HR := Aside.mk (And.intro hr (lthen (lthen hb1.out.1 B5.out) b6))
          clear hr b6
          go_wp2_with fail
          go_ret
          exact ⟨_, rfl, by rw [HN.out]; exact HR.out.1, HR.out.2⟩
        · have HN : Aside (scan F (k + 1) = none) := ⟨by rw [scan_succ S.out.1, HEk.out, if_pos (by simp; omega)]⟩
          go_wp2_with fail
          go_roundg (Q.length - (k + 1))
          case measure => omega
          case rel => exact ⟨k + 1, by omega, rfl, by go_num, ⟨HN.out, B5.out⟩⟩
    · obtain rfl : k = Q.length := by omega
      clear hkl hk
      go_wp2_with fail
      go_ret
      exact ⟨_, rfl, by rw [S.out.1]; rfl, lthen hb1.out.1 S.out.2⟩
/-! ### Partitions -/
def actsB (x0 x1 x2 : Int) : Nat → Bool
  | 0 => true
  | 1 => decide (x0 ≤ 2)
  | 2 => decide (x0 ≤ 2) && decide (x1 ≤ 2)
  | _ => decide (x0 ≤ 2) && decide (x1 ≤ 2) && decide (x2 ≤ 2)
theorem all_snoc {α : Type} {p : α → Bool} {L : List α} {j : Nat} {x : α} (h : L[j]? = some x) : (L.take (j + 1)).all p = ((L.take j).all p && p x) := by
  rw [take_snoc h, List.all_append]
  simp
set_option maxHeartbeats 3200000 in
set_option maxRecDepth 100000 in
theorem pobject_any (w : World) (sv pv : Value) (x : PartR) (ok : PartAt w sv pv x) :
    Calls Tryd.prog 43 #[.agg #[sv, .int .u8 (PartR.events x), pv, .int .u8 (PartR.a0 x), .int .u8 (PartR.a1 x), .int .u8 (PartR.a2 x)]] w fun e w' => e = .returned (.bool (objectS x)) ∧ Below w.heap.size w w' := by
  obtain ⟨sa, sc, pa, pc, rfl, rfl, hls, hlp⟩ := ok.lens
  have HS := Aside.mk ok.sems
  have HP := Aside.mk ok.procs
  have E : objectS x = ((decide ((PartR.sems x).length ≤ 16) && decide (PartR.events x ≤ 16) && (decide (1 ≤ (PartR.procs x).length) && decide ((PartR.procs x).length ≤ 16))) && (PartR.sems x).all semOk && ((PartR.procs x).all fun p => decide (p ≤ 63)) && (decide (PartR.a0 x ≤ 2) && decide (PartR.a1 x ≤ 2) && decide (PartR.a2 x ≤ 2))) := by
    have e : objectS x = ((decide ((PartR.sems x).length ≤ 16) && decide (PartR.events x ≤ 16) && (decide (1 ≤ (PartR.procs x).length) && decide ((PartR.procs x).length ≤ 16))) && (PartR.sems x).all semOk && ((PartR.procs x).all fun p => decide (p ≤ 63)) && (decide ((PartR.acts x).getD 0 0 ≤ 2) && decide ((PartR.acts x).getD 1 0 ≤ 2) && decide ((PartR.acts x).getD 2 0 ≤ 2))) := by
      unfold objectS sizesOk
      generalize decide ((PartR.sems x).length ≤ 16) = b1
      generalize decide (PartR.events x ≤ 16) = b2
      generalize decide (1 ≤ (PartR.procs x).length) = b3
      generalize decide ((PartR.procs x).length ≤ 16) = b4
      generalize (PartR.sems x).all semOk = b5
      generalize ((PartR.procs x).all fun p => decide (p ≤ 63)) = b6
      generalize decide ((PartR.acts x).getD 0 0 ≤ 2) = b7
      generalize decide ((PartR.acts x).getD 1 0 ≤ 2) = b8
      generalize decide ((PartR.acts x).getD 2 0 ≤ 2) = b9
      revert b1 b2 b3 b4 b5 b6 b7 b8 b9
      decide
    exact e
  rw [E]
  obtain ⟨e0, e1⟩ := ok.ev
  clear E ok
  generalize PartR.events x = ev at *
  generalize PartR.a0 x = x0 at *
  generalize PartR.a1 x = x1 at *
  generalize PartR.a2 x = x2 at *
  generalize PartR.sems x = L at *
  generalize PartR.procs x = M at *
  obtain ⟨wi, hwi⟩ : ∃ wi, (decide (1 ≤ M.length) && decide (M.length ≤ 16)) = wi := ⟨_, rfl⟩
  have KW : Aside (∀ W, Calls Tryd.prog 36 #[.int .i64 (M.length : Int), .int .i64 1, .int .i64 16] W fun e w' => e = .returned (.bool wi) ∧ W = w') := ⟨fun W => by
    have h := within_any (M.length : Int) 1 16 W
    have e : (decide ((1 : Int) ≤ (M.length : Int)) && decide ((M.length : Int) ≤ 16)) = wi := by
      rw [← hwi]
      congr 1 <;> apply decide_eq_decide.2 <;> omega
    rw [e] at h
    exact h⟩
  rw [hwi]
  obtain ⟨b1, hb1⟩ : ∃ b1, (decide (L.length ≤ 16) && decide (ev ≤ 16) && wi) = b1 := ⟨_, rfl⟩
  rw [hb1]
  have HB1 := Aside.mk hb1
  clear hwi hb1
  obtain ⟨W1, HW⟩ : ∃ W1, Aside (W1 = w.alloc (.cells #[.slice sa L.length sc, .int .u8 ev, .slice pa M.length pc, .int .u8 x0, .int .u8 x1, .int .u8 x2] 54)) := ⟨_, ⟨rfl⟩⟩
  have hbw : Aside (Below w.heap.size w W1 ∧ W1.heap[w.heap.size]? = some (.cells #[.slice sa L.length sc, .int .u8 ev, .slice pa M.length pc, .int .u8 x0, .int .u8 x1, .int .u8 x2] 54 (0, 0))) := ⟨by rw [HW.out]; exact ⟨lone _ _, heap_alloc_new _ _⟩⟩
  obtain ⟨p0, p1, p2, p3, p4, p5⟩ := lbox6 hbw.out.2
  go_enter Tryd.func43, Tryd.ntmps43
  go_upto_region 1 with (fail)
  rw [← HW.out]
  go_cut [3] (fun y wc => y = .bool b1 ∧ W1 = wc)
  case first =>
    by_cases h1 : L.length ≤ 16
    · have h1' : (L.length : Int) ≤ 16 := by omega
      by_cases h2 : ev ≤ 16
      · have HB2 : Aside (b1 = wi) := ⟨by rw [← HB1.out]; simp [h1, h2]⟩
        go_wp2_with fail
        refine (KW.out _).mono ?_
        rintro e w5 ⟨rfl, rfl⟩
        go_wp2_with fail
        go_meet
        case rel => exact ⟨by rw [HB2.out], rfl⟩
      · have HB2 : Aside (b1 = false) := ⟨by rw [← HB1.out]; simp [h2]⟩
        go_wp2_with fail
        go_meet
        case rel => exact ⟨by rw [HB2.out], rfl⟩
    · have h1' : ¬ (L.length : Int) ≤ 16 := by omega
      have HB2 : Aside (b1 = false) := ⟨by rw [← HB1.out]; simp [h1]⟩
      go_wp2_with fail
      go_meet
      case rel => exact ⟨by rw [HB2.out], rfl⟩
  case rest =>
    obtain ⟨rfl, rfl⟩ := hcut
    go_wp2_with fail
    clear p0 p1 p2 p3 p4 p5
    go_loopg [3, 27] L.length (fun q s3 i wr => ∃ (k : Nat) (b : Bool), k ≤ L.length ∧ q = L.length - k ∧ i = .int .i64 k ∧ s3 = .bool b ∧ Aside (b = (b1 && (L.take k).all semOk) ∧ Below W1.heap.size W1 wr))
    case atStart => exact ⟨0, b1, by omega, rfl, rfl, rfl, ⟨by simp, Below.refl _ _⟩⟩
    case round =>
      obtain ⟨k, b, hk, rfl, rfl, rfl, S⟩ := hrel
      by_cases hkl : k < L.length
      · have hl := List.getElem?_eq_getElem hkl
        obtain ⟨y, hy⟩ : ∃ y, L[k] = y := ⟨_, rfl⟩
        rw [hy] at hl
        obtain ⟨ad, rfl, d0, d1, oky⟩ := (HS.out.below (lthen hbw.out.1 S.out.2)).at_ k y hl
        have HN : Aside ((b && semOk y) = (b1 && (L.take (k + 1)).all semOk)) := ⟨by rw [all_snoc hl, S.out.1, Bool.and_assoc]⟩
        have HSM : Aside (semOk y = (decide (SemR.m y ≠ 0) && decide (SemR.i y ≤ SemR.m y))) := ⟨rfl⟩
        obtain ⟨m0, m1⟩ := oky.m
        generalize semOk y = so at *
        generalize SemR.m y = m at *
        generalize SemR.i y = i at *
        clear hl hy oky
        cases b
        · have HN2 : Aside (false = (b1 && (L.take (k + 1)).all semOk)) := ⟨by rw [← HN.out]; simp⟩
          go_wp2_with fail
          go_roundg (L.length - (k + 1))
          case measure => omega
          case rel => exact ⟨k + 1, _, by omega, rfl, by go_num, rfl, ⟨HN2.out, lthen S.out.2 (lone _ _)⟩⟩
        · by_cases h1 : 0 < m
          · by_cases h2 : i ≤ m
            · have HN2 : Aside (true = (b1 && (L.take (k + 1)).all semOk)) := ⟨by rw [← HN.out, HSM.out]; simp [h2]; omega⟩
              go_wp2_with fail
              go_roundg (L.length - (k + 1))
              case measure => omega
              case rel => exact ⟨k + 1, _, by omega, rfl, by go_num, rfl, ⟨HN2.out, lthen S.out.2 (lone _ _)⟩⟩
            · have HN2 : Aside (false = (b1 && (L.take (k + 1)).all semOk)) := ⟨by rw [← HN.out, HSM.out]; simp [h2]⟩
              go_wp2_with fail
              go_roundg (L.length - (k + 1))
              case measure => omega
              case rel => exact ⟨k + 1, _, by omega, rfl, by go_num, rfl, ⟨HN2.out, lthen S.out.2 (lone _ _)⟩⟩
          · obtain rfl : m = 0 := by omega
            have HN2 : Aside (false = (b1 && (L.take (k + 1)).all semOk)) := ⟨by rw [← HN.out, HSM.out]; simp⟩
            go_wp2_with fail
            go_roundg (L.length - (k + 1))
            case measure => omega
            case rel => exact ⟨k + 1, _, by omega, rfl, by go_num, rfl, ⟨HN2.out, lthen S.out.2 (lone _ _)⟩⟩
      · obtain rfl : k = L.length := by omega
        have HB2 := S.out.1
        rw [List.take_length] at HB2
        have HB2 := Aside.mk HB2
        have BW := S.out.2
        obtain ⟨p0, p1, p2, p3, p4, p5⟩ := lbox6 (lup BW hbw.out.2)
        have BW := Aside.mk BW
        clear S hkl hk
        go_wp2_with fail
        clear p0 p1 p2 p3 p4 p5
        go_loopg [3, 48] M.length (fun q s3 i wr => ∃ (k : Nat) (d : Bool), k ≤ M.length ∧ q = M.length - k ∧ i = .int .i64 k ∧ s3 = .bool d ∧ Aside (d = (b && (M.take k).all fun p => decide (p ≤ 63)) ∧ Below W1.heap.size W1 wr))
        case atStart => exact ⟨0, b, by omega, rfl, rfl, rfl, ⟨by simp, BW.out⟩⟩
        case round =>
          obtain ⟨k, d, hk, rfl, rfl, rfl, S⟩ := hrel
          by_cases hkl : k < M.length
          · have hl := List.getElem?_eq_getElem hkl
            obtain ⟨y, hy⟩ : ∃ y, M[k] = y := ⟨_, rfl⟩
            rw [hy] at hl
            obtain ⟨ad, rfl, d0, y0, y1⟩ := (HP.out.below (lthen hbw.out.1 S.out.2)).at_ k y hl
            have HN : Aside ((d && decide (y ≤ 63)) = (b && (M.take (k + 1)).all fun p => decide (p ≤ 63))) := ⟨by rw [all_snoc hl, S.out.1, Bool.and_assoc]⟩
            clear hl hy
            cases d
            · have HN2 : Aside (false = (b && (M.take (k + 1)).all fun p => decide (p ≤ 63))) := ⟨by rw [← HN.out]; simp⟩
              go_wp2_with fail
              go_roundg (M.length - (k + 1))
              case measure => omega
              case rel => exact ⟨k + 1, _, by omega, rfl, by go_num, rfl, ⟨HN2.out, S.out.2⟩⟩
            · by_cases h1 : y ≤ 63
              · have HN2 : Aside (true = (b && (M.take (k + 1)).all fun p => decide (p ≤ 63))) := ⟨by rw [← HN.out]; simp [h1]⟩
                go_wp2_with fail
                go_roundg (M.length - (k + 1))
                case measure => omega
                case rel => exact ⟨k + 1, _, by omega, rfl, by go_num, rfl, ⟨HN2.out, S.out.2⟩⟩
              · have HN2 : Aside (false = (b && (M.take (k + 1)).all fun p => decide (p ≤ 63))) := ⟨by rw [← HN.out]; simp [h1]⟩
                go_wp2_with fail
                go_roundg (M.length - (k + 1))
                case measure => omega
                case rel => exact ⟨k + 1, _, by omega, rfl, by go_num, rfl, ⟨HN2.out, S.out.2⟩⟩
          · obtain rfl : k = M.length := by omega
            have HD2 := S.out.1
            rw [List.take_length] at HD2
            have HD2 := Aside.mk HD2
            have BW2 := Aside.mk S.out.2
            obtain ⟨p0, p1, p2, p3, p4, p5⟩ := lbox6 (lup S.out.2 hbw.out.2)
            clear S hkl hk
            go_wp2_with fail
            go_loopg [3, 58] 3 (fun q s3 i wq => ∃ (k : Nat) (f : Bool), k ≤ 3 ∧ q = 3 - k ∧ i = .int .i64 k ∧ s3 = .bool f ∧ wr = wq ∧ Aside (f = (d && actsB x0 x1 x2 k)))
            case atStart => exact ⟨0, d, by omega, rfl, rfl, rfl, rfl, ⟨by simp [actsB]⟩⟩
            case round =>
              obtain ⟨k, f, hk, rfl, rfl, rfl, rfl, hf⟩ := hrel
              rcases k with _ | _ | _ | k
              case zero => 
                have HN : Aside ((f && decide (x0 ≤ 2)) = (d && actsB x0 x1 x2 1)) := ⟨by rw [hf.out]; simp [actsB, Bool.and_assoc]⟩
                clear hf
                cases f
                · have HN2 : Aside (false = (d && actsB x0 x1 x2 1)) := ⟨by rw [← HN.out]; simp⟩
                  go_wp2_with fail
                  go_roundg (3 - 1)
                  case measure => omega
                  case rel => exact ⟨1, _, by omega, rfl, rfl, rfl, rfl, ⟨HN2.out⟩⟩
                · by_cases h1 : x0 ≤ 2
                  · have HN2 : Aside (true = (d && actsB x0 x1 x2 1)) := ⟨by rw [← HN.out]; simp [h1]⟩
                    go_wp2_with fail
                    go_roundg (3 - 1)
                    case measure => omega
                    case rel => exact ⟨1, _, by omega, rfl, rfl, rfl, rfl, ⟨HN2.out⟩⟩
                  · have HN2 : Aside (false = (d && actsB x0 x1 x2 1)) := ⟨by rw [← HN.out]; simp [h1]⟩
                    go_wp2_with fail
                    go_roundg (3 - 1)
                    case measure => omega
                    case rel => exact ⟨1, _, by omega, rfl, rfl, rfl, rfl, ⟨HN2.out⟩⟩
              case succ.zero => 
                have HN : Aside ((f && decide (x1 ≤ 2)) = (d && actsB x0 x1 x2 2)) := ⟨by rw [hf.out]; simp [actsB, Bool.and_assoc]⟩
                clear hf
                cases f
                · have HN2 : Aside (false = (d && actsB x0 x1 x2 2)) := ⟨by rw [← HN.out]; simp⟩
                  go_wp2_with fail
                  go_roundg (3 - 2)
                  case measure => omega
                  case rel => exact ⟨2, _, by omega, rfl, rfl, rfl, rfl, ⟨HN2.out⟩⟩
                · by_cases h1 : x1 ≤ 2
                  · have HN2 : Aside (true = (d && actsB x0 x1 x2 2)) := ⟨by rw [← HN.out]; simp [h1]⟩
                    go_wp2_with fail
                    go_roundg (3 - 2)
                    case measure => omega
                    case rel => exact ⟨2, _, by omega, rfl, rfl, rfl, rfl, ⟨HN2.out⟩⟩
                  · have HN2 : Aside (false = (d && actsB x0 x1 x2 2)) := ⟨by rw [← HN.out]; simp [h1]⟩
                    go_wp2_with fail
                    go_roundg (3 - 2)
                    case measure => omega
                    case rel => exact ⟨2, _, by omega, rfl, rfl, rfl, rfl, ⟨HN2.out⟩⟩
              case succ.succ.zero => 
                have HN : Aside ((f && decide (x2 ≤ 2)) = (d && actsB x0 x1 x2 3)) := ⟨by rw [hf.out]; simp [actsB, Bool.and_assoc]⟩
                clear hf
                cases f
                · have HN2 : Aside (false = (d && actsB x0 x1 x2 3)) := ⟨by rw [← HN.out]; simp⟩
                  go_wp2_with fail
                  go_roundg (3 - 3)
                  case measure => omega
                  case rel => exact ⟨3, _, by omega, rfl, rfl, rfl, rfl, ⟨HN2.out⟩⟩
                · by_cases h1 : x2 ≤ 2
                  · have HN2 : Aside (true = (d && actsB x0 x1 x2 3)) := ⟨by rw [← HN.out]; simp [h1]⟩
                    go_wp2_with fail
                    go_roundg (3 - 3)
                    case measure => omega
                    case rel => exact ⟨3, _, by omega, rfl, rfl, rfl, rfl, ⟨HN2.out⟩⟩
                  · have HN2 : Aside (false = (d && actsB x0 x1 x2 3)) := ⟨by rw [← HN.out]; simp [h1]⟩
                    go_wp2_with fail
                    go_roundg (3 - 3)
                    case measure => omega
                    case rel => exact ⟨3, _, by omega, rfl, rfl, rfl, rfl, ⟨HN2.out⟩⟩
              case succ.succ.succ =>
                obtain rfl : k = 0 := by omega
                go_wp2_with fail
                go_ret
                exact ⟨by rw [hf.out, HD2.out, HB2.out]; rfl, lthen hbw.out.1 BW2.out⟩
end Go.Proofs.YtpcjjmjmigibhaaDoor
