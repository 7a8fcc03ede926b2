/- Layer 23's laws: who has missed a round: the walk. -/
import Derived.Test.YtnidplpjkhepmaaDoorGangF
namespace Go.Proofs.YtnidplpjkhepmaaDoor
open Go.RowKit
set_option linter.unusedVariables false
set_option linter.unusedSimpArgs false

/-- Whether one of the first has come to a later round. -/
def laterB (C : Nat → Int) (i : Nat) (y : Int) : Nat → Bool
  | 0 => false
  | j + 1 => laterB C i y j || (decide (j ≠ i) && decide (y < C j))
theorem laterB_yes (C : Nat → Int) (i : Nat) (y : Int) (n j : Nat) (hj : j < n) (h1 : j ≠ i) (h2 : y < C j) : laterB C i y n = true := by
  induction n with
  | zero => omega
  | succ n ih =>
    unfold laterB
    by_cases e : j = n
    · subst e; simp [h1, h2]
    · rw [ih (by omega)]; rfl

set_option maxHeartbeats 3200000 in
set_option maxRecDepth 100000 in
theorem gmissed_any (w : World) (hl : Look w) (size : Int) (z0 : 0 ≤ size) (z1 : size < 256) (v0 : Value) (l : List rdA31) (hu : Acts w v0 l) :
    Calls Tryd.prog 5 #[.int .u8 size, v0] w fun e w' => e = .returned (.bool true) ∧ Below w.heap.size w w' := by
  have Hu := Aside.mk hu
  have Hl := Aside.mk hl
  obtain ⟨a, cap, rfl, h1, h2, _⟩ := hu
  have hlen : l.length ≤ 9223372036854775807 := by omega
  obtain ⟨n, Hn⟩ : ∃ n : Nat, Aside ((n : Int) = 1 + size % 8 ∧ 1 ≤ n ∧ n ≤ 8) := ⟨(1 + size % 8).toNat, ⟨by omega⟩⟩
  have K0 := members_any w hl n Hn.out.2.1 Hn.out.2.2
  rw [Hn.out.1] at K0
  have K0 := Aside.mk K0
  clear h1 h2 hl
  go_enter Tryd.func5, Tryd.ntmps5
  go_wp2_with fail
  refine K0.out.mono ?_
  rintro e w1 ⟨B, G, v, bs, rfl, g1, hbs⟩
  have G1 := Aside.mk g1
  obtain ⟨ad, vc, rfl, _⟩ := own_at g1.row 0 (ptr (bs[0]'(by have := Hn.out; omega))) (by rw [List.getElem?_map, List.getElem?_eq_getElem (by have := Hn.out; omega)]; rfl)
  clear g1
  go_wp2_with fail
  refine (awake_any _ G1.out.s.m.look).mono ?_
  rintro e w2 ⟨rfl, b2⟩
  have G2 := Aside.mk (G1.out.old b2)
  clear b2
  go_wp2_with fail
  obtain ⟨W3, HW3⟩ : ∃ W3, Aside (W3 = (w2.alloc (rowOf [0, 0, 0, 0, 0, 0, 0, 0] 29)).alloc (rowOf [0, 0, 0, 0, 0, 0, 0, 0] 29)) := ⟨_, ⟨rfl⟩⟩
  have e3 : (w2.alloc (.cells #[.int .u32 0, .int .u32 0, .int .u32 0, .int .u32 0, .int .u32 0, .int .u32 0, .int .u32 0, .int .u32 0] 29)).alloc (.cells #[.int .u32 0, .int .u32 0, .int .u32 0, .int .u32 0, .int .u32 0, .int .u32 0, .int .u32 0, .int .u32 0] 29) = W3 := HW3.out.symm
  rw [e3, ← Hn.out.1]
  clear e3
  have T3 : Aside (TSt w W3 B G (.slice (some ad) n vc) bs (List.replicate n (newMb n)) 0 0 w2.heap.size (w2.heap.size + 1) [0, 0, 0, 0, 0, 0, 0, 0] [0, 0, 0, 0, 0, 0, 0, 0] ∧ bs.length = n) := ⟨by
    rw [HW3.out]
    have g := G2.out
    rw [← Hn.out.1, hbs] at g
    exact ⟨TSt.start g (fun r hr => own_lt g.row r hr), hbs⟩⟩
  obtain ⟨P, HP⟩ : ∃ P, Aside (w2.heap.size = P) := ⟨_, ⟨rfl⟩⟩
  obtain ⟨Q, HQ⟩ : ∃ Q, Aside (P + 1 = Q) := ⟨_, ⟨rfl⟩⟩
  rw [HP.out, HQ.out] at T3
  rw [HP.out, HQ.out]
  have n1 : 1 ≤ n := Hn.out.2.1
  have n8 : n ≤ 8 := Hn.out.2.2
  clear G1 G2 K0 HW3
  go_loopw [10] (fun i wr => ∃ (k : Nat) (ms : List Mb) (W c : Int) (Rl Cl : List Int), k ≤ 200 ∧ k ≤ l.length ∧ i = .int .i64 k ∧ Aside (TSt w wr B G (.slice (some ad) n vc) bs ms W c P Q Rl Cl ∧ TInv n ms W Rl Cl ∧ c ≤ k)) (fun i _ => 200 - (intOf i).toNat)
  case atStart => exact ⟨0, _, _, _, _, _, by omega, by omega, rfl, ⟨T3.out.1, TInv.start n ⟨n1, n8⟩, by decide⟩⟩
  case round =>
    obtain ⟨k, ms, W, c, Rl, Cl, hk, hkl, rfl, S⟩ := hrel
    by_cases hlt : k < l.length ∧ k < 200
    · obtain ⟨hlt, hlt'⟩ := hlt
      obtain ⟨aa, who, r, rfl, e0, e1, b0, b1⟩ := acts_at (acts_below Hu.out S.out.1.g.s.m.below) k hlt
      obtain ⟨i, Hi⟩ : ∃ i : Nat, Aside (who % (n : Int) = (i : Int) ∧ i < n) := ⟨(who % (n : Int)).toNat, ⟨by
        have h1 := Int.emod_nonneg who (show (n : Int) ≠ 0 by omega)
        have h2 := Int.emod_lt_of_pos who (show (0 : Int) < n by omega)
        omega⟩⟩
      have hi := Hi.out.2
      have hidx := Hi.out.1
      have hml : Aside (ms.length = n) := ⟨S.out.1.g.s.len.trans T3.out.2⟩
      obtain ⟨b, hb⟩ : ∃ b, Aside (bs[i]? = some b) := ⟨_, ⟨List.getElem?_eq_getElem (by rw [T3.out.2]; exact hi)⟩⟩
      have hx := Aside.mk (getX_some ms i (by rw [hml.out]; exact hi))
      obtain ⟨ad', cap', hv, hp⟩ := own_at S.out.1.g.row i (ptr b) (by rw [List.getElem?_map, hb.out]; rfl)
      obtain rfl : ad = ad' := by injection hv with h; injection h
      clear hv
      by_cases hr0 : r = 0
      · subst hr0
        have K := Aside.mk (step_c S.out.1.g.s i b _ hb.out hx.out (by have := S.out.2.2; omega))
        have hv8 : Aside (W < 4294967296) := ⟨(S.out.1.g.s.W0).2⟩
        have St := Aside.mk (S.out.2.1.step hml.out n8 S.out.1.lC hv8.out i hi)
        obtain ⟨x', Hx'⟩ : ∃ x', Aside (stepX (getX ms i) W = x') := ⟨_, ⟨rfl⟩⟩
        rw [Hx'.out] at K St
        go_wp2_with fail
        refine K.out.mono ?_
        rintro e w5 ⟨rfl, c', hc', s5, k5⟩
        have hent : Aside (x'.entered = true → x'.came = true ∧ x'.missed = false ∧ ∀ j < n, x'.rd ≤ getC (if x'.came = true then Cl.set i (Rl.getD i 0) else Cl) j) := ⟨by
          have h := St.out.p.ent i hi
          rw [getX_set _ _ _ (by rw [hml.out]; exact hi), upd_self] at h
          exact h⟩
        have T5 := Aside.mk (S.out.1.go hb.out s5 k5)
        have hc5 : Aside (c' ≤ (k + 1 : Nat)) := ⟨by have := S.out.2.2; omega⟩
        clear s5 k5 e0 e1 hp K hc'
        obtain ⟨ad5, cap5, hv5, hp5⟩ := own_at T5.out.g.row i (ptr b) (by rw [List.getElem?_map, hb.out]; rfl)
        obtain rfl : ad = ad5 := by injection hv5 with h; injection h
        clear hv5 hent
        have hx5 : Aside ((ms.set i x')[i]? = some x') := ⟨List.getElem?_set_self (by rw [hml.out]; exact hi)⟩
        have CC := came_c T5.out.g.s i b x' hb.out hx5.out
        have CC5 := Aside.mk CC
        obtain ⟨y, HY⟩ : ∃ y, Aside (Rl.getD i 0 = y) := ⟨_, ⟨rfl⟩⟩
        cases hcm : x'.came
        · have T6 := T5
          have CM := missed_c T6.out.g.s i b x' hb.out hx5.out
          rw [hcm] at CC5
          have Inv := St.out
          rw [if_neg (by rw [hcm]; decide)] at Inv
          have Inv := Aside.mk Inv
          cases hms : x'.missed
          · rw [hms] at CM
            have CM := Aside.mk CM
            clear CC hcm hms
            go_wp2_with fail
            refine CC5.out.mono ?_
            rintro e w' ⟨rfl, rfl⟩
            go_wp2_with fail
            refine CM.out.mono ?_
            rintro e w' ⟨rfl, rfl⟩
            go_wp2_with fail
            go_roundw
            case rel => exact ⟨k + 1, _, _, _, _, _, by omega, by omega, by go_num, ⟨T6.out, Inv.out, hc5.out⟩⟩
            case measure => simp [intOf]; omega
          · have hmis : ∃ j < n, j ≠ i ∧ x'.rd < getC (Cl) j := by
              have h := Inv.out.p.mis i hi
              rw [getX_set _ _ _ (by rw [hml.out]; exact hi), upd_self] at h
              exact h hms
            have hyx : y = x'.rd := by rw [← HY.out, S.out.2.1.rd i hi, ← Hx'.out, stepX_rd]
            have hfin : Aside (laterB (getC (Cl)) i y n = true) := ⟨by obtain ⟨j, h1, h2, h3⟩ := hmis; exact laterB_yes _ _ _ _ j h1 h2 (by omega)⟩
            rw [hms] at CM
            have CM := Aside.mk CM
            clear CC hcm hms hmis hyx
            go_wp2_with fail
            refine CC5.out.mono ?_
            rintro e w' ⟨rfl, rfl⟩
            go_wp2_with fail
            refine CM.out.mono ?_
            rintro e w' ⟨rfl, rfl⟩
            go_wp2_with fail
            go_loopw [13, 14] (fun p q wq => ∃ (j m : Nat) (bb : Bool), j ≤ n ∧ q = .int .i64 j ∧ p = .bool bb ∧ Aside (bb = laterB (getC (Cl)) i y j) ∧ w5.drewN m = wq) (fun _ q _ => n - (intOf q).toNat)
            case atStart => exact ⟨0, 0, false, by omega, rfl, rfl, ⟨rfl⟩, rfl⟩
            case round =>
              obtain ⟨j, m, bb, hj, rfl, rfl, hbb, rfl⟩ := hrel
              by_cases hjn : j < n
              · obtain ⟨cj, HC⟩ : ∃ cj, Aside ((Cl).getD j 0 = cj) := ⟨_, ⟨rfl⟩⟩
                have p1 := row_get T6.out.r i (by rw [T6.out.lR]; omega) HY.out
                have p2 := row_get T6.out.cm j (by rw [T6.out.lC]; omega) HC.out
                have hstep : Aside (laterB (getC (Cl)) i y (j + 1) = (bb || (decide (j ≠ i) && decide (y < cj)))) := ⟨by rw [hbb.out, ← HC.out]; rfl⟩
                cases bb
                · by_cases hji : j = i
                  · have d1 : ((j : Int) == (i : Int)) = true := by rw [hji]; exact beq_self_eq_true _
                    have d2 : ((j : Int) != (i : Int)) = false := by simp [bne, d1]
                    have d3 : decide ((j : Int) = (i : Int)) = true := by rw [hji]; exact decide_eq_true rfl
                    have fin : Aside (laterB (getC (Cl)) i y (j + 1) = false) := ⟨by rw [hstep.out]; simp [hji]⟩
                    clear hji
                    go_wp2_with fail
                    go_quiet (fail)
                    go_wp2_with fail
                    go_roundw
                    case rel => exact ⟨j + 1, _, false, by omega, by go_num, by simp [d1], ⟨fin.out.symm⟩, rfl⟩
                    case measure => simp [intOf]; omega
                  · have hji' : (j : Int) ≠ (i : Int) := by omega
                    have d1 : ((j : Int) == (i : Int)) = false := beq_eq_false_iff_ne.2 hji'
                    have d2 : ((j : Int) != (i : Int)) = true := by simp [bne, d1]
                    have d3 : decide ((j : Int) = (i : Int)) = false := decide_eq_false hji'
                    by_cases hcy : y < cj
                    · have fin : Aside (laterB (getC (Cl)) i y (j + 1) = true) := ⟨by rw [hstep.out]; simp [hji, hcy]⟩
                      clear hji hji'
                      go_wp2_with fail
                      go_quiet (fail)
                      go_wp2_with fail
                      go_roundw
                      case rel => exact ⟨j + 1, _, true, by omega, by go_num, by simp [d1, hcy], ⟨fin.out.symm⟩, rfl⟩
                      case measure => simp [intOf]; omega
                    · have fin : Aside (laterB (getC (Cl)) i y (j + 1) = false) := ⟨by rw [hstep.out]; simp [hji, hcy]⟩
                      have hcy' : cj ≤ y := by omega
                      clear hji hji' hcy
                      go_wp2_with fail
                      go_quiet (fail)
                      go_wp2_with fail
                      go_roundw
                      case rel => exact ⟨j + 1, _, false, by omega, by go_num, by simp; try omega, ⟨fin.out.symm⟩, rfl⟩
                      case measure => simp [intOf]; omega
                · have fin : Aside (laterB (getC (Cl)) i y (j + 1) = true) := ⟨by rw [hstep.out]; rfl⟩
                  go_wp2_with fail
                  go_quiet (fail)
                  go_wp2_with fail
                  go_roundw
                  case rel => exact ⟨j + 1, _, true, by omega, by go_num, by simp, ⟨fin.out.symm⟩, rfl⟩
                  case measure => simp [intOf]; omega
              · obtain rfl : bb = true := by rw [hbb.out, show j = n by omega]; exact hfin.out
                go_wp2_with fail
                go_roundw
                case rel => exact ⟨k + 1, _, _, _, _, _, by omega, by omega, by go_num, ⟨T6.out.old (below_drewN _ _), Inv.out, hc5.out⟩⟩
                case measure => simp [intOf]; omega
        · have q1 := row_get T5.out.r i (by rw [T5.out.lR]; omega) HY.out
          have q2 := row_get T5.out.cm i (by rw [T5.out.lC]; omega) rfl
          have f1 : w5.frozen? ⟨Q, i, none⟩ = false := by simp [World.frozen?, T5.out.cm, rowOf]
          obtain ⟨W6, HW6⟩ : ∃ W6, Aside (W6 = w5.setCell ⟨Q, i, none⟩ (.int .u32 y)) := ⟨_, ⟨rfl⟩⟩
          have T6 : Aside (TSt w W6 B G (.slice (some ad) n vc) bs (ms.set i x') (stepW (getX ms i) W) c' P Q Rl (Cl.set i y)) := ⟨by rw [HW6.out]; exact T5.out.putC i y⟩
          obtain ⟨ad6, cap6, hv6, hp6⟩ := own_at T6.out.g.row i (ptr b) (by rw [List.getElem?_map, hb.out]; rfl)
          obtain rfl : ad = ad6 := by injection hv6 with h; injection h
          clear hv6
          have hp6' : (w5.setCell ⟨Q, i, none⟩ (.int .u32 y)).cell? (ad.add i) = some (ptr b) := by rw [← HW6.out]; exact hp6
          have CM := missed_c T6.out.g.s i b x' hb.out hx5.out
          have Inv := St.out
          rw [if_pos hcm, HY.out] at Inv
          have Inv := Aside.mk Inv
          rw [hcm] at CC5
          cases hms : x'.missed
          · rw [hms] at CM
            have CM := Aside.mk CM
            clear CC hcm hms
            go_wp2_with fail
            refine CC5.out.mono ?_
            rintro e w' ⟨rfl, rfl⟩
            go_wp2_with fail
            rw [← HW6.out]
            clear hp6' q1 q2 f1 hp5
            refine CM.out.mono ?_
            rintro e w' ⟨rfl, rfl⟩
            go_wp2_with fail
            go_roundw
            case rel => exact ⟨k + 1, _, _, _, _, _, by omega, by omega, by go_num, ⟨T6.out, Inv.out, hc5.out⟩⟩
            case measure => simp [intOf]; omega
          · have hmis : ∃ j < n, j ≠ i ∧ x'.rd < getC (Cl.set i y) j := by
              have h := Inv.out.p.mis i hi
              rw [getX_set _ _ _ (by rw [hml.out]; exact hi), upd_self] at h
              exact h hms
            have hyx : y = x'.rd := by rw [← HY.out, S.out.2.1.rd i hi, ← Hx'.out, stepX_rd]
            have hfin : Aside (laterB (getC (Cl.set i y)) i y n = true) := ⟨by obtain ⟨j, h1, h2, h3⟩ := hmis; exact laterB_yes _ _ _ _ j h1 h2 (by omega)⟩
            rw [hms] at CM
            have CM := Aside.mk CM
            clear CC hcm hms hmis hyx
            go_wp2_with fail
            refine CC5.out.mono ?_
            rintro e w' ⟨rfl, rfl⟩
            go_wp2_with fail
            rw [← HW6.out]
            clear hp6' q1 q2 f1 hp5
            refine CM.out.mono ?_
            rintro e w' ⟨rfl, rfl⟩
            go_wp2_with fail
            go_loopw [13, 14] (fun p q wq => ∃ (j m : Nat) (bb : Bool), j ≤ n ∧ q = .int .i64 j ∧ p = .bool bb ∧ Aside (bb = laterB (getC (Cl.set i y)) i y j) ∧ W6.drewN m = wq) (fun _ q _ => n - (intOf q).toNat)
            case atStart => exact ⟨0, 0, false, by omega, rfl, rfl, ⟨rfl⟩, rfl⟩
            case round =>
              obtain ⟨j, m, bb, hj, rfl, rfl, hbb, rfl⟩ := hrel
              by_cases hjn : j < n
              · obtain ⟨cj, HC⟩ : ∃ cj, Aside ((Cl.set i y).getD j 0 = cj) := ⟨_, ⟨rfl⟩⟩
                have p1 := row_get T6.out.r i (by rw [T6.out.lR]; omega) HY.out
                have p2 := row_get T6.out.cm j (by rw [T6.out.lC]; omega) HC.out
                have hstep : Aside (laterB (getC (Cl.set i y)) i y (j + 1) = (bb || (decide (j ≠ i) && decide (y < cj)))) := ⟨by rw [hbb.out, ← HC.out]; rfl⟩
                cases bb
                · by_cases hji : j = i
                  · have d1 : ((j : Int) == (i : Int)) = true := by rw [hji]; exact beq_self_eq_true _
                    have d2 : ((j : Int) != (i : Int)) = false := by simp [bne, d1]
                    have d3 : decide ((j : Int) = (i : Int)) = true := by rw [hji]; exact decide_eq_true rfl
                    have fin : Aside (laterB (getC (Cl.set i y)) i y (j + 1) = false) := ⟨by rw [hstep.out]; simp [hji]⟩
                    clear hji
                    go_wp2_with fail
                    go_quiet (fail)
                    go_wp2_with fail
                    go_roundw
                    case rel => exact ⟨j + 1, _, false, by omega, by go_num, by simp [d1], ⟨fin.out.symm⟩, rfl⟩
                    case measure => simp [intOf]; omega
                  · have hji' : (j : Int) ≠ (i : Int) := by omega
                    have d1 : ((j : Int) == (i : Int)) = false := beq_eq_false_iff_ne.2 hji'
                    have d2 : ((j : Int) != (i : Int)) = true := by simp [bne, d1]
                    have d3 : decide ((j : Int) = (i : Int)) = false := decide_eq_false hji'
                    by_cases hcy : y < cj
                    · have fin : Aside (laterB (getC (Cl.set i y)) i y (j + 1) = true) := ⟨by rw [hstep.out]; simp [hji, hcy]⟩
                      clear hji hji'
                      go_wp2_with fail
                      go_quiet (fail)
                      go_wp2_with fail
                      go_roundw
                      case rel => exact ⟨j + 1, _, true, by omega, by go_num, by simp [d1, hcy], ⟨fin.out.symm⟩, rfl⟩
                      case measure => simp [intOf]; omega
                    · have fin : Aside (laterB (getC (Cl.set i y)) i y (j + 1) = false) := ⟨by rw [hstep.out]; simp [hji, hcy]⟩
                      have hcy' : cj ≤ y := by omega
                      clear hji hji' hcy
                      go_wp2_with fail
                      go_quiet (fail)
                      go_wp2_with fail
                      go_roundw
                      case rel => exact ⟨j + 1, _, false, by omega, by go_num, by simp; try omega, ⟨fin.out.symm⟩, rfl⟩
                      case measure => simp [intOf]; omega
                · have fin : Aside (laterB (getC (Cl.set i y)) i y (j + 1) = true) := ⟨by rw [hstep.out]; rfl⟩
                  go_wp2_with fail
                  go_quiet (fail)
                  go_wp2_with fail
                  go_roundw
                  case rel => exact ⟨j + 1, _, true, by omega, by go_num, by simp, ⟨fin.out.symm⟩, rfl⟩
                  case measure => simp [intOf]; omega
              · obtain rfl : bb = true := by rw [hbb.out, show j = n by omega]; exact hfin.out
                go_wp2_with fail
                go_roundw
                case rel => exact ⟨k + 1, _, _, _, _, _, by omega, by omega, by go_num, ⟨T6.out.old (below_drewN _ _), Inv.out, hc5.out⟩⟩
                case measure => simp [intOf]; omega
      · have hr0b : (r == 0) = false := beq_eq_false_iff_ne.2 hr0
        have K := Aside.mk (begin_c S.out.1.g.s i b _ hb.out hx.out r b1.1 b1.2)
        by_cases hbo : beginOk (getX ms i) r
        · have hbe : beginE (getX ms i) r = 0 := by rw [beginE, if_pos hbo]
          rw [hbe] at K
          go_wp2_with fail
          refine K.out.mono ?_
          rintro e w5 ⟨rfl, s5, k5⟩
          have T5 := Aside.mk (S.out.1.go hb.out s5 k5)
          have S5 := Aside.mk (S.out.2.1.begin hml.out n8 S.out.1.lR i hi r b1.1 hbo)
          obtain ⟨y, HY⟩ : ∃ y, Aside (Rl.getD i 0 = y) := ⟨_, ⟨rfl⟩⟩
          have hy : y < r := by rw [← HY.out, S.out.2.1.rd i hi]; exact hbo.2
          have hr1 : r ≤ 268435455 := hbo.1
          have q1 := row_get T5.out.r i (by rw [T5.out.lR]; omega) HY.out
          have f1 : w5.frozen? ⟨P, i, none⟩ = false := by simp [World.frozen?, T5.out.r, rowOf]
          clear s5 k5 hbo e0 e1 hp K
          go_wp2_with fail
          go_roundw
          case rel => exact ⟨k + 1, _, _, _, _, _, by omega, by omega, by go_num, ⟨T5.out.putR i r, S5.out, by have := S.out.2.2; omega⟩⟩
          case measure => simp [intOf]; omega
        · have hbe : beginE (getX ms i) r = 241 := by rw [beginE, if_neg hbo]
          rw [hbe] at K
          have hbs : beginS (getX ms i) r = getX ms i := by rw [beginS, if_neg hbo]
          have hse : ms.set i (getX ms i) = ms := by
            apply List.ext_getElem?
            intro j
            by_cases q : i = j
            · subst q; rw [List.getElem?_set_self (by rw [hml.out]; exact hi), hx.out]
            · rw [List.getElem?_set_ne q]
          rw [hbs, hse] at K
          clear hbo hbe hbs hse
          go_wp2_with fail
          refine K.out.mono ?_
          rintro e w5 ⟨rfl, s5, k5⟩
          have T5 := Aside.mk (S.out.1.go hb.out s5 k5)
          clear s5 k5 e0 e1 hp K
          go_wp2_with fail
          go_roundw
          case rel => exact ⟨k + 1, _, _, _, _, _, by omega, by omega, by go_num, ⟨T5.out, S.out.2.1, by have := S.out.2.2; omega⟩⟩
          case measure => simp [intOf]; omega
    · have hS := S.out.1.g.s.m.below
      rcases (show (k = 200 ∧ 200 < l.length) ∨ k = l.length by omega) with ⟨rfl, hkk⟩ | rfl
      all_goals
        go_wp2_with fail
        go_ret
        exact ⟨rfl, hS⟩
end Go.Proofs.YtnidplpjkhepmaaDoor
