/- Layer 23's laws: if all are at one round and do their steps in turn, all enter it: the walk. -/
import Derived.Test.YtnidplpjkhepmaaDoorGangF
import Derived.Test.YtnidplpjkhepmaaDoorGangQ
namespace Go.Proofs.YtnidplpjkhepmaaDoor
open Go.RowKit
set_option linter.unusedVariables false
set_option linter.unusedSimpArgs false

def Ph1 (n : Nat) (ms : List Mb) (W : Int) : Prop := (∃ C, PInv n (getX ms) W C) ∧ ∀ j < n, (getX ms j).rd ≤ 1023
theorem Ph1.begin {n : Nat} {ms : List Mb} {W : Int} (h : Ph1 n ms W) (hl : ms.length = n) (i : Nat) (hi : i < n) (r : Int) (r0 : 0 ≤ r) (r1 : r ≤ 1023) : Ph1 n (ms.set i (beginS (getX ms i) r)) W := by
  unfold Ph1
  rw [getX_set _ _ _ (by omega)]
  by_cases hb : beginOk (getX ms i) r
  · refine ⟨by obtain ⟨C, p⟩ := h.1; exact ⟨C, p.begin i hi r r0 hb⟩, fun j hj => ?_⟩
    by_cases e : j = i
    · subst e; rw [upd_self, beginS, if_pos hb]; exact r1
    · rw [upd_ne _ _ _ _ e]; exact h.2 j hj
  · rw [beginS, if_neg hb, upd_same _ _ _ rfl]; exact h
theorem Ph1.step {n : Nat} {ms : List Mb} {W : Int} (h : Ph1 n ms W) (hl : ms.length = n) (hn : n ≤ 8) (W1 : W < 4294967296) (i : Nat) (hi : i < n) : Ph1 n (ms.set i (stepX (getX ms i) W)) (stepW (getX ms i) W) := by
  unfold Ph1
  rw [getX_set _ _ _ (by omega)]
  refine ⟨by obtain ⟨C, p⟩ := h.1; exact ⟨_, p.step W1 hn i hi⟩, fun j hj => ?_⟩
  by_cases e : j = i
  · subst e; rw [upd_self, stepX_rd]; exact h.2 j hj
  · rw [upd_ne _ _ _ _ e]; exact h.2 j hj
theorem Ph1.start (n : Nat) (h : 1 ≤ n ∧ n ≤ 8) : Ph1 n (List.replicate n (newMb n)) 0 := by
  have t := TInv.start n h
  refine ⟨⟨_, t.p⟩, fun j hj => ?_⟩
  have := t.rd j hj
  unfold getX
  simp [List.getD_eq_getElem?_getD, hj, newMb]
def Ph2 (n k : Nat) (ms : List Mb) (W : Int) : Prop := (∃ C, PInv n (getX ms) W C) ∧ (∀ j < n, j < k → (getX ms j).rd = 1024 ∧ (getX ms j).ph = 1) ∧ ∀ j < n, k ≤ j → (getX ms j).rd ≤ 1023
theorem Ph2.begin {n k : Nat} {ms : List Mb} {W : Int} (h : Ph2 n k ms W) (hl : ms.length = n) (hk : k < n) : beginE (getX ms k) 1024 = 0 ∧ Ph2 n (k + 1) (ms.set k (beginS (getX ms k) 1024)) W := by
  have hb : beginOk (getX ms k) 1024 := ⟨by decide, by have := h.2.2 k hk (Nat.le_refl _); omega⟩
  refine ⟨by rw [beginE, if_pos hb], ?_⟩
  unfold Ph2
  rw [getX_set _ _ _ (by omega)]
  refine ⟨by obtain ⟨C, p⟩ := h.1; exact ⟨C, p.begin k hk 1024 (by decide) hb⟩, fun j hj hjk => ?_, fun j hj hjk => ?_⟩
  · by_cases e : j = k
    · subst e; rw [upd_self, beginS, if_pos hb]; exact ⟨rfl, rfl⟩
    · rw [upd_ne _ _ _ _ e]; exact h.2.1 j hj (by omega)
  · rw [upd_ne _ _ _ _ (by omega)]; exact h.2.2 j hj (by omega)
theorem Ph2.ends {n : Nat} {ms : List Mb} {W : Int} (h : Ph2 n n ms W) : EInv n (getX ms) W :=
  ⟨h.1, fun j hj => (h.2.1 j hj hj).1, fun j hj q => by have := (h.2.1 j hj hj).2; omega⟩
theorem and1023 (r : Int) (r0 : 0 ≤ r) (r1 : r < 4294967296) : 0 ≤ Go.bits .and .u32 r 1023 ∧ Go.bits .and .u32 r 1023 ≤ 1023 := by
  obtain ⟨a, rfl⟩ := Int.eq_ofNat_of_zero_le r0
  have h := bits_and32 a 1023 (by omega) (by decide)
  have e : ((1023 : Nat) : Int) = 1023 := rfl
  rw [e] at h
  rw [h]
  have := Nat.and_le_right (n := a) (m := 1023)
  omega

set_option maxHeartbeats 6400000 in
set_option maxRecDepth 100000 in
theorem ends_any (w : World) (hl : Look w) (size : Int) (z0 : 0 ≤ size) (z1 : size < 256) (v0 : Value) (l : List rdA31) (hu : Acts w v0 l) (vo : Value) (os : List Int) (ho : Ints w .u8 vo os) (hro : ∀ x ∈ os, 0 ≤ x ∧ x ≤ 255) :
    Calls Tryd.prog 4 #[.int .u8 size, v0, vo] w fun e w' => e = .returned (.bool true) ∧ Below w.heap.size w w' := by
  have Hu := Aside.mk hu
  have Hl := Aside.mk hl
  have Ho := Aside.mk ho
  obtain ⟨a, cap, rfl, h1, h2, _⟩ := hu
  obtain ⟨ao, capo, rfl, ho1, _⟩ := ho
  have hlen : l.length ≤ 9223372036854775807 := by omega
  obtain ⟨n, Hn⟩ : ∃ n : Nat, Aside ((n : Int) = 1 + size % 8 ∧ 1 ≤ n ∧ n ≤ 8) := ⟨(1 + size % 8).toNat, ⟨by omega⟩⟩
  have K0 := members_any w hl n Hn.out.2.1 Hn.out.2.2
  rw [Hn.out.1] at K0
  have K0 := Aside.mk K0
  clear h1 h2 hl
  go_enter Tryd.func4, Tryd.ntmps4
  go_wp2_with fail
  refine K0.out.mono ?_
  rintro e w1 ⟨B, G, v, bs, rfl, g1, hbs⟩
  have G1 := Aside.mk g1
  obtain ⟨ad, vc, rfl, _⟩ := own_at g1.row 0 (ptr (bs[0]'(by have := Hn.out; omega))) (by rw [List.getElem?_map, List.getElem?_eq_getElem (by have := Hn.out; omega)]; rfl)
  clear g1
  go_wp2_with fail
  refine (awake_any _ G1.out.s.m.look).mono ?_
  rintro e w2 ⟨rfl, b2⟩
  have G2 := Aside.mk (G1.out.old b2)
  clear b2
  go_wp2_with fail
  rw [← Hn.out.1]
  have T3 : Aside (GSt w w2 B G (.slice (some ad) n vc) bs (List.replicate n (newMb n)) 0 0 ∧ bs.length = n) := ⟨by
    have g := G2.out
    rw [← Hn.out.1, hbs] at g
    exact ⟨g, hbs⟩⟩
  have n1 : 1 ≤ n := Hn.out.2.1
  have n8 : n ≤ 8 := Hn.out.2.2
  have members : Aside (∀ (wr : World) (ms : List Mb) (W c : Int) (i : Nat), i < n → GSt w wr B G (.slice (some ad) n vc) bs ms W c → ∃ b, bs[i]? = some b ∧ ms[i]? = some (getX ms i) ∧ ms.length = n ∧ wr.cell? (ad.add i) = some (ptr b)) := ⟨fun wr ms W c i hi g => by
    have hb : bs[i]? = some (bs[i]'(by rw [T3.out.2]; exact hi)) := List.getElem?_eq_getElem _
    have hml : ms.length = n := g.s.len.trans T3.out.2
    obtain ⟨ad', cap', hv, hp⟩ := own_at g.row i (ptr (bs[i]'(by rw [T3.out.2]; exact hi))) (by rw [List.getElem?_map, hb]; rfl)
    obtain rfl : ad = ad' := by injection hv with h; injection h
    exact ⟨_, hb, getX_some ms i (by rw [hml]; exact hi), hml, hp⟩⟩
  clear G1 G2 K0
  go_loopw [10] (fun i wr => ∃ (k : Nat) (ms : List Mb) (W c : Int), k ≤ 100 ∧ k ≤ l.length ∧ i = .int .i64 k ∧ Aside (GSt w wr B G (.slice (some ad) n vc) bs ms W c ∧ Ph1 n ms W ∧ c ≤ k)) (fun i _ => 100 - (intOf i).toNat)
  case atStart => exact ⟨0, _, _, _, by omega, by omega, rfl, ⟨T3.out.1, Ph1.start n ⟨n1, n8⟩, by decide⟩⟩
  case round =>
    obtain ⟨k, ms, W, c, hk, hkl, rfl, S⟩ := hrel
    by_cases hlt : k < l.length ∧ k < 100
    · obtain ⟨hlt, hlt'⟩ := hlt
      obtain ⟨aa, who, r, rfl, e0, e1, b0, b1⟩ := acts_at (acts_below Hu.out S.out.1.s.m.below) k hlt
      obtain ⟨i, Hi⟩ : ∃ i : Nat, Aside (who % (n : Int) = (i : Int) ∧ i < n) := ⟨(who % (n : Int)).toNat, ⟨by
        have h1 := Int.emod_nonneg who (show (n : Int) ≠ 0 by omega)
        have h2 := Int.emod_lt_of_pos who (show (0 : Int) < n by omega)
        omega⟩⟩
      have hi := Hi.out.2
      have hidx := Hi.out.1
      obtain ⟨b, hb, hx, hml, hp⟩ := members.out _ _ _ _ i hi S.out.1
      have hb := Aside.mk hb
      have hx := Aside.mk hx
      have hml := Aside.mk hml
      by_cases hr0 : r = 0
      · subst hr0
        have K := Aside.mk (step_c S.out.1.s i b _ hb.out hx.out (by have := S.out.2.2; omega))
        have hv8 : Aside (W < 4294967296) := ⟨(S.out.1.s.W0).2⟩
        go_wp2_with fail
        refine K.out.mono ?_
        rintro e w5 ⟨rfl, c', hc', s5, k5⟩
        have T5 := Aside.mk (And.intro (S.out.1.step hb.out s5 k5) (And.intro (S.out.2.1.step hml.out n8 hv8.out i hi) (show c' ≤ (k + 1 : Nat) by have := S.out.2.2; omega)))
        clear s5 k5 e0 e1 hp K hc'
        go_wp2_with fail
        go_roundw
        case rel => exact ⟨k + 1, _, _, _, by omega, by omega, by go_num, T5⟩
        case measure => simp [intOf]; omega
      · have hr0b : (r == 0) = false := beq_eq_false_iff_ne.2 hr0
        have hrr := Aside.mk (and1023 r b1.1 b1.2)
        have K := Aside.mk (begin_c S.out.1.s i b _ hb.out hx.out (Go.bits .and .u32 r 1023) hrr.out.1 (by have := hrr.out.2; omega))
        go_wp2_with fail
        refine K.out.mono ?_
        rintro e w5 ⟨rfl, s5, k5⟩
        have T5 := Aside.mk (And.intro (S.out.1.step hb.out s5 k5) (And.intro (S.out.2.1.begin hml.out i hi _ hrr.out.1 hrr.out.2) (show c ≤ (k + 1 : Nat) by have := S.out.2.2; omega)))
        clear s5 k5 e0 e1 hp K
        go_wp2_with fail
        go_roundw
        case rel => exact ⟨k + 1, _, _, _, by omega, by omega, by go_num, T5⟩
        case measure => simp [intOf]; omega
    · have A := Aside.mk (And.intro S.out.1 (And.intro S.out.2.1 (show c ≤ 100 by have := S.out.2.2; omega)))
      rcases (show (k = 100 ∧ 100 < l.length) ∨ k = l.length by omega) with ⟨rfl, hkk⟩ | rfl
      all_goals
        clear S
        go_wp2_with fail
        go_loopw [13] (fun q wq => ∃ (j : Nat) (ms : List Mb) (W c : Int), j ≤ n ∧ q = .int .i64 j ∧ Aside (GSt w wq B G (.slice (some ad) n vc) bs ms W c ∧ Ph2 n j ms W ∧ c ≤ 100)) (fun q _ => n - (intOf q).toNat)
        case atStart => exact ⟨0, _, _, _, by omega, rfl, ⟨A.out.1, ⟨A.out.2.1.1, fun j _ h => by omega, fun j h _ => A.out.2.1.2 j h⟩, A.out.2.2⟩⟩
        case round =>
          clear A
          obtain ⟨j, ms, W, c, hj, rfl, S⟩ := hrel
          by_cases hjn : j < n
          · obtain ⟨b, hb, hx, hml, hp⟩ := members.out _ _ _ _ j hjn S.out.1
            have hE := S.out.2.1.begin hml hjn
            have K := begin_c S.out.1.s j b _ hb hx 1024 (by decide) (by decide)
            rw [hE.1] at K
            have K := Aside.mk K
            have hE := Aside.mk hE.2
            have hb := Aside.mk hb
            clear hx hml
            go_wp2_with fail
            refine K.out.mono ?_
            rintro e w5 ⟨rfl, s5, k5⟩
            have T5 := Aside.mk (And.intro (S.out.1.step hb.out s5 k5) (And.intro hE.out S.out.2.2))
            clear s5 k5 hp K
            go_wp2_with fail
            go_roundw
            case rel => exact ⟨j + 1, _, _, _, by omega, by go_num, T5⟩
            case measure => simp [intOf]; omega
          · have ejn : j = n := by omega
            rw [ejn] at S
            clear ejn
            have A := Aside.mk (And.intro S.out.1 (And.intro S.out.2.1.ends S.out.2.2))
            clear S
            go_wp2_with fail
            go_loopw [14] (fun q wq => ∃ (k : Nat) (ms : List Mb) (W c : Int), k ≤ 100 ∧ k ≤ os.length ∧ q = .int .i64 k ∧ Aside (GSt w wq B G (.slice (some ad) n vc) bs ms W c ∧ EInv n (getX ms) W ∧ c ≤ 100 + k)) (fun q _ => 100 - (intOf q).toNat)
            case atStart => exact ⟨0, _, _, _, by omega, by omega, rfl, ⟨A.out.1, A.out.2.1, by have := A.out.2.2; omega⟩⟩
            case round =>
              clear A
              obtain ⟨k, ms, W, c, hk, hko, rfl, S⟩ := hrel
              by_cases hlt : k < os.length ∧ k < 100
              · obtain ⟨hlt, hlt'⟩ := hlt
                have hoi := Ho.out.below S.out.1.s.m.below
                obtain ⟨ao', co', e, ho2, ho3⟩ := hoi
                obtain ⟨aad, rfl, ho4⟩ := ho3 (by omega)
                obtain rfl : ao = some aad := by injection e
                obtain ⟨who, Hw⟩ : ∃ who, Aside (os.getD k 0 = who) := ⟨_, ⟨rfl⟩⟩
                have e0 := ho4 k hlt
                rw [Hw.out] at e0
                have hw := hro who (by rw [← Hw.out, List.getD_eq_getElem?_getD, List.getElem?_eq_getElem hlt]; simp)
                clear e ho2 ho3 ho4
                obtain ⟨i, Hi⟩ : ∃ i : Nat, Aside (who % (n : Int) = (i : Int) ∧ i < n) := ⟨(who % (n : Int)).toNat, ⟨by
                  have h1 := Int.emod_nonneg who (show (n : Int) ≠ 0 by omega)
                  have h2 := Int.emod_lt_of_pos who (show (0 : Int) < n by omega)
                  omega⟩⟩
                have hi := Hi.out.2
                have hidx := Hi.out.1
                obtain ⟨b, hb, hx, hml, hp⟩ := members.out _ _ _ _ i hi S.out.1
                have hb := Aside.mk hb
                have K := Aside.mk (step_c S.out.1.s i b _ hb.out hx (by have := S.out.2.2; omega))
                have hE := S.out.2.1.step n8 i hi
                rw [← getX_set ms i _ (by rw [hml]; exact hi)] at hE
                have hE := Aside.mk hE
                clear hx hml
                go_wp2_with fail
                refine K.out.mono ?_
                rintro e w5 ⟨rfl, c', hc', s5, k5⟩
                have T5 := Aside.mk (And.intro (S.out.1.step hb.out s5 k5) (And.intro hE.out (show c' ≤ 100 + ((k + 1 : Nat) : Int) by have := S.out.2.2; omega)))
                clear s5 k5 e0 hp K hc'
                go_wp2_with fail
                go_roundw
                case rel => exact ⟨k + 1, _, _, _, by omega, by omega, by go_num, T5⟩
                case measure => simp [intOf]; omega
              · have A := Aside.mk (And.intro S.out.1 (And.intro S.out.2.1 (show c ≤ 200 by have := S.out.2.2; omega)))
                rcases (show (k = 100 ∧ 100 < os.length) ∨ k = os.length by omega) with ⟨rfl, hkk⟩ | rfl
                all_goals
                  clear S
                  go_wp2_with fail
                  go_loopw [15] (fun q wq => ∃ (t : Nat) (ms : List Mb) (W c : Int), t ≤ 2 * n + 3 ∧ q = .int .i64 t ∧ Aside (GSt w wq B G (.slice (some ad) n vc) bs ms W c ∧ EInv n (getX ms) W ∧ Prog n t (getX ms) W ∧ c ≤ 200 + 8 * t)) (fun q _ => 2 * n + 3 - (intOf q).toNat)
                  case atStart => exact ⟨0, _, _, _, by omega, rfl, ⟨A.out.1, A.out.2.1, Prog.start _ _ _, by have := A.out.2.2; omega⟩⟩
                  case round =>
                    clear A
                    obtain ⟨t, ms, W, c, ht, rfl, S⟩ := hrel
                    by_cases htn : t < 2 * n + 3
                    · have htb : decide ((t : Int) < 2 * (n : Int) + 3) = true := decide_eq_true (by omega)
                      have hti : (t : Int) < 2 * (n : Int) + 3 := by omega
                      go_wp2_with fail
                      go_loopw [16] (fun q wq => ∃ (j : Nat) (ms' : List Mb) (W' c' : Int), j ≤ n ∧ q = .int .i64 j ∧ Aside (GSt w wq B G (.slice (some ad) n vc) bs ms' W' c' ∧ getX ms' = (run (getX ms) W j).1 ∧ W' = (run (getX ms) W j).2 ∧ c' ≤ 200 + 8 * t + j)) (fun q _ => n - (intOf q).toNat)
                      case atStart => exact ⟨0, ms, W, c, by omega, rfl, ⟨S.out.1, rfl, rfl, by have := S.out.2.2.2; omega⟩⟩
                      case round =>
                        obtain ⟨j, ms', W', c', hj, rfl, S'⟩ := hrel
                        by_cases hjn : j < n
                        · obtain ⟨b, hb, hx, hml, hp⟩ := members.out _ _ _ _ j hjn S'.out.1
                          have hb := Aside.mk hb
                          have hml := Aside.mk hml
                          have K := Aside.mk (step_c S'.out.1.s j b _ hb.out hx (by have := S'.out.2.2.2; omega))
                          clear hx
                          go_wp2_with fail
                          refine K.out.mono ?_
                          rintro e w5 ⟨rfl, c5, hc5, s5, k5⟩
                          have T5 : Aside (GSt w w5 B G (.slice (some ad) n vc) bs (ms'.set j (stepX (getX ms' j) W')) (stepW (getX ms' j) W') c5 ∧ getX (ms'.set j (stepX (getX ms' j) W')) = (run (getX ms) W (j + 1)).1 ∧ stepW (getX ms' j) W' = (run (getX ms) W (j + 1)).2 ∧ c5 ≤ 200 + 8 * (t : Int) + ((j + 1 : Nat) : Int)) := ⟨by
                            have h := S'.out
                            refine ⟨h.1.step hb.out s5 k5, ?_, ?_, by omega⟩
                            · rw [getX_set ms' j _ (by rw [hml.out]; exact hjn), run_succ1, h.2.1, h.2.2.1]
                            · rw [run_succ2, h.2.1, h.2.2.1]⟩
                          clear s5 k5 hp K hc5
                          go_wp2_with fail
                          go_roundw
                          case rel => first | exact ⟨j + 1, _, _, _, by omega, by go_num, T5⟩ | (refine ⟨_, _, _, _, _, _, _, _, _, _, _, _, ⟨j + 1, _, _, _, by omega, ?_, T5⟩, rfl⟩; go_num)
                          case measure => simp [intOf]; omega
                        · have T5 : Aside (GSt w wr B G (.slice (some ad) n vc) bs ms' W' c' ∧ EInv n (getX ms') W' ∧ Prog n (t + 1) (getX ms') W' ∧ c' ≤ 200 + 8 * ((t + 1 : Nat) : Int)) := ⟨by
                            have h := S'.out
                            have ejn : j = n := by omega
                            rw [ejn] at h
                            refine ⟨h.1, ?_, ?_, by omega⟩
                            · rw [h.2.1, h.2.2.1]; exact run_inv S.out.2.1 n8 n (Nat.le_refl _)
                            · rw [h.2.1, h.2.2.1]; exact Prog.turn S.out.2.1 n8 n1 S.out.2.2.1⟩
                          go_wp2_with fail
                          go_roundw
                          case rel => exact ⟨t + 1, _, _, _, by omega, by go_num, T5⟩
                          case measure => simp [intOf]; omega
                    · have D := Aside.mk (S.out.2.1.done (S.out.2.2.1.2 (by omega)))
                      have hbel := S.out.1.s.m.below
                      go_wp2_with fail
                      go_loopw [17] (fun q wq => ∃ (j : Nat), j ≤ n ∧ q = .int .i64 j ∧ wr = wq) (fun q _ => n - (intOf q).toNat)
                      case atStart => exact ⟨0, by omega, rfl, rfl⟩
                      case round =>
                        obtain ⟨j, hj, rfl, rfl⟩ := hrel
                        by_cases hjn : j < n
                        · obtain ⟨b, hb, hx, hml, hp⟩ := members.out _ _ _ _ j hjn S.out.1
                          have CE := entered_c S.out.1.s j b _ hb hx
                          have CM := missed_c S.out.1.s j b _ hb hx
                          rw [(D.out j hjn).1] at CE
                          rw [(D.out j hjn).2] at CM
                          have CE := Aside.mk CE
                          have CM := Aside.mk CM
                          clear hb hx hml
                          go_wp2_with fail
                          refine CE.out.mono ?_
                          rintro e w' ⟨rfl, rfl⟩
                          go_wp2_with fail
                          refine CM.out.mono ?_
                          rintro e w' ⟨rfl, rfl⟩
                          go_wp2_with fail
                          go_roundw
                          case rel => first | exact ⟨j + 1, by omega, by go_num, trivial⟩ | exact ⟨j + 1, by omega, by go_num, rfl⟩
                          case measure => simp [intOf]; omega
                        · go_wp2_with fail
                          go_ret
                          exact ⟨rfl, hbel⟩

end Go.Proofs.YtnidplpjkhepmaaDoor
