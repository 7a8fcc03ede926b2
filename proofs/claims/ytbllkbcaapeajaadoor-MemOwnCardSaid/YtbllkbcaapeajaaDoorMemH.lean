/- Layer 7's laws: a use of a word changes no other one; the words that are told are their owner's. -/
import Derived.Test.YtbllkbcaapeajaaDoorMemG
namespace Go.Proofs.YtbllkbcaapeajaaDoor
open Go.RowKit
set_option linter.unusedVariables false
set_option linter.unusedSimpArgs false

theorem stepL_other (L : List Int) (k a o v : Int) (j : Nat) (h : (j : Int) ≠ a) : (stepL L k a o v).getD j 0 = L.getD j 0 := by
  unfold stepL
  split
  · rename_i hok
    have h0 := hok.1
    rw [List.getD_eq_getElem?_getD, List.getElem?_set_ne (by omega), List.getD_eq_getElem?_getD]
  · rfl
theorem getD_lt (L : List Int) (hr : ∀ x ∈ L, 0 ≤ x ∧ x < 4294967296) (j : Nat) (h : j < L.length) : 0 ≤ L.getD j 0 ∧ L.getD j 0 < 4294967296 :=
  hr _ (by rw [List.getD_eq_getElem?_getD, List.getElem?_eq_getElem h]; simp)
theorem row_at {w : World} {b : Nat} {L : List Int} {e : TypeId} {fr : Nat × Nat} (h : w.heap[b]? = some (.cells (L.map (Value.int .u32)).toArray e fr)) (j : Nat) (hj : j < L.length) {y : Int} (hy : L.getD j 0 = y) : w.cell? ⟨b, j, none⟩ = some (.int .u32 y) := by
  subst hy
  simp [World.cell?, h, List.getElem?_eq_getElem hj, List.getD_eq_getElem?_getD]

set_option maxHeartbeats 3200000 in
set_option maxRecDepth 100000 in
theorem apart_any (w : World) (hl : Look w) (n : Int) (n0 : 0 ≤ n) (n1 : n < 256) (v : Value) (l : List rdA35) (hu : Uses w v l) (xk xa xo xd : Int) (bxo : 0 ≤ xo ∧ xo < 4294967296) (bxd : 0 ≤ xd ∧ xd < 4294967296) :
    Calls Tryd.prog 4 #[.int .u8 n, v, .agg #[.int .i64 xk, .int .i64 xa, .int .u32 xo, .int .u32 xd]] w fun e w' => e = .returned (.bool true) ∧ Below w.heap.size w w' := by
  have Hu := Aside.mk hu
  obtain ⟨a, cap, rfl, h1, h2, _⟩ := hu
  have hlen : l.length ≤ 9223372036854775807 := by omega
  obtain ⟨M, HM⟩ : ∃ M : Nat, Aside ((M : Int) = 1 + n) := ⟨(1 + n).toNat, ⟨by omega⟩⟩
  have hM1 : 1 ≤ M := by have := HM.out; omega
  have hM2 : M ≤ 256 := by have := HM.out; omega
  have hbx : Below w.heap.size w (w.alloc (.cells #[.int .i64 xk, .int .i64 xa, .int .u32 xo, .int .u32 xd] 35)) := (Below.refl _ _).alloc (Nat.le_refl _) _
  have K1 := new_st w (w.alloc (.cells #[.int .i64 xk, .int .i64 xa, .int .u32 xo, .int .u32 xd] 35)) M hM1 (by omega) hbx hl
  rw [HM.out] at K1
  have K1' := Aside.mk K1
  clear K1 h1 h2 hl hbx
  go_enter Tryd.func4, Tryd.ntmps4
  go_wp2_with fail
  refine K1'.out.mono ?_
  rintro e w1 ⟨B, G, rfl, s1, k1, gB, gG⟩
  have hX1 := (k1.block _ (by simp)).trans (heap_alloc_new w _)
  have S1 := Aside.mk (And.intro s1 hX1)
  have gB' := Aside.mk gB
  have gG' := Aside.mk gG
  clear s1 k1 gB gG hX1
  go_wp2_with fail
  refine (awake_any _ S1.out.1.look).mono ?_
  rintro e w2 ⟨rfl, b2⟩
  have S2 := Aside.mk (And.intro (S1.out.1.old b2) ((b2.block _ (lt_of_block S1.out.2)).trans S1.out.2))
  clear b2
  have hXB : w.heap.size ≠ B ∧ w.heap.size ≠ G := by have := gB'.out; have := gG'.out; simp at *; omega
  go_wp2_with fail
  go_loopw [9] (fun i wr => ∃ (k : Nat) (L : List Int) (c : Int), k ≤ 40 ∧ k ≤ l.length ∧ i = .int .i64 k ∧ Aside (MSt w wr B G L c ∧ 0 ≤ c ∧ c ≤ k ∧ L.length = M ∧ wr.heap[w.heap.size]? = some (.cells #[.int .i64 xk, .int .i64 xa, .int .u32 xo, .int .u32 xd] 35 (0, 0)))) (fun i _ => 40 - (intOf i).toNat)
  case atStart => exact ⟨0, _, _, by omega, by omega, rfl, ⟨S2.out.1, by omega, by omega, by simp, S2.out.2⟩⟩
  case round =>
    obtain ⟨k, L, c, hk, hkl, rfl, S⟩ := hrel
    by_cases hlt : k < l.length ∧ k < 40
    · obtain ⟨hlt, hlt'⟩ := hlt
      obtain ⟨ad, kd, p, o, d, rfl, e0, e1, e2, e3, bo, bd⟩ := uses_at (uses_below Hu.out S.out.1.below) k hlt
      go_wp2_with fail
      refine (use_any kd p o d wr).mono ?_
      rintro e w4 ⟨rfl, b4⟩
      have S4 := Aside.mk (And.intro (S.out.1.old b4) ((b4.block _ (lt_of_block S.out.2.2.2.2)).trans S.out.2.2.2.2))
      have D4 := Aside.mk (does_any S4.out.1 S.out.2.1 (by have := S.out.2; omega) (kindS kd) p o d (kindS_range kd) bd.1 bd.2 bo.1 bo.2)
      clear b4 e0 e1 e2 e3
      go_wp2_with fail
      refine D4.out.mono ?_
      rintro e w5 ⟨rfl, s5, k5⟩
      have S5 : Aside (MSt w w5 B G (stepL L (kindS kd) p o d) (stepC L c p) ∧ 0 ≤ stepC L c p ∧ stepC L c p ≤ (k + 1 : Nat) ∧ (stepL L (kindS kd) p o d).length = M ∧ w5.heap[w.heap.size]? = some (.cells #[.int .i64 xk, .int .i64 xa, .int .u32 xo, .int .u32 xd] 35 (0, 0))) := ⟨s5, by
        have := stepC_le L c p
        have := S.out.2
        rw [stepL_length]
        exact ⟨by omega, by omega, by omega, k5.heap S4.out.2 (by omega)⟩⟩
      clear s5 k5
      go_wp2_with fail
      go_roundw
      case rel => exact ⟨k + 1, _, _, by omega, by omega, by go_num, S5⟩
      case measure => simp [intOf]; omega
    · have hX := lt_of_block S.out.2.2.2.2
      have hBl := Aside.mk (lt_of_block S.out.1.mem.obj)
      have hGl := Aside.mk (lt_of_block S.out.1.mem.words)
      have c1 := Aside.mk (words_any wr B G L c S.out.1.mem)
      have X1 : (wr.alloc (.cells (L.map (Value.int .u32)).toArray 33)).heap[w.heap.size]? = some (.cells #[.int .i64 xk, .int .i64 xa, .int .u32 xo, .int .u32 xd] 35 (0, 0)) := (Below.heap_alloc _ _ _ (by omega)).trans S.out.2.2.2.2
      have x0 : (wr.alloc (.cells (L.map (Value.int .u32)).toArray 33)).cell? ⟨w.heap.size, 0, none⟩ = some (.int .i64 xk) := by simp [World.cell?, X1]
      have x1 : (wr.alloc (.cells (L.map (Value.int .u32)).toArray 33)).cell? ⟨w.heap.size, 1, none⟩ = some (.int .i64 xa) := by simp [World.cell?, X1]
      have x2 : (wr.alloc (.cells (L.map (Value.int .u32)).toArray 33)).cell? ⟨w.heap.size, 2, none⟩ = some (.int .u32 xo) := by simp [World.cell?, X1]
      have x3 : (wr.alloc (.cells (L.map (Value.int .u32)).toArray 33)).cell? ⟨w.heap.size, 3, none⟩ = some (.int .u32 xd) := by simp [World.cell?, X1]
      obtain ⟨W1, HW1⟩ : ∃ W1, Aside (W1 = wr.alloc (.cells (L.map (Value.int .u32)).toArray 33)) := ⟨_, ⟨rfl⟩⟩
      rw [← HW1.out] at x0 x1 x2 x3 X1
      have W1b : Aside (Below wr.heap.size wr W1 ∧ W1.heap[wr.heap.size]? = some (.cells (L.map (Value.int .u32)).toArray 33 (0, 0))) := ⟨by rw [HW1.out]; exact ⟨(Below.refl _ _).alloc (Nat.le_refl _) _, heap_alloc_new _ _⟩⟩
      have T1 := Aside.mk (And.intro (S.out.1.old W1b.out.1) X1)
      clear X1
      have hgo : (k = 40 ∧ 40 < l.length) ∨ k = l.length := by omega
      obtain ⟨R, HR⟩ : ∃ R, Aside (wr.heap.size = R) := ⟨_, ⟨rfl⟩⟩
      rcases hgo with ⟨rfl, hkk⟩ | rfl
      all_goals
        go_wp2_with fail
        refine c1.out.mono ?_
        rintro e w' ⟨rfl, rfl⟩
        rw [← HW1.out, HR.out, S.out.2.2.2.1]
        go_wp2_with fail
        refine (use_any xk xa xo xd W1).mono ?_
        rintro e w2 ⟨rfl, b2⟩
        have T2 := Aside.mk (And.intro (T1.out.1.old b2) (And.intro ((b2.block _ (lt_of_block T1.out.2)).trans T1.out.2) ((b2.block _ (lt_of_block W1b.out.2)).trans W1b.out.2)))
        have D2 := Aside.mk (does_any T2.out.1 S.out.2.1 (by have := S.out.2; omega) (kindS xk) xa xo xd (kindS_range xk) bxd.1 bxd.2 bxo.1 bxo.2)
        clear b2 x0 x1 x2 x3
        go_wp2_with fail
        refine D2.out.mono ?_
        rintro e w3 ⟨rfl, s3, k3⟩
        obtain ⟨L3, HL3⟩ : ∃ L3, Aside (stepL L (kindS xk) xa xo xd = L3) := ⟨_, ⟨rfl⟩⟩
        have hL3 : L3.length = M := by rw [← HL3.out, stepL_length]; exact S.out.2.2.2.1
        rw [HL3.out] at s3
        have T3 := Aside.mk (And.intro s3 (And.intro (k3.heap T2.out.2.1 (by omega)) (k3.heap T2.out.2.2 (by have := hBl.out; have := hGl.out; omega))))
        have c3 := Aside.mk (words_any w3 B G L3 _ s3.mem)
        clear s3 k3
        go_wp2_with fail
        refine c3.out.mono ?_
        rintro e w' ⟨rfl, rfl⟩
        obtain ⟨W4, HW4⟩ : ∃ W4, Aside (W4 = w3.alloc (.cells (L3.map (Value.int .u32)).toArray 33)) := ⟨_, ⟨rfl⟩⟩
        have T4 : Aside (MSt w W4 B G L3 (stepC L c xa) ∧ W4.heap[w.heap.size]? = some (.cells #[.int .i64 xk, .int .i64 xa, .int .u32 xo, .int .u32 xd] 35 (0, 0)) ∧ W4.heap[wr.heap.size]? = some (.cells (L.map (Value.int .u32)).toArray 33 (0, 0)) ∧ W4.heap[w3.heap.size]? = some (.cells (L3.map (Value.int .u32)).toArray 33 (0, 0))) := ⟨by
          rw [HW4.out]
          exact ⟨T3.out.1.old ((Below.refl _ _).alloc (Nat.le_refl _) _), (Below.heap_alloc _ _ _ (lt_of_block T3.out.2.1)).trans T3.out.2.1, (Below.heap_alloc _ _ _ (lt_of_block T3.out.2.2)).trans T3.out.2.2, heap_alloc_new _ _⟩⟩
        obtain ⟨R3, HR3⟩ : ∃ R3, Aside (w3.heap.size = R3) := ⟨_, ⟨rfl⟩⟩
        rw [← HW4.out, HR3.out, hL3]
        rw [HR3.out, HR.out] at T4
        have em1 : (M : Int) ≤ 1 + n := by rw [HM.out]; omega
        have em2 : 1 + n ≤ (M : Int) := by rw [HM.out]; omega
        obtain ⟨E, HE⟩ : ∃ E, Aside (stepE L xa = E) := ⟨_, ⟨rfl⟩⟩
        rw [HE.out]
        clear hBl hGl c1 c3 T1 T2 T3 D2
        go_wp2_with fail
        go_loopw [14] (fun i wr2 => ∃ (j nn : Nat), j ≤ M ∧ i = .int .i64 j ∧ W4.drewN nn = wr2) (fun i _ => M - (intOf i).toNat)
        case atStart => exact ⟨0, 0, by omega, rfl, rfl⟩
        case round =>
          obtain ⟨j, nn, hj, rfl, rfl⟩ := hrel
          by_cases hjm : j < M
          · obtain ⟨y, HY⟩ : ∃ y, Aside (L.getD j 0 = y) := ⟨_, ⟨rfl⟩⟩
            obtain ⟨y3, HY3⟩ : ∃ y3, Aside (L3.getD j 0 = y3) := ⟨_, ⟨rfl⟩⟩
            have r0 := row_at T4.out.2.2.1 j (by rw [S.out.2.2.2.1]; exact hjm) HY.out
            have r3 := row_at T4.out.2.2.2 j (by rw [hL3]; exact hjm) HY3.out
            have xb : W4.cell? ⟨w.heap.size, 1, none⟩ = some (.int .i64 xa) := by simp [World.cell?, T4.out.2.1]
            by_cases hy : y3 = y
            · subst hy
              go_wp2_with fail
              go_quiet (fail)
              go_wp2_with fail
              go_roundw
              case rel => exact ⟨j + 1, _, by omega, by go_num, rfl⟩
              case measure => simp [intOf]; omega
            · have hyb : (y3 == y) = false := beq_eq_false_iff_ne.2 hy
              have hyb2 : (y3 != y) = true := by simp [bne, hyb]
              have hyb3 : decide (y3 = y) = false := decide_eq_false hy
              have hjx : (j : Int) = xa := by
                apply Classical.byContradiction
                intro h
                apply hy
                rw [← HY.out, ← HY3.out, ← HL3.out]
                exact stepL_other L _ xa _ _ j h
              have hE : E = 0 := by
                rw [← HE.out, stepE, if_pos]
                refine ⟨by omega, ?_⟩
                rw [S.out.2.2.2.1]; omega
              subst hjx hE
              clear hy
              go_wp2_with fail
              go_quiet (fail)
              go_wp2_with fail
              go_roundw
              case rel => exact ⟨j + 1, _, by omega, by go_num, rfl⟩
              case measure => simp [intOf]; omega
          · have hb4 := T4.out.1.below
            have xb : W4.cell? ⟨w.heap.size, 1, none⟩ = some (.int .i64 xa) := by simp [World.cell?, T4.out.2.1]
            by_cases hok : okAt L xa
            · have hE : E = 0 := by rw [← HE.out, stepE, if_pos hok]
              subst hE
              go_wp2_with fail
              go_ret
              exact ⟨ret_bool (by simp), bel_drewN hb4 _⟩
            · have hE : E = 81 := by rw [← HE.out, stepE, if_neg hok]
              subst hE
              rcases (show xa < 0 ∨ (0 ≤ xa ∧ n < xa) by
                unfold okAt at hok
                rw [S.out.2.2.2.1, HM.out] at hok
                omega) with hx | ⟨hx, hx'⟩
              all_goals
                go_wp2_with fail
                go_ret
                exact ⟨ret_bool (by simp; try omega), bel_drewN hb4 _⟩
theorem use_arr {w : World} {cs : Array Value} {u : rdA35} (h : rd35.R w cs.toList u) :
    ∃ k a o d, cs = #[.int .i64 k, .int .i64 a, .int .u32 o, .int .u32 d] ∧ (0 ≤ o ∧ o < 4294967296) ∧ 0 ≤ d ∧ d < 4294967296 := by
  obtain ⟨e, b1, b2⟩ := use_cells h
  obtain ⟨l⟩ := cs
  simp at e
  subst e
  exact ⟨_, _, _, _, rfl, ⟨b1.1, Int.lt_of_le_of_lt b1.2 (by decide)⟩, b2.1, Int.lt_of_le_of_lt b2.2 (by decide)⟩
end Go.Proofs.YtbllkbcaapeajaaDoor
