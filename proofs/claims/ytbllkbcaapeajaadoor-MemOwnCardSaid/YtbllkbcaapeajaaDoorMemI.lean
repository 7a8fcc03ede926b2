/- Layer 7's law: the words that are told are their owner's. -/
import Derived.Test.YtbllkbcaapeajaaDoorMemH
namespace Go.Proofs.YtbllkbcaapeajaaDoor
open Go.RowKit
set_option linter.unusedVariables false
set_option linter.unusedSimpArgs false

theorem MSt.kept_ {S : Nat → Prop} {w0 w w' : World} {B G : Nat} {L : List Int} {c : Int} (h : MSt w0 w B G L c) (k : Kept S w w') (hB : ¬ S B) (hG : ¬ S G) (hS : ∀ k, S k → w0.heap.size ≤ k) : MSt w0 w' B G L c :=
  ⟨h.mem.kept k hB hG, h.below.trans (k.below h.below.size hS), h.look.kept k (fun e => by have := hS _ e; have := h.h0; omega), h.hB, h.hG, h.h0⟩
theorem row_set {w : World} {b : Nat} {L : List Int} {e : TypeId} {fr : Nat × Nat} (h : w.heap[b]? = some (.cells (L.map (Value.int .u32)).toArray e fr)) (j : Nat) (z : Int) : (w.setCell ⟨b, j, none⟩ (.int .u32 z)).heap[b]? = some (.cells ((L.set j z).map (Value.int .u32)).toArray e fr) := by
  rw [heap_setCell_at h]
  simp [List.map_set]
/-- Two memories with the same words. -/
structure TwoSt (w0 w : World) (B G B' G' : Nat) (L : List Int) (c : Int) : Prop where
  one : MSt w0 w B G L c
  two : MSt w0 w B' G' L c
  n1 : B' ≠ B ∧ B' ≠ G ∧ G' ≠ B ∧ G' ≠ G
theorem TwoSt.old {w0 w w' : World} {B G B' G' : Nat} {L : List Int} {c : Int} (h : TwoSt w0 w B G B' G' L c) (k : Below w.heap.size w w') : TwoSt w0 w' B G B' G' L c := ⟨h.one.old k, h.two.old k, h.n1⟩

set_option maxHeartbeats 3200000 in
set_option maxRecDepth 100000 in
theorem own_any (w : World) (hl : Look w) (n : Int) (n0 : 0 ≤ n) (n1 : n < 256) (v : Value) (l : List rdA35) (hu : Uses w v l) :
    Calls Tryd.prog 6 #[.int .u8 n, v] w fun e w' => e = .returned (.bool true) ∧ Below w.heap.size w w' := by
  have Hu := Aside.mk hu
  obtain ⟨a, cap, rfl, h1, h2, _⟩ := hu
  have hlen : l.length ≤ 9223372036854775807 := by omega
  obtain ⟨M, HM⟩ : ∃ M : Nat, Aside ((M : Int) = 1 + n) := ⟨(1 + n).toNat, ⟨by omega⟩⟩
  have hM1 : 1 ≤ M := by have := HM.out; omega
  have hM2 : M ≤ 256 := by have := HM.out; omega
  have K1 := fun (w1 : World) (h : Below w.heap.size w w1) => new_st w w1 M hM1 (by omega) h hl
  rw [HM.out] at K1
  have K1' := Aside.mk K1
  clear K1 h1 h2 hl
  go_enter Tryd.func6, Tryd.ntmps6
  go_wp2_with fail
  refine (K1'.out _ (Below.refl _ _)).mono ?_
  rintro e w1 ⟨B, G, rfl, s1, k1, gB, gG⟩
  have S1 := Aside.mk s1
  clear s1 k1 gB gG
  go_wp2_with fail
  refine (K1'.out _ S1.out.below).mono ?_
  rintro e w2 ⟨B', G', rfl, s2, k2, gB, gG⟩
  have S2 : Aside (TwoSt w w2 B G B' G' (List.replicate M 0) 0) := ⟨⟨S1.out.old k2, s2, by
    have := lt_of_block S1.out.mem.obj
    have := lt_of_block S1.out.mem.words
    omega⟩⟩
  clear s2 k2 gB gG
  go_wp2_with fail
  refine (awake_any _ S2.out.one.look).mono ?_
  rintro e w3 ⟨rfl, b3⟩
  have S3 := Aside.mk (S2.out.old b3)
  clear b3
  go_wp2_with fail
  go_loopw [9] (fun i wr => ∃ (k : Nat) (L : List Int) (c : Int), k ≤ 40 ∧ k ≤ l.length ∧ i = .int .i64 k ∧ Aside (TwoSt w wr B G B' G' L c ∧ 0 ≤ c ∧ c ≤ k ∧ L.length = M)) (fun i _ => 40 - (intOf i).toNat)
  case atStart => exact ⟨0, _, _, by omega, by omega, rfl, ⟨S3.out, by omega, by omega, by simp⟩⟩
  case round =>
    obtain ⟨k, L, c, hk, hkl, rfl, S⟩ := hrel
    by_cases hlt : k < l.length ∧ k < 40
    · obtain ⟨hlt, hlt'⟩ := hlt
      obtain ⟨ad, kd, p, o, d, rfl, q0, q1, q2, q3, bo, bd⟩ := uses_at Hu.out k hlt
      have Q := Aside.mk (And.intro q0 (And.intro q1 (And.intro q2 q3)))
      have kb := Kept.of_below (S := fun _ => False) S.out.1.one.below
      have e0 := kb.cell Q.out.1 id
      have e1 := kb.cell Q.out.2.1 id
      have e2 := kb.cell Q.out.2.2.1 id
      have e3 := kb.cell Q.out.2.2.2 id
      clear q0 q1 q2 q3 kb
      obtain ⟨kk, Hkk⟩ : ∃ kk, Aside (kindS kd = kk) := ⟨_, ⟨rfl⟩⟩
      have kk01 : 0 ≤ kk ∧ kk ≤ 5 := by rw [← Hkk.out]; exact kindS_range _
      go_wp2_with fail
      refine (use_any kd p o d wr).mono ?_
      rintro e w4 ⟨rfl, b4⟩
      rw [Hkk.out]
      have S4 := Aside.mk (S.out.1.old b4)
      have D4 := Aside.mk (does_any S4.out.one S.out.2.1 (by have := S.out.2; omega) kk p o d kk01 bd.1 bd.2 bo.1 bo.2)
      clear b4 e0 e1 e2 e3
      go_wp2_with fail
      refine D4.out.mono ?_
      rintro e w5 ⟨rfl, s5, k5⟩
      obtain ⟨L', HL'⟩ : ∃ L', Aside (stepL L kk p o d = L') := ⟨_, ⟨rfl⟩⟩
      obtain ⟨c', Hc'⟩ : ∃ c', Aside (stepC L c p = c') := ⟨_, ⟨rfl⟩⟩
      rw [HL'.out, Hc'.out] at s5
      have S5 : Aside (MSt w w5 B G L' c' ∧ MSt w w5 B' G' L c) := ⟨s5, S4.out.two.kept_ k5 (by have := S4.out.n1; omega) (by have := S4.out.n1; omega) (fun k e => by have := S4.out.one.hB; have := S4.out.one.hG; omega)⟩
      have kb := Kept.of_below (S := fun _ => False) S5.out.1.below
      have e0 := kb.cell Q.out.1 id
      have e1 := kb.cell Q.out.2.1 id
      have e2 := kb.cell Q.out.2.2.1 id
      have e3 := kb.cell Q.out.2.2.2 id
      clear s5 k5 kb
      go_wp2_with fail
      refine (use_any kd p o d w5).mono ?_
      rintro e w6 ⟨rfl, b6⟩
      rw [Hkk.out]
      have S6 := Aside.mk (And.intro (S5.out.1.old b6) (S5.out.2.old b6))
      have D6 := Aside.mk (does_any S6.out.2 S.out.2.1 (by have := S.out.2; omega) kk p o d kk01 bd.1 bd.2 bo.1 bo.2)
      clear b6 e0 e1 e2 e3
      go_wp2_with fail
      refine D6.out.mono ?_
      rintro e w7 ⟨rfl, s7, k7⟩
      rw [HL'.out, Hc'.out] at s7
      have S7 : Aside (TwoSt w w7 B G B' G' L' c') := ⟨S6.out.1.kept_ k7 (by have := S4.out.n1; omega) (by have := S4.out.n1; omega) (fun k e => by have := S4.out.two.hB; have := S4.out.two.hG; omega), s7, S4.out.n1⟩
      have hL' : L'.length = M := by rw [← HL'.out, stepL_length]; exact S.out.2.2.2
      have hc' : Aside (0 ≤ c' ∧ c' ≤ (k + 1 : Nat)) := ⟨by have := stepC_le L c p; have := S.out.2; rw [← Hc'.out]; omega⟩
      have W8 := Aside.mk (words_any w7 B G L' c' S7.out.one.mem)
      clear s7 k7
      go_wp2_with fail
      refine W8.out.mono ?_
      rintro e w' ⟨rfl, rfl⟩
      obtain ⟨w8, H8⟩ : ∃ w8, Aside (w8 = w7.alloc (.cells (L'.map (Value.int .u32)).toArray 33)) := ⟨_, ⟨rfl⟩⟩
      have S8 : Aside (TwoSt w w8 B G B' G' L' c' ∧ w8.heap[w7.heap.size]? = some (.cells (L'.map (Value.int .u32)).toArray 33 (0, 0)) ∧ B < w7.heap.size ∧ G < w7.heap.size ∧ B' < w7.heap.size ∧ G' < w7.heap.size ∧ w.heap.size ≤ w7.heap.size) := ⟨by
        rw [H8.out]
        exact ⟨S7.out.old ((Below.refl _ _).alloc (Nat.le_refl _) _), heap_alloc_new _ _, lt_of_block S7.out.one.mem.obj, lt_of_block S7.out.one.mem.words, lt_of_block S7.out.two.mem.obj, lt_of_block S7.out.two.mem.words, S7.out.one.below.size⟩⟩
      obtain ⟨R, HR⟩ : ∃ R, Aside (w7.heap.size = R) := ⟨_, ⟨rfl⟩⟩
      rw [← H8.out, HR.out, hL']
      rw [HR.out] at S8
      clear W8 D4 D6 S6 S7
      go_wp2_with fail
      go_loopw [15] (fun i wr2 => ∃ (j : Nat) (Lx : List Int), j ≤ M ∧ i = .int .i64 j ∧ Lx.length = M ∧ Aside (wr2.heap[R]? = some (.cells (Lx.map (Value.int .u32)).toArray 33 (0, 0)) ∧ Kept (fun k => k = R) w8 wr2)) (fun i _ => M - (intOf i).toNat)
      case atStart => exact ⟨0, L', by omega, rfl, hL', ⟨S8.out.2.1, Kept.refl _ _⟩⟩
      case round =>
        obtain ⟨j, Lx, hj, rfl, hLx, T⟩ := hrel
        by_cases hjm : j < M
        · obtain ⟨y, HY⟩ : ∃ y, Aside (Lx.getD j 0 = y) := ⟨_, ⟨rfl⟩⟩
          have r0 := row_at T.out.1 j (by rw [hLx]; exact hjm) HY.out
          have f0 : wr.frozen? ⟨R, j, none⟩ = false := by simp [World.frozen?, T.out.1]
          go_wp2_with fail
          go_roundw
          case rel => exact ⟨j + 1, _, by omega, by go_num, by rw [List.length_set]; exact hLx, ⟨row_set T.out.1 j _, T.out.2.setCell (p := ⟨R, j, none⟩) (.inl rfl) _⟩⟩
          case measure => simp [intOf]; omega
        · have SE : Aside (TwoSt w wr B G B' G' L' c') := ⟨by
            have h := S8.out
            have hk := T.out.2
            have hs : ∀ k, k = R → w.heap.size ≤ k := fun k e => by omega
            exact ⟨h.1.one.kept_ hk (fun (e : B = R) => by omega) (fun (e : G = R) => by omega) hs, h.1.two.kept_ hk (fun (e : B' = R) => by omega) (fun (e : G' = R) => by omega) hs, h.1.n1⟩⟩
          go_wp2_with fail
          go_roundw
          case rel => exact ⟨k + 1, _, _, by omega, by omega, by go_num, ⟨SE.out, hc'.out.1, hc'.out.2, hL'⟩⟩
          case measure => simp [intOf]; omega
    · have c1 := Aside.mk (count_any wr B G L c S.out.1.one.mem)
      have c2 := Aside.mk (count_any wr B' G' L c S.out.1.two.mem)
      have d1 := Aside.mk (words_any wr B G L c S.out.1.one.mem)
      have hsz : (wr.alloc (.cells (L.map (Value.int .u32)).toArray 33)).heap.size = wr.heap.size + 1 := by simp
      have d2 := (words_any (wr.alloc (.cells (L.map (Value.int .u32)).toArray 33)) B' G' L c (S.out.1.two.mem.below ((Below.refl _ _).alloc (Nat.le_refl _) _)))
      have hL4 : L.length ≤ 9223372036854775807 := by have := S.out.2; omega
      have d3 := (rsame7_yes ((wr.alloc (.cells (L.map (Value.int .u32)).toArray 33)).alloc (.cells (L.map (Value.int .u32)).toArray 33)) (.slice (some ⟨wr.heap.size, 0, none⟩) L.length L.length) (.slice (some ⟨(wr.alloc (.cells (L.map (Value.int .u32)).toArray 33)).heap.size, 0, none⟩) L.length L.length) L
        ((ints_lit wr .u32 33 L hL4).below ((Below.refl _ _).alloc (Nat.le_refl _) _)) (ints_lit _ .u32 33 L hL4))
      rw [hsz] at d2 d3
      have d2 := Aside.mk d2
      have d3 := Aside.mk d3
      clear hsz
      rcases (show (k = 40 ∧ 40 < l.length) ∨ k = l.length by omega) with ⟨rfl, hkk⟩ | rfl
      all_goals
        go_wp2_with fail
        refine c1.out.mono ?_
        rintro e w' ⟨rfl, rfl⟩
        go_wp2_with fail
        refine c2.out.mono ?_
        rintro e w' ⟨rfl, rfl⟩
        go_wp2_with fail
        refine d1.out.mono ?_
        rintro e w' ⟨rfl, rfl⟩
        go_wp2_with fail
        refine d2.out.mono ?_
        rintro e w' ⟨rfl, rfl⟩
        go_wp2_with fail
        refine d3.out.mono ?_
        rintro e w' ⟨rfl, nn, rfl⟩
        go_wp2_with fail
        go_ret
        exact ⟨rfl, bel_drewN (bel_alloc (bel_alloc S.out.1.one.below _) _) _⟩
end Go.Proofs.YtbllkbcaapeajaaDoor
