/- Layer 7's laws: swaps, sums and bits of one word. -/
import Derived.Test.YtbllkbcaapeajaaDoorMemE
namespace Go.Proofs.YtbllkbcaapeajaaDoor
open Go.RowKit
set_option linter.unusedVariables false
set_option linter.unusedSimpArgs false

/-- Since w0: a memory of the call's own, all else as it was. -/
structure MSt (w0 w : World) (B G : Nat) (L : List Int) (c : Int) : Prop where
  mem : MemAt w B G L c
  below : Below w0.heap.size w0 w
  look : Look w
  hB : w0.heap.size ≤ B
  hG : w0.heap.size ≤ G
  h0 : 0 < w0.heap.size
theorem MSt.step {w0 w w' : World} {B G : Nat} {L L' : List Int} {c c' : Int} (h : MSt w0 w B G L c) (m : MemAt w' B G L' c') (k : Kept (fun k => k = B ∨ k = G) w w') : MSt w0 w' B G L' c' :=
  ⟨m, h.below.trans (k.below h.below.size (fun i hi => by rcases hi with rfl | rfl; exact h.hB; exact h.hG)), h.look.kept k (by have := h.hB; have := h.hG; have := h.h0; omega), h.hB, h.hG, h.h0⟩
theorem MSt.old {w0 w w' : World} {B G : Nat} {L : List Int} {c : Int} (h : MSt w0 w B G L c) (k : Below w.heap.size w w') : MSt w0 w' B G L c :=
  ⟨h.mem.below k, h.below.trans (k.mono h.below.size), h.look.below k, h.hB, h.hG, h.h0⟩
theorem MSt.nB {w0 w : World} {B G : Nat} {L : List Int} {c : Int} (h : MSt w0 w B G L c) : 0 ≠ B := by have := h.hB; have := h.h0; omega
theorem MSt.nG {w0 w : World} {B G : Nat} {L : List Int} {c : Int} (h : MSt w0 w B G L c) : 0 ≠ G := by have := h.hG; have := h.h0; omega
theorem MSt.new {w0 w w' : World} {n : Nat} (hb : Below w0.heap.size w0 w) (hl : Look w0) (m : MemAt w' (w.heap.size + 1) w.heap.size (List.replicate n 0) 0) (k : Below w.heap.size w w') : MSt w0 w' (w.heap.size + 1) w.heap.size (List.replicate n 0) 0 :=
  ⟨m, hb.trans (k.mono hb.size), (hl.below hb).below k, by have := hb.size; omega, hb.size, World.block_lt_of_cell? w0 _ hl.and⟩

theorem new_st (w0 w : World) (n : Nat) (h1 : 1 ≤ n) (h2 : n ≤ 4096) (hb : Below w0.heap.size w0 w) (hl : Look w0) :
    Calls Tryd.prog 8 #[.int .i64 (n : Int)] w fun e w' => ∃ B G, e = .returned (.tuple #[.pointer (some ⟨B, 0, none⟩), .int .i64 0]) ∧ MSt w0 w' B G (List.replicate n 0) 0 ∧ Below w.heap.size w w' ∧ w.heap.size ≤ B ∧ w.heap.size ≤ G :=
  (new_yes n w h1 h2).mono fun e w' ⟨h, m, k⟩ => ⟨_, _, h, MSt.new hb hl m k, k, by omega, Nat.le_refl _⟩
theorem zeros_at (m n : Nat) (h : n < m) : Aside ((List.replicate m (0 : Int)).getD n 0 = 0) := ⟨by simp [List.getD_eq_getElem?_getD, List.getElem?_replicate, h]⟩
theorem len_zeros (m n : Nat) (h : n < m) : n < (List.replicate m (0 : Int)).length := by rw [List.length_replicate]; exact h
theorem len_set (L : List Int) (n i : Nat) (h : n < L.length) (x : Int) : n < (L.set i x).length := by rw [List.length_set]; exact h
theorem set_at (L : List Int) (n : Nat) (h : n < L.length) (x : Int) : Aside ((L.set n x).getD n 0 = x) := ⟨by simp [List.getD_eq_getElem?_getD, h]⟩

set_option maxHeartbeats 1600000 in
theorem swaps_any (w : World) (hl : Look w) (at_ o v z : Int) (a0 : 0 ≤ at_) (a1 : at_ < 256) (o0 : 0 ≤ o) (o1 : o < 4294967296) (v0 : 0 ≤ v) (v1 : v < 4294967296) (z0 : 0 ≤ z) (z1 : z < 4294967296) :
    Calls Tryd.prog 5 #[.int .u8 at_, .int .u32 o, .agg #[.int .u32 v, .int .u32 z]] w fun e w' => e = .returned (.bool true) ∧ Below w.heap.size w w' := by
  obtain ⟨n, rfl⟩ := Int.eq_ofNat_of_zero_le a0
  have hb0 : ∀ (x : Obj) (m : Nat), Below w.heap.size w ((w.alloc x).drewN m) := fun x m => below_then ((Below.refl _ _).alloc (Nat.le_refl _) x) (below_drewN _ _)
  have K0 := Aside.mk (fun w' hb => new_st w w' 256 (by decide) (by decide) hb hl)
  have hn : n < 256 := by omega
  clear hl
  go_enter Tryd.func5, Tryd.ntmps5
  go_wp2_with fail
  go_quiet (fail)
  go_wp2_with fail
  refine (K0.out _ (hb0 _ _)).mono ?_
  rintro e w1 ⟨B, G, rfl, m1, b1⟩
  have s1 := Aside.mk m1
  clear m1 b1
  go_wp2_with fail
  refine (awake_any _ s1.out.look).mono ?_
  rintro e w2 ⟨rfl, b2⟩
  have s2 := Aside.mk (s1.out.old b2)
  have K1 := Aside.mk (store_yes w2 _ _ _ 0 n s2.out.mem s2.out.look (len_zeros _ _ hn) 0 (zeros_at _ _ hn) (by decide) (by decide) s2.out.nB s2.out.nG o o0 o1)
  clear b2
  go_wp2_with fail
  refine K1.out.mono ?_
  rintro e w3 ⟨rfl, m3, k3⟩
  have s3 := Aside.mk (s2.out.step m3 k3)
  have hlen : n < ((List.replicate 256 (0 : Int)).set n o).length := len_set _ _ _ (len_zeros _ _ hn) _
  have K2 := Aside.mk (swap_yes w3 _ _ _ (0 + 1) n s3.out.mem s3.out.look hlen o (set_at _ _ (len_zeros _ _ hn) _) (by decide) (by decide) s3.out.nB s3.out.nG v v0 v1 z z0 z1)
  clear m3 k3
  by_cases hoz : o = z
  · have hozb : (o == z) = true := beq_iff_eq.2 hoz
    have K2' := K2.out
    rw [if_pos hoz, hozb] at K2'
    have K2'' := Aside.mk K2'
    clear K2 K2' hoz
    go_wp2_with fail
    refine K2''.out.mono ?_
    rintro e w4 ⟨rfl, m4, k4⟩
    have s4 := Aside.mk (s3.out.step m4 k4)
    have K3 := Aside.mk (load_yes w4 _ _ _ (0 + 1 + 1) n s4.out.mem s4.out.look (len_set _ _ _ hlen _) v (set_at _ _ hlen _) (by decide) (by decide) s4.out.nB s4.out.nG)
    clear m4 k4 hlen
    go_wp2_with fail
    refine K3.out.mono ?_
    rintro e w5 ⟨rfl, m5, k5⟩
    have s5 := Aside.mk (s4.out.step m5 k5)
    clear m5 k5
    go_wp2_with fail
    go_ret
    exact ⟨ret_bool (by simp), s5.out.below⟩
  · have hozb : (o == z) = false := beq_eq_false_iff_ne.2 hoz
    have K2' := K2.out
    rw [if_neg hoz, hozb] at K2'
    have K2'' := Aside.mk K2'
    clear K2 K2' hoz
    go_wp2_with fail
    refine K2''.out.mono ?_
    rintro e w4 ⟨rfl, m4, k4⟩
    have s4 := Aside.mk (s3.out.step m4 k4)
    have K3 := Aside.mk (load_yes w4 _ _ _ (0 + 1 + 1) n s4.out.mem s4.out.look hlen o (set_at _ _ (len_zeros _ _ hn) _) (by decide) (by decide) s4.out.nB s4.out.nG)
    clear m4 k4 hlen
    go_wp2_with fail
    refine K3.out.mono ?_
    rintro e w5 ⟨rfl, m5, k5⟩
    have s5 := Aside.mk (s4.out.step m5 k5)
    clear m5 k5
    go_wp2_with fail
    go_ret
    exact ⟨ret_bool (by simp), s5.out.below⟩

theorem add_back (v d : Int) (d0 : 0 ≤ d) (d1 : d < 4294967296) : ((v + d) % 4294967296 - v) % 4294967296 = d := by omega
theorem or_and (y b : Int) (y0 : 0 ≤ y) (y1 : y < 4294967296) (b0 : 0 ≤ b) (b1 : b < 4294967296) : Go.bits .and .u32 (Go.bits .or .u32 y b) b = b := by
  obtain ⟨m, rfl⟩ := Int.eq_ofNat_of_zero_le y0
  obtain ⟨n, rfl⟩ := Int.eq_ofNat_of_zero_le b0
  rw [bits_or32 m n (by omega) (by omega), bits_and32 _ n (Nat.or_lt_two_pow (n := 32) (by omega) (by omega)) (by omega)]
  congr 1
  apply Nat.eq_of_testBit_eq
  intro i
  rw [Nat.testBit_and, Nat.testBit_or]
  cases m.testBit i <;> cases n.testBit i <;> rfl
theorem or_clear (y b : Int) (y0 : 0 ≤ y) (y1 : y < 4294967296) (b0 : 0 ≤ b) (b1 : b < 4294967296) : Go.bits .andNot .u32 (Go.bits .or .u32 y b) b = Go.bits .andNot .u32 y b := by
  obtain ⟨m, rfl⟩ := Int.eq_ofNat_of_zero_le y0
  obtain ⟨n, rfl⟩ := Int.eq_ofNat_of_zero_le b0
  rw [bits_or32 m n (by omega) (by omega)]
  have e : BitVec.ofNat IntKind.u32.bits (m ||| n) = BitVec.ofNat IntKind.u32.bits m ||| BitVec.ofNat IntKind.u32.bits n := by
    apply BitVec.eq_of_toNat_eq
    simp [BitVec.toNat_or, Nat.or_mod_two_pow]
  have g : ∀ x y : BitVec IntKind.u32.bits, (x ||| y) &&& ~~~y = x &&& ~~~y := by
    intro x y
    apply BitVec.eq_of_getLsbD_eq
    intro i hi
    simp only [BitVec.getLsbD_and, BitVec.getLsbD_or, BitVec.getLsbD_not]
    cases x.getLsbD i <;> cases y.getLsbD i <;> simp
  simp only [Go.bits, BitVec.ofInt_natCast, e, g]

set_option maxHeartbeats 1600000 in
theorem adds_any (w : World) (hl : Look w) (v d b : Int) (v0 : 0 ≤ v) (v1 : v < 4294967296) (d0 : 0 ≤ d) (d1 : d < 4294967296) (b0 : 0 ≤ b) (b1 : b < 4294967296) :
    Calls Tryd.prog 7 #[.int .u32 v, .int .u32 d, .int .u32 b] w fun e w' => e = .returned (.bool true) ∧ Below w.heap.size w w' := by
  have K0 := Aside.mk (fun w' hb => new_st w w' 1 (by decide) (by decide) hb hl)
  obtain ⟨s, Hs⟩ : ∃ s, Aside ((v + d) % 4294967296 = s) := ⟨_, ⟨rfl⟩⟩
  have hs0 : 0 ≤ s := by rw [← Hs.out]; omega
  have hs1 : s < 4294967296 := by rw [← Hs.out]; omega
  obtain ⟨r, Hr⟩ : ∃ r, Aside (Go.bits .or .u32 s b = r) := ⟨_, ⟨rfl⟩⟩
  have e1 : ((s - v) % 4294967296 == d) = true := by rw [← Hs.out]; exact beq_iff_eq.2 (add_back v d d0 d1)
  have e2 : (Go.bits .and .u32 r b == b) = true := by rw [← Hr.out]; exact beq_iff_eq.2 (or_and s b hs0 hs1 b0 b1)
  have e3 : (Go.bits .andNot .u32 r b == Go.bits .andNot .u32 s b) = true := by rw [← Hr.out]; exact beq_iff_eq.2 (or_clear s b hs0 hs1 b0 b1)
  clear hl
  go_enter Tryd.func7, Tryd.ntmps7
  go_wp2_with fail
  refine (K0.out _ (Below.refl _ _)).mono ?_
  rintro e w1 ⟨B, G, rfl, m1, k1⟩
  have s1 := Aside.mk m1
  clear m1 k1
  go_wp2_with fail
  refine (awake_any _ s1.out.look).mono ?_
  rintro e w2 ⟨rfl, k2⟩
  have s2 := Aside.mk (s1.out.old k2)
  have K1 := Aside.mk (store_yes w2 _ _ _ 0 0 s2.out.mem s2.out.look (by decide) 0 ⟨rfl⟩ (by decide) (by decide) s2.out.nB s2.out.nG v v0 v1)
  clear k2
  go_wp2_with fail
  refine K1.out.mono ?_
  rintro e w3 ⟨rfl, m3, k3⟩
  replace m3 : MemAt w3 B G [v] 1 := m3
  have s3 := Aside.mk (s2.out.step m3 k3)
  have K2 := Aside.mk (add_yes w3 _ _ _ 1 0 s3.out.mem s3.out.look (by simp) v ⟨rfl⟩ (by decide) (by decide) s3.out.nB s3.out.nG d d0 d1)
  clear m3 k3
  go_wp2_with fail
  refine K2.out.mono ?_
  rintro e w4 ⟨rfl, m4, k4⟩
  rw [Hs.out] at m4
  replace m4 : MemAt w4 B G [s] 2 := m4
  have s4 := Aside.mk (s3.out.step m4 k4)
  have K3 := Aside.mk (or_yes w4 _ _ _ 2 0 s4.out.mem s4.out.look (by simp) s ⟨rfl⟩ (by decide) (by decide) s4.out.nB s4.out.nG b b0 b1)
  clear m4 k4
  go_wp2_with fail
  refine K3.out.mono ?_
  rintro e w5 ⟨rfl, m5, k5⟩
  rw [Hr.out] at m5
  replace m5 : MemAt w5 B G [r] 3 := m5
  have s5 := Aside.mk (s4.out.step m5 k5)
  have K4 := Aside.mk (take_yes w5 _ _ _ 3 0 s5.out.mem s5.out.look (by simp) r ⟨rfl⟩ (by decide) (by decide) s5.out.nB s5.out.nG)
  clear m5 k5
  go_wp2_with fail
  refine K4.out.mono ?_
  rintro e w6 ⟨rfl, m6, k6⟩
  replace m6 : MemAt w6 B G [0] 4 := m6
  have s6 := Aside.mk (s5.out.step m6 k6)
  have K5 := Aside.mk (load_yes w6 _ _ _ 4 0 s6.out.mem s6.out.look (by simp) 0 ⟨rfl⟩ (by decide) (by decide) s6.out.nB s6.out.nG)
  clear m6 k6
  go_wp2_with fail
  refine K5.out.mono ?_
  rintro e w7 ⟨rfl, m7, k7⟩
  have s7 := Aside.mk (s6.out.step m7 k7)
  clear m7 k7
  go_wp2_with fail
  go_ret
  exact ⟨ret_bool (by simp), s7.out.below⟩
end Go.Proofs.YtbllkbcaapeajaaDoor
