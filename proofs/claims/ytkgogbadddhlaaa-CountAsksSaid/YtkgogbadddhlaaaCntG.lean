/- Layer 1's law on what Where asks about. -/
import Derived.Test.YtkgogbadddhlaaaCntD
namespace Go.Proofs.Ytkgogbadddhlaaa
open Go.RowKit
set_option linter.unusedVariables false
set_option linter.unusedSimpArgs false

theorem callFunc_asks1 (args : Array Value) (w : World) : (callFunc 30 args).run Try.prog w = .ok (.enter 30 args) w := by kernel_rfl

/-- The numbers below c. -/
def upTo (c : Nat) : List Int := (List.range c).map fun (i : Nat) => (i : Int)
theorem upTo_succ (c : Nat) : upTo (c + 1) = upTo c ++ [(c : Int)] := by simp [upTo, List.range_succ]
theorem upTo_len (c : Nat) : (upTo c).length = c := by simp [upTo]
theorem upTo_get (c i : Nat) (h : i < c) : (upTo c).getD i 0 = i := by
  rw [List.getD_eq_getElem?_getD, List.getElem?_eq_getElem (by rw [upTo_len]; exact h)]
  simp [upTo]

/-- What the asking keeps: the list's cell, the set's, what was asked. -/
structure AskJ (w0 : World) (s : Int) (B : Nat) (c : Nat) (wr : World) : Prop where
  below : Below w0.heap.size w0 wr
  hB : B = w0.heap.size
  size : B + 3 ≤ wr.heap.size
  set : wr.heap[B]? = some (.cells #[.int .u8 s] 32 (0, 0))
  list : ∃ v, wr.heap[B + 2]? = some (.cells #[v] 31 (0, 0)) ∧ wr.ownsRow (B + 1) 3 1 v c ((upTo c).map (Value.int .i64)) ∧ v.ownBlock ≠ some (B + 2)

theorem asks_place : ∀ c < 8, min (IntKind.u64.wrap (Go.bits .and .i64 ((c : Nat) : Int) 7)).toNat 8 = c := by decide
theorem asks_bits (c s : Nat) (hc : c < 8) (hs : s < 256) : (Go.bits .and .u8 ((s : Int) / 2 ^ min (IntKind.u64.wrap (Go.bits .and .i64 (c : Int) 7)).toNat 8) 1 == 1) = s.testBit c := by
  rw [asks_place c hc]
  have e : ((s : Nat) : Int) / 2 ^ c = ((s / 2 ^ c : Nat) : Int) := by simp
  have hq := quo_bit s c
  have hl : s / 2 ^ c < 256 := Nat.lt_of_le_of_lt (Nat.div_le_self _ _) hs
  rw [e]
  generalize s / 2 ^ c = q at *
  have h1 := bits_and8 q 1 hl (by decide)
  rw [show ((1 : Nat) : Int) = 1 by rfl] at h1
  rw [h1, Nat.and_one_is_mod, hq]
  cases s.testBit c <;> rfl

theorem asks1_any (w0 : World) (s : Int) (s0 : 0 ≤ s) (s1 : s < 256) (B c : Nat) (hc : c < 8) (w : World) (h : AskJ w0 s B c w) :
    Calls Try.prog 30 #[.int .i64 c, .pointer (some ⟨B + 2, 0, none⟩), .pointer (some ⟨B, 0, none⟩)] w fun e w' => e = .returned (.bool (s.toNat.testBit c)) ∧ AskJ w0 s B (c + 1) w' := by
  have H := Aside.mk h
  obtain ⟨hb, hB, hz, hset, v, hv, hown, hne⟩ := h
  have hcs := cell_of_one hset
  have hcv := cell_of_one hv
  have hcv1 : ∀ (x : Obj), (w.alloc x).cell? ⟨B + 2, 0, none⟩ = some v := fun x => by
    rw [World.cell?_alloc_past _ _ _ (show B + 2 < w.heap.size by omega)]; exact cell_of_one hv
  have Hv := Aside.mk hv
  have hneB : v.ownBlock ≠ some B := fun e => by have := own_base hown _ e; omega
  clear hb hB hset hv
  go_enter Try.func30, Try.ntmps30
  go_wp2_with (at_builtin; refine append_elem (B + 1) rfl _ _ 31 3 (.int .i64 0) 1 8 rfl Try.underlying31 A_info_int rfl (by decide) (by decide) v _ _ [.int .i64 c] rfl rfl rfl (by simp [Value.oneCell']) hown (by omega) (by omega) ?_)
  intro v1 w1 hown1 hg hat
  obtain ⟨A1, c1, rfl⟩ := own_len hown1
  have hv1 : w1.heap[B + 2]? = some (.cells #[v] 31 (0, 0)) := (hg.block (B + 2) (by omega) (Ne.symm hne)).trans Hv.out
  have hs1 : w1.heap[B]? = some (.cells #[.int .u8 s] 32 (0, 0)) := (hg.block B (by omega) (Ne.symm hneB)).trans H.out.set
  have hne1 : (Value.slice A1 (c + 1) c1).ownBlock ≠ some (B + 2) := by
    intro e
    rcases hat with h | h
    · exact hne (h.symm.trans e)
    · rw [h] at e
      injection e with e
      omega
  have hcv2 := cell_of_one hv1
  have hfv2 := free_of_one hv1
  have hs3 : (w1.setCell ⟨B + 2, 0, none⟩ (.slice A1 (c + 1) c1)).heap[B]? = some (.cells #[.int .u8 s] 32 (0, 0)) := by
    rw [Below.heap_setCell _ _ _ _ (show B ≠ B + 2 by omega)]; exact hs1
  have hs4 := cell_of_one hs3
  have fin : AskJ w0 s B (c + 1) (w1.setCell ⟨B + 2, 0, none⟩ (.slice A1 (c + 1) c1)) := by
    have hlt : w.heap.size ≤ w1.heap.size := hg.size
    have hB0 : w0.heap.size = B := H.out.hB.symm
    refine ⟨?_, H.out.hB, by simp [World.setCell]; omega, hs3, _, one_setCell hv1, ?_, hne1⟩
    · refine (H.out.below.grown hg (by omega) (fun k hk => ?_)).setCell (by show _ ≤ B + 2; omega) _
      have := own_base hown k hk
      omega
    · rw [upTo_succ]
      refine ownsRow_setCell_other ?_ hne1 _
      simpa using hown1
  have Fin := Aside.mk fin
  clear hv1 hs1 hs3 fin hat hne1 hcv1 hneB hown1 hg hcv hcs
  go_wp2
  go_ret
  refine ⟨ret_bool ?_, Fin.out⟩
  obtain ⟨n, rfl⟩ := Int.eq_ofNat_of_zero_le s0
  exact asks_bits c n hc (by omega)

theorem maskTo_bits (s : Nat) (c : Nat) : maskTo s.testBit c = s % 2 ^ c := by
  apply Nat.eq_of_testBit_eq
  intro i
  rw [maskTo_bit, Nat.testBit_mod_two_pow]
theorem asks_got (m s : Nat) (hm : m ≤ 8) (hs : s < 256) (x : Int) (hx : x = ((2 ^ m - 1 : Nat) : Int)) : (((maskTo (Nat.testBit s) m : Nat) : Int) == Go.bits .and .u8 (s : Int) x) = true := by
  have hp : 2 ^ m ≤ 2 ^ 8 := Nat.pow_le_pow_right (by decide) hm
  have := Nat.two_pow_pos m
  rw [hx, bits_and8 _ _ hs (by omega), Nat.and_two_pow_sub_one_eq_mod, maskTo_bits]
  simp

theorem asks_any (n s : Int) (n1 : n ≤ 9223372036854775807) (n0 : -9223372036854775808 ≤ n) (s0 : 0 ≤ s) (s1 : s < 256) (w : World) :
    Calls Try.prog 10 #[.int .i64 n, .int .u8 s] w fun e w' => e = .returned (.bool true) ∧ Below w.heap.size w w' := by
  have hmf : ∀ (fn : Fn) (first cap : Array Value) (w : World), (Instr.makeFunc fn first cap).run Try.prog w = .ok (.func fn first cap) w := fun _ _ _ _ => rfl
  obtain ⟨W3, HW3⟩ : ∃ W3, Aside (W3 = ((w.alloc (.cells #[.int .u8 s] 32)).alloc (.cells #[] 3)).alloc (.cells #[.slice (some ⟨w.heap.size + 1, 0, none⟩) 0 0] 31)) := ⟨_, ⟨rfl⟩⟩
  have j0 : AskJ w s w.heap.size 0 W3 := by
    rw [HW3.out]
    refine ⟨(((Below.refl _ _).alloc (Nat.le_refl _) _).alloc (by simp) _).alloc (by simp; omega) _, rfl, by simp, ?_, _, by simpa using heap_alloc_new ((w.alloc (.cells #[.int .u8 s] 32)).alloc (.cells #[] 3)) (.cells #[.slice (some ⟨w.heap.size + 1, 0, none⟩) 0 0] 31), ?_, by simp [Value.ownBlock]⟩
    · exact (Below.heap_alloc _ _ _ (by simp; omega)).trans ((Below.heap_alloc _ _ _ (by simp)).trans (heap_alloc_new _ _))
    · have := World.ownsRow_lit (base := w.heap.size + 1) (e := 3) (size := 1) (w.alloc (.cells #[.int .u8 s] 32)) #[] 0 (by simp) (by decide) rfl
      simpa [upTo] using this.alloc _
  obtain ⟨m, Hm⟩ : ∃ m, Aside (min n.toNat 8 = m) := ⟨_, ⟨rfl⟩⟩
  have hm8 : m ≤ 8 := by rw [← Hm.out]; omega
  have kw := where_any n n1 30 #[.pointer (some ⟨w.heap.size + 2, 0, none⟩), .pointer (some ⟨w.heap.size, 0, none⟩)] callFunc_asks1 s.toNat.testBit (AskJ w s w.heap.size)
    (fun c hc wr h => asks1_any w s s0 s1 w.heap.size c hc wr h) W3 j0
  rw [Hm.out, HW3.out] at kw
  have Kw := Aside.mk kw
  clear kw j0
  by_cases h8 : 8 < n
  · obtain rfl : m = 8 := by have := Hm.out; omega
    go_enter Try.func10, Try.ntmps10
    go_wp2_with fail
    refine Kw.out.mono ?_
    rintro e w1 ⟨rfl, hb, hB, hz, hset, v, hv, hown, hne⟩
    have Hset := Aside.mk hset
    have Hv := Aside.mk hv
    clear hset hv hB
    obtain ⟨A1, c1, rfl⟩ := own_len hown
    have Hown := Aside.mk (own_ints hown)
    clear hown hne
    go_wp2_with fail
    refine (awake_any _).mono ?_
    rintro e w2 ⟨rfl, hb2⟩
    have d1 : w2.cell? ⟨w.heap.size, 0, none⟩ = some (.int .u8 s) := (hb2.cell (by show w.heap.size < _; omega)).trans (cell_of_one Hset.out)
    have d2 : w2.cell? ⟨w.heap.size + 1 + 1, 0, none⟩ = some (.slice A1 8 c1) := (hb2.cell (by show w.heap.size + 2 < _; omega)).trans (cell_of_one Hv.out)
    have hi2 := Hown.out.below hb2
    obtain ⟨A2, c2, h1, h2, h3⟩ := hi2
    rw [upTo_len] at h1 h3
    injection h1 with h1 h4 h5
    subst h1
    have H3 := Aside.mk h3
    clear h2 h3 h4 h5
    go_wp2_with fail
    go_loop [8] (fun i => ∃ k : Nat, k ≤ 8 ∧ i = .int .i64 k) (fun i => 8 - (intOf i).toNat)
    case atStart => exact ⟨0, by omega, rfl⟩
    case round =>
      obtain ⟨k, hk, rfl⟩ := hrel
      by_cases hlt : k < 8
      · obtain ⟨ad, rfl, hcells⟩ := H3.out (by omega)
        have hck := hcells k hlt
        rw [upTo_get _ _ hlt] at hck
        clear hcells
        go_wp2_with fail
        go_round
        case rel => exact ⟨k + 1, by omega, by go_num⟩
        case measure => simp [intOf]; omega
      · go_wp2_with fail
        go_ret
        refine ⟨ret_bool ?_, below_then hb hb2⟩
        obtain ⟨s, rfl⟩ := Int.eq_ofNat_of_zero_le s0
        refine asks_got 8 s (by omega) (by omega) _ ?_
        decide

  · by_cases h0 : n < 0
    · obtain rfl : m = 0 := by have := Hm.out; omega
      go_enter Try.func10, Try.ntmps10
      go_wp2_with fail
      refine Kw.out.mono ?_
      rintro e w1 ⟨rfl, hb, hB, hz, hset, v, hv, hown, hne⟩
      have Hset := Aside.mk hset
      have Hv := Aside.mk hv
      clear hset hv hB
      obtain ⟨A1, c1, rfl⟩ := own_len hown
      have Hown := Aside.mk (own_ints hown)
      clear hown hne
      go_wp2_with fail
      refine (awake_any _).mono ?_
      rintro e w2 ⟨rfl, hb2⟩
      have d1 : w2.cell? ⟨w.heap.size, 0, none⟩ = some (.int .u8 s) := (hb2.cell (by show w.heap.size < _; omega)).trans (cell_of_one Hset.out)
      have d2 : w2.cell? ⟨w.heap.size + 1 + 1, 0, none⟩ = some (.slice A1 0 c1) := (hb2.cell (by show w.heap.size + 2 < _; omega)).trans (cell_of_one Hv.out)
      have hi2 := Hown.out.below hb2
      obtain ⟨A2, c2, h1, h2, h3⟩ := hi2
      rw [upTo_len] at h1 h3
      injection h1 with h1 h4 h5
      subst h1
      have H3 := Aside.mk h3
      clear h2 h3 h4 h5
      go_wp2_with fail
      go_loop [8] (fun i => ∃ k : Nat, k ≤ 0 ∧ i = .int .i64 k) (fun i => 0 - (intOf i).toNat)
      case atStart => exact ⟨0, by omega, rfl⟩
      case round =>
        obtain ⟨k, hk, rfl⟩ := hrel
        by_cases hlt : k < 0
        · omega
        · go_wp2_with fail
          go_ret
          refine ⟨ret_bool ?_, below_then hb hb2⟩
          obtain ⟨s, rfl⟩ := Int.eq_ofNat_of_zero_le s0
          refine asks_got 0 s (by omega) (by omega) _ ?_
          all_goals decide

    · obtain rfl : n = (m : Int) := by have := Hm.out; omega
      go_enter Try.func10, Try.ntmps10
      go_wp2_with fail
      refine Kw.out.mono ?_
      rintro e w1 ⟨rfl, hb, hB, hz, hset, v, hv, hown, hne⟩
      have Hset := Aside.mk hset
      have Hv := Aside.mk hv
      clear hset hv hB
      obtain ⟨A1, c1, rfl⟩ := own_len hown
      have Hown := Aside.mk (own_ints hown)
      clear hown hne
      go_wp2_with fail
      refine (awake_any _).mono ?_
      rintro e w2 ⟨rfl, hb2⟩
      have d1 : w2.cell? ⟨w.heap.size, 0, none⟩ = some (.int .u8 s) := (hb2.cell (by show w.heap.size < _; omega)).trans (cell_of_one Hset.out)
      have d2 : w2.cell? ⟨w.heap.size + 1 + 1, 0, none⟩ = some (.slice A1 m c1) := (hb2.cell (by show w.heap.size + 2 < _; omega)).trans (cell_of_one Hv.out)
      have hi2 := Hown.out.below hb2
      obtain ⟨A2, c2, h1, h2, h3⟩ := hi2
      rw [upTo_len] at h1 h3
      injection h1 with h1 h4 h5
      subst h1
      have H3 := Aside.mk h3
      clear h2 h3 h4 h5
      go_wp2_with fail
      go_loop [8] (fun i => ∃ k : Nat, k ≤ m ∧ i = .int .i64 k) (fun i => m - (intOf i).toNat)
      case atStart => exact ⟨0, by omega, rfl⟩
      case round =>
        obtain ⟨k, hk, rfl⟩ := hrel
        by_cases hlt : k < m
        · obtain ⟨ad, rfl, hcells⟩ := H3.out (by omega)
          have hck := hcells k hlt
          rw [upTo_get _ _ hlt] at hck
          clear hcells
          go_wp2_with fail
          go_round
          case rel => exact ⟨k + 1, by omega, by go_num⟩
          case measure => simp [intOf]; omega
        · go_wp2_with fail
          go_ret
          refine ⟨ret_bool ?_, below_then hb hb2⟩
          obtain ⟨s, rfl⟩ := Int.eq_ofNat_of_zero_le s0
          refine asks_got m s (by omega) (by omega) _ ?_
          have h9 : m = 0 ∨ m = 1 ∨ m = 2 ∨ m = 3 ∨ m = 4 ∨ m = 5 ∨ m = 6 ∨ m = 7 ∨ m = 8 := by omega
          clear hk hlt Hm H3 Kw Hown Hv d2
          rcases h9 with rfl | rfl | rfl | rfl | rfl | rfl | rfl | rfl | rfl <;> decide

end Go.Proofs.Ytkgogbadddhlaaa
