/- Layer 1's functions on sets of cores, and its reference's: each computes what the plain side says; no memory that was there is changed. -/
import Derived.Test.YtkgogbadddhlaaaCntA
namespace Go.Proofs.Ytkgogbadddhlaaa
open Go.RowKit
set_option linter.unusedVariables false
set_option linter.unusedSimpArgs false

theorem is_any (a : Int) (w : World) :
    Calls Try.prog 34 #[.int .i64 a] w fun e w' => e = .returned (.bool (decide (0 ≤ a) && decide (a < 8))) ∧ w = w' := by
  by_cases h0 : 0 ≤ a
  · by_cases h1 : a < 8
    · go_enter Try.func34, Try.ntmps34
      go_wp2
      go_ret
      exact ⟨ret_bool (by simp [h0, h1]), rfl⟩
    · go_enter Try.func34, Try.ntmps34
      go_wp2
      go_ret
      exact ⟨ret_bool (by simp [h0]; omega), rfl⟩
  · go_enter Try.func34, Try.ntmps34
    go_wp2
    go_ret
    exact ⟨ret_bool (by simp; omega), rfl⟩

theorem bit_any (a : Int) (h0 : 0 ≤ a) (h1 : a < 8) (w : World) :
    Calls Try.prog 35 #[.int .i64 a] w fun e w' => e = .returned (.int .u8 ((2 ^ a.toNat : Nat) : Int)) ∧ w = w' := by
  obtain ⟨n, rfl⟩ := Int.eq_ofNat_of_zero_le h0
  have : n = 0 ∨ n = 1 ∨ n = 2 ∨ n = 3 ∨ n = 4 ∨ n = 5 ∨ n = 6 ∨ n = 7 := by omega
  rcases this with rfl | rfl | rfl | rfl | rfl | rfl | rfl | rfl
  all_goals
    go_enter Try.func35, Try.ntmps35
    go_wp2
    go_ret
    exact ⟨ret_int (by decide), rfl⟩

theorem has_any (s : Int) (c : Int) (hs : 0 ≤ s) (hs' : s < 256) (w : World) :
    Calls Try.prog 24 #[.int .u8 s, .int .i64 c] w fun e w' => e = .returned (.bool (hasB s.toNat c)) ∧ w = w' := by
  by_cases h : 0 ≤ c ∧ c < 8
  · obtain ⟨h0, h1⟩ := h
    have hd : (decide (0 ≤ c) && decide (c < 8)) = true := by simp [h0, h1]
    have hi := is_any c w
    rw [hd] at hi
    have Hi := Aside.mk hi
    clear hi
    have Hd := Aside.mk hd
    clear hd
    go_enter Try.func24, Try.ntmps24
    go_wp2_with (first | (go_at_call 34; refine Hi.out.mono ?_; rintro e w' ⟨rfl, rfl⟩) | (go_at_call 35; refine (bit_any _ h0 h1 _).mono ?_; rintro e w' ⟨rfl, rfl⟩))
    go_ret
    obtain ⟨n, rfl⟩ := Int.eq_ofNat_of_zero_le hs
    obtain ⟨m, rfl⟩ := Int.eq_ofNat_of_zero_le h0
    refine ⟨ret_bool ?_, rfl⟩
    rw [hasB, Hd.out, Bool.true_and]
    exact and_bit n (by omega) m (by omega)
  · have hd : (decide (0 ≤ c) && decide (c < 8)) = false := by simp; omega
    have hi := is_any c w
    rw [hd] at hi
    have Hi := Aside.mk hi
    clear hi
    have Hd := Aside.mk hd
    clear hd
    go_enter Try.func24, Try.ntmps24
    go_wp2_with (go_at_call 34; refine Hi.out.mono ?_; rintro e w' ⟨rfl, rfl⟩)
    go_ret
    refine ⟨ret_bool ?_, rfl⟩
    rw [hasB, Hd.out, Bool.false_and]

/-- The bits of s from c on, as a quotient. -/
theorem quo_bit (s c : Nat) : s / 2 ^ c % 2 = if s.testBit c then 1 else 0 := by
  rw [Nat.testBit_eq_decide_div_mod_eq]
  have : s / 2 ^ c % 2 = 0 ∨ s / 2 ^ c % 2 = 1 := by omega
  rcases this with h | h <;> simp [h]

theorem rhas_any (s : Int) (c : Int) (hs : 0 ≤ s) (hs' : s < 256) (w : World) :
    Calls Try.prog 25 #[.int .u8 s, .int .i64 c] w fun e w' => e = .returned (.bool (hasB s.toNat c)) ∧ w = w' := by
  go_enter Try.func25, Try.ntmps25
  go_wp2
  go_loop [5, 6] (fun n i => ∃ (k : Nat) (m : Int), k ≤ 8 ∧ i = .int .i64 k ∧ n = .int .i64 m ∧ 0 ≤ m ∧ m < 256 ∧ Aside (m = ((s.toNat / 2 ^ k : Nat) : Int)) ∧ Aside (∀ j < k, c ≠ (j : Int))) (fun _ i => 8 - (intOf i).toNat)
  case atStart => exact ⟨0, s, by omega, rfl, rfl, hs, hs', ⟨by simp; omega⟩, ⟨by omega⟩⟩
  case round =>
    obtain ⟨k, m, hk, rfl, rfl, hm0, hm1, hm, hne⟩ := hrel
    by_cases hk8 : k < 8
    · by_cases he : (k : Int) = c
      · have heb : ((k : Int) == c) = true := beq_iff_eq.2 he
        have He := Aside.mk he
        clear he
        go_wp2
        go_ret
        refine ⟨ret_bool ?_, rfl⟩
        rw [← He.out, hasB_nat _ _ hk8, hm.out]
        have hq := quo_bit s.toNat k
        generalize s.toNat / 2 ^ k = q at *
        cases hb : s.toNat.testBit k <;> rw [hb] at hq <;> simp at hq ⊢ <;> omega
      · have heb : ((k : Int) == c) = false := beq_eq_false_iff_ne.2 he
        have He := Aside.mk he
        clear he
        go_wp2
        go_round
        case rel =>
          refine ⟨k + 1, m / 2, by omega, by go_num, rfl, by omega, by omega, ⟨?_⟩, ⟨?_⟩⟩
          · rw [hm.out, Nat.pow_succ, ← Nat.div_div_eq_div_mul]; simp
          · intro j hj e
            by_cases e2 : j = k
            · subst e2; exact He.out e.symm
            · exact hne.out j (by omega) e
        case measure => simp [intOf]; omega
    · go_wp2
      go_ret
      refine ⟨ret_bool ?_, rfl⟩
      have : (decide (0 ≤ c) && decide (c < 8)) = false := by
        simp
        intro h0
        obtain ⟨n, rfl⟩ := Int.eq_ofNat_of_zero_le h0
        rcases Nat.lt_or_ge n 8 with h | h
        · exact absurd rfl (hne.out n (by omega))
        · omega
      rw [hasB, this, Bool.false_and]

theorem first_any (s : Int) (hs : 0 ≤ s) (hs' : s < 256) (w : World) :
    Calls Try.prog 22 #[.int .u8 s] w fun e w' => e = .returned (.tuple #[.int .i64 ((coresTo s.toNat 8).headD 0), .bool (!(coresTo s.toNat 8).isEmpty)]) ∧ w = w' := by
  go_enter Try.func22, Try.ntmps22
  go_wp2_with fail
  go_loop [4] (fun i => ∃ (k : Nat), k ≤ 8 ∧ i = .int .i64 k ∧ Aside (coresTo s.toNat k = [])) (fun i => 8 - (intOf i).toNat)
  case atStart => exact ⟨0, by omega, rfl, ⟨rfl⟩⟩
  case round =>
    obtain ⟨k, hk, rfl, hm⟩ := hrel
    by_cases hk8 : k < 8
    · have hc := has_any s k hs hs' w
      rw [hasB_nat _ _ hk8] at hc
      cases hb : s.toNat.testBit k
      · rw [hb] at hc
        have Hb := Aside.mk hb
        clear hb
        have Hc := Aside.mk hc
        clear hc
        go_wp2_with (go_at_call 24; refine Hc.out.mono ?_; rintro e w' ⟨rfl, rfl⟩)
        go_round
        case rel => exact ⟨k + 1, by omega, by go_num, ⟨by simp [coresTo, hm.out, Hb.out]⟩⟩
        case measure => simp [intOf]; omega
      · rw [hb] at hc
        have Hb := Aside.mk hb
        clear hb
        have Hc := Aside.mk hc
        clear hc
        go_wp2_with (go_at_call 24; refine Hc.out.mono ?_; rintro e w' ⟨rfl, rfl⟩)
        go_ret2
        have hex : ∃ r, coresTo s.toNat 8 = (k : Int) :: r := by
          have : ∀ d, k + 1 ≤ d → ∃ r, coresTo s.toNat d = (k : Int) :: r := by
            intro d hd
            induction d with
            | zero => omega
            | succ d ih =>
              by_cases e : d = k
              · subst e; exact ⟨[], by simp [coresTo, hm.out, Hb.out]⟩
              · obtain ⟨r, hr⟩ := ih (by omega)
                exact ⟨r ++ (if s.toNat.testBit d then [(d : Int)] else []), by rw [coresTo, hr]; rfl⟩
          exact this 8 (by omega)
        obtain ⟨r, hr⟩ := hex
        rw [hr]
        exact ⟨rfl, rfl⟩
    · have : k = 8 := by omega
      subst this
      go_wp2_with fail
      go_ret2
      rw [hm.out]
      exact ⟨rfl, rfl⟩

/-! ### Where, of whatever function; Cores -/
theorem where_any (n : Int) (hn : n ≤ 9223372036854775807) (g : FuncId) (caps : Array Value) (hg : ∀ args w, (callFunc g args).run Try.prog w = .ok (.enter g args) w) (p : Nat → Bool) (J : Nat → World → Prop)
    (hf : ∀ c : Nat, c < 8 → ∀ w, J c w → Calls Try.prog g (#[.int .i64 c] ++ caps) w fun e w' => e = .returned (.bool (p c)) ∧ J (c + 1) w') (w : World) (hJ : J 0 w) :
    Calls Try.prog 28 #[.int .i64 n, .func (.func g) #[] caps] w fun e w' => e = .returned (.int .u8 (maskTo p (min n.toNat 8))) ∧ J (min n.toNat 8) w' := by
  go_enter Try.func28, Try.ntmps28
  go_wp2_with fail
  go_loopw [5, 6] (fun s c wr => ∃ k : Nat, k ≤ 8 ∧ k ≤ n.toNat ∧ c = .int .i64 k ∧ s = .int .u8 (maskTo p k) ∧ J k wr) (fun _ c _ => 8 - (intOf c).toNat)
  case atStart => exact ⟨0, by omega, by omega, rfl, rfl, hJ⟩
  case round =>
    obtain ⟨k, hk8, hkn, rfl, rfl, hJk⟩ := hrel
    by_cases h1 : (k : Int) < n
    · by_cases h2 : k < 8
      · have hfk := hf k h2 wr hJk
        clear hf
        rcases hp : p k with _ | _
        · rw [hp] at hfk
          have Hp := Aside.mk hp
          clear hp
          go_wp2_with fail
          refine hfk.mono ?_
          rintro e w1 ⟨rfl, hJ1⟩
          clear hfk
          go_wp2_with fail
          go_roundw
          case rel => exact ⟨k + 1, by omega, by omega, by go_num, by simp [maskTo, Hp.out], hJ1⟩
          case measure => simp [intOf]; omega
        · rw [hp] at hfk
          have Hp := Aside.mk hp
          clear hp
          go_wp2_with fail
          refine hfk.mono ?_
          rintro e w1 ⟨rfl, hJ1⟩
          clear hfk
          go_wp2_with (go_at_call 35; refine (bit_any k (by omega) (by omega) _).mono ?_; rintro e w' ⟨rfl, rfl⟩)
          go_roundw
          case rel =>
            refine ⟨k + 1, by omega, by omega, by go_num, ?_, hJ1⟩
            have hl := maskTo_lt p k hk8
            have h3 : 2 ^ k < 256 := Nat.lt_of_le_of_lt (Nat.pow_le_pow_right (by decide) (show k ≤ 7 by omega)) (by decide)
            rw [show ((2 : Int) ^ k) = ((2 ^ k : Nat) : Int) by simp, bits_or8 _ _ hl h3]
            simp [maskTo, Hp.out]
          case measure => simp [intOf]; omega
      · go_wp2_with fail
        go_ret
        have : k = 8 := by omega
        subst this
        rw [show min n.toNat 8 = 8 by omega]
        exact ⟨rfl, hJk⟩
    · go_wp2_with fail
      go_ret
      rw [show min n.toNat 8 = k by omega]
      exact ⟨rfl, hJk⟩

theorem A_info_int : (Try.prog.info? 3).map (fun i => (i.zero, i.size, i.bytes)) = some (some (.int .i64 0), 1, 8) := by kernel_rfl
theorem callFunc_cores1 (args : Array Value) (w : World) : (callFunc 36 args).run Try.prog w = .ok (.enter 36 args) w := by kernel_rfl

/-- What Cores keeps while it asks: the set's cell, the list's, what the list has. -/
structure CoresJ (w0 : World) (s : Int) (B : Nat) (c : Nat) (wr : World) : Prop where
  below : Below w0.heap.size w0 wr
  hB : B = w0.heap.size
  size : B + 2 ≤ wr.heap.size
  set : wr.heap[B]? = some (.cells #[.int .u8 s] 32 (0, 0))
  list : ∃ v, wr.heap[B + 1]? = some (.cells #[v] 31 (0, 0)) ∧ wr.ownsRow (B + 2) 3 1 v (coresTo s.toNat c).length ((coresTo s.toNat c).map (Value.int .i64))

theorem cores1_any (w0 : World) (s : Int) (hs : 0 ≤ s) (hs' : s < 256) (B c : Nat) (hc : c < 8) (w : World) (h : CoresJ w0 s B c w) :
    Calls Try.prog 36 #[.int .i64 c, .pointer (some ⟨B, 0, none⟩), .pointer (some ⟨B + 1, 0, none⟩)] w fun e w' => e = .returned (.bool false) ∧ CoresJ w0 s B (c + 1) w' := by
  have H := Aside.mk h
  obtain ⟨hb, hB, hz, hset, v, hv, hown⟩ := h
  have hcs := cell_of_one hset
  have hcv := cell_of_one hv
  have hfv := free_of_one hv
  have hh := has_any s c hs hs' w
  rw [hasB_nat _ _ hc] at hh
  have Hv := Aside.mk hv
  clear hb hB hset hv
  cases hbit : s.toNat.testBit c
  · rw [hbit] at hh
    have Hb := Aside.mk hbit
    have Hh := Aside.mk hh
    clear hbit hh
    go_enter Try.func36, Try.ntmps36
    go_wp2_with (go_at_call 24; refine Hh.out.mono ?_; rintro e w' ⟨rfl, rfl⟩)
    go_ret
    have e : coresTo s.toNat (c + 1) = coresTo s.toNat c := by simp [coresTo, Hb.out]
    refine ⟨rfl, H.out.below, H.out.hB, hz, H.out.set, v, Hv.out, ?_⟩
    rw [e]
    exact hown
  · rw [hbit] at hh
    have Hb := Aside.mk hbit
    have Hh := Aside.mk hh
    have hl := coresTo_len s.toNat c
    have hne : v.ownBlock ≠ some (B + 1) := fun e => by have := own_base hown _ e; omega
    have hcv1 : ∀ (x : Obj), (w.alloc x).cell? ⟨B + 1, 0, none⟩ = some v := fun x => by
      rw [World.cell?_alloc_past _ _ _ (show B + 1 < w.heap.size by omega)]; exact cell_of_one Hv.out
    clear hbit hh
    go_enter Try.func36, Try.ntmps36
    go_wp2_with (first | (go_at_call 24; refine Hh.out.mono ?_; rintro e w' ⟨rfl, rfl⟩) | (at_builtin; refine append_elem (B + 2) rfl _ _ 31 3 (.int .i64 0) 1 8 rfl Try.underlying31 A_info_int rfl (by decide) (by decide) v _ _ [.int .i64 c] rfl rfl rfl (by simp [Value.oneCell']) hown hz (by omega) ?_))
    intro v1 w1 hown1 hg hat
    obtain ⟨A1, c1, rfl⟩ := own_len hown1
    have hv1 : w1.heap[B + 1]? = some (.cells #[v] 31 (0, 0)) := (hg.block (B + 1) (by omega) (Ne.symm hne)).trans Hv.out
    have hs1 : w1.heap[B]? = some (.cells #[.int .u8 s] 32 (0, 0)) := (hg.block B (by omega) (fun e => by have := own_base hown _ e.symm; omega)).trans H.out.set
    have hcv2 := cell_of_one hv1
    have hfv2 := free_of_one hv1
    have Hv1 := Aside.mk (And.intro hv1 hs1)
    have Hat := Aside.mk hat
    clear hv1 hs1 hcv1 hat
    go_wp2
    go_ret
    have hlt : w.heap.size ≤ w1.heap.size := hg.size
    have hB0 : w0.heap.size = B := H.out.hB.symm
    refine ⟨rfl, ?_, H.out.hB, by simp [World.setCell]; omega, ?_, _, one_setCell Hv1.out.1, ?_⟩
    · refine (H.out.below.grown hg (by omega) (fun k hk => ?_)).setCell (by show _ ≤ B + 1; omega) _
      have := own_base hown k hk
      omega
    · rw [Below.heap_setCell _ _ _ _ (show B ≠ B + 1 by omega)]
      exact Hv1.out.2
    · have e : coresTo s.toNat (c + 1) = coresTo s.toNat c ++ [(c : Int)] := by simp [coresTo, Hb.out]
      rw [e]
      refine ownsRow_setCell_below ?_ (show B + 1 < B + 2 by omega) _
      simpa using hown1

theorem cores_any (s : Int) (hs : 0 ≤ s) (hs' : s < 256) (w : World) :
    Calls Try.prog 27 #[.int .u8 s] w fun e w' => ∃ v, e = .returned v ∧ Ints w' .i64 v (coresTo s.toNat 8) ∧ Below w.heap.size w w' := by
  have hmf : ∀ (fn : Fn) (first cap : Array Value) (w : World), (Instr.makeFunc fn first cap).run Try.prog w = .ok (.func fn first cap) w := fun _ _ _ _ => rfl
  have hw := where_any 8 (by omega) 36 #[.pointer (some ⟨w.heap.size, 0, none⟩), .pointer (some ⟨w.heap.size + 1, 0, none⟩)] callFunc_cores1 (fun _ => false) (CoresJ w s w.heap.size)
    (fun c hc wr h => cores1_any w s hs hs' w.heap.size c hc wr h)
    ((w.alloc (.cells #[.int .u8 s] 32)).alloc (.cells #[.slice none 0 0] 31))
    ⟨((Below.refl _ _).alloc (Nat.le_refl _) _).alloc (by simp) _, rfl, by simp, (Below.heap_alloc _ _ _ (by simp)).trans (heap_alloc_new _ _), .slice none 0 0, (by simpa using heap_alloc_new (w.alloc (.cells #[.int .u8 s] 32)) (.cells #[.slice none 0 0] 31)), own_nil _ _ _ _⟩
  have Hw := Aside.mk hw
  clear hw
  go_enter Try.func27, Try.ntmps27
  go_wp2_with (go_at_call 28; refine Hw.out.mono ?_)
  rintro e w1 ⟨rfl, hj⟩
  obtain ⟨hb, hB, hz, hset, v, hv, hown⟩ := hj
  have hcv := cell_of_one hv
  clear hB hset hv
  go_wp2
  go_ret
  exact ⟨v, rfl, own_ints hown, hb⟩

theorem rcores_any (s : Int) (hs : 0 ≤ s) (hs' : s < 256) (w : World) :
    Calls Try.prog 23 #[.int .u8 s] w fun e w' => ∃ v, e = .returned v ∧ Ints w' .i64 v (coresTo s.toNat 8) ∧ Below w.heap.size w w' := by
  go_enter Try.func23, Try.ntmps23
  go_wp2_with fail
  go_loopw [3, 4] (fun u i wr => ∃ (k : Nat) (v : Value), k ≤ 8 ∧ i = .int .i64 k ∧ v = u ∧ wr.ownsRow w.heap.size 3 1 v (coresTo s.toNat k).length ((coresTo s.toNat k).map (Value.int .i64)) ∧ Below w.heap.size w wr) (fun _ i _ => 8 - (intOf i).toNat)
  case atStart => 
    exact ⟨0, _, by omega, rfl, rfl, World.ownsRow_lit w #[] 0 (Nat.le_refl _) (by decide) rfl, (Below.refl _ _).alloc (Nat.le_refl _) _⟩
  case round =>
    obtain ⟨k, v, hk, rfl, rfl, hown, hb⟩ := hrel
    have hsz := hb.size
    by_cases hk8 : k < 8
    · have hh := rhas_any s k hs hs' wr
      rw [hasB_nat _ _ hk8] at hh
      cases hbit : s.toNat.testBit k
      · rw [hbit] at hh
        have Hb := Aside.mk hbit
        have Hh := Aside.mk hh
        clear hbit hh
        go_wp2_with (go_at_call 25; refine Hh.out.mono ?_; rintro e w' ⟨rfl, rfl⟩)
        go_roundw
        case rel =>
          have e : coresTo s.toNat (k + 1) = coresTo s.toNat k := by simp [coresTo, Hb.out]
          exact ⟨k + 1, _, by omega, by go_num, rfl, by rw [e]; exact hown, hb⟩
        case measure => simp [intOf]; omega
      · rw [hbit] at hh
        have Hb := Aside.mk hbit
        have Hh := Aside.mk hh
        have hl := coresTo_len s.toNat k
        clear hbit hh
        go_wp2_with (first | (go_at_call 25; refine Hh.out.mono ?_; rintro e w' ⟨rfl, rfl⟩) | (at_builtin; go_loud (refine append_elem w.heap.size rfl _ _ 31 3 (.int .i64 0) 1 8 rfl Try.underlying31 A_info_int rfl (by decide) (by decide) v _ _ [.int .i64 k] rfl rfl rfl (by simp [Value.oneCell']) hown hsz (by omega) ?_)))
        intro v1 w1 hown1 hg hat
        have Hat := Aside.mk hat
        clear hat
        go_wp2
        go_roundw
        case rel =>
          have e : coresTo s.toNat (k + 1) = coresTo s.toNat k ++ [(k : Int)] := by simp [coresTo, Hb.out]
          exact ⟨k + 1, _, by omega, by go_num, rfl, by rw [e]; simpa using hown1, hb.grown hg hsz (fun j hj => own_base hown j hj)⟩
        case measure => simp [intOf]; omega
    · have : k = 8 := by omega
      subst this
      go_wp2_with fail
      go_ret
      exact ⟨_, rfl, own_ints hown, hb⟩
end Go.Proofs.Ytkgogbadddhlaaa
