/- Layer 1's laws on lists of cores: sets made of numbers, sets made again, what is asked about. -/
import Derived.Test.YtkgogbadddhlaaaCntD
namespace Go.Proofs.Ytkgogbadddhlaaa
open Go.RowKit
set_option linter.unusedVariables false
set_option linter.unusedSimpArgs false

theorem ints_news {w : World} {k : IntKind} {A : Option Addr} {n c : Nat} {xs : List Int} (h : Ints w k (.slice A n c) xs) :
    xs.length = n ∧ (0 < n → ∃ ad, A = some ad ∧ ∀ j u, (xs.map (Value.int k))[j]? = some u → w.cell? (ad.add j) = some u) := by
  obtain ⟨A', c', h1, h2, h3⟩ := h
  injection h1 with h1 h4 h5
  subst h1
  refine ⟨h4.symm, fun hp => ?_⟩
  obtain ⟨ad, rfl, hc⟩ := h3 (by omega)
  refine ⟨ad, rfl, fun j u hu => ?_⟩
  have hj : j < xs.length := by
    have := (List.getElem?_eq_some_iff.1 hu).1
    simpa using this
  have := hc j hj
  rw [this]
  simpa [List.getElem?_eq_getElem hj, List.getD_eq_getElem?_getD] using hu

theorem sets_any (w : World) (v : Value) (l : List Int) (hv : Ints w .i64 v l) :
    Calls Try.prog 5 #[v] w fun e w' => e = .returned (.bool true) ∧ Below w.heap.size w w' := by
  have Hv := Aside.mk hv
  obtain ⟨A, c, rfl, hm, hcc⟩ := hv
  clear hcc
  by_cases hlen : 1000 < l.length
  · go_enter Try.func5, Try.ntmps5
    go_wp2_with (go_at_call 11; refine (awake_any _).mono ?_; rintro e w1 ⟨rfl, hb⟩)
    go_ret
    exact ⟨rfl, hb⟩
  · go_enter Try.func5, Try.ntmps5
    have hv1 : Ints (w.alloc (.cells #[] 3)) .i64 (.slice A l.length c) l := Hv.out.below ((Below.refl _ _).alloc (Nat.le_refl _) _)
    obtain ⟨n1, n2⟩ := ints_news hv1
    have N2 := Aside.mk n2
    have hown := World.ownsRow_lit (base := w.heap.size) (e := 3) (size := 1) w #[] 0 (Nat.le_refl _) (by decide) rfl
    clear n1 n2 hv1
    go_wp2_with (at_builtin; refine append_row w.heap.size rfl _ _ 31 3 (.int .i64 0) 8 rfl Try.underlying31 A_info_int rfl (by decide) (.slice (some ⟨w.heap.size, 0, none⟩) 0 0) 0 _ (l.map (Value.int .i64)) A l.length c rfl rfl hown (by simp) N2.out (ints_oneCell _ _) (by simp) (by omega) ?_)
    intro v1 w1 hown1 hg hat
    have hi1 : Ints w1 .i64 v1 l := own_ints (by simpa using hown1)
    have hb1 : Below w.heap.size w w1 := ((Below.refl _ _).alloc (Nat.le_refl _) _).trans (grown_below hg (by simp) (fun k hk => by simp [Value.ownBlock] at hk; omega))
    have Hi := Aside.mk hi1
    clear hi1 hown1 hat hg hown
    go_wp2_with (first | (go_at_call 20; refine (of_any _ _ _ Hi.out).mono ?_; rintro e w' ⟨rfl, rfl⟩) | (go_at_call 21; refine (rof_any _ _ _ (Hv.out.below hb1)).mono ?_; rintro e w' ⟨rfl, rfl⟩) | (go_at_call 11; refine (awake_any _).mono ?_; rintro e w2 ⟨rfl, hb2⟩))
    go_ret
    exact ⟨ret_bool (by simp), below_then hb1 hb2⟩

/-! ### A set is made again of its cores -/
theorem coresTo_sorted (s c : Nat) : (coresTo s c).Pairwise (· < ·) := by
  induction c with
  | zero => simp [coresTo]
  | succ c ih =>
    unfold coresTo
    rw [List.pairwise_append]
    refine ⟨ih, by split <;> simp, ?_⟩
    intro x hx y hy
    obtain ⟨i, hi, rfl, _⟩ := (coresTo_mem s c x).1 hx
    split at hy <;> simp at hy
    subst hy
    omega
theorem coresTo_rise (s c i : Nat) (h1 : 1 ≤ i) (h2 : i < (coresTo s c).length) : (coresTo s c).getD (i - 1) 0 < (coresTo s c).getD i 0 := by
  have := List.pairwise_iff_getElem.1 (coresTo_sorted s c) (i - 1) i (by omega) h2 (by omega)
  rw [List.getD_eq_getElem?_getD, List.getElem?_eq_getElem (show i - 1 < _ by omega), List.getD_eq_getElem?_getD, List.getElem?_eq_getElem h2]
  exact this
theorem setS_cores (s : Nat) (hs : s < 256) : setS (coresTo s 8) = ((s : Int), 0) := by
  have ha : allCores (coresTo s 8) = true := by
    apply List.all_eq_true.2
    intro x hx
    obtain ⟨i, hi, rfl, _⟩ := (coresTo_mem s 8 x).1 hx
    simp; omega
  have hm : maskOf (coresTo s 8) = s := by
    unfold maskOf
    rw [maskTo_congr _ s.testBit 8, maskTo_self s hs]
    intro i hi
    cases hb : s.testBit i
    · rw [Bool.eq_false_iff]
      intro hc
      have hx : (i : Int) ∈ coresTo s 8 := by simpa using hc
      obtain ⟨j, hj, e, hj2⟩ := (coresTo_mem s 8 _).1 hx
      have : j = i := by omega
      subst this
      rw [hb] at hj2
      cases hj2
    · have hx : (i : Int) ∈ coresTo s 8 := (coresTo_mem s 8 _).2 ⟨i, hi, rfl, hb⟩
      simpa using hx
  simp [setS, ha, hm]
theorem mask_both (s t : Nat) (hs : s < 256) : maskTo (fun c => s.testBit c && t.testBit c) 8 = s &&& t := by
  apply Nat.eq_of_testBit_eq
  intro i
  rw [maskTo_bit, Nat.testBit_and]
  by_cases hi : i < 8
  · simp [hi]
  · have : s.testBit i = false := Nat.testBit_lt_two_pow (Nat.lt_of_lt_of_le hs (Nat.pow_le_pow_right (n := 2) (by decide) (show 8 ≤ i by omega)))
    simp [this]

theorem callFunc_back1 (args : Array Value) (w : World) : (callFunc 29 args).run Try.prog w = .ok (.enter 29 args) w := by kernel_rfl
theorem back1_any (s t : Int) (s0 : 0 ≤ s) (s1 : s < 256) (t0 : 0 ≤ t) (t1 : t < 256) (B1 B2 c : Nat) (hc : c < 8) (w : World)
    (h1 : w.cell? ⟨B1, 0, none⟩ = some (.int .u8 s)) (h2 : w.cell? ⟨B2, 0, none⟩ = some (.int .u8 t)) :
    Calls Try.prog 29 #[.int .i64 c, .pointer (some ⟨B1, 0, none⟩), .pointer (some ⟨B2, 0, none⟩)] w fun e w' => e = .returned (.bool (s.toNat.testBit c && t.toNat.testBit c)) ∧ w = w' := by
  have k1 := fun w => has_any s c s0 s1 w
  have k2 := fun w => has_any t c t0 t1 w
  simp only [hasB_nat _ _ hc] at k1 k2
  cases hb : s.toNat.testBit c
  · rw [hb] at k1
    have K1 := Aside.mk k1
    clear k1 k2 hb
    go_enter Try.func29, Try.ntmps29
    go_wp2_with (go_at_call 24; refine (K1.out _).mono ?_; rintro e w' ⟨rfl, rfl⟩)
    go_ret
    exact ⟨rfl, rfl⟩
  · rw [hb] at k1
    have K1 := Aside.mk k1
    have K2 := Aside.mk k2
    clear k1 k2 hb
    go_enter Try.func29, Try.ntmps29
    go_wp2_with fail
    refine (K1.out _).mono ?_
    rintro e w' ⟨rfl, rfl⟩
    go_wp2_with fail
    refine (K2.out _).mono ?_
    rintro e w' ⟨rfl, rfl⟩
    go_wp2_with fail
    go_ret
    exact ⟨ret_bool (by simp), rfl⟩

theorem back_any (s t : Int) (s0 : 0 ≤ s) (s1 : s < 256) (t0 : 0 ≤ t) (t1 : t < 256) (w : World) :
    Calls Try.prog 9 #[.int .u8 s, .int .u8 t] w fun e w' => e = .returned (.bool true) ∧ Below w.heap.size w w' := by
  have hmf : ∀ (fn : Fn) (first cap : Array Value) (w : World), (Instr.makeFunc fn first cap).run Try.prog w = .ok (.func fn first cap) w := fun _ _ _ _ => rfl
  have kc := fun w => cores_any s s0 s1 w
  obtain ⟨L, HL⟩ : ∃ L, Aside (coresTo s.toNat 8 = L) := ⟨_, ⟨rfl⟩⟩
  simp only [HL.out] at kc
  have ko : ∀ w v, Ints w .i64 v L → Calls Try.prog 20 #[v] w fun e w' => e = .returned (.tuple #[.int .u8 s, .int .i64 0]) ∧ w = w' := fun w v h => by
    have := of_any w v L h
    rw [← HL.out, setS_cores _ (by omega)] at this
    rwa [show ((s.toNat : Nat) : Int) = s by omega] at this
  have Kc := Aside.mk kc
  have Ko := Aside.mk ko
  clear kc ko
  have hb0 : Below w.heap.size w ((w.alloc (.cells #[.int .u8 s] 32)).alloc (.cells #[.int .u8 t] 32)) := ((Below.refl _ _).alloc (Nat.le_refl _) _).alloc (by simp) _
  have hc1 : ((w.alloc (.cells #[.int .u8 s] 32)).alloc (.cells #[.int .u8 t] 32)).cell? ⟨w.heap.size, 0, none⟩ = some (.int .u8 s) := cell_of_one ((Below.heap_alloc _ _ _ (by simp)).trans (heap_alloc_new _ _))
  have hc2 : ((w.alloc (.cells #[.int .u8 s] 32)).alloc (.cells #[.int .u8 t] 32)).cell? ⟨w.heap.size + 1, 0, none⟩ = some (.int .u8 t) := cell_of_one (by simpa using heap_alloc_new (w.alloc (.cells #[.int .u8 s] 32)) (.cells #[.int .u8 t] 32))
  go_enter Try.func9, Try.ntmps9
  go_wp2_with fail
  refine (Kc.out _).mono ?_
  rintro e w1 ⟨v, rfl, hv, hb⟩
  have d1 : w1.cell? ⟨w.heap.size, 0, none⟩ = some (.int .u8 s) := (hb.cell (by simp; omega)).trans hc1
  have d2 : w1.cell? ⟨w.heap.size + 1, 0, none⟩ = some (.int .u8 t) := (hb.cell (by simp)).trans hc2
  have hb1 : Below w.heap.size w w1 := hb0.trans (hb.mono (by simp; omega))
  clear hc1 hc2 hb hb0
  have Hv := Aside.mk hv
  obtain ⟨A, cc, rfl, hm, hcells⟩ := hv
  have Hcells := Aside.mk hcells
  clear hcells
  have kw : ∀ w1 : World, w1.cell? ⟨w.heap.size, 0, none⟩ = some (.int .u8 s) → w1.cell? ⟨w.heap.size + 1, 0, none⟩ = some (.int .u8 t) → Calls Try.prog 28 #[.int .i64 8, .func (.func 29) #[] #[.pointer (some ⟨w.heap.size, 0, none⟩), .pointer (some ⟨w.heap.size + 1, 0, none⟩)]] w1 fun e w' => e = .returned (.int .u8 (Go.bits .and .u8 s t)) ∧ w1 = w' := by
    intro w1 d1 d2
    refine (where_any 8 (by decide) 29 _ callFunc_back1 (fun c => s.toNat.testBit c && t.toNat.testBit c) (fun _ w' => w1 = w') ?_ w1 rfl).mono ?_
    · rintro c hc w2 rfl
      exact back1_any s t s0 s1 t0 t1 _ _ c hc w1 d1 d2
    · rintro e w' ⟨rfl, rfl⟩
      refine ⟨ret_int ?_, rfl⟩
      rw [show min (Int.toNat 8) 8 = 8 by decide, mask_both _ _ (by omega), ← bits_and8 _ _ (by omega) (by omega), show ((s.toNat : Nat) : Int) = s by omega, show ((t.toNat : Nat) : Int) = t by omega]
  have Kw := Aside.mk kw
  clear kw
  go_wp2_with fail
  refine (Ko.out _ _ Hv.out).mono ?_
  rintro e w' ⟨rfl, rfl⟩
  go_wp2_with fail
  refine (Kw.out _ d1 d2).mono ?_
  rintro e w' ⟨rfl, rfl⟩
  go_wp2_with fail
  obtain ⟨w0, Hw0⟩ : ∃ w0 : World, Aside (w0 = w1) := ⟨_, ⟨rfl⟩⟩
  go_loopw [9] (fun i wr => ∃ (k n : Nat), 1 ≤ k ∧ k ≤ L.length + 1 ∧ i = .int .i64 k ∧ wr = w1.drewN n) (fun i _ => L.length + 1 - (intOf i).toNat)
  case atStart => exact ⟨1, 0, by omega, by omega, rfl, rfl⟩
  case round =>
    obtain ⟨k, n, hk1, hk, rfl, rfl⟩ := hrel
    by_cases hlt : k < L.length
    · obtain ⟨ad, rfl, hcells⟩ := Hcells.out (by omega)
      have e1 := hcells (k - 1) (by omega)
      have e2 := hcells k hlt
      have hr := coresTo_rise s.toNat 8 k hk1 (by rw [HL.out]; exact hlt)
      rw [HL.out] at hr
      obtain ⟨x, Hx⟩ : ∃ x, Aside (L.getD (k - 1) 0 = x) := ⟨_, ⟨rfl⟩⟩
      obtain ⟨y, Hy⟩ : ∃ y, Aside (L.getD k 0 = y) := ⟨_, ⟨rfl⟩⟩
      rw [Hx.out] at e1 hr
      rw [Hy.out] at e2 hr
      have hxy : decide (x ≥ y) = false := by simp; omega
      have hxy2 : decide (y ≤ x) = false := by simp; omega
      have hk1' : ((k : Int) - 1).toNat = k - 1 := by omega
      have hk2' : 0 ≤ (k : Int) - 1 := by omega
      clear hcells
      go_wp2_with fail
      go_quiet (fail)
      go_wp2_with fail
      go_roundw
      case rel => exact ⟨k + 1, _, by omega, by omega, by go_num, rfl⟩
      case measure => simp [intOf]; omega
    · go_wp2_with fail
      refine (awake_any _).mono ?_
      rintro e w2 ⟨rfl, hb2⟩
      have f1 : w2.cell? ⟨w.heap.size, 0, none⟩ = some (.int .u8 s) := (hb2.cell (World.block_lt_of_cell? _ _ (by simpa using d1))).trans (by simpa using d1)
      have f2 : w2.cell? ⟨w.heap.size + 1, 0, none⟩ = some (.int .u8 t) := (hb2.cell (World.block_lt_of_cell? _ _ (by simpa using d2))).trans (by simpa using d2)
      go_wp2_with fail
      go_ret
      exact ⟨ret_bool (by simp), hb1.trans ((below_drewN w1 n).mono hb1.size |>.trans (hb2.mono (by simp; exact hb1.size)))⟩
end Go.Proofs.Ytkgogbadddhlaaa
