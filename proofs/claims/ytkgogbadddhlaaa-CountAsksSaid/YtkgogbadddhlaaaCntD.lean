/- Layer 1: what the chapter's examples fix holds. -/
import Derived.Test.YtkgogbadddhlaaaCntC
namespace Go.Proofs.Ytkgogbadddhlaaa
open Go.RowKit
set_option linter.unusedVariables false
set_option linter.unusedSimpArgs false

theorem awake1_any (c : Int) (w : World) :
    Calls Try.prog 31 #[.int .i64 c] w fun e w' => e = .returned (.bool (decide (0 < c))) ∧ w = w' := by
  go_enter Try.func31, Try.ntmps31
  go_wp2
  go_ret
  exact ⟨rfl, rfl⟩
theorem callFunc_awake1 (args : Array Value) (w : World) : (callFunc 31 args).run Try.prog w = .ok (.enter 31 args) w := by kernel_rfl

theorem awake_any (w : World) : Calls Try.prog 11 #[] w fun e w' => e = .returned (.bool true) ∧ Below w.heap.size w w' := by
  have c1 : ∀ w, Calls Try.prog 16 #[.int .u32 4294967295, .int .u32 2, .int .u32 4] w fun e w' => e = .returned (.tuple #[.int .u32 1, .int .i64 0]) ∧ w = w' :=
    fun w => room_any 4294967295 2 4 (by decide) (by decide) (by decide) (by decide) (by decide) (by decide) w
  have c2 : ∀ w, Calls Try.prog 16 #[.int .u32 0, .int .u32 0, .int .u32 3] w fun e w' => e = .returned (.tuple #[.int .u32 0, .int .i64 10]) ∧ w = w' :=
    fun w => room_any 0 0 3 (by decide) (by decide) (by decide) (by decide) (by decide) (by decide) w
  have c3 : ∀ w, Calls Try.prog 18 #[.int .u32 4294967295, .int .u32 8] w fun e w' => e = .returned (.tuple #[.int .u32 7, .int .i64 0]) ∧ w = w' :=
    fun w => slot_any 4294967295 8 (by decide) (by decide) (by decide) (by decide) w
  have c4 : ∀ w : World, Calls Try.prog 20 #[.slice (some ⟨w.heap.size, 0, none⟩) 3 3] (w.alloc (.cells #[.int .i64 2, .int .i64 0, .int .i64 2] 3)) fun e w' => e = .returned (.tuple #[.int .u8 5, .int .i64 0]) ∧ w.alloc (.cells #[.int .i64 2, .int .i64 0, .int .i64 2] 3) = w' :=
    fun w => of_any _ _ [2, 0, 2] (ints_lit w .i64 3 [2, 0, 2] (by decide))
  have c5 : ∀ w, Calls Try.prog 22 #[.int .u8 5] w fun e w' => e = .returned (.tuple #[.int .i64 0, .bool true]) ∧ w = w' :=
    fun w => first_any 5 (by decide) (by decide) w
  have c6 : ∀ w, Calls Try.prog 27 #[.int .u8 5] w fun e w' => ∃ v, e = .returned v ∧ Ints w' .i64 v [0, 2] ∧ Below w.heap.size w w' :=
    fun w => cores_any 5 (by decide) (by decide) w
  have c7 : ∀ w, Calls Try.prog 28 #[.int .i64 3, .func (.func 31) #[] #[]] w fun e w' => e = .returned (.int .u8 6) ∧ w = w' :=
    fun w => where_any 3 (by decide) 31 #[] callFunc_awake1 (fun c => decide (0 < (c : Int))) (fun _ w' => w = w') (fun c _ w1 h => (awake1_any c w1).mono fun _ _ ⟨h1, h2⟩ => ⟨h1, h.trans h2⟩) w rfl
  have c8 : ∀ w, Calls Try.prog 12 #[.int .u32 4294967295, .int .u32 2] w fun e w' => e = .returned (.int .u32 3) ∧ w = w' :=
    fun w => used_any 4294967295 2 (by decide) (by decide) (by decide) (by decide) w
  have c9 : ∀ w, Calls Try.prog 14 #[.int .u32 4294967295, .int .u32 0] w fun e w' => e = .returned (.bool true) ∧ w = w' :=
    fun w => before_any 4294967295 0 (by decide) (by decide) (by decide) (by decide) w
  have c10 : ∀ w, Calls Try.prog 24 #[.int .u8 5, .int .i64 2] w fun e w' => e = .returned (.bool true) ∧ w = w' :=
    fun w => has_any 5 2 (by decide) (by decide) w
  have C1 := Aside.mk c1; have C2 := Aside.mk c2; have C3 := Aside.mk c3; have C4 := Aside.mk c4; have C5 := Aside.mk c5
  have C6 := Aside.mk c6; have C7 := Aside.mk c7; have C8 := Aside.mk c8; have C9 := Aside.mk c9; have C10 := Aside.mk c10
  clear c1 c2 c3 c4 c5 c6 c7 c8 c9 c10
  go_enter Try.func11, Try.ntmps11
  go_wp2_with fail
  refine (C1.out _).mono ?_
  rintro e w' ⟨rfl, rfl⟩
  go_wp2_with fail
  refine (C2.out _).mono ?_
  rintro e w' ⟨rfl, rfl⟩
  go_wp2_with fail
  refine (C3.out _).mono ?_
  rintro e w' ⟨rfl, rfl⟩
  go_wp2_with fail
  refine (C4.out _).mono ?_
  rintro e w' ⟨rfl, rfl⟩
  go_wp2_with fail
  refine (C5.out _).mono ?_
  rintro e w' ⟨rfl, rfl⟩
  go_wp2_with fail
  refine (C6.out _).mono ?_
  rintro e w6 ⟨v, rfl, hv, hb⟩
  obtain ⟨A, c, rfl, hm, hc⟩ := hv
  obtain ⟨ad, rfl, hcc⟩ := hc (by decide)
  have hc1 : w6.cell? ⟨ad.block, ad.off + 1, none⟩ = some (.int .i64 2) := hcc 1 (by decide)
  clear hc hcc
  go_wp2_with fail
  refine (C7.out _).mono ?_
  rintro e w' ⟨rfl, rfl⟩
  go_wp2_with fail
  refine (C8.out _).mono ?_
  rintro e w' ⟨rfl, rfl⟩
  go_wp2_with fail
  refine (C9.out _).mono ?_
  rintro e w' ⟨rfl, rfl⟩
  go_wp2_with fail
  refine (C10.out _).mono ?_
  rintro e w' ⟨rfl, rfl⟩
  go_wp2_with fail
  go_ret
  exact ⟨rfl, ((Below.refl _ _).alloc (Nat.le_refl _) _).trans (hb.mono (by simp))⟩

/-! ### The laws over whole numbers -/
theorem indices_any (a b : Int) (a0 : 0 ≤ a) (a1 : a < 4294967296) (b0 : 0 ≤ b) (b1 : b < 4294967296) (w : World) :
    Calls Try.prog 3 #[.int .u32 a, .int .u32 b] w fun e w' => e = .returned (.bool true) ∧ Below w.heap.size w w' := by
  go_enter Try.func3, Try.ntmps3
  go_wp2_with fail
  refine (awake_any _).mono ?_
  rintro e w1 ⟨rfl, hb⟩
  go_wp2_with (first | (go_at_call 12; refine (used_any _ _ a0 a1 b0 b1 _).mono ?_; rintro e w' ⟨rfl, rfl⟩) | (go_at_call 13; refine (rused_any _ _ a0 a1 b0 b1 _).mono ?_; rintro e w' ⟨rfl, rfl⟩) | (go_at_call 14; refine (before_any _ _ a0 a1 b0 b1 _).mono ?_; rintro e w' ⟨rfl, rfl⟩) | (go_at_call 15; refine (rbefore_any _ _ a0 a1 b0 b1 _).mono ?_; rintro e w' ⟨rfl, rfl⟩))
  go_ret
  exact ⟨ret_bool (by simp), hb⟩

theorem rooms_any (h t n : Int) (h0 : 0 ≤ h) (h1 : h < 4294967296) (t0 : 0 ≤ t) (t1 : t < 4294967296) (n0 : 0 ≤ n) (n1 : n < 4294967296) (w : World) :
    Calls Try.prog 4 #[.int .u32 h, .int .u32 t, .int .u32 n] w fun e w' => e = .returned (.bool true) ∧ Below w.heap.size w w' := by
  go_enter Try.func4, Try.ntmps4
  go_wp2_with (first | (go_at_call 16; refine (room_any _ _ _ h0 h1 t0 t1 n0 n1 _).mono ?_; rintro e w' ⟨rfl, rfl⟩) | (go_at_call 17; refine (rroom_any _ _ _ h0 h1 t0 t1 n0 n1 _).mono ?_; rintro e w' ⟨rfl, rfl⟩) | (go_at_call 18; refine (slot_any _ _ h0 h1 n0 n1 _).mono ?_; rintro e w' ⟨rfl, rfl⟩) | (go_at_call 19; refine (rslot_any _ _ h0 h1 n0 n1 _).mono ?_; rintro e w' ⟨rfl, rfl⟩) | (go_at_call 11; refine (awake_any _).mono ?_; rintro e w1 ⟨rfl, hb⟩))
  go_ret
  exact ⟨ret_bool (by simp), hb⟩
end Go.Proofs.Ytkgogbadddhlaaa
