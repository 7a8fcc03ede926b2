/- Layer 23: a member of a gang: what begins, what a step does. -/
import Derived.Test.YtnidplpjkhepmaaDoorMemT
namespace Go.Proofs.YtnidplpjkhepmaaDoor
open Go.RowKit
set_option linter.unusedVariables false
set_option linter.unusedSimpArgs false

/-- A member of a gang. -/
structure Mb where
  at_ : Int
  n : Int
  ph : Int
  rd : Int
  wd : Int
  came : Bool
  entered : Bool
  missed : Bool
def Mb.cells (x : Mb) : Array Value := #[.int .i64 x.at_, .int .i64 x.n, .int .i64 x.ph, .int .u32 x.rd, .int .u32 x.wd, .bool x.came, .bool x.entered, .bool x.missed]
def MbAt (w : World) (b : Nat) (x : Mb) : Prop := w.heap[b]? = some (.cells x.cells 46 (0, 0))
def beginOk (x : Mb) (r : Int) : Prop := r ≤ 268435455 ∧ x.rd < r
instance (x : Mb) (r : Int) : Decidable (beginOk x r) := inferInstanceAs (Decidable (_ ∧ _))
def beginS (x : Mb) (r : Int) : Mb := if beginOk x r then ⟨x.at_, x.n, 1, r, 0, false, false, false⟩ else x
def beginE (x : Mb) (r : Int) : Int := if beginOk x r then 0 else 241
def lookS (x : Mb) (W : Int) : Mb := if x.rd < W / 16 then { x with ph := 0, missed := true } else if x.ph = 1 then { x with wd := W, ph := 2 } else if W / 16 = x.rd ∧ W % 16 = x.n then { x with entered := true, ph := 0 } else x
def nextS (x : Mb) : Int := if x.wd / 16 = x.rd then (x.wd + 1) % 4294967296 else (16 * x.rd % 4294967296 + 1) % 4294967296

theorem heap_drew (w : World) (b : Nat) : w.drew.heap[b]? = w.heap[b]? := rfl
theorem MbAt.c {w : World} {b : Nat} {x : Mb} (h : MbAt w b x) (j : Nat) (hj : j < 8) : w.cell? ⟨b, j, none⟩ = x.cells[j]? := by
  unfold MbAt at h
  simp [World.cell?, h]
theorem MbAt.f {w : World} {b : Nat} {x : Mb} (h : MbAt w b x) (j : Nat) : w.frozen? ⟨b, j, none⟩ = false := by
  unfold MbAt at h
  simp [World.frozen?, h]
theorem MbAt.kept {S : Nat → Prop} {w w' : World} {b : Nat} {x : Mb} (h : MbAt w b x) (k : Kept S w w') (hb : ¬ S b) : MbAt w' b x := k.heap h hb
theorem MbAt.below {w w' : World} {b : Nat} {x : Mb} (h : MbAt w b x) (k : Below w.heap.size w w') : MbAt w' b x := (k.block _ (lt_of_block h)).trans h

theorem gnew_any (w : World) (a n : Int) (h0 : 1 ≤ n) (h1 : n ≤ 8) :
    Calls Tryd.prog 14 #[.int .i64 a, .int .i64 n] w fun e w' => e = .returned (.tuple #[.pointer (some ⟨w.heap.size, 0, none⟩), .int .i64 0]) ∧ w.alloc (.cells (Mb.cells ⟨a, n, 0, 0, 0, false, false, false⟩) 46) = w' := by
  go_enter Tryd.func14, Tryd.ntmps14
  go_wp2_with fail
  go_loop [7] (fun i => ∃ k : Nat, k < 8 ∧ (k : Int) < n ∧ i = .int .i64 k) (fun i => 8 - (intOf i).toNat)
  case atStart => exact ⟨0, by omega, by omega, rfl⟩
  case round =>
    obtain ⟨k, hk, hkn, rfl⟩ := hrel
    by_cases e : n = (k : Int) + 1
    · subst e
      go_wp2_with fail
      go_ret2
      exact ⟨rfl, rfl⟩
    · go_wp2_with fail
      go_round
      case rel => exact ⟨k + 1, by omega, by omega, by go_num⟩
      case measure => simp [intOf]; omega

section
variable (w : World) (b : Nat) (x : Mb) (h : MbAt w b x)
include h
theorem came_any : Calls Tryd.prog 10 #[.pointer (some ⟨b, 0, none⟩)] w fun e w' => e = .returned (.bool x.came) ∧ w = w' := by
  have h5 : w.cell? ⟨b, 5, none⟩ = some (.bool x.came) := h.c 5 (by decide)
  go_enter Tryd.func10, Tryd.ntmps10
  go_wp2_with fail
  go_ret
  exact ⟨rfl, rfl⟩
theorem entered_any : Calls Tryd.prog 11 #[.pointer (some ⟨b, 0, none⟩)] w fun e w' => e = .returned (.bool x.entered) ∧ w = w' := by
  have h5 : w.cell? ⟨b, 6, none⟩ = some (.bool x.entered) := h.c 6 (by decide)
  go_enter Tryd.func11, Tryd.ntmps11
  go_wp2_with fail
  go_ret
  exact ⟨rfl, rfl⟩
theorem missed_any : Calls Tryd.prog 12 #[.pointer (some ⟨b, 0, none⟩)] w fun e w' => e = .returned (.bool x.missed) ∧ w = w' := by
  have h5 : w.cell? ⟨b, 7, none⟩ = some (.bool x.missed) := h.c 7 (by decide)
  go_enter Tryd.func12, Tryd.ntmps12
  go_wp2_with fail
  go_ret
  exact ⟨rfl, rfl⟩
theorem next_any (w0 : 0 ≤ x.wd) (w1 : x.wd < 4294967296) (r0 : 0 ≤ x.rd) (r1 : x.rd < 268435456) : Calls Tryd.prog 17 #[.pointer (some ⟨b, 0, none⟩)] w fun e w' => e = .returned (.int .u32 (nextS x)) ∧ ∃ m, w' = w.drewN m := by
  have h3 : w.cell? ⟨b, 3, none⟩ = some (.int .u32 x.rd) := h.c 3 (by decide)
  have h4 : w.cell? ⟨b, 4, none⟩ = some (.int .u32 x.wd) := h.c 4 (by decide)
  by_cases e : x.wd / 16 = x.rd
  · have hn : nextS x = (x.wd + 1) % 4294967296 := by rw [nextS, if_pos e]
    rw [hn]
    have e1 : (x.wd / 16 == x.rd) = true := beq_iff_eq.2 e
    have e2 : (x.wd.tdiv 16 == x.rd) = true := by rw [Int.tdiv_eq_ediv_of_nonneg w0]; exact e1
    clear e hn h
    go_enter Tryd.func17, Tryd.ntmps17
    go_wp2_with fail
    go_quiet (fail)
    go_wp2_with fail
    go_ret
    exact ⟨ret_int (by first | rfl | omega), _, rfl⟩
  · have hn : nextS x = (16 * x.rd % 4294967296 + 1) % 4294967296 := by rw [nextS, if_neg e]
    rw [hn]
    have e1 : (x.wd / 16 == x.rd) = false := beq_eq_false_iff_ne.2 e
    have e2 : (x.wd.tdiv 16 == x.rd) = false := by rw [Int.tdiv_eq_ediv_of_nonneg w0]; exact e1
    clear e hn h
    go_enter Tryd.func17, Tryd.ntmps17
    go_wp2_with fail
    go_quiet (fail)
    go_wp2_with fail
    go_ret
    exact ⟨ret_int (by first | rfl | omega), _, rfl⟩
theorem miss_any : Calls Tryd.prog 18 #[.pointer (some ⟨b, 0, none⟩)] w fun e w' => e = .returned (.tuple #[]) ∧ MbAt w' b { x with ph := 0, missed := true } ∧ Kept (fun k => k = b) w w' := by
  have h2 : w.cell? ⟨b, 2, none⟩ = some (.int .i64 x.ph) := h.c 2 (by decide)
  have h7 : w.cell? ⟨b, 7, none⟩ = some (.bool x.missed) := h.c 7 (by decide)
  have f2 := h.f 2
  have f7 := h.f 7
  have H := Aside.mk h
  clear h
  go_enter Tryd.func18, Tryd.ntmps18
  go_wp2_with fail
  refine bodyPost_end (v := .tuple #[]) (by simp [results, Tryd.results18, go_sem]) rfl ⟨rfl, ?_, ?_⟩
  · have := heap_setCell_at (off := 2) (heap_setCell_at (off := 7) H.out (.bool true)) (.int .i64 0)
    simpa [Mb.cells, MbAt] using this
  · exact ((Kept.refl (fun k => k = b) w).setCell (p := ⟨b, 7, none⟩) (.inl rfl) _).setCell (p := ⟨b, 2, none⟩) (.inl rfl) _
set_option maxHeartbeats 1600000 in
theorem begin_any (r : Int) (r0 : 0 ≤ r) (r1 : r < 4294967296) : Calls Tryd.prog 8 #[.pointer (some ⟨b, 0, none⟩), .int .u32 r] w fun e w' => e = .returned (.int .i64 (beginE x r)) ∧ MbAt w' b (beginS x r) ∧ Kept (fun k => k = b) w w' := by
  have h0 : w.cell? ⟨b, 0, none⟩ = some (.int .i64 x.at_) := h.c 0 (by decide)
  have h1 : w.cell? ⟨b, 1, none⟩ = some (.int .i64 x.n) := h.c 1 (by decide)
  have h2 : w.cell? ⟨b, 2, none⟩ = some (.int .i64 x.ph) := h.c 2 (by decide)
  have h3 : w.cell? ⟨b, 3, none⟩ = some (.int .u32 x.rd) := h.c 3 (by decide)
  have h4 : w.cell? ⟨b, 4, none⟩ = some (.int .u32 x.wd) := h.c 4 (by decide)
  have h5 : w.cell? ⟨b, 5, none⟩ = some (.bool x.came) := h.c 5 (by decide)
  have h6 : w.cell? ⟨b, 6, none⟩ = some (.bool x.entered) := h.c 6 (by decide)
  have h7 : w.cell? ⟨b, 7, none⟩ = some (.bool x.missed) := h.c 7 (by decide)
  have f0 := h.f 0
  have f1 := h.f 1
  have f2 := h.f 2
  have f3 := h.f 3
  have f4 := h.f 4
  have f5 := h.f 5
  have f6 := h.f 6
  have f7 := h.f 7
  have H := Aside.mk h
  clear h
  by_cases c1 : 268435455 < r
  · have hb : ¬ beginOk x r := fun q => by have := q.1; omega
    rw [beginS, beginE, if_neg hb, if_neg hb]
    clear hb
    go_enter Tryd.func8, Tryd.ntmps8
    go_wp2_with fail
    go_ret
    exact ⟨rfl, H.out, Kept.refl _ _⟩
  · by_cases c2 : r ≤ x.rd
    · have hb : ¬ beginOk x r := fun q => by have := q.2; omega
      rw [beginS, beginE, if_neg hb, if_neg hb]
      clear hb
      go_enter Tryd.func8, Tryd.ntmps8
      go_wp2_with fail
      go_ret
      exact ⟨rfl, H.out, Kept.refl _ _⟩
    · have hb : beginOk x r := ⟨by omega, by omega⟩
      rw [beginS, beginE, if_pos hb, if_pos hb]
      clear hb
      go_enter Tryd.func8, Tryd.ntmps8
      go_wp2_with fail
      go_region
      all_goals go_wp2_with fail
      go_ret
      refine ⟨rfl, ?_, ?_⟩
      · have k0 := heap_setCell_at (off := 0) (show w.heap[b]? = some (.cells x.cells 46 (0, 0)) from H.out) (.int .i64 x.at_)
        have k1 := heap_setCell_at (off := 1) k0 (.int .i64 x.n)
        have k2 := heap_setCell_at (off := 2) k1 (.int .i64 1)
        have k3 := heap_setCell_at (off := 3) k2 (.int .u32 r)
        have k4 := heap_setCell_at (off := 4) k3 (.int .u32 0)
        have k5 := heap_setCell_at (off := 5) k4 (.bool false)
        have k6 := heap_setCell_at (off := 6) k5 (.bool false)
        have k := heap_setCell_at (off := 7) k6 (.bool false)
        clear k0 k1 k2 k3 k4 k5 k6 h0 h1 h2 h3 h4 h5 h6 h7 f0 f1 f2 f3 f4 f5 f6 f7
        unfold MbAt
        rw [heap_drew, k]
        simp [Mb.cells]
      · exact (((((((((Kept.refl (fun k => k = b) w).setCell (p := ⟨b, 0, none⟩) (.inl rfl) _).setCell (p := ⟨b, 1, none⟩) (.inl rfl) _).setCell (p := ⟨b, 2, none⟩) (.inl rfl) _).setCell (p := ⟨b, 3, none⟩) (.inl rfl) _).setCell (p := ⟨b, 4, none⟩) (.inl rfl) _).setCell (p := ⟨b, 5, none⟩) (.inl rfl) _).setCell (p := ⟨b, 6, none⟩) (.inl rfl) _).setCell (p := ⟨b, 7, none⟩) (.inl rfl) _).drew
set_option maxHeartbeats 1600000 in
theorem look_any (W : Int) (W0 : 0 ≤ W) (W1 : W < 4294967296) : Calls Tryd.prog 19 #[.pointer (some ⟨b, 0, none⟩), .int .u32 W] w fun e w' => e = .returned (.tuple #[]) ∧ MbAt w' b (lookS x W) ∧ Kept (fun k => k = b) w w' := by
  have h1 : w.cell? ⟨b, 1, none⟩ = some (.int .i64 x.n) := h.c 1 (by decide)
  have h2 : w.cell? ⟨b, 2, none⟩ = some (.int .i64 x.ph) := h.c 2 (by decide)
  have h3 : w.cell? ⟨b, 3, none⟩ = some (.int .u32 x.rd) := h.c 3 (by decide)
  have h4 : w.cell? ⟨b, 4, none⟩ = some (.int .u32 x.wd) := h.c 4 (by decide)
  have h6 : w.cell? ⟨b, 6, none⟩ = some (.bool x.entered) := h.c 6 (by decide)
  have f2 := h.f 2
  have f4 := h.f 4
  have f6 := h.f 6
  have H := Aside.mk h
  have M := Aside.mk (miss_any w b x h)
  clear h
  by_cases c1 : x.rd < W / 16
  · rw [lookS, if_pos c1]
    go_enter Tryd.func19, Tryd.ntmps19
    go_wp2_with fail
    refine M.out.mono ?_
    rintro e w' ⟨rfl, q1, q2⟩
    go_wp2_with fail
    exact bodyPost_end (v := .tuple #[]) (by simp [results, Tryd.results19, go_sem]) rfl ⟨rfl, q1, q2⟩
  · rw [lookS, if_neg c1]
    by_cases c2 : x.ph = 1
    · rw [if_pos c2]
      rw [c2] at h2
      clear c2
      go_enter Tryd.func19, Tryd.ntmps19
      go_wp2_with fail
      refine bodyPost_end (v := .tuple #[]) (by simp [results, Tryd.results19, go_sem]) rfl ⟨rfl, ?_, ?_⟩
      · have k := heap_setCell_at (off := 2) (heap_setCell_at (off := 4) H.out (.int .u32 W)) (.int .i64 2)
        simpa [Mb.cells, MbAt] using k
      · exact ((Kept.refl (fun k => k = b) w).setCell (p := ⟨b, 4, none⟩) (.inl rfl) _).setCell (p := ⟨b, 2, none⟩) (.inl rfl) _
    · rw [if_neg c2]
      have c2b : (x.ph == 1) = false := beq_eq_false_iff_ne.2 c2
      by_cases c3 : W / 16 = x.rd
      · have c3b : (W / 16 == x.rd) = true := beq_iff_eq.2 c3
        by_cases c4 : W % 16 = x.n
        · have c4b : (W % 16 == x.n) = true := beq_iff_eq.2 c4
          rw [if_pos ⟨c3, c4⟩]
          clear c2 c3 c4
          go_enter Tryd.func19, Tryd.ntmps19
          go_wp2_with fail
          refine bodyPost_end (v := .tuple #[]) (by simp [results, Tryd.results19, go_sem]) rfl ⟨rfl, ?_, ?_⟩
          · have k := heap_setCell_at (off := 2) (heap_setCell_at (off := 6) H.out (.bool true)) (.int .i64 0)
            simpa [Mb.cells, MbAt] using k
          · exact ((Kept.refl (fun k => k = b) w).setCell (p := ⟨b, 6, none⟩) (.inl rfl) _).setCell (p := ⟨b, 2, none⟩) (.inl rfl) _
        · have c4b : (W % 16 == x.n) = false := beq_eq_false_iff_ne.2 c4
          rw [if_neg (fun q => c4 q.2)]
          clear c2 c3 c4
          go_enter Tryd.func19, Tryd.ntmps19
          go_wp2_with fail
          exact bodyPost_end (v := .tuple #[]) (by simp [results, Tryd.results19, go_sem]) rfl ⟨rfl, H.out, Kept.refl _ _⟩
      · have c3b : (W / 16 == x.rd) = false := beq_eq_false_iff_ne.2 c3
        rw [if_neg (fun q => c3 q.1)]
        clear c2 c3
        go_enter Tryd.func19, Tryd.ntmps19
        go_wp2_with fail
        exact bodyPost_end (v := .tuple #[]) (by simp [results, Tryd.results19, go_sem]) rfl ⟨rfl, H.out, Kept.refl _ _⟩
end
end Go.Proofs.YtnidplpjkhepmaaDoor
