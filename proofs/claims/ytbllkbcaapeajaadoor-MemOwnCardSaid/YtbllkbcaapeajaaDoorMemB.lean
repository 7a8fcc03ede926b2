/- Layer 7: the uses of a word, each by its name; all words; the count. -/
import Derived.Test.YtbllkbcaapeajaaDoorMemA
import Derived.Deep.WholeRow
namespace Go.Proofs.YtbllkbcaapeajaaDoor
open Go.RowKit
set_option linter.unusedVariables false
set_option linter.unusedSimpArgs false
set_option linter.unusedSectionVars false

theorem bits_or_self0 (y : Int) (h0 : 0 ≤ y) (h1 : y < 4294967296) : Go.bits .or .u32 y 0 = y := by
  obtain ⟨a, rfl⟩ := Int.eq_ofNat_of_zero_le h0
  have := bits_or32 a 0 (by omega) (by decide)
  simpa using this
theorem bits_and_all (y : Int) (h0 : 0 ≤ y) (h1 : y < 4294967296) : Go.bits .and .u32 y 4294967295 = y := by
  obtain ⟨a, rfl⟩ := Int.eq_ofNat_of_zero_le h0
  have h := bits_and32 a 4294967295 (by omega) (by decide)
  have e : a &&& 4294967295 = a := by
    have := Nat.and_two_pow_sub_one_eq_mod a 32
    simp at this
    rw [this]
    omega
  rw [e] at h
  exact h
theorem bits_and_none (y : Int) (h0 : 0 ≤ y) (h1 : y < 4294967296) : Go.bits .and .u32 y 0 = 0 := by
  obtain ⟨a, rfl⟩ := Int.eq_ofNat_of_zero_le h0
  have := bits_and32 a 0 (by omega) (by decide)
  simpa using this
theorem bits_or_0 (y : Int) (h0 : 0 ≤ y) (h1 : y < 4294967296) : Go.bits .or .u32 0 y = y := by
  obtain ⟨a, rfl⟩ := Int.eq_ofNat_of_zero_le h0
  have := bits_or32 0 a (by decide) (by omega)
  simpa using this

section
variable (y v : Int) (y0 : 0 ≤ y) (y1 : y < 4294967296) (v0 : 0 ≤ v) (v1 : v < 4294967296)
include y0 y1
theorem useS_look : useS 4294967295 0 0 y = y := by rw [useS, if_pos ⟨rfl, rfl, rfl⟩]
theorem useS_take : useS 0 0 0 y = 0 := by rw [useS, if_neg (by omega), bits_and_none y y0 y1, bits_or_0 0 (by decide) (by decide)]; rfl
include v0 v1
theorem useS_store : useS 0 v 0 y = v := by rw [useS, if_neg (by omega), bits_and_none y y0 y1, bits_or_0 v v0 v1]; omega
theorem useS_add : useS 4294967295 0 v y = (y + v) % 4294967296 := by
  unfold useS
  split
  · rename_i h; obtain ⟨_, _, rfl⟩ := h; omega
  · rw [bits_and_all y y0 y1, bits_or_self0 y y0 y1]
theorem useS_or : useS 4294967295 v 0 y = Go.bits .or .u32 y v := by
  unfold useS
  split
  · rename_i h; obtain ⟨_, rfl, _⟩ := h; rw [bits_or_self0 y y0 y1]
  · rw [bits_and_all y y0 y1]
    have := bits_range .or y v (.inr rfl) y0 y1 v0 v1
    omega
end

theorem MemAt.at_ {w : World} {B G : Nat} {L : List Int} {c : Int} (h : MemAt w B G L c) {n : Nat} (hn : n < L.length) {y : Int} (Hy : Aside (L.getD n 0 = y)) : 0 ≤ y ∧ y < 4294967296 :=
  h.range _ (by rw [← Hy.out, List.getD_eq_getElem?_getD, List.getElem?_eq_getElem hn]; simp)
theorem set_same (L : List Int) (n : Nat) (hn : n < L.length) {y : Int} (Hy : Aside (L.getD n 0 = y)) : L.set n y = L := by
  rw [← Hy.out]
  apply List.ext_getElem (by simp)
  intro i h1 h2
  by_cases e : n = i
  · subst e; simp [List.getD_eq_getElem?_getD, List.getElem?_eq_getElem hn]
  · simp [List.getElem_set_ne e]

section
variable (w : World) (B G : Nat) (L : List Int) (c : Int) (n : Nat) (hM : MemAt w B G L c) (hl : Look w) (hn : n < L.length) (y : Int) (Hy : Aside (L.getD n 0 = y)) (hc0 : 0 ≤ c) (hc1 : c < 4611686018427387904) (hB : 0 ≠ B) (hG : 0 ≠ G)
include hM hl hn Hy hc0 hc1 hB hG
theorem load_yes : Calls Tryd.prog 19 #[.pointer (some ⟨B, 0, none⟩), .int .i64 n] w fun e w' => e = .returned (.tuple #[.int .u32 y, .int .i64 0]) ∧ MemAt w' B G L (c + 1) ∧ Kept (fun k => k = B ∨ k = G) w w' := by
  have hd := do_yes w B G L c n 4294967295 0 0 hM hl hn y Hy hc0 hc1 hB hG (by decide) (by decide) (by decide) (by decide) (by decide) (by decide)
  have hr := hM.at_ hn Hy
  rw [useS_look _ hr.1 hr.2, set_same L n hn Hy] at hd
  have Hd := Aside.mk hd
  obtain ⟨l0, l1, l2⟩ := hl
  clear hd hr
  go_enter Tryd.func19, Tryd.ntmps19
  go_wp2_with fail
  refine Hd.out.mono ?_
  rintro e w' ⟨rfl, h1, h2⟩
  go_wp2_with fail
  go_ret2
  exact ⟨rfl, h1, h2⟩
theorem take_yes : Calls Tryd.prog 22 #[.pointer (some ⟨B, 0, none⟩), .int .i64 n] w fun e w' => e = .returned (.tuple #[.int .u32 y, .int .i64 0]) ∧ MemAt w' B G (L.set n 0) (c + 1) ∧ Kept (fun k => k = B ∨ k = G) w w' := by
  have hd := do_yes w B G L c n 0 0 0 hM hl hn y Hy hc0 hc1 hB hG (by decide) (by decide) (by decide) (by decide) (by decide) (by decide)
  have hr := hM.at_ hn Hy
  rw [useS_take _ hr.1 hr.2] at hd
  have Hd := Aside.mk hd
  clear hd hr
  go_enter Tryd.func22, Tryd.ntmps22
  go_wp2_with fail
  refine Hd.out.mono ?_
  rintro e w' ⟨rfl, h1, h2⟩
  go_wp2_with fail
  go_ret2
  exact ⟨rfl, h1, h2⟩
variable (v : Int) (v0 : 0 ≤ v) (v1 : v < 4294967296)
include v0 v1
theorem store_yes : Calls Tryd.prog 17 #[.pointer (some ⟨B, 0, none⟩), .int .i64 n, .int .u32 v] w fun e w' => e = .returned (.int .i64 0) ∧ MemAt w' B G (L.set n v) (c + 1) ∧ Kept (fun k => k = B ∨ k = G) w w' := by
  have hd := do_yes w B G L c n 0 v 0 hM hl hn y Hy hc0 hc1 hB hG (by decide) (by decide) v0 v1 (by decide) (by decide)
  have hr := hM.at_ hn Hy
  rw [useS_store _ _ hr.1 hr.2 v0 v1] at hd
  have Hd := Aside.mk hd
  clear hd hr
  go_enter Tryd.func17, Tryd.ntmps17
  go_wp2_with fail
  refine Hd.out.mono ?_
  rintro e w' ⟨rfl, h1, h2⟩
  go_wp2_with fail
  go_ret
  exact ⟨rfl, h1, h2⟩
theorem add_yes : Calls Tryd.prog 20 #[.pointer (some ⟨B, 0, none⟩), .int .i64 n, .int .u32 v] w fun e w' => e = .returned (.tuple #[.int .u32 y, .int .i64 0]) ∧ MemAt w' B G (L.set n ((y + v) % 4294967296)) (c + 1) ∧ Kept (fun k => k = B ∨ k = G) w w' := by
  have hd := do_yes w B G L c n 4294967295 0 v hM hl hn y Hy hc0 hc1 hB hG (by decide) (by decide) (by decide) (by decide) v0 v1
  have hr := hM.at_ hn Hy
  rw [useS_add _ _ hr.1 hr.2 v0 v1] at hd
  have Hd := Aside.mk hd
  obtain ⟨l0, l1, l2⟩ := hl
  clear hd hr
  go_enter Tryd.func20, Tryd.ntmps20
  go_wp2_with fail
  refine Hd.out.mono ?_
  rintro e w' ⟨rfl, h1, h2⟩
  go_wp2_with fail
  go_ret2
  exact ⟨rfl, h1, h2⟩
theorem or_yes : Calls Tryd.prog 21 #[.pointer (some ⟨B, 0, none⟩), .int .i64 n, .int .u32 v] w fun e w' => e = .returned (.tuple #[.int .u32 y, .int .i64 0]) ∧ MemAt w' B G (L.set n (Go.bits .or .u32 y v)) (c + 1) ∧ Kept (fun k => k = B ∨ k = G) w w' := by
  have hd := do_yes w B G L c n 4294967295 v 0 hM hl hn y Hy hc0 hc1 hB hG (by decide) (by decide) v0 v1 (by decide) (by decide)
  have hr := hM.at_ hn Hy
  rw [useS_or _ _ hr.1 hr.2 v0 v1] at hd
  have Hd := Aside.mk hd
  obtain ⟨l0, l1, l2⟩ := hl
  clear hd hr
  go_enter Tryd.func21, Tryd.ntmps21
  go_wp2_with fail
  refine Hd.out.mono ?_
  rintro e w' ⟨rfl, h1, h2⟩
  go_wp2_with fail
  go_ret2
  exact ⟨rfl, h1, h2⟩
variable (o : Int) (o0 : 0 ≤ o) (o1 : o < 4294967296)
include o0 o1
set_option maxHeartbeats 800000 in
theorem swap_yes : Calls Tryd.prog 18 #[.pointer (some ⟨B, 0, none⟩), .int .i64 n, .int .u32 o, .int .u32 v] w fun e w' => e = .returned (.tuple #[.bool (y == o), .int .i64 0]) ∧ MemAt w' B G (if y = o then L.set n v else L) (c + 1) ∧ Kept (fun k => k = B ∨ k = G) w w' := by
  have hobj := hM.obj
  have hwords := hM.words
  have h0 : w.cell? ⟨B, 0, none⟩ = some (.slice (some ⟨G, 0, none⟩) L.length L.length) := by simp [World.cell?, hobj]
  have hy : w.cell? ⟨G, n, none⟩ = some (.int .u32 y) := by
    rw [← Hy.out]; simp [World.cell?, hwords, List.getElem?_eq_getElem hn, List.getD_eq_getElem?_getD]
  have hBlt := lt_of_block hobj
  have hGlt := lt_of_block hwords
  have h0lt : 0 < w.heap.size := World.block_lt_of_cell? w _ hl.and
  have hle := hM.le
  have hr := hM.at_ hn Hy
  have hb : ∀ x : Obj, Below w.heap.size w (w.alloc x) := fun x => (Below.refl _ _).alloc (Nat.le_refl _) x
  have hs : ∀ x y : Obj, True := fun _ _ => trivial
  by_cases hyo : y = o
  · have hd := fun x => do_yes (w.alloc x) B G L c n 0 v 0 (hM.below (hb x)) (hl.below (hb x)) hn y Hy hc0 hc1 hB hG (by decide) (by decide) v0 v1 (by decide) (by decide)
    simp only [useS_store _ _ hr.1 hr.2 v0 v1] at hd
    have hyb : (y == o) = true := beq_iff_eq.2 hyo
    rw [if_pos hyo]
    have Hd := Aside.mk hd
    have Hyo := Aside.mk hyo
    obtain ⟨l0, l1, l2⟩ := hl
    clear hd hyo hobj hwords hs
    go_enter Tryd.func18, Tryd.ntmps18
    go_wp2_with fail
    refine (Hd.out _).mono ?_
    rintro e w' ⟨rfl, h1, h2⟩
    go_wp2_with fail
    go_ret2
    exact ⟨by simp [hyb], h1, (Kept.of_below (hb _)).trans (h2.mono (fun _ h => h))⟩
  · have hd := fun x => do_yes (w.alloc x) B G L c n 4294967295 0 0 (hM.below (hb x)) (hl.below (hb x)) hn y Hy hc0 hc1 hB hG (by decide) (by decide) (by decide) (by decide) (by decide) (by decide)
    simp only [useS_look _ hr.1 hr.2, set_same L n hn Hy] at hd
    have hyb : (y == o) = false := beq_eq_false_iff_ne.2 hyo
    rw [if_neg hyo]
    have Hd := Aside.mk hd
    have Hyo := Aside.mk hyo
    obtain ⟨l0, l1, l2⟩ := hl
    clear hd hyo hobj hwords hs
    go_enter Tryd.func18, Tryd.ntmps18
    go_wp2_with fail
    refine (Hd.out _).mono ?_
    rintro e w' ⟨rfl, h1, h2⟩
    go_wp2_with fail
    go_ret2
    exact ⟨by simp [hyb], h1, (Kept.of_below (hb _)).trans (h2.mono (fun _ h => h))⟩
end

section
variable (w : World) (B G : Nat) (L : List Int) (c at_ : Int) (hM : MemAt w B G L c) (hl : Look w) (h : at_ < 0 ∨ (L.length : Int) ≤ at_)
include hM hl h
theorem load_no : Calls Tryd.prog 19 #[.pointer (some ⟨B, 0, none⟩), .int .i64 at_] w fun e w' => e = .returned (.tuple #[.int .u32 0, .int .i64 81]) ∧ Below w.heap.size w w' := by
  have Hd := Aside.mk (do_no w B G L c at_ 4294967295 0 0 hM h)
  obtain ⟨l0, l1, l2⟩ := hl
  clear h
  go_enter Tryd.func19, Tryd.ntmps19
  go_wp2_with (go_at_call 24; refine Hd.out.mono ?_; rintro e w' ⟨rfl, hb⟩)
  go_ret2
  exact ⟨rfl, hb⟩
theorem take_no : Calls Tryd.prog 22 #[.pointer (some ⟨B, 0, none⟩), .int .i64 at_] w fun e w' => e = .returned (.tuple #[.int .u32 0, .int .i64 81]) ∧ Below w.heap.size w w' := by
  have Hd := Aside.mk (do_no w B G L c at_ 0 0 0 hM h)
  clear h
  go_enter Tryd.func22, Tryd.ntmps22
  go_wp2_with (go_at_call 24; refine Hd.out.mono ?_; rintro e w' ⟨rfl, hb⟩)
  go_ret2
  exact ⟨rfl, hb⟩
variable (v : Int)
theorem store_no : Calls Tryd.prog 17 #[.pointer (some ⟨B, 0, none⟩), .int .i64 at_, .int .u32 v] w fun e w' => e = .returned (.int .i64 81) ∧ Below w.heap.size w w' := by
  have Hd := Aside.mk (do_no w B G L c at_ 0 v 0 hM h)
  clear h
  go_enter Tryd.func17, Tryd.ntmps17
  go_wp2_with (go_at_call 24; refine Hd.out.mono ?_; rintro e w' ⟨rfl, hb⟩)
  go_ret
  exact ⟨rfl, hb⟩
theorem add_no : Calls Tryd.prog 20 #[.pointer (some ⟨B, 0, none⟩), .int .i64 at_, .int .u32 v] w fun e w' => e = .returned (.tuple #[.int .u32 0, .int .i64 81]) ∧ Below w.heap.size w w' := by
  have Hd := Aside.mk (do_no w B G L c at_ 4294967295 0 v hM h)
  obtain ⟨l0, l1, l2⟩ := hl
  clear h
  go_enter Tryd.func20, Tryd.ntmps20
  go_wp2_with (go_at_call 24; refine Hd.out.mono ?_; rintro e w' ⟨rfl, hb⟩)
  go_ret2
  exact ⟨rfl, hb⟩
theorem or_no : Calls Tryd.prog 21 #[.pointer (some ⟨B, 0, none⟩), .int .i64 at_, .int .u32 v] w fun e w' => e = .returned (.tuple #[.int .u32 0, .int .i64 81]) ∧ Below w.heap.size w w' := by
  have Hd := Aside.mk (do_no w B G L c at_ 4294967295 v 0 hM h)
  obtain ⟨l0, l1, l2⟩ := hl
  clear h
  go_enter Tryd.func21, Tryd.ntmps21
  go_wp2_with (go_at_call 24; refine Hd.out.mono ?_; rintro e w' ⟨rfl, hb⟩)
  go_ret2
  exact ⟨rfl, hb⟩
theorem swap_no (o : Int) : Calls Tryd.prog 18 #[.pointer (some ⟨B, 0, none⟩), .int .i64 at_, .int .u32 o, .int .u32 v] w fun e w' => e = .returned (.tuple #[.bool false, .int .i64 81]) ∧ Below w.heap.size w w' := by
  have hobj := hM.obj
  have h0 : w.cell? ⟨B, 0, none⟩ = some (.slice (some ⟨G, 0, none⟩) L.length L.length) := by simp [World.cell?, hobj]
  have hBlt := lt_of_block hobj
  have h0lt : 0 < w.heap.size := World.block_lt_of_cell? w _ hl.and
  have hle := hM.le
  have hb0 : ∀ x : Obj, Below w.heap.size w (w.alloc x) := fun x => (Below.refl _ _).alloc (Nat.le_refl _) x
  have Hd := Aside.mk (fun x => do_no (w.alloc x) B G L c at_ 4294967295 0 0 (hM.below (hb0 x)) h)
  obtain ⟨l0, l1, l2⟩ := hl
  by_cases h1 : at_ < 0
  · clear h hobj
    go_enter Tryd.func18, Tryd.ntmps18
    go_wp2_with (go_at_call 24; refine (Hd.out _).mono ?_; rintro e w' ⟨rfl, hb⟩)
    go_ret2
    exact ⟨rfl, below_then (hb0 _) hb⟩
  · have h2 : (L.length : Int) ≤ at_ := by omega
    clear h hobj
    go_enter Tryd.func18, Tryd.ntmps18
    go_wp2_with (go_at_call 24; refine (Hd.out _).mono ?_; rintro e w' ⟨rfl, hb⟩)
    go_ret2
    exact ⟨rfl, below_then (hb0 _) hb⟩
end

theorem count_any (w : World) (B G : Nat) (L : List Int) (c : Int) (hM : MemAt w B G L c) :
    Calls Tryd.prog 14 #[.pointer (some ⟨B, 0, none⟩)] w fun e w' => e = .returned (.int .i64 c) ∧ w = w' := by
  have hobj := hM.obj
  have h1 : w.cell? ⟨B, 1, none⟩ = some (.int .i64 c) := by simp [World.cell?, hobj]
  clear hobj
  go_enter Tryd.func14, Tryd.ntmps14
  go_wp2_with fail
  go_ret
  exact ⟨rfl, rfl⟩

theorem words_any (w : World) (B G : Nat) (L : List Int) (c : Int) (hM : MemAt w B G L c) :
    Calls Tryd.prog 16 #[.pointer (some ⟨B, 0, none⟩)] w fun e w' => e = .returned (.slice (some ⟨w.heap.size, 0, none⟩) L.length L.length) ∧ w.alloc (.cells (L.map (Value.int .u32)).toArray 33) = w' := by
  have hobj := hM.obj
  have hwords := hM.words
  have h0 : w.cell? ⟨B, 0, none⟩ = some (.slice (some ⟨G, 0, none⟩) L.length L.length) := by simp [World.cell?, hobj]
  have hBlt := lt_of_block hobj
  have hle := hM.le
  have hmk : ∀ W : World, (Instr.makeSlice 27 (.int .i64 (L.length : Int)) (.int .i64 (L.length : Int))).run Tryd.prog W = .ok (.slice (some ⟨W.heap.size, 0, none⟩) L.length L.length) (W.alloc (.cells (madeCells #[.int .u32 0] L.length) 33)) := fun W =>
    run_make_row' 27 33 (.int .u32 0) 4 Tryd.underlying27 A_info_u32 rfl .i64 .i64 L.length (by omega) (by omega) W
  have hcp : ∀ ty, (Builtin.copy_ #[27, 27] ty #[.slice (some ⟨w.heap.size, 0, none⟩) L.length L.length, .slice (some ⟨G, 0, none⟩) L.length L.length]).run Tryd.prog (w.alloc (.cells (madeCells #[.int .u32 0] L.length) 33)) = .ok (goInt L.length) (w.alloc (.cells (L.map (Value.int .u32)).toArray 33)) := by
    intro ty
    have := run_copy_row (P := Tryd.prog) (w.alloc (.cells (madeCells #[.int .u32 0] L.length) 33)) 27 27 ty 33 w.heap.size 0 L.length L.length ⟨G, 0, none⟩ L.length L.length (madeCells #[.int .u32 0] L.length) 33 (L.map (Value.int .u32))
      Tryd.underlying27 (by kernel_rfl) (heap_alloc_new _ _) (by simp) ?_ (by simp [size_madeCells]) (ints_oneCell _ _)
    · rw [this, World.setRow_alloc_new]
      congr 1
      · simp
      · congr 3
        simp [size_madeCells]
    · intro j v hv
      have hj : j < L.length := by
        have := (List.getElem?_eq_some_iff.1 hv).1
        simpa using this
      rw [Addr.add_lit, Nat.zero_add, World.cell?_alloc_past _ _ _ (lt_of_block hwords)]
      simp [World.cell?, hwords]
      simpa using hv
  clear hobj hwords
  go_enter Tryd.func16, Tryd.ntmps16
  go_wp2_with fail
  go_ret
  exact ⟨rfl, rfl⟩
end Go.Proofs.YtbllkbcaapeajaaDoor
