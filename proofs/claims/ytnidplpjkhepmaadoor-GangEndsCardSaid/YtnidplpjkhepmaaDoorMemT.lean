/- Layer 7: the uses of a word, that a gang makes. -/
import Derived.Test.YtnidplpjkhepmaaDoorMemA
import Derived.Deep.WholeRow
namespace Go.Proofs.YtnidplpjkhepmaaDoor
open Go.RowKit
set_option linter.unusedVariables false
set_option linter.unusedSimpArgs false
set_option linter.unusedSectionVars false

theorem bits_or_self0 (y : Int) (h0 : 0 ≤ y) (h1 : y < 4294967296) : Go.bits .or .u32 y 0 = y := by
  obtain ⟨a, rfl⟩ := Int.eq_ofNat_of_zero_le h0
  have := bits_or32 a 0 (by omega) (by decide)
  simpa using this
theorem bits_and_all (y : Int) (h0 : 0 ≤ y) (h1 : y < 4294967296) : Go.bits .and .u32 y 4294967295 = y := by
  obtain ⟨a, rfl⟩ := Int.eq_ofNat_of_zero_le h0
  have h := bits_and32 a 4294967295 (by omega) (by decide)
  have e : a &&& 4294967295 = a := by
    have := Nat.and_two_pow_sub_one_eq_mod a 32
    simp at this
    rw [this]
    omega
  rw [e] at h
  exact h
theorem bits_and_none (y : Int) (h0 : 0 ≤ y) (h1 : y < 4294967296) : Go.bits .and .u32 y 0 = 0 := by
  obtain ⟨a, rfl⟩ := Int.eq_ofNat_of_zero_le h0
  have := bits_and32 a 0 (by omega) (by decide)
  simpa using this
theorem bits_or_0 (y : Int) (h0 : 0 ≤ y) (h1 : y < 4294967296) : Go.bits .or .u32 0 y = y := by
  obtain ⟨a, rfl⟩ := Int.eq_ofNat_of_zero_le h0
  have := bits_or32 0 a (by decide) (by omega)
  simpa using this

section
variable (y v : Int) (y0 : 0 ≤ y) (y1 : y < 4294967296) (v0 : 0 ≤ v) (v1 : v < 4294967296)
include y0 y1
theorem useS_look : useS 4294967295 0 0 y = y := by rw [useS, if_pos ⟨rfl, rfl, rfl⟩]
theorem useS_take : useS 0 0 0 y = 0 := by rw [useS, if_neg (by omega), bits_and_none y y0 y1, bits_or_0 0 (by decide) (by decide)]; rfl
include v0 v1
theorem useS_store : useS 0 v 0 y = v := by rw [useS, if_neg (by omega), bits_and_none y y0 y1, bits_or_0 v v0 v1]; omega
theorem useS_add : useS 4294967295 0 v y = (y + v) % 4294967296 := by
  unfold useS
  split
  · rename_i h; obtain ⟨_, _, rfl⟩ := h; omega
  · rw [bits_and_all y y0 y1, bits_or_self0 y y0 y1]
theorem useS_or : useS 4294967295 v 0 y = Go.bits .or .u32 y v := by
  unfold useS
  split
  · rename_i h; obtain ⟨_, rfl, _⟩ := h; rw [bits_or_self0 y y0 y1]
  · rw [bits_and_all y y0 y1]
    have := bits_range .or y v (.inr rfl) y0 y1 v0 v1
    omega
end

theorem MemAt.at_ {w : World} {B G : Nat} {L : List Int} {c : Int} (h : MemAt w B G L c) {n : Nat} (hn : n < L.length) {y : Int} (Hy : Aside (L.getD n 0 = y)) : 0 ≤ y ∧ y < 4294967296 :=
  h.range _ (by rw [← Hy.out, List.getD_eq_getElem?_getD, List.getElem?_eq_getElem hn]; simp)
theorem set_same (L : List Int) (n : Nat) (hn : n < L.length) {y : Int} (Hy : Aside (L.getD n 0 = y)) : L.set n y = L := by
  rw [← Hy.out]
  apply List.ext_getElem (by simp)
  intro i h1 h2
  by_cases e : n = i
  · subst e; simp [List.getD_eq_getElem?_getD, List.getElem?_eq_getElem hn]
  · simp [List.getElem_set_ne e]

section
variable (w : World) (B G : Nat) (L : List Int) (c : Int) (n : Nat) (hM : MemAt w B G L c) (hl : Look w) (hn : n < L.length) (y : Int) (Hy : Aside (L.getD n 0 = y)) (hc0 : 0 ≤ c) (hc1 : c < 4611686018427387904) (hB : 0 ≠ B) (hG : 0 ≠ G)
include hM hl hn Hy hc0 hc1 hB hG
theorem load_yes : Calls Tryd.prog 15 #[.pointer (some ⟨B, 0, none⟩), .int .i64 n] w fun e w' => e = .returned (.tuple #[.int .u32 y, .int .i64 0]) ∧ MemAt w' B G L (c + 1) ∧ Kept (fun k => k = B ∨ k = G) w w' := by
  have hd := do_yes w B G L c n 4294967295 0 0 hM hl hn y Hy hc0 hc1 hB hG (by decide) (by decide) (by decide) (by decide) (by decide) (by decide)
  have hr := hM.at_ hn Hy
  rw [useS_look _ hr.1 hr.2, set_same L n hn Hy] at hd
  have Hd := Aside.mk hd
  obtain ⟨l0, l1, l2⟩ := hl
  clear hd hr
  go_enter Tryd.func15, Tryd.ntmps15
  go_wp2_with fail
  refine Hd.out.mono ?_
  rintro e w' ⟨rfl, h1, h2⟩
  go_wp2_with fail
  go_ret2
  exact ⟨rfl, h1, h2⟩
variable (v : Int) (v0 : 0 ≤ v) (v1 : v < 4294967296)
include v0 v1
variable (o : Int) (o0 : 0 ≤ o) (o1 : o < 4294967296)
include o0 o1
set_option maxHeartbeats 800000 in
theorem swap_yes : Calls Tryd.prog 16 #[.pointer (some ⟨B, 0, none⟩), .int .i64 n, .int .u32 o, .int .u32 v] w fun e w' => e = .returned (.tuple #[.bool (y == o), .int .i64 0]) ∧ MemAt w' B G (if y = o then L.set n v else L) (c + 1) ∧ Kept (fun k => k = B ∨ k = G) w w' := by
  have hobj := hM.obj
  have hwords := hM.words
  have h0 : w.cell? ⟨B, 0, none⟩ = some (.slice (some ⟨G, 0, none⟩) L.length L.length) := by simp [World.cell?, hobj]
  have hy : w.cell? ⟨G, n, none⟩ = some (.int .u32 y) := by
    rw [← Hy.out]; simp [World.cell?, hwords, List.getElem?_eq_getElem hn, List.getD_eq_getElem?_getD]
  have hBlt := lt_of_block hobj
  have hGlt := lt_of_block hwords
  have h0lt : 0 < w.heap.size := World.block_lt_of_cell? w _ hl.and
  have hle := hM.le
  have hr := hM.at_ hn Hy
  have hb : ∀ x : Obj, Below w.heap.size w (w.alloc x) := fun x => (Below.refl _ _).alloc (Nat.le_refl _) x
  have hs : ∀ x y : Obj, True := fun _ _ => trivial
  by_cases hyo : y = o
  · have hd := fun x => do_yes (w.alloc x) B G L c n 0 v 0 (hM.below (hb x)) (hl.below (hb x)) hn y Hy hc0 hc1 hB hG (by decide) (by decide) v0 v1 (by decide) (by decide)
    simp only [useS_store _ _ hr.1 hr.2 v0 v1] at hd
    have hyb : (y == o) = true := beq_iff_eq.2 hyo
    rw [if_pos hyo]
    have Hd := Aside.mk hd
    have Hyo := Aside.mk hyo
    obtain ⟨l0, l1, l2⟩ := hl
    clear hd hyo hobj hwords hs
    go_enter Tryd.func16, Tryd.ntmps16
    go_wp2_with fail
    refine (Hd.out _).mono ?_
    rintro e w' ⟨rfl, h1, h2⟩
    go_wp2_with fail
    go_ret2
    exact ⟨by simp [hyb], h1, (Kept.of_below (hb _)).trans (h2.mono (fun _ h => h))⟩
  · have hd := fun x => do_yes (w.alloc x) B G L c n 4294967295 0 0 (hM.below (hb x)) (hl.below (hb x)) hn y Hy hc0 hc1 hB hG (by decide) (by decide) (by decide) (by decide) (by decide) (by decide)
    simp only [useS_look _ hr.1 hr.2, set_same L n hn Hy] at hd
    have hyb : (y == o) = false := beq_eq_false_iff_ne.2 hyo
    rw [if_neg hyo]
    have Hd := Aside.mk hd
    have Hyo := Aside.mk hyo
    obtain ⟨l0, l1, l2⟩ := hl
    clear hd hyo hobj hwords hs
    go_enter Tryd.func16, Tryd.ntmps16
    go_wp2_with fail
    refine (Hd.out _).mono ?_
    rintro e w' ⟨rfl, h1, h2⟩
    go_wp2_with fail
    go_ret2
    exact ⟨by simp [hyb], h1, (Kept.of_below (hb _)).trans (h2.mono (fun _ h => h))⟩
end


/-- Since w0: a memory of the call's own, all else as it was. -/
structure MSt (w0 w : World) (B G : Nat) (L : List Int) (c : Int) : Prop where
  mem : MemAt w B G L c
  below : Below w0.heap.size w0 w
  look : Look w
  hB : w0.heap.size ≤ B
  hG : w0.heap.size ≤ G
  h0 : 0 < w0.heap.size
theorem MSt.step {w0 w w' : World} {B G : Nat} {L L' : List Int} {c c' : Int} (h : MSt w0 w B G L c) (m : MemAt w' B G L' c') (k : Kept (fun k => k = B ∨ k = G) w w') : MSt w0 w' B G L' c' :=
  ⟨m, h.below.trans (k.below h.below.size (fun i hi => by rcases hi with rfl | rfl; exact h.hB; exact h.hG)), h.look.kept k (by have := h.hB; have := h.hG; have := h.h0; omega), h.hB, h.hG, h.h0⟩
theorem MSt.old {w0 w w' : World} {B G : Nat} {L : List Int} {c : Int} (h : MSt w0 w B G L c) (k : Below w.heap.size w w') : MSt w0 w' B G L c :=
  ⟨h.mem.below k, h.below.trans (k.mono h.below.size), h.look.below k, h.hB, h.hG, h.h0⟩
theorem MSt.nB {w0 w : World} {B G : Nat} {L : List Int} {c : Int} (h : MSt w0 w B G L c) : 0 ≠ B := by have := h.hB; have := h.h0; omega
theorem MSt.nG {w0 w : World} {B G : Nat} {L : List Int} {c : Int} (h : MSt w0 w B G L c) : 0 ≠ G := by have := h.hG; have := h.h0; omega
theorem MSt.new {w0 w w' : World} {n : Nat} (hb : Below w0.heap.size w0 w) (hl : Look w0) (m : MemAt w' (w.heap.size + 1) w.heap.size (List.replicate n 0) 0) (k : Below w.heap.size w w') : MSt w0 w' (w.heap.size + 1) w.heap.size (List.replicate n 0) 0 :=
  ⟨m, hb.trans (k.mono hb.size), (hl.below hb).below k, by have := hb.size; omega, hb.size, World.block_lt_of_cell? w0 _ hl.and⟩

theorem new_st (w0 w : World) (n : Nat) (h1 : 1 ≤ n) (h2 : n ≤ 4096) (hb : Below w0.heap.size w0 w) (hl : Look w0) :
    Calls Tryd.prog 13 #[.int .i64 (n : Int)] w fun e w' => ∃ B G, e = .returned (.tuple #[.pointer (some ⟨B, 0, none⟩), .int .i64 0]) ∧ MSt w0 w' B G (List.replicate n 0) 0 ∧ Below w.heap.size w w' ∧ w.heap.size ≤ B ∧ w.heap.size ≤ G :=
  (new_yes n w h1 h2).mono fun e w' ⟨h, m, k⟩ => ⟨_, _, h, MSt.new hb hl m k, k, by omega, Nat.le_refl _⟩
end Go.Proofs.YtnidplpjkhepmaaDoor
