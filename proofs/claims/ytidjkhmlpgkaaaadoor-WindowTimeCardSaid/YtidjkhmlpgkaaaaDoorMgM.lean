/- Layer 7: a memory's words, and what a use of a word does. Layer 7: the uses of a word, that a gang makes. Layer 23: a member of a gang: what begins, what a step does. -/
import Derived.Test.YtidjkhmlpgkaaaaDoorProg
import Derived.Test.YtidjkhmlpgkaaaaDoorKit
import Derived.Deep.OwnRows
import Derived.Laws.CopyOwn
import Derived.Deep.WholeRow
namespace Go.Proofs.YtidjkhmlpgkaaaaDoor
open Go.RowKit
set_option linter.unusedVariables false
set_option linter.unusedSimpArgs false

/-- The package's variable look: a use that changes nothing. -/
structure Look (w : World) : Prop where
  and : w.cell? ⟨0, 0, none⟩ = some (.int .u32 4294967295)
  or : w.cell? ⟨0, 1, none⟩ = some (.int .u32 0)
  add : w.cell? ⟨0, 2, none⟩ = some (.int .u32 0)

/-- A memory at block B, its words at block G. -/
structure MemAt (w : World) (B G : Nat) (L : List Int) (c : Int) : Prop where
  obj : w.heap[B]? = some (.cells #[.slice (some ⟨G, 0, none⟩) L.length L.length, .int .i64 c] 135 (0, 0))
  words : w.heap[G]? = some (.cells (L.map (Value.int .u32)).toArray 112 (0, 0))
  ne : B ≠ G
  pos : 0 < L.length
  le : L.length ≤ 4096
  range : ∀ x ∈ L, 0 ≤ x ∧ x < 4294967296

theorem MemAt.kept {S : Nat → Prop} {w w' : World} {B G : Nat} {L : List Int} {c : Int} (h : MemAt w B G L c) (k : Kept S w w') (hB : ¬ S B) (hG : ¬ S G) : MemAt w' B G L c :=
  ⟨k.heap h.obj hB, k.heap h.words hG, h.ne, h.pos, h.le, h.range⟩
theorem MemAt.below {w w' : World} {B G : Nat} {L : List Int} {c : Int} (h : MemAt w B G L c) (k : Below w.heap.size w w') : MemAt w' B G L c :=
  h.kept (S := fun _ => False) (Kept.of_below k) id id
theorem MemAt.count {w : World} {B G : Nat} {L : List Int} {c : Int} (h : MemAt w B G L c) (c' : Int) : MemAt (w.setCell ⟨B, 1, none⟩ (.int .i64 c')) B G L c' :=
  ⟨heap_setCell_at h.obj _, (Below.heap_setCell _ _ _ _ (Ne.symm h.ne)).trans h.words, h.ne, h.pos, h.le, h.range⟩
theorem MemAt.word {w : World} {B G : Nat} {L : List Int} {c : Int} (h : MemAt w B G L c) (n : Nat) (z : Int) (z0 : 0 ≤ z) (z1 : z < 4294967296) : MemAt (w.setCell ⟨G, n, none⟩ (.int .u32 z)) B G (L.set n z) c := by
  refine ⟨?_, ?_, h.ne, by simpa using h.pos, by simpa using h.le, ?_⟩
  · rw [Below.heap_setCell _ _ _ _ h.ne, List.length_set]; exact h.obj
  · have := heap_setCell_at (off := n) h.words (.int .u32 z)
    rw [this]
    simp [List.map_set]
  · intro x hx
    rcases List.mem_or_eq_of_mem_set hx with h1 | rfl
    · exact h.range x h1
    · exact ⟨z0, z1⟩
theorem Look.kept {S : Nat → Prop} {w w' : World} (h : Look w) (k : Kept S w w') (hS : ¬ S 0) : Look w' := ⟨k.cell h.and hS, k.cell h.or hS, k.cell h.add hS⟩
theorem Look.below {w w' : World} (h : Look w) (k : Below w.heap.size w w') : Look w' := h.kept (S := fun _ => False) (Kept.of_below k) id

theorem bits_range (op : BinOp) (x y : Int) (h : op = .and ∨ op = .or) (x0 : 0 ≤ x) (x1 : x < 4294967296) (y0 : 0 ≤ y) (y1 : y < 4294967296) : 0 ≤ Go.bits op .u32 x y ∧ Go.bits op .u32 x y < 4294967296 := by
  obtain ⟨a, rfl⟩ := Int.eq_ofNat_of_zero_le x0
  obtain ⟨b, rfl⟩ := Int.eq_ofNat_of_zero_le y0
  rcases h with rfl | rfl
  · rw [bits_and32 a b (by omega) (by omega)]
    have := Nat.and_lt_two_pow (x := a) (y := b) (n := 32) (by omega)
    omega
  · rw [bits_or32 a b (by omega) (by omega)]
    have := Nat.or_lt_two_pow (x := a) (y := b) (n := 32) (by omega) (by omega)
    omega

def useS (a o d y : Int) : Int := if a = 4294967295 ∧ o = 0 ∧ d = 0 then y else ((Go.bits .or .u32 (Go.bits .and .u32 y a) o) + d) % 4294967296

theorem do_no (w : World) (B G : Nat) (L : List Int) (c at_ a o d : Int) (hM : MemAt w B G L c) (h : at_ < 0 ∨ (L.length : Int) ≤ at_) :
    Calls Tryd.prog 91 #[.pointer (some ⟨B, 0, none⟩), .int .i64 at_, .agg #[.int .u32 a, .int .u32 o, .int .u32 d]] w fun e w' => e = .returned (.tuple #[.int .u32 0, .int .i64 81]) ∧ Below w.heap.size w w' := by
  have hc := hM.obj
  have h0 : w.cell? ⟨B, 0, none⟩ = some (.slice (some ⟨G, 0, none⟩) L.length L.length) := by simp [World.cell?, hc]
  have hlt := lt_of_block hc
  have h0' : (w.alloc (.cells #[.int .u32 a, .int .u32 o, .int .u32 d] 163)).cell? ⟨B, 0, none⟩ = some (.slice (some ⟨G, 0, none⟩) L.length L.length) := by
    rw [World.cell?_alloc_past _ _ _ hlt]; exact h0
  have hle := hM.le
  clear hc
  by_cases h1 : at_ < 0
  · go_enter Tryd.func91, Tryd.ntmps91
    go_wp2_with fail
    go_ret2
    exact ⟨rfl, (Below.refl _ _).alloc (Nat.le_refl _) _⟩
  · have h2 : (L.length : Int) ≤ at_ := by omega
    go_enter Tryd.func91, Tryd.ntmps91
    go_wp2_with fail
    go_ret2
    exact ⟨rfl, (Below.refl _ _).alloc (Nat.le_refl _) _⟩

set_option maxHeartbeats 1600000 in
theorem do_yes (w : World) (B G : Nat) (L : List Int) (c : Int) (n : Nat) (a o d : Int) (hM : MemAt w B G L c) (hl : Look w) (hn : n < L.length) (y : Int) (Hy : Aside (L.getD n 0 = y)) (hc0 : 0 ≤ c) (hc1 : c < 4611686018427387904) (hB : 0 ≠ B) (hG : 0 ≠ G)
    (a0 : 0 ≤ a) (a1 : a < 4294967296) (o0 : 0 ≤ o) (o1 : o < 4294967296) (d0 : 0 ≤ d) (d1 : d < 4294967296) :
    Calls Tryd.prog 91 #[.pointer (some ⟨B, 0, none⟩), .int .i64 n, .agg #[.int .u32 a, .int .u32 o, .int .u32 d]] w fun e w' => e = .returned (.tuple #[.int .u32 y, .int .i64 0]) ∧ MemAt w' B G (L.set n (useS a o d y)) (c + 1) ∧ Kept (fun k => k = B ∨ k = G) w w' := by
  have hM' := Aside.mk hM
  have hobj := hM.obj
  have hwords := hM.words
  have hne := hM.ne
  have hlo := hl
  obtain ⟨l0, l1, l2⟩ := hl
  have h0 : w.cell? ⟨B, 0, none⟩ = some (.slice (some ⟨G, 0, none⟩) L.length L.length) := by simp [World.cell?, hobj]
  have h1 : w.cell? ⟨B, 1, none⟩ = some (.int .i64 c) := by simp [World.cell?, hobj]
  have f1 : w.frozen? ⟨B, 1, none⟩ = false := by simp [World.frozen?, hobj]
  have hy : w.cell? ⟨G, n, none⟩ = some (.int .u32 y) := by
    rw [← Hy.out]; simp [World.cell?, hwords, List.getElem?_eq_getElem hn, List.getD_eq_getElem?_getD]
  have fy : w.frozen? ⟨G, n, none⟩ = false := by simp [World.frozen?, hwords]
  have hBlt := lt_of_block hobj
  have hGlt := lt_of_block hwords
  have h0lt : 0 < w.heap.size := World.block_lt_of_cell? w _ l0
  have hle := hM.le
  clear hobj hwords
  by_cases hu : a = 4294967295 ∧ o = 0 ∧ d = 0
  · obtain ⟨rfl, rfl, rfl⟩ := hu
    go_enter Tryd.func91, Tryd.ntmps91
    go_wp2_with fail
    go_ret2
    refine ⟨rfl, ?_, ?_⟩
    · have hs : L.set n (useS 4294967295 0 0 y) = L := by
        rw [useS, if_pos ⟨rfl, rfl, rfl⟩, ← Hy.out]
        apply List.ext_getElem (by simp)
        intro i h1 h2
        by_cases e : n = i
        · subst e; simp [List.getD_eq_getElem?_getD, List.getElem?_eq_getElem hn]
        · simp [List.getElem_set_ne e]
      rw [hs]
      exact (hM'.out.count (c + 1)).below ((Below.refl _ _).alloc (Nat.le_refl _) _)
    · exact ((Kept.refl _ _).setCell (.inl (.inl rfl)) _).alloc _
  · have hr := hM'.out.range y (by rw [← Hy.out, List.getD_eq_getElem?_getD, List.getElem?_eq_getElem hn]; simp)
    have hx1 := bits_range .and y a (.inl rfl) hr.1 hr.2 a0 a1
    have hx2 := bits_range .or (Go.bits .and .u32 y a) o (.inr rfl) hx1.1 hx1.2 o0 o1
    have hq : useS a o d y = (Go.bits .or .u32 (Go.bits .and .u32 y a) o + d) % 4294967296 := by rw [useS, if_neg hu]
    have Hq := Aside.mk hq
    have Hx2 := Aside.mk hx2
    have hcmp : (a == 4294967295 && (o == 0 && d == 0)) = false := by
      rw [Bool.eq_false_iff]
      intro h
      simp at h
      exact hu h
    have hcases : (a == 4294967295) = false ∨ ((a == 4294967295) = true ∧ (o == 0) = false) ∨ ((a == 4294967295) = true ∧ (o == 0) = true ∧ (d == 0) = false) := by
      cases h1 : (a == 4294967295) <;> cases h2 : (o == 0) <;> cases h3 : (d == 0) <;> simp_all
    clear hu hcmp hx1 hx2 hr hq
    rcases hcases with e1 | ⟨e1, e2⟩ | ⟨e1, e2, e3⟩
    all_goals
      go_enter Tryd.func91, Tryd.ntmps91
      go_wp2_with fail
      go_region
      all_goals go_wp2_with fail
      go_region
      all_goals go_wp2_with fail
      go_ret2
      refine ⟨rfl, ?_, ?_⟩
      · rw [Hq.out]
        have hA := ((hM'.out.count (c + 1)).word n _ Hx2.out.1 Hx2.out.2).word n ((Go.bits .or .u32 (Go.bits .and .u32 y a) o + d) % 4294967296) (by omega) (by omega)
        rw [List.set_set] at hA
        exact hA.below ((Below.refl _ _).alloc (Nat.le_refl _) _).drew.drew
      · exact (((((Kept.refl (fun k => k = B ∨ k = G) w).setCell (Or.inl (Or.inl rfl)) _).setCell (Or.inl (Or.inr rfl)) _).setCell (Or.inl (Or.inr rfl)) _).alloc _).drew.drew

theorem A_info_u32 : (Tryd.prog.info? 112).map (fun i => (i.zero, i.size, i.bytes)) = some (some (.int .u32 0), 1, 4) := by kernel_rfl
theorem made_u32 (n : Nat) : madeCells #[Value.int .u32 0] n = ((List.replicate n (0 : Int)).map (Value.int .u32)).toArray := by
  apply Array.ext
  · simp [madeCells]
  · intro i h1 h2
    simp [madeCells, Nat.mod_one]

theorem new_no (n : Int) (w : World) (h : n < 1 ∨ 4096 < n) :
    Calls Tryd.prog 39 #[.int .i64 n] w fun e w' => e = .returned (.tuple #[.pointer none, .int .i64 80]) ∧ w = w' := by
  by_cases h1 : n < 1
  · go_enter Tryd.func39, Tryd.ntmps39
    go_wp2_with fail
    go_ret2
    exact ⟨rfl, rfl⟩
  · have h2 : 4096 < n := by omega
    go_enter Tryd.func39, Tryd.ntmps39
    go_wp2_with fail
    go_ret2
    exact ⟨rfl, rfl⟩

theorem new_yes (n : Nat) (w : World) (h1 : 1 ≤ n) (h2 : n ≤ 4096) :
    Calls Tryd.prog 39 #[.int .i64 (n : Int)] w fun e w' => e = .returned (.tuple #[.pointer (some ⟨w.heap.size + 1, 0, none⟩), .int .i64 0]) ∧ MemAt w' (w.heap.size + 1) w.heap.size (List.replicate n 0) 0 ∧ Below w.heap.size w w' := by
  have hmk : ∀ W : World, (Instr.makeSlice 57 (.int .i64 (n : Int)) (.int .i64 (n : Int))).run Tryd.prog W = .ok (.slice (some ⟨W.heap.size, 0, none⟩) n n) (W.alloc (.cells (madeCells #[.int .u32 0] n) 112)) := fun W =>
    run_make_row' 57 112 (.int .u32 0) 4 Tryd.underlying57 A_info_u32 rfl .i64 .i64 n (by omega) (by omega) W
  go_enter Tryd.func39, Tryd.ntmps39
  go_wp2_with fail
  go_ret2
  refine ⟨rfl, ⟨?_, ?_, by omega, by simp; omega, by simp; omega, by simp⟩, ((Below.refl _ _).alloc (Nat.le_refl _) _).alloc (by simp) _⟩
  · simpa using heap_alloc_new (w.alloc (.cells (madeCells #[.int .u32 0] n) 112)) (.cells #[.slice (some ⟨w.heap.size, 0, none⟩) n n, .int .i64 0] 135)
  · rw [← made_u32]
    exact (Below.heap_alloc _ _ _ (by simp)).trans (heap_alloc_new _ _)
end Go.Proofs.YtidjkhmlpgkaaaaDoor

namespace Go.Proofs.YtidjkhmlpgkaaaaDoor
open Go.RowKit
set_option linter.unusedVariables false
set_option linter.unusedSimpArgs false
set_option linter.unusedSectionVars false

theorem bits_or_self0 (y : Int) (h0 : 0 ≤ y) (h1 : y < 4294967296) : Go.bits .or .u32 y 0 = y := by
  obtain ⟨a, rfl⟩ := Int.eq_ofNat_of_zero_le h0
  have := bits_or32 a 0 (by omega) (by decide)
  simpa using this
theorem bits_and_all (y : Int) (h0 : 0 ≤ y) (h1 : y < 4294967296) : Go.bits .and .u32 y 4294967295 = y := by
  obtain ⟨a, rfl⟩ := Int.eq_ofNat_of_zero_le h0
  have h := bits_and32 a 4294967295 (by omega) (by decide)
  have e : a &&& 4294967295 = a := by
    have := Nat.and_two_pow_sub_one_eq_mod a 32
    simp at this
    rw [this]
    omega
  rw [e] at h
  exact h
theorem bits_and_none (y : Int) (h0 : 0 ≤ y) (h1 : y < 4294967296) : Go.bits .and .u32 y 0 = 0 := by
  obtain ⟨a, rfl⟩ := Int.eq_ofNat_of_zero_le h0
  have := bits_and32 a 0 (by omega) (by decide)
  simpa using this
theorem bits_or_0 (y : Int) (h0 : 0 ≤ y) (h1 : y < 4294967296) : Go.bits .or .u32 0 y = y := by
  obtain ⟨a, rfl⟩ := Int.eq_ofNat_of_zero_le h0
  have := bits_or32 0 a (by decide) (by omega)
  simpa using this

section
variable (y v : Int) (y0 : 0 ≤ y) (y1 : y < 4294967296) (v0 : 0 ≤ v) (v1 : v < 4294967296)
include y0 y1
theorem useS_look : useS 4294967295 0 0 y = y := by rw [useS, if_pos ⟨rfl, rfl, rfl⟩]
theorem useS_take : useS 0 0 0 y = 0 := by rw [useS, if_neg (by omega), bits_and_none y y0 y1, bits_or_0 0 (by decide) (by decide)]; rfl
include v0 v1
theorem useS_store : useS 0 v 0 y = v := by rw [useS, if_neg (by omega), bits_and_none y y0 y1, bits_or_0 v v0 v1]; omega
theorem useS_add : useS 4294967295 0 v y = (y + v) % 4294967296 := by
  unfold useS
  split
  · rename_i h; obtain ⟨_, _, rfl⟩ := h; omega
  · rw [bits_and_all y y0 y1, bits_or_self0 y y0 y1]
theorem useS_or : useS 4294967295 v 0 y = Go.bits .or .u32 y v := by
  unfold useS
  split
  · rename_i h; obtain ⟨_, rfl, _⟩ := h; rw [bits_or_self0 y y0 y1]
  · rw [bits_and_all y y0 y1]
    have := bits_range .or y v (.inr rfl) y0 y1 v0 v1
    omega
end

theorem MemAt.at_ {w : World} {B G : Nat} {L : List Int} {c : Int} (h : MemAt w B G L c) {n : Nat} (hn : n < L.length) {y : Int} (Hy : Aside (L.getD n 0 = y)) : 0 ≤ y ∧ y < 4294967296 :=
  h.range _ (by rw [← Hy.out, List.getD_eq_getElem?_getD, List.getElem?_eq_getElem hn]; simp)
theorem set_same (L : List Int) (n : Nat) (hn : n < L.length) {y : Int} (Hy : Aside (L.getD n 0 = y)) : L.set n y = L := by
  rw [← Hy.out]
  apply List.ext_getElem (by simp)
  intro i h1 h2
  by_cases e : n = i
  · subst e; simp [List.getD_eq_getElem?_getD, List.getElem?_eq_getElem hn]
  · simp [List.getElem_set_ne e]

section
variable (w : World) (B G : Nat) (L : List Int) (c : Int) (n : Nat) (hM : MemAt w B G L c) (hl : Look w) (hn : n < L.length) (y : Int) (Hy : Aside (L.getD n 0 = y)) (hc0 : 0 ≤ c) (hc1 : c < 4611686018427387904) (hB : 0 ≠ B) (hG : 0 ≠ G)
include hM hl hn Hy hc0 hc1 hB hG
theorem load_yes : Calls Tryd.prog 85 #[.pointer (some ⟨B, 0, none⟩), .int .i64 n] w fun e w' => e = .returned (.tuple #[.int .u32 y, .int .i64 0]) ∧ MemAt w' B G L (c + 1) ∧ Kept (fun k => k = B ∨ k = G) w w' := by
  have hd := do_yes w B G L c n 4294967295 0 0 hM hl hn y Hy hc0 hc1 hB hG (by decide) (by decide) (by decide) (by decide) (by decide) (by decide)
  have hr := hM.at_ hn Hy
  rw [useS_look _ hr.1 hr.2, set_same L n hn Hy] at hd
  have Hd := Aside.mk hd
  obtain ⟨l0, l1, l2⟩ := hl
  clear hd hr
  go_enter Tryd.func85, Tryd.ntmps85
  go_wp2_with fail
  refine Hd.out.mono ?_
  rintro e w' ⟨rfl, h1, h2⟩
  go_wp2_with fail
  go_ret2
  exact ⟨rfl, h1, h2⟩
variable (v : Int) (v0 : 0 ≤ v) (v1 : v < 4294967296)
include v0 v1
variable (o : Int) (o0 : 0 ≤ o) (o1 : o < 4294967296)
include o0 o1
set_option maxHeartbeats 800000 in
theorem swap_yes : Calls Tryd.prog 82 #[.pointer (some ⟨B, 0, none⟩), .int .i64 n, .int .u32 o, .int .u32 v] w fun e w' => e = .returned (.tuple #[.bool (y == o), .int .i64 0]) ∧ MemAt w' B G (if y = o then L.set n v else L) (c + 1) ∧ Kept (fun k => k = B ∨ k = G) w w' := by
  have hobj := hM.obj
  have hwords := hM.words
  have h0 : w.cell? ⟨B, 0, none⟩ = some (.slice (some ⟨G, 0, none⟩) L.length L.length) := by simp [World.cell?, hobj]
  have hy : w.cell? ⟨G, n, none⟩ = some (.int .u32 y) := by
    rw [← Hy.out]; simp [World.cell?, hwords, List.getElem?_eq_getElem hn, List.getD_eq_getElem?_getD]
  have hBlt := lt_of_block hobj
  have hGlt := lt_of_block hwords
  have h0lt : 0 < w.heap.size := World.block_lt_of_cell? w _ hl.and
  have hle := hM.le
  have hr := hM.at_ hn Hy
  have hb : ∀ x : Obj, Below w.heap.size w (w.alloc x) := fun x => (Below.refl _ _).alloc (Nat.le_refl _) x
  have hs : ∀ x y : Obj, True := fun _ _ => trivial
  by_cases hyo : y = o
  · have hd := fun x => do_yes (w.alloc x) B G L c n 0 v 0 (hM.below (hb x)) (hl.below (hb x)) hn y Hy hc0 hc1 hB hG (by decide) (by decide) v0 v1 (by decide) (by decide)
    simp only [useS_store _ _ hr.1 hr.2 v0 v1] at hd
    have hyb : (y == o) = true := beq_iff_eq.2 hyo
    rw [if_pos hyo]
    have Hd := Aside.mk hd
    have Hyo := Aside.mk hyo
    obtain ⟨l0, l1, l2⟩ := hl
    clear hd hyo hobj hwords hs
    go_enter Tryd.func82, Tryd.ntmps82
    go_wp2_with fail
    refine (Hd.out _).mono ?_
    rintro e w' ⟨rfl, h1, h2⟩
    go_wp2_with fail
    go_ret2
    exact ⟨by simp [hyb], h1, (Kept.of_below (hb _)).trans (h2.mono (fun _ h => h))⟩
  · have hd := fun x => do_yes (w.alloc x) B G L c n 4294967295 0 0 (hM.below (hb x)) (hl.below (hb x)) hn y Hy hc0 hc1 hB hG (by decide) (by decide) (by decide) (by decide) (by decide) (by decide)
    simp only [useS_look _ hr.1 hr.2, set_same L n hn Hy] at hd
    have hyb : (y == o) = false := beq_eq_false_iff_ne.2 hyo
    rw [if_neg hyo]
    have Hd := Aside.mk hd
    have Hyo := Aside.mk hyo
    obtain ⟨l0, l1, l2⟩ := hl
    clear hd hyo hobj hwords hs
    go_enter Tryd.func82, Tryd.ntmps82
    go_wp2_with fail
    refine (Hd.out _).mono ?_
    rintro e w' ⟨rfl, h1, h2⟩
    go_wp2_with fail
    go_ret2
    exact ⟨by simp [hyb], h1, (Kept.of_below (hb _)).trans (h2.mono (fun _ h => h))⟩
end


/-- Since w0: a memory of the call's own, all else as it was. -/
structure MSt (w0 w : World) (B G : Nat) (L : List Int) (c : Int) : Prop where
  mem : MemAt w B G L c
  below : Below w0.heap.size w0 w
  look : Look w
  hB : w0.heap.size ≤ B
  hG : w0.heap.size ≤ G
  h0 : 0 < w0.heap.size
theorem MSt.step {w0 w w' : World} {B G : Nat} {L L' : List Int} {c c' : Int} (h : MSt w0 w B G L c) (m : MemAt w' B G L' c') (k : Kept (fun k => k = B ∨ k = G) w w') : MSt w0 w' B G L' c' :=
  ⟨m, h.below.trans (k.below h.below.size (fun i hi => by rcases hi with rfl | rfl; exact h.hB; exact h.hG)), h.look.kept k (by have := h.hB; have := h.hG; have := h.h0; omega), h.hB, h.hG, h.h0⟩
theorem MSt.old {w0 w w' : World} {B G : Nat} {L : List Int} {c : Int} (h : MSt w0 w B G L c) (k : Below w.heap.size w w') : MSt w0 w' B G L c :=
  ⟨h.mem.below k, h.below.trans (k.mono h.below.size), h.look.below k, h.hB, h.hG, h.h0⟩
theorem MSt.nB {w0 w : World} {B G : Nat} {L : List Int} {c : Int} (h : MSt w0 w B G L c) : 0 ≠ B := by have := h.hB; have := h.h0; omega
theorem MSt.nG {w0 w : World} {B G : Nat} {L : List Int} {c : Int} (h : MSt w0 w B G L c) : 0 ≠ G := by have := h.hG; have := h.h0; omega
theorem MSt.new {w0 w w' : World} {n : Nat} (hb : Below w0.heap.size w0 w) (hl : Look w0) (m : MemAt w' (w.heap.size + 1) w.heap.size (List.replicate n 0) 0) (k : Below w.heap.size w w') : MSt w0 w' (w.heap.size + 1) w.heap.size (List.replicate n 0) 0 :=
  ⟨m, hb.trans (k.mono hb.size), (hl.below hb).below k, by have := hb.size; omega, hb.size, World.block_lt_of_cell? w0 _ hl.and⟩

theorem new_st (w0 w : World) (n : Nat) (h1 : 1 ≤ n) (h2 : n ≤ 4096) (hb : Below w0.heap.size w0 w) (hl : Look w0) :
    Calls Tryd.prog 39 #[.int .i64 (n : Int)] w fun e w' => ∃ B G, e = .returned (.tuple #[.pointer (some ⟨B, 0, none⟩), .int .i64 0]) ∧ MSt w0 w' B G (List.replicate n 0) 0 ∧ Below w.heap.size w w' ∧ w.heap.size ≤ B ∧ w.heap.size ≤ G :=
  (new_yes n w h1 h2).mono fun e w' ⟨h, m, k⟩ => ⟨_, _, h, MSt.new hb hl m k, k, by omega, Nat.le_refl _⟩
end Go.Proofs.YtidjkhmlpgkaaaaDoor

namespace Go.Proofs.YtidjkhmlpgkaaaaDoor
open Go.RowKit
set_option linter.unusedVariables false
set_option linter.unusedSimpArgs false

/-- A member of a gang. -/
structure Mb where
  at_ : Int
  n : Int
  ph : Int
  rd : Int
  wd : Int
  came : Bool
  entered : Bool
  missed : Bool
def Mb.cells (x : Mb) : Array Value := #[.int .i64 x.at_, .int .i64 x.n, .int .i64 x.ph, .int .u32 x.rd, .int .u32 x.wd, .bool x.came, .bool x.entered, .bool x.missed]
def MbAt (w : World) (b : Nat) (x : Mb) : Prop := w.heap[b]? = some (.cells x.cells 138 (0, 0))
def beginOk (x : Mb) (r : Int) : Prop := r ≤ 268435455 ∧ x.rd < r
instance (x : Mb) (r : Int) : Decidable (beginOk x r) := inferInstanceAs (Decidable (_ ∧ _))
def beginS (x : Mb) (r : Int) : Mb := if beginOk x r then ⟨x.at_, x.n, 1, r, 0, false, false, false⟩ else x
def beginE (x : Mb) (r : Int) : Int := if beginOk x r then 0 else 241
def lookS (x : Mb) (W : Int) : Mb := if x.rd < W / 16 then { x with ph := 0, missed := true } else if x.ph = 1 then { x with wd := W, ph := 2 } else if W / 16 = x.rd ∧ W % 16 = x.n then { x with entered := true, ph := 0 } else x
def nextS (x : Mb) : Int := if x.wd / 16 = x.rd then (x.wd + 1) % 4294967296 else (16 * x.rd % 4294967296 + 1) % 4294967296

theorem heap_drew (w : World) (b : Nat) : w.drew.heap[b]? = w.heap[b]? := rfl
theorem MbAt.c {w : World} {b : Nat} {x : Mb} (h : MbAt w b x) (j : Nat) (hj : j < 8) : w.cell? ⟨b, j, none⟩ = x.cells[j]? := by
  unfold MbAt at h
  simp [World.cell?, h]
theorem MbAt.f {w : World} {b : Nat} {x : Mb} (h : MbAt w b x) (j : Nat) : w.frozen? ⟨b, j, none⟩ = false := by
  unfold MbAt at h
  simp [World.frozen?, h]
theorem MbAt.kept {S : Nat → Prop} {w w' : World} {b : Nat} {x : Mb} (h : MbAt w b x) (k : Kept S w w') (hb : ¬ S b) : MbAt w' b x := k.heap h hb
theorem MbAt.below {w w' : World} {b : Nat} {x : Mb} (h : MbAt w b x) (k : Below w.heap.size w w') : MbAt w' b x := (k.block _ (lt_of_block h)).trans h

theorem gnew_any (w : World) (a n : Int) (h0 : 1 ≤ n) (h1 : n ≤ 8) :
    Calls Tryd.prog 43 #[.int .i64 a, .int .i64 n] w fun e w' => e = .returned (.tuple #[.pointer (some ⟨w.heap.size, 0, none⟩), .int .i64 0]) ∧ w.alloc (.cells (Mb.cells ⟨a, n, 0, 0, 0, false, false, false⟩) 138) = w' := by
  go_enter Tryd.func43, Tryd.ntmps43
  go_wp2_with fail
  go_loop [7] (fun i => ∃ k : Nat, k < 8 ∧ (k : Int) < n ∧ i = .int .i64 k) (fun i => 8 - (intOf i).toNat)
  case atStart => exact ⟨0, by omega, by omega, rfl⟩
  case round =>
    obtain ⟨k, hk, hkn, rfl⟩ := hrel
    by_cases e : n = (k : Int) + 1
    · subst e
      go_wp2_with fail
      go_ret2
      exact ⟨rfl, rfl⟩
    · go_wp2_with fail
      go_round
      case rel => exact ⟨k + 1, by omega, by omega, by go_num⟩
      case measure => simp [intOf]; omega

section
variable (w : World) (b : Nat) (x : Mb) (h : MbAt w b x)
include h
theorem entered_any : Calls Tryd.prog 67 #[.pointer (some ⟨b, 0, none⟩)] w fun e w' => e = .returned (.bool x.entered) ∧ w = w' := by
  have h5 : w.cell? ⟨b, 6, none⟩ = some (.bool x.entered) := h.c 6 (by decide)
  go_enter Tryd.func67, Tryd.ntmps67
  go_wp2_with fail
  go_ret
  exact ⟨rfl, rfl⟩
theorem missed_any : Calls Tryd.prog 68 #[.pointer (some ⟨b, 0, none⟩)] w fun e w' => e = .returned (.bool x.missed) ∧ w = w' := by
  have h5 : w.cell? ⟨b, 7, none⟩ = some (.bool x.missed) := h.c 7 (by decide)
  go_enter Tryd.func68, Tryd.ntmps68
  go_wp2_with fail
  go_ret
  exact ⟨rfl, rfl⟩
theorem next_any (w0 : 0 ≤ x.wd) (w1 : x.wd < 4294967296) (r0 : 0 ≤ x.rd) (r1 : x.rd < 268435456) : Calls Tryd.prog 83 #[.pointer (some ⟨b, 0, none⟩)] w fun e w' => e = .returned (.int .u32 (nextS x)) ∧ ∃ m, w' = w.drewN m := by
  have h3 : w.cell? ⟨b, 3, none⟩ = some (.int .u32 x.rd) := h.c 3 (by decide)
  have h4 : w.cell? ⟨b, 4, none⟩ = some (.int .u32 x.wd) := h.c 4 (by decide)
  by_cases e : x.wd / 16 = x.rd
  · have hn : nextS x = (x.wd + 1) % 4294967296 := by rw [nextS, if_pos e]
    rw [hn]
    have e1 : (x.wd / 16 == x.rd) = true := beq_iff_eq.2 e
    have e2 : (x.wd.tdiv 16 == x.rd) = true := by rw [Int.tdiv_eq_ediv_of_nonneg w0]; exact e1
    clear e hn h
    go_enter Tryd.func83, Tryd.ntmps83
    go_wp2_with fail
    go_quiet (fail)
    go_wp2_with fail
    go_ret
    exact ⟨ret_int (by first | rfl | omega), _, rfl⟩
  · have hn : nextS x = (16 * x.rd % 4294967296 + 1) % 4294967296 := by rw [nextS, if_neg e]
    rw [hn]
    have e1 : (x.wd / 16 == x.rd) = false := beq_eq_false_iff_ne.2 e
    have e2 : (x.wd.tdiv 16 == x.rd) = false := by rw [Int.tdiv_eq_ediv_of_nonneg w0]; exact e1
    clear e hn h
    go_enter Tryd.func83, Tryd.ntmps83
    go_wp2_with fail
    go_quiet (fail)
    go_wp2_with fail
    go_ret
    exact ⟨ret_int (by first | rfl | omega), _, rfl⟩
theorem miss_any : Calls Tryd.prog 84 #[.pointer (some ⟨b, 0, none⟩)] w fun e w' => e = .returned (.tuple #[]) ∧ MbAt w' b { x with ph := 0, missed := true } ∧ Kept (fun k => k = b) w w' := by
  have h2 : w.cell? ⟨b, 2, none⟩ = some (.int .i64 x.ph) := h.c 2 (by decide)
  have h7 : w.cell? ⟨b, 7, none⟩ = some (.bool x.missed) := h.c 7 (by decide)
  have f2 := h.f 2
  have f7 := h.f 7
  have H := Aside.mk h
  clear h
  go_enter Tryd.func84, Tryd.ntmps84
  go_wp2_with fail
  refine bodyPost_end (v := .tuple #[]) (by simp [results, Tryd.results84, go_sem]) rfl ⟨rfl, ?_, ?_⟩
  · have := heap_setCell_at (off := 2) (heap_setCell_at (off := 7) H.out (.bool true)) (.int .i64 0)
    simpa [Mb.cells, MbAt] using this
  · exact ((Kept.refl (fun k => k = b) w).setCell (p := ⟨b, 7, none⟩) (.inl rfl) _).setCell (p := ⟨b, 2, none⟩) (.inl rfl) _
set_option maxHeartbeats 1600000 in
theorem begin_any (r : Int) (r0 : 0 ≤ r) (r1 : r < 4294967296) : Calls Tryd.prog 65 #[.pointer (some ⟨b, 0, none⟩), .int .u32 r] w fun e w' => e = .returned (.int .i64 (beginE x r)) ∧ MbAt w' b (beginS x r) ∧ Kept (fun k => k = b) w w' := by
  have h0 : w.cell? ⟨b, 0, none⟩ = some (.int .i64 x.at_) := h.c 0 (by decide)
  have h1 : w.cell? ⟨b, 1, none⟩ = some (.int .i64 x.n) := h.c 1 (by decide)
  have h2 : w.cell? ⟨b, 2, none⟩ = some (.int .i64 x.ph) := h.c 2 (by decide)
  have h3 : w.cell? ⟨b, 3, none⟩ = some (.int .u32 x.rd) := h.c 3 (by decide)
  have h4 : w.cell? ⟨b, 4, none⟩ = some (.int .u32 x.wd) := h.c 4 (by decide)
  have h5 : w.cell? ⟨b, 5, none⟩ = some (.bool x.came) := h.c 5 (by decide)
  have h6 : w.cell? ⟨b, 6, none⟩ = some (.bool x.entered) := h.c 6 (by decide)
  have h7 : w.cell? ⟨b, 7, none⟩ = some (.bool x.missed) := h.c 7 (by decide)
  have f0 := h.f 0
  have f1 := h.f 1
  have f2 := h.f 2
  have f3 := h.f 3
  have f4 := h.f 4
  have f5 := h.f 5
  have f6 := h.f 6
  have f7 := h.f 7
  have H := Aside.mk h
  clear h
  by_cases c1 : 268435455 < r
  · have hb : ¬ beginOk x r := fun q => by have := q.1; omega
    rw [beginS, beginE, if_neg hb, if_neg hb]
    clear hb
    go_enter Tryd.func65, Tryd.ntmps65
    go_wp2_with fail
    go_ret
    exact ⟨rfl, H.out, Kept.refl _ _⟩
  · by_cases c2 : r ≤ x.rd
    · have hb : ¬ beginOk x r := fun q => by have := q.2; omega
      rw [beginS, beginE, if_neg hb, if_neg hb]
      clear hb
      go_enter Tryd.func65, Tryd.ntmps65
      go_wp2_with fail
      go_ret
      exact ⟨rfl, H.out, Kept.refl _ _⟩
    · have hb : beginOk x r := ⟨by omega, by omega⟩
      rw [beginS, beginE, if_pos hb, if_pos hb]
      clear hb
      go_enter Tryd.func65, Tryd.ntmps65
      go_wp2_with fail
      go_region
      all_goals go_wp2_with fail
      go_ret
      refine ⟨rfl, ?_, ?_⟩
      · have k0 := heap_setCell_at (off := 0) (show w.heap[b]? = some (.cells x.cells 138 (0, 0)) from H.out) (.int .i64 x.at_)
        have k1 := heap_setCell_at (off := 1) k0 (.int .i64 x.n)
        have k2 := heap_setCell_at (off := 2) k1 (.int .i64 1)
        have k3 := heap_setCell_at (off := 3) k2 (.int .u32 r)
        have k4 := heap_setCell_at (off := 4) k3 (.int .u32 0)
        have k5 := heap_setCell_at (off := 5) k4 (.bool false)
        have k6 := heap_setCell_at (off := 6) k5 (.bool false)
        have k := heap_setCell_at (off := 7) k6 (.bool false)
        clear k0 k1 k2 k3 k4 k5 k6 h0 h1 h2 h3 h4 h5 h6 h7 f0 f1 f2 f3 f4 f5 f6 f7
        unfold MbAt
        rw [heap_drew, k]
        simp [Mb.cells]
      · exact (((((((((Kept.refl (fun k => k = b) w).setCell (p := ⟨b, 0, none⟩) (.inl rfl) _).setCell (p := ⟨b, 1, none⟩) (.inl rfl) _).setCell (p := ⟨b, 2, none⟩) (.inl rfl) _).setCell (p := ⟨b, 3, none⟩) (.inl rfl) _).setCell (p := ⟨b, 4, none⟩) (.inl rfl) _).setCell (p := ⟨b, 5, none⟩) (.inl rfl) _).setCell (p := ⟨b, 6, none⟩) (.inl rfl) _).setCell (p := ⟨b, 7, none⟩) (.inl rfl) _).drew
set_option maxHeartbeats 1600000 in
theorem look_any (W : Int) (W0 : 0 ≤ W) (W1 : W < 4294967296) : Calls Tryd.prog 86 #[.pointer (some ⟨b, 0, none⟩), .int .u32 W] w fun e w' => e = .returned (.tuple #[]) ∧ MbAt w' b (lookS x W) ∧ Kept (fun k => k = b) w w' := by
  have h1 : w.cell? ⟨b, 1, none⟩ = some (.int .i64 x.n) := h.c 1 (by decide)
  have h2 : w.cell? ⟨b, 2, none⟩ = some (.int .i64 x.ph) := h.c 2 (by decide)
  have h3 : w.cell? ⟨b, 3, none⟩ = some (.int .u32 x.rd) := h.c 3 (by decide)
  have h4 : w.cell? ⟨b, 4, none⟩ = some (.int .u32 x.wd) := h.c 4 (by decide)
  have h6 : w.cell? ⟨b, 6, none⟩ = some (.bool x.entered) := h.c 6 (by decide)
  have f2 := h.f 2
  have f4 := h.f 4
  have f6 := h.f 6
  have H := Aside.mk h
  have M := Aside.mk (miss_any w b x h)
  clear h
  by_cases c1 : x.rd < W / 16
  · rw [lookS, if_pos c1]
    go_enter Tryd.func86, Tryd.ntmps86
    go_wp2_with fail
    refine M.out.mono ?_
    rintro e w' ⟨rfl, q1, q2⟩
    go_wp2_with fail
    exact bodyPost_end (v := .tuple #[]) (by simp [results, Tryd.results86, go_sem]) rfl ⟨rfl, q1, q2⟩
  · rw [lookS, if_neg c1]
    by_cases c2 : x.ph = 1
    · rw [if_pos c2]
      rw [c2] at h2
      clear c2
      go_enter Tryd.func86, Tryd.ntmps86
      go_wp2_with fail
      refine bodyPost_end (v := .tuple #[]) (by simp [results, Tryd.results86, go_sem]) rfl ⟨rfl, ?_, ?_⟩
      · have k := heap_setCell_at (off := 2) (heap_setCell_at (off := 4) H.out (.int .u32 W)) (.int .i64 2)
        simpa [Mb.cells, MbAt] using k
      · exact ((Kept.refl (fun k => k = b) w).setCell (p := ⟨b, 4, none⟩) (.inl rfl) _).setCell (p := ⟨b, 2, none⟩) (.inl rfl) _
    · rw [if_neg c2]
      have c2b : (x.ph == 1) = false := beq_eq_false_iff_ne.2 c2
      by_cases c3 : W / 16 = x.rd
      · have c3b : (W / 16 == x.rd) = true := beq_iff_eq.2 c3
        by_cases c4 : W % 16 = x.n
        · have c4b : (W % 16 == x.n) = true := beq_iff_eq.2 c4
          rw [if_pos ⟨c3, c4⟩]
          clear c2 c3 c4
          go_enter Tryd.func86, Tryd.ntmps86
          go_wp2_with fail
          refine bodyPost_end (v := .tuple #[]) (by simp [results, Tryd.results86, go_sem]) rfl ⟨rfl, ?_, ?_⟩
          · have k := heap_setCell_at (off := 2) (heap_setCell_at (off := 6) H.out (.bool true)) (.int .i64 0)
            simpa [Mb.cells, MbAt] using k
          · exact ((Kept.refl (fun k => k = b) w).setCell (p := ⟨b, 6, none⟩) (.inl rfl) _).setCell (p := ⟨b, 2, none⟩) (.inl rfl) _
        · have c4b : (W % 16 == x.n) = false := beq_eq_false_iff_ne.2 c4
          rw [if_neg (fun q => c4 q.2)]
          clear c2 c3 c4
          go_enter Tryd.func86, Tryd.ntmps86
          go_wp2_with fail
          exact bodyPost_end (v := .tuple #[]) (by simp [results, Tryd.results86, go_sem]) rfl ⟨rfl, H.out, Kept.refl _ _⟩
      · have c3b : (W / 16 == x.rd) = false := beq_eq_false_iff_ne.2 c3
        rw [if_neg (fun q => c3 q.1)]
        clear c2 c3
        go_enter Tryd.func86, Tryd.ntmps86
        go_wp2_with fail
        exact bodyPost_end (v := .tuple #[]) (by simp [results, Tryd.results86, go_sem]) rfl ⟨rfl, H.out, Kept.refl _ _⟩
end
end Go.Proofs.YtidjkhmlpgkaaaaDoor
