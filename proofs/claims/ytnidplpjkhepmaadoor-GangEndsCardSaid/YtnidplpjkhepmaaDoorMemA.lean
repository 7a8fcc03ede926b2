/- Layer 7: a memory's words, and what a use of a word does. -/
import Derived.Test.YtnidplpjkhepmaaDoorProg
import Derived.Test.YtnidplpjkhepmaaDoorKit
import Derived.Deep.OwnRows
import Derived.Laws.CopyOwn
namespace Go.Proofs.YtnidplpjkhepmaaDoor
open Go.RowKit
set_option linter.unusedVariables false
set_option linter.unusedSimpArgs false

/-- The package's variable look: a use that changes nothing. -/
structure Look (w : World) : Prop where
  and : w.cell? ⟨0, 0, none⟩ = some (.int .u32 4294967295)
  or : w.cell? ⟨0, 1, none⟩ = some (.int .u32 0)
  add : w.cell? ⟨0, 2, none⟩ = some (.int .u32 0)

/-- A memory at block B, its words at block G. -/
structure MemAt (w : World) (B G : Nat) (L : List Int) (c : Int) : Prop where
  obj : w.heap[B]? = some (.cells #[.slice (some ⟨G, 0, none⟩) L.length L.length, .int .i64 c] 53 (0, 0))
  words : w.heap[G]? = some (.cells (L.map (Value.int .u32)).toArray 28 (0, 0))
  ne : B ≠ G
  pos : 0 < L.length
  le : L.length ≤ 4096
  range : ∀ x ∈ L, 0 ≤ x ∧ x < 4294967296

theorem MemAt.kept {S : Nat → Prop} {w w' : World} {B G : Nat} {L : List Int} {c : Int} (h : MemAt w B G L c) (k : Kept S w w') (hB : ¬ S B) (hG : ¬ S G) : MemAt w' B G L c :=
  ⟨k.heap h.obj hB, k.heap h.words hG, h.ne, h.pos, h.le, h.range⟩
theorem MemAt.below {w w' : World} {B G : Nat} {L : List Int} {c : Int} (h : MemAt w B G L c) (k : Below w.heap.size w w') : MemAt w' B G L c :=
  h.kept (S := fun _ => False) (Kept.of_below k) id id
theorem MemAt.count {w : World} {B G : Nat} {L : List Int} {c : Int} (h : MemAt w B G L c) (c' : Int) : MemAt (w.setCell ⟨B, 1, none⟩ (.int .i64 c')) B G L c' :=
  ⟨heap_setCell_at h.obj _, (Below.heap_setCell _ _ _ _ (Ne.symm h.ne)).trans h.words, h.ne, h.pos, h.le, h.range⟩
theorem MemAt.word {w : World} {B G : Nat} {L : List Int} {c : Int} (h : MemAt w B G L c) (n : Nat) (z : Int) (z0 : 0 ≤ z) (z1 : z < 4294967296) : MemAt (w.setCell ⟨G, n, none⟩ (.int .u32 z)) B G (L.set n z) c := by
  refine ⟨?_, ?_, h.ne, by simpa using h.pos, by simpa using h.le, ?_⟩
  · rw [Below.heap_setCell _ _ _ _ h.ne, List.length_set]; exact h.obj
  · have := heap_setCell_at (off := n) h.words (.int .u32 z)
    rw [this]
    simp [List.map_set]
  · intro x hx
    rcases List.mem_or_eq_of_mem_set hx with h1 | rfl
    · exact h.range x h1
    · exact ⟨z0, z1⟩
theorem Look.kept {S : Nat → Prop} {w w' : World} (h : Look w) (k : Kept S w w') (hS : ¬ S 0) : Look w' := ⟨k.cell h.and hS, k.cell h.or hS, k.cell h.add hS⟩
theorem Look.below {w w' : World} (h : Look w) (k : Below w.heap.size w w') : Look w' := h.kept (S := fun _ => False) (Kept.of_below k) id

theorem bits_range (op : BinOp) (x y : Int) (h : op = .and ∨ op = .or) (x0 : 0 ≤ x) (x1 : x < 4294967296) (y0 : 0 ≤ y) (y1 : y < 4294967296) : 0 ≤ Go.bits op .u32 x y ∧ Go.bits op .u32 x y < 4294967296 := by
  obtain ⟨a, rfl⟩ := Int.eq_ofNat_of_zero_le x0
  obtain ⟨b, rfl⟩ := Int.eq_ofNat_of_zero_le y0
  rcases h with rfl | rfl
  · rw [bits_and32 a b (by omega) (by omega)]
    have := Nat.and_lt_two_pow (x := a) (y := b) (n := 32) (by omega)
    omega
  · rw [bits_or32 a b (by omega) (by omega)]
    have := Nat.or_lt_two_pow (x := a) (y := b) (n := 32) (by omega) (by omega)
    omega

def useS (a o d y : Int) : Int := if a = 4294967295 ∧ o = 0 ∧ d = 0 then y else ((Go.bits .or .u32 (Go.bits .and .u32 y a) o) + d) % 4294967296

theorem do_no (w : World) (B G : Nat) (L : List Int) (c at_ a o d : Int) (hM : MemAt w B G L c) (h : at_ < 0 ∨ (L.length : Int) ≤ at_) :
    Calls Tryd.prog 20 #[.pointer (some ⟨B, 0, none⟩), .int .i64 at_, .agg #[.int .u32 a, .int .u32 o, .int .u32 d]] w fun e w' => e = .returned (.tuple #[.int .u32 0, .int .i64 81]) ∧ Below w.heap.size w w' := by
  have hc := hM.obj
  have h0 : w.cell? ⟨B, 0, none⟩ = some (.slice (some ⟨G, 0, none⟩) L.length L.length) := by simp [World.cell?, hc]
  have hlt := lt_of_block hc
  have h0' : (w.alloc (.cells #[.int .u32 a, .int .u32 o, .int .u32 d] 56)).cell? ⟨B, 0, none⟩ = some (.slice (some ⟨G, 0, none⟩) L.length L.length) := by
    rw [World.cell?_alloc_past _ _ _ hlt]; exact h0
  have hle := hM.le
  clear hc
  by_cases h1 : at_ < 0
  · go_enter Tryd.func20, Tryd.ntmps20
    go_wp2_with fail
    go_ret2
    exact ⟨rfl, (Below.refl _ _).alloc (Nat.le_refl _) _⟩
  · have h2 : (L.length : Int) ≤ at_ := by omega
    go_enter Tryd.func20, Tryd.ntmps20
    go_wp2_with fail
    go_ret2
    exact ⟨rfl, (Below.refl _ _).alloc (Nat.le_refl _) _⟩

set_option maxHeartbeats 1600000 in
theorem do_yes (w : World) (B G : Nat) (L : List Int) (c : Int) (n : Nat) (a o d : Int) (hM : MemAt w B G L c) (hl : Look w) (hn : n < L.length) (y : Int) (Hy : Aside (L.getD n 0 = y)) (hc0 : 0 ≤ c) (hc1 : c < 4611686018427387904) (hB : 0 ≠ B) (hG : 0 ≠ G)
    (a0 : 0 ≤ a) (a1 : a < 4294967296) (o0 : 0 ≤ o) (o1 : o < 4294967296) (d0 : 0 ≤ d) (d1 : d < 4294967296) :
    Calls Tryd.prog 20 #[.pointer (some ⟨B, 0, none⟩), .int .i64 n, .agg #[.int .u32 a, .int .u32 o, .int .u32 d]] w fun e w' => e = .returned (.tuple #[.int .u32 y, .int .i64 0]) ∧ MemAt w' B G (L.set n (useS a o d y)) (c + 1) ∧ Kept (fun k => k = B ∨ k = G) w w' := by
  have hM' := Aside.mk hM
  have hobj := hM.obj
  have hwords := hM.words
  have hne := hM.ne
  have hlo := hl
  obtain ⟨l0, l1, l2⟩ := hl
  have h0 : w.cell? ⟨B, 0, none⟩ = some (.slice (some ⟨G, 0, none⟩) L.length L.length) := by simp [World.cell?, hobj]
  have h1 : w.cell? ⟨B, 1, none⟩ = some (.int .i64 c) := by simp [World.cell?, hobj]
  have f1 : w.frozen? ⟨B, 1, none⟩ = false := by simp [World.frozen?, hobj]
  have hy : w.cell? ⟨G, n, none⟩ = some (.int .u32 y) := by
    rw [← Hy.out]; simp [World.cell?, hwords, List.getElem?_eq_getElem hn, List.getD_eq_getElem?_getD]
  have fy : w.frozen? ⟨G, n, none⟩ = false := by simp [World.frozen?, hwords]
  have hBlt := lt_of_block hobj
  have hGlt := lt_of_block hwords
  have h0lt : 0 < w.heap.size := World.block_lt_of_cell? w _ l0
  have hle := hM.le
  clear hobj hwords
  by_cases hu : a = 4294967295 ∧ o = 0 ∧ d = 0
  · obtain ⟨rfl, rfl, rfl⟩ := hu
    go_enter Tryd.func20, Tryd.ntmps20
    go_wp2_with fail
    go_ret2
    refine ⟨rfl, ?_, ?_⟩
    · have hs : L.set n (useS 4294967295 0 0 y) = L := by
        rw [useS, if_pos ⟨rfl, rfl, rfl⟩, ← Hy.out]
        apply List.ext_getElem (by simp)
        intro i h1 h2
        by_cases e : n = i
        · subst e; simp [List.getD_eq_getElem?_getD, List.getElem?_eq_getElem hn]
        · simp [List.getElem_set_ne e]
      rw [hs]
      exact (hM'.out.count (c + 1)).below ((Below.refl _ _).alloc (Nat.le_refl _) _)
    · exact ((Kept.refl _ _).setCell (.inl (.inl rfl)) _).alloc _
  · have hr := hM'.out.range y (by rw [← Hy.out, List.getD_eq_getElem?_getD, List.getElem?_eq_getElem hn]; simp)
    have hx1 := bits_range .and y a (.inl rfl) hr.1 hr.2 a0 a1
    have hx2 := bits_range .or (Go.bits .and .u32 y a) o (.inr rfl) hx1.1 hx1.2 o0 o1
    have hq : useS a o d y = (Go.bits .or .u32 (Go.bits .and .u32 y a) o + d) % 4294967296 := by rw [useS, if_neg hu]
    have Hq := Aside.mk hq
    have Hx2 := Aside.mk hx2
    have hcmp : (a == 4294967295 && (o == 0 && d == 0)) = false := by
      rw [Bool.eq_false_iff]
      intro h
      simp at h
      exact hu h
    have hcases : (a == 4294967295) = false ∨ ((a == 4294967295) = true ∧ (o == 0) = false) ∨ ((a == 4294967295) = true ∧ (o == 0) = true ∧ (d == 0) = false) := by
      cases h1 : (a == 4294967295) <;> cases h2 : (o == 0) <;> cases h3 : (d == 0) <;> simp_all
    clear hu hcmp hx1 hx2 hr hq
    rcases hcases with e1 | ⟨e1, e2⟩ | ⟨e1, e2, e3⟩
    all_goals
      go_enter Tryd.func20, Tryd.ntmps20
      go_wp2_with fail
      go_region
      all_goals go_wp2_with fail
      go_region
      all_goals go_wp2_with fail
      go_ret2
      refine ⟨rfl, ?_, ?_⟩
      · rw [Hq.out]
        have hA := ((hM'.out.count (c + 1)).word n _ Hx2.out.1 Hx2.out.2).word n ((Go.bits .or .u32 (Go.bits .and .u32 y a) o + d) % 4294967296) (by omega) (by omega)
        rw [List.set_set] at hA
        exact hA.below ((Below.refl _ _).alloc (Nat.le_refl _) _).drew.drew
      · exact (((((Kept.refl (fun k => k = B ∨ k = G) w).setCell (Or.inl (Or.inl rfl)) _).setCell (Or.inl (Or.inr rfl)) _).setCell (Or.inl (Or.inr rfl)) _).alloc _).drew.drew

theorem A_info_u32 : (Tryd.prog.info? 28).map (fun i => (i.zero, i.size, i.bytes)) = some (some (.int .u32 0), 1, 4) := by kernel_rfl
theorem made_u32 (n : Nat) : madeCells #[Value.int .u32 0] n = ((List.replicate n (0 : Int)).map (Value.int .u32)).toArray := by
  apply Array.ext
  · simp [madeCells]
  · intro i h1 h2
    simp [madeCells, Nat.mod_one]

theorem new_no (n : Int) (w : World) (h : n < 1 ∨ 4096 < n) :
    Calls Tryd.prog 13 #[.int .i64 n] w fun e w' => e = .returned (.tuple #[.pointer none, .int .i64 80]) ∧ w = w' := by
  by_cases h1 : n < 1
  · go_enter Tryd.func13, Tryd.ntmps13
    go_wp2_with fail
    go_ret2
    exact ⟨rfl, rfl⟩
  · have h2 : 4096 < n := by omega
    go_enter Tryd.func13, Tryd.ntmps13
    go_wp2_with fail
    go_ret2
    exact ⟨rfl, rfl⟩

theorem new_yes (n : Nat) (w : World) (h1 : 1 ≤ n) (h2 : n ≤ 4096) :
    Calls Tryd.prog 13 #[.int .i64 (n : Int)] w fun e w' => e = .returned (.tuple #[.pointer (some ⟨w.heap.size + 1, 0, none⟩), .int .i64 0]) ∧ MemAt w' (w.heap.size + 1) w.heap.size (List.replicate n 0) 0 ∧ Below w.heap.size w w' := by
  have hmk : ∀ W : World, (Instr.makeSlice 51 (.int .i64 (n : Int)) (.int .i64 (n : Int))).run Tryd.prog W = .ok (.slice (some ⟨W.heap.size, 0, none⟩) n n) (W.alloc (.cells (madeCells #[.int .u32 0] n) 28)) := fun W =>
    run_make_row' 51 28 (.int .u32 0) 4 Tryd.underlying51 A_info_u32 rfl .i64 .i64 n (by omega) (by omega) W
  go_enter Tryd.func13, Tryd.ntmps13
  go_wp2_with fail
  go_ret2
  refine ⟨rfl, ⟨?_, ?_, by omega, by simp; omega, by simp; omega, by simp⟩, ((Below.refl _ _).alloc (Nat.le_refl _) _).alloc (by simp) _⟩
  · simpa using heap_alloc_new (w.alloc (.cells (madeCells #[.int .u32 0] n) 28)) (.cells #[.slice (some ⟨w.heap.size, 0, none⟩) n n, .int .i64 0] 53)
  · rw [← made_u32]
    exact (Below.heap_alloc _ _ _ (by simp)).trans (heap_alloc_new _ _)
end Go.Proofs.YtnidplpjkhepmaaDoor
