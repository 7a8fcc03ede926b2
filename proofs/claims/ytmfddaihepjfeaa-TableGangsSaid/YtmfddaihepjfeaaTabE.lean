/- The table: the longest gap: what is marked. -/
import Derived.Test.YtmfddaihepjfeaaTabD
namespace Go.Proofs.Ytmfddaihepjfeaa
open Go.RowKit
set_option linter.unusedVariables false
set_option linter.unusedSimpArgs false

theorem made_bool (n : Nat) : madeCells #[Value.bool false] n = ((List.replicate n false).map Value.bool).toArray := by
  apply Array.ext
  · simp [madeCells]
  · intro i h1 h2
    simp [madeCells, Nat.mod_one]
theorem A_info_bool : (Try.prog.info? 4).map (fun i => (i.zero, i.size, i.bytes)) = some (some (.bool false), 1, 1) := by kernel_rfl
/-- The ticks from s on, k of them, are marked. -/
def markL (l : List Bool) (s k : Nat) : List Bool := l.mapIdx fun i b => b || (decide (s ≤ i) && decide (i < s + k))
theorem markL_len (l : List Bool) (s k : Nat) : (markL l s k).length = l.length := by simp [markL]
theorem markL_zero (l : List Bool) (s : Nat) : markL l s 0 = l := by
  apply List.ext_getElem
  · simp [markL]
  · intro i h1 h2
    simp [markL]
    intro h3 h4
    omega
theorem markL_in (l : List Bool) (s k : Nat) (h : s + k < l.length) : (markL l s k).set (s + k) true = markL l s (k + 1) := by
  apply List.ext_getElem
  · simp [markL]
  · intro i h1 h2
    rw [List.getElem_set]
    simp only [markL, List.getElem_mapIdx]
    by_cases e : s + k = i
    · subst e; simp
    · rw [if_neg e]
      have : decide (i < s + k) = (decide (i < s + (k + 1)) && !decide (i = s + k)) := by
        rw [Bool.eq_iff_iff]; simp; omega
      have e2 : ¬ i = s + k := fun q => e q.symm
      rw [this]; simp [e2]
theorem markL_out (l : List Bool) (s k : Nat) (h : l.length ≤ s + k) : markL l s (k + 1) = markL l s k := by
  apply List.ext_getElem
  · simp [markL]
  · intro i h1 h2
    have hi : i < l.length := by simpa [markL] using h1
    simp only [markL, List.getElem_mapIdx]
    have a1 : decide (i < s + (k + 1)) = true := by simp; omega
    have a2 : decide (i < s + k) = true := by simp; omega
    rw [a1, a2]
def nevB (nv : Bool) (s k n : Nat) : Bool := nv && !(decide (0 < k) && decide (s < n))
def rowB (l : List Bool) : Obj := .cells (l.map Value.bool).toArray 4 (0, 0)
/-- Gap's state: the ticks, and whether none is marked. -/
structure GpSt (wb : World) (B : Nat) (l : List Bool) (nv : Bool) (a : World) : Prop where
  below : Below wb.heap.size wb a
  arr : a.heap[B]? = some (rowB l)
  sv : a.heap[B + 1]? = some (.cells #[.slice (some ⟨B, 0, none⟩) l.length l.length] 62 (0, 0))
  nev : a.heap[B + 1 + 1]? = some (.cells #[.bool nv] 4 (0, 0))
  hB : wb.heap.size ≤ B
  len : l.length ≤ 65535
theorem GpSt.old {wb a b : World} {B : Nat} {l : List Bool} {nv : Bool} (s : GpSt wb B l nv a) (k : Below a.heap.size a b) : GpSt wb B l nv b :=
  ⟨bel_then s.below k, (k.block _ (lt_of_block s.arr)).trans s.arr, (k.block _ (lt_of_block s.sv)).trans s.sv, (k.block _ (lt_of_block s.nev)).trans s.nev, s.hB, s.len⟩
def gpS (B k : Nat) : Prop := k = B ∨ k = B + 1 + 1
theorem gp_kept {a : World} {B : Nat} {i : Nat} {nv : Bool} : Kept (gpS B) a ((a.setCell ⟨B, i, none⟩ (.bool true)).setCell ⟨B + 1 + 1, 0, none⟩ (.bool false)) :=
  ((Kept.refl (gpS B) a).setCell (p := ⟨B, i, none⟩) (.inl (.inl rfl)) _).setCell (p := ⟨B + 1 + 1, 0, none⟩) (.inl (.inr rfl)) _
theorem GpSt.mark {wb a : World} {B : Nat} {l : List Bool} {nv : Bool} (s : GpSt wb B l nv a) (i : Nat) : GpSt wb B (l.set i true) false ((a.setCell ⟨B, i, none⟩ (.bool true)).setCell ⟨B + 1 + 1, 0, none⟩ (.bool false)) := by
  have hk1 : Kept (fun k => k = B) a (a.setCell ⟨B, i, none⟩ (.bool true)) := (Kept.refl (fun k => k = B) a).setCell (p := ⟨B, i, none⟩) (.inl rfl) _
  have hk2 : Kept (fun k => k = B + 1 + 1) (a.setCell ⟨B, i, none⟩ (.bool true)) ((a.setCell ⟨B, i, none⟩ (.bool true)).setCell ⟨B + 1 + 1, 0, none⟩ (.bool false)) := (Kept.refl (fun k => k = B + 1 + 1) _).setCell (p := ⟨B + 1 + 1, 0, none⟩) (.inl rfl) _
  have h1 := heap_setCell_at (off := i) s.arr (.bool true)
  have h3 := hk1.heap s.nev (by omega)
  have h4 := heap_setCell_at (off := 0) h3 (.bool false)
  refine ⟨?_, ?_, ?_, ?_, s.hB, by simpa using s.len⟩
  · exact s.below.trans ((gp_kept (nv := nv)).below s.below.size (fun k e => by have := s.hB; rcases e with e | e <;> omega))
  · have := hk2.heap h1 (by omega)
    rw [this, rowB]
    simp [List.map_set]
  · have := hk2.heap (hk1.heap s.sv (by omega)) (by omega)
    simpa using this
  · simpa using h4
theorem callFunc_gap1 (args : Array Value) (w : World) : (callFunc 34 args).run Try.prog w = .ok (.enter 34 args) w := by kernel_rfl

set_option maxHeartbeats 1600000 in
theorem gap1_any (wb : World) (B : Nat) (l : List Bool) (nv : Bool) (x : Win) (a : World) (hx : Win.Ok x) (s k : Nat) (hs : Win.s x = (s : Int)) (hk : Win.l x = (k : Int)) (S : GpSt wb B l nv a) :
    Calls Try.prog 34 #[Win.val x, .pointer (some ⟨B + 1, 0, none⟩), .pointer (some ⟨B + 1 + 1, 0, none⟩)] a fun e b => e = .returned (.tuple #[]) ∧ GpSt wb B (markL l s k) (nevB nv s k l.length) b ∧ Kept (gpS B) a b := by
  obtain ⟨⟨s0, s1⟩, ⟨l0, l1⟩, ⟨p0, p1⟩, ⟨g0, g1⟩⟩ := hx
  have S0 := Aside.mk S
  unfold Win.val
  rw [hs, hk]
  rw [hs] at s0 s1
  rw [hk] at l0 l1
  clear hs hk S
  generalize Win.p x = px at *
  generalize Win.g x = gx at *
  obtain ⟨W1, HW⟩ : ∃ W1, Aside (W1 = a.alloc (.cells #[.int .u16 (s : Int), .int .u16 (k : Int), .int .u8 px, .int .u8 gx] 41)) := ⟨_, ⟨rfl⟩⟩
  have hb1 : Aside (Below a.heap.size a W1 ∧ W1.heap[a.heap.size]? = some (.cells #[.int .u16 (s : Int), .int .u16 (k : Int), .int .u8 px, .int .u8 gx] 41 (0, 0))) := ⟨by rw [HW.out]; exact ⟨bel_one _ _, heap_alloc_new _ _⟩⟩
  have hBl : Aside (B + 1 + 1 < a.heap.size) := ⟨lt_of_block S0.out.nev⟩
  go_enter Try.func34, Try.ntmps34
  go_wp2_with fail
  rw [← HW.out]
  go_loopw [9] (fun i wr => ∃ j : Nat, j ≤ k ∧ i = .int .i64 j ∧ Aside (GpSt wb B (markL l s j) (nevB nv s j l.length) wr ∧ Kept (gpS B) W1 wr)) (fun i _ => k - (intOf i).toNat)
  case atStart =>
    have e : nevB nv s 0 l.length = nv := by simp [nevB]
    refine ⟨0, by omega, rfl, ⟨?_, Kept.refl _ _⟩⟩
    rw [markL_zero, e]
    exact S0.out.old hb1.out.1
  case round =>
    obtain ⟨j, hj, rfl, T⟩ := hrel
    have hx2 := T.out.2.heap hb1.out.2 (by have := hBl.out; unfold gpS; omega)
    have x0 : wr.cell? ⟨a.heap.size, 0, none⟩ = some (.int .u16 (s : Int)) := by simp [World.cell?, hx2]
    have c1 := cell_of_one T.out.1.sv
    have c2 := cell_of_one T.out.1.nev
    have f2 := free_of_one T.out.1.nev
    have harr := T.out.1.arr
    have hm := markL_len l s j
    have hlen := S0.out.len
    by_cases hjk : j < k
    · by_cases hin : s + j < l.length
      · obtain ⟨bv, c3⟩ : ∃ bv, wr.cell? ⟨B, s + j, none⟩ = some (.bool bv) := ⟨(markL l s j)[s + j]'(by rw [hm]; exact hin), by
          simp [World.cell?, harr, rowB, List.getElem?_map, List.getElem?_eq_getElem (show s + j < (markL l s j).length by rw [hm]; exact hin)]⟩
        have f3 : wr.frozen? ⟨B, s + j, none⟩ = false := by simp [World.frozen?, harr, rowB]
        rw [hm] at c1
        clear hx2 harr hm
        have hin2 : (s : Int) + (j : Int) < (l.length : Int) := by omega
        have ht : ((s : Int) + (j : Int)).toNat = s + j := by omega
        have T0 := Aside.mk T.out
        have HM : Aside ((markL l s j).set (s + j) true = markL l s (j + 1)) := ⟨markL_in l s j hin⟩
        have HN : Aside (nevB nv s (j + 1) l.length = false) := ⟨by simp [nevB]; omega⟩
        go_wp2_with fail
        go_roundw
        case rel =>
          refine ⟨j + 1, by omega, by go_num, ⟨?_, T0.out.2.trans (gp_kept (nv := nv))⟩⟩
          rw [← HM.out, HN.out]
          exact T0.out.1.mark _
        case measure => simp [intOf]; omega
      · have hin2 : (l.length : Int) ≤ (s : Int) + (j : Int) := by omega
        rw [hm] at c1
        have T0 := Aside.mk T.out
        have HM : Aside (markL l s (j + 1) = markL l s j) := ⟨markL_out l s j (by omega)⟩
        have HN : Aside (nevB nv s (j + 1) l.length = nevB nv s j l.length) := ⟨by
          unfold nevB
          rcases Nat.eq_zero_or_pos j with e | e
          · subst e
            have : decide (s < l.length) = false := by simp; omega
            rw [this]; simp
          · have a1 : decide (0 < j + 1) = true := by simp
            have a2 : decide (0 < j) = true := by simp; omega
            rw [a1, a2]⟩
        clear hx2 harr hm
        go_wp2_with fail
        go_roundw
        case rel => exact ⟨j + 1, by omega, by go_num, ⟨by rw [HM.out, HN.out]; exact T0.out.1, T0.out.2⟩⟩
        case measure => simp [intOf]; omega
    · obtain rfl : j = k := by omega
      clear hx2 harr hm
      go_wp2_with fail
      exact bodyPost_end (v := .tuple #[]) (by simp [results, Try.results34, go_sem]) rfl ⟨rfl, T.out.1, (Kept.of_below hb1.out.1).trans T.out.2⟩
end Go.Proofs.Ytmfddaihepjfeaa
