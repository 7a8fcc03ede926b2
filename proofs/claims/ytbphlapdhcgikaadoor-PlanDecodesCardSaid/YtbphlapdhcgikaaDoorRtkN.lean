/- The reference's number: the next bytes, as a number. -/
import Derived.Test.YtbphlapdhcgikaaDoorRtk
import Derived.Test.YtbphlapdhcgikaaDoorRtA
namespace Go.Proofs.YtbphlapdhcgikaaDoor
open Go.RowKit
set_option linter.unusedVariables false
set_option linter.unusedSimpArgs false

theorem idx_nums (L : List Int) (hL : ∀ x ∈ L, 0 ≤ x ∧ x ≤ 255) (i : Nat) (h : i < (strOfNums L).size) : (((strOfNums L)[i]'h).toNat : Int) = L.getD i 0 := by
  have hl : i < L.length := by rw [strOfNums_size] at h; exact h
  have e : (strOfNums L)[i]'h = UInt8.ofNat (L[i].toNat) := by
    show (strOfNums L).data[i] = _
    simp [strOfNums]
  rw [e, List.getD_eq_getElem?_getD, List.getElem?_eq_getElem hl]
  have := hL L[i] (List.getElem_mem hl)
  simp
  omega
/-- What a reading's box holds: the text, how much of it was read, whether reading failed. -/
def rcells (s : ByteArray) (t : St) : Array Value := #[.string s, .int .i64 t.1, .bool t.2]
/-- What the reference's number hands back. -/
def RNumP (w : World) (Z : Nat) (s : ByteArray) (r : Int × St) (e : Ending) (w' : World) : Prop :=
  e = .returned (.int .i64 r.1) ∧ w'.heap[Z]? = some (.cells (rcells s r.2) 98 (0, 0)) ∧ Kept (fun j => j = Z) w w'
set_option maxHeartbeats 3200000 in
theorem rnum_any (w : World) (Z : Nat) (s : ByteArray) (t : St) (n : Nat) (hn : n = 1 ∨ n = 2) (ha : t.1 ≤ s.size) (hs : s.size ≤ 140737488355328) (hZ : w.heap[Z]? = some (.cells (rcells s t) 98 (0, 0))) :
    Calls Tryd.prog 42 #[.pointer (some ⟨Z, 0, none⟩), .int .i64 n] w (RNumP w Z s (rdN (strL s) n t)) := by
  obtain ⟨a, b⟩ := t
  have KT := Aside.mk (Bl.rtake_any w s a b n ha hs (by omega) (by omega))
  obtain ⟨L, hL⟩ : ∃ L, Bl.takeL (strL s) a b n = L := ⟨_, rfl⟩
  obtain ⟨a', hA⟩ : ∃ a', Bl.takeA (strL s) a b n = a' := ⟨_, rfl⟩
  obtain ⟨b', hB⟩ : ∃ b', Bl.takeB (strL s) a b n = b' := ⟨_, rfl⟩
  have hR : Aside (rdN (strL s) n (a, b) = (Bl.numL L, (a', b'))) := ⟨by show (Bl.numL (Bl.takeL (strL s) a b n), _) = _; rw [hL]; show (_, (Bl.takeA (strL s) a b n, Bl.takeB (strL s) a b n)) = _; rw [hA, hB]⟩
  have HLL : L = [] ∨ (∃ x, L = [x]) ∨ (∃ x y, L = [x, y]) := by
    have h1 := Bl.takeL_len (S := strL s) (at_ := a) (bad := b) (n := n)
    rw [hL] at h1
    match L, h1 with
    | [], _ => exact .inl rfl
    | [a], _ => exact .inr (.inl ⟨a, rfl⟩)
    | [a, b], _ => exact .inr (.inr ⟨a, b, rfl⟩)
    | a :: b :: c :: t, h => rcases h with h | h <;> simp at h; omega
  have HM : ∀ x ∈ L, 0 ≤ x ∧ x ≤ 255 := fun x hx => strL_byte s x (Bl.takeL_mem (by rw [hL]; exact hx))
  unfold Bl.RTakeP at KT
  rw [hL, hA, hB] at KT
  have H0 := Aside.mk hZ
  have hZ' : w.heap[Z]? = some (.cells #[.string s, .int .i64 a, .bool b] 98 (0, 0)) := hZ
  obtain ⟨x0, x1, x2, f0, f1, f2⟩ := Bl.box3 hZ'
  have HZ := Aside.mk hZ'
  clear hL hA hB hZ hZ' hn ha hs
  unfold Bl.mV at KT
  go_enter Tryd.func42, Tryd.ntmps42
  go_wp2_with fail
  refine KT.out.mono ?_
  rintro e w2 ⟨rfl, b2⟩
  obtain ⟨W3, HW3⟩ : ∃ W3, Aside (W3 = w2.alloc (.cells #[.string s, .int .i64 a', .bool b'] 93)) := ⟨_, ⟨rfl⟩⟩
  have B3 : Aside (Below w.heap.size w W3 ∧ W3.heap[w2.heap.size]? = some (.cells #[.string s, .int .i64 a', .bool b'] 93 (0, 0))) := ⟨by rw [HW3.out]; exact ⟨bel_then b2 (bel_one _ _), heap_alloc_new _ _⟩⟩
  have Z3 := Aside.mk (hup B3.out.1 HZ.out)
  have hb := b2.size
  have hzl := lt_of_block HZ.out
  clear KT x0 x1 x2 f0 f1 f2 b2
  obtain ⟨x0, x1, x2, f0, f1, f2⟩ := Bl.box3 Z3.out
  obtain ⟨y0, y1, y2, _, _, _⟩ := Bl.box3 B3.out.2
  have hne : w2.heap.size ≠ Z := by omega
  obtain ⟨W4, HW4⟩ : ∃ W4, Aside (W4 = ((W3.setCell ⟨Z, 0, none⟩ (.string s)).setCell ⟨Z, 1, none⟩ (.int .i64 a')).setCell ⟨Z, 2, none⟩ (.bool b')) := ⟨_, ⟨rfl⟩⟩
  have HR : Aside (W4.heap[Z]? = some (.cells (rcells s (a', b')) 98 (0, 0)) ∧ Kept (fun j => j = Z) w W4) := ⟨by
    rw [HW4.out]
    refine ⟨Bl.set3c_at Z3.out _ _ _, ?_⟩
    have k0 : Kept (fun j => j = Z) w W3 := Kept.of_below B3.out.1
    exact ((k0.setCell (p := ⟨Z, 0, none⟩) (.inl rfl) _).setCell (p := ⟨Z, 1, none⟩) (.inl rfl) _).setCell (p := ⟨Z, 2, none⟩) (.inl rfl) _⟩
  go_upto_region 2 with (fail)
  rw [← HW3.out]
  go_upto_region 3 with (fail)
  rw [← HW4.out]
  clear x0 x1 x2 f0 f1 f2 y0 y1 y2
  rcases HLL with rfl | ⟨x, rfl⟩ | ⟨x, y, rfl⟩
  · clear HM
    go_wp2_with fail
    refine wp_loop_rounds 1 ?_
    rw [rounds_succ]
    go_wp2_with fail
    go_ret
    exact ⟨by rw [hR.out]; rfl, by rw [hR.out]; exact HR.out.1, HR.out.2⟩
  · have hid : ∀ h, (((strOfNums [x])[0]'h).toNat : Int) = x := fun h => idx_nums [x] HM 0 h
    obtain ⟨p0, p1⟩ := HM x (by simp)
    have hw : IntKind.i64.wrap x = x := IntWalk.i64_in _ (by omega)
    have hsz1 : (strOfNums [x]).size = 1 := strOfNums_size [x]
    clear HM
    generalize strOfNums [x] = G at *
    go_wp2_with fail
    refine wp_loop_rounds 2 ?_
    rw [rounds_succ]
    go_wp2_with fail
    rw [rounds_succ]
    go_wp2_with fail
    go_ret
    exact ⟨by rw [hR.out]; exact ret_int (by simp [Bl.numL]), by rw [hR.out]; exact HR.out.1, HR.out.2⟩
  · have hid : ∀ h, (((strOfNums [x, y])[0]'h).toNat : Int) = x := fun h => idx_nums [x, y] HM 0 h
    have hid1 : ∀ h, (((strOfNums [x, y])[1]'h).toNat : Int) = y := fun h => idx_nums [x, y] HM 1 h
    obtain ⟨p0, p1⟩ := HM x (by simp)
    obtain ⟨q0, q1⟩ := HM y (by simp)
    have hw : IntKind.i64.wrap x = x := IntWalk.i64_in _ (by omega)
    have hsz1 : (strOfNums [x, y]).size = 2 := strOfNums_size [x, y]
    have hw1 : IntKind.i64.wrap (x * 256) = x * 256 := IntWalk.i64_in _ (by omega)
    have hw2 : IntKind.i64.wrap (x * 256 + y) = x * 256 + y := IntWalk.i64_in _ (by omega)
    clear HM
    generalize strOfNums [x, y] = G at *
    go_wp2_with fail
    refine wp_loop_rounds 3 ?_
    rw [rounds_succ]
    go_wp2_with fail
    rw [rounds_succ]
    go_wp2_with fail
    rw [rounds_succ]
    go_wp2_with fail
    go_ret
    exact ⟨by rw [hR.out]; exact ret_int (by simp [Bl.numL]), by rw [hR.out]; exact HR.out.1, HR.out.2⟩
end Go.Proofs.YtbphlapdhcgikaaDoor
