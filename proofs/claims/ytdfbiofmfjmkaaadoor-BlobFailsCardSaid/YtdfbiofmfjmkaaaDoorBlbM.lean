/- Layer 2: does: an ask on both readers. -/
import Derived.Test.YtdfbiofmfjmkaaaDoorBlbL
namespace Go.Proofs.YtdfbiofmfjmkaaaDoor
open Go.RowKit
set_option linter.unusedVariables false
set_option linter.unusedSimpArgs false

theorem idx_nums (L : List Int) (hL : ∀ x ∈ L, 0 ≤ x ∧ x ≤ 255) (i : Nat) (h : i < (strOfNums L).size) : (((strOfNums L)[i]'h).toNat : Int) = L.getD i 0 := by
  have hl : i < L.length := by rw [strOfNums_size] at h; exact h
  have e : (strOfNums L)[i]'h = UInt8.ofNat (L[i].toNat) := by
    show (strOfNums L).data[i] = _
    simp [strOfNums]
  rw [e, List.getD_eq_getElem?_getD, List.getElem?_eq_getElem hl]
  have := hL L[i] (List.getElem_mem hl)
  simp
  omega
theorem RD.newt {T : Nat → Prop} {base : Nat} {w w' w2 : World} {Z : Nat} {A : Option Addr} {c : Nat} {S : List Int} {at_ at' : Nat} {bad bad' : Bool} (h : RD base w Z A c S at_ bad) (h' : RD base w' Z A c S at' bad') (k : Kept T w' w2)
    (hT : ∀ j, T j → w.heap.size ≤ j ∧ ∃ cs t fr, w'.heap[j]? = some (.cells cs t fr) ∧ t ≠ 56) : RD base w2 Z A c S at' bad' := by
  obtain ⟨F, h, _⟩ := h
  obtain ⟨F', h', e⟩ := h'
  refine ⟨F', ⟨k.heap h'.box (fun q => ?_), own_kept h'.row k (fun r hr q => ?_), h'.hZ, h'.le, h'.big, fun f hf => ⟨(h'.bad f hf).1, k.heap (h'.bad f hf).2 (fun q => ?_)⟩⟩, e⟩
  · have := lt_of_block h.box
    have := (hT _ q).1
    omega
  · have := own_lt h.row r hr
    have := (hT _ q).1
    omega
  · obtain ⟨cs, t, fr, q2, q3⟩ := (hT _ q).2
    rw [(h'.bad f hf).2] at q2
    injection q2 with q2
    injection q2 with _ q2 _
    exact q3 q2.symm
theorem set3c_other {w : World} {B k : Nat} {o : Obj} (h : w.heap[k]? = some o) (hne : k ≠ B) (a b c : Value) : (((w.setCell ⟨B, 0, none⟩ a).setCell ⟨B, 1, none⟩ b).setCell ⟨B, 2, none⟩ c).heap[k]? = some o := by
  rw [Below.heap_setCell _ _ _ _ hne, Below.heap_setCell _ _ _ _ hne, Below.heap_setCell _ _ _ _ hne]
  exact h
theorem set3c_kept {T : Nat → Prop} {w0 w : World} {B : Nat} (h : Kept T w0 w) (hB : T B ∨ w0.heap.size ≤ B) (a b c : Value) : Kept T w0 (((w.setCell ⟨B, 0, none⟩ a).setCell ⟨B, 1, none⟩ b).setCell ⟨B, 2, none⟩ c) :=
  ((h.setCell (p := ⟨B, 0, none⟩) hB a).setCell (p := ⟨B, 1, none⟩) hB b).setCell (p := ⟨B, 2, none⟩) hB c
def askN (kd N : Int) : Int := if kd = 0 then 1 else if kd = 1 then 2 else N
theorem does_end {base : Nat} {w W5 w6 : World} {Z : Nat} {A : Option Addr} {c : Nat} {S : List Int} {a a' : Nat} {b b' : Bool} {cs : Array Value} {fr : Nat × Nat} (H : RD base w Z A c S a b) (h5 : Below w.heap.size w W5) (hR : RD base w6 Z A c S a' b') (hK : Kept (fun j => j = Z) W5.drew w6)
    (hT : w6.heap[w.heap.size + 1 + 1]? = some (.cells cs 43 fr)) (x y z : Value) :
    RD base (((w6.setCell ⟨w.heap.size + 1 + 1, 0, none⟩ x).setCell ⟨w.heap.size + 1 + 1, 1, none⟩ y).setCell ⟨w.heap.size + 1 + 1, 2, none⟩ z) Z A c S a' b' ∧ Kept (fun j => j = Z) w (((w6.setCell ⟨w.heap.size + 1 + 1, 0, none⟩ x).setCell ⟨w.heap.size + 1 + 1, 1, none⟩ y).setCell ⟨w.heap.size + 1 + 1, 2, none⟩ z) := by
  refine ⟨H.newt hR (set3c_kept (Kept.refl (fun j => j = w.heap.size + 1 + 1) w6) (.inl rfl) x y z) (fun j e => ?_), ?_⟩
  · subst e
    exact ⟨by omega, _, _, _, hT, by decide⟩
  · have k1 : Kept (fun j => j = Z) w W5.drew := (Kept.of_below h5).drew
    exact set3c_kept (k1.trans hK) (.inr (by omega)) x y z
def DoesP (base : Nat) (w : World) (Z : Nat) (A : Option Addr) (c : Nat) (s : ByteArray) (a : Nat) (b : Bool) (n : Int) (e : Ending) (w' : World) : Prop :=
  e = .returned (.tuple #[mV s (takeA (strL s) a b n) (takeB (strL s) a b n), .bool true]) ∧ RD base w' Z A c (strL s) (takeA (strL s) a b n) (takeB (strL s) a b n) ∧ Kept (fun j => j = Z) w w'
set_option maxHeartbeats 3200000 in
set_option maxRecDepth 100000 in
theorem does0 (base : Nat) (w : World) (Z : Nat) (A : Option Addr) (c : Nat) (s : ByteArray) (a : Nat) (b : Bool) (N : Int) (h : RD base w Z A c (strL s) a b) (hs : s.size ≤ 140737488355328) :
    Calls Tryd.prog 19 #[.pointer (some ⟨Z, 0, none⟩), mV s a b, .agg #[.int .i64 0, .int .i64 N]] w (DoesP base w Z A c s a b 1) := by
  have H := Aside.mk h
  have hsl := strL_len s
  have ha : a ≤ s.size := by obtain ⟨F, R, _⟩ := h; have := R.le; omega
  have hZ := h.Z_lt.1
  obtain ⟨W3, HW⟩ : ∃ W3, Aside (W3 = ((w.alloc (.cells #[.string s, .int .i64 a, .bool b] 43)).alloc (.cells #[.int .i64 0, .int .i64 N] 47)).alloc (.cells #[.string ⟨#[]⟩, .int .i64 0, .bool false] 43)) := ⟨_, ⟨rfl⟩⟩
  have H3 : Aside (Below w.heap.size w W3 ∧ W3.heap[w.heap.size]? = some (.cells #[.string s, .int .i64 a, .bool b] 43 (0, 0)) ∧ W3.heap[w.heap.size + 1]? = some (.cells #[.int .i64 0, .int .i64 N] 47 (0, 0)) ∧ W3.heap[w.heap.size + 1 + 1]? = some (.cells #[.string ⟨#[]⟩, .int .i64 0, .bool false] 43 (0, 0))) := ⟨by
    rw [HW.out]
    have b1 := bel_one w (.cells #[.string s, .int .i64 a, .bool b] 43)
    have b2 := bel_one (w.alloc (.cells #[.string s, .int .i64 a, .bool b] 43)) (.cells #[.int .i64 0, .int .i64 N] 47)
    have b3 := bel_one ((w.alloc (.cells #[.string s, .int .i64 a, .bool b] 43)).alloc (.cells #[.int .i64 0, .int .i64 N] 47)) (.cells #[.string ⟨#[]⟩, .int .i64 0, .bool false] 43)
    have q1 := heap_alloc_new w (.cells #[.string s, .int .i64 a, .bool b] 43)
    have q2 := heap_alloc_new (w.alloc (.cells #[.string s, .int .i64 a, .bool b] 43)) (.cells #[.int .i64 0, .int .i64 N] 47)
    have q3 := heap_alloc_new ((w.alloc (.cells #[.string s, .int .i64 a, .bool b] 43)).alloc (.cells #[.int .i64 0, .int .i64 N] 47)) (.cells #[.string ⟨#[]⟩, .int .i64 0, .bool false] 43)
    exact ⟨bel_then (bel_then b1 b2) b3, hup b3 (hup b2 q1), by have := hup b3 q2; simpa using this, by simpa using q3⟩⟩
  have KT := Aside.mk (rtake_any W3 s a b 1 ha hs (by omega) (by omega))
  have HL : Aside ((takeL (strL s) a b 1 = [] ∨ (takeL (strL s) a b 1).length = 1) ∧ ∀ x ∈ takeL (strL s) a b 1, 0 ≤ x ∧ x ≤ 255) := ⟨takeL_len (n := 1), fun x hx => strL_byte s x (takeL_mem hx)⟩
  have KE : Aside (∀ W, Below w.heap.size w W → Calls Tryd.prog 24 #[.pointer (some ⟨Z, 0, none⟩)] W (OutP base W Z A c (strL s) a b 1 (.int .u8 (numL (takeL (strL s) a b 1))))) := ⟨fun W hW => eight_any base W Z A c (strL s) a b (strL_byte s) (H.out.below hW)⟩
  obtain ⟨x0, x1, x2, f0, f1, f2⟩ := box3 H3.out.2.1
  obtain ⟨v0, v1⟩ := box2 H3.out.2.2.1
  unfold RTakeP at KT
  unfold OutP at KE
  unfold DoesP
  unfold mV at KT ⊢
  generalize takeL (strL s) a b 1 = L at *
  generalize takeA (strL s) a b 1 = a' at *
  generalize takeB (strL s) a b 1 = b' at *
  clear h
  go_enter Tryd.func19, Tryd.ntmps19
  go_upto_region 1 with (fail)
  rw [← HW.out]
  go_wp2_with fail
  refine KT.out.mono ?_
  rintro e w4 ⟨rfl, b4⟩
  have H4 := Aside.mk (And.intro (bel_then H3.out.1 b4) (And.intro (hup b4 H3.out.2.1) (hup b4 H3.out.2.2.2)))
  clear x0 x1 x2 f0 f1 f2 v0 v1 b4
  obtain ⟨x0, x1, x2, f0, f1, f2⟩ := box3 H4.out.2.1
  go_upto_region 5 with (fail)
  obtain ⟨W5, HW5⟩ : ∃ W5, Aside (W5 = ((w4.setCell ⟨w.heap.size, 0, none⟩ (.string s)).setCell ⟨w.heap.size, 1, none⟩ (.int .i64 a')).setCell ⟨w.heap.size, 2, none⟩ (.bool b')) := ⟨_, ⟨rfl⟩⟩
  have H5 : Aside (Below w.heap.size w W5 ∧ W5.heap[w.heap.size]? = some (.cells #[.string s, .int .i64 a', .bool b'] 43 (0, 0)) ∧ W5.heap[w.heap.size + 1 + 1]? = some (.cells #[.string ⟨#[]⟩, .int .i64 0, .bool false] 43 (0, 0))) := ⟨by
    rw [HW5.out]
    exact ⟨set3c_below H4.out.1 (Nat.le_refl _) _ _ _, set3c_at H4.out.2.1 _ _ _, set3c_other H4.out.2.2 (by omega) _ _ _⟩⟩
  rw [← HW5.out]
  clear x0 x1 x2 f0 f1 f2
  obtain ⟨x0, x1, x2, f0, f1, f2⟩ := box3 H5.out.2.1
  have m1 : w.heap.size ≠ w.heap.size + 1 + 1 := by omega
  have m2 : w.heap.size + 1 + 1 ≠ Z := by omega
  have m3 : w.heap.size ≠ Z := by omega
  have HLL : (∃ x, L = [x] ∧ 0 ≤ x ∧ x ≤ 255) ∨ L = [] := by
    rcases HL.out.1 with h | h
    · exact .inr h
    · match L, h, HL.out.2 with
      | [x], _, hx => exact .inl ⟨x, rfl, hx x (by simp)⟩
  rcases HLL with ⟨x, rfl, hx0, hx1⟩ | rfl
  · have hid : ∀ h, (((strOfNums [x])[0]'h).toNat : Int) = x := fun h => idx_nums [x] HL.out.2 0 h
    have hne : (strOfNums [x]).toList.isEmpty = false := by rw [ByteArray.toList_eq]; simp [strOfNums]
    have hsz1 : (strOfNums [x]).size = 1 := strOfNums_size [x]
    have hnum : numL [x] = x := by simp [numL]
    rw [hnum] at KE
    generalize strOfNums [x] = G at *
    go_wp2_with fail
    have KE1 := Aside.mk (KE.out W5.drew (bel_then H5.out.1 (below_drewN W5 1)))
    go_region_held3 (fun w' => w'.cell? ⟨w.heap.size, 0, none⟩ = some (.string s) ∧ w'.cell? ⟨w.heap.size, 1, none⟩ = some (.int .i64 a') ∧ w'.cell? ⟨w.heap.size, 2, none⟩ = some (.bool b')) (first | go_keep | (exact ⟨(box3 X6.out.2.1).1, (box3 X6.out.2.1).2.1, (box3 X6.out.2.1).2.2.1⟩) | (exact ⟨(box3 (set3c_other X6.out.2.1 m1 _ _ _)).1, (box3 (set3c_other X6.out.2.1 m1 _ _ _)).2.1, (box3 (set3c_other X6.out.2.1 m1 _ _ _)).2.2.1⟩))
      (first | (with_reducible refine KE1.out.mono ?_; rintro e w6 ⟨rfl, hR6, hK6⟩; have X6 := Aside.mk (And.intro hR6 (And.intro (hK6.heap H5.out.2.1 m3) (And.intro (hK6.heap H5.out.2.2 m2) hK6))); obtain ⟨y0, y1, y2, z0, z1, z2⟩ := box3 X6.out.2.2.1))
    all_goals
      obtain ⟨e1, e2⟩ := does_end H.out H5.out.1 X6.out.1 X6.out.2.2.2 X6.out.2.2.1 (.string s) (.int .i64 a') (.bool b')
      obtain ⟨u0, u1, u2, _⟩ := box3 (set3c_at X6.out.2.2.1 (.string s) (.int .i64 a') (.bool b'))
      clear y0 y1 y2 z0 z1 z2 x0 x1 x2 f0 f1 f2
      go_wp2_with fail
      exact bodyPost_ret (v := .tuple #[.agg #[.string s, .int .i64 a', .bool b'], .bool true]) (by simp [results, Tryd.results19, go_sem, u0, u1, u2]) rfl ⟨rfl, e1, e2⟩
  · have hne : (strOfNums []).toList.isEmpty = true := by rw [ByteArray.toList_eq]; simp [strOfNums]
    have hnum : numL [] = 0 := rfl
    rw [hnum] at KE
    go_wp2_with fail
    have KE1 := Aside.mk (KE.out W5.drew (bel_then H5.out.1 (below_drewN W5 1)))
    go_region_held3 (fun w' => w'.cell? ⟨w.heap.size, 0, none⟩ = some (.string s) ∧ w'.cell? ⟨w.heap.size, 1, none⟩ = some (.int .i64 a') ∧ w'.cell? ⟨w.heap.size, 2, none⟩ = some (.bool b')) (first | go_keep | (exact ⟨(box3 X6.out.2.1).1, (box3 X6.out.2.1).2.1, (box3 X6.out.2.1).2.2.1⟩) | (exact ⟨(box3 (set3c_other X6.out.2.1 m1 _ _ _)).1, (box3 (set3c_other X6.out.2.1 m1 _ _ _)).2.1, (box3 (set3c_other X6.out.2.1 m1 _ _ _)).2.2.1⟩))
      (first | (with_reducible refine KE1.out.mono ?_; rintro e w6 ⟨rfl, hR6, hK6⟩; have X6 := Aside.mk (And.intro hR6 (And.intro (hK6.heap H5.out.2.1 m3) (And.intro (hK6.heap H5.out.2.2 m2) hK6))); obtain ⟨y0, y1, y2, z0, z1, z2⟩ := box3 X6.out.2.2.1))
    all_goals
      obtain ⟨e1, e2⟩ := does_end H.out H5.out.1 X6.out.1 X6.out.2.2.2 X6.out.2.2.1 (.string s) (.int .i64 a') (.bool b')
      obtain ⟨u0, u1, u2, _⟩ := box3 (set3c_at X6.out.2.2.1 (.string s) (.int .i64 a') (.bool b'))
      clear y0 y1 y2 z0 z1 z2 x0 x1 x2 f0 f1 f2
      go_wp2_with fail
      exact bodyPost_ret (v := .tuple #[.agg #[.string s, .int .i64 a', .bool b'], .bool true]) (by simp [results, Tryd.results19, go_sem, u0, u1, u2]) rfl ⟨rfl, e1, e2⟩
set_option maxHeartbeats 3200000 in
set_option maxRecDepth 100000 in
theorem does1 (base : Nat) (w : World) (Z : Nat) (A : Option Addr) (c : Nat) (s : ByteArray) (a : Nat) (b : Bool) (N : Int) (h : RD base w Z A c (strL s) a b) (hs : s.size ≤ 140737488355328) :
    Calls Tryd.prog 19 #[.pointer (some ⟨Z, 0, none⟩), mV s a b, .agg #[.int .i64 1, .int .i64 N]] w (DoesP base w Z A c s a b 2) := by
  have H := Aside.mk h
  have hsl := strL_len s
  have ha : a ≤ s.size := by obtain ⟨F, R, _⟩ := h; have := R.le; omega
  have hZ := h.Z_lt.1
  obtain ⟨W3, HW⟩ : ∃ W3, Aside (W3 = ((w.alloc (.cells #[.string s, .int .i64 a, .bool b] 43)).alloc (.cells #[.int .i64 1, .int .i64 N] 47)).alloc (.cells #[.string ⟨#[]⟩, .int .i64 0, .bool false] 43)) := ⟨_, ⟨rfl⟩⟩
  have H3 : Aside (Below w.heap.size w W3 ∧ W3.heap[w.heap.size]? = some (.cells #[.string s, .int .i64 a, .bool b] 43 (0, 0)) ∧ W3.heap[w.heap.size + 1]? = some (.cells #[.int .i64 1, .int .i64 N] 47 (0, 0)) ∧ W3.heap[w.heap.size + 1 + 1]? = some (.cells #[.string ⟨#[]⟩, .int .i64 0, .bool false] 43 (0, 0))) := ⟨by
    rw [HW.out]
    have b1 := bel_one w (.cells #[.string s, .int .i64 a, .bool b] 43)
    have b2 := bel_one (w.alloc (.cells #[.string s, .int .i64 a, .bool b] 43)) (.cells #[.int .i64 1, .int .i64 N] 47)
    have b3 := bel_one ((w.alloc (.cells #[.string s, .int .i64 a, .bool b] 43)).alloc (.cells #[.int .i64 1, .int .i64 N] 47)) (.cells #[.string ⟨#[]⟩, .int .i64 0, .bool false] 43)
    have q1 := heap_alloc_new w (.cells #[.string s, .int .i64 a, .bool b] 43)
    have q2 := heap_alloc_new (w.alloc (.cells #[.string s, .int .i64 a, .bool b] 43)) (.cells #[.int .i64 1, .int .i64 N] 47)
    have q3 := heap_alloc_new ((w.alloc (.cells #[.string s, .int .i64 a, .bool b] 43)).alloc (.cells #[.int .i64 1, .int .i64 N] 47)) (.cells #[.string ⟨#[]⟩, .int .i64 0, .bool false] 43)
    exact ⟨bel_then (bel_then b1 b2) b3, hup b3 (hup b2 q1), by have := hup b3 q2; simpa using this, by simpa using q3⟩⟩
  have KT := Aside.mk (rtake_any W3 s a b 2 ha hs (by omega) (by omega))
  have HL : Aside ((takeL (strL s) a b 2 = [] ∨ (takeL (strL s) a b 2).length = 2) ∧ ∀ x ∈ takeL (strL s) a b 2, 0 ≤ x ∧ x ≤ 255) := ⟨takeL_len (n := 2), fun x hx => strL_byte s x (takeL_mem hx)⟩
  have KE : Aside (∀ W, Below w.heap.size w W → Calls Tryd.prog 16 #[.pointer (some ⟨Z, 0, none⟩)] W (OutP base W Z A c (strL s) a b 2 (.int .u16 (numL (takeL (strL s) a b 2))))) := ⟨fun W hW => sixteen_any base W Z A c (strL s) a b (strL_byte s) (H.out.below hW)⟩
  obtain ⟨x0, x1, x2, f0, f1, f2⟩ := box3 H3.out.2.1
  obtain ⟨v0, v1⟩ := box2 H3.out.2.2.1
  unfold RTakeP at KT
  unfold OutP at KE
  unfold DoesP
  unfold mV at KT ⊢
  generalize takeL (strL s) a b 2 = L at *
  generalize takeA (strL s) a b 2 = a' at *
  generalize takeB (strL s) a b 2 = b' at *
  clear h
  go_enter Tryd.func19, Tryd.ntmps19
  go_upto_region 1 with (fail)
  rw [← HW.out]
  go_wp2_with fail
  refine KT.out.mono ?_
  rintro e w4 ⟨rfl, b4⟩
  have H4 := Aside.mk (And.intro (bel_then H3.out.1 b4) (And.intro (hup b4 H3.out.2.1) (hup b4 H3.out.2.2.2)))
  clear x0 x1 x2 f0 f1 f2 v0 v1 b4
  obtain ⟨x0, x1, x2, f0, f1, f2⟩ := box3 H4.out.2.1
  go_upto_region 11 with (fail)
  obtain ⟨W5, HW5⟩ : ∃ W5, Aside (W5 = ((w4.setCell ⟨w.heap.size, 0, none⟩ (.string s)).setCell ⟨w.heap.size, 1, none⟩ (.int .i64 a')).setCell ⟨w.heap.size, 2, none⟩ (.bool b')) := ⟨_, ⟨rfl⟩⟩
  have H5 : Aside (Below w.heap.size w W5 ∧ W5.heap[w.heap.size]? = some (.cells #[.string s, .int .i64 a', .bool b'] 43 (0, 0)) ∧ W5.heap[w.heap.size + 1 + 1]? = some (.cells #[.string ⟨#[]⟩, .int .i64 0, .bool false] 43 (0, 0))) := ⟨by
    rw [HW5.out]
    exact ⟨set3c_below H4.out.1 (Nat.le_refl _) _ _ _, set3c_at H4.out.2.1 _ _ _, set3c_other H4.out.2.2 (by omega) _ _ _⟩⟩
  rw [← HW5.out]
  clear x0 x1 x2 f0 f1 f2
  obtain ⟨x0, x1, x2, f0, f1, f2⟩ := box3 H5.out.2.1
  have m1 : w.heap.size ≠ w.heap.size + 1 + 1 := by omega
  have m2 : w.heap.size + 1 + 1 ≠ Z := by omega
  have m3 : w.heap.size ≠ Z := by omega
  have HLL : (∃ x y, L = [x, y] ∧ 0 ≤ x ∧ x ≤ 255 ∧ 0 ≤ y ∧ y ≤ 255) ∨ L = [] := by
    rcases HL.out.1 with h | h
    · exact .inr h
    · match L, h, HL.out.2 with
      | [x, y], _, hx => exact .inl ⟨x, y, rfl, (hx x (by simp)).1, (hx x (by simp)).2, (hx y (by simp)).1, (hx y (by simp)).2⟩
  rcases HLL with ⟨x, y, rfl, hx0, hx1, hy0, hy1⟩ | rfl
  · have hid : ∀ h, (((strOfNums [x, y])[0]'h).toNat : Int) = x := fun h => idx_nums [x, y] HL.out.2 0 h
    have hid1 : ∀ h, (((strOfNums [x, y])[1]'h).toNat : Int) = y := fun h => idx_nums [x, y] HL.out.2 1 h
    have hne : (strOfNums [x, y]).toList.isEmpty = false := by rw [ByteArray.toList_eq]; simp [strOfNums]
    have hsz1 : (strOfNums [x, y]).size = 2 := strOfNums_size [x, y]
    have hnum : numL [x, y] = x * 256 + y := by simp [numL]
    have hwx : IntKind.u16.wrap x = x := wraps_u16 _ hx0 (by omega)
    have hwy : IntKind.u16.wrap y = y := wraps_u16 _ hy0 (by omega)
    have hw1 : IntKind.u16.wrap (x * 256) = x * 256 := wraps_u16 _ (by omega) (by omega)
    have hw2 : IntKind.u16.wrap (x * 256 + y) = x * 256 + y := wraps_u16 _ (by omega) (by omega)
    rw [hnum] at KE
    generalize strOfNums [x, y] = G at *
    go_upto_region 13 with (fail)
    go_quiet (fail)
    obtain ⟨W5q, HWq⟩ : ∃ W5q, Aside (W5q = W5.drewN nq) := ⟨_, ⟨rfl⟩⟩
    rw [← HWq.out]
    have H5q : Aside (Below w.heap.size w W5q ∧ W5q.heap[w.heap.size]? = some (.cells #[.string s, .int .i64 a', .bool b'] 43 (0, 0)) ∧ W5q.heap[w.heap.size + 1 + 1]? = some (.cells #[.string ⟨#[]⟩, .int .i64 0, .bool false] 43 (0, 0))) := ⟨by rw [HWq.out]; exact ⟨bel_then H5.out.1 (below_drewN _ _), H5.out.2.1, H5.out.2.2⟩⟩
    clear x0 x1 x2 f0 f1 f2
    obtain ⟨x0, x1, x2, f0, f1, f2⟩ := box3 H5q.out.2.1
    go_wp2_with fail
    have KE1 := Aside.mk (KE.out W5q.drew (bel_then H5q.out.1 (below_drewN W5q 1)))
    go_region_held3 (fun w' => w'.cell? ⟨w.heap.size, 0, none⟩ = some (.string s) ∧ w'.cell? ⟨w.heap.size, 1, none⟩ = some (.int .i64 a') ∧ w'.cell? ⟨w.heap.size, 2, none⟩ = some (.bool b')) (first | go_keep | (exact ⟨(box3 X6.out.2.1).1, (box3 X6.out.2.1).2.1, (box3 X6.out.2.1).2.2.1⟩) | (exact ⟨(box3 (set3c_other X6.out.2.1 m1 _ _ _)).1, (box3 (set3c_other X6.out.2.1 m1 _ _ _)).2.1, (box3 (set3c_other X6.out.2.1 m1 _ _ _)).2.2.1⟩))
      (first | (with_reducible refine KE1.out.mono ?_; rintro e w6 ⟨rfl, hR6, hK6⟩; have X6 := Aside.mk (And.intro hR6 (And.intro (hK6.heap H5q.out.2.1 m3) (And.intro (hK6.heap H5q.out.2.2 m2) hK6))); obtain ⟨y0, y1, y2, z0, z1, z2⟩ := box3 X6.out.2.2.1))
    all_goals
      obtain ⟨e1, e2⟩ := does_end H.out H5q.out.1 X6.out.1 X6.out.2.2.2 X6.out.2.2.1 (.string s) (.int .i64 a') (.bool b')
      obtain ⟨u0, u1, u2, _⟩ := box3 (set3c_at X6.out.2.2.1 (.string s) (.int .i64 a') (.bool b'))
      clear y0 y1 y2 z0 z1 z2 x0 x1 x2 f0 f1 f2
      go_wp2_with fail
      exact bodyPost_ret (v := .tuple #[.agg #[.string s, .int .i64 a', .bool b'], .bool true]) (by simp [results, Tryd.results19, go_sem, u0, u1, u2]) rfl ⟨rfl, e1, e2⟩
  · have hne : (strOfNums []).toList.isEmpty = true := by rw [ByteArray.toList_eq]; simp [strOfNums]
    have hnum : numL [] = 0 := rfl
    rw [hnum] at KE
    go_wp2_with fail
    have KE1 := Aside.mk (KE.out W5.drew (bel_then H5.out.1 (below_drewN W5 1)))
    go_region_held3 (fun w' => w'.cell? ⟨w.heap.size, 0, none⟩ = some (.string s) ∧ w'.cell? ⟨w.heap.size, 1, none⟩ = some (.int .i64 a') ∧ w'.cell? ⟨w.heap.size, 2, none⟩ = some (.bool b')) (first | go_keep | (exact ⟨(box3 X6.out.2.1).1, (box3 X6.out.2.1).2.1, (box3 X6.out.2.1).2.2.1⟩) | (exact ⟨(box3 (set3c_other X6.out.2.1 m1 _ _ _)).1, (box3 (set3c_other X6.out.2.1 m1 _ _ _)).2.1, (box3 (set3c_other X6.out.2.1 m1 _ _ _)).2.2.1⟩))
      (first | (with_reducible refine KE1.out.mono ?_; rintro e w6 ⟨rfl, hR6, hK6⟩; have X6 := Aside.mk (And.intro hR6 (And.intro (hK6.heap H5.out.2.1 m3) (And.intro (hK6.heap H5.out.2.2 m2) hK6))); obtain ⟨y0, y1, y2, z0, z1, z2⟩ := box3 X6.out.2.2.1))
    all_goals
      obtain ⟨e1, e2⟩ := does_end H.out H5.out.1 X6.out.1 X6.out.2.2.2 X6.out.2.2.1 (.string s) (.int .i64 a') (.bool b')
      obtain ⟨u0, u1, u2, _⟩ := box3 (set3c_at X6.out.2.2.1 (.string s) (.int .i64 a') (.bool b'))
      clear y0 y1 y2 z0 z1 z2 x0 x1 x2 f0 f1 f2
      go_wp2_with fail
      exact bodyPost_ret (v := .tuple #[.agg #[.string s, .int .i64 a', .bool b'], .bool true]) (by simp [results, Tryd.results19, go_sem, u0, u1, u2]) rfl ⟨rfl, e1, e2⟩
set_option maxHeartbeats 3200000 in
set_option maxRecDepth 100000 in
theorem does2 (base : Nat) (w : World) (Z : Nat) (A : Option Addr) (c : Nat) (s : ByteArray) (a : Nat) (b : Bool) (N : Int) (h : RD base w Z A c (strL s) a b) (hs : s.size ≤ 140737488355328) (n0 : -9223372036854775808 ≤ N) (n1 : N ≤ 9223372036854775807) :
    Calls Tryd.prog 19 #[.pointer (some ⟨Z, 0, none⟩), mV s a b, .agg #[.int .i64 2, .int .i64 N]] w (DoesP base w Z A c s a b N) := by
  have H := Aside.mk h
  have hsl := strL_len s
  have ha : a ≤ s.size := by obtain ⟨F, R, _⟩ := h; have := R.le; omega
  have hZ := h.Z_lt.1
  obtain ⟨W3, HW⟩ : ∃ W3, Aside (W3 = ((w.alloc (.cells #[.string s, .int .i64 a, .bool b] 43)).alloc (.cells #[.int .i64 2, .int .i64 N] 47)).alloc (.cells #[.string ⟨#[]⟩, .int .i64 0, .bool false] 43)) := ⟨_, ⟨rfl⟩⟩
  have H3 : Aside (Below w.heap.size w W3 ∧ W3.heap[w.heap.size]? = some (.cells #[.string s, .int .i64 a, .bool b] 43 (0, 0)) ∧ W3.heap[w.heap.size + 1]? = some (.cells #[.int .i64 2, .int .i64 N] 47 (0, 0)) ∧ W3.heap[w.heap.size + 1 + 1]? = some (.cells #[.string ⟨#[]⟩, .int .i64 0, .bool false] 43 (0, 0))) := ⟨by
    rw [HW.out]
    have b1 := bel_one w (.cells #[.string s, .int .i64 a, .bool b] 43)
    have b2 := bel_one (w.alloc (.cells #[.string s, .int .i64 a, .bool b] 43)) (.cells #[.int .i64 2, .int .i64 N] 47)
    have b3 := bel_one ((w.alloc (.cells #[.string s, .int .i64 a, .bool b] 43)).alloc (.cells #[.int .i64 2, .int .i64 N] 47)) (.cells #[.string ⟨#[]⟩, .int .i64 0, .bool false] 43)
    have q1 := heap_alloc_new w (.cells #[.string s, .int .i64 a, .bool b] 43)
    have q2 := heap_alloc_new (w.alloc (.cells #[.string s, .int .i64 a, .bool b] 43)) (.cells #[.int .i64 2, .int .i64 N] 47)
    have q3 := heap_alloc_new ((w.alloc (.cells #[.string s, .int .i64 a, .bool b] 43)).alloc (.cells #[.int .i64 2, .int .i64 N] 47)) (.cells #[.string ⟨#[]⟩, .int .i64 0, .bool false] 43)
    exact ⟨bel_then (bel_then b1 b2) b3, hup b3 (hup b2 q1), by have := hup b3 q2; simpa using this, by simpa using q3⟩⟩
  have KT := Aside.mk (rtake_any W3 s a b N ha hs n0 n1)
  have KE : Aside (∀ W, Below w.heap.size w W → Calls Tryd.prog 11 #[.pointer (some ⟨Z, 0, none⟩), .int .i64 N] W (OutP base W Z A c (strL s) a b N (.string (strOfNums (takeL (strL s) a b N))))) := ⟨fun W hW => text_any base W Z A c (strL s) a b N (H.out.below hW) n0 n1⟩
  obtain ⟨x0, x1, x2, f0, f1, f2⟩ := box3 H3.out.2.1
  obtain ⟨v0, v1⟩ := box2 H3.out.2.2.1
  unfold RTakeP at KT
  unfold OutP at KE
  unfold DoesP
  unfold mV at KT ⊢
  generalize takeL (strL s) a b N = L at *
  generalize takeA (strL s) a b N = a' at *
  generalize takeB (strL s) a b N = b' at *
  clear h
  go_enter Tryd.func19, Tryd.ntmps19
  go_upto_region 1 with (fail)
  rw [← HW.out]
  go_wp2_with fail
  refine KT.out.mono ?_
  rintro e w4 ⟨rfl, b4⟩
  have H4 := Aside.mk (And.intro (bel_then H3.out.1 b4) (And.intro (hup b4 H3.out.2.1) (And.intro (hup b4 H3.out.2.2.2) (hup b4 H3.out.2.2.1))))
  clear x0 x1 x2 f0 f1 f2 v0 v1 b4
  obtain ⟨x0, x1, x2, f0, f1, f2⟩ := box3 H4.out.2.1
  go_upto_region 17 with (fail)
  obtain ⟨W5, HW5⟩ : ∃ W5, Aside (W5 = ((w4.setCell ⟨w.heap.size, 0, none⟩ (.string s)).setCell ⟨w.heap.size, 1, none⟩ (.int .i64 a')).setCell ⟨w.heap.size, 2, none⟩ (.bool b')) := ⟨_, ⟨rfl⟩⟩
  have H5 : Aside (Below w.heap.size w W5 ∧ W5.heap[w.heap.size]? = some (.cells #[.string s, .int .i64 a', .bool b'] 43 (0, 0)) ∧ W5.heap[w.heap.size + 1 + 1]? = some (.cells #[.string ⟨#[]⟩, .int .i64 0, .bool false] 43 (0, 0)) ∧ W5.heap[w.heap.size + 1]? = some (.cells #[.int .i64 2, .int .i64 N] 47 (0, 0))) := ⟨by
    rw [HW5.out]
    exact ⟨set3c_below H4.out.1 (Nat.le_refl _) _ _ _, set3c_at H4.out.2.1 _ _ _, set3c_other H4.out.2.2.1 (by omega) _ _ _, set3c_other H4.out.2.2.2 (by omega) _ _ _⟩⟩
  rw [← HW5.out]
  clear x0 x1 x2 f0 f1 f2
  obtain ⟨x0, x1, x2, f0, f1, f2⟩ := box3 H5.out.2.1
  have m1 : w.heap.size ≠ w.heap.size + 1 + 1 := by omega
  have m2 : w.heap.size + 1 + 1 ≠ Z := by omega
  have m3 : w.heap.size ≠ Z := by omega
  have m4 : w.heap.size + 1 ≠ w.heap.size + 1 + 1 := by omega
  have m5 : w.heap.size + 1 ≠ Z := by omega
  obtain ⟨v0, v1⟩ := box2 H5.out.2.2.2
  generalize strOfNums L = G at *
  have KE1 := Aside.mk (KE.out W5.drew (bel_then H5.out.1 (below_drewN W5 1)))
  go_region_held3 (fun w' => w'.cell? ⟨w.heap.size, 0, none⟩ = some (.string s) ∧ w'.cell? ⟨w.heap.size, 1, none⟩ = some (.int .i64 a') ∧ w'.cell? ⟨w.heap.size, 2, none⟩ = some (.bool b') ∧ w'.cell? ⟨w.heap.size + 1, 1, none⟩ = some (.int .i64 N)) (first | (with_reducible exact ⟨(box3 X6.out.2.1).1, (box3 X6.out.2.1).2.1, (box3 X6.out.2.1).2.2.1, (box2 X6.out.2.2.2.2).2⟩) | (with_reducible exact ⟨(box3 (set3c_other X6.out.2.1 m1 _ _ _)).1, (box3 (set3c_other X6.out.2.1 m1 _ _ _)).2.1, (box3 (set3c_other X6.out.2.1 m1 _ _ _)).2.2.1, (box2 (set3c_other X6.out.2.2.2.2 m4 _ _ _)).2⟩) | go_keep)
    (first | (with_reducible refine KE1.out.mono ?_; rintro e w6 ⟨rfl, hR6, hK6⟩; have X6 := Aside.mk (And.intro hR6 (And.intro (hK6.heap H5.out.2.1 m3) (And.intro (hK6.heap H5.out.2.2.1 m2) (And.intro hK6 (hK6.heap H5.out.2.2.2 m5))))); obtain ⟨y0, y1, y2, z0, z1, z2⟩ := box3 X6.out.2.2.1))
  all_goals
    obtain ⟨e1, e2⟩ := does_end H.out H5.out.1 X6.out.1 X6.out.2.2.2.1 X6.out.2.2.1 (.string s) (.int .i64 a') (.bool b')
    obtain ⟨u0, u1, u2, _⟩ := box3 (set3c_at X6.out.2.2.1 (.string s) (.int .i64 a') (.bool b'))
    clear y0 y1 y2 z0 z1 z2 x0 x1 x2 f0 f1 f2
    go_wp2_with fail
    exact bodyPost_ret (v := .tuple #[.agg #[.string s, .int .i64 a', .bool b'], .bool true]) (by simp [results, Tryd.results19, go_sem, u0, u1, u2]) rfl ⟨rfl, e1, e2⟩
end Go.Proofs.YtdfbiofmfjmkaaaDoor