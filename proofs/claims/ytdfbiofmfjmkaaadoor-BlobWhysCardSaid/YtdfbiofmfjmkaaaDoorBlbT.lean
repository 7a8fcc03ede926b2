/- Layer 2: the law BlobWhys. -/
import Derived.Test.YtdfbiofmfjmkaaaDoorBlbS
import Derived.Test.YtdfbiofmfjmkaaaDoorBlbG
namespace Go.Proofs.YtdfbiofmfjmkaaaDoor
open Go.RowKit
set_option linter.unusedVariables false
set_option linter.unusedSimpArgs false

theorem xor_ne (n : Int) : Go.bits .xor .i64 n 1 ≠ n := by
  intro h
  have h' : IntKind.i64.wrap ((BitVec.ofInt 64 n ^^^ BitVec.ofInt 64 1).toNat : Int) = n := h
  rw [BitVec.toNat_xor, IntKind.wrap_i64, BitVec.toNat_ofInt, BitVec.toNat_ofInt] at h'
  have h1 : (((1 : Int) % (2 ^ 64 : Nat)).toNat) = 1 := by decide
  rw [h1] at h'
  have h2 : ((n % (2 ^ 64 : Nat)).toNat ^^^ 1) % 2 = ((n % (2 ^ 64 : Nat)).toNat + 1) % 2 := by
    have q := Nat.xor_mod_two_pow (a := (n % (2 ^ 64 : Nat)).toNat) (b := 1) (n := 1)
    rw [show (2 : Nat) ^ 1 = 2 from rfl] at q
    rw [q]
    rcases Nat.mod_two_eq_zero_or_one (n % (2 ^ 64 : Nat)).toNat with e | e <;> rw [e] <;> simp <;> omega
  have h3 : 0 ≤ n % (2 ^ 64 : Nat) := Int.emod_nonneg _ (by decide)
  generalize ((n % (2 ^ 64 : Nat)).toNat ^^^ 1) = X at h' h2
  have h4 : ((2 ^ 64 : Nat) : Int) = 18446744073709551616 := by decide
  rw [h4] at h2 h3
  omega
set_option maxHeartbeats 4000000 in
theorem why_fail (k : Nat) (w : World) (f : Nat) (a n : Int) (hf : w.heap[f]? = some (.cells #[.int .i64 a, .int .i64 n] 56 (0, 0))) (hg : ETy w) : Calls Tryd.prog 17 #[wrN k (.iface 54 (.pointer (some ⟨f, 0, none⟩)))] w (WhyP w n a) := by
  obtain ⟨W2, HW⟩ : ∃ W2, Aside (W2 = (w.alloc (.cells #[.int .i64 0] 37)).alloc (.cells #[.pointer none] 54)) := ⟨_, ⟨rfl⟩⟩
  have K2 : Below w.heap.size w W2 := by rw [HW.out]; exact bel_then (bel_one _ _) (bel_one _ _)
  have hT : W2.heap[w.heap.size + 1]? = some (.cells #[.pointer none] 54 (0, 0)) := by
    rw [HW.out]
    have := heap_alloc_new (w.alloc (.cells #[.int .i64 0] 37)) (.cells #[.pointer none] 54)
    simpa using this
  have KA := Aside.mk (as_ff (wrN k (.iface 54 (.pointer (some ⟨f, 0, none⟩)))) (wrN_iface k _ (.inr ⟨_, _, rfl⟩)) (w.heap.size + 1) W2 (.pointer none) (hg.below K2) hT (fun W e w' => e = .returned (.bool true) ∧ Kept (fun j => j = w.heap.size + 1) W w' ∧ w'.heap[w.heap.size + 1]? = some (.cells #[.pointer (some ⟨f, 0, none⟩)] 54 (0, 0)))
    (fun W b hW hb => (as2F_hit k f (w.heap.size + 1) b (.pointer none) _ W hb (hup hW hT)).mono (fun e w' h => ⟨true, h.1, h.1, h.2⟩)))
  have HF := Aside.mk (And.intro K2 (hup K2 hf))
  have FL := Aside.mk (lt_of_block hf)
  obtain ⟨v0, hv0⟩ : ∃ v0, wrN k (.iface 54 (.pointer (some ⟨f, 0, none⟩))) = v0 := ⟨_, rfl⟩
  rw [hv0] at KA ⊢
  clear hf hg hT K2 hv0
  go_enter Tryd.func17, Tryd.ntmps17
  go_upto_region 3 with (fail)
  rw [← HW.out]
  go_wp2_with fail
  refine KA.out.mono ?_
  rintro e w3 ⟨W, hW, rfl, hK, hT⟩
  have hne : f ≠ w.heap.size + 1 := by have := FL.out; omega
  obtain ⟨y0, y1⟩ := box2 (hK.heap (hup hW HF.out.2) hne)
  have t0 : w3.cell? ⟨w.heap.size + 1, 0, none⟩ = some (.pointer (some ⟨f, 0, none⟩)) := by simp [World.cell?, hT]
  have B3 : Below w.heap.size w w3 := HF.out.1.trans ((Below.refl W2.heap.size W2 |>.trans hW).mono (by have := HF.out.1.size; omega) |>.trans (hK.below (by have := HF.out.1.size; have := hW.size; omega) (fun j e => by omega)))
  have B3 := Aside.mk B3
  clear hT hK hW hne
  go_upto_region 4 with (fail)
  go_quiet (fail)
  go_wp2_with fail
  go_ret2
  exact ⟨rfl, bel_then B3.out (below_drewN _ _)⟩
set_option maxHeartbeats 4000000 in
theorem why_num (k : Nat) (w : World) (n : Int) (hg : ETy w) : Calls Tryd.prog 17 #[wrN k (.iface 37 (.int .i64 n))] w (WhyP w n 0) := by
  obtain ⟨W2, HW⟩ : ∃ W2, Aside (W2 = (w.alloc (.cells #[.int .i64 0] 37)).alloc (.cells #[.pointer none] 54)) := ⟨_, ⟨rfl⟩⟩
  have K2 : Below w.heap.size w W2 := by rw [HW.out]; exact bel_then (bel_one _ _) (bel_one _ _)
  have hT : W2.heap[w.heap.size + 1]? = some (.cells #[.pointer none] 54 (0, 0)) := by
    rw [HW.out]
    have := heap_alloc_new (w.alloc (.cells #[.int .i64 0] 37)) (.cells #[.pointer none] 54)
    simpa using this
  have hE : W2.heap[w.heap.size]? = some (.cells #[.int .i64 0] 37 (0, 0)) := by rw [HW.out]; exact hup (bel_one _ _) (heap_alloc_new w _)
  have KA := Aside.mk (as_ff (wrN k (.iface 37 (.int .i64 n))) (wrN_iface k _ (.inr ⟨_, _, rfl⟩)) (w.heap.size + 1) W2 (.pointer none) (hg.below K2) hT (fun W e w' => e = .returned (.bool false) ∧ Below W.heap.size W w')
    (fun W b hW hb => (as2F_miss k n (w.heap.size + 1) b (.pointer none) _ W hb (hup hW hT)).mono (fun e w' h => ⟨false, h.1, h.1, h.2⟩)))
  have KB : Aside (∀ W, Below W2.heap.size W2 W → Calls Tryd.prog 27 #[wrN k (.iface 37 (.int .i64 n)), .iface 69 (.pointer (some ⟨w.heap.size, 0, none⟩))] W fun e w' => e = .returned (.bool true) ∧ w'.heap[w.heap.size]? = some (.cells #[.int .i64 n] 37 (0, 0)) ∧ Below w.heap.size w w') := ⟨fun W h => (as_ee (wrN k (.iface 37 (.int .i64 n))) (wrN_iface k _ (.inr ⟨_, _, rfl⟩)) w.heap.size W (.int .i64 0) (hg.below (bel_then K2 h)) (hup h hE) (fun W e w' => e = .returned (.bool true) ∧ Kept (fun j => j = w.heap.size) W w' ∧ w'.heap[w.heap.size]? = some (.cells #[.int .i64 n] 37 (0, 0)))
    (fun W' b hW hb => (as2E_hit k n w.heap.size b (.int .i64 0) _ W' hb (hup (bel_then h hW) hE)).mono (fun e w' h => ⟨true, h.1, h.1, h.2⟩))).mono fun e w' q => by
      obtain ⟨W', hW', q1, q2, q3⟩ := q
      refine ⟨q1, q3, (bel_then (bel_then K2 h) hW').trans (q2.below ?_ (fun j e => by omega))⟩
      have := (bel_then (bel_then K2 h) hW').size
      exact this⟩
  obtain ⟨v0, hv0⟩ : ∃ v0, wrN k (.iface 37 (.int .i64 n)) = v0 := ⟨_, rfl⟩
  rw [hv0] at KA KB ⊢
  clear hg hT K2 hv0 hE
  go_enter Tryd.func17, Tryd.ntmps17
  go_upto_region 3 with (fail)
  rw [← HW.out]
  go_wp2_with fail
  refine KA.out.mono ?_
  rintro e w3 ⟨W, hW, rfl, hK⟩
  have KB1 := Aside.mk (KB.out _ (bel_then hW hK))
  clear hW hK
  go_wp2_with fail
  refine KB1.out.mono ?_
  rintro e w4 ⟨rfl, hh, hB⟩
  have x0 : w4.cell? ⟨w.heap.size, 0, none⟩ = some (.int .i64 n) := by simp [World.cell?, hh]
  have B4 := Aside.mk hB
  clear hh hB
  go_wp2_with fail
  go_ret2
  exact ⟨rfl, B4.out⟩
set_option maxHeartbeats 4000000 in
theorem why_wnil (w : World) (hg : ETy w) : Calls Tryd.prog 17 #[.iface 58 (.agg #[.nilIface])] w (WhyP w 0 0) := by
  obtain ⟨W2, HW⟩ : ∃ W2, Aside (W2 = (w.alloc (.cells #[.int .i64 0] 37)).alloc (.cells #[.pointer none] 54)) := ⟨_, ⟨rfl⟩⟩
  have K2 : Below w.heap.size w W2 := by rw [HW.out]; exact bel_then (bel_one _ _) (bel_one _ _)
  have hT : W2.heap[w.heap.size + 1]? = some (.cells #[.pointer none] 54 (0, 0)) := by
    rw [HW.out]
    have := heap_alloc_new (w.alloc (.cells #[.int .i64 0] 37)) (.cells #[.pointer none] 54)
    simpa using this
  have hE : W2.heap[w.heap.size]? = some (.cells #[.int .i64 0] 37 (0, 0)) := by rw [HW.out]; exact hup (bel_one _ _) (heap_alloc_new w _)
  have KA := Aside.mk (as_ff (wrN 1 .nilIface) (wrN_iface 1 _ (.inl (by omega))) (w.heap.size + 1) W2 (.pointer none) (hg.below K2) hT (fun W e w' => e = .returned (.bool false) ∧ Below W.heap.size W w')
    (fun W b hW hb => (as2F_nil 1 (by omega) (w.heap.size + 1) b (.pointer none) _ W hb (hup hW hT)).mono (fun e w' h => ⟨false, h.1, h.1, h.2⟩)))
  have KB : Aside (∀ W, Below W2.heap.size W2 W → Calls Tryd.prog 27 #[wrN 1 .nilIface, .iface 69 (.pointer (some ⟨w.heap.size, 0, none⟩))] W fun e w' => e = .returned (.bool false) ∧ w'.heap[w.heap.size]? = some (.cells #[.int .i64 0] 37 (0, 0)) ∧ Below w.heap.size w w') := ⟨fun W h => (as_ee (wrN 1 .nilIface) (wrN_iface 1 _ (.inl (by omega))) w.heap.size W (.int .i64 0) (hg.below (bel_then K2 h)) (hup h hE) (fun W e w' => e = .returned (.bool false) ∧ Below W.heap.size W w')
    (fun W' b hW hb => (as2E_nil 1 (by omega) w.heap.size b (.int .i64 0) _ W' hb (hup (bel_then h hW) hE)).mono (fun e w' h => ⟨false, h.1, h.1, h.2⟩))).mono fun e w' q => by
      obtain ⟨W', hW', q1, q2⟩ := q
      exact ⟨q1, hup (bel_then (bel_then h hW') q2) hE, bel_then (bel_then (bel_then K2 h) hW') q2⟩⟩
  rw [show wrN 1 .nilIface = .iface 58 (.agg #[.nilIface]) from rfl] at KA KB
  clear hg hT K2 hE
  go_enter Tryd.func17, Tryd.ntmps17
  go_upto_region 3 with (fail)
  rw [← HW.out]
  go_wp2_with fail
  refine KA.out.mono ?_
  rintro e w3 ⟨W, hW, rfl, hK⟩
  have KB1 := Aside.mk (KB.out _ (bel_then hW hK))
  clear hW hK
  go_wp2_with fail
  refine KB1.out.mono ?_
  rintro e w4 ⟨rfl, hh, hB⟩
  have x0 : w4.cell? ⟨w.heap.size, 0, none⟩ = some (.int .i64 0) := by simp [World.cell?, hh]
  have B4 := Aside.mk hB
  clear hh hB
  go_wp2_with fail
  go_ret2
  exact ⟨rfl, B4.out⟩
end Go.Proofs.YtdfbiofmfjmkaaaDoor
