/- Layer 2: Why of no error, of a Failure. -/
import Derived.Test.YtdfbiofmfjmkaaaDoorBlbE
namespace Go.Proofs.YtdfbiofmfjmkaaaDoor
open Go.RowKit
set_option linter.unusedVariables false
set_option linter.unusedSimpArgs false

def numQ (q : Option (Nat × Int)) : Int := match q with | none => 0 | some (_, n) => n
def atQ (q : Option (Nat × Int)) : Nat := match q with | none => 0 | some (a, _) => a
/-- A value that is an error of a Failure, or none. -/
def ErrV (w : World) (q : Option (Nat × Int)) (v : Value) : Prop := match q with
  | none => v = .nilIface
  | some (a, n) => ∃ f, v = .iface 54 (.pointer (some ⟨f, 0, none⟩)) ∧ w.heap[f]? = some (.cells #[.int .i64 a, .int .i64 n] 56 (0, 0))
theorem ErrP.val {w : World} {q : Option (Nat × Int)} {e : Ending} {w' : World} (h : ErrP w q e w') : ∃ v, e = .returned v ∧ ErrV w' q v ∧ Below w.heap.size w w' := by
  obtain ⟨b, h⟩ := h
  cases q with
  | none => exact ⟨_, h, rfl, b⟩
  | some x => obtain ⟨f, rfl, _, h⟩ := h; exact ⟨_, rfl, ⟨f, rfl, h⟩, b⟩
def WhyP (w : World) (n a : Int) (e : Ending) (w' : World) : Prop := e = .returned (.tuple #[.int .i64 n, .int .i64 a]) ∧ Below w.heap.size w w'
set_option maxHeartbeats 4000000 in
theorem why_any (w : World) (q : Option (Nat × Int)) (v : Value) (hv : ErrV w q v) (hg : ETy w) : Calls Tryd.prog 17 #[v] w (WhyP w (numQ q) (atQ q)) := by
  cases q with
  | none =>
    obtain rfl : v = .nilIface := hv
    go_enter Tryd.func17, Tryd.ntmps17
    go_wp2_with fail
    refine (as_nil _ _).mono ?_
    rintro e w2 ⟨rfl, rfl⟩
    go_wp2_with fail
    refine (as_nil _ _).mono ?_
    rintro e w3 ⟨rfl, rfl⟩
    go_wp2_with fail
    go_ret2
    exact ⟨rfl, bel_then (bel_one _ _) (bel_one _ _)⟩
  | some x =>
    obtain ⟨a, n⟩ := x
    obtain ⟨f, rfl, hf⟩ := hv
    obtain ⟨W2, HW⟩ : ∃ W2, Aside (W2 = (w.alloc (.cells #[.int .i64 0] 37)).alloc (.cells #[.pointer none] 54)) := ⟨_, ⟨rfl⟩⟩
    have K2 : Below w.heap.size w W2 := by rw [HW.out]; exact bel_then (bel_one _ _) (bel_one _ _)
    have hT : W2.heap[w.heap.size + 1]? = some (.cells #[.pointer none] 54 (0, 0)) := by
      rw [HW.out]
      have := heap_alloc_new (w.alloc (.cells #[.int .i64 0] 37)) (.cells #[.pointer none] 54)
      simpa using this
    have KA := Aside.mk (as_ff (.iface 54 (.pointer (some ⟨f, 0, none⟩))) ⟨_, _, rfl⟩ (w.heap.size + 1) W2 (.pointer none) (hg.below K2) hT (fun W e w' => e = .returned (.bool true) ∧ Kept (fun j => j = w.heap.size + 1) W w' ∧ w'.heap[w.heap.size + 1]? = some (.cells #[.pointer (some ⟨f, 0, none⟩)] 54 (0, 0)))
      (fun W b hW hb => (as2_hit ⟨f, 0, none⟩ (w.heap.size + 1) b (.pointer none) _ W hb (hup hW hT)).mono (fun e w' h => ⟨true, h.1, h.1, h.2⟩)))
    have HF := Aside.mk (And.intro K2 (hup K2 hf))
    have FL := Aside.mk (lt_of_block hf)
    clear hf hg hT K2
    go_enter Tryd.func17, Tryd.ntmps17
    go_upto_region 3 with (fail)
    rw [← HW.out]
    go_wp2_with fail
    refine KA.out.mono ?_
    rintro e w3 ⟨W, hW, rfl, hK, hT⟩
    have hne : f ≠ w.heap.size + 1 := by have := FL.out; omega
    obtain ⟨y0, y1⟩ := box2 (hK.heap (hup hW HF.out.2) hne)
    have t0 : w3.cell? ⟨w.heap.size + 1, 0, none⟩ = some (.pointer (some ⟨f, 0, none⟩)) := by simp [World.cell?, hT]
    have B3 : Below w.heap.size w w3 := HF.out.1.trans ((Below.refl W2.heap.size W2 |>.trans hW).mono (by have := HF.out.1.size; omega) |>.trans (hK.below (by have := HF.out.1.size; have := hW.size; omega) (fun j e => by omega)))
    have B3 := Aside.mk B3
    clear hT hK hW hne
    go_upto_region 4 with (fail)
    go_quiet (fail)
    go_wp2_with fail
    go_ret2
    exact ⟨rfl, bel_then B3.out (below_drewN _ _)⟩
end Go.Proofs.YtdfbiofmfjmkaaaDoor