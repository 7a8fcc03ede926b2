/- Small lemmas of worlds, under names that no other text has. -/
import Derived.Test.YtbphlapdhcgikaaDoorProg
import Derived.Test.YtbphlapdhcgikaaDoorKit
import Derived.Test.YtbphlapdhcgikaaDoorKitR
import Derived.Deep.OwnRows
import Derived.Deep.RegionHeld3
namespace Go.Proofs.YtbphlapdhcgikaaDoor
open Go.RowKit
set_option linter.unusedVariables false
set_option linter.unusedSimpArgs false

theorem lthen {a w w' : World} (h : Below a.heap.size a w) (k : Below w.heap.size w w') : Below a.heap.size a w' := below_then h k
theorem lone (w : World) (x : Obj) : Below w.heap.size w (w.alloc x) := (Below.refl _ _).alloc (Nat.le_refl _) _
theorem lup {a b : World} (h : Below a.heap.size a b) {k : Nat} {o : Obj} (hk : a.heap[k]? = some o) : b.heap[k]? = some o := (h.block k (lt_of_block hk)).trans hk
theorem lbox1 {w : World} {B : Nat} {x0 : Value} {t : TypeId} {fr : Nat × Nat} (h : w.heap[B]? = some (.cells #[x0] t fr)) : w.cell? ⟨B, 0, none⟩ = some x0 := by
  simp [World.cell?, h]
theorem lbox2 {w : World} {B : Nat} {x0 x1 : Value} {t : TypeId} {fr : Nat × Nat} (h : w.heap[B]? = some (.cells #[x0, x1] t fr)) : w.cell? ⟨B, 0, none⟩ = some x0 ∧ w.cell? ⟨B, 1, none⟩ = some x1 := by
  simp [World.cell?, h]
theorem lbox4 {w : World} {B : Nat} {x0 x1 x2 x3 : Value} {t : TypeId} {fr : Nat × Nat} (h : w.heap[B]? = some (.cells #[x0, x1, x2, x3] t fr)) : w.cell? ⟨B, 0, none⟩ = some x0 ∧ w.cell? ⟨B, 1, none⟩ = some x1 ∧ w.cell? ⟨B, 2, none⟩ = some x2 ∧ w.cell? ⟨B, 3, none⟩ = some x3 := by
  simp [World.cell?, h]
theorem lbox5 {w : World} {B : Nat} {x0 x1 x2 x3 x4 : Value} {t : TypeId} {fr : Nat × Nat} (h : w.heap[B]? = some (.cells #[x0, x1, x2, x3, x4] t fr)) : w.cell? ⟨B, 0, none⟩ = some x0 ∧ w.cell? ⟨B, 1, none⟩ = some x1 ∧ w.cell? ⟨B, 2, none⟩ = some x2 ∧ w.cell? ⟨B, 3, none⟩ = some x3 ∧ w.cell? ⟨B, 4, none⟩ = some x4 := by
  simp [World.cell?, h]
theorem lbox6 {w : World} {B : Nat} {x0 x1 x2 x3 x4 x5 : Value} {t : TypeId} {fr : Nat × Nat} (h : w.heap[B]? = some (.cells #[x0, x1, x2, x3, x4, x5] t fr)) : w.cell? ⟨B, 0, none⟩ = some x0 ∧ w.cell? ⟨B, 1, none⟩ = some x1 ∧ w.cell? ⟨B, 2, none⟩ = some x2 ∧ w.cell? ⟨B, 3, none⟩ = some x3 ∧ w.cell? ⟨B, 4, none⟩ = some x4 ∧ w.cell? ⟨B, 5, none⟩ = some x5 := by
  simp [World.cell?, h]
theorem lheap_up {w : World} {o : Obj} {k : Nat} {x : Obj} (h : w.heap[k]? = some x) : (w.alloc o).heap[k]? = some x := ((lone w o).block _ (lt_of_block h)).trans h
theorem lheap_top (w : World) (o : Obj) (n : Nat) (hn : w.heap.size = n) : (w.alloc o).heap[n]? = some o := by subst hn; exact heap_alloc_new _ _
theorem lkeep {a b : World} (h : Below a.heap.size a b) (p : Addr) (v : Value) (hc : World.cell? a p = some v) : World.cell? b p = some v := (Kept.of_below (S := fun _ => False) h).cell hc id
end Go.Proofs.YtbphlapdhcgikaaDoor
