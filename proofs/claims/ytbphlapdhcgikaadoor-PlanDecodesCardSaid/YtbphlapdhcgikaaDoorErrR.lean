/- Errors: the package variable errors.errorType: what the condition gives a walk; a world that meets it. -/
import Derived.Test.YtbphlapdhcgikaaDoorRows
import Derived.Test.YtbphlapdhcgikaaDoorErrA
import Derived.ChangeVars
import Derived.LaidLaws
import Derived.LaidHandle
import Derived.Stop.Joined
namespace Go.Proofs.YtbphlapdhcgikaaDoor
open Go.ChangeShapes Go.WideShapes Go.RowKit
theorem A_et : Tryd.prog.globalNamed "errors.errorType" = some 0 := by kernel_rfl
theorem A_rt : (Tryd.prog.cutTypes.find? (·.1 == "internal/reflectlite.rtype")).map (·.2) = some 133 := by kernel_rfl
theorem A_oneRow : ((List.range 178).filter fun t => Tryd.prog.rowNamed t [101, 114, 114, 111, 114]) = [33] := by kernel_rfl
theorem A_size : Tryd.prog.types.size = 178 := by kernel_rfl
theorem look_of_laid {W : World} (h : laidMetH Tryd.prog [("errors.errorType", Rows.laid_errors_errorType)] W) : ETy W := by
  have h' : laidMet Tryd.prog [] W ∧ handlesMet Tryd.prog [("errors.errorType", Rows.laid_errors_errorType)] W := h
  obtain ⟨name, u, ty, e1, e2, e3, e4, e5⟩ := h'.2 _ (List.mem_singleton.2 rfl)
  have en : name = [101, 114, 114, 111, 114] := (Option.some.inj e1).symm
  subst en
  obtain rfl := Option.some.inj (A_rt.symm.trans e2)
  have hm : ty ∈ (List.range 178).filter fun t => Tryd.prog.rowNamed t [101, 114, 114, 111, 114] := List.mem_filter.2 ⟨List.mem_range.2 (by rw [← A_size]; exact e3), e4⟩
  rw [A_oneRow] at hm
  obtain rfl := List.mem_singleton.1 hm
  have hh : typeHandle Tryd.prog 33 = .pointer (some ⟨1, 33, none⟩) := by kernel_rfl
  rw [hh] at e5
  exact (by simpa using World.var?_cell A_et e5 0 : W.cell? ⟨0, 0, none⟩ = some (.iface 133 (.agg #[.pointer (some ⟨1, 33, none⟩)])))
/-- A world that meets the condition: the settled one, the variable's cell laid. -/
noncomputable def laidWorld (os : Os) : World :=
  let w0 := World.holding Tryd.prog os ⟨#[], #[], []⟩
  { w0 with heap := w0.heap.modify 0 fun
      | .cells _ t frozen => .cells #[.iface 133 (.agg #[.pointer (some ⟨1, 33, none⟩)])] t frozen
      | o => o }
theorem laidWorld_met (os : Os) (args : Array Value) : laidMetH Tryd.prog [("errors.errorType", Rows.laid_errors_errorType)] ((laidWorld os).forCall (fun _ _ => 0) ⟨#[], args, []⟩).memory :=
  laidMetH_of_parts (laidMet_nil _ _) (by kernel_rfl)
end Go.Proofs.YtbphlapdhcgikaaDoor
