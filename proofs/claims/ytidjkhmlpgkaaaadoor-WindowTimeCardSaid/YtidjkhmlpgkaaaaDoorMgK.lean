/- Layer 7: how what the rows take reads: the package's variable. -/
import Derived.Test.YtidjkhmlpgkaaaaDoorRows
import Derived.Test.YtidjkhmlpgkaaaaDoorMgM
import Derived.Test.YtidjkhmlpgkaaaaDoorKitR
import Derived.ProofKit
import Derived.OpenShut
import Derived.LaidMore
import Derived.Lay
import Derived.SevenTiedAt
import Derived.Stop.Joined
import Derived.WalkSmall
namespace Go.Proofs.YtidjkhmlpgkaaaaDoor
open Go.ChangeShapes Go.WideShapes Go.ChangeAt Go.RowKit
set_option linter.unusedVariables false
set_option maxRecDepth 100000 in
theorem look_of_laid {W : World} (h : laidMetH Tryd.prog [("purlin/mem.look", Rows.laid_purlin_mem_look)] W) : Look W := by
  rw [MakeChecks.laidMetH_plain _ _ _ (by kernel_rfl)] at h
  obtain ⟨ps, ⟨g, t, cs, fuel, p, q, hg, ht, hv, hd, _, _⟩, _, _⟩ := h
  obtain rfl := Option.some.inj ((show Tryd.prog.globalNamed "purlin/mem.look" = some 0 by kernel_rfl).symm.trans hg)
  obtain rfl := Option.some.inj ((show (Tryd.prog.globals[0]?).map (·.type) = some 163 by kernel_rfl).symm.trans ht)
  obtain ⟨xs, m, _, ex, hlen, hl, hel⟩ := DataW.trod_struct Tryd.underlying163 hd
  have c33 : Tryd.prog.cellsOf 112 = 1 := by kernel_rfl
  have c59 : Tryd.prog.cellsOf 163 = 3 := by kernel_rfl
  rw [c59] at hlen
  obtain ⟨l⟩ := cs
  match l, hlen with
  | [a, b, c], _ =>
    match xs, hl with
    | [x, y, z], _ =>
      have h0 : DataW.trod (fun _ => ()) Tryd.prog W 0 (fun _ => true) false m 112 [a] = some x := by have := hel 0 _ rfl; simpa [c33] using this
      have h1 : DataW.trod (fun _ => ()) Tryd.prog W 0 (fun _ => true) false m 112 [b] = some y := by have := hel 1 _ rfl; simpa [c33] using this
      have h2 : DataW.trod (fun _ => ()) Tryd.prog W 0 (fun _ => true) false m 112 [c] = some z := by have := hel 2 _ rfl; simpa [c33] using this
      obtain ⟨n0, e0, f0, _⟩ := DataW.trod_int Tryd.underlying112 h0
      obtain ⟨n1, e1, f1, _⟩ := DataW.trod_int Tryd.underlying112 h1
      obtain ⟨n2, e2, f2, _⟩ := DataW.trod_int Tryd.underlying112 h2
      simp at e0 e1 e2 f0 f1 f2
      subst e0 e1 e2 f0 f1 f2
      simp [Rows.laid_purlin_mem_look] at ex
      obtain ⟨⟨rfl, rfl, rfl⟩, _⟩ := ex
      exact ⟨by simpa using World.var?_cell hg hv 0, by simpa using World.var?_cell hg hv 1, by simpa using World.var?_cell hg hv 2⟩
end Go.Proofs.YtidjkhmlpgkaaaaDoor
