/-
  NARROWER THAN 'FOR EVERY INPUT', by the rows' own cells (each row's printed sentence says how): PlanEncodes: laid · PlanDecodes: laid · PlanBack: laid · PlanOne: laid · PlanCut: laid · PlanSames: laid · PlanOwn: laid.
  DERIVED. THE GIVEN ROWS OF THIS SEAT. 7 by the template 'for every input the law returns true; each argument reads behind the call as it read before'; 0 by the template 'total and deterministic' (their statements: YtbphlapdhcgikaaDoorTotals.lean).
  GIVEN WITH THE SEED: the statements are not yours to turn. If you find one false, say at which input.
  Laid BY PROGRAM, IN A SANDBOX (cutbox-rows.mjs): the forced cells as the released guide's own fill.sh prints them over the translation 80d069fb92891bb9… (all of the seat's roots in one cut). By AI agents, Wed Nov 11 2026. No macro, syntax, notation, axiom, sorry.
-/
import Derived.Test.YtbphlapdhcgikaaDoorChecked
import GoSem.Claim
import GoSem.ClaimJoined
import GoSem.ClaimMapViews
import Derived.JoinedTies
import Derived.KernelRfl
namespace Go.Proofs.YtbphlapdhcgikaaDoor
/- THE CELL 'sum', in the pinned program and in every row, IS THE sha256 OF THE DUMP (.gsa) THAT YtbphlapdhcgikaaDoorProg.lean LOADS. Nothing in Lean hashes anything: it is a label: what it is worth is what the hold of that sum in a sandbox is worth. -/
noncomputable def Tryd.pinned : Pinned := { name := "ytbphlapdhcgikaadoor", sum := "80d069fb92891bb90ffcfcacf0c6e221ed79e36d6748f49e7ab07cd78b242c5b", checked := Tryd.checked }
namespace Rows
def none {H : Type} : Left H := { results := [], args := [] }

/- WHAT THE LISTED PACKAGE-LEVEL VARIABLES READ AS WHEN THE CALL BEGINS. Each datum BY PROGRAM (the guide's laid-datum.mjs) off the statement by which the dump's own 'gosem.cut.vars' lays the variable. In a bare row this is a premise. The card (YtbphlapdhcgikaaDoorCards.lean) ties it to the program's text. -/
def laid_errors_errorType {H : Type} : DataW H := .iface "internal/reflectlite.rtype" (.agg [.ptr (.lit (.string [101, 114, 114, 111, 114]))])

/-- 'purlinlaw03.PlanEncodes': WHATEVER THE INPUT: true; the input reads as it did. -/
def planEncodesSpec : ChangeSpec := { name := "planEncodes", fn := fun _ => fun
  | [d] => { results := [.lit (.bool true)], args := [d] }
  | _ => none }
def planEncodesRow : OpenClaim := { program := "ytbphlapdhcgikaadoor", sum := "80d069fb92891bb90ffcfcacf0c6e221ed79e36d6748f49e7ab07cd78b242c5b", func := "purlin/purlinlaw03.PlanEncodes", spec := "planEncodes", inPlace := ["internal/reflectlite.TypeOf", "internal/reflectlite.ValueOf", "(internal/reflectlite.Value).Type", "(internal/reflectlite.Value).IsNil", "(internal/reflectlite.Value).Elem", "(internal/reflectlite.Value).Set"], unfollowed := true, recurses := true, named := ["errors.errorType"], apart := false, laid := [("errors.errorType", laid_errors_errorType)] }
def PlanEncodesSaid : Prop := planEncodesRow.holds Tryd.pinned (OpenSpec.ofChange planEncodesSpec)

/-- ITS FALSE NEIGHBOUR: 'it returns false'. Refute it at one input. -/
def planEncodesWrong : ChangeSpec := { name := "planEncodes", fn := fun _ => fun
  | [d] => { results := [.lit (.bool false)], args := [d] }
  | _ => none }
def PlanEncodesWrongFalsely : Prop := planEncodesRow.holds Tryd.pinned (OpenSpec.ofChange planEncodesWrong)

/-- 'purlinlaw03.PlanDecodes': WHATEVER THE INPUT: true; the input reads as it did. -/
def planDecodesSpec : ChangeSpec := { name := "planDecodes", fn := fun _ => fun
  | [d] => { results := [.lit (.bool true)], args := [d] }
  | _ => none }
def planDecodesRow : OpenClaim := { program := "ytbphlapdhcgikaadoor", sum := "80d069fb92891bb90ffcfcacf0c6e221ed79e36d6748f49e7ab07cd78b242c5b", func := "purlin/purlinlaw03.PlanDecodes", spec := "planDecodes", inPlace := ["internal/reflectlite.TypeOf", "internal/reflectlite.ValueOf", "(internal/reflectlite.Value).Type", "(internal/reflectlite.Value).IsNil", "(internal/reflectlite.Value).Elem", "(internal/reflectlite.Value).Set"], unfollowed := true, recurses := true, named := ["errors.errorType"], apart := false, laid := [("errors.errorType", laid_errors_errorType)] }
def PlanDecodesSaid : Prop := planDecodesRow.holds Tryd.pinned (OpenSpec.ofChange planDecodesSpec)

/-- ITS FALSE NEIGHBOUR: 'it returns false'. Refute it at one input. -/
def planDecodesWrong : ChangeSpec := { name := "planDecodes", fn := fun _ => fun
  | [d] => { results := [.lit (.bool false)], args := [d] }
  | _ => none }
def PlanDecodesWrongFalsely : Prop := planDecodesRow.holds Tryd.pinned (OpenSpec.ofChange planDecodesWrong)

/-- 'purlinlaw03.PlanBack': WHATEVER THE INPUT: true; the input reads as it did. -/
def planBackSpec : ChangeSpec := { name := "planBack", fn := fun _ => fun
  | [d] => { results := [.lit (.bool true)], args := [d] }
  | _ => none }
def planBackRow : OpenClaim := { program := "ytbphlapdhcgikaadoor", sum := "80d069fb92891bb90ffcfcacf0c6e221ed79e36d6748f49e7ab07cd78b242c5b", func := "purlin/purlinlaw03.PlanBack", spec := "planBack", inPlace := ["internal/reflectlite.TypeOf", "internal/reflectlite.ValueOf", "(internal/reflectlite.Value).Type", "(internal/reflectlite.Value).IsNil", "(internal/reflectlite.Value).Elem", "(internal/reflectlite.Value).Set"], unfollowed := true, recurses := true, named := ["errors.errorType"], apart := false, laid := [("errors.errorType", laid_errors_errorType)] }
def PlanBackSaid : Prop := planBackRow.holds Tryd.pinned (OpenSpec.ofChange planBackSpec)

/-- ITS FALSE NEIGHBOUR: 'it returns false'. Refute it at one input. -/
def planBackWrong : ChangeSpec := { name := "planBack", fn := fun _ => fun
  | [d] => { results := [.lit (.bool false)], args := [d] }
  | _ => none }
def PlanBackWrongFalsely : Prop := planBackRow.holds Tryd.pinned (OpenSpec.ofChange planBackWrong)

/-- 'purlinlaw03.PlanOne': WHATEVER THE INPUT: true; the input reads as it did. -/
def planOneSpec : ChangeSpec := { name := "planOne", fn := fun _ => fun
  | [d] => { results := [.lit (.bool true)], args := [d] }
  | _ => none }
def planOneRow : OpenClaim := { program := "ytbphlapdhcgikaadoor", sum := "80d069fb92891bb90ffcfcacf0c6e221ed79e36d6748f49e7ab07cd78b242c5b", func := "purlin/purlinlaw03.PlanOne", spec := "planOne", inPlace := ["internal/reflectlite.TypeOf", "internal/reflectlite.ValueOf", "(internal/reflectlite.Value).Type", "(internal/reflectlite.Value).IsNil", "(internal/reflectlite.Value).Elem", "(internal/reflectlite.Value).Set"], unfollowed := true, recurses := true, named := ["errors.errorType"], apart := false, laid := [("errors.errorType", laid_errors_errorType)] }
def PlanOneSaid : Prop := planOneRow.holds Tryd.pinned (OpenSpec.ofChange planOneSpec)

/-- ITS FALSE NEIGHBOUR: 'it returns false'. Refute it at one input. -/
def planOneWrong : ChangeSpec := { name := "planOne", fn := fun _ => fun
  | [d] => { results := [.lit (.bool false)], args := [d] }
  | _ => none }
def PlanOneWrongFalsely : Prop := planOneRow.holds Tryd.pinned (OpenSpec.ofChange planOneWrong)

/-- 'purlinlaw03.PlanCut': WHATEVER THE INPUT: true; the input reads as it did. -/
def planCutSpec : ChangeSpec := { name := "planCut", fn := fun _ => fun
  | [d1, d2, d3] => { results := [.lit (.bool true)], args := [d1, d2, d3] }
  | _ => none }
def planCutRow : OpenClaim := { program := "ytbphlapdhcgikaadoor", sum := "80d069fb92891bb90ffcfcacf0c6e221ed79e36d6748f49e7ab07cd78b242c5b", func := "purlin/purlinlaw03.PlanCut", spec := "planCut", inPlace := ["internal/reflectlite.TypeOf", "internal/reflectlite.ValueOf", "(internal/reflectlite.Value).Type", "(internal/reflectlite.Value).IsNil", "(internal/reflectlite.Value).Elem", "(internal/reflectlite.Value).Set"], unfollowed := true, recurses := true, named := ["errors.errorType"], apart := false, laid := [("errors.errorType", laid_errors_errorType)] }
def PlanCutSaid : Prop := planCutRow.holds Tryd.pinned (OpenSpec.ofChange planCutSpec)

/-- ITS FALSE NEIGHBOUR: 'it returns false'. Refute it at one input. -/
def planCutWrong : ChangeSpec := { name := "planCut", fn := fun _ => fun
  | [d1, d2, d3] => { results := [.lit (.bool false)], args := [d1, d2, d3] }
  | _ => none }
def PlanCutWrongFalsely : Prop := planCutRow.holds Tryd.pinned (OpenSpec.ofChange planCutWrong)

/-- 'purlinlaw03.PlanSames': WHATEVER THE INPUT: true; the input reads as it did. -/
def planSamesSpec : ChangeSpec := { name := "planSames", fn := fun _ => fun
  | [d1, d2] => { results := [.lit (.bool true)], args := [d1, d2] }
  | _ => none }
def planSamesRow : OpenClaim := { program := "ytbphlapdhcgikaadoor", sum := "80d069fb92891bb90ffcfcacf0c6e221ed79e36d6748f49e7ab07cd78b242c5b", func := "purlin/purlinlaw03.PlanSames", spec := "planSames", inPlace := ["internal/reflectlite.TypeOf", "internal/reflectlite.ValueOf", "(internal/reflectlite.Value).Type", "(internal/reflectlite.Value).IsNil", "(internal/reflectlite.Value).Elem", "(internal/reflectlite.Value).Set"], unfollowed := true, recurses := true, named := ["errors.errorType"], apart := false, laid := [("errors.errorType", laid_errors_errorType)] }
def PlanSamesSaid : Prop := planSamesRow.holds Tryd.pinned (OpenSpec.ofChange planSamesSpec)

/-- ITS FALSE NEIGHBOUR: 'it returns false'. Refute it at one input. -/
def planSamesWrong : ChangeSpec := { name := "planSames", fn := fun _ => fun
  | [d1, d2] => { results := [.lit (.bool false)], args := [d1, d2] }
  | _ => none }
def PlanSamesWrongFalsely : Prop := planSamesRow.holds Tryd.pinned (OpenSpec.ofChange planSamesWrong)

/-- 'purlinlaw03.PlanOwn': WHATEVER THE INPUT: true; the input reads as it did. -/
def planOwnSpec : ChangeSpec := { name := "planOwn", fn := fun _ => fun
  | [d] => { results := [.lit (.bool true)], args := [d] }
  | _ => none }
def planOwnRow : OpenClaim := { program := "ytbphlapdhcgikaadoor", sum := "80d069fb92891bb90ffcfcacf0c6e221ed79e36d6748f49e7ab07cd78b242c5b", func := "purlin/purlinlaw03.PlanOwn", spec := "planOwn", inPlace := ["internal/reflectlite.TypeOf", "internal/reflectlite.ValueOf", "(internal/reflectlite.Value).Type", "(internal/reflectlite.Value).IsNil", "(internal/reflectlite.Value).Elem", "(internal/reflectlite.Value).Set"], unfollowed := true, recurses := true, named := ["errors.errorType"], apart := false, laid := [("errors.errorType", laid_errors_errorType)] }
def PlanOwnSaid : Prop := planOwnRow.holds Tryd.pinned (OpenSpec.ofChange planOwnSpec)

/-- ITS FALSE NEIGHBOUR: 'it returns false'. Refute it at one input. -/
def planOwnWrong : ChangeSpec := { name := "planOwn", fn := fun _ => fun
  | [d] => { results := [.lit (.bool false)], args := [d] }
  | _ => none }
def PlanOwnWrongFalsely : Prop := planOwnRow.holds Tryd.pinned (OpenSpec.ofChange planOwnWrong)

/- THE SECOND FORM. 'bulk': how many values and letters a reading holds, each counted each time it is reached (what is shared counts as often as it is met; a slice's spare places count too). A statement '..UptoSaid' is the law's where the arguments, and the package variables that the reading takes, are together of bulk at most 1048576: NARROWER than '..Said'. Prove '..Said' where nothing that the law and all that it calls make is longer than what came in: it says more and counts as full. Else prove '..UptoSaid'. A law counts once. -/
mutual
def uptoBulk {H : Type} : DataW H → Nat
  | .lit (.string bytes) => bytes.length + 1
  | .lit _ => 1
  | .nil => 1
  | .ptr d => uptoBulk d + 1
  | .slice elems spare => uptoBulkAll elems + uptoBulkAll spare + 1
  | .agg parts => uptoBulkAll parts + 1
  | .iface _ d => uptoBulk d + 1
  | .map entries => uptoBulkEntries entries + 1
  | .held _ => 1
def uptoBulkAll {H : Type} : List (DataW H) → Nat
  | [] => 0
  | d :: r => uptoBulk d + uptoBulkAll r
def uptoBulkEntries {H : Type} : List (Lit × DataW H) → Nat
  | [] => 0
  | x :: r => uptoBulkEntry x + uptoBulkEntries r
def uptoBulkEntry {H : Type} : Lit × DataW H → Nat
  | (.string bytes, d) => bytes.length + uptoBulk d + 1
  | (_, d) => uptoBulk d + 1
 end
def uptoSmall : (H : Type) → List (DataW H) → Bool := fun _ ds => decide (uptoBulkAll ds ≤ 1048576)
def OpenSpec.upto (s : _root_.Go.ChangeSpec) : _root_.Go.OpenSpec := { _root_.Go.OpenSpec.ofChange s with cond := some uptoSmall }

/-- 'purlinlaw03.PlanEncodes', WHERE WHAT IT READS IS OF BULK AT MOST 1048576: true; the input reads as it did. -/
def planEncodesUptoRow : OpenClaim := { program := "ytbphlapdhcgikaadoor", sum := "80d069fb92891bb90ffcfcacf0c6e221ed79e36d6748f49e7ab07cd78b242c5b", func := "purlin/purlinlaw03.PlanEncodes", spec := "planEncodes", inPlace := ["internal/reflectlite.TypeOf", "internal/reflectlite.ValueOf", "(internal/reflectlite.Value).Type", "(internal/reflectlite.Value).IsNil", "(internal/reflectlite.Value).Elem", "(internal/reflectlite.Value).Set"], unfollowed := true, recurses := true, named := ["errors.errorType"], apart := false, laid := [("errors.errorType", laid_errors_errorType)], narrowed := true }
def PlanEncodesUptoSaid : Prop := planEncodesUptoRow.holds Tryd.pinned (OpenSpec.upto planEncodesSpec)

/-- 'purlinlaw03.PlanDecodes', WHERE WHAT IT READS IS OF BULK AT MOST 1048576: true; the input reads as it did. -/
def planDecodesUptoRow : OpenClaim := { program := "ytbphlapdhcgikaadoor", sum := "80d069fb92891bb90ffcfcacf0c6e221ed79e36d6748f49e7ab07cd78b242c5b", func := "purlin/purlinlaw03.PlanDecodes", spec := "planDecodes", inPlace := ["internal/reflectlite.TypeOf", "internal/reflectlite.ValueOf", "(internal/reflectlite.Value).Type", "(internal/reflectlite.Value).IsNil", "(internal/reflectlite.Value).Elem", "(internal/reflectlite.Value).Set"], unfollowed := true, recurses := true, named := ["errors.errorType"], apart := false, laid := [("errors.errorType", laid_errors_errorType)], narrowed := true }
def PlanDecodesUptoSaid : Prop := planDecodesUptoRow.holds Tryd.pinned (OpenSpec.upto planDecodesSpec)

/-- 'purlinlaw03.PlanBack', WHERE WHAT IT READS IS OF BULK AT MOST 1048576: true; the input reads as it did. -/
def planBackUptoRow : OpenClaim := { program := "ytbphlapdhcgikaadoor", sum := "80d069fb92891bb90ffcfcacf0c6e221ed79e36d6748f49e7ab07cd78b242c5b", func := "purlin/purlinlaw03.PlanBack", spec := "planBack", inPlace := ["internal/reflectlite.TypeOf", "internal/reflectlite.ValueOf", "(internal/reflectlite.Value).Type", "(internal/reflectlite.Value).IsNil", "(internal/reflectlite.Value).Elem", "(internal/reflectlite.Value).Set"], unfollowed := true, recurses := true, named := ["errors.errorType"], apart := false, laid := [("errors.errorType", laid_errors_errorType)], narrowed := true }
def PlanBackUptoSaid : Prop := planBackUptoRow.holds Tryd.pinned (OpenSpec.upto planBackSpec)

/-- 'purlinlaw03.PlanOne', WHERE WHAT IT READS IS OF BULK AT MOST 1048576: true; the input reads as it did. -/
def planOneUptoRow : OpenClaim := { program := "ytbphlapdhcgikaadoor", sum := "80d069fb92891bb90ffcfcacf0c6e221ed79e36d6748f49e7ab07cd78b242c5b", func := "purlin/purlinlaw03.PlanOne", spec := "planOne", inPlace := ["internal/reflectlite.TypeOf", "internal/reflectlite.ValueOf", "(internal/reflectlite.Value).Type", "(internal/reflectlite.Value).IsNil", "(internal/reflectlite.Value).Elem", "(internal/reflectlite.Value).Set"], unfollowed := true, recurses := true, named := ["errors.errorType"], apart := false, laid := [("errors.errorType", laid_errors_errorType)], narrowed := true }
def PlanOneUptoSaid : Prop := planOneUptoRow.holds Tryd.pinned (OpenSpec.upto planOneSpec)

/-- 'purlinlaw03.PlanCut', WHERE WHAT IT READS IS OF BULK AT MOST 1048576: true; the input reads as it did. -/
def planCutUptoRow : OpenClaim := { program := "ytbphlapdhcgikaadoor", sum := "80d069fb92891bb90ffcfcacf0c6e221ed79e36d6748f49e7ab07cd78b242c5b", func := "purlin/purlinlaw03.PlanCut", spec := "planCut", inPlace := ["internal/reflectlite.TypeOf", "internal/reflectlite.ValueOf", "(internal/reflectlite.Value).Type", "(internal/reflectlite.Value).IsNil", "(internal/reflectlite.Value).Elem", "(internal/reflectlite.Value).Set"], unfollowed := true, recurses := true, named := ["errors.errorType"], apart := false, laid := [("errors.errorType", laid_errors_errorType)], narrowed := true }
def PlanCutUptoSaid : Prop := planCutUptoRow.holds Tryd.pinned (OpenSpec.upto planCutSpec)

/-- 'purlinlaw03.PlanSames', WHERE WHAT IT READS IS OF BULK AT MOST 1048576: true; the input reads as it did. -/
def planSamesUptoRow : OpenClaim := { program := "ytbphlapdhcgikaadoor", sum := "80d069fb92891bb90ffcfcacf0c6e221ed79e36d6748f49e7ab07cd78b242c5b", func := "purlin/purlinlaw03.PlanSames", spec := "planSames", inPlace := ["internal/reflectlite.TypeOf", "internal/reflectlite.ValueOf", "(internal/reflectlite.Value).Type", "(internal/reflectlite.Value).IsNil", "(internal/reflectlite.Value).Elem", "(internal/reflectlite.Value).Set"], unfollowed := true, recurses := true, named := ["errors.errorType"], apart := false, laid := [("errors.errorType", laid_errors_errorType)], narrowed := true }
def PlanSamesUptoSaid : Prop := planSamesUptoRow.holds Tryd.pinned (OpenSpec.upto planSamesSpec)

/-- 'purlinlaw03.PlanOwn', WHERE WHAT IT READS IS OF BULK AT MOST 1048576: true; the input reads as it did. -/
def planOwnUptoRow : OpenClaim := { program := "ytbphlapdhcgikaadoor", sum := "80d069fb92891bb90ffcfcacf0c6e221ed79e36d6748f49e7ab07cd78b242c5b", func := "purlin/purlinlaw03.PlanOwn", spec := "planOwn", inPlace := ["internal/reflectlite.TypeOf", "internal/reflectlite.ValueOf", "(internal/reflectlite.Value).Type", "(internal/reflectlite.Value).IsNil", "(internal/reflectlite.Value).Elem", "(internal/reflectlite.Value).Set"], unfollowed := true, recurses := true, named := ["errors.errorType"], apart := false, laid := [("errors.errorType", laid_errors_errorType)], narrowed := true }
def PlanOwnUptoSaid : Prop := planOwnUptoRow.holds Tryd.pinned (OpenSpec.upto planOwnSpec)

end Rows
end Go.Proofs.YtbphlapdhcgikaaDoor
