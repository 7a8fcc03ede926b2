/-
  NARROWER THAN 'FOR EVERY INPUT', by the rows' own cells (each row's printed sentence says how): WindowInside: laid · WindowApart: laid · WindowGang: laid · WindowTime: laid · WindowPlays: laid · WindowPlans: laid.
  DERIVED. THE GIVEN ROWS OF THIS SEAT. 6 by the template 'for every input the law returns true; each argument reads behind the call as it read before'; 0 by the template 'total and deterministic' (their statements: YtidjkhmlpgkaaaaDoorTotals.lean).
  GIVEN WITH THE SEED: the statements are not yours to turn. If you find one false, say at which input.
  Laid BY PROGRAM, IN A SANDBOX (cutbox-rows.mjs): the forced cells as the released guide's own fill.sh prints them over the translation 6eccef4b4f9f9cc3… (all of the seat's roots in one cut). By AI agents, Wed Nov 11 2026. No macro, syntax, notation, axiom, sorry.
-/
import Derived.Test.YtidjkhmlpgkaaaaDoorChecked
import GoSem.Claim
import GoSem.ClaimJoined
import GoSem.ClaimMapViews
import Derived.JoinedTies
import Derived.KernelRfl
namespace Go.Proofs.YtidjkhmlpgkaaaaDoor
/- THE CELL 'sum', in the pinned program and in every row, IS THE sha256 OF THE DUMP (.gsa) THAT YtidjkhmlpgkaaaaDoorProg.lean LOADS. Nothing in Lean hashes anything: it is a label: what it is worth is what the hold of that sum in a sandbox is worth. -/
noncomputable def Tryd.pinned : Pinned := { name := "ytidjkhmlpgkaaaadoor", sum := "6eccef4b4f9f9cc3187cbeee3a493593a0d3cd8f6ca867bf6a36770c5ac52c9f", checked := Tryd.checked }
namespace Rows
def none {H : Type} : Left H := { results := [], args := [] }

/- WHAT THE LISTED PACKAGE-LEVEL VARIABLES READ AS WHEN THE CALL BEGINS. Each datum BY PROGRAM (the guide's laid-datum.mjs) off the statement by which the dump's own 'gosem.cut.vars' lays the variable. In a bare row this is a premise. The card (YtidjkhmlpgkaaaaDoorCards.lean) ties it to the program's text. -/
def laid_purlin_mem_look {H : Type} : DataW H := .agg [.lit (.int .u32 4294967295), .lit (.int .u32 0), .lit (.int .u32 0)]

/-- 'purlinlaw24.WindowInside': WHATEVER THE INPUT: true; the input reads as it did. -/
def windowInsideSpec : ChangeSpec := { name := "windowInside", fn := fun _ => fun
  | [d1, d2] => { results := [.lit (.bool true)], args := [d1, d2] }
  | _ => none }
def windowInsideRow : OpenClaim := { program := "ytidjkhmlpgkaaaadoor", sum := "6eccef4b4f9f9cc3187cbeee3a493593a0d3cd8f6ca867bf6a36770c5ac52c9f", func := "purlin/purlinlaw24.WindowInside", spec := "windowInside", inPlace := ["internal/reflectlite.TypeOf"], unfollowed := true, recurses := true, named := ["purlin/mem.look"], apart := false, laid := [("purlin/mem.look", laid_purlin_mem_look)] }
def WindowInsideSaid : Prop := windowInsideRow.holds Tryd.pinned (OpenSpec.ofChange windowInsideSpec)

/-- ITS FALSE NEIGHBOUR: 'it returns false'. Refute it at one input. -/
def windowInsideWrong : ChangeSpec := { name := "windowInside", fn := fun _ => fun
  | [d1, d2] => { results := [.lit (.bool false)], args := [d1, d2] }
  | _ => none }
def WindowInsideWrongFalsely : Prop := windowInsideRow.holds Tryd.pinned (OpenSpec.ofChange windowInsideWrong)

/-- 'purlinlaw24.WindowApart': WHATEVER THE INPUT: true; the input reads as it did. -/
def windowApartSpec : ChangeSpec := { name := "windowApart", fn := fun _ => fun
  | [d1, d2] => { results := [.lit (.bool true)], args := [d1, d2] }
  | _ => none }
def windowApartRow : OpenClaim := { program := "ytidjkhmlpgkaaaadoor", sum := "6eccef4b4f9f9cc3187cbeee3a493593a0d3cd8f6ca867bf6a36770c5ac52c9f", func := "purlin/purlinlaw24.WindowApart", spec := "windowApart", inPlace := ["internal/reflectlite.TypeOf"], unfollowed := true, recurses := true, named := ["purlin/mem.look"], apart := false, laid := [("purlin/mem.look", laid_purlin_mem_look)] }
def WindowApartSaid : Prop := windowApartRow.holds Tryd.pinned (OpenSpec.ofChange windowApartSpec)

/-- ITS FALSE NEIGHBOUR: 'it returns false'. Refute it at one input. -/
def windowApartWrong : ChangeSpec := { name := "windowApart", fn := fun _ => fun
  | [d1, d2] => { results := [.lit (.bool false)], args := [d1, d2] }
  | _ => none }
def WindowApartWrongFalsely : Prop := windowApartRow.holds Tryd.pinned (OpenSpec.ofChange windowApartWrong)

/-- 'purlinlaw24.WindowGang': WHATEVER THE INPUT: true; the input reads as it did. -/
def windowGangSpec : ChangeSpec := { name := "windowGang", fn := fun _ => fun
  | [d1, d2] => { results := [.lit (.bool true)], args := [d1, d2] }
  | _ => none }
def windowGangRow : OpenClaim := { program := "ytidjkhmlpgkaaaadoor", sum := "6eccef4b4f9f9cc3187cbeee3a493593a0d3cd8f6ca867bf6a36770c5ac52c9f", func := "purlin/purlinlaw24.WindowGang", spec := "windowGang", inPlace := ["internal/reflectlite.TypeOf"], unfollowed := true, recurses := true, named := ["purlin/mem.look"], apart := false, laid := [("purlin/mem.look", laid_purlin_mem_look)] }
def WindowGangSaid : Prop := windowGangRow.holds Tryd.pinned (OpenSpec.ofChange windowGangSpec)

/-- ITS FALSE NEIGHBOUR: 'it returns false'. Refute it at one input. -/
def windowGangWrong : ChangeSpec := { name := "windowGang", fn := fun _ => fun
  | [d1, d2] => { results := [.lit (.bool false)], args := [d1, d2] }
  | _ => none }
def WindowGangWrongFalsely : Prop := windowGangRow.holds Tryd.pinned (OpenSpec.ofChange windowGangWrong)

/-- 'purlinlaw24.WindowTime': WHATEVER THE INPUT: true; the input reads as it did. -/
def windowTimeSpec : ChangeSpec := { name := "windowTime", fn := fun _ => fun
  | [d1, d2] => { results := [.lit (.bool true)], args := [d1, d2] }
  | _ => none }
def windowTimeRow : OpenClaim := { program := "ytidjkhmlpgkaaaadoor", sum := "6eccef4b4f9f9cc3187cbeee3a493593a0d3cd8f6ca867bf6a36770c5ac52c9f", func := "purlin/purlinlaw24.WindowTime", spec := "windowTime", inPlace := ["internal/reflectlite.TypeOf"], unfollowed := true, recurses := true, named := ["purlin/mem.look"], apart := false, laid := [("purlin/mem.look", laid_purlin_mem_look)] }
def WindowTimeSaid : Prop := windowTimeRow.holds Tryd.pinned (OpenSpec.ofChange windowTimeSpec)

/-- ITS FALSE NEIGHBOUR: 'it returns false'. Refute it at one input. -/
def windowTimeWrong : ChangeSpec := { name := "windowTime", fn := fun _ => fun
  | [d1, d2] => { results := [.lit (.bool false)], args := [d1, d2] }
  | _ => none }
def WindowTimeWrongFalsely : Prop := windowTimeRow.holds Tryd.pinned (OpenSpec.ofChange windowTimeWrong)

/-- 'purlinlaw24.WindowPlays': WHATEVER THE INPUT: true; the input reads as it did. -/
def windowPlaysSpec : ChangeSpec := { name := "windowPlays", fn := fun _ => fun
  | [d1, d2] => { results := [.lit (.bool true)], args := [d1, d2] }
  | _ => none }
def windowPlaysRow : OpenClaim := { program := "ytidjkhmlpgkaaaadoor", sum := "6eccef4b4f9f9cc3187cbeee3a493593a0d3cd8f6ca867bf6a36770c5ac52c9f", func := "purlin/purlinlaw24.WindowPlays", spec := "windowPlays", inPlace := ["internal/reflectlite.TypeOf"], unfollowed := true, recurses := true, named := ["purlin/mem.look"], apart := false, laid := [("purlin/mem.look", laid_purlin_mem_look)] }
def WindowPlaysSaid : Prop := windowPlaysRow.holds Tryd.pinned (OpenSpec.ofChange windowPlaysSpec)

/-- ITS FALSE NEIGHBOUR: 'it returns false'. Refute it at one input. -/
def windowPlaysWrong : ChangeSpec := { name := "windowPlays", fn := fun _ => fun
  | [d1, d2] => { results := [.lit (.bool false)], args := [d1, d2] }
  | _ => none }
def WindowPlaysWrongFalsely : Prop := windowPlaysRow.holds Tryd.pinned (OpenSpec.ofChange windowPlaysWrong)

/-- 'purlinlaw24.WindowPlans': WHATEVER THE INPUT: true; the input reads as it did. -/
def windowPlansSpec : ChangeSpec := { name := "windowPlans", fn := fun _ => fun
  | [d] => { results := [.lit (.bool true)], args := [d] }
  | _ => none }
def windowPlansRow : OpenClaim := { program := "ytidjkhmlpgkaaaadoor", sum := "6eccef4b4f9f9cc3187cbeee3a493593a0d3cd8f6ca867bf6a36770c5ac52c9f", func := "purlin/purlinlaw24.WindowPlans", spec := "windowPlans", inPlace := ["internal/reflectlite.TypeOf"], unfollowed := true, recurses := true, named := ["purlin/mem.look"], apart := false, laid := [("purlin/mem.look", laid_purlin_mem_look)] }
def WindowPlansSaid : Prop := windowPlansRow.holds Tryd.pinned (OpenSpec.ofChange windowPlansSpec)

/-- ITS FALSE NEIGHBOUR: 'it returns false'. Refute it at one input. -/
def windowPlansWrong : ChangeSpec := { name := "windowPlans", fn := fun _ => fun
  | [d] => { results := [.lit (.bool false)], args := [d] }
  | _ => none }
def WindowPlansWrongFalsely : Prop := windowPlansRow.holds Tryd.pinned (OpenSpec.ofChange windowPlansWrong)

/- THE SECOND FORM. 'bulk': how many values and letters a reading holds, each counted each time it is reached (what is shared counts as often as it is met; a slice's spare places count too). A statement '..UptoSaid' is the law's where the arguments, and the package variables that the reading takes, are together of bulk at most 1048576: NARROWER than '..Said'. Prove '..Said' where nothing that the law and all that it calls make is longer than what came in: it says more and counts as full. Else prove '..UptoSaid'. A law counts once. -/
mutual
def uptoBulk {H : Type} : DataW H → Nat
  | .lit (.string bytes) => bytes.length + 1
  | .lit _ => 1
  | .nil => 1
  | .ptr d => uptoBulk d + 1
  | .slice elems spare => uptoBulkAll elems + uptoBulkAll spare + 1
  | .agg parts => uptoBulkAll parts + 1
  | .iface _ d => uptoBulk d + 1
  | .map entries => uptoBulkEntries entries + 1
  | .held _ => 1
def uptoBulkAll {H : Type} : List (DataW H) → Nat
  | [] => 0
  | d :: r => uptoBulk d + uptoBulkAll r
def uptoBulkEntries {H : Type} : List (Lit × DataW H) → Nat
  | [] => 0
  | x :: r => uptoBulkEntry x + uptoBulkEntries r
def uptoBulkEntry {H : Type} : Lit × DataW H → Nat
  | (.string bytes, d) => bytes.length + uptoBulk d + 1
  | (_, d) => uptoBulk d + 1
 end
def uptoSmall : (H : Type) → List (DataW H) → Bool := fun _ ds => decide (uptoBulkAll ds ≤ 1048576)
def OpenSpec.upto (s : _root_.Go.ChangeSpec) : _root_.Go.OpenSpec := { _root_.Go.OpenSpec.ofChange s with cond := some uptoSmall }

/-- 'purlinlaw24.WindowInside', WHERE WHAT IT READS IS OF BULK AT MOST 1048576: true; the input reads as it did. -/
def windowInsideUptoRow : OpenClaim := { program := "ytidjkhmlpgkaaaadoor", sum := "6eccef4b4f9f9cc3187cbeee3a493593a0d3cd8f6ca867bf6a36770c5ac52c9f", func := "purlin/purlinlaw24.WindowInside", spec := "windowInside", inPlace := ["internal/reflectlite.TypeOf"], unfollowed := true, recurses := true, named := ["purlin/mem.look"], apart := false, laid := [("purlin/mem.look", laid_purlin_mem_look)], narrowed := true }
def WindowInsideUptoSaid : Prop := windowInsideUptoRow.holds Tryd.pinned (OpenSpec.upto windowInsideSpec)

/-- 'purlinlaw24.WindowApart', WHERE WHAT IT READS IS OF BULK AT MOST 1048576: true; the input reads as it did. -/
def windowApartUptoRow : OpenClaim := { program := "ytidjkhmlpgkaaaadoor", sum := "6eccef4b4f9f9cc3187cbeee3a493593a0d3cd8f6ca867bf6a36770c5ac52c9f", func := "purlin/purlinlaw24.WindowApart", spec := "windowApart", inPlace := ["internal/reflectlite.TypeOf"], unfollowed := true, recurses := true, named := ["purlin/mem.look"], apart := false, laid := [("purlin/mem.look", laid_purlin_mem_look)], narrowed := true }
def WindowApartUptoSaid : Prop := windowApartUptoRow.holds Tryd.pinned (OpenSpec.upto windowApartSpec)

/-- 'purlinlaw24.WindowGang', WHERE WHAT IT READS IS OF BULK AT MOST 1048576: true; the input reads as it did. -/
def windowGangUptoRow : OpenClaim := { program := "ytidjkhmlpgkaaaadoor", sum := "6eccef4b4f9f9cc3187cbeee3a493593a0d3cd8f6ca867bf6a36770c5ac52c9f", func := "purlin/purlinlaw24.WindowGang", spec := "windowGang", inPlace := ["internal/reflectlite.TypeOf"], unfollowed := true, recurses := true, named := ["purlin/mem.look"], apart := false, laid := [("purlin/mem.look", laid_purlin_mem_look)], narrowed := true }
def WindowGangUptoSaid : Prop := windowGangUptoRow.holds Tryd.pinned (OpenSpec.upto windowGangSpec)

/-- 'purlinlaw24.WindowTime', WHERE WHAT IT READS IS OF BULK AT MOST 1048576: true; the input reads as it did. -/
def windowTimeUptoRow : OpenClaim := { program := "ytidjkhmlpgkaaaadoor", sum := "6eccef4b4f9f9cc3187cbeee3a493593a0d3cd8f6ca867bf6a36770c5ac52c9f", func := "purlin/purlinlaw24.WindowTime", spec := "windowTime", inPlace := ["internal/reflectlite.TypeOf"], unfollowed := true, recurses := true, named := ["purlin/mem.look"], apart := false, laid := [("purlin/mem.look", laid_purlin_mem_look)], narrowed := true }
def WindowTimeUptoSaid : Prop := windowTimeUptoRow.holds Tryd.pinned (OpenSpec.upto windowTimeSpec)

/-- 'purlinlaw24.WindowPlays', WHERE WHAT IT READS IS OF BULK AT MOST 1048576: true; the input reads as it did. -/
def windowPlaysUptoRow : OpenClaim := { program := "ytidjkhmlpgkaaaadoor", sum := "6eccef4b4f9f9cc3187cbeee3a493593a0d3cd8f6ca867bf6a36770c5ac52c9f", func := "purlin/purlinlaw24.WindowPlays", spec := "windowPlays", inPlace := ["internal/reflectlite.TypeOf"], unfollowed := true, recurses := true, named := ["purlin/mem.look"], apart := false, laid := [("purlin/mem.look", laid_purlin_mem_look)], narrowed := true }
def WindowPlaysUptoSaid : Prop := windowPlaysUptoRow.holds Tryd.pinned (OpenSpec.upto windowPlaysSpec)

/-- 'purlinlaw24.WindowPlans', WHERE WHAT IT READS IS OF BULK AT MOST 1048576: true; the input reads as it did. -/
def windowPlansUptoRow : OpenClaim := { program := "ytidjkhmlpgkaaaadoor", sum := "6eccef4b4f9f9cc3187cbeee3a493593a0d3cd8f6ca867bf6a36770c5ac52c9f", func := "purlin/purlinlaw24.WindowPlans", spec := "windowPlans", inPlace := ["internal/reflectlite.TypeOf"], unfollowed := true, recurses := true, named := ["purlin/mem.look"], apart := false, laid := [("purlin/mem.look", laid_purlin_mem_look)], narrowed := true }
def WindowPlansUptoSaid : Prop := windowPlansUptoRow.holds Tryd.pinned (OpenSpec.upto windowPlansSpec)

end Rows
end Go.Proofs.YtidjkhmlpgkaaaaDoor
