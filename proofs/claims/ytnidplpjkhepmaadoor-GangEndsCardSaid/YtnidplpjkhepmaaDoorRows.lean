/-
  NARROWER THAN 'FOR EVERY INPUT', by the rows' own cells (each row's printed sentence says how): GangTogether: laid · GangEnds: laid · GangMissed: laid.
  DERIVED. THE GIVEN ROWS OF THIS SEAT. 3 by the template 'for every input the law returns true; each argument reads behind the call as it read before'; 0 by the template 'total and deterministic' (their statements: YtnidplpjkhepmaaDoorTotals.lean).
  GIVEN WITH THE SEED: the statements are not yours to turn. If you find one false, say at which input.
  Laid BY PROGRAM, IN A SANDBOX (cutbox-rows.mjs): the forced cells as the released guide's own fill.sh prints them over the translation b84f30b7281baa23… (all of the seat's roots in one cut). By AI agents, Wed Nov 11 2026. No macro, syntax, notation, axiom, sorry.
-/
import Derived.Test.YtnidplpjkhepmaaDoorChecked
import GoSem.Claim
import GoSem.ClaimJoined
import GoSem.ClaimMapViews
import Derived.JoinedTies
import Derived.KernelRfl
namespace Go.Proofs.YtnidplpjkhepmaaDoor
/- THE CELL 'sum', in the pinned program and in every row, IS THE sha256 OF THE DUMP (.gsa) THAT YtnidplpjkhepmaaDoorProg.lean LOADS. Nothing in Lean hashes anything: it is a label: what it is worth is what the hold of that sum in a sandbox is worth. -/
noncomputable def Tryd.pinned : Pinned := { name := "ytnidplpjkhepmaadoor", sum := "b84f30b7281baa23e29f85bc351f1b6aaf263ef70a643c36b8508bda2081a2e9", checked := Tryd.checked }
namespace Rows
def none {H : Type} : Left H := { results := [], args := [] }

/- WHAT THE LISTED PACKAGE-LEVEL VARIABLES READ AS WHEN THE CALL BEGINS. Each datum BY PROGRAM (the guide's laid-datum.mjs) off the statement by which the dump's own 'gosem.cut.vars' lays the variable. In a bare row this is a premise. The card (YtnidplpjkhepmaaDoorCards.lean) ties it to the program's text. -/
def laid_purlin_mem_look {H : Type} : DataW H := .agg [.lit (.int .u32 4294967295), .lit (.int .u32 0), .lit (.int .u32 0)]

/-- 'purlinlaw23.GangTogether': WHATEVER THE INPUT: true; the input reads as it did. -/
def gangTogetherSpec : ChangeSpec := { name := "gangTogether", fn := fun _ => fun
  | [d1, d2] => { results := [.lit (.bool true)], args := [d1, d2] }
  | _ => none }
def gangTogetherRow : OpenClaim := { program := "ytnidplpjkhepmaadoor", sum := "b84f30b7281baa23e29f85bc351f1b6aaf263ef70a643c36b8508bda2081a2e9", func := "purlin/purlinlaw23.GangTogether", spec := "gangTogether", named := ["purlin/mem.look"], apart := false, laid := [("purlin/mem.look", laid_purlin_mem_look)] }
def GangTogetherSaid : Prop := gangTogetherRow.holds Tryd.pinned (OpenSpec.ofChange gangTogetherSpec)

/-- ITS FALSE NEIGHBOUR: 'it returns false'. Refute it at one input. -/
def gangTogetherWrong : ChangeSpec := { name := "gangTogether", fn := fun _ => fun
  | [d1, d2] => { results := [.lit (.bool false)], args := [d1, d2] }
  | _ => none }
def GangTogetherWrongFalsely : Prop := gangTogetherRow.holds Tryd.pinned (OpenSpec.ofChange gangTogetherWrong)

/-- 'purlinlaw23.GangEnds': WHATEVER THE INPUT: true; the input reads as it did. -/
def gangEndsSpec : ChangeSpec := { name := "gangEnds", fn := fun _ => fun
  | [d1, d2, d3] => { results := [.lit (.bool true)], args := [d1, d2, d3] }
  | _ => none }
def gangEndsRow : OpenClaim := { program := "ytnidplpjkhepmaadoor", sum := "b84f30b7281baa23e29f85bc351f1b6aaf263ef70a643c36b8508bda2081a2e9", func := "purlin/purlinlaw23.GangEnds", spec := "gangEnds", named := ["purlin/mem.look"], apart := false, laid := [("purlin/mem.look", laid_purlin_mem_look)] }
def GangEndsSaid : Prop := gangEndsRow.holds Tryd.pinned (OpenSpec.ofChange gangEndsSpec)

/-- ITS FALSE NEIGHBOUR: 'it returns false'. Refute it at one input. -/
def gangEndsWrong : ChangeSpec := { name := "gangEnds", fn := fun _ => fun
  | [d1, d2, d3] => { results := [.lit (.bool false)], args := [d1, d2, d3] }
  | _ => none }
def GangEndsWrongFalsely : Prop := gangEndsRow.holds Tryd.pinned (OpenSpec.ofChange gangEndsWrong)

/-- 'purlinlaw23.GangMissed': WHATEVER THE INPUT: true; the input reads as it did. -/
def gangMissedSpec : ChangeSpec := { name := "gangMissed", fn := fun _ => fun
  | [d1, d2] => { results := [.lit (.bool true)], args := [d1, d2] }
  | _ => none }
def gangMissedRow : OpenClaim := { program := "ytnidplpjkhepmaadoor", sum := "b84f30b7281baa23e29f85bc351f1b6aaf263ef70a643c36b8508bda2081a2e9", func := "purlin/purlinlaw23.GangMissed", spec := "gangMissed", named := ["purlin/mem.look"], apart := false, laid := [("purlin/mem.look", laid_purlin_mem_look)] }
def GangMissedSaid : Prop := gangMissedRow.holds Tryd.pinned (OpenSpec.ofChange gangMissedSpec)

/-- ITS FALSE NEIGHBOUR: 'it returns false'. Refute it at one input. -/
def gangMissedWrong : ChangeSpec := { name := "gangMissed", fn := fun _ => fun
  | [d1, d2] => { results := [.lit (.bool false)], args := [d1, d2] }
  | _ => none }
def GangMissedWrongFalsely : Prop := gangMissedRow.holds Tryd.pinned (OpenSpec.ofChange gangMissedWrong)

/- THE SECOND FORM. 'bulk': how many values and letters a reading holds, each counted each time it is reached (what is shared counts as often as it is met; a slice's spare places count too). A statement '..UptoSaid' is the law's where the arguments, and the package variables that the reading takes, are together of bulk at most 1048576: NARROWER than '..Said'. Prove '..Said' where nothing that the law and all that it calls make is longer than what came in: it says more and counts as full. Else prove '..UptoSaid'. A law counts once. -/
mutual
def uptoBulk {H : Type} : DataW H → Nat
  | .lit (.string bytes) => bytes.length + 1
  | .lit _ => 1
  | .nil => 1
  | .ptr d => uptoBulk d + 1
  | .slice elems spare => uptoBulkAll elems + uptoBulkAll spare + 1
  | .agg parts => uptoBulkAll parts + 1
  | .iface _ d => uptoBulk d + 1
  | .map entries => uptoBulkEntries entries + 1
  | .held _ => 1
def uptoBulkAll {H : Type} : List (DataW H) → Nat
  | [] => 0
  | d :: r => uptoBulk d + uptoBulkAll r
def uptoBulkEntries {H : Type} : List (Lit × DataW H) → Nat
  | [] => 0
  | x :: r => uptoBulkEntry x + uptoBulkEntries r
def uptoBulkEntry {H : Type} : Lit × DataW H → Nat
  | (.string bytes, d) => bytes.length + uptoBulk d + 1
  | (_, d) => uptoBulk d + 1
 end
def uptoSmall : (H : Type) → List (DataW H) → Bool := fun _ ds => decide (uptoBulkAll ds ≤ 1048576)
def OpenSpec.upto (s : _root_.Go.ChangeSpec) : _root_.Go.OpenSpec := { _root_.Go.OpenSpec.ofChange s with cond := some uptoSmall }

/-- 'purlinlaw23.GangTogether', WHERE WHAT IT READS IS OF BULK AT MOST 1048576: true; the input reads as it did. -/
def gangTogetherUptoRow : OpenClaim := { program := "ytnidplpjkhepmaadoor", sum := "b84f30b7281baa23e29f85bc351f1b6aaf263ef70a643c36b8508bda2081a2e9", func := "purlin/purlinlaw23.GangTogether", spec := "gangTogether", named := ["purlin/mem.look"], apart := false, laid := [("purlin/mem.look", laid_purlin_mem_look)], narrowed := true }
def GangTogetherUptoSaid : Prop := gangTogetherUptoRow.holds Tryd.pinned (OpenSpec.upto gangTogetherSpec)

/-- 'purlinlaw23.GangEnds', WHERE WHAT IT READS IS OF BULK AT MOST 1048576: true; the input reads as it did. -/
def gangEndsUptoRow : OpenClaim := { program := "ytnidplpjkhepmaadoor", sum := "b84f30b7281baa23e29f85bc351f1b6aaf263ef70a643c36b8508bda2081a2e9", func := "purlin/purlinlaw23.GangEnds", spec := "gangEnds", named := ["purlin/mem.look"], apart := false, laid := [("purlin/mem.look", laid_purlin_mem_look)], narrowed := true }
def GangEndsUptoSaid : Prop := gangEndsUptoRow.holds Tryd.pinned (OpenSpec.upto gangEndsSpec)

/-- 'purlinlaw23.GangMissed', WHERE WHAT IT READS IS OF BULK AT MOST 1048576: true; the input reads as it did. -/
def gangMissedUptoRow : OpenClaim := { program := "ytnidplpjkhepmaadoor", sum := "b84f30b7281baa23e29f85bc351f1b6aaf263ef70a643c36b8508bda2081a2e9", func := "purlin/purlinlaw23.GangMissed", spec := "gangMissed", named := ["purlin/mem.look"], apart := false, laid := [("purlin/mem.look", laid_purlin_mem_look)], narrowed := true }
def GangMissedUptoSaid : Prop := gangMissedUptoRow.holds Tryd.pinned (OpenSpec.upto gangMissedSpec)

end Rows
end Go.Proofs.YtnidplpjkhepmaaDoor
