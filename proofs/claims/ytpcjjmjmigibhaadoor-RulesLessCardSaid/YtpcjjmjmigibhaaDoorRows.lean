/-
  NARROWER THAN 'FOR EVERY INPUT', by the rows' own cells (each row's printed sentence says how): RulesChecks: laid · RulesWindows: laid · RulesOverlaps: laid · RulesServes: laid · RulesParts: laid · RulesLess: laid.
  DERIVED. THE GIVEN ROWS OF THIS SEAT. 6 by the template 'for every input the law returns true; each argument reads behind the call as it read before'; 0 by the template 'total and deterministic' (their statements: YtpcjjmjmigibhaaDoorTotals.lean).
  GIVEN WITH THE SEED: the statements are not yours to turn. If you find one false, say at which input.
  Laid BY PROGRAM, IN A SANDBOX (cutbox-rows.mjs): the forced cells as the released guide's own fill.sh prints them over the translation 73e165e729a9ef06… (all of the seat's roots in one cut). By AI agents, Wed Nov 11 2026. No macro, syntax, notation, axiom, sorry.
-/
import Derived.Test.YtpcjjmjmigibhaaDoorChecked
import GoSem.Claim
import GoSem.ClaimJoined
import GoSem.ClaimMapViews
import Derived.JoinedTies
import Derived.KernelRfl
namespace Go.Proofs.YtpcjjmjmigibhaaDoor
/- THE CELL 'sum', in the pinned program and in every row, IS THE sha256 OF THE DUMP (.gsa) THAT YtpcjjmjmigibhaaDoorProg.lean LOADS. Nothing in Lean hashes anything: it is a label: what it is worth is what the hold of that sum in a sandbox is worth. -/
noncomputable def Tryd.pinned : Pinned := { name := "ytpcjjmjmigibhaadoor", sum := "73e165e729a9ef0655d803337abc32b33f45639ee1f651eed44cb5d091cfe42c", checked := Tryd.checked }
namespace Rows
def none {H : Type} : Left H := { results := [], args := [] }

/- WHAT THE LISTED PACKAGE-LEVEL VARIABLES READ AS WHEN THE CALL BEGINS. Each datum BY PROGRAM (the guide's laid-datum.mjs) off the statement by which the dump's own 'gosem.cut.vars' lays the variable. In a bare row this is a premise. The card (YtpcjjmjmigibhaaDoorCards.lean) ties it to the program's text. -/
def laid_errors_errorType {H : Type} : DataW H := .iface "internal/reflectlite.rtype" (.agg [.ptr (.lit (.string [101, 114, 114, 111, 114]))])

/-- 'purlinlaw04.RulesChecks': WHATEVER THE INPUT: true; the input reads as it did. -/
def rulesChecksSpec : ChangeSpec := { name := "rulesChecks", fn := fun _ => fun
  | [d] => { results := [.lit (.bool true)], args := [d] }
  | _ => none }
def rulesChecksRow : OpenClaim := { program := "ytpcjjmjmigibhaadoor", sum := "73e165e729a9ef0655d803337abc32b33f45639ee1f651eed44cb5d091cfe42c", func := "purlin/purlinlaw04.RulesChecks", spec := "rulesChecks", inPlace := ["internal/reflectlite.TypeOf", "internal/reflectlite.ValueOf", "(internal/reflectlite.Value).Type", "(internal/reflectlite.Value).IsNil", "(internal/reflectlite.Value).Elem", "(internal/reflectlite.Value).Set"], unfollowed := true, recurses := true, named := ["errors.errorType"], apart := false, laid := [("errors.errorType", laid_errors_errorType)] }
def RulesChecksSaid : Prop := rulesChecksRow.holds Tryd.pinned (OpenSpec.ofChange rulesChecksSpec)

/-- ITS FALSE NEIGHBOUR: 'it returns false'. Refute it at one input. -/
def rulesChecksWrong : ChangeSpec := { name := "rulesChecks", fn := fun _ => fun
  | [d] => { results := [.lit (.bool false)], args := [d] }
  | _ => none }
def RulesChecksWrongFalsely : Prop := rulesChecksRow.holds Tryd.pinned (OpenSpec.ofChange rulesChecksWrong)

/-- 'purlinlaw04.RulesWindows': WHATEVER THE INPUT: true; the input reads as it did. -/
def rulesWindowsSpec : ChangeSpec := { name := "rulesWindows", fn := fun _ => fun
  | [d1, d2] => { results := [.lit (.bool true)], args := [d1, d2] }
  | _ => none }
def rulesWindowsRow : OpenClaim := { program := "ytpcjjmjmigibhaadoor", sum := "73e165e729a9ef0655d803337abc32b33f45639ee1f651eed44cb5d091cfe42c", func := "purlin/purlinlaw04.RulesWindows", spec := "rulesWindows", inPlace := ["internal/reflectlite.TypeOf", "internal/reflectlite.ValueOf", "(internal/reflectlite.Value).Type", "(internal/reflectlite.Value).IsNil", "(internal/reflectlite.Value).Elem", "(internal/reflectlite.Value).Set"], unfollowed := true, recurses := true, named := ["errors.errorType"], apart := false, laid := [("errors.errorType", laid_errors_errorType)] }
def RulesWindowsSaid : Prop := rulesWindowsRow.holds Tryd.pinned (OpenSpec.ofChange rulesWindowsSpec)

/-- ITS FALSE NEIGHBOUR: 'it returns false'. Refute it at one input. -/
def rulesWindowsWrong : ChangeSpec := { name := "rulesWindows", fn := fun _ => fun
  | [d1, d2] => { results := [.lit (.bool false)], args := [d1, d2] }
  | _ => none }
def RulesWindowsWrongFalsely : Prop := rulesWindowsRow.holds Tryd.pinned (OpenSpec.ofChange rulesWindowsWrong)

/-- 'purlinlaw04.RulesOverlaps': WHATEVER THE INPUT: true; the input reads as it did. -/
def rulesOverlapsSpec : ChangeSpec := { name := "rulesOverlaps", fn := fun _ => fun
  | [d1, d2] => { results := [.lit (.bool true)], args := [d1, d2] }
  | _ => none }
def rulesOverlapsRow : OpenClaim := { program := "ytpcjjmjmigibhaadoor", sum := "73e165e729a9ef0655d803337abc32b33f45639ee1f651eed44cb5d091cfe42c", func := "purlin/purlinlaw04.RulesOverlaps", spec := "rulesOverlaps", inPlace := ["internal/reflectlite.TypeOf", "internal/reflectlite.ValueOf", "(internal/reflectlite.Value).Type", "(internal/reflectlite.Value).IsNil", "(internal/reflectlite.Value).Elem", "(internal/reflectlite.Value).Set"], unfollowed := true, recurses := true, named := ["errors.errorType"], apart := false, laid := [("errors.errorType", laid_errors_errorType)] }
def RulesOverlapsSaid : Prop := rulesOverlapsRow.holds Tryd.pinned (OpenSpec.ofChange rulesOverlapsSpec)

/-- ITS FALSE NEIGHBOUR: 'it returns false'. Refute it at one input. -/
def rulesOverlapsWrong : ChangeSpec := { name := "rulesOverlaps", fn := fun _ => fun
  | [d1, d2] => { results := [.lit (.bool false)], args := [d1, d2] }
  | _ => none }
def RulesOverlapsWrongFalsely : Prop := rulesOverlapsRow.holds Tryd.pinned (OpenSpec.ofChange rulesOverlapsWrong)

/-- 'purlinlaw04.RulesServes': WHATEVER THE INPUT: true; the input reads as it did. -/
def rulesServesSpec : ChangeSpec := { name := "rulesServes", fn := fun _ => fun
  | [d1, d2] => { results := [.lit (.bool true)], args := [d1, d2] }
  | _ => none }
def rulesServesRow : OpenClaim := { program := "ytpcjjmjmigibhaadoor", sum := "73e165e729a9ef0655d803337abc32b33f45639ee1f651eed44cb5d091cfe42c", func := "purlin/purlinlaw04.RulesServes", spec := "rulesServes", inPlace := ["internal/reflectlite.TypeOf", "internal/reflectlite.ValueOf", "(internal/reflectlite.Value).Type", "(internal/reflectlite.Value).IsNil", "(internal/reflectlite.Value).Elem", "(internal/reflectlite.Value).Set"], unfollowed := true, recurses := true, named := ["errors.errorType"], apart := false, laid := [("errors.errorType", laid_errors_errorType)] }
def RulesServesSaid : Prop := rulesServesRow.holds Tryd.pinned (OpenSpec.ofChange rulesServesSpec)

/-- ITS FALSE NEIGHBOUR: 'it returns false'. Refute it at one input. -/
def rulesServesWrong : ChangeSpec := { name := "rulesServes", fn := fun _ => fun
  | [d1, d2] => { results := [.lit (.bool false)], args := [d1, d2] }
  | _ => none }
def RulesServesWrongFalsely : Prop := rulesServesRow.holds Tryd.pinned (OpenSpec.ofChange rulesServesWrong)

/-- 'purlinlaw04.RulesParts': WHATEVER THE INPUT: true; the input reads as it did. -/
def rulesPartsSpec : ChangeSpec := { name := "rulesParts", fn := fun _ => fun
  | [d] => { results := [.lit (.bool true)], args := [d] }
  | _ => none }
def rulesPartsRow : OpenClaim := { program := "ytpcjjmjmigibhaadoor", sum := "73e165e729a9ef0655d803337abc32b33f45639ee1f651eed44cb5d091cfe42c", func := "purlin/purlinlaw04.RulesParts", spec := "rulesParts", inPlace := ["internal/reflectlite.TypeOf", "internal/reflectlite.ValueOf", "(internal/reflectlite.Value).Type", "(internal/reflectlite.Value).IsNil", "(internal/reflectlite.Value).Elem", "(internal/reflectlite.Value).Set"], unfollowed := true, recurses := true, named := ["errors.errorType"], apart := false, laid := [("errors.errorType", laid_errors_errorType)] }
def RulesPartsSaid : Prop := rulesPartsRow.holds Tryd.pinned (OpenSpec.ofChange rulesPartsSpec)

/-- ITS FALSE NEIGHBOUR: 'it returns false'. Refute it at one input. -/
def rulesPartsWrong : ChangeSpec := { name := "rulesParts", fn := fun _ => fun
  | [d] => { results := [.lit (.bool false)], args := [d] }
  | _ => none }
def RulesPartsWrongFalsely : Prop := rulesPartsRow.holds Tryd.pinned (OpenSpec.ofChange rulesPartsWrong)

/-- 'purlinlaw04.RulesLess': WHATEVER THE INPUT: true; the input reads as it did. -/
def rulesLessSpec : ChangeSpec := { name := "rulesLess", fn := fun _ => fun
  | [d1, d2, d3] => { results := [.lit (.bool true)], args := [d1, d2, d3] }
  | _ => none }
def rulesLessRow : OpenClaim := { program := "ytpcjjmjmigibhaadoor", sum := "73e165e729a9ef0655d803337abc32b33f45639ee1f651eed44cb5d091cfe42c", func := "purlin/purlinlaw04.RulesLess", spec := "rulesLess", inPlace := ["internal/reflectlite.TypeOf", "internal/reflectlite.ValueOf", "(internal/reflectlite.Value).Type", "(internal/reflectlite.Value).IsNil", "(internal/reflectlite.Value).Elem", "(internal/reflectlite.Value).Set"], unfollowed := true, recurses := true, named := ["errors.errorType"], apart := false, laid := [("errors.errorType", laid_errors_errorType)] }
def RulesLessSaid : Prop := rulesLessRow.holds Tryd.pinned (OpenSpec.ofChange rulesLessSpec)

/-- ITS FALSE NEIGHBOUR: 'it returns false'. Refute it at one input. -/
def rulesLessWrong : ChangeSpec := { name := "rulesLess", fn := fun _ => fun
  | [d1, d2, d3] => { results := [.lit (.bool false)], args := [d1, d2, d3] }
  | _ => none }
def RulesLessWrongFalsely : Prop := rulesLessRow.holds Tryd.pinned (OpenSpec.ofChange rulesLessWrong)

/- THE SECOND FORM. 'bulk': how many values and letters a reading holds, each counted each time it is reached (what is shared counts as often as it is met; a slice's spare places count too). A statement '..UptoSaid' is the law's where the arguments, and the package variables that the reading takes, are together of bulk at most 1048576: NARROWER than '..Said'. Prove '..Said' where nothing that the law and all that it calls make is longer than what came in: it says more and counts as full. Else prove '..UptoSaid'. A law counts once. -/
mutual
def uptoBulk {H : Type} : DataW H → Nat
  | .lit (.string bytes) => bytes.length + 1
  | .lit _ => 1
  | .nil => 1
  | .ptr d => uptoBulk d + 1
  | .slice elems spare => uptoBulkAll elems + uptoBulkAll spare + 1
  | .agg parts => uptoBulkAll parts + 1
  | .iface _ d => uptoBulk d + 1
  | .map entries => uptoBulkEntries entries + 1
  | .held _ => 1
def uptoBulkAll {H : Type} : List (DataW H) → Nat
  | [] => 0
  | d :: r => uptoBulk d + uptoBulkAll r
def uptoBulkEntries {H : Type} : List (Lit × DataW H) → Nat
  | [] => 0
  | x :: r => uptoBulkEntry x + uptoBulkEntries r
def uptoBulkEntry {H : Type} : Lit × DataW H → Nat
  | (.string bytes, d) => bytes.length + uptoBulk d + 1
  | (_, d) => uptoBulk d + 1
 end
def uptoSmall : (H : Type) → List (DataW H) → Bool := fun _ ds => decide (uptoBulkAll ds ≤ 1048576)
def OpenSpec.upto (s : _root_.Go.ChangeSpec) : _root_.Go.OpenSpec := { _root_.Go.OpenSpec.ofChange s with cond := some uptoSmall }

/-- 'purlinlaw04.RulesChecks', WHERE WHAT IT READS IS OF BULK AT MOST 1048576: true; the input reads as it did. -/
def rulesChecksUptoRow : OpenClaim := { program := "ytpcjjmjmigibhaadoor", sum := "73e165e729a9ef0655d803337abc32b33f45639ee1f651eed44cb5d091cfe42c", func := "purlin/purlinlaw04.RulesChecks", spec := "rulesChecks", inPlace := ["internal/reflectlite.TypeOf", "internal/reflectlite.ValueOf", "(internal/reflectlite.Value).Type", "(internal/reflectlite.Value).IsNil", "(internal/reflectlite.Value).Elem", "(internal/reflectlite.Value).Set"], unfollowed := true, recurses := true, named := ["errors.errorType"], apart := false, laid := [("errors.errorType", laid_errors_errorType)], narrowed := true }
def RulesChecksUptoSaid : Prop := rulesChecksUptoRow.holds Tryd.pinned (OpenSpec.upto rulesChecksSpec)

/-- 'purlinlaw04.RulesWindows', WHERE WHAT IT READS IS OF BULK AT MOST 1048576: true; the input reads as it did. -/
def rulesWindowsUptoRow : OpenClaim := { program := "ytpcjjmjmigibhaadoor", sum := "73e165e729a9ef0655d803337abc32b33f45639ee1f651eed44cb5d091cfe42c", func := "purlin/purlinlaw04.RulesWindows", spec := "rulesWindows", inPlace := ["internal/reflectlite.TypeOf", "internal/reflectlite.ValueOf", "(internal/reflectlite.Value).Type", "(internal/reflectlite.Value).IsNil", "(internal/reflectlite.Value).Elem", "(internal/reflectlite.Value).Set"], unfollowed := true, recurses := true, named := ["errors.errorType"], apart := false, laid := [("errors.errorType", laid_errors_errorType)], narrowed := true }
def RulesWindowsUptoSaid : Prop := rulesWindowsUptoRow.holds Tryd.pinned (OpenSpec.upto rulesWindowsSpec)

/-- 'purlinlaw04.RulesOverlaps', WHERE WHAT IT READS IS OF BULK AT MOST 1048576: true; the input reads as it did. -/
def rulesOverlapsUptoRow : OpenClaim := { program := "ytpcjjmjmigibhaadoor", sum := "73e165e729a9ef0655d803337abc32b33f45639ee1f651eed44cb5d091cfe42c", func := "purlin/purlinlaw04.RulesOverlaps", spec := "rulesOverlaps", inPlace := ["internal/reflectlite.TypeOf", "internal/reflectlite.ValueOf", "(internal/reflectlite.Value).Type", "(internal/reflectlite.Value).IsNil", "(internal/reflectlite.Value).Elem", "(internal/reflectlite.Value).Set"], unfollowed := true, recurses := true, named := ["errors.errorType"], apart := false, laid := [("errors.errorType", laid_errors_errorType)], narrowed := true }
def RulesOverlapsUptoSaid : Prop := rulesOverlapsUptoRow.holds Tryd.pinned (OpenSpec.upto rulesOverlapsSpec)

/-- 'purlinlaw04.RulesServes', WHERE WHAT IT READS IS OF BULK AT MOST 1048576: true; the input reads as it did. -/
def rulesServesUptoRow : OpenClaim := { program := "ytpcjjmjmigibhaadoor", sum := "73e165e729a9ef0655d803337abc32b33f45639ee1f651eed44cb5d091cfe42c", func := "purlin/purlinlaw04.RulesServes", spec := "rulesServes", inPlace := ["internal/reflectlite.TypeOf", "internal/reflectlite.ValueOf", "(internal/reflectlite.Value).Type", "(internal/reflectlite.Value).IsNil", "(internal/reflectlite.Value).Elem", "(internal/reflectlite.Value).Set"], unfollowed := true, recurses := true, named := ["errors.errorType"], apart := false, laid := [("errors.errorType", laid_errors_errorType)], narrowed := true }
def RulesServesUptoSaid : Prop := rulesServesUptoRow.holds Tryd.pinned (OpenSpec.upto rulesServesSpec)

/-- 'purlinlaw04.RulesParts', WHERE WHAT IT READS IS OF BULK AT MOST 1048576: true; the input reads as it did. -/
def rulesPartsUptoRow : OpenClaim := { program := "ytpcjjmjmigibhaadoor", sum := "73e165e729a9ef0655d803337abc32b33f45639ee1f651eed44cb5d091cfe42c", func := "purlin/purlinlaw04.RulesParts", spec := "rulesParts", inPlace := ["internal/reflectlite.TypeOf", "internal/reflectlite.ValueOf", "(internal/reflectlite.Value).Type", "(internal/reflectlite.Value).IsNil", "(internal/reflectlite.Value).Elem", "(internal/reflectlite.Value).Set"], unfollowed := true, recurses := true, named := ["errors.errorType"], apart := false, laid := [("errors.errorType", laid_errors_errorType)], narrowed := true }
def RulesPartsUptoSaid : Prop := rulesPartsUptoRow.holds Tryd.pinned (OpenSpec.upto rulesPartsSpec)

/-- 'purlinlaw04.RulesLess', WHERE WHAT IT READS IS OF BULK AT MOST 1048576: true; the input reads as it did. -/
def rulesLessUptoRow : OpenClaim := { program := "ytpcjjmjmigibhaadoor", sum := "73e165e729a9ef0655d803337abc32b33f45639ee1f651eed44cb5d091cfe42c", func := "purlin/purlinlaw04.RulesLess", spec := "rulesLess", inPlace := ["internal/reflectlite.TypeOf", "internal/reflectlite.ValueOf", "(internal/reflectlite.Value).Type", "(internal/reflectlite.Value).IsNil", "(internal/reflectlite.Value).Elem", "(internal/reflectlite.Value).Set"], unfollowed := true, recurses := true, named := ["errors.errorType"], apart := false, laid := [("errors.errorType", laid_errors_errorType)], narrowed := true }
def RulesLessUptoSaid : Prop := rulesLessUptoRow.holds Tryd.pinned (OpenSpec.upto rulesLessSpec)

end Rows
end Go.Proofs.YtpcjjmjmigibhaaDoor
