/-
  No cell of these rows narrows 'for every input' (looked for: loops, veiled, ifaces, maps, wideKeys, modest, calm, conditions, laid).
  DERIVED. THE GIVEN ROWS OF THIS SEAT. 7 by the template 'for every input the law returns true; each argument reads behind the call as it read before'; 0 by the template 'total and deterministic' (their statements: YtmfddaihepjfeaaTotals.lean).
  GIVEN WITH THE SEED: the statements are not yours to turn. If you find one false, say at which input.
  Laid BY PROGRAM, IN A SANDBOX (cutbox-rows.mjs): the forced cells as the released guide's own fill.sh prints them over the translation 0ab919e4155a5127… (all of the seat's roots in one cut). By AI agents, Wed Nov 11 2026. No macro, syntax, notation, axiom, sorry.
-/
import Derived.Test.YtmfddaihepjfeaaChecked
import GoSem.Claim
import GoSem.ClaimJoined
import GoSem.ClaimMapViews
import Derived.JoinedTies
import Derived.KernelRfl
namespace Go.Proofs.Ytmfddaihepjfeaa
/- THE CELL 'sum', in the pinned program and in every row, IS THE sha256 OF THE DUMP (.gsa) THAT YtmfddaihepjfeaaProg.lean LOADS. Nothing in Lean hashes anything: it is a label: what it is worth is what the hold of that sum in a sandbox is worth. -/
noncomputable def Try.pinned : Pinned := { name := "ytmfddaihepjfeaa", sum := "0ab919e4155a5127c01ed342ee765b5faad36610bea2c4b5d80b02100ea52551", checked := Try.checked }
namespace Rows
def none {H : Type} : Left H := { results := [], args := [] }

/-- 'purlinlaw05.TableTurns': WHATEVER THE INPUT: true; the input reads as it did. -/
def tableTurnsSpec : ChangeSpec := { name := "tableTurns", fn := fun _ => fun
  | [d1, d2] => { results := [.lit (.bool true)], args := [d1, d2] }
  | _ => none }
def tableTurnsRow : OpenClaim := { program := "ytmfddaihepjfeaa", sum := "0ab919e4155a5127c01ed342ee765b5faad36610bea2c4b5d80b02100ea52551", func := "purlin/purlinlaw05.TableTurns", spec := "tableTurns", unfollowed := true, recurses := true, apart := false }
def TableTurnsSaid : Prop := tableTurnsRow.holds Try.pinned (OpenSpec.ofChange tableTurnsSpec)

/-- ITS FALSE NEIGHBOUR: 'it returns false'. Refute it at one input. -/
def tableTurnsWrong : ChangeSpec := { name := "tableTurns", fn := fun _ => fun
  | [d1, d2] => { results := [.lit (.bool false)], args := [d1, d2] }
  | _ => none }
def TableTurnsWrongFalsely : Prop := tableTurnsRow.holds Try.pinned (OpenSpec.ofChange tableTurnsWrong)

/-- 'purlinlaw05.TableNexts': WHATEVER THE INPUT: true; the input reads as it did. -/
def tableNextsSpec : ChangeSpec := { name := "tableNexts", fn := fun _ => fun
  | [d1, d2, d3] => { results := [.lit (.bool true)], args := [d1, d2, d3] }
  | _ => none }
def tableNextsRow : OpenClaim := { program := "ytmfddaihepjfeaa", sum := "0ab919e4155a5127c01ed342ee765b5faad36610bea2c4b5d80b02100ea52551", func := "purlin/purlinlaw05.TableNexts", spec := "tableNexts", unfollowed := true, recurses := true, apart := false }
def TableNextsSaid : Prop := tableNextsRow.holds Try.pinned (OpenSpec.ofChange tableNextsSpec)

/-- ITS FALSE NEIGHBOUR: 'it returns false'. Refute it at one input. -/
def tableNextsWrong : ChangeSpec := { name := "tableNexts", fn := fun _ => fun
  | [d1, d2, d3] => { results := [.lit (.bool false)], args := [d1, d2, d3] }
  | _ => none }
def TableNextsWrongFalsely : Prop := tableNextsRow.holds Try.pinned (OpenSpec.ofChange tableNextsWrong)

/-- 'purlinlaw05.TableShares': WHATEVER THE INPUT: true; the input reads as it did. -/
def tableSharesSpec : ChangeSpec := { name := "tableShares", fn := fun _ => fun
  | [d1, d2] => { results := [.lit (.bool true)], args := [d1, d2] }
  | _ => none }
def tableSharesRow : OpenClaim := { program := "ytmfddaihepjfeaa", sum := "0ab919e4155a5127c01ed342ee765b5faad36610bea2c4b5d80b02100ea52551", func := "purlin/purlinlaw05.TableShares", spec := "tableShares", unfollowed := true, recurses := true, apart := false }
def TableSharesSaid : Prop := tableSharesRow.holds Try.pinned (OpenSpec.ofChange tableSharesSpec)

/-- ITS FALSE NEIGHBOUR: 'it returns false'. Refute it at one input. -/
def tableSharesWrong : ChangeSpec := { name := "tableShares", fn := fun _ => fun
  | [d1, d2] => { results := [.lit (.bool false)], args := [d1, d2] }
  | _ => none }
def TableSharesWrongFalsely : Prop := tableSharesRow.holds Try.pinned (OpenSpec.ofChange tableSharesWrong)

/-- 'purlinlaw05.TableGaps': WHATEVER THE INPUT: true; the input reads as it did. -/
def tableGapsSpec : ChangeSpec := { name := "tableGaps", fn := fun _ => fun
  | [d1, d2] => { results := [.lit (.bool true)], args := [d1, d2] }
  | _ => none }
def tableGapsRow : OpenClaim := { program := "ytmfddaihepjfeaa", sum := "0ab919e4155a5127c01ed342ee765b5faad36610bea2c4b5d80b02100ea52551", func := "purlin/purlinlaw05.TableGaps", spec := "tableGaps", unfollowed := true, recurses := true, apart := false }
def TableGapsSaid : Prop := tableGapsRow.holds Try.pinned (OpenSpec.ofChange tableGapsSpec)

/-- ITS FALSE NEIGHBOUR: 'it returns false'. Refute it at one input. -/
def tableGapsWrong : ChangeSpec := { name := "tableGaps", fn := fun _ => fun
  | [d1, d2] => { results := [.lit (.bool false)], args := [d1, d2] }
  | _ => none }
def TableGapsWrongFalsely : Prop := tableGapsRow.holds Try.pinned (OpenSpec.ofChange tableGapsWrong)

/-- 'purlinlaw05.TableGangs': WHATEVER THE INPUT: true; the input reads as it did. -/
def tableGangsSpec : ChangeSpec := { name := "tableGangs", fn := fun _ => fun
  | [d] => { results := [.lit (.bool true)], args := [d] }
  | _ => none }
def tableGangsRow : OpenClaim := { program := "ytmfddaihepjfeaa", sum := "0ab919e4155a5127c01ed342ee765b5faad36610bea2c4b5d80b02100ea52551", func := "purlin/purlinlaw05.TableGangs", spec := "tableGangs", unfollowed := true, recurses := true, apart := false }
def TableGangsSaid : Prop := tableGangsRow.holds Try.pinned (OpenSpec.ofChange tableGangsSpec)

/-- ITS FALSE NEIGHBOUR: 'it returns false'. Refute it at one input. -/
def tableGangsWrong : ChangeSpec := { name := "tableGangs", fn := fun _ => fun
  | [d] => { results := [.lit (.bool false)], args := [d] }
  | _ => none }
def TableGangsWrongFalsely : Prop := tableGangsRow.holds Try.pinned (OpenSpec.ofChange tableGangsWrong)

/-- 'purlinlaw05.TableSteady': WHATEVER THE INPUT: true; the input reads as it did. -/
def tableSteadySpec : ChangeSpec := { name := "tableSteady", fn := fun _ => fun
  | [d1, d2] => { results := [.lit (.bool true)], args := [d1, d2] }
  | _ => none }
def tableSteadyRow : OpenClaim := { program := "ytmfddaihepjfeaa", sum := "0ab919e4155a5127c01ed342ee765b5faad36610bea2c4b5d80b02100ea52551", func := "purlin/purlinlaw05.TableSteady", spec := "tableSteady", unfollowed := true, recurses := true, apart := false }
def TableSteadySaid : Prop := tableSteadyRow.holds Try.pinned (OpenSpec.ofChange tableSteadySpec)

/-- ITS FALSE NEIGHBOUR: 'it returns false'. Refute it at one input. -/
def tableSteadyWrong : ChangeSpec := { name := "tableSteady", fn := fun _ => fun
  | [d1, d2] => { results := [.lit (.bool false)], args := [d1, d2] }
  | _ => none }
def TableSteadyWrongFalsely : Prop := tableSteadyRow.holds Try.pinned (OpenSpec.ofChange tableSteadyWrong)

/-- 'purlinlaw05.TableSums': WHATEVER THE INPUT: true; the input reads as it did. -/
def tableSumsSpec : ChangeSpec := { name := "tableSums", fn := fun _ => fun
  | [d] => { results := [.lit (.bool true)], args := [d] }
  | _ => none }
def tableSumsRow : OpenClaim := { program := "ytmfddaihepjfeaa", sum := "0ab919e4155a5127c01ed342ee765b5faad36610bea2c4b5d80b02100ea52551", func := "purlin/purlinlaw05.TableSums", spec := "tableSums", unfollowed := true, recurses := true, apart := false }
def TableSumsSaid : Prop := tableSumsRow.holds Try.pinned (OpenSpec.ofChange tableSumsSpec)

/-- ITS FALSE NEIGHBOUR: 'it returns false'. Refute it at one input. -/
def tableSumsWrong : ChangeSpec := { name := "tableSums", fn := fun _ => fun
  | [d] => { results := [.lit (.bool false)], args := [d] }
  | _ => none }
def TableSumsWrongFalsely : Prop := tableSumsRow.holds Try.pinned (OpenSpec.ofChange tableSumsWrong)

/- THE SECOND FORM. 'bulk': how many values and letters a reading holds, each counted each time it is reached (what is shared counts as often as it is met; a slice's spare places count too). A statement '..UptoSaid' is the law's where the arguments, and the package variables that the reading takes, are together of bulk at most 1048576: NARROWER than '..Said'. Prove '..Said' where nothing that the law and all that it calls make is longer than what came in: it says more and counts as full. Else prove '..UptoSaid'. A law counts once. -/
mutual
def uptoBulk {H : Type} : DataW H → Nat
  | .lit (.string bytes) => bytes.length + 1
  | .lit _ => 1
  | .nil => 1
  | .ptr d => uptoBulk d + 1
  | .slice elems spare => uptoBulkAll elems + uptoBulkAll spare + 1
  | .agg parts => uptoBulkAll parts + 1
  | .iface _ d => uptoBulk d + 1
  | .map entries => uptoBulkEntries entries + 1
  | .held _ => 1
def uptoBulkAll {H : Type} : List (DataW H) → Nat
  | [] => 0
  | d :: r => uptoBulk d + uptoBulkAll r
def uptoBulkEntries {H : Type} : List (Lit × DataW H) → Nat
  | [] => 0
  | x :: r => uptoBulkEntry x + uptoBulkEntries r
def uptoBulkEntry {H : Type} : Lit × DataW H → Nat
  | (.string bytes, d) => bytes.length + uptoBulk d + 1
  | (_, d) => uptoBulk d + 1
 end
def uptoSmall : (H : Type) → List (DataW H) → Bool := fun _ ds => decide (uptoBulkAll ds ≤ 1048576)
def OpenSpec.upto (s : _root_.Go.ChangeSpec) : _root_.Go.OpenSpec := { _root_.Go.OpenSpec.ofChange s with cond := some uptoSmall }

/-- 'purlinlaw05.TableTurns', WHERE WHAT IT READS IS OF BULK AT MOST 1048576: true; the input reads as it did. -/
def tableTurnsUptoRow : OpenClaim := { program := "ytmfddaihepjfeaa", sum := "0ab919e4155a5127c01ed342ee765b5faad36610bea2c4b5d80b02100ea52551", func := "purlin/purlinlaw05.TableTurns", spec := "tableTurns", unfollowed := true, recurses := true, apart := false, narrowed := true }
def TableTurnsUptoSaid : Prop := tableTurnsUptoRow.holds Try.pinned (OpenSpec.upto tableTurnsSpec)

/-- 'purlinlaw05.TableNexts', WHERE WHAT IT READS IS OF BULK AT MOST 1048576: true; the input reads as it did. -/
def tableNextsUptoRow : OpenClaim := { program := "ytmfddaihepjfeaa", sum := "0ab919e4155a5127c01ed342ee765b5faad36610bea2c4b5d80b02100ea52551", func := "purlin/purlinlaw05.TableNexts", spec := "tableNexts", unfollowed := true, recurses := true, apart := false, narrowed := true }
def TableNextsUptoSaid : Prop := tableNextsUptoRow.holds Try.pinned (OpenSpec.upto tableNextsSpec)

/-- 'purlinlaw05.TableShares', WHERE WHAT IT READS IS OF BULK AT MOST 1048576: true; the input reads as it did. -/
def tableSharesUptoRow : OpenClaim := { program := "ytmfddaihepjfeaa", sum := "0ab919e4155a5127c01ed342ee765b5faad36610bea2c4b5d80b02100ea52551", func := "purlin/purlinlaw05.TableShares", spec := "tableShares", unfollowed := true, recurses := true, apart := false, narrowed := true }
def TableSharesUptoSaid : Prop := tableSharesUptoRow.holds Try.pinned (OpenSpec.upto tableSharesSpec)

/-- 'purlinlaw05.TableGaps', WHERE WHAT IT READS IS OF BULK AT MOST 1048576: true; the input reads as it did. -/
def tableGapsUptoRow : OpenClaim := { program := "ytmfddaihepjfeaa", sum := "0ab919e4155a5127c01ed342ee765b5faad36610bea2c4b5d80b02100ea52551", func := "purlin/purlinlaw05.TableGaps", spec := "tableGaps", unfollowed := true, recurses := true, apart := false, narrowed := true }
def TableGapsUptoSaid : Prop := tableGapsUptoRow.holds Try.pinned (OpenSpec.upto tableGapsSpec)

/-- 'purlinlaw05.TableGangs', WHERE WHAT IT READS IS OF BULK AT MOST 1048576: true; the input reads as it did. -/
def tableGangsUptoRow : OpenClaim := { program := "ytmfddaihepjfeaa", sum := "0ab919e4155a5127c01ed342ee765b5faad36610bea2c4b5d80b02100ea52551", func := "purlin/purlinlaw05.TableGangs", spec := "tableGangs", unfollowed := true, recurses := true, apart := false, narrowed := true }
def TableGangsUptoSaid : Prop := tableGangsUptoRow.holds Try.pinned (OpenSpec.upto tableGangsSpec)

/-- 'purlinlaw05.TableSteady', WHERE WHAT IT READS IS OF BULK AT MOST 1048576: true; the input reads as it did. -/
def tableSteadyUptoRow : OpenClaim := { program := "ytmfddaihepjfeaa", sum := "0ab919e4155a5127c01ed342ee765b5faad36610bea2c4b5d80b02100ea52551", func := "purlin/purlinlaw05.TableSteady", spec := "tableSteady", unfollowed := true, recurses := true, apart := false, narrowed := true }
def TableSteadyUptoSaid : Prop := tableSteadyUptoRow.holds Try.pinned (OpenSpec.upto tableSteadySpec)

/-- 'purlinlaw05.TableSums', WHERE WHAT IT READS IS OF BULK AT MOST 1048576: true; the input reads as it did. -/
def tableSumsUptoRow : OpenClaim := { program := "ytmfddaihepjfeaa", sum := "0ab919e4155a5127c01ed342ee765b5faad36610bea2c4b5d80b02100ea52551", func := "purlin/purlinlaw05.TableSums", spec := "tableSums", unfollowed := true, recurses := true, apart := false, narrowed := true }
def TableSumsUptoSaid : Prop := tableSumsUptoRow.holds Try.pinned (OpenSpec.upto tableSumsSpec)

end Rows
end Go.Proofs.Ytmfddaihepjfeaa
