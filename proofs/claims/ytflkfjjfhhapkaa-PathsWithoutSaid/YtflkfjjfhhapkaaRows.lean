/-
  No cell of these rows narrows 'for every input' (looked for: loops, veiled, ifaces, maps, wideKeys, modest, calm, conditions, laid).
  DERIVED. THE GIVEN ROWS OF THIS SEAT. 7 by the template 'for every input the law returns true; each argument reads behind the call as it read before'; 0 by the template 'total and deterministic' (their statements: YtflkfjjfhhapkaaTotals.lean).
  GIVEN WITH THE SEED: the statements are not yours to turn. If you find one false, say at which input.
  Laid BY PROGRAM, IN A SANDBOX (cutbox-rows.mjs): the forced cells as the released guide's own fill.sh prints them over the translation 0a93c2c49e15f753… (all of the seat's roots in one cut). By AI agents, Wed Nov 11 2026. No macro, syntax, notation, axiom, sorry.
-/
import Derived.Test.YtflkfjjfhhapkaaChecked
import GoSem.Claim
import GoSem.ClaimJoined
import GoSem.ClaimMapViews
import Derived.JoinedTies
import Derived.KernelRfl
namespace Go.Proofs.Ytflkfjjfhhapkaa
/- THE CELL 'sum', in the pinned program and in every row, IS THE sha256 OF THE DUMP (.gsa) THAT YtflkfjjfhhapkaaProg.lean LOADS. Nothing in Lean hashes anything: it is a label: what it is worth is what the hold of that sum in a sandbox is worth. -/
noncomputable def Try.pinned : Pinned := { name := "ytflkfjjfhhapkaa", sum := "0a93c2c49e15f7532c822735a50c7fa61dca60162040308f88ecb6d8b9b62709", checked := Try.checked }
namespace Rows
def none {H : Type} : Left H := { results := [], args := [] }

/-- 'purlinlaw06.PathsInto': WHATEVER THE INPUT: true; the input reads as it did. -/
def pathsIntoSpec : ChangeSpec := { name := "pathsInto", fn := fun _ => fun
  | [d1, d2] => { results := [.lit (.bool true)], args := [d1, d2] }
  | _ => none }
def pathsIntoRow : OpenClaim := { program := "ytflkfjjfhhapkaa", sum := "0a93c2c49e15f7532c822735a50c7fa61dca60162040308f88ecb6d8b9b62709", func := "purlin/purlinlaw06.PathsInto", spec := "pathsInto", unfollowed := true, recurses := true, apart := false }
def PathsIntoSaid : Prop := pathsIntoRow.holds Try.pinned (OpenSpec.ofChange pathsIntoSpec)

/-- ITS FALSE NEIGHBOUR: 'it returns false'. Refute it at one input. -/
def pathsIntoWrong : ChangeSpec := { name := "pathsInto", fn := fun _ => fun
  | [d1, d2] => { results := [.lit (.bool false)], args := [d1, d2] }
  | _ => none }
def PathsIntoWrongFalsely : Prop := pathsIntoRow.holds Try.pinned (OpenSpec.ofChange pathsIntoWrong)

/-- 'purlinlaw06.PathsOut': WHATEVER THE INPUT: true; the input reads as it did. -/
def pathsOutSpec : ChangeSpec := { name := "pathsOut", fn := fun _ => fun
  | [d1, d2, d3] => { results := [.lit (.bool true)], args := [d1, d2, d3] }
  | _ => none }
def pathsOutRow : OpenClaim := { program := "ytflkfjjfhhapkaa", sum := "0a93c2c49e15f7532c822735a50c7fa61dca60162040308f88ecb6d8b9b62709", func := "purlin/purlinlaw06.PathsOut", spec := "pathsOut", unfollowed := true, recurses := true, apart := false }
def PathsOutSaid : Prop := pathsOutRow.holds Try.pinned (OpenSpec.ofChange pathsOutSpec)

/-- ITS FALSE NEIGHBOUR: 'it returns false'. Refute it at one input. -/
def pathsOutWrong : ChangeSpec := { name := "pathsOut", fn := fun _ => fun
  | [d1, d2, d3] => { results := [.lit (.bool false)], args := [d1, d2, d3] }
  | _ => none }
def PathsOutWrongFalsely : Prop := pathsOutRow.holds Try.pinned (OpenSpec.ofChange pathsOutWrong)

/-- 'purlinlaw06.PathsEnds': WHATEVER THE INPUT: true; the input reads as it did. -/
def pathsEndsSpec : ChangeSpec := { name := "pathsEnds", fn := fun _ => fun
  | [d1, d2, d3] => { results := [.lit (.bool true)], args := [d1, d2, d3] }
  | _ => none }
def pathsEndsRow : OpenClaim := { program := "ytflkfjjfhhapkaa", sum := "0a93c2c49e15f7532c822735a50c7fa61dca60162040308f88ecb6d8b9b62709", func := "purlin/purlinlaw06.PathsEnds", spec := "pathsEnds", unfollowed := true, recurses := true, apart := false }
def PathsEndsSaid : Prop := pathsEndsRow.holds Try.pinned (OpenSpec.ofChange pathsEndsSpec)

/-- ITS FALSE NEIGHBOUR: 'it returns false'. Refute it at one input. -/
def pathsEndsWrong : ChangeSpec := { name := "pathsEnds", fn := fun _ => fun
  | [d1, d2, d3] => { results := [.lit (.bool false)], args := [d1, d2, d3] }
  | _ => none }
def PathsEndsWrongFalsely : Prop := pathsEndsRow.holds Try.pinned (OpenSpec.ofChange pathsEndsWrong)

/-- 'purlinlaw06.PathsGoes': WHATEVER THE INPUT: true; the input reads as it did. -/
def pathsGoesSpec : ChangeSpec := { name := "pathsGoes", fn := fun _ => fun
  | [d1, d2] => { results := [.lit (.bool true)], args := [d1, d2] }
  | _ => none }
def pathsGoesRow : OpenClaim := { program := "ytflkfjjfhhapkaa", sum := "0a93c2c49e15f7532c822735a50c7fa61dca60162040308f88ecb6d8b9b62709", func := "purlin/purlinlaw06.PathsGoes", spec := "pathsGoes", unfollowed := true, recurses := true, apart := false }
def PathsGoesSaid : Prop := pathsGoesRow.holds Try.pinned (OpenSpec.ofChange pathsGoesSpec)

/-- ITS FALSE NEIGHBOUR: 'it returns false'. Refute it at one input. -/
def pathsGoesWrong : ChangeSpec := { name := "pathsGoes", fn := fun _ => fun
  | [d1, d2] => { results := [.lit (.bool false)], args := [d1, d2] }
  | _ => none }
def PathsGoesWrongFalsely : Prop := pathsGoesRow.holds Try.pinned (OpenSpec.ofChange pathsGoesWrong)

/-- 'purlinlaw06.PathsMore': WHATEVER THE INPUT: true; the input reads as it did. -/
def pathsMoreSpec : ChangeSpec := { name := "pathsMore", fn := fun _ => fun
  | [d1, d2, d3] => { results := [.lit (.bool true)], args := [d1, d2, d3] }
  | _ => none }
def pathsMoreRow : OpenClaim := { program := "ytflkfjjfhhapkaa", sum := "0a93c2c49e15f7532c822735a50c7fa61dca60162040308f88ecb6d8b9b62709", func := "purlin/purlinlaw06.PathsMore", spec := "pathsMore", unfollowed := true, recurses := true, apart := false }
def PathsMoreSaid : Prop := pathsMoreRow.holds Try.pinned (OpenSpec.ofChange pathsMoreSpec)

/-- ITS FALSE NEIGHBOUR: 'it returns false'. Refute it at one input. -/
def pathsMoreWrong : ChangeSpec := { name := "pathsMore", fn := fun _ => fun
  | [d1, d2, d3] => { results := [.lit (.bool false)], args := [d1, d2, d3] }
  | _ => none }
def PathsMoreWrongFalsely : Prop := pathsMoreRow.holds Try.pinned (OpenSpec.ofChange pathsMoreWrong)

/-- 'purlinlaw06.PathsWithout': WHATEVER THE INPUT: true; the input reads as it did. -/
def pathsWithoutSpec : ChangeSpec := { name := "pathsWithout", fn := fun _ => fun
  | [d1, d2] => { results := [.lit (.bool true)], args := [d1, d2] }
  | _ => none }
def pathsWithoutRow : OpenClaim := { program := "ytflkfjjfhhapkaa", sum := "0a93c2c49e15f7532c822735a50c7fa61dca60162040308f88ecb6d8b9b62709", func := "purlin/purlinlaw06.PathsWithout", spec := "pathsWithout", unfollowed := true, recurses := true, apart := false }
def PathsWithoutSaid : Prop := pathsWithoutRow.holds Try.pinned (OpenSpec.ofChange pathsWithoutSpec)

/-- ITS FALSE NEIGHBOUR: 'it returns false'. Refute it at one input. -/
def pathsWithoutWrong : ChangeSpec := { name := "pathsWithout", fn := fun _ => fun
  | [d1, d2] => { results := [.lit (.bool false)], args := [d1, d2] }
  | _ => none }
def PathsWithoutWrongFalsely : Prop := pathsWithoutRow.holds Try.pinned (OpenSpec.ofChange pathsWithoutWrong)

/-- 'purlinlaw06.PathsQueue': WHATEVER THE INPUT: true; the input reads as it did. -/
def pathsQueueSpec : ChangeSpec := { name := "pathsQueue", fn := fun _ => fun
  | [d1, d2, d3] => { results := [.lit (.bool true)], args := [d1, d2, d3] }
  | _ => none }
def pathsQueueRow : OpenClaim := { program := "ytflkfjjfhhapkaa", sum := "0a93c2c49e15f7532c822735a50c7fa61dca60162040308f88ecb6d8b9b62709", func := "purlin/purlinlaw06.PathsQueue", spec := "pathsQueue", unfollowed := true, recurses := true, apart := false }
def PathsQueueSaid : Prop := pathsQueueRow.holds Try.pinned (OpenSpec.ofChange pathsQueueSpec)

/-- ITS FALSE NEIGHBOUR: 'it returns false'. Refute it at one input. -/
def pathsQueueWrong : ChangeSpec := { name := "pathsQueue", fn := fun _ => fun
  | [d1, d2, d3] => { results := [.lit (.bool false)], args := [d1, d2, d3] }
  | _ => none }
def PathsQueueWrongFalsely : Prop := pathsQueueRow.holds Try.pinned (OpenSpec.ofChange pathsQueueWrong)

/- THE SECOND FORM. 'bulk': how many values and letters a reading holds, each counted each time it is reached (what is shared counts as often as it is met; a slice's spare places count too). A statement '..UptoSaid' is the law's where the arguments, and the package variables that the reading takes, are together of bulk at most 1048576: NARROWER than '..Said'. Prove '..Said' where nothing that the law and all that it calls make is longer than what came in: it says more and counts as full. Else prove '..UptoSaid'. A law counts once. -/
mutual
def uptoBulk {H : Type} : DataW H → Nat
  | .lit (.string bytes) => bytes.length + 1
  | .lit _ => 1
  | .nil => 1
  | .ptr d => uptoBulk d + 1
  | .slice elems spare => uptoBulkAll elems + uptoBulkAll spare + 1
  | .agg parts => uptoBulkAll parts + 1
  | .iface _ d => uptoBulk d + 1
  | .map entries => uptoBulkEntries entries + 1
  | .held _ => 1
def uptoBulkAll {H : Type} : List (DataW H) → Nat
  | [] => 0
  | d :: r => uptoBulk d + uptoBulkAll r
def uptoBulkEntries {H : Type} : List (Lit × DataW H) → Nat
  | [] => 0
  | x :: r => uptoBulkEntry x + uptoBulkEntries r
def uptoBulkEntry {H : Type} : Lit × DataW H → Nat
  | (.string bytes, d) => bytes.length + uptoBulk d + 1
  | (_, d) => uptoBulk d + 1
 end
def uptoSmall : (H : Type) → List (DataW H) → Bool := fun _ ds => decide (uptoBulkAll ds ≤ 1048576)
def OpenSpec.upto (s : _root_.Go.ChangeSpec) : _root_.Go.OpenSpec := { _root_.Go.OpenSpec.ofChange s with cond := some uptoSmall }

/-- 'purlinlaw06.PathsInto', WHERE WHAT IT READS IS OF BULK AT MOST 1048576: true; the input reads as it did. -/
def pathsIntoUptoRow : OpenClaim := { program := "ytflkfjjfhhapkaa", sum := "0a93c2c49e15f7532c822735a50c7fa61dca60162040308f88ecb6d8b9b62709", func := "purlin/purlinlaw06.PathsInto", spec := "pathsInto", unfollowed := true, recurses := true, apart := false, narrowed := true }
def PathsIntoUptoSaid : Prop := pathsIntoUptoRow.holds Try.pinned (OpenSpec.upto pathsIntoSpec)

/-- 'purlinlaw06.PathsOut', WHERE WHAT IT READS IS OF BULK AT MOST 1048576: true; the input reads as it did. -/
def pathsOutUptoRow : OpenClaim := { program := "ytflkfjjfhhapkaa", sum := "0a93c2c49e15f7532c822735a50c7fa61dca60162040308f88ecb6d8b9b62709", func := "purlin/purlinlaw06.PathsOut", spec := "pathsOut", unfollowed := true, recurses := true, apart := false, narrowed := true }
def PathsOutUptoSaid : Prop := pathsOutUptoRow.holds Try.pinned (OpenSpec.upto pathsOutSpec)

/-- 'purlinlaw06.PathsEnds', WHERE WHAT IT READS IS OF BULK AT MOST 1048576: true; the input reads as it did. -/
def pathsEndsUptoRow : OpenClaim := { program := "ytflkfjjfhhapkaa", sum := "0a93c2c49e15f7532c822735a50c7fa61dca60162040308f88ecb6d8b9b62709", func := "purlin/purlinlaw06.PathsEnds", spec := "pathsEnds", unfollowed := true, recurses := true, apart := false, narrowed := true }
def PathsEndsUptoSaid : Prop := pathsEndsUptoRow.holds Try.pinned (OpenSpec.upto pathsEndsSpec)

/-- 'purlinlaw06.PathsGoes', WHERE WHAT IT READS IS OF BULK AT MOST 1048576: true; the input reads as it did. -/
def pathsGoesUptoRow : OpenClaim := { program := "ytflkfjjfhhapkaa", sum := "0a93c2c49e15f7532c822735a50c7fa61dca60162040308f88ecb6d8b9b62709", func := "purlin/purlinlaw06.PathsGoes", spec := "pathsGoes", unfollowed := true, recurses := true, apart := false, narrowed := true }
def PathsGoesUptoSaid : Prop := pathsGoesUptoRow.holds Try.pinned (OpenSpec.upto pathsGoesSpec)

/-- 'purlinlaw06.PathsMore', WHERE WHAT IT READS IS OF BULK AT MOST 1048576: true; the input reads as it did. -/
def pathsMoreUptoRow : OpenClaim := { program := "ytflkfjjfhhapkaa", sum := "0a93c2c49e15f7532c822735a50c7fa61dca60162040308f88ecb6d8b9b62709", func := "purlin/purlinlaw06.PathsMore", spec := "pathsMore", unfollowed := true, recurses := true, apart := false, narrowed := true }
def PathsMoreUptoSaid : Prop := pathsMoreUptoRow.holds Try.pinned (OpenSpec.upto pathsMoreSpec)

/-- 'purlinlaw06.PathsWithout', WHERE WHAT IT READS IS OF BULK AT MOST 1048576: true; the input reads as it did. -/
def pathsWithoutUptoRow : OpenClaim := { program := "ytflkfjjfhhapkaa", sum := "0a93c2c49e15f7532c822735a50c7fa61dca60162040308f88ecb6d8b9b62709", func := "purlin/purlinlaw06.PathsWithout", spec := "pathsWithout", unfollowed := true, recurses := true, apart := false, narrowed := true }
def PathsWithoutUptoSaid : Prop := pathsWithoutUptoRow.holds Try.pinned (OpenSpec.upto pathsWithoutSpec)

/-- 'purlinlaw06.PathsQueue', WHERE WHAT IT READS IS OF BULK AT MOST 1048576: true; the input reads as it did. -/
def pathsQueueUptoRow : OpenClaim := { program := "ytflkfjjfhhapkaa", sum := "0a93c2c49e15f7532c822735a50c7fa61dca60162040308f88ecb6d8b9b62709", func := "purlin/purlinlaw06.PathsQueue", spec := "pathsQueue", unfollowed := true, recurses := true, apart := false, narrowed := true }
def PathsQueueUptoSaid : Prop := pathsQueueUptoRow.holds Try.pinned (OpenSpec.upto pathsQueueSpec)

end Rows
end Go.Proofs.Ytflkfjjfhhapkaa
