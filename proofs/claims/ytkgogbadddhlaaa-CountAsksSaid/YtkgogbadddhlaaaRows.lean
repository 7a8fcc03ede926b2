/-
  No cell of these rows narrows 'for every input' (looked for: loops, veiled, ifaces, maps, wideKeys, modest, calm, conditions, laid).
  DERIVED. THE GIVEN ROWS OF THIS SEAT. 8 by the template 'for every input the law returns true; each argument reads behind the call as it read before'; 0 by the template 'total and deterministic' (their statements: YtkgogbadddhlaaaTotals.lean).
  GIVEN WITH THE SEED: the statements are not yours to turn. If you find one false, say at which input.
  Laid BY PROGRAM, IN A SANDBOX (cutbox-rows.mjs): the forced cells as the released guide's own fill.sh prints them over the translation 44671838d8ab286f… (all of the seat's roots in one cut). By AI agents, Wed Nov 11 2026. No macro, syntax, notation, axiom, sorry.
-/
import Derived.Test.YtkgogbadddhlaaaChecked
import GoSem.Claim
import GoSem.ClaimJoined
import GoSem.ClaimMapViews
import Derived.JoinedTies
import Derived.KernelRfl
namespace Go.Proofs.Ytkgogbadddhlaaa
/- THE CELL 'sum', in the pinned program and in every row, IS THE sha256 OF THE DUMP (.gsa) THAT YtkgogbadddhlaaaProg.lean LOADS. Nothing in Lean hashes anything: it is a label: what it is worth is what the hold of that sum in a sandbox is worth. -/
noncomputable def Try.pinned : Pinned := { name := "ytkgogbadddhlaaa", sum := "44671838d8ab286ff2fb3fa4e2883aa5535c8dfb0ac6de15d893882e99ad85c9", checked := Try.checked }
namespace Rows
def none {H : Type} : Left H := { results := [], args := [] }

/-- 'purlinlaw01.CountIndices': WHATEVER THE INPUT: true; the input reads as it did. -/
def countIndicesSpec : ChangeSpec := { name := "countIndices", fn := fun _ => fun
  | [d1, d2] => { results := [.lit (.bool true)], args := [d1, d2] }
  | _ => none }
def countIndicesRow : OpenClaim := { program := "ytkgogbadddhlaaa", sum := "44671838d8ab286ff2fb3fa4e2883aa5535c8dfb0ac6de15d893882e99ad85c9", func := "purlin/purlinlaw01.CountIndices", spec := "countIndices", unfollowed := true, recurses := true, apart := false }
def CountIndicesSaid : Prop := countIndicesRow.holds Try.pinned (OpenSpec.ofChange countIndicesSpec)

/-- ITS FALSE NEIGHBOUR: 'it returns false'. Refute it at one input. -/
def countIndicesWrong : ChangeSpec := { name := "countIndices", fn := fun _ => fun
  | [d1, d2] => { results := [.lit (.bool false)], args := [d1, d2] }
  | _ => none }
def CountIndicesWrongFalsely : Prop := countIndicesRow.holds Try.pinned (OpenSpec.ofChange countIndicesWrong)

/-- 'purlinlaw01.CountRooms': WHATEVER THE INPUT: true; the input reads as it did. -/
def countRoomsSpec : ChangeSpec := { name := "countRooms", fn := fun _ => fun
  | [d1, d2, d3] => { results := [.lit (.bool true)], args := [d1, d2, d3] }
  | _ => none }
def countRoomsRow : OpenClaim := { program := "ytkgogbadddhlaaa", sum := "44671838d8ab286ff2fb3fa4e2883aa5535c8dfb0ac6de15d893882e99ad85c9", func := "purlin/purlinlaw01.CountRooms", spec := "countRooms", unfollowed := true, recurses := true, apart := false }
def CountRoomsSaid : Prop := countRoomsRow.holds Try.pinned (OpenSpec.ofChange countRoomsSpec)

/-- ITS FALSE NEIGHBOUR: 'it returns false'. Refute it at one input. -/
def countRoomsWrong : ChangeSpec := { name := "countRooms", fn := fun _ => fun
  | [d1, d2, d3] => { results := [.lit (.bool false)], args := [d1, d2, d3] }
  | _ => none }
def CountRoomsWrongFalsely : Prop := countRoomsRow.holds Try.pinned (OpenSpec.ofChange countRoomsWrong)

/-- 'purlinlaw01.CountSets': WHATEVER THE INPUT: true; the input reads as it did. -/
def countSetsSpec : ChangeSpec := { name := "countSets", fn := fun _ => fun
  | [d] => { results := [.lit (.bool true)], args := [d] }
  | _ => none }
def countSetsRow : OpenClaim := { program := "ytkgogbadddhlaaa", sum := "44671838d8ab286ff2fb3fa4e2883aa5535c8dfb0ac6de15d893882e99ad85c9", func := "purlin/purlinlaw01.CountSets", spec := "countSets", unfollowed := true, recurses := true, apart := false }
def CountSetsSaid : Prop := countSetsRow.holds Try.pinned (OpenSpec.ofChange countSetsSpec)

/-- ITS FALSE NEIGHBOUR: 'it returns false'. Refute it at one input. -/
def countSetsWrong : ChangeSpec := { name := "countSets", fn := fun _ => fun
  | [d] => { results := [.lit (.bool false)], args := [d] }
  | _ => none }
def CountSetsWrongFalsely : Prop := countSetsRow.holds Try.pinned (OpenSpec.ofChange countSetsWrong)

/-- 'purlinlaw01.CountMembers': WHATEVER THE INPUT: true; the input reads as it did. -/
def countMembersSpec : ChangeSpec := { name := "countMembers", fn := fun _ => fun
  | [d1, d2] => { results := [.lit (.bool true)], args := [d1, d2] }
  | _ => none }
def countMembersRow : OpenClaim := { program := "ytkgogbadddhlaaa", sum := "44671838d8ab286ff2fb3fa4e2883aa5535c8dfb0ac6de15d893882e99ad85c9", func := "purlin/purlinlaw01.CountMembers", spec := "countMembers", unfollowed := true, recurses := true, apart := false }
def CountMembersSaid : Prop := countMembersRow.holds Try.pinned (OpenSpec.ofChange countMembersSpec)

/-- ITS FALSE NEIGHBOUR: 'it returns false'. Refute it at one input. -/
def countMembersWrong : ChangeSpec := { name := "countMembers", fn := fun _ => fun
  | [d1, d2] => { results := [.lit (.bool false)], args := [d1, d2] }
  | _ => none }
def CountMembersWrongFalsely : Prop := countMembersRow.holds Try.pinned (OpenSpec.ofChange countMembersWrong)

/-- 'purlinlaw01.CountMakes': WHATEVER THE INPUT: true; the input reads as it did. -/
def countMakesSpec : ChangeSpec := { name := "countMakes", fn := fun _ => fun
  | [d1, d2, d3] => { results := [.lit (.bool true)], args := [d1, d2, d3] }
  | _ => none }
def countMakesRow : OpenClaim := { program := "ytkgogbadddhlaaa", sum := "44671838d8ab286ff2fb3fa4e2883aa5535c8dfb0ac6de15d893882e99ad85c9", func := "purlin/purlinlaw01.CountMakes", spec := "countMakes", unfollowed := true, recurses := true, apart := false }
def CountMakesSaid : Prop := countMakesRow.holds Try.pinned (OpenSpec.ofChange countMakesSpec)

/-- ITS FALSE NEIGHBOUR: 'it returns false'. Refute it at one input. -/
def countMakesWrong : ChangeSpec := { name := "countMakes", fn := fun _ => fun
  | [d1, d2, d3] => { results := [.lit (.bool false)], args := [d1, d2, d3] }
  | _ => none }
def CountMakesWrongFalsely : Prop := countMakesRow.holds Try.pinned (OpenSpec.ofChange countMakesWrong)

/-- 'purlinlaw01.CountTurns': WHATEVER THE INPUT: true; the input reads as it did. -/
def countTurnsSpec : ChangeSpec := { name := "countTurns", fn := fun _ => fun
  | [d1, d2, d3] => { results := [.lit (.bool true)], args := [d1, d2, d3] }
  | _ => none }
def countTurnsRow : OpenClaim := { program := "ytkgogbadddhlaaa", sum := "44671838d8ab286ff2fb3fa4e2883aa5535c8dfb0ac6de15d893882e99ad85c9", func := "purlin/purlinlaw01.CountTurns", spec := "countTurns", unfollowed := true, recurses := true, apart := false }
def CountTurnsSaid : Prop := countTurnsRow.holds Try.pinned (OpenSpec.ofChange countTurnsSpec)

/-- ITS FALSE NEIGHBOUR: 'it returns false'. Refute it at one input. -/
def countTurnsWrong : ChangeSpec := { name := "countTurns", fn := fun _ => fun
  | [d1, d2, d3] => { results := [.lit (.bool false)], args := [d1, d2, d3] }
  | _ => none }
def CountTurnsWrongFalsely : Prop := countTurnsRow.holds Try.pinned (OpenSpec.ofChange countTurnsWrong)

/-- 'purlinlaw01.CountBack': WHATEVER THE INPUT: true; the input reads as it did. -/
def countBackSpec : ChangeSpec := { name := "countBack", fn := fun _ => fun
  | [d1, d2] => { results := [.lit (.bool true)], args := [d1, d2] }
  | _ => none }
def countBackRow : OpenClaim := { program := "ytkgogbadddhlaaa", sum := "44671838d8ab286ff2fb3fa4e2883aa5535c8dfb0ac6de15d893882e99ad85c9", func := "purlin/purlinlaw01.CountBack", spec := "countBack", unfollowed := true, recurses := true, apart := false }
def CountBackSaid : Prop := countBackRow.holds Try.pinned (OpenSpec.ofChange countBackSpec)

/-- ITS FALSE NEIGHBOUR: 'it returns false'. Refute it at one input. -/
def countBackWrong : ChangeSpec := { name := "countBack", fn := fun _ => fun
  | [d1, d2] => { results := [.lit (.bool false)], args := [d1, d2] }
  | _ => none }
def CountBackWrongFalsely : Prop := countBackRow.holds Try.pinned (OpenSpec.ofChange countBackWrong)

/-- 'purlinlaw01.CountAsks': WHATEVER THE INPUT: true; the input reads as it did. -/
def countAsksSpec : ChangeSpec := { name := "countAsks", fn := fun _ => fun
  | [d1, d2] => { results := [.lit (.bool true)], args := [d1, d2] }
  | _ => none }
def countAsksRow : OpenClaim := { program := "ytkgogbadddhlaaa", sum := "44671838d8ab286ff2fb3fa4e2883aa5535c8dfb0ac6de15d893882e99ad85c9", func := "purlin/purlinlaw01.CountAsks", spec := "countAsks", unfollowed := true, recurses := true, apart := false }
def CountAsksSaid : Prop := countAsksRow.holds Try.pinned (OpenSpec.ofChange countAsksSpec)

/-- ITS FALSE NEIGHBOUR: 'it returns false'. Refute it at one input. -/
def countAsksWrong : ChangeSpec := { name := "countAsks", fn := fun _ => fun
  | [d1, d2] => { results := [.lit (.bool false)], args := [d1, d2] }
  | _ => none }
def CountAsksWrongFalsely : Prop := countAsksRow.holds Try.pinned (OpenSpec.ofChange countAsksWrong)

/- THE SECOND FORM. 'bulk': how many values and letters a reading holds, each counted each time it is reached (what is shared counts as often as it is met; a slice's spare places count too). A statement '..UptoSaid' is the law's where the arguments, and the package variables that the reading takes, are together of bulk at most 1048576: NARROWER than '..Said'. Prove '..Said' where nothing that the law and all that it calls make is longer than what came in: it says more and counts as full. Else prove '..UptoSaid'. A law counts once. -/
mutual
def uptoBulk {H : Type} : DataW H → Nat
  | .lit (.string bytes) => bytes.length + 1
  | .lit _ => 1
  | .nil => 1
  | .ptr d => uptoBulk d + 1
  | .slice elems spare => uptoBulkAll elems + uptoBulkAll spare + 1
  | .agg parts => uptoBulkAll parts + 1
  | .iface _ d => uptoBulk d + 1
  | .map entries => uptoBulkEntries entries + 1
  | .held _ => 1
def uptoBulkAll {H : Type} : List (DataW H) → Nat
  | [] => 0
  | d :: r => uptoBulk d + uptoBulkAll r
def uptoBulkEntries {H : Type} : List (Lit × DataW H) → Nat
  | [] => 0
  | x :: r => uptoBulkEntry x + uptoBulkEntries r
def uptoBulkEntry {H : Type} : Lit × DataW H → Nat
  | (.string bytes, d) => bytes.length + uptoBulk d + 1
  | (_, d) => uptoBulk d + 1
 end
def uptoSmall : (H : Type) → List (DataW H) → Bool := fun _ ds => decide (uptoBulkAll ds ≤ 1048576)
def OpenSpec.upto (s : _root_.Go.ChangeSpec) : _root_.Go.OpenSpec := { _root_.Go.OpenSpec.ofChange s with cond := some uptoSmall }

/-- 'purlinlaw01.CountIndices', WHERE WHAT IT READS IS OF BULK AT MOST 1048576: true; the input reads as it did. -/
def countIndicesUptoRow : OpenClaim := { program := "ytkgogbadddhlaaa", sum := "44671838d8ab286ff2fb3fa4e2883aa5535c8dfb0ac6de15d893882e99ad85c9", func := "purlin/purlinlaw01.CountIndices", spec := "countIndices", unfollowed := true, recurses := true, apart := false, narrowed := true }
def CountIndicesUptoSaid : Prop := countIndicesUptoRow.holds Try.pinned (OpenSpec.upto countIndicesSpec)

/-- 'purlinlaw01.CountRooms', WHERE WHAT IT READS IS OF BULK AT MOST 1048576: true; the input reads as it did. -/
def countRoomsUptoRow : OpenClaim := { program := "ytkgogbadddhlaaa", sum := "44671838d8ab286ff2fb3fa4e2883aa5535c8dfb0ac6de15d893882e99ad85c9", func := "purlin/purlinlaw01.CountRooms", spec := "countRooms", unfollowed := true, recurses := true, apart := false, narrowed := true }
def CountRoomsUptoSaid : Prop := countRoomsUptoRow.holds Try.pinned (OpenSpec.upto countRoomsSpec)

/-- 'purlinlaw01.CountSets', WHERE WHAT IT READS IS OF BULK AT MOST 1048576: true; the input reads as it did. -/
def countSetsUptoRow : OpenClaim := { program := "ytkgogbadddhlaaa", sum := "44671838d8ab286ff2fb3fa4e2883aa5535c8dfb0ac6de15d893882e99ad85c9", func := "purlin/purlinlaw01.CountSets", spec := "countSets", unfollowed := true, recurses := true, apart := false, narrowed := true }
def CountSetsUptoSaid : Prop := countSetsUptoRow.holds Try.pinned (OpenSpec.upto countSetsSpec)

/-- 'purlinlaw01.CountMembers', WHERE WHAT IT READS IS OF BULK AT MOST 1048576: true; the input reads as it did. -/
def countMembersUptoRow : OpenClaim := { program := "ytkgogbadddhlaaa", sum := "44671838d8ab286ff2fb3fa4e2883aa5535c8dfb0ac6de15d893882e99ad85c9", func := "purlin/purlinlaw01.CountMembers", spec := "countMembers", unfollowed := true, recurses := true, apart := false, narrowed := true }
def CountMembersUptoSaid : Prop := countMembersUptoRow.holds Try.pinned (OpenSpec.upto countMembersSpec)

/-- 'purlinlaw01.CountMakes', WHERE WHAT IT READS IS OF BULK AT MOST 1048576: true; the input reads as it did. -/
def countMakesUptoRow : OpenClaim := { program := "ytkgogbadddhlaaa", sum := "44671838d8ab286ff2fb3fa4e2883aa5535c8dfb0ac6de15d893882e99ad85c9", func := "purlin/purlinlaw01.CountMakes", spec := "countMakes", unfollowed := true, recurses := true, apart := false, narrowed := true }
def CountMakesUptoSaid : Prop := countMakesUptoRow.holds Try.pinned (OpenSpec.upto countMakesSpec)

/-- 'purlinlaw01.CountTurns', WHERE WHAT IT READS IS OF BULK AT MOST 1048576: true; the input reads as it did. -/
def countTurnsUptoRow : OpenClaim := { program := "ytkgogbadddhlaaa", sum := "44671838d8ab286ff2fb3fa4e2883aa5535c8dfb0ac6de15d893882e99ad85c9", func := "purlin/purlinlaw01.CountTurns", spec := "countTurns", unfollowed := true, recurses := true, apart := false, narrowed := true }
def CountTurnsUptoSaid : Prop := countTurnsUptoRow.holds Try.pinned (OpenSpec.upto countTurnsSpec)

/-- 'purlinlaw01.CountBack', WHERE WHAT IT READS IS OF BULK AT MOST 1048576: true; the input reads as it did. -/
def countBackUptoRow : OpenClaim := { program := "ytkgogbadddhlaaa", sum := "44671838d8ab286ff2fb3fa4e2883aa5535c8dfb0ac6de15d893882e99ad85c9", func := "purlin/purlinlaw01.CountBack", spec := "countBack", unfollowed := true, recurses := true, apart := false, narrowed := true }
def CountBackUptoSaid : Prop := countBackUptoRow.holds Try.pinned (OpenSpec.upto countBackSpec)

/-- 'purlinlaw01.CountAsks', WHERE WHAT IT READS IS OF BULK AT MOST 1048576: true; the input reads as it did. -/
def countAsksUptoRow : OpenClaim := { program := "ytkgogbadddhlaaa", sum := "44671838d8ab286ff2fb3fa4e2883aa5535c8dfb0ac6de15d893882e99ad85c9", func := "purlin/purlinlaw01.CountAsks", spec := "countAsks", unfollowed := true, recurses := true, apart := false, narrowed := true }
def CountAsksUptoSaid : Prop := countAsksUptoRow.holds Try.pinned (OpenSpec.upto countAsksSpec)

end Rows
end Go.Proofs.Ytkgogbadddhlaaa
