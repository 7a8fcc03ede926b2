/-
  NARROWER THAN 'FOR EVERY INPUT', by the rows' own cells (each row's printed sentence says how): BlobPieces: laid · BlobNumbers: laid · BlobReads: laid · BlobOwn: laid · BlobWhys: laid · BlobFails: laid.
  DERIVED. THE GIVEN ROWS OF THIS SEAT. 6 by the template 'for every input the law returns true; each argument reads behind the call as it read before'; 0 by the template 'total and deterministic' (their statements: YtdfbiofmfjmkaaaDoorTotals.lean).
  GIVEN WITH THE SEED: the statements are not yours to turn. If you find one false, say at which input.
  Laid BY PROGRAM, IN A SANDBOX (cutbox-rows.mjs): the forced cells as the released guide's own fill.sh prints them over the translation 081b10be319a483f… (all of the seat's roots in one cut). By AI agents, Wed Nov 11 2026. No macro, syntax, notation, axiom, sorry.
-/
import Derived.Test.YtdfbiofmfjmkaaaDoorChecked
import GoSem.Claim
import GoSem.ClaimJoined
import GoSem.ClaimMapViews
import Derived.JoinedTies
import Derived.KernelRfl
namespace Go.Proofs.YtdfbiofmfjmkaaaDoor
/- THE CELL 'sum', in the pinned program and in every row, IS THE sha256 OF THE DUMP (.gsa) THAT YtdfbiofmfjmkaaaDoorProg.lean LOADS. Nothing in Lean hashes anything: it is a label: what it is worth is what the hold of that sum in a sandbox is worth. -/
noncomputable def Tryd.pinned : Pinned := { name := "ytdfbiofmfjmkaaadoor", sum := "081b10be319a483f7272bc1b8a8e622f06e033904f1026db8d8fa50b58728e24", checked := Tryd.checked }
namespace Rows
def none {H : Type} : Left H := { results := [], args := [] }

/- WHAT THE LISTED PACKAGE-LEVEL VARIABLES READ AS WHEN THE CALL BEGINS. Each datum BY PROGRAM (the guide's laid-datum.mjs) off the statement by which the dump's own 'gosem.cut.vars' lays the variable. In a bare row this is a premise. The card (YtdfbiofmfjmkaaaDoorCards.lean) ties it to the program's text. -/
def laid_errors_errorType {H : Type} : DataW H := .iface "internal/reflectlite.rtype" (.agg [.ptr (.lit (.string [101, 114, 114, 111, 114]))])

/-- 'purlinlaw02.BlobPieces': WHATEVER THE INPUT: true; the input reads as it did. -/
def blobPiecesSpec : ChangeSpec := { name := "blobPieces", fn := fun _ => fun
  | [d1, d2] => { results := [.lit (.bool true)], args := [d1, d2] }
  | _ => none }
def blobPiecesRow : OpenClaim := { program := "ytdfbiofmfjmkaaadoor", sum := "081b10be319a483f7272bc1b8a8e622f06e033904f1026db8d8fa50b58728e24", func := "purlin/purlinlaw02.BlobPieces", spec := "blobPieces", inPlace := ["internal/reflectlite.ValueOf", "(internal/reflectlite.Value).Type", "(internal/reflectlite.Value).IsNil", "internal/reflectlite.TypeOf", "(internal/reflectlite.Value).Elem", "(internal/reflectlite.Value).Set"], unfollowed := true, recurses := true, named := ["errors.errorType"], apart := false, laid := [("errors.errorType", laid_errors_errorType)] }
def BlobPiecesSaid : Prop := blobPiecesRow.holds Tryd.pinned (OpenSpec.ofChange blobPiecesSpec)

/-- ITS FALSE NEIGHBOUR: 'it returns false'. Refute it at one input. -/
def blobPiecesWrong : ChangeSpec := { name := "blobPieces", fn := fun _ => fun
  | [d1, d2] => { results := [.lit (.bool false)], args := [d1, d2] }
  | _ => none }
def BlobPiecesWrongFalsely : Prop := blobPiecesRow.holds Tryd.pinned (OpenSpec.ofChange blobPiecesWrong)

/-- 'purlinlaw02.BlobNumbers': WHATEVER THE INPUT: true; the input reads as it did. -/
def blobNumbersSpec : ChangeSpec := { name := "blobNumbers", fn := fun _ => fun
  | [d1, d2] => { results := [.lit (.bool true)], args := [d1, d2] }
  | _ => none }
def blobNumbersRow : OpenClaim := { program := "ytdfbiofmfjmkaaadoor", sum := "081b10be319a483f7272bc1b8a8e622f06e033904f1026db8d8fa50b58728e24", func := "purlin/purlinlaw02.BlobNumbers", spec := "blobNumbers", inPlace := ["internal/reflectlite.ValueOf", "(internal/reflectlite.Value).Type", "(internal/reflectlite.Value).IsNil", "internal/reflectlite.TypeOf", "(internal/reflectlite.Value).Elem", "(internal/reflectlite.Value).Set"], unfollowed := true, recurses := true, named := ["errors.errorType"], apart := false, laid := [("errors.errorType", laid_errors_errorType)] }
def BlobNumbersSaid : Prop := blobNumbersRow.holds Tryd.pinned (OpenSpec.ofChange blobNumbersSpec)

/-- ITS FALSE NEIGHBOUR: 'it returns false'. Refute it at one input. -/
def blobNumbersWrong : ChangeSpec := { name := "blobNumbers", fn := fun _ => fun
  | [d1, d2] => { results := [.lit (.bool false)], args := [d1, d2] }
  | _ => none }
def BlobNumbersWrongFalsely : Prop := blobNumbersRow.holds Tryd.pinned (OpenSpec.ofChange blobNumbersWrong)

/-- 'purlinlaw02.BlobReads': WHATEVER THE INPUT: true; the input reads as it did. -/
def blobReadsSpec : ChangeSpec := { name := "blobReads", fn := fun _ => fun
  | [d1, d2] => { results := [.lit (.bool true)], args := [d1, d2] }
  | _ => none }
def blobReadsRow : OpenClaim := { program := "ytdfbiofmfjmkaaadoor", sum := "081b10be319a483f7272bc1b8a8e622f06e033904f1026db8d8fa50b58728e24", func := "purlin/purlinlaw02.BlobReads", spec := "blobReads", inPlace := ["internal/reflectlite.ValueOf", "(internal/reflectlite.Value).Type", "(internal/reflectlite.Value).IsNil", "internal/reflectlite.TypeOf", "(internal/reflectlite.Value).Elem", "(internal/reflectlite.Value).Set"], unfollowed := true, recurses := true, named := ["errors.errorType"], apart := false, laid := [("errors.errorType", laid_errors_errorType)] }
def BlobReadsSaid : Prop := blobReadsRow.holds Tryd.pinned (OpenSpec.ofChange blobReadsSpec)

/-- ITS FALSE NEIGHBOUR: 'it returns false'. Refute it at one input. -/
def blobReadsWrong : ChangeSpec := { name := "blobReads", fn := fun _ => fun
  | [d1, d2] => { results := [.lit (.bool false)], args := [d1, d2] }
  | _ => none }
def BlobReadsWrongFalsely : Prop := blobReadsRow.holds Tryd.pinned (OpenSpec.ofChange blobReadsWrong)

/-- 'purlinlaw02.BlobOwn': WHATEVER THE INPUT: true; the input reads as it did. -/
def blobOwnSpec : ChangeSpec := { name := "blobOwn", fn := fun _ => fun
  | [d1, d2] => { results := [.lit (.bool true)], args := [d1, d2] }
  | _ => none }
def blobOwnRow : OpenClaim := { program := "ytdfbiofmfjmkaaadoor", sum := "081b10be319a483f7272bc1b8a8e622f06e033904f1026db8d8fa50b58728e24", func := "purlin/purlinlaw02.BlobOwn", spec := "blobOwn", inPlace := ["internal/reflectlite.ValueOf", "(internal/reflectlite.Value).Type", "(internal/reflectlite.Value).IsNil", "internal/reflectlite.TypeOf", "(internal/reflectlite.Value).Elem", "(internal/reflectlite.Value).Set"], unfollowed := true, recurses := true, named := ["errors.errorType"], apart := false, laid := [("errors.errorType", laid_errors_errorType)] }
def BlobOwnSaid : Prop := blobOwnRow.holds Tryd.pinned (OpenSpec.ofChange blobOwnSpec)

/-- ITS FALSE NEIGHBOUR: 'it returns false'. Refute it at one input. -/
def blobOwnWrong : ChangeSpec := { name := "blobOwn", fn := fun _ => fun
  | [d1, d2] => { results := [.lit (.bool false)], args := [d1, d2] }
  | _ => none }
def BlobOwnWrongFalsely : Prop := blobOwnRow.holds Tryd.pinned (OpenSpec.ofChange blobOwnWrong)

/-- 'purlinlaw02.BlobWhys': WHATEVER THE INPUT: true; the input reads as it did. -/
def blobWhysSpec : ChangeSpec := { name := "blobWhys", fn := fun _ => fun
  | [d1, d2, d3] => { results := [.lit (.bool true)], args := [d1, d2, d3] }
  | _ => none }
def blobWhysRow : OpenClaim := { program := "ytdfbiofmfjmkaaadoor", sum := "081b10be319a483f7272bc1b8a8e622f06e033904f1026db8d8fa50b58728e24", func := "purlin/purlinlaw02.BlobWhys", spec := "blobWhys", inPlace := ["internal/reflectlite.ValueOf", "(internal/reflectlite.Value).Type", "(internal/reflectlite.Value).IsNil", "internal/reflectlite.TypeOf", "(internal/reflectlite.Value).Elem", "(internal/reflectlite.Value).Set"], unfollowed := true, recurses := true, named := ["errors.errorType"], apart := false, laid := [("errors.errorType", laid_errors_errorType)] }
def BlobWhysSaid : Prop := blobWhysRow.holds Tryd.pinned (OpenSpec.ofChange blobWhysSpec)

/-- ITS FALSE NEIGHBOUR: 'it returns false'. Refute it at one input. -/
def blobWhysWrong : ChangeSpec := { name := "blobWhys", fn := fun _ => fun
  | [d1, d2, d3] => { results := [.lit (.bool false)], args := [d1, d2, d3] }
  | _ => none }
def BlobWhysWrongFalsely : Prop := blobWhysRow.holds Tryd.pinned (OpenSpec.ofChange blobWhysWrong)

/-- 'purlinlaw02.BlobFails': WHATEVER THE INPUT: true; the input reads as it did. -/
def blobFailsSpec : ChangeSpec := { name := "blobFails", fn := fun _ => fun
  | [d1, d2, d3] => { results := [.lit (.bool true)], args := [d1, d2, d3] }
  | _ => none }
def blobFailsRow : OpenClaim := { program := "ytdfbiofmfjmkaaadoor", sum := "081b10be319a483f7272bc1b8a8e622f06e033904f1026db8d8fa50b58728e24", func := "purlin/purlinlaw02.BlobFails", spec := "blobFails", inPlace := ["internal/reflectlite.ValueOf", "(internal/reflectlite.Value).Type", "(internal/reflectlite.Value).IsNil", "internal/reflectlite.TypeOf", "(internal/reflectlite.Value).Elem", "(internal/reflectlite.Value).Set"], unfollowed := true, recurses := true, named := ["errors.errorType"], apart := false, laid := [("errors.errorType", laid_errors_errorType)] }
def BlobFailsSaid : Prop := blobFailsRow.holds Tryd.pinned (OpenSpec.ofChange blobFailsSpec)

/-- ITS FALSE NEIGHBOUR: 'it returns false'. Refute it at one input. -/
def blobFailsWrong : ChangeSpec := { name := "blobFails", fn := fun _ => fun
  | [d1, d2, d3] => { results := [.lit (.bool false)], args := [d1, d2, d3] }
  | _ => none }
def BlobFailsWrongFalsely : Prop := blobFailsRow.holds Tryd.pinned (OpenSpec.ofChange blobFailsWrong)

/- THE SECOND FORM. 'bulk': how many values and letters a reading holds, each counted each time it is reached (what is shared counts as often as it is met; a slice's spare places count too). A statement '..UptoSaid' is the law's where the arguments, and the package variables that the reading takes, are together of bulk at most 1048576: NARROWER than '..Said'. Prove '..Said' where nothing that the law and all that it calls make is longer than what came in: it says more and counts as full. Else prove '..UptoSaid'. A law counts once. -/
mutual
def uptoBulk {H : Type} : DataW H → Nat
  | .lit (.string bytes) => bytes.length + 1
  | .lit _ => 1
  | .nil => 1
  | .ptr d => uptoBulk d + 1
  | .slice elems spare => uptoBulkAll elems + uptoBulkAll spare + 1
  | .agg parts => uptoBulkAll parts + 1
  | .iface _ d => uptoBulk d + 1
  | .map entries => uptoBulkEntries entries + 1
  | .held _ => 1
def uptoBulkAll {H : Type} : List (DataW H) → Nat
  | [] => 0
  | d :: r => uptoBulk d + uptoBulkAll r
def uptoBulkEntries {H : Type} : List (Lit × DataW H) → Nat
  | [] => 0
  | x :: r => uptoBulkEntry x + uptoBulkEntries r
def uptoBulkEntry {H : Type} : Lit × DataW H → Nat
  | (.string bytes, d) => bytes.length + uptoBulk d + 1
  | (_, d) => uptoBulk d + 1
 end
def uptoSmall : (H : Type) → List (DataW H) → Bool := fun _ ds => decide (uptoBulkAll ds ≤ 1048576)
def OpenSpec.upto (s : _root_.Go.ChangeSpec) : _root_.Go.OpenSpec := { _root_.Go.OpenSpec.ofChange s with cond := some uptoSmall }

/-- 'purlinlaw02.BlobPieces', WHERE WHAT IT READS IS OF BULK AT MOST 1048576: true; the input reads as it did. -/
def blobPiecesUptoRow : OpenClaim := { program := "ytdfbiofmfjmkaaadoor", sum := "081b10be319a483f7272bc1b8a8e622f06e033904f1026db8d8fa50b58728e24", func := "purlin/purlinlaw02.BlobPieces", spec := "blobPieces", inPlace := ["internal/reflectlite.ValueOf", "(internal/reflectlite.Value).Type", "(internal/reflectlite.Value).IsNil", "internal/reflectlite.TypeOf", "(internal/reflectlite.Value).Elem", "(internal/reflectlite.Value).Set"], unfollowed := true, recurses := true, named := ["errors.errorType"], apart := false, laid := [("errors.errorType", laid_errors_errorType)], narrowed := true }
def BlobPiecesUptoSaid : Prop := blobPiecesUptoRow.holds Tryd.pinned (OpenSpec.upto blobPiecesSpec)

/-- 'purlinlaw02.BlobNumbers', WHERE WHAT IT READS IS OF BULK AT MOST 1048576: true; the input reads as it did. -/
def blobNumbersUptoRow : OpenClaim := { program := "ytdfbiofmfjmkaaadoor", sum := "081b10be319a483f7272bc1b8a8e622f06e033904f1026db8d8fa50b58728e24", func := "purlin/purlinlaw02.BlobNumbers", spec := "blobNumbers", inPlace := ["internal/reflectlite.ValueOf", "(internal/reflectlite.Value).Type", "(internal/reflectlite.Value).IsNil", "internal/reflectlite.TypeOf", "(internal/reflectlite.Value).Elem", "(internal/reflectlite.Value).Set"], unfollowed := true, recurses := true, named := ["errors.errorType"], apart := false, laid := [("errors.errorType", laid_errors_errorType)], narrowed := true }
def BlobNumbersUptoSaid : Prop := blobNumbersUptoRow.holds Tryd.pinned (OpenSpec.upto blobNumbersSpec)

/-- 'purlinlaw02.BlobReads', WHERE WHAT IT READS IS OF BULK AT MOST 1048576: true; the input reads as it did. -/
def blobReadsUptoRow : OpenClaim := { program := "ytdfbiofmfjmkaaadoor", sum := "081b10be319a483f7272bc1b8a8e622f06e033904f1026db8d8fa50b58728e24", func := "purlin/purlinlaw02.BlobReads", spec := "blobReads", inPlace := ["internal/reflectlite.ValueOf", "(internal/reflectlite.Value).Type", "(internal/reflectlite.Value).IsNil", "internal/reflectlite.TypeOf", "(internal/reflectlite.Value).Elem", "(internal/reflectlite.Value).Set"], unfollowed := true, recurses := true, named := ["errors.errorType"], apart := false, laid := [("errors.errorType", laid_errors_errorType)], narrowed := true }
def BlobReadsUptoSaid : Prop := blobReadsUptoRow.holds Tryd.pinned (OpenSpec.upto blobReadsSpec)

/-- 'purlinlaw02.BlobOwn', WHERE WHAT IT READS IS OF BULK AT MOST 1048576: true; the input reads as it did. -/
def blobOwnUptoRow : OpenClaim := { program := "ytdfbiofmfjmkaaadoor", sum := "081b10be319a483f7272bc1b8a8e622f06e033904f1026db8d8fa50b58728e24", func := "purlin/purlinlaw02.BlobOwn", spec := "blobOwn", inPlace := ["internal/reflectlite.ValueOf", "(internal/reflectlite.Value).Type", "(internal/reflectlite.Value).IsNil", "internal/reflectlite.TypeOf", "(internal/reflectlite.Value).Elem", "(internal/reflectlite.Value).Set"], unfollowed := true, recurses := true, named := ["errors.errorType"], apart := false, laid := [("errors.errorType", laid_errors_errorType)], narrowed := true }
def BlobOwnUptoSaid : Prop := blobOwnUptoRow.holds Tryd.pinned (OpenSpec.upto blobOwnSpec)

/-- 'purlinlaw02.BlobWhys', WHERE WHAT IT READS IS OF BULK AT MOST 1048576: true; the input reads as it did. -/
def blobWhysUptoRow : OpenClaim := { program := "ytdfbiofmfjmkaaadoor", sum := "081b10be319a483f7272bc1b8a8e622f06e033904f1026db8d8fa50b58728e24", func := "purlin/purlinlaw02.BlobWhys", spec := "blobWhys", inPlace := ["internal/reflectlite.ValueOf", "(internal/reflectlite.Value).Type", "(internal/reflectlite.Value).IsNil", "internal/reflectlite.TypeOf", "(internal/reflectlite.Value).Elem", "(internal/reflectlite.Value).Set"], unfollowed := true, recurses := true, named := ["errors.errorType"], apart := false, laid := [("errors.errorType", laid_errors_errorType)], narrowed := true }
def BlobWhysUptoSaid : Prop := blobWhysUptoRow.holds Tryd.pinned (OpenSpec.upto blobWhysSpec)

/-- 'purlinlaw02.BlobFails', WHERE WHAT IT READS IS OF BULK AT MOST 1048576: true; the input reads as it did. -/
def blobFailsUptoRow : OpenClaim := { program := "ytdfbiofmfjmkaaadoor", sum := "081b10be319a483f7272bc1b8a8e622f06e033904f1026db8d8fa50b58728e24", func := "purlin/purlinlaw02.BlobFails", spec := "blobFails", inPlace := ["internal/reflectlite.ValueOf", "(internal/reflectlite.Value).Type", "(internal/reflectlite.Value).IsNil", "internal/reflectlite.TypeOf", "(internal/reflectlite.Value).Elem", "(internal/reflectlite.Value).Set"], unfollowed := true, recurses := true, named := ["errors.errorType"], apart := false, laid := [("errors.errorType", laid_errors_errorType)], narrowed := true }
def BlobFailsUptoSaid : Prop := blobFailsUptoRow.holds Tryd.pinned (OpenSpec.upto blobFailsSpec)

end Rows
end Go.Proofs.YtdfbiofmfjmkaaaDoor
