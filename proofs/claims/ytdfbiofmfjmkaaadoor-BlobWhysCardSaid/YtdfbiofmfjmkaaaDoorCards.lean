/-
  DERIVED. GIVEN WITH THE SEED: THE CARDS: each row of YtdfbiofmfjmkaaaDoorRows.lean that lists a variable, with what it lists TIED to the program's text (the seventh form; the later family's looks); each row that meets fmt, with fmt's text TOLD by the authors' own Lean function (tested against real Go, not proved from fmt's source: count such statements apart). THE CARD IS WHAT COUNTS. Prove the row's statement (the work); the ties are given (YtdfbiofmfjmkaaaDoorTie.lean); close each card by the builder's one call (the guide's Derived/Test/ToyasCard.lean, 'card_holds'). Laid BY PROGRAM, IN A SANDBOX (cutbox-door.mjs). By AI agents, Wed Nov 11 2026. No macro, syntax, notation, axiom, sorry.
-/
import Derived.Test.YtdfbiofmfjmkaaaDoorRows
import GoSem.ClaimSeven
namespace Go.Proofs.YtdfbiofmfjmkaaaDoor
namespace Rows

/-- THE TIED CARD OF 'purlinlaw02.BlobPieces'. -/
def blobPiecesCard : Claim7 := { stood := { row := blobPiecesRow, standIns := [], harness := (true, "a784ada496325d311839da3e81b83879d031a7ec71d016ec285725f05979154d"), looks := true }, kinds := [], alts := [], laidByText := true, laidKinds := [.handle], laidTests := true, laidLooks := .later }
def BlobPiecesCardSaid : Prop := Claim7.holds Tryd.pinned (.plain (OpenSpec.ofChange blobPiecesSpec)) blobPiecesCard

/-- THE TIED CARD OF 'purlinlaw02.BlobNumbers'. -/
def blobNumbersCard : Claim7 := { stood := { row := blobNumbersRow, standIns := [], harness := (true, "a784ada496325d311839da3e81b83879d031a7ec71d016ec285725f05979154d"), looks := true }, kinds := [], alts := [], laidByText := true, laidKinds := [.handle], laidTests := true, laidLooks := .later }
def BlobNumbersCardSaid : Prop := Claim7.holds Tryd.pinned (.plain (OpenSpec.ofChange blobNumbersSpec)) blobNumbersCard

/-- THE TIED CARD OF 'purlinlaw02.BlobReads'. -/
def blobReadsCard : Claim7 := { stood := { row := blobReadsRow, standIns := [], harness := (true, "a784ada496325d311839da3e81b83879d031a7ec71d016ec285725f05979154d"), looks := true }, kinds := [], alts := [], laidByText := true, laidKinds := [.handle], laidTests := true, laidLooks := .later }
def BlobReadsCardSaid : Prop := Claim7.holds Tryd.pinned (.plain (OpenSpec.ofChange blobReadsSpec)) blobReadsCard

/-- THE TIED CARD OF 'purlinlaw02.BlobOwn'. -/
def blobOwnCard : Claim7 := { stood := { row := blobOwnRow, standIns := [], harness := (true, "a784ada496325d311839da3e81b83879d031a7ec71d016ec285725f05979154d"), looks := true }, kinds := [], alts := [], laidByText := true, laidKinds := [.handle], laidTests := true, laidLooks := .later }
def BlobOwnCardSaid : Prop := Claim7.holds Tryd.pinned (.plain (OpenSpec.ofChange blobOwnSpec)) blobOwnCard

/-- THE TIED CARD OF 'purlinlaw02.BlobWhys'. -/
def blobWhysCard : Claim7 := { stood := { row := blobWhysRow, standIns := [], harness := (true, "a784ada496325d311839da3e81b83879d031a7ec71d016ec285725f05979154d"), looks := true }, kinds := [], alts := [], laidByText := true, laidKinds := [.handle], laidTests := true, laidLooks := .later }
def BlobWhysCardSaid : Prop := Claim7.holds Tryd.pinned (.plain (OpenSpec.ofChange blobWhysSpec)) blobWhysCard

/-- THE TIED CARD OF 'purlinlaw02.BlobFails'. -/
def blobFailsCard : Claim7 := { stood := { row := blobFailsRow, standIns := [], harness := (true, "a784ada496325d311839da3e81b83879d031a7ec71d016ec285725f05979154d"), looks := true }, kinds := [], alts := [], laidByText := true, laidKinds := [.handle], laidTests := true, laidLooks := .later }
def BlobFailsCardSaid : Prop := Claim7.holds Tryd.pinned (.plain (OpenSpec.ofChange blobFailsSpec)) blobFailsCard

/-- THE SECOND FORM's CARD OF 'purlinlaw02.BlobPieces'. -/
def blobPiecesUptoCard : Claim7 := { stood := { row := blobPiecesUptoRow, standIns := [], harness := (true, "a784ada496325d311839da3e81b83879d031a7ec71d016ec285725f05979154d"), looks := true }, kinds := [], alts := [], laidByText := true, laidKinds := [.handle], laidTests := true, laidLooks := .later }
def BlobPiecesUptoCardSaid : Prop := Claim7.holds Tryd.pinned (.plain (OpenSpec.upto blobPiecesSpec)) blobPiecesUptoCard

/-- THE SECOND FORM's CARD OF 'purlinlaw02.BlobNumbers'. -/
def blobNumbersUptoCard : Claim7 := { stood := { row := blobNumbersUptoRow, standIns := [], harness := (true, "a784ada496325d311839da3e81b83879d031a7ec71d016ec285725f05979154d"), looks := true }, kinds := [], alts := [], laidByText := true, laidKinds := [.handle], laidTests := true, laidLooks := .later }
def BlobNumbersUptoCardSaid : Prop := Claim7.holds Tryd.pinned (.plain (OpenSpec.upto blobNumbersSpec)) blobNumbersUptoCard

/-- THE SECOND FORM's CARD OF 'purlinlaw02.BlobReads'. -/
def blobReadsUptoCard : Claim7 := { stood := { row := blobReadsUptoRow, standIns := [], harness := (true, "a784ada496325d311839da3e81b83879d031a7ec71d016ec285725f05979154d"), looks := true }, kinds := [], alts := [], laidByText := true, laidKinds := [.handle], laidTests := true, laidLooks := .later }
def BlobReadsUptoCardSaid : Prop := Claim7.holds Tryd.pinned (.plain (OpenSpec.upto blobReadsSpec)) blobReadsUptoCard

/-- THE SECOND FORM's CARD OF 'purlinlaw02.BlobOwn'. -/
def blobOwnUptoCard : Claim7 := { stood := { row := blobOwnUptoRow, standIns := [], harness := (true, "a784ada496325d311839da3e81b83879d031a7ec71d016ec285725f05979154d"), looks := true }, kinds := [], alts := [], laidByText := true, laidKinds := [.handle], laidTests := true, laidLooks := .later }
def BlobOwnUptoCardSaid : Prop := Claim7.holds Tryd.pinned (.plain (OpenSpec.upto blobOwnSpec)) blobOwnUptoCard

/-- THE SECOND FORM's CARD OF 'purlinlaw02.BlobWhys'. -/
def blobWhysUptoCard : Claim7 := { stood := { row := blobWhysUptoRow, standIns := [], harness := (true, "a784ada496325d311839da3e81b83879d031a7ec71d016ec285725f05979154d"), looks := true }, kinds := [], alts := [], laidByText := true, laidKinds := [.handle], laidTests := true, laidLooks := .later }
def BlobWhysUptoCardSaid : Prop := Claim7.holds Tryd.pinned (.plain (OpenSpec.upto blobWhysSpec)) blobWhysUptoCard

/-- THE SECOND FORM's CARD OF 'purlinlaw02.BlobFails'. -/
def blobFailsUptoCard : Claim7 := { stood := { row := blobFailsUptoRow, standIns := [], harness := (true, "a784ada496325d311839da3e81b83879d031a7ec71d016ec285725f05979154d"), looks := true }, kinds := [], alts := [], laidByText := true, laidKinds := [.handle], laidTests := true, laidLooks := .later }
def BlobFailsUptoCardSaid : Prop := Claim7.holds Tryd.pinned (.plain (OpenSpec.upto blobFailsSpec)) blobFailsUptoCard
end Rows
end Go.Proofs.YtdfbiofmfjmkaaaDoor
