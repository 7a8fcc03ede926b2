/-
  DERIVED. GIVEN WITH THE SEED: THE CARDS: each row of YtnidplpjkhepmaaDoorRows.lean that lists a variable, with what it lists TIED to the program's text (the seventh form; the later family's looks); each row that meets fmt, with fmt's text TOLD by the authors' own Lean function (tested against real Go, not proved from fmt's source: count such statements apart). THE CARD IS WHAT COUNTS. Prove the row's statement (the work); the ties are given (YtnidplpjkhepmaaDoorTie.lean); close each card by the builder's one call (the guide's Derived/Test/ToyasCard.lean, 'card_holds'). Laid BY PROGRAM, IN A SANDBOX (cutbox-door.mjs). By AI agents, Wed Nov 11 2026. No macro, syntax, notation, axiom, sorry.
-/
import Derived.Test.YtnidplpjkhepmaaDoorRows
import GoSem.ClaimSeven
namespace Go.Proofs.YtnidplpjkhepmaaDoor
namespace Rows

/-- THE TIED CARD OF 'purlinlaw23.GangTogether'. -/
def gangTogetherCard : Claim7 := { stood := { row := gangTogetherRow, standIns := [], harness := (true, "dedb03af45e0ebe70bc4ac131bc5c32c1c86b6a2c66a9c4784964f3216c73a27"), looks := false }, kinds := [], alts := [], laidByText := true, laidKinds := [.data], laidTests := true, laidLooks := .later }
def GangTogetherCardSaid : Prop := Claim7.holds Tryd.pinned (.plain (OpenSpec.ofChange gangTogetherSpec)) gangTogetherCard

/-- THE TIED CARD OF 'purlinlaw23.GangEnds'. -/
def gangEndsCard : Claim7 := { stood := { row := gangEndsRow, standIns := [], harness := (true, "dedb03af45e0ebe70bc4ac131bc5c32c1c86b6a2c66a9c4784964f3216c73a27"), looks := false }, kinds := [], alts := [], laidByText := true, laidKinds := [.data], laidTests := true, laidLooks := .later }
def GangEndsCardSaid : Prop := Claim7.holds Tryd.pinned (.plain (OpenSpec.ofChange gangEndsSpec)) gangEndsCard

/-- THE TIED CARD OF 'purlinlaw23.GangMissed'. -/
def gangMissedCard : Claim7 := { stood := { row := gangMissedRow, standIns := [], harness := (true, "dedb03af45e0ebe70bc4ac131bc5c32c1c86b6a2c66a9c4784964f3216c73a27"), looks := false }, kinds := [], alts := [], laidByText := true, laidKinds := [.data], laidTests := true, laidLooks := .later }
def GangMissedCardSaid : Prop := Claim7.holds Tryd.pinned (.plain (OpenSpec.ofChange gangMissedSpec)) gangMissedCard

/-- THE SECOND FORM's CARD OF 'purlinlaw23.GangTogether'. -/
def gangTogetherUptoCard : Claim7 := { stood := { row := gangTogetherUptoRow, standIns := [], harness := (true, "dedb03af45e0ebe70bc4ac131bc5c32c1c86b6a2c66a9c4784964f3216c73a27"), looks := false }, kinds := [], alts := [], laidByText := true, laidKinds := [.data], laidTests := true, laidLooks := .later }
def GangTogetherUptoCardSaid : Prop := Claim7.holds Tryd.pinned (.plain (OpenSpec.upto gangTogetherSpec)) gangTogetherUptoCard

/-- THE SECOND FORM's CARD OF 'purlinlaw23.GangEnds'. -/
def gangEndsUptoCard : Claim7 := { stood := { row := gangEndsUptoRow, standIns := [], harness := (true, "dedb03af45e0ebe70bc4ac131bc5c32c1c86b6a2c66a9c4784964f3216c73a27"), looks := false }, kinds := [], alts := [], laidByText := true, laidKinds := [.data], laidTests := true, laidLooks := .later }
def GangEndsUptoCardSaid : Prop := Claim7.holds Tryd.pinned (.plain (OpenSpec.upto gangEndsSpec)) gangEndsUptoCard

/-- THE SECOND FORM's CARD OF 'purlinlaw23.GangMissed'. -/
def gangMissedUptoCard : Claim7 := { stood := { row := gangMissedUptoRow, standIns := [], harness := (true, "dedb03af45e0ebe70bc4ac131bc5c32c1c86b6a2c66a9c4784964f3216c73a27"), looks := false }, kinds := [], alts := [], laidByText := true, laidKinds := [.data], laidTests := true, laidLooks := .later }
def GangMissedUptoCardSaid : Prop := Claim7.holds Tryd.pinned (.plain (OpenSpec.upto gangMissedSpec)) gangMissedUptoCard
end Rows
end Go.Proofs.YtnidplpjkhepmaaDoor
