/-
  DERIVED. GIVEN WITH THE SEED: THE CARDS: each row of YtbphlapdhcgikaaDoorRows.lean that lists a variable, with what it lists TIED to the program's text (the seventh form; the later family's looks); each row that meets fmt, with fmt's text TOLD by the authors' own Lean function (tested against real Go, not proved from fmt's source: count such statements apart). THE CARD IS WHAT COUNTS. Prove the row's statement (the work); the ties are given (YtbphlapdhcgikaaDoorTie.lean); close each card by the builder's one call (the guide's Derived/Test/ToyasCard.lean, 'card_holds'). Laid BY PROGRAM, IN A SANDBOX (cutbox-door.mjs). By AI agents, Wed Nov 11 2026. No macro, syntax, notation, axiom, sorry.
-/
import Derived.Test.YtbphlapdhcgikaaDoorRows
import GoSem.ClaimSeven
namespace Go.Proofs.YtbphlapdhcgikaaDoor
namespace Rows

/-- THE TIED CARD OF 'purlinlaw03.PlanEncodes'. -/
def planEncodesCard : Claim7 := { stood := { row := planEncodesRow, standIns := [], harness := (true, "25769931ec03b337773ed9b7204de856dbd4e9af9fae911945e5c4c081ded0bf"), looks := true }, kinds := [], alts := [], laidByText := true, laidKinds := [.handle], laidTests := true, laidLooks := .later }
def PlanEncodesCardSaid : Prop := Claim7.holds Tryd.pinned (.plain (OpenSpec.ofChange planEncodesSpec)) planEncodesCard

/-- THE TIED CARD OF 'purlinlaw03.PlanDecodes'. -/
def planDecodesCard : Claim7 := { stood := { row := planDecodesRow, standIns := [], harness := (true, "25769931ec03b337773ed9b7204de856dbd4e9af9fae911945e5c4c081ded0bf"), looks := true }, kinds := [], alts := [], laidByText := true, laidKinds := [.handle], laidTests := true, laidLooks := .later }
def PlanDecodesCardSaid : Prop := Claim7.holds Tryd.pinned (.plain (OpenSpec.ofChange planDecodesSpec)) planDecodesCard

/-- THE TIED CARD OF 'purlinlaw03.PlanBack'. -/
def planBackCard : Claim7 := { stood := { row := planBackRow, standIns := [], harness := (true, "25769931ec03b337773ed9b7204de856dbd4e9af9fae911945e5c4c081ded0bf"), looks := true }, kinds := [], alts := [], laidByText := true, laidKinds := [.handle], laidTests := true, laidLooks := .later }
def PlanBackCardSaid : Prop := Claim7.holds Tryd.pinned (.plain (OpenSpec.ofChange planBackSpec)) planBackCard

/-- THE TIED CARD OF 'purlinlaw03.PlanOne'. -/
def planOneCard : Claim7 := { stood := { row := planOneRow, standIns := [], harness := (true, "25769931ec03b337773ed9b7204de856dbd4e9af9fae911945e5c4c081ded0bf"), looks := true }, kinds := [], alts := [], laidByText := true, laidKinds := [.handle], laidTests := true, laidLooks := .later }
def PlanOneCardSaid : Prop := Claim7.holds Tryd.pinned (.plain (OpenSpec.ofChange planOneSpec)) planOneCard

/-- THE TIED CARD OF 'purlinlaw03.PlanCut'. -/
def planCutCard : Claim7 := { stood := { row := planCutRow, standIns := [], harness := (true, "25769931ec03b337773ed9b7204de856dbd4e9af9fae911945e5c4c081ded0bf"), looks := true }, kinds := [], alts := [], laidByText := true, laidKinds := [.handle], laidTests := true, laidLooks := .later }
def PlanCutCardSaid : Prop := Claim7.holds Tryd.pinned (.plain (OpenSpec.ofChange planCutSpec)) planCutCard

/-- THE TIED CARD OF 'purlinlaw03.PlanSames'. -/
def planSamesCard : Claim7 := { stood := { row := planSamesRow, standIns := [], harness := (true, "25769931ec03b337773ed9b7204de856dbd4e9af9fae911945e5c4c081ded0bf"), looks := true }, kinds := [], alts := [], laidByText := true, laidKinds := [.handle], laidTests := true, laidLooks := .later }
def PlanSamesCardSaid : Prop := Claim7.holds Tryd.pinned (.plain (OpenSpec.ofChange planSamesSpec)) planSamesCard

/-- THE TIED CARD OF 'purlinlaw03.PlanOwn'. -/
def planOwnCard : Claim7 := { stood := { row := planOwnRow, standIns := [], harness := (true, "25769931ec03b337773ed9b7204de856dbd4e9af9fae911945e5c4c081ded0bf"), looks := true }, kinds := [], alts := [], laidByText := true, laidKinds := [.handle], laidTests := true, laidLooks := .later }
def PlanOwnCardSaid : Prop := Claim7.holds Tryd.pinned (.plain (OpenSpec.ofChange planOwnSpec)) planOwnCard

/-- THE SECOND FORM's CARD OF 'purlinlaw03.PlanEncodes'. -/
def planEncodesUptoCard : Claim7 := { stood := { row := planEncodesUptoRow, standIns := [], harness := (true, "25769931ec03b337773ed9b7204de856dbd4e9af9fae911945e5c4c081ded0bf"), looks := true }, kinds := [], alts := [], laidByText := true, laidKinds := [.handle], laidTests := true, laidLooks := .later }
def PlanEncodesUptoCardSaid : Prop := Claim7.holds Tryd.pinned (.plain (OpenSpec.upto planEncodesSpec)) planEncodesUptoCard

/-- THE SECOND FORM's CARD OF 'purlinlaw03.PlanDecodes'. -/
def planDecodesUptoCard : Claim7 := { stood := { row := planDecodesUptoRow, standIns := [], harness := (true, "25769931ec03b337773ed9b7204de856dbd4e9af9fae911945e5c4c081ded0bf"), looks := true }, kinds := [], alts := [], laidByText := true, laidKinds := [.handle], laidTests := true, laidLooks := .later }
def PlanDecodesUptoCardSaid : Prop := Claim7.holds Tryd.pinned (.plain (OpenSpec.upto planDecodesSpec)) planDecodesUptoCard

/-- THE SECOND FORM's CARD OF 'purlinlaw03.PlanBack'. -/
def planBackUptoCard : Claim7 := { stood := { row := planBackUptoRow, standIns := [], harness := (true, "25769931ec03b337773ed9b7204de856dbd4e9af9fae911945e5c4c081ded0bf"), looks := true }, kinds := [], alts := [], laidByText := true, laidKinds := [.handle], laidTests := true, laidLooks := .later }
def PlanBackUptoCardSaid : Prop := Claim7.holds Tryd.pinned (.plain (OpenSpec.upto planBackSpec)) planBackUptoCard

/-- THE SECOND FORM's CARD OF 'purlinlaw03.PlanOne'. -/
def planOneUptoCard : Claim7 := { stood := { row := planOneUptoRow, standIns := [], harness := (true, "25769931ec03b337773ed9b7204de856dbd4e9af9fae911945e5c4c081ded0bf"), looks := true }, kinds := [], alts := [], laidByText := true, laidKinds := [.handle], laidTests := true, laidLooks := .later }
def PlanOneUptoCardSaid : Prop := Claim7.holds Tryd.pinned (.plain (OpenSpec.upto planOneSpec)) planOneUptoCard

/-- THE SECOND FORM's CARD OF 'purlinlaw03.PlanCut'. -/
def planCutUptoCard : Claim7 := { stood := { row := planCutUptoRow, standIns := [], harness := (true, "25769931ec03b337773ed9b7204de856dbd4e9af9fae911945e5c4c081ded0bf"), looks := true }, kinds := [], alts := [], laidByText := true, laidKinds := [.handle], laidTests := true, laidLooks := .later }
def PlanCutUptoCardSaid : Prop := Claim7.holds Tryd.pinned (.plain (OpenSpec.upto planCutSpec)) planCutUptoCard

/-- THE SECOND FORM's CARD OF 'purlinlaw03.PlanSames'. -/
def planSamesUptoCard : Claim7 := { stood := { row := planSamesUptoRow, standIns := [], harness := (true, "25769931ec03b337773ed9b7204de856dbd4e9af9fae911945e5c4c081ded0bf"), looks := true }, kinds := [], alts := [], laidByText := true, laidKinds := [.handle], laidTests := true, laidLooks := .later }
def PlanSamesUptoCardSaid : Prop := Claim7.holds Tryd.pinned (.plain (OpenSpec.upto planSamesSpec)) planSamesUptoCard

/-- THE SECOND FORM's CARD OF 'purlinlaw03.PlanOwn'. -/
def planOwnUptoCard : Claim7 := { stood := { row := planOwnUptoRow, standIns := [], harness := (true, "25769931ec03b337773ed9b7204de856dbd4e9af9fae911945e5c4c081ded0bf"), looks := true }, kinds := [], alts := [], laidByText := true, laidKinds := [.handle], laidTests := true, laidLooks := .later }
def PlanOwnUptoCardSaid : Prop := Claim7.holds Tryd.pinned (.plain (OpenSpec.upto planOwnSpec)) planOwnUptoCard
end Rows
end Go.Proofs.YtbphlapdhcgikaaDoor
