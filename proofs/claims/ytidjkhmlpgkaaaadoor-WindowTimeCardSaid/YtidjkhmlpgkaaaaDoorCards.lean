/-
  DERIVED. GIVEN WITH THE SEED: THE CARDS: each row of YtidjkhmlpgkaaaaDoorRows.lean that lists a variable, with what it lists TIED to the program's text (the seventh form; the later family's looks); each row that meets fmt, with fmt's text TOLD by the authors' own Lean function (tested against real Go, not proved from fmt's source: count such statements apart). THE CARD IS WHAT COUNTS. Prove the row's statement (the work); the ties are given (YtidjkhmlpgkaaaaDoorTie.lean); close each card by the builder's one call (the guide's Derived/Test/ToyasCard.lean, 'card_holds'). Laid BY PROGRAM, IN A SANDBOX (cutbox-door.mjs). By AI agents, Wed Nov 11 2026. No macro, syntax, notation, axiom, sorry.
-/
import Derived.Test.YtidjkhmlpgkaaaaDoorRows
import GoSem.ClaimSeven
namespace Go.Proofs.YtidjkhmlpgkaaaaDoor
namespace Rows

/-- THE TIED CARD OF 'purlinlaw24.WindowInside'. -/
def windowInsideCard : Claim7 := { stood := { row := windowInsideRow, standIns := [], harness := (true, "c9db816847e399c6884c11739e1de6dfc7c5a0f1140451e23d00b182854e71d3"), looks := true }, kinds := [], alts := [], laidByText := true, laidKinds := [.data], laidTests := true, laidLooks := .later }
def WindowInsideCardSaid : Prop := Claim7.holds Tryd.pinned (.plain (OpenSpec.ofChange windowInsideSpec)) windowInsideCard

/-- THE TIED CARD OF 'purlinlaw24.WindowApart'. -/
def windowApartCard : Claim7 := { stood := { row := windowApartRow, standIns := [], harness := (true, "c9db816847e399c6884c11739e1de6dfc7c5a0f1140451e23d00b182854e71d3"), looks := true }, kinds := [], alts := [], laidByText := true, laidKinds := [.data], laidTests := true, laidLooks := .later }
def WindowApartCardSaid : Prop := Claim7.holds Tryd.pinned (.plain (OpenSpec.ofChange windowApartSpec)) windowApartCard

/-- THE TIED CARD OF 'purlinlaw24.WindowGang'. -/
def windowGangCard : Claim7 := { stood := { row := windowGangRow, standIns := [], harness := (true, "c9db816847e399c6884c11739e1de6dfc7c5a0f1140451e23d00b182854e71d3"), looks := true }, kinds := [], alts := [], laidByText := true, laidKinds := [.data], laidTests := true, laidLooks := .later }
def WindowGangCardSaid : Prop := Claim7.holds Tryd.pinned (.plain (OpenSpec.ofChange windowGangSpec)) windowGangCard

/-- THE TIED CARD OF 'purlinlaw24.WindowTime'. -/
def windowTimeCard : Claim7 := { stood := { row := windowTimeRow, standIns := [], harness := (true, "c9db816847e399c6884c11739e1de6dfc7c5a0f1140451e23d00b182854e71d3"), looks := true }, kinds := [], alts := [], laidByText := true, laidKinds := [.data], laidTests := true, laidLooks := .later }
def WindowTimeCardSaid : Prop := Claim7.holds Tryd.pinned (.plain (OpenSpec.ofChange windowTimeSpec)) windowTimeCard

/-- THE TIED CARD OF 'purlinlaw24.WindowPlays'. -/
def windowPlaysCard : Claim7 := { stood := { row := windowPlaysRow, standIns := [], harness := (true, "c9db816847e399c6884c11739e1de6dfc7c5a0f1140451e23d00b182854e71d3"), looks := true }, kinds := [], alts := [], laidByText := true, laidKinds := [.data], laidTests := true, laidLooks := .later }
def WindowPlaysCardSaid : Prop := Claim7.holds Tryd.pinned (.plain (OpenSpec.ofChange windowPlaysSpec)) windowPlaysCard

/-- THE TIED CARD OF 'purlinlaw24.WindowPlans'. -/
def windowPlansCard : Claim7 := { stood := { row := windowPlansRow, standIns := [], harness := (true, "c9db816847e399c6884c11739e1de6dfc7c5a0f1140451e23d00b182854e71d3"), looks := true }, kinds := [], alts := [], laidByText := true, laidKinds := [.data], laidTests := true, laidLooks := .later }
def WindowPlansCardSaid : Prop := Claim7.holds Tryd.pinned (.plain (OpenSpec.ofChange windowPlansSpec)) windowPlansCard

/-- THE SECOND FORM's CARD OF 'purlinlaw24.WindowInside'. -/
def windowInsideUptoCard : Claim7 := { stood := { row := windowInsideUptoRow, standIns := [], harness := (true, "c9db816847e399c6884c11739e1de6dfc7c5a0f1140451e23d00b182854e71d3"), looks := true }, kinds := [], alts := [], laidByText := true, laidKinds := [.data], laidTests := true, laidLooks := .later }
def WindowInsideUptoCardSaid : Prop := Claim7.holds Tryd.pinned (.plain (OpenSpec.upto windowInsideSpec)) windowInsideUptoCard

/-- THE SECOND FORM's CARD OF 'purlinlaw24.WindowApart'. -/
def windowApartUptoCard : Claim7 := { stood := { row := windowApartUptoRow, standIns := [], harness := (true, "c9db816847e399c6884c11739e1de6dfc7c5a0f1140451e23d00b182854e71d3"), looks := true }, kinds := [], alts := [], laidByText := true, laidKinds := [.data], laidTests := true, laidLooks := .later }
def WindowApartUptoCardSaid : Prop := Claim7.holds Tryd.pinned (.plain (OpenSpec.upto windowApartSpec)) windowApartUptoCard

/-- THE SECOND FORM's CARD OF 'purlinlaw24.WindowGang'. -/
def windowGangUptoCard : Claim7 := { stood := { row := windowGangUptoRow, standIns := [], harness := (true, "c9db816847e399c6884c11739e1de6dfc7c5a0f1140451e23d00b182854e71d3"), looks := true }, kinds := [], alts := [], laidByText := true, laidKinds := [.data], laidTests := true, laidLooks := .later }
def WindowGangUptoCardSaid : Prop := Claim7.holds Tryd.pinned (.plain (OpenSpec.upto windowGangSpec)) windowGangUptoCard

/-- THE SECOND FORM's CARD OF 'purlinlaw24.WindowTime'. -/
def windowTimeUptoCard : Claim7 := { stood := { row := windowTimeUptoRow, standIns := [], harness := (true, "c9db816847e399c6884c11739e1de6dfc7c5a0f1140451e23d00b182854e71d3"), looks := true }, kinds := [], alts := [], laidByText := true, laidKinds := [.data], laidTests := true, laidLooks := .later }
def WindowTimeUptoCardSaid : Prop := Claim7.holds Tryd.pinned (.plain (OpenSpec.upto windowTimeSpec)) windowTimeUptoCard

/-- THE SECOND FORM's CARD OF 'purlinlaw24.WindowPlays'. -/
def windowPlaysUptoCard : Claim7 := { stood := { row := windowPlaysUptoRow, standIns := [], harness := (true, "c9db816847e399c6884c11739e1de6dfc7c5a0f1140451e23d00b182854e71d3"), looks := true }, kinds := [], alts := [], laidByText := true, laidKinds := [.data], laidTests := true, laidLooks := .later }
def WindowPlaysUptoCardSaid : Prop := Claim7.holds Tryd.pinned (.plain (OpenSpec.upto windowPlaysSpec)) windowPlaysUptoCard

/-- THE SECOND FORM's CARD OF 'purlinlaw24.WindowPlans'. -/
def windowPlansUptoCard : Claim7 := { stood := { row := windowPlansUptoRow, standIns := [], harness := (true, "c9db816847e399c6884c11739e1de6dfc7c5a0f1140451e23d00b182854e71d3"), looks := true }, kinds := [], alts := [], laidByText := true, laidKinds := [.data], laidTests := true, laidLooks := .later }
def WindowPlansUptoCardSaid : Prop := Claim7.holds Tryd.pinned (.plain (OpenSpec.upto windowPlansSpec)) windowPlansUptoCard
end Rows
end Go.Proofs.YtidjkhmlpgkaaaaDoor
