/-
  DERIVED. GIVEN WITH THE SEED: THE CARDS: each row of YtpcjjmjmigibhaaDoorRows.lean that lists a variable, with what it lists TIED to the program's text (the seventh form; the later family's looks); each row that meets fmt, with fmt's text TOLD by the authors' own Lean function (tested against real Go, not proved from fmt's source: count such statements apart). THE CARD IS WHAT COUNTS. Prove the row's statement (the work); the ties are given (YtpcjjmjmigibhaaDoorTie.lean); close each card by the builder's one call (the guide's Derived/Test/ToyasCard.lean, 'card_holds'). Laid BY PROGRAM, IN A SANDBOX (cutbox-door.mjs). By AI agents, Wed Nov 11 2026. No macro, syntax, notation, axiom, sorry.
-/
import Derived.Test.YtpcjjmjmigibhaaDoorRows
import GoSem.ClaimSeven
namespace Go.Proofs.YtpcjjmjmigibhaaDoor
namespace Rows

/-- THE TIED CARD OF 'purlinlaw04.RulesChecks'. -/
def rulesChecksCard : Claim7 := { stood := { row := rulesChecksRow, standIns := [], harness := (true, "3c6423839f4f7906fe3e56859885f07af0230fd5267825ec24030f97840b4592"), looks := true }, kinds := [], alts := [], laidByText := true, laidKinds := [.handle], laidTests := true, laidLooks := .later }
def RulesChecksCardSaid : Prop := Claim7.holds Tryd.pinned (.plain (OpenSpec.ofChange rulesChecksSpec)) rulesChecksCard

/-- THE TIED CARD OF 'purlinlaw04.RulesWindows'. -/
def rulesWindowsCard : Claim7 := { stood := { row := rulesWindowsRow, standIns := [], harness := (true, "3c6423839f4f7906fe3e56859885f07af0230fd5267825ec24030f97840b4592"), looks := true }, kinds := [], alts := [], laidByText := true, laidKinds := [.handle], laidTests := true, laidLooks := .later }
def RulesWindowsCardSaid : Prop := Claim7.holds Tryd.pinned (.plain (OpenSpec.ofChange rulesWindowsSpec)) rulesWindowsCard

/-- THE TIED CARD OF 'purlinlaw04.RulesOverlaps'. -/
def rulesOverlapsCard : Claim7 := { stood := { row := rulesOverlapsRow, standIns := [], harness := (true, "3c6423839f4f7906fe3e56859885f07af0230fd5267825ec24030f97840b4592"), looks := true }, kinds := [], alts := [], laidByText := true, laidKinds := [.handle], laidTests := true, laidLooks := .later }
def RulesOverlapsCardSaid : Prop := Claim7.holds Tryd.pinned (.plain (OpenSpec.ofChange rulesOverlapsSpec)) rulesOverlapsCard

/-- THE TIED CARD OF 'purlinlaw04.RulesServes'. -/
def rulesServesCard : Claim7 := { stood := { row := rulesServesRow, standIns := [], harness := (true, "3c6423839f4f7906fe3e56859885f07af0230fd5267825ec24030f97840b4592"), looks := true }, kinds := [], alts := [], laidByText := true, laidKinds := [.handle], laidTests := true, laidLooks := .later }
def RulesServesCardSaid : Prop := Claim7.holds Tryd.pinned (.plain (OpenSpec.ofChange rulesServesSpec)) rulesServesCard

/-- THE TIED CARD OF 'purlinlaw04.RulesParts'. -/
def rulesPartsCard : Claim7 := { stood := { row := rulesPartsRow, standIns := [], harness := (true, "3c6423839f4f7906fe3e56859885f07af0230fd5267825ec24030f97840b4592"), looks := true }, kinds := [], alts := [], laidByText := true, laidKinds := [.handle], laidTests := true, laidLooks := .later }
def RulesPartsCardSaid : Prop := Claim7.holds Tryd.pinned (.plain (OpenSpec.ofChange rulesPartsSpec)) rulesPartsCard

/-- THE TIED CARD OF 'purlinlaw04.RulesLess'. -/
def rulesLessCard : Claim7 := { stood := { row := rulesLessRow, standIns := [], harness := (true, "3c6423839f4f7906fe3e56859885f07af0230fd5267825ec24030f97840b4592"), looks := true }, kinds := [], alts := [], laidByText := true, laidKinds := [.handle], laidTests := true, laidLooks := .later }
def RulesLessCardSaid : Prop := Claim7.holds Tryd.pinned (.plain (OpenSpec.ofChange rulesLessSpec)) rulesLessCard

/-- THE SECOND FORM's CARD OF 'purlinlaw04.RulesChecks'. -/
def rulesChecksUptoCard : Claim7 := { stood := { row := rulesChecksUptoRow, standIns := [], harness := (true, "3c6423839f4f7906fe3e56859885f07af0230fd5267825ec24030f97840b4592"), looks := true }, kinds := [], alts := [], laidByText := true, laidKinds := [.handle], laidTests := true, laidLooks := .later }
def RulesChecksUptoCardSaid : Prop := Claim7.holds Tryd.pinned (.plain (OpenSpec.upto rulesChecksSpec)) rulesChecksUptoCard

/-- THE SECOND FORM's CARD OF 'purlinlaw04.RulesWindows'. -/
def rulesWindowsUptoCard : Claim7 := { stood := { row := rulesWindowsUptoRow, standIns := [], harness := (true, "3c6423839f4f7906fe3e56859885f07af0230fd5267825ec24030f97840b4592"), looks := true }, kinds := [], alts := [], laidByText := true, laidKinds := [.handle], laidTests := true, laidLooks := .later }
def RulesWindowsUptoCardSaid : Prop := Claim7.holds Tryd.pinned (.plain (OpenSpec.upto rulesWindowsSpec)) rulesWindowsUptoCard

/-- THE SECOND FORM's CARD OF 'purlinlaw04.RulesOverlaps'. -/
def rulesOverlapsUptoCard : Claim7 := { stood := { row := rulesOverlapsUptoRow, standIns := [], harness := (true, "3c6423839f4f7906fe3e56859885f07af0230fd5267825ec24030f97840b4592"), looks := true }, kinds := [], alts := [], laidByText := true, laidKinds := [.handle], laidTests := true, laidLooks := .later }
def RulesOverlapsUptoCardSaid : Prop := Claim7.holds Tryd.pinned (.plain (OpenSpec.upto rulesOverlapsSpec)) rulesOverlapsUptoCard

/-- THE SECOND FORM's CARD OF 'purlinlaw04.RulesServes'. -/
def rulesServesUptoCard : Claim7 := { stood := { row := rulesServesUptoRow, standIns := [], harness := (true, "3c6423839f4f7906fe3e56859885f07af0230fd5267825ec24030f97840b4592"), looks := true }, kinds := [], alts := [], laidByText := true, laidKinds := [.handle], laidTests := true, laidLooks := .later }
def RulesServesUptoCardSaid : Prop := Claim7.holds Tryd.pinned (.plain (OpenSpec.upto rulesServesSpec)) rulesServesUptoCard

/-- THE SECOND FORM's CARD OF 'purlinlaw04.RulesParts'. -/
def rulesPartsUptoCard : Claim7 := { stood := { row := rulesPartsUptoRow, standIns := [], harness := (true, "3c6423839f4f7906fe3e56859885f07af0230fd5267825ec24030f97840b4592"), looks := true }, kinds := [], alts := [], laidByText := true, laidKinds := [.handle], laidTests := true, laidLooks := .later }
def RulesPartsUptoCardSaid : Prop := Claim7.holds Tryd.pinned (.plain (OpenSpec.upto rulesPartsSpec)) rulesPartsUptoCard

/-- THE SECOND FORM's CARD OF 'purlinlaw04.RulesLess'. -/
def rulesLessUptoCard : Claim7 := { stood := { row := rulesLessUptoRow, standIns := [], harness := (true, "3c6423839f4f7906fe3e56859885f07af0230fd5267825ec24030f97840b4592"), looks := true }, kinds := [], alts := [], laidByText := true, laidKinds := [.handle], laidTests := true, laidLooks := .later }
def RulesLessUptoCardSaid : Prop := Claim7.holds Tryd.pinned (.plain (OpenSpec.upto rulesLessSpec)) rulesLessUptoCard
end Rows
end Go.Proofs.YtpcjjmjmigibhaaDoor
