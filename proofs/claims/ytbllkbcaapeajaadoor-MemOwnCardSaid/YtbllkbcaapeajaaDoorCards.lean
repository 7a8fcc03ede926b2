/-
  DERIVED. GIVEN WITH THE SEED: THE CARDS: each row of YtbllkbcaapeajaaDoorRows.lean that lists a variable, with what it lists TIED to the program's text (the seventh form; the later family's looks); each row that meets fmt, with fmt's text TOLD by the authors' own Lean function (tested against real Go, not proved from fmt's source: count such statements apart). THE CARD IS WHAT COUNTS. Prove the row's statement (the work); the ties are given (YtbllkbcaapeajaaDoorTie.lean); close each card by the builder's one call (the guide's Derived/Test/ToyasCard.lean, 'card_holds'). Laid BY PROGRAM, IN A SANDBOX (cutbox-door.mjs). By AI agents, Wed Nov 11 2026. No macro, syntax, notation, axiom, sorry.
-/
import Derived.Test.YtbllkbcaapeajaaDoorRows
import GoSem.ClaimSeven
namespace Go.Proofs.YtbllkbcaapeajaaDoor
namespace Rows

/-- THE TIED CARD OF 'purlinlaw07.MemPlays'. -/
def memPlaysCard : Claim7 := { stood := { row := memPlaysRow, standIns := [], harness := (true, "3f0ab631f29a156cef0371e0e9cde298c10058b8d35d57a24a9be2869f2a509d"), looks := false }, kinds := [], alts := [], laidByText := true, laidKinds := [.data], laidTests := true, laidLooks := .later }
def MemPlaysCardSaid : Prop := Claim7.holds Tryd.pinned (.plain (OpenSpec.ofChange memPlaysSpec)) memPlaysCard

/-- THE TIED CARD OF 'purlinlaw07.MemApart'. -/
def memApartCard : Claim7 := { stood := { row := memApartRow, standIns := [], harness := (true, "3f0ab631f29a156cef0371e0e9cde298c10058b8d35d57a24a9be2869f2a509d"), looks := false }, kinds := [], alts := [], laidByText := true, laidKinds := [.data], laidTests := true, laidLooks := .later }
def MemApartCardSaid : Prop := Claim7.holds Tryd.pinned (.plain (OpenSpec.ofChange memApartSpec)) memApartCard

/-- THE TIED CARD OF 'purlinlaw07.MemSwaps'. -/
def memSwapsCard : Claim7 := { stood := { row := memSwapsRow, standIns := [], harness := (true, "3f0ab631f29a156cef0371e0e9cde298c10058b8d35d57a24a9be2869f2a509d"), looks := false }, kinds := [], alts := [], laidByText := true, laidKinds := [.data], laidTests := true, laidLooks := .later }
def MemSwapsCardSaid : Prop := Claim7.holds Tryd.pinned (.plain (OpenSpec.ofChange memSwapsSpec)) memSwapsCard

/-- THE TIED CARD OF 'purlinlaw07.MemOwn'. -/
def memOwnCard : Claim7 := { stood := { row := memOwnRow, standIns := [], harness := (true, "3f0ab631f29a156cef0371e0e9cde298c10058b8d35d57a24a9be2869f2a509d"), looks := false }, kinds := [], alts := [], laidByText := true, laidKinds := [.data], laidTests := true, laidLooks := .later }
def MemOwnCardSaid : Prop := Claim7.holds Tryd.pinned (.plain (OpenSpec.ofChange memOwnSpec)) memOwnCard

/-- THE TIED CARD OF 'purlinlaw07.MemAdds'. -/
def memAddsCard : Claim7 := { stood := { row := memAddsRow, standIns := [], harness := (true, "3f0ab631f29a156cef0371e0e9cde298c10058b8d35d57a24a9be2869f2a509d"), looks := false }, kinds := [], alts := [], laidByText := true, laidKinds := [.data], laidTests := true, laidLooks := .later }
def MemAddsCardSaid : Prop := Claim7.holds Tryd.pinned (.plain (OpenSpec.ofChange memAddsSpec)) memAddsCard

/-- THE SECOND FORM's CARD OF 'purlinlaw07.MemPlays'. -/
def memPlaysUptoCard : Claim7 := { stood := { row := memPlaysUptoRow, standIns := [], harness := (true, "3f0ab631f29a156cef0371e0e9cde298c10058b8d35d57a24a9be2869f2a509d"), looks := false }, kinds := [], alts := [], laidByText := true, laidKinds := [.data], laidTests := true, laidLooks := .later }
def MemPlaysUptoCardSaid : Prop := Claim7.holds Tryd.pinned (.plain (OpenSpec.upto memPlaysSpec)) memPlaysUptoCard

/-- THE SECOND FORM's CARD OF 'purlinlaw07.MemApart'. -/
def memApartUptoCard : Claim7 := { stood := { row := memApartUptoRow, standIns := [], harness := (true, "3f0ab631f29a156cef0371e0e9cde298c10058b8d35d57a24a9be2869f2a509d"), looks := false }, kinds := [], alts := [], laidByText := true, laidKinds := [.data], laidTests := true, laidLooks := .later }
def MemApartUptoCardSaid : Prop := Claim7.holds Tryd.pinned (.plain (OpenSpec.upto memApartSpec)) memApartUptoCard

/-- THE SECOND FORM's CARD OF 'purlinlaw07.MemSwaps'. -/
def memSwapsUptoCard : Claim7 := { stood := { row := memSwapsUptoRow, standIns := [], harness := (true, "3f0ab631f29a156cef0371e0e9cde298c10058b8d35d57a24a9be2869f2a509d"), looks := false }, kinds := [], alts := [], laidByText := true, laidKinds := [.data], laidTests := true, laidLooks := .later }
def MemSwapsUptoCardSaid : Prop := Claim7.holds Tryd.pinned (.plain (OpenSpec.upto memSwapsSpec)) memSwapsUptoCard

/-- THE SECOND FORM's CARD OF 'purlinlaw07.MemOwn'. -/
def memOwnUptoCard : Claim7 := { stood := { row := memOwnUptoRow, standIns := [], harness := (true, "3f0ab631f29a156cef0371e0e9cde298c10058b8d35d57a24a9be2869f2a509d"), looks := false }, kinds := [], alts := [], laidByText := true, laidKinds := [.data], laidTests := true, laidLooks := .later }
def MemOwnUptoCardSaid : Prop := Claim7.holds Tryd.pinned (.plain (OpenSpec.upto memOwnSpec)) memOwnUptoCard

/-- THE SECOND FORM's CARD OF 'purlinlaw07.MemAdds'. -/
def memAddsUptoCard : Claim7 := { stood := { row := memAddsUptoRow, standIns := [], harness := (true, "3f0ab631f29a156cef0371e0e9cde298c10058b8d35d57a24a9be2869f2a509d"), looks := false }, kinds := [], alts := [], laidByText := true, laidKinds := [.data], laidTests := true, laidLooks := .later }
def MemAddsUptoCardSaid : Prop := Claim7.holds Tryd.pinned (.plain (OpenSpec.upto memAddsSpec)) memAddsUptoCard
end Rows
end Go.Proofs.YtbllkbcaapeajaaDoor
