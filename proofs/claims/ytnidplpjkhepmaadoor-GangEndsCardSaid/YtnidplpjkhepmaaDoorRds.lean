/- Readings of what the laws take. -/
import Derived.Test.YtnidplpjkhepmaaDoorRd
import Derived.Test.YtnidplpjkhepmaaDoorProg
import Derived.KernelRfl
namespace Go.Proofs.YtnidplpjkhepmaaDoor
/-- int u8 "uint8 1 1 0 1 1 + int u8 0 1 0 -/
abbrev rdA5 : Type := Int
def rd5 : Rd Tryd.prog 5 rdA5 := Rd.int Tryd.underlying5 (by kernel_rfl)
/-- int u32 "uint32 1 4 0 4 4 + int u32 0 1 0 -/
abbrev rdA28 : Type := Int
def rd28 : Rd Tryd.prog 28 rdA28 := Rd.int Tryd.underlying28 (by kernel_rfl)
/-- named "purlin/purlinlaw23.Act 30 "purlinlaw23.Act 2 8 0 4 4 + agg 2 int u8 0 int u32 0 1 0 -/
abbrev rdA31 : Type := rdA5 × rdA28 × Unit
def rd31 : Rd Tryd.prog 31 rdA31 := Rd.struct (RdF.cons rd5 rfl (RdF.cons rd28 rfl (RdF.nil _))) Tryd.underlying31 (by kernel_rfl)
/-- slice 31 "[]purlinlaw23.Act 1 24 1 8 8 + slice - 0 0 0 0 -/
abbrev rdA22 : Type := List rdA31
def rd22 : Rd Tryd.prog 22 rdA22 := Rd.slice rd31 Tryd.underlying22 (by kernel_rfl)
/-- slice 5 "[]uint8 1 24 1 8 8 + slice - 0 0 0 0 -/
abbrev rdA37 : Type := List rdA5
def rd37 : Rd Tryd.prog 37 rdA37 := Rd.slice rd5 Tryd.underlying37 (by kernel_rfl)
end Go.Proofs.YtnidplpjkhepmaaDoor
