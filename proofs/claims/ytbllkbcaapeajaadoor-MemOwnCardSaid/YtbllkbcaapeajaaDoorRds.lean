/- Readings of what the laws take. -/
import Derived.Test.YtbllkbcaapeajaaDoorRd
import Derived.Test.YtbllkbcaapeajaaDoorProg
import Derived.KernelRfl
namespace Go.Proofs.YtbllkbcaapeajaaDoor
/-- int i64 "int 1 8 0 8 8 + int i64 0 1 0 -/
abbrev rdA3 : Type := Int
def rd3 : Rd Tryd.prog 3 rdA3 := Rd.int Tryd.underlying3 (by kernel_rfl)
/-- int u8 "uint8 1 1 0 1 1 + int u8 0 1 0 -/
abbrev rdA5 : Type := Int
def rd5 : Rd Tryd.prog 5 rdA5 := Rd.int Tryd.underlying5 (by kernel_rfl)
/-- int u32 "uint32 1 4 0 4 4 + int u32 0 1 0 -/
abbrev rdA33 : Type := Int
def rd33 : Rd Tryd.prog 33 rdA33 := Rd.int Tryd.underlying33 (by kernel_rfl)
/-- named "purlin/purlinref07.Use 34 "purlinref07.Use 4 24 0 8 8 + agg 4 int i64 0 int i64 0 int u32 0 int u32 0 1 0 -/
abbrev rdA35 : Type := rdA3 × rdA3 × rdA33 × rdA33 × Unit
def rd35 : Rd Tryd.prog 35 rdA35 := Rd.struct (RdF.cons rd3 rfl (RdF.cons rd3 rfl (RdF.cons rd33 rfl (RdF.cons rd33 rfl (RdF.nil _))))) Tryd.underlying35 (by kernel_rfl)
/-- slice 35 "[]purlinref07.Use 1 24 1 8 8 + slice - 0 0 0 0 -/
abbrev rdA22 : Type := List rdA35
def rd22 : Rd Tryd.prog 22 rdA22 := Rd.slice rd35 Tryd.underlying22 (by kernel_rfl)
/-- array 2 33 "[2]uint32 2 8 0 4 4 + agg 2 int u32 0 int u32 0 1 0 -/
abbrev rdA46 : Type := List rdA33
def rd46 : Rd Tryd.prog 46 rdA46 := Rd.array rd33 Tryd.underlying46 (by kernel_rfl)
end Go.Proofs.YtbllkbcaapeajaaDoor
