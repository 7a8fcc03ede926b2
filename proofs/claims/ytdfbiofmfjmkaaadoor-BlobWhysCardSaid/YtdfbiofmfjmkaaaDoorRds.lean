/- Readings of what the laws take. -/
import Derived.Test.YtdfbiofmfjmkaaaDoorRd
import Derived.Test.YtdfbiofmfjmkaaaDoorProg
import Derived.KernelRfl
namespace Go.Proofs.YtdfbiofmfjmkaaaDoor
/-- int i64 "int 1 8 0 8 8 + int i64 0 1 0 -/
abbrev rdA3 : Type := Int
def rd3 : Rd Tryd.prog 3 rdA3 := Rd.int Tryd.underlying3 (by kernel_rfl)
/-- string "string 1 16 1 8 8 + string x 1 0 -/
abbrev rdA9 : Type := ByteArray
def rd9 : Rd Tryd.prog 9 rdA9 := Rd.string Tryd.underlying9 (by kernel_rfl)
/-- int u8 "uint8 1 1 0 1 1 + int u8 0 1 0 -/
abbrev rdA5 : Type := Int
def rd5 : Rd Tryd.prog 5 rdA5 := Rd.int Tryd.underlying5 (by kernel_rfl)
/-- slice 5 "[]uint8 1 24 1 8 8 + slice - 0 0 0 0 -/
abbrev rdA22 : Type := List rdA5
def rd22 : Rd Tryd.prog 22 rdA22 := Rd.slice rd5 Tryd.underlying22 (by kernel_rfl)
/-- int u16 "uint16 1 2 0 2 2 + int u16 0 1 0 -/
abbrev rdA35 : Type := Int
def rd35 : Rd Tryd.prog 35 rdA35 := Rd.int Tryd.underlying35 (by kernel_rfl)
/-- slice 35 "[]uint16 1 24 1 8 8 + slice - 0 0 0 0 -/
abbrev rdA33 : Type := List rdA35
def rd33 : Rd Tryd.prog 33 rdA33 := Rd.slice rd35 Tryd.underlying33 (by kernel_rfl)
/-- named "purlin/purlinlaw02.Ask 46 "purlinlaw02.Ask 2 16 0 8 8 + agg 2 int i64 0 int i64 0 1 0 -/
abbrev rdA47 : Type := rdA3 × rdA3 × Unit
def rd47 : Rd Tryd.prog 47 rdA47 := Rd.struct (RdF.cons rd3 rfl (RdF.cons rd3 rfl (RdF.nil _))) Tryd.underlying47 (by kernel_rfl)
/-- slice 47 "[]purlinlaw02.Ask 1 24 1 8 8 + slice - 0 0 0 0 -/
abbrev rdA41 : Type := List rdA47
def rd41 : Rd Tryd.prog 41 rdA41 := Rd.slice rd47 Tryd.underlying41 (by kernel_rfl)
/-- bool "bool 1 1 0 1 1 + bool 0 1 0 -/
abbrev rdA4 : Type := Bool
def rd4 : Rd Tryd.prog 4 rdA4 := Rd.bool Tryd.underlying4 (by kernel_rfl)
/-- named "purlin/purlinlaw02.Deep 52 "purlinlaw02.Deep 2 2 0 1 1 + agg 2 int u8 0 bool 0 1 0 -/
abbrev rdA53 : Type := rdA5 × rdA4 × Unit
def rd53 : Rd Tryd.prog 53 rdA53 := Rd.struct (RdF.cons rd5 rfl (RdF.cons rd4 rfl (RdF.nil _))) Tryd.underlying53 (by kernel_rfl)
end Go.Proofs.YtdfbiofmfjmkaaaDoor
