/- Readings of what the laws take. -/
import Derived.Test.YtbphlapdhcgikaaDoorRd
import Derived.Test.YtbphlapdhcgikaaDoorProg
import Derived.KernelRfl
namespace Go.Proofs.YtbphlapdhcgikaaDoor
/-- string "string 1 16 1 8 8 + string x 1 0 -/
abbrev rdA9 : Type := ByteArray
def rd9 : Rd Tryd.prog 9 rdA9 := Rd.string Tryd.underlying9 (by kernel_rfl)
/-- int u16 "uint16 1 2 0 2 2 + int u16 0 1 0 -/
abbrev rdA22 : Type := Int
def rd22 : Rd Tryd.prog 22 rdA22 := Rd.int Tryd.underlying22 (by kernel_rfl)
/-- int u8 "uint8 1 1 0 1 1 + int u8 0 1 0 -/
abbrev rdA5 : Type := Int
def rd5 : Rd Tryd.prog 5 rdA5 := Rd.int Tryd.underlying5 (by kernel_rfl)
/-- named "purlin/api.Window 50 "api.Window 4 6 0 2 2 + agg 4 int u16 0 int u16 0 int u8 0 int u8 0 1 0 -/
abbrev rdA51 : Type := rdA22 × rdA22 × rdA5 × rdA5 × Unit
def rd51 : Rd Tryd.prog 51 rdA51 := Rd.struct (RdF.cons rd22 rfl (RdF.cons rd22 rfl (RdF.cons rd5 rfl (RdF.cons rd5 rfl (RdF.nil _))))) Tryd.underlying51 (by kernel_rfl)
/-- slice 51 "[]api.Window 1 24 1 8 8 + slice - 0 0 0 0 -/
abbrev rdA49 : Type := List rdA51
def rd49 : Rd Tryd.prog 49 rdA49 := Rd.slice rd51 Tryd.underlying49 (by kernel_rfl)
/-- slice 49 "[][]api.Window 1 24 1 8 8 + slice - 0 0 0 0 -/
abbrev rdA23 : Type := List rdA49
def rd23 : Rd Tryd.prog 23 rdA23 := Rd.slice rd49 Tryd.underlying23 (by kernel_rfl)
/-- named "purlin/api.Sem 57 "api.Sem 2 2 0 1 1 + agg 2 int u8 0 int u8 0 1 0 -/
abbrev rdA58 : Type := rdA5 × rdA5 × Unit
def rd58 : Rd Tryd.prog 58 rdA58 := Rd.struct (RdF.cons rd5 rfl (RdF.cons rd5 rfl (RdF.nil _))) Tryd.underlying58 (by kernel_rfl)
/-- slice 58 "[]api.Sem 1 24 1 8 8 + slice - 0 0 0 0 -/
abbrev rdA52 : Type := List rdA58
def rd52 : Rd Tryd.prog 52 rdA52 := Rd.slice rd58 Tryd.underlying52 (by kernel_rfl)
/-- slice 5 "[]uint8 1 24 1 8 8 + slice - 0 0 0 0 -/
abbrev rdA31 : Type := List rdA5
def rd31 : Rd Tryd.prog 31 rdA31 := Rd.slice rd5 Tryd.underlying31 (by kernel_rfl)
/-- named "purlin/api.Actions 53 "api.Actions 3 3 0 1 1 + agg 3 int u8 0 int u8 0 int u8 0 1 0 -/
abbrev rdA54 : Type := List rdA5
def rd54 : Rd Tryd.prog 54 rdA54 := Rd.array rd5 Tryd.underlying54 (by kernel_rfl)
/-- named "purlin/api.Part 55 "api.Part 6 64 1 8 8 + agg 6 slice - 0 0 int u8 0 slice - 0 0 int u8 0 int u8 0 int u8 0 0 0 -/
abbrev rdA56 : Type := rdA52 × rdA5 × rdA31 × rdA54 × Unit
def rd56 : Rd Tryd.prog 56 rdA56 := Rd.struct (RdF.cons rd52 rfl (RdF.cons rd5 rfl (RdF.cons rd31 rfl (RdF.cons rd54 rfl (RdF.nil _))))) Tryd.underlying56 (by kernel_rfl)
/-- slice 56 "[]api.Part 1 24 1 8 8 + slice - 0 0 0 0 -/
abbrev rdA24 : Type := List rdA56
def rd24 : Rd Tryd.prog 24 rdA24 := Rd.slice rd56 Tryd.underlying24 (by kernel_rfl)
/-- named "purlin/api.Channel 59 "api.Channel 6 8 0 2 2 + agg 6 int u8 0 int u8 0 int u8 0 int u8 0 int u8 0 int u16 0 1 0 -/
abbrev rdA60 : Type := rdA5 × rdA5 × rdA5 × rdA5 × rdA5 × rdA22 × Unit
def rd60 : Rd Tryd.prog 60 rdA60 := Rd.struct (RdF.cons rd5 rfl (RdF.cons rd5 rfl (RdF.cons rd5 rfl (RdF.cons rd5 rfl (RdF.cons rd5 rfl (RdF.cons rd22 rfl (RdF.nil _))))))) Tryd.underlying60 (by kernel_rfl)
/-- slice 60 "[]api.Channel 1 24 1 8 8 + slice - 0 0 0 0 -/
abbrev rdA25 : Type := List rdA60
def rd25 : Rd Tryd.prog 25 rdA25 := Rd.slice rd60 Tryd.underlying25 (by kernel_rfl)
/-- named "purlin/api.Pair 61 "api.Pair 2 2 0 1 1 + agg 2 int u8 0 int u8 0 1 0 -/
abbrev rdA62 : Type := rdA5 × rdA5 × Unit
def rd62 : Rd Tryd.prog 62 rdA62 := Rd.struct (RdF.cons rd5 rfl (RdF.cons rd5 rfl (RdF.nil _))) Tryd.underlying62 (by kernel_rfl)
/-- slice 62 "[]api.Pair 1 24 1 8 8 + slice - 0 0 0 0 -/
abbrev rdA26 : Type := List rdA62
def rd26 : Rd Tryd.prog 26 rdA26 := Rd.slice rd62 Tryd.underlying26 (by kernel_rfl)
/-- named "purlin/api.Plan 27 "api.Plan 5 104 1 8 8 + agg 5 int u16 0 slice - 0 0 slice - 0 0 slice - 0 0 slice - 0 0 0 0 -/
abbrev rdA28 : Type := rdA22 × rdA23 × rdA24 × rdA25 × rdA26 × Unit
def rd28 : Rd Tryd.prog 28 rdA28 := Rd.struct (RdF.cons rd22 rfl (RdF.cons rd23 rfl (RdF.cons rd24 rfl (RdF.cons rd25 rfl (RdF.cons rd26 rfl (RdF.nil _)))))) Tryd.underlying28 (by kernel_rfl)
end Go.Proofs.YtbphlapdhcgikaaDoor
