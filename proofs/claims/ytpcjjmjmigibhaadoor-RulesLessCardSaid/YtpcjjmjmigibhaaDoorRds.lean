/- Readings of what the laws take. -/
import Derived.Test.YtpcjjmjmigibhaaDoorRd
import Derived.Test.YtpcjjmjmigibhaaDoorProg
import Derived.KernelRfl
namespace Go.Proofs.YtpcjjmjmigibhaaDoor
/-- int u8 "uint8 1 1 0 1 1 + int u8 0 1 0 -/
abbrev rdA5 : Type := Int
def rd5 : Rd Tryd.prog 5 rdA5 := Rd.int Tryd.underlying5 (by kernel_rfl)
/-- int u16 "uint16 1 2 0 2 2 + int u16 0 1 0 -/
abbrev rdA22 : Type := Int
def rd22 : Rd Tryd.prog 22 rdA22 := Rd.int Tryd.underlying22 (by kernel_rfl)
/-- named "purlin/api.Window 38 "api.Window 4 6 0 2 2 + agg 4 int u16 0 int u16 0 int u8 0 int u8 0 1 0 -/
abbrev rdA39 : Type := rdA22 × rdA22 × rdA5 × rdA5 × Unit
def rd39 : Rd Tryd.prog 39 rdA39 := Rd.struct (RdF.cons rd22 rfl (RdF.cons rd22 rfl (RdF.cons rd5 rfl (RdF.cons rd5 rfl (RdF.nil _))))) Tryd.underlying39 (by kernel_rfl)
/-- slice 39 "[]api.Window 1 24 1 8 8 + slice - 0 0 0 0 -/
abbrev rdA43 : Type := List rdA39
def rd43 : Rd Tryd.prog 43 rdA43 := Rd.slice rd39 Tryd.underlying43 (by kernel_rfl)
/-- slice 43 "[][]api.Window 1 24 1 8 8 + slice - 0 0 0 0 -/
abbrev rdA23 : Type := List rdA43
def rd23 : Rd Tryd.prog 23 rdA23 := Rd.slice rd43 Tryd.underlying23 (by kernel_rfl)
/-- named "purlin/api.Sem 90 "api.Sem 2 2 0 1 1 + agg 2 int u8 0 int u8 0 1 0 -/
abbrev rdA91 : Type := rdA5 × rdA5 × Unit
def rd91 : Rd Tryd.prog 91 rdA91 := Rd.struct (RdF.cons rd5 rfl (RdF.cons rd5 rfl (RdF.nil _))) Tryd.underlying91 (by kernel_rfl)
/-- slice 91 "[]api.Sem 1 24 1 8 8 + slice - 0 0 0 0 -/
abbrev rdA49 : Type := List rdA91
def rd49 : Rd Tryd.prog 49 rdA49 := Rd.slice rd91 Tryd.underlying49 (by kernel_rfl)
/-- slice 5 "[]uint8 1 24 1 8 8 + slice - 0 0 0 0 -/
abbrev rdA50 : Type := List rdA5
def rd50 : Rd Tryd.prog 50 rdA50 := Rd.slice rd5 Tryd.underlying50 (by kernel_rfl)
/-- named "purlin/api.Actions 51 "api.Actions 3 3 0 1 1 + agg 3 int u8 0 int u8 0 int u8 0 1 0 -/
abbrev rdA52 : Type := List rdA5
def rd52 : Rd Tryd.prog 52 rdA52 := Rd.array rd5 Tryd.underlying52 (by kernel_rfl)
/-- named "purlin/api.Part 53 "api.Part 6 64 1 8 8 + agg 6 slice - 0 0 int u8 0 slice - 0 0 int u8 0 int u8 0 int u8 0 0 0 -/
abbrev rdA54 : Type := rdA49 × rdA5 × rdA50 × rdA52 × Unit
def rd54 : Rd Tryd.prog 54 rdA54 := Rd.struct (RdF.cons rd49 rfl (RdF.cons rd5 rfl (RdF.cons rd50 rfl (RdF.cons rd52 rfl (RdF.nil _))))) Tryd.underlying54 (by kernel_rfl)
/-- slice 54 "[]api.Part 1 24 1 8 8 + slice - 0 0 0 0 -/
abbrev rdA24 : Type := List rdA54
def rd24 : Rd Tryd.prog 24 rdA24 := Rd.slice rd54 Tryd.underlying24 (by kernel_rfl)
/-- named "purlin/api.Channel 47 "api.Channel 6 8 0 2 2 + agg 6 int u8 0 int u8 0 int u8 0 int u8 0 int u8 0 int u16 0 1 0 -/
abbrev rdA48 : Type := rdA5 × rdA5 × rdA5 × rdA5 × rdA5 × rdA22 × Unit
def rd48 : Rd Tryd.prog 48 rdA48 := Rd.struct (RdF.cons rd5 rfl (RdF.cons rd5 rfl (RdF.cons rd5 rfl (RdF.cons rd5 rfl (RdF.cons rd5 rfl (RdF.cons rd22 rfl (RdF.nil _))))))) Tryd.underlying48 (by kernel_rfl)
/-- slice 48 "[]api.Channel 1 24 1 8 8 + slice - 0 0 0 0 -/
abbrev rdA25 : Type := List rdA48
def rd25 : Rd Tryd.prog 25 rdA25 := Rd.slice rd48 Tryd.underlying25 (by kernel_rfl)
/-- named "purlin/api.Pair 44 "api.Pair 2 2 0 1 1 + agg 2 int u8 0 int u8 0 1 0 -/
abbrev rdA45 : Type := rdA5 × rdA5 × Unit
def rd45 : Rd Tryd.prog 45 rdA45 := Rd.struct (RdF.cons rd5 rfl (RdF.cons rd5 rfl (RdF.nil _))) Tryd.underlying45 (by kernel_rfl)
/-- slice 45 "[]api.Pair 1 24 1 8 8 + slice - 0 0 0 0 -/
abbrev rdA26 : Type := List rdA45
def rd26 : Rd Tryd.prog 26 rdA26 := Rd.slice rd45 Tryd.underlying26 (by kernel_rfl)
/-- named "purlin/api.Plan 27 "api.Plan 5 104 1 8 8 + agg 5 int u16 0 slice - 0 0 slice - 0 0 slice - 0 0 slice - 0 0 0 0 -/
abbrev rdA28 : Type := rdA22 × rdA23 × rdA24 × rdA25 × rdA26 × Unit
def rd28 : Rd Tryd.prog 28 rdA28 := Rd.struct (RdF.cons rd22 rfl (RdF.cons rd23 rfl (RdF.cons rd24 rfl (RdF.cons rd25 rfl (RdF.cons rd26 rfl (RdF.nil _)))))) Tryd.underlying28 (by kernel_rfl)
end Go.Proofs.YtpcjjmjmigibhaaDoor
