/- Readings of what the laws take. -/
import Derived.Test.YtidjkhmlpgkaaaaDoorRd
import Derived.Test.YtidjkhmlpgkaaaaDoorProg
import Derived.KernelRfl
namespace Go.Proofs.YtidjkhmlpgkaaaaDoor
/-- int u16 "uint16 1 2 0 2 2 + int u16 0 1 0 -/
abbrev rdA22 : Type := Int
def rd22 : Rd Tryd.prog 22 rdA22 := Rd.int Tryd.underlying22 (by kernel_rfl)
/-- int u8 "uint8 1 1 0 1 1 + int u8 0 1 0 -/
abbrev rdA5 : Type := Int
def rd5 : Rd Tryd.prog 5 rdA5 := Rd.int Tryd.underlying5 (by kernel_rfl)
/-- named "purlin/api.Window 86 "api.Window 4 6 0 2 2 + agg 4 int u16 0 int u16 0 int u8 0 int u8 0 1 0 -/
abbrev rdA87 : Type := rdA22 × rdA22 × rdA5 × rdA5 × Unit
def rd87 : Rd Tryd.prog 87 rdA87 := Rd.struct (RdF.cons rd22 rfl (RdF.cons rd22 rfl (RdF.cons rd5 rfl (RdF.cons rd5 rfl (RdF.nil _))))) Tryd.underlying87 (by kernel_rfl)
/-- slice 87 "[]api.Window 1 24 1 8 8 + slice - 0 0 0 0 -/
abbrev rdA45 : Type := List rdA87
def rd45 : Rd Tryd.prog 45 rdA45 := Rd.slice rd87 Tryd.underlying45 (by kernel_rfl)
/-- slice 45 "[][]api.Window 1 24 1 8 8 + slice - 0 0 0 0 -/
abbrev rdA23 : Type := List rdA45
def rd23 : Rd Tryd.prog 23 rdA23 := Rd.slice rd45 Tryd.underlying23 (by kernel_rfl)
/-- named "purlin/api.Sem 142 "api.Sem 2 2 0 1 1 + agg 2 int u8 0 int u8 0 1 0 -/
abbrev rdA143 : Type := rdA5 × rdA5 × Unit
def rd143 : Rd Tryd.prog 143 rdA143 := Rd.struct (RdF.cons rd5 rfl (RdF.cons rd5 rfl (RdF.nil _))) Tryd.underlying143 (by kernel_rfl)
/-- slice 143 "[]api.Sem 1 24 1 8 8 + slice - 0 0 0 0 -/
abbrev rdA72 : Type := List rdA143
def rd72 : Rd Tryd.prog 72 rdA72 := Rd.slice rd143 Tryd.underlying72 (by kernel_rfl)
/-- slice 5 "[]uint8 1 24 1 8 8 + slice - 0 0 0 0 -/
abbrev rdA73 : Type := List rdA5
def rd73 : Rd Tryd.prog 73 rdA73 := Rd.slice rd5 Tryd.underlying73 (by kernel_rfl)
/-- named "purlin/api.Actions 74 "api.Actions 3 3 0 1 1 + agg 3 int u8 0 int u8 0 int u8 0 1 0 -/
abbrev rdA75 : Type := List rdA5
def rd75 : Rd Tryd.prog 75 rdA75 := Rd.array rd5 Tryd.underlying75 (by kernel_rfl)
/-- named "purlin/api.Part 76 "api.Part 6 64 1 8 8 + agg 6 slice - 0 0 int u8 0 slice - 0 0 int u8 0 int u8 0 int u8 0 0 0 -/
abbrev rdA77 : Type := rdA72 × rdA5 × rdA73 × rdA75 × Unit
def rd77 : Rd Tryd.prog 77 rdA77 := Rd.struct (RdF.cons rd72 rfl (RdF.cons rd5 rfl (RdF.cons rd73 rfl (RdF.cons rd75 rfl (RdF.nil _))))) Tryd.underlying77 (by kernel_rfl)
/-- slice 77 "[]api.Part 1 24 1 8 8 + slice - 0 0 0 0 -/
abbrev rdA24 : Type := List rdA77
def rd24 : Rd Tryd.prog 24 rdA24 := Rd.slice rd77 Tryd.underlying24 (by kernel_rfl)
/-- named "purlin/api.Channel 128 "api.Channel 6 8 0 2 2 + agg 6 int u8 0 int u8 0 int u8 0 int u8 0 int u8 0 int u16 0 1 0 -/
abbrev rdA129 : Type := rdA5 × rdA5 × rdA5 × rdA5 × rdA5 × rdA22 × Unit
def rd129 : Rd Tryd.prog 129 rdA129 := Rd.struct (RdF.cons rd5 rfl (RdF.cons rd5 rfl (RdF.cons rd5 rfl (RdF.cons rd5 rfl (RdF.cons rd5 rfl (RdF.cons rd22 rfl (RdF.nil _))))))) Tryd.underlying129 (by kernel_rfl)
/-- slice 129 "[]api.Channel 1 24 1 8 8 + slice - 0 0 0 0 -/
abbrev rdA25 : Type := List rdA129
def rd25 : Rd Tryd.prog 25 rdA25 := Rd.slice rd129 Tryd.underlying25 (by kernel_rfl)
/-- named "purlin/api.Pair 89 "api.Pair 2 2 0 1 1 + agg 2 int u8 0 int u8 0 1 0 -/
abbrev rdA90 : Type := rdA5 × rdA5 × Unit
def rd90 : Rd Tryd.prog 90 rdA90 := Rd.struct (RdF.cons rd5 rfl (RdF.cons rd5 rfl (RdF.nil _))) Tryd.underlying90 (by kernel_rfl)
/-- slice 90 "[]api.Pair 1 24 1 8 8 + slice - 0 0 0 0 -/
abbrev rdA26 : Type := List rdA90
def rd26 : Rd Tryd.prog 26 rdA26 := Rd.slice rd90 Tryd.underlying26 (by kernel_rfl)
/-- named "purlin/api.Plan 27 "api.Plan 5 104 1 8 8 + agg 5 int u16 0 slice - 0 0 slice - 0 0 slice - 0 0 slice - 0 0 0 0 -/
abbrev rdA28 : Type := rdA22 × rdA23 × rdA24 × rdA25 × rdA26 × Unit
def rd28 : Rd Tryd.prog 28 rdA28 := Rd.struct (RdF.cons rd22 rfl (RdF.cons rd23 rfl (RdF.cons rd24 rfl (RdF.cons rd25 rfl (RdF.cons rd26 rfl (RdF.nil _)))))) Tryd.underlying28 (by kernel_rfl)
/-- named "purlin/purlinlaw24.Act 35 "purlinlaw24.Act 1 2 0 2 2 + int i16 0 1 0 -/
abbrev rdA36 : Type := Int
def rd36 : Rd Tryd.prog 36 rdA36 := Rd.int Tryd.underlying36 (by kernel_rfl)
/-- slice 36 "[]purlinlaw24.Act 1 24 1 8 8 + slice - 0 0 0 0 -/
abbrev rdA29 : Type := List rdA36
def rd29 : Rd Tryd.prog 29 rdA29 := Rd.slice rd36 Tryd.underlying29 (by kernel_rfl)
end Go.Proofs.YtidjkhmlpgkaaaaDoor
