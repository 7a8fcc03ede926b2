/- Readings of what the laws take. -/
import Derived.Test.YtmfddaihepjfeaaRd
import Derived.Test.YtmfddaihepjfeaaProg
import Derived.KernelRfl
namespace Go.Proofs.Ytmfddaihepjfeaa
/-- int i64 "int 1 8 0 8 8 + int i64 0 1 0 -/
abbrev rdA3 : Type := Int
def rd3 : Rd Try.prog 3 rdA3 := Rd.int Try.underlying3 (by kernel_rfl)
/-- int u16 "uint16 1 2 0 2 2 + int u16 0 1 0 -/
abbrev rdA22 : Type := Int
def rd22 : Rd Try.prog 22 rdA22 := Rd.int Try.underlying22 (by kernel_rfl)
/-- int u8 "uint8 1 1 0 1 1 + int u8 0 1 0 -/
abbrev rdA5 : Type := Int
def rd5 : Rd Try.prog 5 rdA5 := Rd.int Try.underlying5 (by kernel_rfl)
/-- named "purlin/api.Window 40 "api.Window 4 6 0 2 2 + agg 4 int u16 0 int u16 0 int u8 0 int u8 0 1 0 -/
abbrev rdA41 : Type := rdA22 × rdA22 × rdA5 × rdA5 × Unit
def rd41 : Rd Try.prog 41 rdA41 := Rd.struct (RdF.cons rd22 rfl (RdF.cons rd22 rfl (RdF.cons rd5 rfl (RdF.cons rd5 rfl (RdF.nil _))))) Try.underlying41 (by kernel_rfl)
/-- slice 41 "[]api.Window 1 24 1 8 8 + slice - 0 0 0 0 -/
abbrev rdA37 : Type := List rdA41
def rd37 : Rd Try.prog 37 rdA37 := Rd.slice rd41 Try.underlying37 (by kernel_rfl)
/-- slice 37 "[][]api.Window 1 24 1 8 8 + slice - 0 0 0 0 -/
abbrev rdA23 : Type := List rdA37
def rd23 : Rd Try.prog 23 rdA23 := Rd.slice rd37 Try.underlying23 (by kernel_rfl)
/-- named "purlin/api.Sem 83 "api.Sem 2 2 0 1 1 + agg 2 int u8 0 int u8 0 1 0 -/
abbrev rdA84 : Type := rdA5 × rdA5 × Unit
def rd84 : Rd Try.prog 84 rdA84 := Rd.struct (RdF.cons rd5 rfl (RdF.cons rd5 rfl (RdF.nil _))) Try.underlying84 (by kernel_rfl)
/-- slice 84 "[]api.Sem 1 24 1 8 8 + slice - 0 0 0 0 -/
abbrev rdA76 : Type := List rdA84
def rd76 : Rd Try.prog 76 rdA76 := Rd.slice rd84 Try.underlying76 (by kernel_rfl)
/-- slice 5 "[]uint8 1 24 1 8 8 + slice - 0 0 0 0 -/
abbrev rdA77 : Type := List rdA5
def rd77 : Rd Try.prog 77 rdA77 := Rd.slice rd5 Try.underlying77 (by kernel_rfl)
/-- named "purlin/api.Actions 78 "api.Actions 3 3 0 1 1 + agg 3 int u8 0 int u8 0 int u8 0 1 0 -/
abbrev rdA79 : Type := List rdA5
def rd79 : Rd Try.prog 79 rdA79 := Rd.array rd5 Try.underlying79 (by kernel_rfl)
/-- named "purlin/api.Part 80 "api.Part 6 64 1 8 8 + agg 6 slice - 0 0 int u8 0 slice - 0 0 int u8 0 int u8 0 int u8 0 0 0 -/
abbrev rdA81 : Type := rdA76 × rdA5 × rdA77 × rdA79 × Unit
def rd81 : Rd Try.prog 81 rdA81 := Rd.struct (RdF.cons rd76 rfl (RdF.cons rd5 rfl (RdF.cons rd77 rfl (RdF.cons rd79 rfl (RdF.nil _))))) Try.underlying81 (by kernel_rfl)
/-- slice 81 "[]api.Part 1 24 1 8 8 + slice - 0 0 0 0 -/
abbrev rdA24 : Type := List rdA81
def rd24 : Rd Try.prog 24 rdA24 := Rd.slice rd81 Try.underlying24 (by kernel_rfl)
/-- named "purlin/api.Channel 73 "api.Channel 6 8 0 2 2 + agg 6 int u8 0 int u8 0 int u8 0 int u8 0 int u8 0 int u16 0 1 0 -/
abbrev rdA74 : Type := rdA5 × rdA5 × rdA5 × rdA5 × rdA5 × rdA22 × Unit
def rd74 : Rd Try.prog 74 rdA74 := Rd.struct (RdF.cons rd5 rfl (RdF.cons rd5 rfl (RdF.cons rd5 rfl (RdF.cons rd5 rfl (RdF.cons rd5 rfl (RdF.cons rd22 rfl (RdF.nil _))))))) Try.underlying74 (by kernel_rfl)
/-- slice 74 "[]api.Channel 1 24 1 8 8 + slice - 0 0 0 0 -/
abbrev rdA25 : Type := List rdA74
def rd25 : Rd Try.prog 25 rdA25 := Rd.slice rd74 Try.underlying25 (by kernel_rfl)
/-- named "purlin/api.Pair 71 "api.Pair 2 2 0 1 1 + agg 2 int u8 0 int u8 0 1 0 -/
abbrev rdA72 : Type := rdA5 × rdA5 × Unit
def rd72 : Rd Try.prog 72 rdA72 := Rd.struct (RdF.cons rd5 rfl (RdF.cons rd5 rfl (RdF.nil _))) Try.underlying72 (by kernel_rfl)
/-- slice 72 "[]api.Pair 1 24 1 8 8 + slice - 0 0 0 0 -/
abbrev rdA26 : Type := List rdA72
def rd26 : Rd Try.prog 26 rdA26 := Rd.slice rd72 Try.underlying26 (by kernel_rfl)
/-- named "purlin/api.Plan 27 "api.Plan 5 104 1 8 8 + agg 5 int u16 0 slice - 0 0 slice - 0 0 slice - 0 0 slice - 0 0 0 0 -/
abbrev rdA28 : Type := rdA22 × rdA23 × rdA24 × rdA25 × rdA26 × Unit
def rd28 : Rd Try.prog 28 rdA28 := Rd.struct (RdF.cons rd22 rfl (RdF.cons rd23 rfl (RdF.cons rd24 rfl (RdF.cons rd25 rfl (RdF.cons rd26 rfl (RdF.nil _)))))) Try.underlying28 (by kernel_rfl)
/-- slice 3 "[]int 1 24 1 8 8 + slice - 0 0 0 0 -/
abbrev rdA31 : Type := List rdA3
def rd31 : Rd Try.prog 31 rdA31 := Rd.slice rd3 Try.underlying31 (by kernel_rfl)
end Go.Proofs.Ytmfddaihepjfeaa
