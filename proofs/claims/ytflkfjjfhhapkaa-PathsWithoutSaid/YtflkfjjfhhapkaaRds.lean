/- Readings of what the laws take. -/
import Derived.Test.YtflkfjjfhhapkaaRd
import Derived.Test.YtflkfjjfhhapkaaProg
import Derived.KernelRfl
namespace Go.Proofs.Ytflkfjjfhhapkaa
/-- int i64 "int 1 8 0 8 8 + int i64 0 1 0 -/
abbrev rdA3 : Type := Int
def rd3 : Rd Try.prog 3 rdA3 := Rd.int Try.underlying3 (by kernel_rfl)
/-- int u8 "uint8 1 1 0 1 1 + int u8 0 1 0 -/
abbrev rdA5 : Type := Int
def rd5 : Rd Try.prog 5 rdA5 := Rd.int Try.underlying5 (by kernel_rfl)
/-- int u16 "uint16 1 2 0 2 2 + int u16 0 1 0 -/
abbrev rdA22 : Type := Int
def rd22 : Rd Try.prog 22 rdA22 := Rd.int Try.underlying22 (by kernel_rfl)
/-- named "purlin/api.Window 71 "api.Window 4 6 0 2 2 + agg 4 int u16 0 int u16 0 int u8 0 int u8 0 1 0 -/
abbrev rdA72 : Type := rdA22 × rdA22 × rdA5 × rdA5 × Unit
def rd72 : Rd Try.prog 72 rdA72 := Rd.struct (RdF.cons rd22 rfl (RdF.cons rd22 rfl (RdF.cons rd5 rfl (RdF.cons rd5 rfl (RdF.nil _))))) Try.underlying72 (by kernel_rfl)
/-- slice 72 "[]api.Window 1 24 1 8 8 + slice - 0 0 0 0 -/
abbrev rdA54 : Type := List rdA72
def rd54 : Rd Try.prog 54 rdA54 := Rd.slice rd72 Try.underlying54 (by kernel_rfl)
/-- slice 54 "[][]api.Window 1 24 1 8 8 + slice - 0 0 0 0 -/
abbrev rdA23 : Type := List rdA54
def rd23 : Rd Try.prog 23 rdA23 := Rd.slice rd54 Try.underlying23 (by kernel_rfl)
/-- named "purlin/api.Sem 73 "api.Sem 2 2 0 1 1 + agg 2 int u8 0 int u8 0 1 0 -/
abbrev rdA74 : Type := rdA5 × rdA5 × Unit
def rd74 : Rd Try.prog 74 rdA74 := Rd.struct (RdF.cons rd5 rfl (RdF.cons rd5 rfl (RdF.nil _))) Try.underlying74 (by kernel_rfl)
/-- slice 74 "[]api.Sem 1 24 1 8 8 + slice - 0 0 0 0 -/
abbrev rdA55 : Type := List rdA74
def rd55 : Rd Try.prog 55 rdA55 := Rd.slice rd74 Try.underlying55 (by kernel_rfl)
/-- slice 5 "[]uint8 1 24 1 8 8 + slice - 0 0 0 0 -/
abbrev rdA56 : Type := List rdA5
def rd56 : Rd Try.prog 56 rdA56 := Rd.slice rd5 Try.underlying56 (by kernel_rfl)
/-- named "purlin/api.Actions 57 "api.Actions 3 3 0 1 1 + agg 3 int u8 0 int u8 0 int u8 0 1 0 -/
abbrev rdA58 : Type := List rdA5
def rd58 : Rd Try.prog 58 rdA58 := Rd.array rd5 Try.underlying58 (by kernel_rfl)
/-- named "purlin/api.Part 59 "api.Part 6 64 1 8 8 + agg 6 slice - 0 0 int u8 0 slice - 0 0 int u8 0 int u8 0 int u8 0 0 0 -/
abbrev rdA60 : Type := rdA55 × rdA5 × rdA56 × rdA58 × Unit
def rd60 : Rd Try.prog 60 rdA60 := Rd.struct (RdF.cons rd55 rfl (RdF.cons rd5 rfl (RdF.cons rd56 rfl (RdF.cons rd58 rfl (RdF.nil _))))) Try.underlying60 (by kernel_rfl)
/-- slice 60 "[]api.Part 1 24 1 8 8 + slice - 0 0 0 0 -/
abbrev rdA24 : Type := List rdA60
def rd24 : Rd Try.prog 24 rdA24 := Rd.slice rd60 Try.underlying24 (by kernel_rfl)
/-- named "purlin/api.Channel 43 "api.Channel 6 8 0 2 2 + agg 6 int u8 0 int u8 0 int u8 0 int u8 0 int u8 0 int u16 0 1 0 -/
abbrev rdA44 : Type := rdA5 × rdA5 × rdA5 × rdA5 × rdA5 × rdA22 × Unit
def rd44 : Rd Try.prog 44 rdA44 := Rd.struct (RdF.cons rd5 rfl (RdF.cons rd5 rfl (RdF.cons rd5 rfl (RdF.cons rd5 rfl (RdF.cons rd5 rfl (RdF.cons rd22 rfl (RdF.nil _))))))) Try.underlying44 (by kernel_rfl)
/-- slice 44 "[]api.Channel 1 24 1 8 8 + slice - 0 0 0 0 -/
abbrev rdA25 : Type := List rdA44
def rd25 : Rd Try.prog 25 rdA25 := Rd.slice rd44 Try.underlying25 (by kernel_rfl)
/-- named "purlin/api.Pair 65 "api.Pair 2 2 0 1 1 + agg 2 int u8 0 int u8 0 1 0 -/
abbrev rdA66 : Type := rdA5 × rdA5 × Unit
def rd66 : Rd Try.prog 66 rdA66 := Rd.struct (RdF.cons rd5 rfl (RdF.cons rd5 rfl (RdF.nil _))) Try.underlying66 (by kernel_rfl)
/-- slice 66 "[]api.Pair 1 24 1 8 8 + slice - 0 0 0 0 -/
abbrev rdA26 : Type := List rdA66
def rd26 : Rd Try.prog 26 rdA26 := Rd.slice rd66 Try.underlying26 (by kernel_rfl)
/-- named "purlin/api.Plan 27 "api.Plan 5 104 1 8 8 + agg 5 int u16 0 slice - 0 0 slice - 0 0 slice - 0 0 slice - 0 0 0 0 -/
abbrev rdA28 : Type := rdA22 × rdA23 × rdA24 × rdA25 × rdA26 × Unit
def rd28 : Rd Try.prog 28 rdA28 := Rd.struct (RdF.cons rd22 rfl (RdF.cons rd23 rfl (RdF.cons rd24 rfl (RdF.cons rd25 rfl (RdF.cons rd26 rfl (RdF.nil _)))))) Try.underlying28 (by kernel_rfl)
/-- array 3 3 "[3]int 3 24 0 8 8 + agg 3 int i64 0 int i64 0 int i64 0 1 0 -/
abbrev rdA47 : Type := List rdA3
def rd47 : Rd Try.prog 47 rdA47 := Rd.array rd3 Try.underlying47 (by kernel_rfl)
end Go.Proofs.Ytflkfjjfhhapkaa
