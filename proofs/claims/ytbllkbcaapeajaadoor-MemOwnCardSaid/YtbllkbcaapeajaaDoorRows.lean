/-
  NARROWER THAN 'FOR EVERY INPUT', by the rows' own cells (each row's printed sentence says how): MemPlays: laid · MemApart: laid · MemSwaps: laid · MemOwn: laid · MemAdds: laid.
  DERIVED. THE GIVEN ROWS OF THIS SEAT. 5 by the template 'for every input the law returns true; each argument reads behind the call as it read before'; 0 by the template 'total and deterministic' (their statements: YtbllkbcaapeajaaDoorTotals.lean).
  GIVEN WITH THE SEED: the statements are not yours to turn. If you find one false, say at which input.
  Laid BY PROGRAM, IN A SANDBOX (cutbox-rows.mjs): the forced cells as the released guide's own fill.sh prints them over the translation e37ea0b71820c63c… (all of the seat's roots in one cut). By AI agents, Wed Nov 11 2026. No macro, syntax, notation, axiom, sorry.
-/
import Derived.Test.YtbllkbcaapeajaaDoorChecked
import GoSem.Claim
import GoSem.ClaimJoined
import GoSem.ClaimMapViews
import Derived.JoinedTies
import Derived.KernelRfl
namespace Go.Proofs.YtbllkbcaapeajaaDoor
/- THE CELL 'sum', in the pinned program and in every row, IS THE sha256 OF THE DUMP (.gsa) THAT YtbllkbcaapeajaaDoorProg.lean LOADS. Nothing in Lean hashes anything: it is a label: what it is worth is what the hold of that sum in a sandbox is worth. -/
noncomputable def Tryd.pinned : Pinned := { name := "ytbllkbcaapeajaadoor", sum := "e37ea0b71820c63c80a208aa41333d0d2f8a1e8b2d78c7ea762c83ff5ca6f28d", checked := Tryd.checked }
namespace Rows
def none {H : Type} : Left H := { results := [], args := [] }

/- WHAT THE LISTED PACKAGE-LEVEL VARIABLES READ AS WHEN THE CALL BEGINS. Each datum BY PROGRAM (the guide's laid-datum.mjs) off the statement by which the dump's own 'gosem.cut.vars' lays the variable. In a bare row this is a premise. The card (YtbllkbcaapeajaaDoorCards.lean) ties it to the program's text. -/
def laid_purlin_mem_look {H : Type} : DataW H := .agg [.lit (.int .u32 4294967295), .lit (.int .u32 0), .lit (.int .u32 0)]

/-- 'purlinlaw07.MemPlays': WHATEVER THE INPUT: true; the input reads as it did. -/
def memPlaysSpec : ChangeSpec := { name := "memPlays", fn := fun _ => fun
  | [d1, d2] => { results := [.lit (.bool true)], args := [d1, d2] }
  | _ => none }
def memPlaysRow : OpenClaim := { program := "ytbllkbcaapeajaadoor", sum := "e37ea0b71820c63c80a208aa41333d0d2f8a1e8b2d78c7ea762c83ff5ca6f28d", func := "purlin/purlinlaw07.MemPlays", spec := "memPlays", named := ["purlin/mem.look"], apart := false, laid := [("purlin/mem.look", laid_purlin_mem_look)] }
def MemPlaysSaid : Prop := memPlaysRow.holds Tryd.pinned (OpenSpec.ofChange memPlaysSpec)

/-- ITS FALSE NEIGHBOUR: 'it returns false'. Refute it at one input. -/
def memPlaysWrong : ChangeSpec := { name := "memPlays", fn := fun _ => fun
  | [d1, d2] => { results := [.lit (.bool false)], args := [d1, d2] }
  | _ => none }
def MemPlaysWrongFalsely : Prop := memPlaysRow.holds Tryd.pinned (OpenSpec.ofChange memPlaysWrong)

/-- 'purlinlaw07.MemApart': WHATEVER THE INPUT: true; the input reads as it did. -/
def memApartSpec : ChangeSpec := { name := "memApart", fn := fun _ => fun
  | [d1, d2, d3] => { results := [.lit (.bool true)], args := [d1, d2, d3] }
  | _ => none }
def memApartRow : OpenClaim := { program := "ytbllkbcaapeajaadoor", sum := "e37ea0b71820c63c80a208aa41333d0d2f8a1e8b2d78c7ea762c83ff5ca6f28d", func := "purlin/purlinlaw07.MemApart", spec := "memApart", named := ["purlin/mem.look"], apart := false, laid := [("purlin/mem.look", laid_purlin_mem_look)] }
def MemApartSaid : Prop := memApartRow.holds Tryd.pinned (OpenSpec.ofChange memApartSpec)

/-- ITS FALSE NEIGHBOUR: 'it returns false'. Refute it at one input. -/
def memApartWrong : ChangeSpec := { name := "memApart", fn := fun _ => fun
  | [d1, d2, d3] => { results := [.lit (.bool false)], args := [d1, d2, d3] }
  | _ => none }
def MemApartWrongFalsely : Prop := memApartRow.holds Tryd.pinned (OpenSpec.ofChange memApartWrong)

/-- 'purlinlaw07.MemSwaps': WHATEVER THE INPUT: true; the input reads as it did. -/
def memSwapsSpec : ChangeSpec := { name := "memSwaps", fn := fun _ => fun
  | [d1, d2, d3] => { results := [.lit (.bool true)], args := [d1, d2, d3] }
  | _ => none }
def memSwapsRow : OpenClaim := { program := "ytbllkbcaapeajaadoor", sum := "e37ea0b71820c63c80a208aa41333d0d2f8a1e8b2d78c7ea762c83ff5ca6f28d", func := "purlin/purlinlaw07.MemSwaps", spec := "memSwaps", named := ["purlin/mem.look"], apart := false, laid := [("purlin/mem.look", laid_purlin_mem_look)] }
def MemSwapsSaid : Prop := memSwapsRow.holds Tryd.pinned (OpenSpec.ofChange memSwapsSpec)

/-- ITS FALSE NEIGHBOUR: 'it returns false'. Refute it at one input. -/
def memSwapsWrong : ChangeSpec := { name := "memSwaps", fn := fun _ => fun
  | [d1, d2, d3] => { results := [.lit (.bool false)], args := [d1, d2, d3] }
  | _ => none }
def MemSwapsWrongFalsely : Prop := memSwapsRow.holds Tryd.pinned (OpenSpec.ofChange memSwapsWrong)

/-- 'purlinlaw07.MemOwn': WHATEVER THE INPUT: true; the input reads as it did. -/
def memOwnSpec : ChangeSpec := { name := "memOwn", fn := fun _ => fun
  | [d1, d2] => { results := [.lit (.bool true)], args := [d1, d2] }
  | _ => none }
def memOwnRow : OpenClaim := { program := "ytbllkbcaapeajaadoor", sum := "e37ea0b71820c63c80a208aa41333d0d2f8a1e8b2d78c7ea762c83ff5ca6f28d", func := "purlin/purlinlaw07.MemOwn", spec := "memOwn", named := ["purlin/mem.look"], apart := false, laid := [("purlin/mem.look", laid_purlin_mem_look)] }
def MemOwnSaid : Prop := memOwnRow.holds Tryd.pinned (OpenSpec.ofChange memOwnSpec)

/-- ITS FALSE NEIGHBOUR: 'it returns false'. Refute it at one input. -/
def memOwnWrong : ChangeSpec := { name := "memOwn", fn := fun _ => fun
  | [d1, d2] => { results := [.lit (.bool false)], args := [d1, d2] }
  | _ => none }
def MemOwnWrongFalsely : Prop := memOwnRow.holds Tryd.pinned (OpenSpec.ofChange memOwnWrong)

/-- 'purlinlaw07.MemAdds': WHATEVER THE INPUT: true; the input reads as it did. -/
def memAddsSpec : ChangeSpec := { name := "memAdds", fn := fun _ => fun
  | [d1, d2, d3] => { results := [.lit (.bool true)], args := [d1, d2, d3] }
  | _ => none }
def memAddsRow : OpenClaim := { program := "ytbllkbcaapeajaadoor", sum := "e37ea0b71820c63c80a208aa41333d0d2f8a1e8b2d78c7ea762c83ff5ca6f28d", func := "purlin/purlinlaw07.MemAdds", spec := "memAdds", named := ["purlin/mem.look"], apart := false, laid := [("purlin/mem.look", laid_purlin_mem_look)] }
def MemAddsSaid : Prop := memAddsRow.holds Tryd.pinned (OpenSpec.ofChange memAddsSpec)

/-- ITS FALSE NEIGHBOUR: 'it returns false'. Refute it at one input. -/
def memAddsWrong : ChangeSpec := { name := "memAdds", fn := fun _ => fun
  | [d1, d2, d3] => { results := [.lit (.bool false)], args := [d1, d2, d3] }
  | _ => none }
def MemAddsWrongFalsely : Prop := memAddsRow.holds Tryd.pinned (OpenSpec.ofChange memAddsWrong)

/- THE SECOND FORM. 'bulk': how many values and letters a reading holds, each counted each time it is reached (what is shared counts as often as it is met; a slice's spare places count too). A statement '..UptoSaid' is the law's where the arguments, and the package variables that the reading takes, are together of bulk at most 1048576: NARROWER than '..Said'. Prove '..Said' where nothing that the law and all that it calls make is longer than what came in: it says more and counts as full. Else prove '..UptoSaid'. A law counts once. -/
mutual
def uptoBulk {H : Type} : DataW H → Nat
  | .lit (.string bytes) => bytes.length + 1
  | .lit _ => 1
  | .nil => 1
  | .ptr d => uptoBulk d + 1
  | .slice elems spare => uptoBulkAll elems + uptoBulkAll spare + 1
  | .agg parts => uptoBulkAll parts + 1
  | .iface _ d => uptoBulk d + 1
  | .map entries => uptoBulkEntries entries + 1
  | .held _ => 1
def uptoBulkAll {H : Type} : List (DataW H) → Nat
  | [] => 0
  | d :: r => uptoBulk d + uptoBulkAll r
def uptoBulkEntries {H : Type} : List (Lit × DataW H) → Nat
  | [] => 0
  | x :: r => uptoBulkEntry x + uptoBulkEntries r
def uptoBulkEntry {H : Type} : Lit × DataW H → Nat
  | (.string bytes, d) => bytes.length + uptoBulk d + 1
  | (_, d) => uptoBulk d + 1
 end
def uptoSmall : (H : Type) → List (DataW H) → Bool := fun _ ds => decide (uptoBulkAll ds ≤ 1048576)
def OpenSpec.upto (s : _root_.Go.ChangeSpec) : _root_.Go.OpenSpec := { _root_.Go.OpenSpec.ofChange s with cond := some uptoSmall }

/-- 'purlinlaw07.MemPlays', WHERE WHAT IT READS IS OF BULK AT MOST 1048576: true; the input reads as it did. -/
def memPlaysUptoRow : OpenClaim := { program := "ytbllkbcaapeajaadoor", sum := "e37ea0b71820c63c80a208aa41333d0d2f8a1e8b2d78c7ea762c83ff5ca6f28d", func := "purlin/purlinlaw07.MemPlays", spec := "memPlays", named := ["purlin/mem.look"], apart := false, laid := [("purlin/mem.look", laid_purlin_mem_look)], narrowed := true }
def MemPlaysUptoSaid : Prop := memPlaysUptoRow.holds Tryd.pinned (OpenSpec.upto memPlaysSpec)

/-- 'purlinlaw07.MemApart', WHERE WHAT IT READS IS OF BULK AT MOST 1048576: true; the input reads as it did. -/
def memApartUptoRow : OpenClaim := { program := "ytbllkbcaapeajaadoor", sum := "e37ea0b71820c63c80a208aa41333d0d2f8a1e8b2d78c7ea762c83ff5ca6f28d", func := "purlin/purlinlaw07.MemApart", spec := "memApart", named := ["purlin/mem.look"], apart := false, laid := [("purlin/mem.look", laid_purlin_mem_look)], narrowed := true }
def MemApartUptoSaid : Prop := memApartUptoRow.holds Tryd.pinned (OpenSpec.upto memApartSpec)

/-- 'purlinlaw07.MemSwaps', WHERE WHAT IT READS IS OF BULK AT MOST 1048576: true; the input reads as it did. -/
def memSwapsUptoRow : OpenClaim := { program := "ytbllkbcaapeajaadoor", sum := "e37ea0b71820c63c80a208aa41333d0d2f8a1e8b2d78c7ea762c83ff5ca6f28d", func := "purlin/purlinlaw07.MemSwaps", spec := "memSwaps", named := ["purlin/mem.look"], apart := false, laid := [("purlin/mem.look", laid_purlin_mem_look)], narrowed := true }
def MemSwapsUptoSaid : Prop := memSwapsUptoRow.holds Tryd.pinned (OpenSpec.upto memSwapsSpec)

/-- 'purlinlaw07.MemOwn', WHERE WHAT IT READS IS OF BULK AT MOST 1048576: true; the input reads as it did. -/
def memOwnUptoRow : OpenClaim := { program := "ytbllkbcaapeajaadoor", sum := "e37ea0b71820c63c80a208aa41333d0d2f8a1e8b2d78c7ea762c83ff5ca6f28d", func := "purlin/purlinlaw07.MemOwn", spec := "memOwn", named := ["purlin/mem.look"], apart := false, laid := [("purlin/mem.look", laid_purlin_mem_look)], narrowed := true }
def MemOwnUptoSaid : Prop := memOwnUptoRow.holds Tryd.pinned (OpenSpec.upto memOwnSpec)

/-- 'purlinlaw07.MemAdds', WHERE WHAT IT READS IS OF BULK AT MOST 1048576: true; the input reads as it did. -/
def memAddsUptoRow : OpenClaim := { program := "ytbllkbcaapeajaadoor", sum := "e37ea0b71820c63c80a208aa41333d0d2f8a1e8b2d78c7ea762c83ff5ca6f28d", func := "purlin/purlinlaw07.MemAdds", spec := "memAdds", named := ["purlin/mem.look"], apart := false, laid := [("purlin/mem.look", laid_purlin_mem_look)], narrowed := true }
def MemAddsUptoSaid : Prop := memAddsUptoRow.holds Tryd.pinned (OpenSpec.upto memAddsSpec)

end Rows
end Go.Proofs.YtbllkbcaapeajaaDoor
