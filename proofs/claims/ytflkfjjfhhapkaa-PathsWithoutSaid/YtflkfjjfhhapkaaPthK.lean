/- Paths: what the chapter's example fixes (values). -/
import Derived.Test.YtflkfjjfhhapkaaPthJ
import Derived.Test.YtflkfjjfhhapkaaPthH
import Derived.Test.YtflkfjjfhhapkaaWot
namespace Go.Proofs.Ytflkfjjfhhapkaa
open Go.RowKit
set_option linter.unusedVariables false
set_option linter.unusedSimpArgs false

theorem exv_into2 : intoL 4 exH 2 = [true, true, true, false] := by rw [← itK_into (by decide)]; kernel_rfl
theorem exv_into0 : intoL 4 exH 0 = [true, false, false, false] := by rw [← itK_into (by decide)]; kernel_rfl
theorem exv_into1 : intoL 4 exH 1 = [true, true, false, false] := by rw [← itK_into (by decide)]; kernel_rfl
theorem exv_more : intoL 4 (exH ++ [(0, 2, 3, 0, 0, 0, ())]) 2 = [true, true, true, true] := by rw [← itK_into (by decide)]; kernel_rfl
theorem outL_two {n : Nat} {H : List ChanR} {p : Nat} (hp : p < n) (h : passO n H (passO n H ((List.replicate n false).set p true)) = passO n H ((List.replicate n false).set p true)) : passO n H ((List.replicate n false).set p true) = outL n H p := by
  have k := (OutSt.start (H := H) hp).next.next
  rw [h] at k
  exact k.fin
theorem exv_out0 : outL 4 exH 0 = [true, true, true, false] := by rw [← outL_two (by decide) (by kernel_rfl)]; kernel_rfl
theorem exv_out2 : outL 4 exH 2 = [false, false, true, false] := by rw [← outL_two (by decide) (by kernel_rfl)]; kernel_rfl
theorem exv_apart03 : apartB 4 exH 0 3 = true := by rw [apartB, exv_out0, exv_into0]; rfl
theorem exv_apart20 : apartB 4 exH 2 0 = false := by rw [apartB, exv_out2, exv_into2]; rfl
theorem exv_in : numsF (inF 4 1) exH = [0] := by kernel_rfl
theorem exv_out : numsF (outF 4 1) exH = [1] := by kernel_rfl
theorem exv_excl : exclB exP 3 0 = true := by kernel_rfl
theorem exv_wo : (Plan.chans exP).filter (fun c => rightB (Plan.parts exP).length c && kn (intoL (Plan.parts exP).length (Plan.chans exP) 1) (ChanR.t c)) = [(1, 0, 1, 0, 0, 0, ())] := by
  rw [show intoL (Plan.parts exP).length (Plan.chans exP) 1 = [true, true, false, false] from exv_into1]
  kernel_rfl
end Go.Proofs.Ytflkfjjfhhapkaa
