/- The reference's bytes: a number's one byte, its two bytes. -/
import Derived.Test.YtbphlapdhcgikaaDoorRtA
namespace Go.Proofs.YtbphlapdhcgikaaDoor
open Go.RowKit
set_option linter.unusedVariables false
set_option linter.unusedSimpArgs false

theorem strs_app (a b : List Int) : strOfNums a ++ strOfNums b = strOfNums (a ++ b) := by
  apply ByteArray.ext
  simp [strOfNums]
theorem strs_size (a : List Int) : (strOfNums a).size = a.length := by
  show (List.map (fun n : Int => UInt8.ofNat n.toNat) a).toArray.size = a.length
  simp
theorem fit2 {a b : List Int} (h : a.length + b.length ≤ 1000000000) : ¬ 9223372036854775807 < (strOfNums a).size + (strOfNums b).size := by
  rw [strs_size, strs_size]; omega
theorem fit_n {a b : ByteArray} (h : a.size + b.size ≤ 1000000000) : ¬ 9223372036854775807 < a.size + b.size := by omega
theorem one_any (w : World) (n : Int) : Calls Tryd.prog 24 #[.int .u8 n] w fun e w' => e = .returned (.string (strOfNums [n])) ∧ Below w.heap.size w w' := by
  have cs := Bl.conv_ints (lit_ints w [n] 1 #[.int .u8 n] (0, 0) rfl rfl (by simp [twoB]))
  have b1 := bel_one w (.cells #[.int .u8 n] 5)
  go_enter Tryd.func24, Tryd.ntmps24
  go_wp2_with fail
  go_ret
  exact ⟨rfl, b1⟩
theorem two_any (w : World) (n : Int) (h0 : 0 ≤ n) (h1 : n ≤ 65535) : Calls Tryd.prog 23 #[.int .i64 n] w fun e w' => e = .returned (.string (strOfNums (twoB n))) ∧ Below w.heap.size w w' := by
  have cs := Bl.conv_ints (lit_ints w (twoB n) 2 #[.int .u8 (n / 256), .int .u8 (n % 256)] (0, 0) rfl rfl (by simp [twoB]))
  have cs : (convert 31 9 (.slice (some ⟨w.heap.size, 0, none⟩) 2 2)).run Tryd.prog (w.alloc (.cells #[.int .u8 (n / 256), .int .u8 (n % 256)] 5)) = .ok (.string (strOfNums (twoB n))) (w.alloc (.cells #[.int .u8 (n / 256), .int .u8 (n % 256)] 5)) := cs
  have b1 := bel_one w (.cells #[.int .u8 (n / 256), .int .u8 (n % 256)] 5)
  have q1 : Int.tdiv n 256 = n / 256 := by rw [Int.tdiv_eq_ediv_of_nonneg h0]
  have q2 : Int.tmod n 256 = n % 256 := by rw [Int.tmod_eq_emod_of_nonneg h0]
  have q3 : IntKind.u8.wrap (n / 256) = n / 256 := by rw [IntKind.wrap_u8]; omega
  have q4 : IntKind.u8.wrap (n % 256) = n % 256 := by rw [IntKind.wrap_u8]; omega
  have q5 : IntKind.i64.wrap (n / 256) = n / 256 := by rw [IntKind.wrap_i64]; omega
  go_enter Tryd.func23, Tryd.ntmps23
  go_wp2_with fail
  go_ret
  exact ⟨rfl, b1⟩
end Go.Proofs.YtbphlapdhcgikaaDoor
