/- Whether two actions' rows are the same. -/
import Derived.Test.YtbphlapdhcgikaaDoorBoxA
import Derived.ChangeKeysEq
namespace Go.Proofs.YtbphlapdhcgikaaDoor
open Go.RowKit
set_option linter.unusedVariables false
set_option linter.unusedSimpArgs false

theorem A_info_u8' : (Tryd.prog.info? 5).map (fun i => (i.zero, i.size, i.bytes)) = some (some (.int .u8 0), 1, 1) := by kernel_rfl
theorem u8_equal (d : Nat) (W : World) (a b : Int) : (Op.equalIn (d + 1) 5 (.int .u8 a) (.int .u8 b)).run Tryd.prog W = .ok (a == b) W := by
  unfold Op.equalIn
  simp [run_underlying Tryd.underlying5]
theorem act_part0 (W : World) (x0 x1 x2 : Int) : (part 5 #[.int .u8 x0, .int .u8 x1, .int .u8 x2] 0).run Tryd.prog W = .ok (.int .u8 x0) W := by kernel_rfl
theorem act_part1 (W : World) (x0 x1 x2 : Int) : (part 5 #[.int .u8 x0, .int .u8 x1, .int .u8 x2] 1).run Tryd.prog W = .ok (.int .u8 x1) W := by kernel_rfl
theorem act_part2 (W : World) (x0 x1 x2 : Int) : (part 5 #[.int .u8 x0, .int .u8 x1, .int .u8 x2] 2).run Tryd.prog W = .ok (.int .u8 x2) W := by kernel_rfl
theorem acts_equal (W : World) (a b c a' b' c' : Int) : (Op.equal 54 (.agg #[.int .u8 a, .int .u8 b, .int .u8 c]) (.agg #[.int .u8 a', .int .u8 b', .int .u8 c'])).run Tryd.prog W = .ok (a == a' && b == b' && c == c') W := by
  have hi : ∃ i, Tryd.prog.info? 5 = some i := by
    cases h : Tryd.prog.info? 5 with
    | none => have := A_info_u8'; rw [h] at this; cases this
    | some i => exact ⟨i, rfl⟩
  obtain ⟨i, hi⟩ := hi
  unfold Op.equal
  have e := run_equalIn_array (P := Tryd.prog) (w := W) 9999 (t := 54) #[.int .u8 a, .int .u8 b, .int .u8 c] #[.int .u8 a', .int .u8 b', .int .u8 c'] Tryd.underlying54 hi
  have hm : Op.maxDepth = 9999 + 1 := rfl
  rw [hm, e]
  have hc : Tryd.prog.cellsOf 5 = 1 := by kernel_rfl
  rw [hc]
  show (Op.eqItems 9999 _ 1 _ _ [0, 1, 2]).run _ _ = _
  have p0 := act_part0 W
  have p1 := act_part1 W
  have p2 := act_part2 W
  have q := fun x y => u8_equal 9998 W x y
  simp only [Op.eqItems, Sem.run_bind, p0, p1, p2, q, Result.andThen_ok, Nat.reduceMul]
  cases h0 : a == a' <;> cases h1 : b == b' <;> cases h2 : c == c' <;> simp_all
theorem acts_equalIn (W : World) (a b c a' b' c' : Int) : (Op.equalIn 10000 54 (.agg #[.int .u8 a, .int .u8 b, .int .u8 c]) (.agg #[.int .u8 a', .int .u8 b', .int .u8 c'])).run Tryd.prog W = .ok (a == a' && b == b' && c == c') W := acts_equal W a b c a' b' c'
end Go.Proofs.YtbphlapdhcgikaaDoor
