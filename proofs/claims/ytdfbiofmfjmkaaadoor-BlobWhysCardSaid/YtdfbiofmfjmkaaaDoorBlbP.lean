/- Layer 2: errors.Is over errors that are wrapped; Is. -/
import Derived.Test.YtdfbiofmfjmkaaaDoorBlbF
namespace Go.Proofs.YtdfbiofmfjmkaaaDoor
open Go.RowKit Go.Extern.Stop Go.Stop Go.Extern
set_option linter.unusedVariables false
set_option linter.unusedSimpArgs false
/-- An error that is wrapped k times. -/
def wrN : Nat → Value → Value
  | 0, v => v
  | k + 1, v => .iface 58 (.agg #[wrN k v])
theorem unwrap_wrap (w : World) (v : Value) (hv : v = .nilIface ∨ ∃ t x, v = .iface t x) : Calls Tryd.prog 60 #[.agg #[v]] w fun e w' => e = .returned v ∧ Below w.heap.size w w' := by
  rcases hv with rfl | ⟨t, x, rfl⟩
  all_goals
    go_enter Tryd.func60, Tryd.ntmps60
    go_wp2_with fail
    go_ret
    exact ⟨rfl, bel_one _ _⟩
theorem unwrap_fail (w : World) (f : Nat) (a n : Int) (hf : w.heap[f]? = some (.cells #[.int .i64 a, .int .i64 n] 56 (0, 0))) : Calls Tryd.prog 58 #[.pointer (some ⟨f, 0, none⟩)] w fun e w' => e = .returned (.iface 37 (.int .i64 n)) ∧ w' = w := by
  obtain ⟨x0, x1⟩ := box2 hf
  go_enter Tryd.func58, Tryd.ntmps58
  go_wp2_with fail
  go_ret
  exact ⟨rfl, rfl⟩
theorem isTypeOf (v : Value) (w : World) : (ReflectliteType.typeOf #[.iface 37 v]).run Tryd.prog w = .ok (.iface 89 (.agg #[.pointer (some ⟨1, 37, none⟩)])) w := by kernel_rfl
theorem isComparable (w : World) : ((ReflectliteType.method fun t => do Rtype.noPackHeld "Comparable" t; (fun a => Value.bool a.comparable) <$> typeInfo t) #[.agg #[.pointer (some ⟨1, 37, none⟩)]]).run Tryd.prog w = .ok (.bool true) w := by kernel_rfl
theorem m_comp (v : Value) (w : World) : (Go.method 231 89 v "Comparable").run Tryd.prog w = .ok (66, v) w := by kernel_rfl
theorem noIs_w (v : Value) (xT : TypeId) (w : World) : (Instr.typeAssert (.iface 58 v) xT 100 true).run Tryd.prog w = .ok (.tuple #[.nilIface, .bool false]) w := run_typeAssert_lacksB Tryd.underlying100 (by kernel_rfl) (by kernel_rfl) v xT w
theorem noIs_f (v : Value) (xT : TypeId) (w : World) : (Instr.typeAssert (.iface 54 v) xT 100 true).run Tryd.prog w = .ok (.tuple #[.nilIface, .bool false]) w := run_typeAssert_lacksB Tryd.underlying100 (by kernel_rfl) (by kernel_rfl) v xT w
theorem noIs_n (v : Value) (xT : TypeId) (w : World) : (Instr.typeAssert (.iface 37 v) xT 100 true).run Tryd.prog w = .ok (.tuple #[.nilIface, .bool false]) w := run_typeAssert_lacksB Tryd.underlying100 (by kernel_rfl) (by kernel_rfl) v xT w
theorem hasUn_w (v : Value) (xT : TypeId) (w : World) : (Instr.typeAssert (.iface 58 v) xT 96 true).run Tryd.prog w = .ok (.tuple #[.iface 58 v, .bool true]) w := run_typeAssert_hasB Tryd.underlying96 (by kernel_rfl) v xT w
theorem hasUn_f (v : Value) (xT : TypeId) (w : World) : (Instr.typeAssert (.iface 54 v) xT 96 true).run Tryd.prog w = .ok (.tuple #[.iface 54 v, .bool true]) w := run_typeAssert_hasB Tryd.underlying96 (by kernel_rfl) v xT w
theorem noUn_n (v : Value) (xT : TypeId) (w : World) : (Instr.typeAssert (.iface 37 v) xT 96 true).run Tryd.prog w = .ok (.tuple #[.nilIface, .bool false]) w := run_typeAssert_lacksB Tryd.underlying96 (by kernel_rfl) (by kernel_rfl) v xT w
theorem noUns_n (v : Value) (xT : TypeId) (w : World) : (Instr.typeAssert (.iface 37 v) xT 97 true).run Tryd.prog w = .ok (.tuple #[.nilIface, .bool false]) w := run_typeAssert_lacksB Tryd.underlying97 (by kernel_rfl) (by kernel_rfl) v xT w
theorem m_un_w (v : Value) (w : World) : (Go.method 231 58 v "Unwrap").run Tryd.prog w = .ok (60, v) w := by kernel_rfl
theorem m_un_f (v : Value) (w : World) : (Go.method 231 54 v "Unwrap").run Tryd.prog w = .ok (58, v) w := by kernel_rfl
/-- A base that is compared with a number: the number it comes to. -/
def Base (w : World) (v : Value) (n : Int) : Prop := v = .iface 37 (.int .i64 n) ∨ ∃ f a, v = .iface 54 (.pointer (some ⟨f, 0, none⟩)) ∧ w.heap[f]? = some (.cells #[.int .i64 a, .int .i64 n] 56 (0, 0))
theorem Base.below {w w' : World} {v : Value} {n : Int} (h : Base w v n) (k : Below w.heap.size w w') : Base w' v n := by
  rcases h with h | ⟨f, a, h1, h2⟩
  · exact .inl h
  · exact .inr ⟨f, a, h1, hup k h2⟩
theorem Base.iface {w : World} {v : Value} {n : Int} (h : Base w v n) (j : Nat) : ∃ t x, wrN j v = .iface t x := by
  cases j with
  | zero => rcases h with h | ⟨f, a, h1, h2⟩ <;> exact ⟨_, _, by rw [wrN]; assumption⟩
  | succ j => exact ⟨_, _, rfl⟩
theorem eql_nn (n m : Int) (w : World) : (binOp .eql 29 (.iface 37 (.int .i64 n)) (.iface 37 (.int .i64 m))).run Tryd.prog w = .ok (.bool (decide (n = m))) w := by
  obtain ⟨i, hi, hc⟩ := Option.map_eq_some_iff.1 (show (Tryd.prog.info? 37).map (·.comparable) = some true by kernel_rfl)
  have h : ∀ d : Nat, (Op.equalIn (d + 2) 29 (.iface 37 (.int .i64 n)) (.iface 37 (.int .i64 m))).run Tryd.prog w = .ok (decide (n = m)) w := fun d => by
    simp [Op.equalIn, run_underlying Tryd.underlying29, run_underlying Tryd.underlying37, typeInfo, hi, hc]
    by_cases h : n = m <;> simp [h]
  simp only [binOp]
  simp [Op.equal, Op.maxDepth, h 9998]
set_option maxHeartbeats 4000000 in
set_option maxRecDepth 100000 in
theorem is2_any (k : Nat) (w : World) (v : Value) (n m : Int) (hb : Base w v n) : Calls Tryd.prog 36 #[wrN k v, .iface 37 (.int .i64 m), .bool true] w fun e w' => e = .returned (.bool (decide (n = m))) ∧ Below w.heap.size w w' := by
  have HB := Aside.mk hb
  have i1 := noIs_w
  have i2 := noIs_f
  have i3 := noIs_n
  have i4 := hasUn_w
  have i5 := hasUn_f
  have i6 := noUn_n
  have i7 := noUns_n
  have i8 := m_un_w
  have i9 := m_un_f
  have hty := fun (x : Value) (w : World) => run_eql_iface_types (P := Tryd.prog) 58 37 x (.int .i64 m) Tryd.underlying29 (by decide) w
  have hty2 := fun (x : Value) (w : World) => run_eql_iface_types (P := Tryd.prog) 54 37 x (.int .i64 m) Tryd.underlying29 (by decide) w
  obtain ⟨v0, hv0⟩ : ∃ v0, wrN k v = v0 := ⟨_, rfl⟩
  have HE := Aside.mk (eql_nn n m)
  obtain ⟨q, hq⟩ : ∃ q, decide (n = m) = q := ⟨_, rfl⟩
  rw [hv0, hq]
  rw [hq] at HE
  clear hq
  go_enter Tryd.func36, Tryd.ntmps36
  go_wp2_with fail
  go_loopg [0] (k + 2) (fun g s0 W => Below w.heap.size w W ∧ ((∃ j, j ≤ k ∧ s0 = wrN j v ∧ g = j + 2) ∨ (s0 = .iface 37 (.int .i64 n) ∧ g = 1)))
  case atStart => exact ⟨Below.refl _ _, .inl ⟨k, Nat.le_refl _, hv0.symm, rfl⟩⟩
  case round =>
    obtain ⟨hB, hrel⟩ := hrel
    have HBW := Aside.mk hB
    rcases hrel with ⟨j, hj, rfl, rfl⟩ | ⟨rfl, rfl⟩
    · cases j with
      | zero =>
        rcases HB.out.below hB with hb | ⟨f, a, hb, hf⟩
        · rw [wrN, hb]
          have he := HE.out wr
          clear hB hb
          cases q
          all_goals
            go_wp2_with fail
            go_ret
            exact ⟨rfl, HBW.out⟩
        · rw [wrN, hb]
          have KU := Aside.mk (unwrap_fail wr f a n hf)
          clear hB hb hf
          go_wp2_with fail
          refine KU.out.mono ?_
          rintro e w2 ⟨rfl, rfl⟩
          go_wp2_with fail
          go_roundg 1
          case measure => omega
          case rel => exact ⟨HBW.out, .inr ⟨rfl, rfl⟩⟩
      | succ j =>
        obtain ⟨t, x, hx⟩ := (HB.out.below hB).iface j
        have KU := Aside.mk (unwrap_wrap wr (.iface t x) (.inr ⟨_, _, rfl⟩))
        rw [wrN, hx]
        clear hB
        go_wp2_with fail
        refine KU.out.mono ?_
        rintro e w2 ⟨rfl, b2⟩
        have B2 := Aside.mk (bel_then HBW.out b2)
        clear b2
        go_wp2_with fail
        go_roundg (j + 2)
        case measure => omega
        case rel => exact ⟨B2.out, .inl ⟨j, by omega, hx.symm, rfl⟩⟩
    · have he := HE.out wr
      clear hB
      cases q
      all_goals
        go_wp2_with fail
        go_ret
        exact ⟨rfl, HBW.out⟩
set_option maxHeartbeats 4000000 in
set_option maxRecDepth 100000 in
theorem is_any (k : Nat) (w : World) (v : Value) (n m : Int) (hb : Base w v n) : Calls Tryd.prog 23 #[wrN k v, .int .i64 m] w fun e w' => e = .returned (.bool (decide (n = m))) ∧ Below w.heap.size w w' := by
  have K2 := Aside.mk (is2_any k w v n m hb)
  obtain ⟨t, x, hx⟩ := hb.iface k
  rw [hx] at K2 ⊢
  clear hb hx
  have KI : Calls Tryd.prog 30 #[.iface t x, .iface 37 (.int .i64 m)] w fun e w' => e = .returned (.bool (decide (n = m))) ∧ Below w.heap.size w w' := by
    have h10 := @run_callFunc_extern Tryd.prog 35 _ ReflectliteType.typeOf Tryd.func35 (by kernel_rfl) (by kernel_rfl) (by kernel_rfl) (by kernel_rfl)
    have h32 := @run_callFunc_extern Tryd.prog 66 _ (ReflectliteType.method fun t => do Rtype.noPackHeld "Comparable" t; pure (.bool (← typeInfo t).comparable)) Tryd.func66 (by kernel_rfl) (by kernel_rfl) (by kernel_rfl) (by kernel_rfl)
    have tT := isTypeOf
    have cT := isComparable
    have mR := m_comp
    go_enter Tryd.func30, Tryd.ntmps30
    go_wp2_with fail
    refine K2.out.mono ?_
    rintro e w2 ⟨rfl, b2⟩
    go_wp2_with fail
    go_ret
    exact ⟨rfl, b2⟩
  have KI := Aside.mk KI
  go_enter Tryd.func23, Tryd.ntmps23
  go_wp2_with fail
  refine KI.out.mono ?_
  rintro e w2 ⟨rfl, b2⟩
  go_wp2_with fail
  go_ret
  exact ⟨rfl, b2⟩
theorem is_nil (w : World) (m : Int) : Calls Tryd.prog 23 #[.nilIface, .int .i64 m] w fun e w' => e = .returned (.bool false) ∧ w' = w := by
  go_enter Tryd.func23, Tryd.ntmps23
  go_wp2_with fail
  go_ret
  exact ⟨rfl, rfl⟩
end Go.Proofs.YtdfbiofmfjmkaaaDoor
