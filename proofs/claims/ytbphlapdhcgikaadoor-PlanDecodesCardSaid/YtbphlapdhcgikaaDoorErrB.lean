/- Errors: Why and Is of no error, of a Failure. -/
import Derived.Test.YtbphlapdhcgikaaDoorErrA
namespace Go.Proofs.YtbphlapdhcgikaaDoor
open Go.RowKit Go.Extern.Stop Go.Stop Go.Extern
set_option linter.unusedVariables false
set_option linter.unusedSimpArgs false

def numQ (q : Option (Int × Int)) : Int := match q with | none => 0 | some (n, _) => n
def atQ (q : Option (Int × Int)) : Int := match q with | none => 0 | some (_, a) => a
/-- A value that is an error of a Failure (its number, its place), or none. -/
def ErrF (w : World) (q : Option (Int × Int)) (v : Value) : Prop := match q with
  | none => v = .nilIface
  | some (n, a) => ∃ f, v = .iface 70 (.pointer (some ⟨f, 0, none⟩)) ∧ w.heap[f]? = some (.cells #[.int .i64 a, .int .i64 n] 74 (0, 0))
theorem ErrF.below {w w' : World} {q : Option (Int × Int)} {v : Value} (h : ErrF w q v) (k : Below w.heap.size w w') : ErrF w' q v := by
  cases q with
  | none => exact h
  | some x => obtain ⟨f, rfl, hf⟩ := h; exact ⟨f, rfl, lup k hf⟩
def WhyP (w : World) (n a : Int) (e : Ending) (w' : World) : Prop := e = .returned (.tuple #[.int .i64 n, .int .i64 a]) ∧ Below w.heap.size w w'
set_option maxHeartbeats 4000000 in
theorem why_any (w : World) (q : Option (Int × Int)) (v : Value) (hv : ErrF w q v) (hg : ETy w) : Calls Tryd.prog 14 #[v] w (WhyP w (numQ q) (atQ q)) := by
  cases q with
  | none =>
    obtain rfl : v = .nilIface := hv
    go_enter Tryd.func14, Tryd.ntmps14
    go_wp2_with fail
    refine (as_nil _ _).mono ?_
    rintro e w2 ⟨rfl, rfl⟩
    go_wp2_with fail
    refine (as_nil _ _).mono ?_
    rintro e w3 ⟨rfl, rfl⟩
    go_wp2_with fail
    go_ret2
    exact ⟨rfl, lthen (lone _ _) (lone _ _)⟩
  | some x =>
    obtain ⟨n, a⟩ := x
    obtain ⟨f, rfl, hf⟩ := hv
    obtain ⟨W2, HW⟩ : ∃ W2, Aside (W2 = (w.alloc (.cells #[.int .i64 0] 38)).alloc (.cells #[.pointer none] 70)) := ⟨_, ⟨rfl⟩⟩
    have K2 : Below w.heap.size w W2 := by rw [HW.out]; exact lthen (lone _ _) (lone _ _)
    have hT : W2.heap[w.heap.size + 1]? = some (.cells #[.pointer none] 70 (0, 0)) := by
      rw [HW.out]
      have := heap_alloc_new (w.alloc (.cells #[.int .i64 0] 38)) (.cells #[.pointer none] 70)
      simpa using this
    have KA := Aside.mk (as_ff (.iface 70 (.pointer (some ⟨f, 0, none⟩))) ⟨_, _, rfl⟩ (w.heap.size + 1) W2 (.pointer none) (hg.below K2) hT (fun W e w' => e = .returned (.bool true) ∧ Kept (fun j => j = w.heap.size + 1) W w' ∧ w'.heap[w.heap.size + 1]? = some (.cells #[.pointer (some ⟨f, 0, none⟩)] 70 (0, 0)))
      (fun W b hW hb => (as2_hit ⟨f, 0, none⟩ (w.heap.size + 1) b (.pointer none) _ W hb (lup hW hT)).mono (fun e w' h => ⟨true, h.1, h.1, h.2⟩)))
    have HF := Aside.mk (And.intro K2 (lup K2 hf))
    have FL := Aside.mk (lt_of_block hf)
    clear hf hg hT K2
    go_enter Tryd.func14, Tryd.ntmps14
    go_upto_region 3 with (fail)
    rw [← HW.out]
    go_wp2_with fail
    refine KA.out.mono ?_
    rintro e w3 ⟨W, hW, rfl, hK, hT⟩
    have hne : f ≠ w.heap.size + 1 := by have := FL.out; omega
    obtain ⟨y0, y1⟩ := lbox2 (hK.heap (lup hW HF.out.2) hne)
    have t0 : w3.cell? ⟨w.heap.size + 1, 0, none⟩ = some (.pointer (some ⟨f, 0, none⟩)) := by simp [World.cell?, hT]
    have B3 : Below w.heap.size w w3 := HF.out.1.trans ((Below.refl W2.heap.size W2 |>.trans hW).mono (by have := HF.out.1.size; omega) |>.trans (hK.below (by have := HF.out.1.size; have := hW.size; omega) (fun j e => by omega)))
    have B3 := Aside.mk B3
    clear hT hK hW hne
    go_upto_region 4 with (fail)
    go_quiet (fail)
    go_wp2_with fail
    go_ret2
    exact ⟨rfl, lthen B3.out (below_drewN _ _)⟩
theorem unwrap_fail (w : World) (f : Nat) (a n : Int) (hf : w.heap[f]? = some (.cells #[.int .i64 a, .int .i64 n] 74 (0, 0))) : Calls Tryd.prog 90 #[.pointer (some ⟨f, 0, none⟩)] w fun e w' => e = .returned (.iface 38 (.int .i64 n)) ∧ w' = w := by
  obtain ⟨x0, x1⟩ := lbox2 hf
  go_enter Tryd.func90, Tryd.ntmps90
  go_wp2_with fail
  go_ret
  exact ⟨rfl, rfl⟩
theorem isTypeOf (v : Value) (w : World) : (ReflectliteType.typeOf #[.iface 38 v]).run Tryd.prog w = .ok (.iface 133 (.agg #[.pointer (some ⟨1, 38, none⟩)])) w := by kernel_rfl
theorem isComparable (w : World) : ((ReflectliteType.method fun t => do Rtype.noPackHeld "Comparable" t; (fun a => Value.bool a.comparable) <$> typeInfo t) #[.agg #[.pointer (some ⟨1, 38, none⟩)]]).run Tryd.prog w = .ok (.bool true) w := by kernel_rfl
theorem m_comp (v : Value) (w : World) : (Go.method 278 133 v "Comparable").run Tryd.prog w = .ok (97, v) w := by kernel_rfl
theorem noIs_f (v : Value) (xT : TypeId) (w : World) : (Instr.typeAssert (.iface 70 v) xT 146 true).run Tryd.prog w = .ok (.tuple #[.nilIface, .bool false]) w := run_typeAssert_lacksB Tryd.underlying146 (by kernel_rfl) (by kernel_rfl) v xT w
theorem noIs_n (v : Value) (xT : TypeId) (w : World) : (Instr.typeAssert (.iface 38 v) xT 146 true).run Tryd.prog w = .ok (.tuple #[.nilIface, .bool false]) w := run_typeAssert_lacksB Tryd.underlying146 (by kernel_rfl) (by kernel_rfl) v xT w
theorem hasUn_f (v : Value) (xT : TypeId) (w : World) : (Instr.typeAssert (.iface 70 v) xT 141 true).run Tryd.prog w = .ok (.tuple #[.iface 70 v, .bool true]) w := run_typeAssert_hasB Tryd.underlying141 (by kernel_rfl) v xT w
theorem noUn_n (v : Value) (xT : TypeId) (w : World) : (Instr.typeAssert (.iface 38 v) xT 141 true).run Tryd.prog w = .ok (.tuple #[.nilIface, .bool false]) w := run_typeAssert_lacksB Tryd.underlying141 (by kernel_rfl) (by kernel_rfl) v xT w
theorem noUns_n (v : Value) (xT : TypeId) (w : World) : (Instr.typeAssert (.iface 38 v) xT 142 true).run Tryd.prog w = .ok (.tuple #[.nilIface, .bool false]) w := run_typeAssert_lacksB Tryd.underlying142 (by kernel_rfl) (by kernel_rfl) v xT w
theorem m_un_f (v : Value) (w : World) : (Go.method 278 70 v "Unwrap").run Tryd.prog w = .ok (90, v) w := by kernel_rfl
theorem eql_nn (n m : Int) (w : World) : (binOp .eql 33 (.iface 38 (.int .i64 n)) (.iface 38 (.int .i64 m))).run Tryd.prog w = .ok (.bool (decide (n = m))) w := by
  obtain ⟨i, hi, hc⟩ := Option.map_eq_some_iff.1 (show (Tryd.prog.info? 38).map (·.comparable) = some true by kernel_rfl)
  have h : ∀ d : Nat, (Op.equalIn (d + 2) 33 (.iface 38 (.int .i64 n)) (.iface 38 (.int .i64 m))).run Tryd.prog w = .ok (decide (n = m)) w := fun d => by
    simp [Op.equalIn, run_underlying Tryd.underlying33, run_underlying Tryd.underlying38, typeInfo, hi, hc]
    by_cases h : n = m <;> simp [h]
  simp only [binOp]
  simp [Op.equal, Op.maxDepth, h 9998]
set_option maxHeartbeats 4000000 in
set_option maxRecDepth 100000 in
theorem is2_any (w : World) (f : Nat) (a n m : Int) (hf : w.heap[f]? = some (.cells #[.int .i64 a, .int .i64 n] 74 (0, 0))) : Calls Tryd.prog 70 #[.iface 70 (.pointer (some ⟨f, 0, none⟩)), .iface 38 (.int .i64 m), .bool true] w fun e w' => e = .returned (.bool (decide (n = m))) ∧ Below w.heap.size w w' := by
  have i2 := noIs_f
  have i3 := noIs_n
  have i5 := hasUn_f
  have i6 := noUn_n
  have i7 := noUns_n
  have i9 := m_un_f
  have hty2 := fun (x : Value) (w : World) => run_eql_iface_types (P := Tryd.prog) 70 38 x (.int .i64 m) Tryd.underlying33 (by decide) w
  have HE := Aside.mk (eql_nn n m)
  obtain ⟨q, hq⟩ : ∃ q, decide (n = m) = q := ⟨_, rfl⟩
  rw [hq]
  rw [hq] at HE
  have KU := Aside.mk (unwrap_fail w f a n hf)
  have he := HE.out w
  clear hq hf
  go_enter Tryd.func70, Tryd.ntmps70
  go_wp2_with fail
  refine wp_loop_rounds 2 ?_
  rw [rounds_succ]
  go_wp2_with fail
  refine KU.out.mono ?_
  rintro e w2 ⟨rfl, rfl⟩
  go_wp2_with fail
  rw [rounds_succ]
  cases q
  all_goals
    go_wp2_with fail
    go_ret
    exact ⟨rfl, Below.refl _ _⟩
set_option maxHeartbeats 4000000 in
set_option maxRecDepth 100000 in
theorem is_any (w : World) (n a m : Int) (v : Value) (hv : ErrF w (some (n, a)) v) : Calls Tryd.prog 29 #[v, .int .i64 m] w fun e w' => e = .returned (.bool (decide (n = m))) ∧ Below w.heap.size w w' := by
  obtain ⟨f, rfl, hf⟩ := hv
  have K2 := Aside.mk (is2_any w f a n m hf)
  clear hf
  have KI : Calls Tryd.prog 59 #[.iface 70 (.pointer (some ⟨f, 0, none⟩)), .iface 38 (.int .i64 m)] w fun e w' => e = .returned (.bool (decide (n = m))) ∧ Below w.heap.size w w' := by
    have h10 := @run_callFunc_extern Tryd.prog 67 _ ReflectliteType.typeOf Tryd.func67 (by kernel_rfl) (by kernel_rfl) (by kernel_rfl) (by kernel_rfl)
    have h32 := @run_callFunc_extern Tryd.prog 97 _ (ReflectliteType.method fun t => do Rtype.noPackHeld "Comparable" t; pure (.bool (← typeInfo t).comparable)) Tryd.func97 (by kernel_rfl) (by kernel_rfl) (by kernel_rfl) (by kernel_rfl)
    have tT := isTypeOf
    have cT := isComparable
    have mR := m_comp
    go_enter Tryd.func59, Tryd.ntmps59
    go_wp2_with fail
    refine K2.out.mono ?_
    rintro e w2 ⟨rfl, b2⟩
    go_wp2_with fail
    go_ret
    exact ⟨rfl, b2⟩
  have KI := Aside.mk KI
  go_enter Tryd.func29, Tryd.ntmps29
  go_wp2_with fail
  refine KI.out.mono ?_
  rintro e w2 ⟨rfl, b2⟩
  go_wp2_with fail
  go_ret
  exact ⟨rfl, b2⟩
theorem is_nil (w : World) (m : Int) : Calls Tryd.prog 29 #[.nilIface, .int .i64 m] w fun e w' => e = .returned (.bool false) ∧ w' = w := by
  go_enter Tryd.func29, Tryd.ntmps29
  go_wp2_with fail
  go_ret
  exact ⟨rfl, rfl⟩
end Go.Proofs.YtbphlapdhcgikaaDoor
