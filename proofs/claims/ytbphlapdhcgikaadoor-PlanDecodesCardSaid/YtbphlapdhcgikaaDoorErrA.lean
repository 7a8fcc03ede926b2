/- Errors: errors.As. -/
import Derived.Test.YtbphlapdhcgikaaDoorLem
import Derived.LaidEql
import Derived.Stop.Asserts
import Derived.RowKitTokens
namespace Go.Proofs.YtbphlapdhcgikaaDoor
open Go.RowKit Go.Extern.Stop Go.Stop Go.Extern
set_option linter.unusedVariables false
set_option linter.unusedSimpArgs false
/-- The package's variable errors.errorType: the type 'error'. -/
def ETy (w : World) : Prop := w.cell? ⟨0, 0, none⟩ = some (.iface 133 (.agg #[.pointer (some ⟨1, 33, none⟩)]))
theorem ETy.below {w w' : World} (h : ETy w) (k : Below w.heap.size w w') : ETy w' := (Kept.of_below (S := fun _ => False) k).cell h id
theorem as_nil (t : Value) (w : World) :
    Calls Tryd.prog 25 #[.nilIface, t] w fun e w' => e = .returned (.bool false) ∧ w' = w := by
  go_enter Tryd.func25, Tryd.ntmps25
  go_wp2
  go_ret
  exact ⟨rfl, rfl⟩
def TyV (t : Nat) : Value := .iface 133 (.agg #[.pointer (some ⟨1, t, none⟩)])
theorem tO_f (v : Value) (w : World) : (ReflectliteType.typeOf #[.iface 70 v]).run Tryd.prog w = .ok (.iface 133 (.agg #[.pointer (some ⟨1, 70, none⟩)])) w := by kernel_rfl
theorem m_assign (h : Value) (w : World) : (Go.method 278 133 (.agg #[h]) "AssignableTo").run Tryd.prog w = .ok (96, .agg #[h]) w := by kernel_rfl
theorem a_ff (w : World) : (ReflectliteType.relation "AssignableTo" ReflectliteType.assignableTo #[.agg #[.pointer (some ⟨1, 70, none⟩)], .iface 133 (.agg #[.pointer (some ⟨1, 70, none⟩)])]).run Tryd.prog w = .ok (.bool true) w := by kernel_rfl
theorem vo_f (e : Addr) (w : World) : (ReflectliteValue.unpack (.iface 70 (.pointer (some e)))).run Tryd.prog w
    = .ok (.agg #[.pointer (some ⟨1, 70, none⟩), .pointer (some ⟨w.heap.size, 0, none⟩), .int .u64 150]) (w.alloc (.cells #[.pointer (some e)] 70)) := by kernel_rfl
theorem rlm (z : Sem Value) (f : TypeId → Addr → Nat → Nat → Sem Value) (v : Value) :
    ReflectliteValue.method z f #[v] = (do match ← ReflectliteValue.parts v with | none => z | some (t, a, fl) => f t a fl (fl % 32)) := rfl
theorem parts_ff (a : Addr) (w : World) : (ReflectliteValue.parts (.agg #[.pointer (some ⟨1, 72, none⟩), .pointer (some a), .int .u64 150])).run Tryd.prog w = .ok (some (72, a, 150)) w := by kernel_rfl
theorem elemOf_ff (w : World) : (Rtype.elem? 72).run Tryd.prog w = .ok (some 70) w := by kernel_rfl
theorem mk_f (p : Addr) (w : World) : (ReflectliteValue.mk 70 p ReflectliteValue.flagAddr).run Tryd.prog w = .ok (.agg #[.pointer (some ⟨1, 70, none⟩), .pointer (some p), .int .u64 406]) w := by kernel_rfl
theorem elemV_ff (a p : Addr) (W : World) (ha : W.cell? a = some (.pointer (some p))) :
    (ReflectliteValue.method (ReflectliteValue.valueError "reflectlite.Value.Elem" 0) ReflectliteValue.elem #[.agg #[.pointer (some ⟨1, 72, none⟩), .pointer (some a), .int .u64 150]]).run Tryd.prog W
      = .ok (.agg #[.pointer (some ⟨1, 70, none⟩), .pointer (some p), .int .u64 406]) W := by
  rw [rlm]
  simp only [Sem.run_bind, parts_ff, Result.andThen]
  simp [ReflectliteValue.elem, loadVar, isAgg, underlying, Tryd.underlying72, ha, Result.andThen, elemOf_ff, mk_f]
theorem rls (v x : Value) : ReflectliteValue.set #[v, x] = (do
    let (some (dst, a, fl), some (src, b, _)) := (← ReflectliteValue.parts v, ← ReflectliteValue.parts x)
      | unsupported (.noEntry "extern/(internal/reflectlite.Value).Set.zeroValue")
    if fl / ReflectliteValue.flagAddr % 2 == 0 then unsupported (.noEntry "extern/(internal/reflectlite.Value).Set.unaddressable")
    let val ← loadVar src b
    if ← Rtype.directlyAssignable dst src then storeVar dst a val
    else if ← Rtype.implements dst src then
      if (← Rtype.kind src) == 20 then
        match val with
        | .nilIface => unsupported (.noEntry "extern/reflectlite: a nil value of one interface type handed on as a value of another")
        | _ => storeVar dst a val
      else storeVar dst a (.iface src val)
    else panicString ("reflectlite.Set: value of type " ++ (← Rtype.spelt src) ++ " is not assignable to type " ++ (← Rtype.spelt dst))
    pure (.tuple #[])) := rfl
theorem parts_fa (a : Addr) (w : World) : (ReflectliteValue.parts (.agg #[.pointer (some ⟨1, 70, none⟩), .pointer (some a), .int .u64 406])).run Tryd.prog w = .ok (some (70, a, 406)) w := by kernel_rfl
theorem parts_f (a : Addr) (w : World) : (ReflectliteValue.parts (.agg #[.pointer (some ⟨1, 70, none⟩), .pointer (some a), .int .u64 150])).run Tryd.prog w = .ok (some (70, a, 150)) w := by kernel_rfl
theorem direct_f (w : World) : (Rtype.directlyAssignable 70 70).run Tryd.prog w = .ok true w := by kernel_rfl
theorem set_f (ta b e : Addr) (old : Value) (W : World) (hb : W.cell? b = some (.pointer (some e))) (ht : W.cell? ta = some old) (hf : W.frozen? ta = false) :
    (ReflectliteValue.set #[.agg #[.pointer (some ⟨1, 70, none⟩), .pointer (some ta), .int .u64 406], .agg #[.pointer (some ⟨1, 70, none⟩), .pointer (some b), .int .u64 150]]).run Tryd.prog W
      = .ok (.tuple #[]) (W.setCell ta (.pointer (some e))) := by
  rw [rls]
  simp only [Sem.run_bind, parts_fa, parts_f, Result.andThen]
  simp [ReflectliteValue.flagAddr, loadVar, isAgg, underlying, Tryd.underlying70, hb, Result.andThen, direct_f, storeVar, Value.cells, storeCells, Addr.add]
  rw [run_store Tryd.prog W ta _ _ (by rfl)]
  simp [ht, hf]
set_option maxHeartbeats 4000000 in
set_option maxRecDepth 100000 in
theorem as2_hit (e : Addr) (T b : Nat) (old : Value) (ty : TypeId) (w : World) (hb : w.cell? ⟨b, 0, none⟩ = some (.pointer (some ⟨T, 0, none⟩))) (hT : w.heap[T]? = some (.cells #[old] ty (0, 0))) :
    Calls Tryd.prog 57 #[.iface 70 (.pointer (some e)), .iface 72 (.pointer (some ⟨T, 0, none⟩)), .agg #[.pointer (some ⟨1, 72, none⟩), .pointer (some ⟨b, 0, none⟩), .int .u64 150], .iface 133 (.agg #[.pointer (some ⟨1, 70, none⟩)])] w fun ev w' => ev = .returned (.bool true) ∧ Kept (fun j => j = T) w w' ∧ w'.heap[T]? = some (.cells #[.pointer (some e)] ty (0, 0)) := by
  have h10 := @run_callFunc_extern Tryd.prog 67 _ ReflectliteType.typeOf Tryd.func67 (by kernel_rfl) (by kernel_rfl) (by kernel_rfl) (by kernel_rfl)
  have h35 := @run_callFunc_extern Tryd.prog 96 _ (ReflectliteType.relation "AssignableTo" ReflectliteType.assignableTo) Tryd.func96 (by kernel_rfl) (by kernel_rfl) (by kernel_rfl) (by kernel_rfl)
  have h11 := @run_callFunc_extern Tryd.prog 68 _ (ReflectliteValue.method (ReflectliteValue.valueError "reflectlite.Value.Elem" 0) ReflectliteValue.elem) Tryd.func68 (by kernel_rfl) (by kernel_rfl) (by kernel_rfl) (by kernel_rfl)
  have h12 := @run_callFunc_extern Tryd.prog 69 _ ReflectliteValue.set Tryd.func69 (by kernel_rfl) (by kernel_rfl) (by kernel_rfl) (by kernel_rfl)
  have h6 := @run_callFunc_extern Tryd.prog 54 _ (fun args => ReflectliteValue.unpack (args.getD 0 (.tuple #[]))) Tryd.func54 (by kernel_rfl) (by kernel_rfl) (by kernel_rfl) (by kernel_rfl)
  have tO := tO_f
  have mA := m_assign
  have aff := a_ff
  have vof := vo_f
  have htl : T < w.heap.size := lt_of_block hT
  have hbl : b < w.heap.size := by
    rcases Nat.lt_or_ge b w.heap.size with h | h
    · exact h
    · simp [World.cell?, Array.getElem?_eq_none h] at hb
  obtain ⟨W1, HW⟩ : ∃ W1, Aside (W1 = w.alloc (.cells #[.pointer (some ⟨1, 72, none⟩), .pointer (some ⟨b, 0, none⟩), .int .u64 150] 113)) := ⟨_, ⟨rfl⟩⟩
  have K1 : Aside (Below w.heap.size w W1) := ⟨by rw [HW.out]; exact lone _ _⟩
  have el := elemV_ff ⟨b, 0, none⟩ ⟨T, 0, none⟩ W1 ((Kept.of_below (S := fun _ => False) K1.out).cell hb id)
  have K2 : Below w.heap.size w (W1.alloc (.cells #[.pointer (some e)] 70)) := lthen K1.out (lone _ _)
  have hT2 := lup K2 hT
  have st := set_f ⟨T, 0, none⟩ ⟨W1.heap.size, 0, none⟩ e old (W1.alloc (.cells #[.pointer (some e)] 70)) (by simp) (by simp [World.cell?, hT2]) (by simp [World.frozen?, hT2])
  have x0 : W1.cell? ⟨w.heap.size, 0, none⟩ = some (.pointer (some ⟨1, 72, none⟩)) := by rw [HW.out]; simp
  have x1 : W1.cell? ⟨w.heap.size, 1, none⟩ = some (.pointer (some ⟨b, 0, none⟩)) := by rw [HW.out]; simp
  have x2 : W1.cell? ⟨w.heap.size, 2, none⟩ = some (.int .u64 150) := by rw [HW.out]; simp
  have HT := Aside.mk hT2
  have K2 := Aside.mk K2
  clear hT hT2 hb htl hbl
  go_enter Tryd.func57, Tryd.ntmps57
  go_wp2_with fail
  rw [← HW.out]
  refine wp_loop_rounds 1 ?_
  rw [rounds_succ]
  go_wp2_with fail
  go_ret
  refine ⟨rfl, ((Kept.of_below (S := fun j => j = T) K2.out)).setCell (p := ⟨T, 0, none⟩) (.inl rfl) _, ?_⟩
  have := heap_setCell_at (off := 0) HT.out (.pointer (some e))
  simpa using this
theorem vo_ff (t : Addr) (w : World) : (ReflectliteValue.unpack (.iface 72 (.pointer (some t)))).run Tryd.prog w
    = .ok (.agg #[.pointer (some ⟨1, 72, none⟩), .pointer (some ⟨w.heap.size, 0, none⟩), .int .u64 150]) (w.alloc (.cells #[.pointer (some t)] 72)) := by kernel_rfl
theorem ty_ff (a : Addr) (w : World) : (ReflectliteValue.methodAny (ReflectliteValue.valueError "reflectlite.Value.Type" 0) (fun t _ _ _ => ReflectliteType.toType t) #[.agg #[.pointer (some ⟨1, 72, none⟩), .pointer (some a), .int .u64 150]]).run Tryd.prog w
    = .ok (.iface 133 (.agg #[.pointer (some ⟨1, 72, none⟩)])) w := by kernel_rfl
theorem m_kind (h : Value) (w : World) : (Go.method 278 133 (.agg #[h]) "Kind").run Tryd.prog w = .ok (85, h) w := by kernel_rfl
theorem kind_ff (w : World) : ((ReflectliteType.abiMethod fun t => (fun a : Nat => Value.int IntKind.u8 (a : Int)) <$> Rtype.kind t) #[.pointer (some ⟨1, 72, none⟩)]).run Tryd.prog w = .ok (.int .u8 22) w := by kernel_rfl
theorem kind_f (w : World) : ((ReflectliteType.abiMethod fun t => (fun a : Nat => Value.int IntKind.u8 (a : Int)) <$> Rtype.kind t) #[.pointer (some ⟨1, 70, none⟩)]).run Tryd.prog w = .ok (.int .u8 22) w := by kernel_rfl
theorem isNil_ff (a p : Addr) (W : World) (ha : W.cell? a = some (.pointer (some p))) :
    (ReflectliteValue.method (ReflectliteValue.valueError "reflectlite.Value.IsNil" 0) ReflectliteValue.isNil #[.agg #[.pointer (some ⟨1, 72, none⟩), .pointer (some a), .int .u64 150]]).run Tryd.prog W = .ok (.bool false) W := by
  rw [rlm]
  simp only [Sem.run_bind, parts_ff, Result.andThen]
  simp [ReflectliteValue.isNil, loadVar, isAgg, underlying, Tryd.underlying72, ha, Result.andThen]
theorem m_elem (h : Value) (w : World) : (Go.method 278 133 (.agg #[h]) "Elem").run Tryd.prog w = .ok (98, .agg #[h]) w := by kernel_rfl
theorem m_impl (h : Value) (w : World) : (Go.method 278 133 (.agg #[h]) "Implements").run Tryd.prog w = .ok (99, .agg #[h]) w := by kernel_rfl
theorem elem_ff (w : World) : (ReflectliteType.method ReflectliteType.elem #[.agg #[.pointer (some ⟨1, 72, none⟩)]]).run Tryd.prog w = .ok (.iface 133 (.agg #[.pointer (some ⟨1, 70, none⟩)])) w := by kernel_rfl
theorem impl_f (w : World) : (ReflectliteType.relation "Implements" ReflectliteType.implements_ #[.agg #[.pointer (some ⟨1, 70, none⟩)], .iface 133 (.agg #[.pointer (some ⟨1, 33, none⟩)])]).run Tryd.prog w = .ok (.bool true) w := by kernel_rfl
-- What As does ahead of errors.as, for a target of type **Failure: J is what errors.as does.
set_option maxHeartbeats 4000000 in
set_option maxRecDepth 100000 in
theorem as_ff (err : Value) (hne : ∃ ty v, err = .iface ty v) (T : Nat) (w : World) (old : Value) (hg : ETy w) (hT : w.heap[T]? = some (.cells #[old] 70 (0, 0))) (J : World → Ending → World → Prop)
    (hJ : ∀ W b, Below w.heap.size w W → W.cell? ⟨b, 0, none⟩ = some (.pointer (some ⟨T, 0, none⟩)) → Calls Tryd.prog 57 #[err, .iface 72 (.pointer (some ⟨T, 0, none⟩)), .agg #[.pointer (some ⟨1, 72, none⟩), .pointer (some ⟨b, 0, none⟩), .int .u64 150], .iface 133 (.agg #[.pointer (some ⟨1, 70, none⟩)])] W (fun e w' => ∃ b, e = .returned (.bool b) ∧ J W e w')) :
    Calls Tryd.prog 25 #[err, .iface 72 (.pointer (some ⟨T, 0, none⟩))] w fun e w' => ∃ W, Below w.heap.size w W ∧ J W e w' := by
  obtain ⟨ty, v, rfl⟩ := hne
  have h6 := @run_callFunc_extern Tryd.prog 54 _ (fun args => ReflectliteValue.unpack (args.getD 0 (.tuple #[]))) Tryd.func54 (by kernel_rfl) (by kernel_rfl) (by kernel_rfl) (by kernel_rfl)
  have h7 := @run_callFunc_extern Tryd.prog 55 _ (ReflectliteValue.methodAny (ReflectliteValue.valueError "reflectlite.Value.Type" 0) (fun t _ _ _ => ReflectliteType.toType t)) Tryd.func55 (by kernel_rfl) (by kernel_rfl) (by kernel_rfl) (by kernel_rfl)
  have h8 := @run_callFunc_extern Tryd.prog 56 _ (ReflectliteValue.method (ReflectliteValue.valueError "reflectlite.Value.IsNil" 0) ReflectliteValue.isNil) Tryd.func56 (by kernel_rfl) (by kernel_rfl) (by kernel_rfl) (by kernel_rfl)
  have h27 := @run_callFunc_extern Tryd.prog 85 _ (ReflectliteType.abiMethod fun t => do pure (.int .u8 (← Rtype.kind t))) Tryd.func85 (by kernel_rfl) (by kernel_rfl) (by kernel_rfl) (by kernel_rfl)
  have h37 := @run_callFunc_extern Tryd.prog 98 _ (ReflectliteType.method ReflectliteType.elem) Tryd.func98 (by kernel_rfl) (by kernel_rfl) (by kernel_rfl) (by kernel_rfl)
  have h38 := @run_callFunc_extern Tryd.prog 99 _ (ReflectliteType.relation "Implements" ReflectliteType.implements_) Tryd.func99 (by kernel_rfl) (by kernel_rfl) (by kernel_rfl) (by kernel_rfl)
  have f6 := vo_ff
  have f7 := ty_ff
  have mK := m_kind
  have mE := m_elem
  have mI := m_impl
  have k27 := kind_ff
  have k25 := kind_f
  have e27 := elem_ff
  have i25 := impl_f
  obtain ⟨W2, HW⟩ : ∃ W2, Aside (W2 = (w.alloc (.cells #[.pointer (some ⟨T, 0, none⟩)] 72)).alloc (.cells #[.pointer (some ⟨1, 72, none⟩), .pointer (some ⟨w.heap.size, 0, none⟩), .int .u64 150] 113)) := ⟨_, ⟨rfl⟩⟩
  have K2 : Below w.heap.size w W2 := by rw [HW.out]; exact lthen (lone _ _) (lone _ _)
  have y0 : W2.cell? ⟨w.heap.size, 0, none⟩ = some (.pointer (some ⟨T, 0, none⟩)) := by rw [HW.out]; rw [World.cell?_alloc_lt _ _ ⟨w.heap.size, 0, none⟩ (by simp)]; simp
  have x0 : W2.cell? ⟨w.heap.size + 1, 0, none⟩ = some (.pointer (some ⟨1, 72, none⟩)) := by rw [HW.out, World.cell?_alloc_at _ _ _ _ (by simp)]; rfl
  have x1 : W2.cell? ⟨w.heap.size + 1, 1, none⟩ = some (.pointer (some ⟨w.heap.size, 0, none⟩)) := by rw [HW.out, World.cell?_alloc_at _ _ _ _ (by simp)]; rfl
  have x2 : W2.cell? ⟨w.heap.size + 1, 2, none⟩ = some (.int .u64 150) := by rw [HW.out, World.cell?_alloc_at _ _ _ _ (by simp)]; rfl
  have n8 := isNil_ff ⟨w.heap.size, 0, none⟩ ⟨T, 0, none⟩ W2 y0
  have hg2 : W2.cell? ⟨0, 0, none⟩ = some (.iface 133 (.agg #[.pointer (some ⟨1, 33, none⟩)])) := ETy.below hg K2
  have HJ := Aside.mk (hJ W2 w.heap.size K2 y0)
  have K2 := Aside.mk K2
  clear hT hJ hg
  go_enter Tryd.func25, Tryd.ntmps25
  go_upto_region 6 with (fail)
  rw [← HW.out]
  go_wp2_with fail
  refine HJ.out.mono ?_
  rintro e w' ⟨b, rfl, h⟩
  have H := Aside.mk h
  clear h
  go_wp2_with fail
  go_ret
  exact ⟨W2, K2.out, H.out⟩
end Go.Proofs.YtbphlapdhcgikaaDoor
