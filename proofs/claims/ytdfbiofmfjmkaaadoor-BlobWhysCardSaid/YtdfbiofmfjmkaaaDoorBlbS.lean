/- Layer 2: errors.As at *Errno; over errors that are wrapped. -/
import Derived.Test.YtdfbiofmfjmkaaaDoorBlbP
namespace Go.Proofs.YtdfbiofmfjmkaaaDoor
open Go.RowKit Go.Extern.Stop Go.Stop Go.Extern
set_option linter.unusedVariables false
set_option linter.unusedSimpArgs false
theorem tO_e (v : Value) (w : World) : (ReflectliteType.typeOf #[.iface 37 v]).run Tryd.prog w = .ok (.iface 89 (.agg #[.pointer (some ⟨1, 37, none⟩)])) w := by kernel_rfl
theorem a_ee (w : World) : (ReflectliteType.relation "AssignableTo" ReflectliteType.assignableTo #[.agg #[.pointer (some ⟨1, 37, none⟩)], .iface 89 (.agg #[.pointer (some ⟨1, 37, none⟩)])]).run Tryd.prog w = .ok (.bool true) w := by kernel_rfl
theorem vo_e (e : Int) (w : World) : (ReflectliteValue.unpack (.iface 37 (.int .i64 e))).run Tryd.prog w
    = .ok (.agg #[.pointer (some ⟨1, 37, none⟩), .pointer (some ⟨w.heap.size, 0, none⟩), .int .u64 130]) (w.alloc (.cells #[.int .i64 e] 37)) := by kernel_rfl
theorem parts_ee (a : Addr) (w : World) : (ReflectliteValue.parts (.agg #[.pointer (some ⟨1, 69, none⟩), .pointer (some a), .int .u64 150])).run Tryd.prog w = .ok (some (69, a, 150)) w := by kernel_rfl
theorem elemOf_ee (w : World) : (Rtype.elem? 69).run Tryd.prog w = .ok (some 37) w := by kernel_rfl
theorem mk_e (p : Addr) (w : World) : (ReflectliteValue.mk 37 p ReflectliteValue.flagAddr).run Tryd.prog w = .ok (.agg #[.pointer (some ⟨1, 37, none⟩), .pointer (some p), .int .u64 386]) w := by kernel_rfl
theorem elemV_ee (a p : Addr) (W : World) (ha : W.cell? a = some (.pointer (some p))) :
    (ReflectliteValue.method (ReflectliteValue.valueError "reflectlite.Value.Elem" 0) ReflectliteValue.elem #[.agg #[.pointer (some ⟨1, 69, none⟩), .pointer (some a), .int .u64 150]]).run Tryd.prog W
      = .ok (.agg #[.pointer (some ⟨1, 37, none⟩), .pointer (some p), .int .u64 386]) W := by
  rw [rlm]
  simp only [Sem.run_bind, parts_ee, Result.andThen]
  simp [ReflectliteValue.elem, loadVar, isAgg, underlying, Tryd.underlying69, ha, Result.andThen, elemOf_ee, mk_e]
theorem parts_ea (a : Addr) (w : World) : (ReflectliteValue.parts (.agg #[.pointer (some ⟨1, 37, none⟩), .pointer (some a), .int .u64 386])).run Tryd.prog w = .ok (some (37, a, 386)) w := by kernel_rfl
theorem parts_e (a : Addr) (w : World) : (ReflectliteValue.parts (.agg #[.pointer (some ⟨1, 37, none⟩), .pointer (some a), .int .u64 130])).run Tryd.prog w = .ok (some (37, a, 130)) w := by kernel_rfl
theorem direct_e (w : World) : (Rtype.directlyAssignable 37 37).run Tryd.prog w = .ok true w := by kernel_rfl
theorem set_e (ta b : Addr) (e : Int) (old : Value) (W : World) (hb : W.cell? b = some (.int .i64 e)) (ht : W.cell? ta = some old) (hf : W.frozen? ta = false) :
    (ReflectliteValue.set #[.agg #[.pointer (some ⟨1, 37, none⟩), .pointer (some ta), .int .u64 386], .agg #[.pointer (some ⟨1, 37, none⟩), .pointer (some b), .int .u64 130]]).run Tryd.prog W
      = .ok (.tuple #[]) (W.setCell ta (.int .i64 e)) := by
  rw [rls]
  simp only [Sem.run_bind, parts_ea, parts_e, Result.andThen]
  simp [ReflectliteValue.flagAddr, loadVar, isAgg, underlying, Tryd.underlying37, hb, Result.andThen, direct_e, storeVar, Value.cells, storeCells, Addr.add]
  rw [run_store Tryd.prog W ta _ _ (by rfl)]
  simp [ht, hf]
theorem vo_ee (t : Addr) (w : World) : (ReflectliteValue.unpack (.iface 69 (.pointer (some t)))).run Tryd.prog w
    = .ok (.agg #[.pointer (some ⟨1, 69, none⟩), .pointer (some ⟨w.heap.size, 0, none⟩), .int .u64 150]) (w.alloc (.cells #[.pointer (some t)] 69)) := by kernel_rfl
theorem ty_ee (a : Addr) (w : World) : (ReflectliteValue.methodAny (ReflectliteValue.valueError "reflectlite.Value.Type" 0) (fun t _ _ _ => ReflectliteType.toType t) #[.agg #[.pointer (some ⟨1, 69, none⟩), .pointer (some a), .int .u64 150]]).run Tryd.prog w
    = .ok (.iface 89 (.agg #[.pointer (some ⟨1, 69, none⟩)])) w := by kernel_rfl
theorem kind_ee (w : World) : ((ReflectliteType.abiMethod fun t => (fun a : Nat => Value.int IntKind.u8 (a : Int)) <$> Rtype.kind t) #[.pointer (some ⟨1, 69, none⟩)]).run Tryd.prog w = .ok (.int .u8 22) w := by kernel_rfl
theorem kind_e (w : World) : ((ReflectliteType.abiMethod fun t => (fun a : Nat => Value.int IntKind.u8 (a : Int)) <$> Rtype.kind t) #[.pointer (some ⟨1, 37, none⟩)]).run Tryd.prog w = .ok (.int .u8 2) w := by kernel_rfl
theorem isNil_ee (a p : Addr) (W : World) (ha : W.cell? a = some (.pointer (some p))) :
    (ReflectliteValue.method (ReflectliteValue.valueError "reflectlite.Value.IsNil" 0) ReflectliteValue.isNil #[.agg #[.pointer (some ⟨1, 69, none⟩), .pointer (some a), .int .u64 150]]).run Tryd.prog W = .ok (.bool false) W := by
  rw [rlm]
  simp only [Sem.run_bind, parts_ee, Result.andThen]
  simp [ReflectliteValue.isNil, loadVar, isAgg, underlying, Tryd.underlying69, ha, Result.andThen]
theorem elem_ee (w : World) : (ReflectliteType.method ReflectliteType.elem #[.agg #[.pointer (some ⟨1, 69, none⟩)]]).run Tryd.prog w = .ok (.iface 89 (.agg #[.pointer (some ⟨1, 37, none⟩)])) w := by kernel_rfl
theorem impl_e (w : World) : (ReflectliteType.relation "Implements" ReflectliteType.implements_ #[.agg #[.pointer (some ⟨1, 37, none⟩)], .iface 89 (.agg #[.pointer (some ⟨1, 29, none⟩)])]).run Tryd.prog w = .ok (.bool true) w := by kernel_rfl
-- What As does ahead of errors.as, for a target of type **Failure: J is what errors.as does.
set_option maxHeartbeats 4000000 in
set_option maxRecDepth 100000 in
theorem as_ee (err : Value) (hne : ∃ ty v, err = .iface ty v) (T : Nat) (w : World) (old : Value) (hg : ETy w) (hT : w.heap[T]? = some (.cells #[old] 37 (0, 0))) (J : World → Ending → World → Prop)
    (hJ : ∀ W b, Below w.heap.size w W → W.cell? ⟨b, 0, none⟩ = some (.pointer (some ⟨T, 0, none⟩)) → Calls Tryd.prog 34 #[err, .iface 69 (.pointer (some ⟨T, 0, none⟩)), .agg #[.pointer (some ⟨1, 69, none⟩), .pointer (some ⟨b, 0, none⟩), .int .u64 150], .iface 89 (.agg #[.pointer (some ⟨1, 37, none⟩)])] W (fun e w' => ∃ b, e = .returned (.bool b) ∧ J W e w')) :
    Calls Tryd.prog 27 #[err, .iface 69 (.pointer (some ⟨T, 0, none⟩))] w fun e w' => ∃ W, Below w.heap.size w W ∧ J W e w' := by
  obtain ⟨ty, v, rfl⟩ := hne
  have h6 := @run_callFunc_extern Tryd.prog 31 _ (fun args => ReflectliteValue.unpack (args.getD 0 (.tuple #[]))) Tryd.func31 (by kernel_rfl) (by kernel_rfl) (by kernel_rfl) (by kernel_rfl)
  have h7 := @run_callFunc_extern Tryd.prog 32 _ (ReflectliteValue.methodAny (ReflectliteValue.valueError "reflectlite.Value.Type" 0) (fun t _ _ _ => ReflectliteType.toType t)) Tryd.func32 (by kernel_rfl) (by kernel_rfl) (by kernel_rfl) (by kernel_rfl)
  have h8 := @run_callFunc_extern Tryd.prog 33 _ (ReflectliteValue.method (ReflectliteValue.valueError "reflectlite.Value.IsNil" 0) ReflectliteValue.isNil) Tryd.func33 (by kernel_rfl) (by kernel_rfl) (by kernel_rfl) (by kernel_rfl)
  have h27 := @run_callFunc_extern Tryd.prog 53 _ (ReflectliteType.abiMethod fun t => do pure (.int .u8 (← Rtype.kind t))) Tryd.func53 (by kernel_rfl) (by kernel_rfl) (by kernel_rfl) (by kernel_rfl)
  have h37 := @run_callFunc_extern Tryd.prog 67 _ (ReflectliteType.method ReflectliteType.elem) Tryd.func67 (by kernel_rfl) (by kernel_rfl) (by kernel_rfl) (by kernel_rfl)
  have h38 := @run_callFunc_extern Tryd.prog 68 _ (ReflectliteType.relation "Implements" ReflectliteType.implements_) Tryd.func68 (by kernel_rfl) (by kernel_rfl) (by kernel_rfl) (by kernel_rfl)
  have f6 := vo_ee
  have f7 := ty_ee
  have mK := m_kind
  have mE := m_elem
  have mI := m_impl
  have k27 := kind_ee
  have k25 := kind_e
  have e27 := elem_ee
  have i25 := impl_e
  obtain ⟨W2, HW⟩ : ∃ W2, Aside (W2 = (w.alloc (.cells #[.pointer (some ⟨T, 0, none⟩)] 69)).alloc (.cells #[.pointer (some ⟨1, 69, none⟩), .pointer (some ⟨w.heap.size, 0, none⟩), .int .u64 150] 77)) := ⟨_, ⟨rfl⟩⟩
  have K2 : Below w.heap.size w W2 := by rw [HW.out]; exact bel_then (bel_one _ _) (bel_one _ _)
  have y0 : W2.cell? ⟨w.heap.size, 0, none⟩ = some (.pointer (some ⟨T, 0, none⟩)) := by rw [HW.out]; rw [World.cell?_alloc_lt _ _ ⟨w.heap.size, 0, none⟩ (by simp)]; simp
  have x0 : W2.cell? ⟨w.heap.size + 1, 0, none⟩ = some (.pointer (some ⟨1, 69, none⟩)) := by rw [HW.out, World.cell?_alloc_at _ _ _ _ (by simp)]; rfl
  have x1 : W2.cell? ⟨w.heap.size + 1, 1, none⟩ = some (.pointer (some ⟨w.heap.size, 0, none⟩)) := by rw [HW.out, World.cell?_alloc_at _ _ _ _ (by simp)]; rfl
  have x2 : W2.cell? ⟨w.heap.size + 1, 2, none⟩ = some (.int .u64 150) := by rw [HW.out, World.cell?_alloc_at _ _ _ _ (by simp)]; rfl
  have n8 := isNil_ee ⟨w.heap.size, 0, none⟩ ⟨T, 0, none⟩ W2 y0
  have hg2 : W2.cell? ⟨0, 0, none⟩ = some (.iface 89 (.agg #[.pointer (some ⟨1, 29, none⟩)])) := ETy.below hg K2
  have HJ := Aside.mk (hJ W2 w.heap.size K2 y0)
  have K2 := Aside.mk K2
  clear hT hJ hg
  go_enter Tryd.func27, Tryd.ntmps27
  go_upto_region 6 with (fail)
  rw [← HW.out]
  go_wp2_with fail
  refine HJ.out.mono ?_
  rintro e w' ⟨b, rfl, h⟩
  have H := Aside.mk h
  clear h
  go_wp2_with fail
  go_ret
  exact ⟨W2, K2.out, H.out⟩
theorem tO_w (v : Value) (w : World) : (ReflectliteType.typeOf #[.iface 58 v]).run Tryd.prog w = .ok (.iface 89 (.agg #[.pointer (some ⟨1, 58, none⟩)])) w := by kernel_rfl
theorem a_wf (w : World) : (ReflectliteType.relation "AssignableTo" ReflectliteType.assignableTo #[.agg #[.pointer (some ⟨1, 58, none⟩)], .iface 89 (.agg #[.pointer (some ⟨1, 54, none⟩)])]).run Tryd.prog w = .ok (.bool false) w := by kernel_rfl
theorem a_we (w : World) : (ReflectliteType.relation "AssignableTo" ReflectliteType.assignableTo #[.agg #[.pointer (some ⟨1, 58, none⟩)], .iface 89 (.agg #[.pointer (some ⟨1, 37, none⟩)])]).run Tryd.prog w = .ok (.bool false) w := by kernel_rfl
theorem a_ef (w : World) : (ReflectliteType.relation "AssignableTo" ReflectliteType.assignableTo #[.agg #[.pointer (some ⟨1, 37, none⟩)], .iface 89 (.agg #[.pointer (some ⟨1, 54, none⟩)])]).run Tryd.prog w = .ok (.bool false) w := by kernel_rfl
theorem noAs_w (v : Value) (xT : TypeId) (w : World) : (Instr.typeAssert (.iface 58 v) xT 93 true).run Tryd.prog w = .ok (.tuple #[.nilIface, .bool false]) w := run_typeAssert_lacksB Tryd.underlying93 (by kernel_rfl) (by kernel_rfl) v xT w
theorem noAs_e (v : Value) (xT : TypeId) (w : World) : (Instr.typeAssert (.iface 37 v) xT 93 true).run Tryd.prog w = .ok (.tuple #[.nilIface, .bool false]) w := run_typeAssert_lacksB Tryd.underlying93 (by kernel_rfl) (by kernel_rfl) v xT w
theorem wrN_iface (j : Nat) (v : Value) (h : 0 < j ∨ ∃ t x, v = .iface t x) : ∃ t x, wrN j v = .iface t x := by
  cases j with
  | zero => exact h.resolve_left (by omega)
  | succ j => exact ⟨_, _, rfl⟩
set_option maxHeartbeats 6400000 in
set_option maxRecDepth 100000 in
theorem as2F_hit (k : Nat) (f : Nat) (T b : Nat) (old : Value) (ty : TypeId) (w : World) (hb : w.cell? ⟨b, 0, none⟩ = some (.pointer (some ⟨T, 0, none⟩))) (hT : w.heap[T]? = some (.cells #[old] ty (0, 0))) :
    Calls Tryd.prog 34 #[wrN k (.iface 54 (.pointer (some ⟨f, 0, none⟩))), .iface 68 (.pointer (some ⟨T, 0, none⟩)), .agg #[.pointer (some ⟨1, 68, none⟩), .pointer (some ⟨b, 0, none⟩), .int .u64 150], .iface 89 (.agg #[.pointer (some ⟨1, 54, none⟩)])] w fun ev w' => ev = .returned (.bool true) ∧ Kept (fun j => j = T) w w' ∧ w'.heap[T]? = some (.cells #[.pointer (some ⟨f, 0, none⟩)] ty (0, 0)) := by
  have h10 := @run_callFunc_extern Tryd.prog 35 _ ReflectliteType.typeOf Tryd.func35 (by kernel_rfl) (by kernel_rfl) (by kernel_rfl) (by kernel_rfl)
  have h35 := @run_callFunc_extern Tryd.prog 65 _ (ReflectliteType.relation "AssignableTo" ReflectliteType.assignableTo) Tryd.func65 (by kernel_rfl) (by kernel_rfl) (by kernel_rfl) (by kernel_rfl)
  have h11 := @run_callFunc_extern Tryd.prog 37 _ (ReflectliteValue.method (ReflectliteValue.valueError "reflectlite.Value.Elem" 0) ReflectliteValue.elem) Tryd.func37 (by kernel_rfl) (by kernel_rfl) (by kernel_rfl) (by kernel_rfl)
  have h12 := @run_callFunc_extern Tryd.prog 38 _ ReflectliteValue.set Tryd.func38 (by kernel_rfl) (by kernel_rfl) (by kernel_rfl) (by kernel_rfl)
  have h6 := @run_callFunc_extern Tryd.prog 31 _ (fun args => ReflectliteValue.unpack (args.getD 0 (.tuple #[]))) Tryd.func31 (by kernel_rfl) (by kernel_rfl) (by kernel_rfl) (by kernel_rfl)
  have mA := m_assign
  have tW := tO_w
  have iA := noAs_w
  have iU := hasUn_w
  have mU := m_un_w
  have tO := tO_f
  have aff := a_ff
  have awf := a_wf
  have vof := vo_f
  obtain ⟨W1, HW⟩ : ∃ W1, Aside (W1 = w.alloc (.cells #[.pointer (some ⟨1, 68, none⟩), .pointer (some ⟨b, 0, none⟩), .int .u64 150] 77)) := ⟨_, ⟨rfl⟩⟩
  have K1 : Below w.heap.size w W1 := by rw [HW.out]; exact bel_one _ _
  have hx : W1.heap[w.heap.size]? = some (.cells #[.pointer (some ⟨1, 68, none⟩), .pointer (some ⟨b, 0, none⟩), .int .u64 150] 77 (0, 0)) := by rw [HW.out]; exact heap_alloc_new w _
  have HT := Aside.mk (And.intro K1 (And.intro hT (And.intro hb hx)))
  obtain ⟨v0, hv0⟩ : ∃ v0, wrN k (.iface 54 (.pointer (some ⟨f, 0, none⟩))) = v0 := ⟨_, rfl⟩
  rw [hv0]
  have HV0 := Aside.mk hv0
  clear hb hT K1 hx hv0
  go_enter Tryd.func34, Tryd.ntmps34
  go_wp2_with fail
  rw [← HW.out]
  go_loopg [0] (k + 1) (fun g s0 W => Below w.heap.size w W ∧ Below W1.heap.size W1 W ∧ ∃ j, j ≤ k ∧ s0 = wrN j (.iface 54 (.pointer (some ⟨f, 0, none⟩))) ∧ g = j + 1)
  case atStart => exact ⟨HT.out.1, Below.refl _ _, k, Nat.le_refl _, HV0.out.symm, rfl⟩
  case round =>
    obtain ⟨hB, hB1, j, hj, rfl, rfl⟩ := hrel
    have HBW := Aside.mk (And.intro hB hB1)
    clear hB hB1
    cases j with
    | zero =>
      rw [wrN]
      obtain ⟨x0, x1, x2, _⟩ := box3 (hup HBW.out.2 HT.out.2.2.2)
      have hTW := hup HBW.out.1 HT.out.2.1
      have el := elemV_ff ⟨b, 0, none⟩ ⟨T, 0, none⟩ wr ((Kept.of_below (S := fun _ => False) HBW.out.1).cell HT.out.2.2.1 id)
      have hT2 := hup (bel_one wr (.cells #[.pointer (some ⟨f, 0, none⟩)] 54)) hTW
      have st := set_f ⟨T, 0, none⟩ ⟨wr.heap.size, 0, none⟩ ⟨f, 0, none⟩ old (wr.alloc (.cells #[.pointer (some ⟨f, 0, none⟩)] 54)) (by simp) (by simp [World.cell?, hT2]) (by simp [World.frozen?, hT2])
      have HT2 := Aside.mk hT2
      clear hTW hT2
      go_wp2_with fail
      go_ret
      refine ⟨rfl, (((Kept.of_below (S := fun j => j = T) HBW.out.1).alloc _)).setCell (p := ⟨T, 0, none⟩) (.inl rfl) _, ?_⟩
      have := heap_setCell_at (off := 0) HT2.out (.pointer (some ⟨f, 0, none⟩))
      simpa using this
    | succ j =>
      have KU := Aside.mk (unwrap_wrap wr (wrN j (.iface 54 (.pointer (some ⟨f, 0, none⟩)))) (.inr (wrN_iface j _ (.inr ⟨_, _, rfl⟩))))
      obtain ⟨t, x, hx⟩ := wrN_iface j (.iface 54 (.pointer (some ⟨f, 0, none⟩))) (.inr ⟨_, _, rfl⟩)
      rw [wrN]
      rw [hx] at KU ⊢
      go_wp2_with fail
      refine KU.out.mono ?_
      rintro e w2 ⟨rfl, b2⟩
      have B2 := Aside.mk (And.intro (bel_then HBW.out.1 b2) (bel_then HBW.out.2 b2))
      clear b2
      go_wp2_with fail
      go_roundg (j + 1)
      case measure => omega
      case rel => exact ⟨B2.out.1, B2.out.2, j, by omega, hx.symm, rfl⟩
set_option maxHeartbeats 6400000 in
set_option maxRecDepth 100000 in
theorem as2F_miss (k : Nat) (n : Int) (T b : Nat) (old : Value) (ty : TypeId) (w : World) (hb : w.cell? ⟨b, 0, none⟩ = some (.pointer (some ⟨T, 0, none⟩))) (hT : w.heap[T]? = some (.cells #[old] ty (0, 0))) :
    Calls Tryd.prog 34 #[wrN k (.iface 37 (.int .i64 n)), .iface 68 (.pointer (some ⟨T, 0, none⟩)), .agg #[.pointer (some ⟨1, 68, none⟩), .pointer (some ⟨b, 0, none⟩), .int .u64 150], .iface 89 (.agg #[.pointer (some ⟨1, 54, none⟩)])] w fun ev w' => ev = .returned (.bool false) ∧ Below w.heap.size w w' := by
  have h10 := @run_callFunc_extern Tryd.prog 35 _ ReflectliteType.typeOf Tryd.func35 (by kernel_rfl) (by kernel_rfl) (by kernel_rfl) (by kernel_rfl)
  have h35 := @run_callFunc_extern Tryd.prog 65 _ (ReflectliteType.relation "AssignableTo" ReflectliteType.assignableTo) Tryd.func65 (by kernel_rfl) (by kernel_rfl) (by kernel_rfl) (by kernel_rfl)
  have h11 := @run_callFunc_extern Tryd.prog 37 _ (ReflectliteValue.method (ReflectliteValue.valueError "reflectlite.Value.Elem" 0) ReflectliteValue.elem) Tryd.func37 (by kernel_rfl) (by kernel_rfl) (by kernel_rfl) (by kernel_rfl)
  have h12 := @run_callFunc_extern Tryd.prog 38 _ ReflectliteValue.set Tryd.func38 (by kernel_rfl) (by kernel_rfl) (by kernel_rfl) (by kernel_rfl)
  have h6 := @run_callFunc_extern Tryd.prog 31 _ (fun args => ReflectliteValue.unpack (args.getD 0 (.tuple #[]))) Tryd.func31 (by kernel_rfl) (by kernel_rfl) (by kernel_rfl) (by kernel_rfl)
  have mA := m_assign
  have tW := tO_w
  have iA := noAs_w
  have iU := hasUn_w
  have mU := m_un_w
  have tO := tO_e
  have aef := a_ef
  have awf := a_wf
  have i1 := noAs_e
  have i2 := noUn_n
  have i3 := noUns_n
  obtain ⟨W1, HW⟩ : ∃ W1, Aside (W1 = w.alloc (.cells #[.pointer (some ⟨1, 68, none⟩), .pointer (some ⟨b, 0, none⟩), .int .u64 150] 77)) := ⟨_, ⟨rfl⟩⟩
  have K1 : Below w.heap.size w W1 := by rw [HW.out]; exact bel_one _ _
  have hx : W1.heap[w.heap.size]? = some (.cells #[.pointer (some ⟨1, 68, none⟩), .pointer (some ⟨b, 0, none⟩), .int .u64 150] 77 (0, 0)) := by rw [HW.out]; exact heap_alloc_new w _
  have HT := Aside.mk (And.intro K1 (And.intro hT (And.intro hb hx)))
  obtain ⟨v0, hv0⟩ : ∃ v0, wrN k (.iface 37 (.int .i64 n)) = v0 := ⟨_, rfl⟩
  rw [hv0]
  have HV0 := Aside.mk hv0
  clear hb hT K1 hx hv0
  go_enter Tryd.func34, Tryd.ntmps34
  go_wp2_with fail
  rw [← HW.out]
  go_loopg [0] (k + 1) (fun g s0 W => Below w.heap.size w W ∧ Below W1.heap.size W1 W ∧ ∃ j, j ≤ k ∧ s0 = wrN j (.iface 37 (.int .i64 n)) ∧ g = j + 1)
  case atStart => exact ⟨HT.out.1, Below.refl _ _, k, Nat.le_refl _, HV0.out.symm, rfl⟩
  case round =>
    obtain ⟨hB, hB1, j, hj, rfl, rfl⟩ := hrel
    have HBW := Aside.mk (And.intro hB hB1)
    clear hB hB1
    cases j with
    | zero =>
      rw [wrN]
      go_wp2_with fail
      go_ret
      exact ⟨rfl, HBW.out.1⟩
    | succ j =>
      have KU := Aside.mk (unwrap_wrap wr (wrN j (.iface 37 (.int .i64 n))) (.inr (wrN_iface j _ (.inr ⟨_, _, rfl⟩))))
      obtain ⟨t, x, hx⟩ := wrN_iface j (.iface 37 (.int .i64 n)) (.inr ⟨_, _, rfl⟩)
      rw [wrN]
      rw [hx] at KU ⊢
      go_wp2_with fail
      refine KU.out.mono ?_
      rintro e w2 ⟨rfl, b2⟩
      have B2 := Aside.mk (And.intro (bel_then HBW.out.1 b2) (bel_then HBW.out.2 b2))
      clear b2
      go_wp2_with fail
      go_roundg (j + 1)
      case measure => omega
      case rel => exact ⟨B2.out.1, B2.out.2, j, by omega, hx.symm, rfl⟩
set_option maxHeartbeats 6400000 in
set_option maxRecDepth 100000 in
theorem as2F_nil (k : Nat) (hk : 0 < k) (T b : Nat) (old : Value) (ty : TypeId) (w : World) (hb : w.cell? ⟨b, 0, none⟩ = some (.pointer (some ⟨T, 0, none⟩))) (hT : w.heap[T]? = some (.cells #[old] ty (0, 0))) :
    Calls Tryd.prog 34 #[wrN k (.nilIface), .iface 68 (.pointer (some ⟨T, 0, none⟩)), .agg #[.pointer (some ⟨1, 68, none⟩), .pointer (some ⟨b, 0, none⟩), .int .u64 150], .iface 89 (.agg #[.pointer (some ⟨1, 54, none⟩)])] w fun ev w' => ev = .returned (.bool false) ∧ Below w.heap.size w w' := by
  have h10 := @run_callFunc_extern Tryd.prog 35 _ ReflectliteType.typeOf Tryd.func35 (by kernel_rfl) (by kernel_rfl) (by kernel_rfl) (by kernel_rfl)
  have h35 := @run_callFunc_extern Tryd.prog 65 _ (ReflectliteType.relation "AssignableTo" ReflectliteType.assignableTo) Tryd.func65 (by kernel_rfl) (by kernel_rfl) (by kernel_rfl) (by kernel_rfl)
  have h11 := @run_callFunc_extern Tryd.prog 37 _ (ReflectliteValue.method (ReflectliteValue.valueError "reflectlite.Value.Elem" 0) ReflectliteValue.elem) Tryd.func37 (by kernel_rfl) (by kernel_rfl) (by kernel_rfl) (by kernel_rfl)
  have h12 := @run_callFunc_extern Tryd.prog 38 _ ReflectliteValue.set Tryd.func38 (by kernel_rfl) (by kernel_rfl) (by kernel_rfl) (by kernel_rfl)
  have h6 := @run_callFunc_extern Tryd.prog 31 _ (fun args => ReflectliteValue.unpack (args.getD 0 (.tuple #[]))) Tryd.func31 (by kernel_rfl) (by kernel_rfl) (by kernel_rfl) (by kernel_rfl)
  have mA := m_assign
  have tW := tO_w
  have iA := noAs_w
  have iU := hasUn_w
  have mU := m_un_w
  have awf := a_wf
  obtain ⟨W1, HW⟩ : ∃ W1, Aside (W1 = w.alloc (.cells #[.pointer (some ⟨1, 68, none⟩), .pointer (some ⟨b, 0, none⟩), .int .u64 150] 77)) := ⟨_, ⟨rfl⟩⟩
  have K1 : Below w.heap.size w W1 := by rw [HW.out]; exact bel_one _ _
  have hx : W1.heap[w.heap.size]? = some (.cells #[.pointer (some ⟨1, 68, none⟩), .pointer (some ⟨b, 0, none⟩), .int .u64 150] 77 (0, 0)) := by rw [HW.out]; exact heap_alloc_new w _
  have HT := Aside.mk (And.intro K1 (And.intro hT (And.intro hb hx)))
  obtain ⟨v0, hv0⟩ : ∃ v0, wrN k (.nilIface) = v0 := ⟨_, rfl⟩
  rw [hv0]
  have HV0 := Aside.mk hv0
  clear hb hT K1 hx hv0
  go_enter Tryd.func34, Tryd.ntmps34
  go_wp2_with fail
  rw [← HW.out]
  go_loopg [0] (k + 1) (fun g s0 W => Below w.heap.size w W ∧ Below W1.heap.size W1 W ∧ ∃ j, j ≤ k ∧ s0 = wrN j (.nilIface) ∧ g = j + 1 ∧ 0 < j)
  case atStart => exact ⟨HT.out.1, Below.refl _ _, k, Nat.le_refl _, HV0.out.symm, rfl, hk⟩
  case round =>
    obtain ⟨hB, hB1, j, hj, rfl, rfl, hj0⟩ := hrel
    have HBW := Aside.mk (And.intro hB hB1)
    clear hB hB1
    cases j with
    | zero =>
      omega
    | succ j =>
      have KU := Aside.mk (unwrap_wrap wr (wrN j (.nilIface)) ((Nat.eq_zero_or_pos j).elim (fun e => .inl (by subst e; rfl)) (fun e => .inr (wrN_iface j _ (.inl e)))))
      rw [wrN]
      cases j with
      | zero =>
        rw [wrN] at KU ⊢
        go_wp2_with fail
        refine KU.out.mono ?_
        rintro e w2 ⟨rfl, b2⟩
        have B2 := Aside.mk (bel_then HBW.out.1 b2)
        clear b2
        go_wp2_with fail
        go_ret
        exact ⟨rfl, B2.out⟩
      | succ j =>
        obtain ⟨t, x, hx⟩ := wrN_iface (j + 1) (.nilIface) (.inl (by omega))
        rw [hx] at KU ⊢
        go_wp2_with fail
        refine KU.out.mono ?_
        rintro e w2 ⟨rfl, b2⟩
        have B2 := Aside.mk (And.intro (bel_then HBW.out.1 b2) (bel_then HBW.out.2 b2))
        clear b2
        go_wp2_with fail
        go_roundg (j + 1 + 1)
        case measure => omega
        case rel => exact ⟨B2.out.1, B2.out.2, j + 1, by omega, hx.symm, rfl, by omega⟩
set_option maxHeartbeats 6400000 in
set_option maxRecDepth 100000 in
theorem as2E_hit (k : Nat) (n : Int) (T b : Nat) (old : Value) (ty : TypeId) (w : World) (hb : w.cell? ⟨b, 0, none⟩ = some (.pointer (some ⟨T, 0, none⟩))) (hT : w.heap[T]? = some (.cells #[old] ty (0, 0))) :
    Calls Tryd.prog 34 #[wrN k (.iface 37 (.int .i64 n)), .iface 69 (.pointer (some ⟨T, 0, none⟩)), .agg #[.pointer (some ⟨1, 69, none⟩), .pointer (some ⟨b, 0, none⟩), .int .u64 150], .iface 89 (.agg #[.pointer (some ⟨1, 37, none⟩)])] w fun ev w' => ev = .returned (.bool true) ∧ Kept (fun j => j = T) w w' ∧ w'.heap[T]? = some (.cells #[.int .i64 n] ty (0, 0)) := by
  have h10 := @run_callFunc_extern Tryd.prog 35 _ ReflectliteType.typeOf Tryd.func35 (by kernel_rfl) (by kernel_rfl) (by kernel_rfl) (by kernel_rfl)
  have h35 := @run_callFunc_extern Tryd.prog 65 _ (ReflectliteType.relation "AssignableTo" ReflectliteType.assignableTo) Tryd.func65 (by kernel_rfl) (by kernel_rfl) (by kernel_rfl) (by kernel_rfl)
  have h11 := @run_callFunc_extern Tryd.prog 37 _ (ReflectliteValue.method (ReflectliteValue.valueError "reflectlite.Value.Elem" 0) ReflectliteValue.elem) Tryd.func37 (by kernel_rfl) (by kernel_rfl) (by kernel_rfl) (by kernel_rfl)
  have h12 := @run_callFunc_extern Tryd.prog 38 _ ReflectliteValue.set Tryd.func38 (by kernel_rfl) (by kernel_rfl) (by kernel_rfl) (by kernel_rfl)
  have h6 := @run_callFunc_extern Tryd.prog 31 _ (fun args => ReflectliteValue.unpack (args.getD 0 (.tuple #[]))) Tryd.func31 (by kernel_rfl) (by kernel_rfl) (by kernel_rfl) (by kernel_rfl)
  have mA := m_assign
  have tW := tO_w
  have iA := noAs_w
  have iU := hasUn_w
  have mU := m_un_w
  have tO := tO_e
  have aee := a_ee
  have awe := a_we
  have voe := vo_e
  obtain ⟨W1, HW⟩ : ∃ W1, Aside (W1 = w.alloc (.cells #[.pointer (some ⟨1, 69, none⟩), .pointer (some ⟨b, 0, none⟩), .int .u64 150] 77)) := ⟨_, ⟨rfl⟩⟩
  have K1 : Below w.heap.size w W1 := by rw [HW.out]; exact bel_one _ _
  have hx : W1.heap[w.heap.size]? = some (.cells #[.pointer (some ⟨1, 69, none⟩), .pointer (some ⟨b, 0, none⟩), .int .u64 150] 77 (0, 0)) := by rw [HW.out]; exact heap_alloc_new w _
  have HT := Aside.mk (And.intro K1 (And.intro hT (And.intro hb hx)))
  obtain ⟨v0, hv0⟩ : ∃ v0, wrN k (.iface 37 (.int .i64 n)) = v0 := ⟨_, rfl⟩
  rw [hv0]
  have HV0 := Aside.mk hv0
  clear hb hT K1 hx hv0
  go_enter Tryd.func34, Tryd.ntmps34
  go_wp2_with fail
  rw [← HW.out]
  go_loopg [0] (k + 1) (fun g s0 W => Below w.heap.size w W ∧ Below W1.heap.size W1 W ∧ ∃ j, j ≤ k ∧ s0 = wrN j (.iface 37 (.int .i64 n)) ∧ g = j + 1)
  case atStart => exact ⟨HT.out.1, Below.refl _ _, k, Nat.le_refl _, HV0.out.symm, rfl⟩
  case round =>
    obtain ⟨hB, hB1, j, hj, rfl, rfl⟩ := hrel
    have HBW := Aside.mk (And.intro hB hB1)
    clear hB hB1
    cases j with
    | zero =>
      rw [wrN]
      obtain ⟨x0, x1, x2, _⟩ := box3 (hup HBW.out.2 HT.out.2.2.2)
      have hTW := hup HBW.out.1 HT.out.2.1
      have el := elemV_ee ⟨b, 0, none⟩ ⟨T, 0, none⟩ wr ((Kept.of_below (S := fun _ => False) HBW.out.1).cell HT.out.2.2.1 id)
      have hT2 := hup (bel_one wr (.cells #[.int .i64 n] 37)) hTW
      have st := set_e ⟨T, 0, none⟩ ⟨wr.heap.size, 0, none⟩ n old (wr.alloc (.cells #[.int .i64 n] 37)) (by simp) (by simp [World.cell?, hT2]) (by simp [World.frozen?, hT2])
      have HT2 := Aside.mk hT2
      clear hTW hT2
      go_wp2_with fail
      go_ret
      refine ⟨rfl, (((Kept.of_below (S := fun j => j = T) HBW.out.1).alloc _)).setCell (p := ⟨T, 0, none⟩) (.inl rfl) _, ?_⟩
      have := heap_setCell_at (off := 0) HT2.out (.int .i64 n)
      simpa using this
    | succ j =>
      have KU := Aside.mk (unwrap_wrap wr (wrN j (.iface 37 (.int .i64 n))) (.inr (wrN_iface j _ (.inr ⟨_, _, rfl⟩))))
      obtain ⟨t, x, hx⟩ := wrN_iface j (.iface 37 (.int .i64 n)) (.inr ⟨_, _, rfl⟩)
      rw [wrN]
      rw [hx] at KU ⊢
      go_wp2_with fail
      refine KU.out.mono ?_
      rintro e w2 ⟨rfl, b2⟩
      have B2 := Aside.mk (And.intro (bel_then HBW.out.1 b2) (bel_then HBW.out.2 b2))
      clear b2
      go_wp2_with fail
      go_roundg (j + 1)
      case measure => omega
      case rel => exact ⟨B2.out.1, B2.out.2, j, by omega, hx.symm, rfl⟩
set_option maxHeartbeats 6400000 in
set_option maxRecDepth 100000 in
theorem as2E_nil (k : Nat) (hk : 0 < k) (T b : Nat) (old : Value) (ty : TypeId) (w : World) (hb : w.cell? ⟨b, 0, none⟩ = some (.pointer (some ⟨T, 0, none⟩))) (hT : w.heap[T]? = some (.cells #[old] ty (0, 0))) :
    Calls Tryd.prog 34 #[wrN k (.nilIface), .iface 69 (.pointer (some ⟨T, 0, none⟩)), .agg #[.pointer (some ⟨1, 69, none⟩), .pointer (some ⟨b, 0, none⟩), .int .u64 150], .iface 89 (.agg #[.pointer (some ⟨1, 37, none⟩)])] w fun ev w' => ev = .returned (.bool false) ∧ Below w.heap.size w w' := by
  have h10 := @run_callFunc_extern Tryd.prog 35 _ ReflectliteType.typeOf Tryd.func35 (by kernel_rfl) (by kernel_rfl) (by kernel_rfl) (by kernel_rfl)
  have h35 := @run_callFunc_extern Tryd.prog 65 _ (ReflectliteType.relation "AssignableTo" ReflectliteType.assignableTo) Tryd.func65 (by kernel_rfl) (by kernel_rfl) (by kernel_rfl) (by kernel_rfl)
  have h11 := @run_callFunc_extern Tryd.prog 37 _ (ReflectliteValue.method (ReflectliteValue.valueError "reflectlite.Value.Elem" 0) ReflectliteValue.elem) Tryd.func37 (by kernel_rfl) (by kernel_rfl) (by kernel_rfl) (by kernel_rfl)
  have h12 := @run_callFunc_extern Tryd.prog 38 _ ReflectliteValue.set Tryd.func38 (by kernel_rfl) (by kernel_rfl) (by kernel_rfl) (by kernel_rfl)
  have h6 := @run_callFunc_extern Tryd.prog 31 _ (fun args => ReflectliteValue.unpack (args.getD 0 (.tuple #[]))) Tryd.func31 (by kernel_rfl) (by kernel_rfl) (by kernel_rfl) (by kernel_rfl)
  have mA := m_assign
  have tW := tO_w
  have iA := noAs_w
  have iU := hasUn_w
  have mU := m_un_w
  have awe := a_we
  obtain ⟨W1, HW⟩ : ∃ W1, Aside (W1 = w.alloc (.cells #[.pointer (some ⟨1, 69, none⟩), .pointer (some ⟨b, 0, none⟩), .int .u64 150] 77)) := ⟨_, ⟨rfl⟩⟩
  have K1 : Below w.heap.size w W1 := by rw [HW.out]; exact bel_one _ _
  have hx : W1.heap[w.heap.size]? = some (.cells #[.pointer (some ⟨1, 69, none⟩), .pointer (some ⟨b, 0, none⟩), .int .u64 150] 77 (0, 0)) := by rw [HW.out]; exact heap_alloc_new w _
  have HT := Aside.mk (And.intro K1 (And.intro hT (And.intro hb hx)))
  obtain ⟨v0, hv0⟩ : ∃ v0, wrN k (.nilIface) = v0 := ⟨_, rfl⟩
  rw [hv0]
  have HV0 := Aside.mk hv0
  clear hb hT K1 hx hv0
  go_enter Tryd.func34, Tryd.ntmps34
  go_wp2_with fail
  rw [← HW.out]
  go_loopg [0] (k + 1) (fun g s0 W => Below w.heap.size w W ∧ Below W1.heap.size W1 W ∧ ∃ j, j ≤ k ∧ s0 = wrN j (.nilIface) ∧ g = j + 1 ∧ 0 < j)
  case atStart => exact ⟨HT.out.1, Below.refl _ _, k, Nat.le_refl _, HV0.out.symm, rfl, hk⟩
  case round =>
    obtain ⟨hB, hB1, j, hj, rfl, rfl, hj0⟩ := hrel
    have HBW := Aside.mk (And.intro hB hB1)
    clear hB hB1
    cases j with
    | zero =>
      omega
    | succ j =>
      have KU := Aside.mk (unwrap_wrap wr (wrN j (.nilIface)) ((Nat.eq_zero_or_pos j).elim (fun e => .inl (by subst e; rfl)) (fun e => .inr (wrN_iface j _ (.inl e)))))
      rw [wrN]
      cases j with
      | zero =>
        rw [wrN] at KU ⊢
        go_wp2_with fail
        refine KU.out.mono ?_
        rintro e w2 ⟨rfl, b2⟩
        have B2 := Aside.mk (bel_then HBW.out.1 b2)
        clear b2
        go_wp2_with fail
        go_ret
        exact ⟨rfl, B2.out⟩
      | succ j =>
        obtain ⟨t, x, hx⟩ := wrN_iface (j + 1) (.nilIface) (.inl (by omega))
        rw [hx] at KU ⊢
        go_wp2_with fail
        refine KU.out.mono ?_
        rintro e w2 ⟨rfl, b2⟩
        have B2 := Aside.mk (And.intro (bel_then HBW.out.1 b2) (bel_then HBW.out.2 b2))
        clear b2
        go_wp2_with fail
        go_roundg (j + 1 + 1)
        case measure => omega
        case rel => exact ⟨B2.out.1, B2.out.2, j + 1, by omega, hx.symm, rfl, by omega⟩
end Go.Proofs.YtdfbiofmfjmkaaaDoor
