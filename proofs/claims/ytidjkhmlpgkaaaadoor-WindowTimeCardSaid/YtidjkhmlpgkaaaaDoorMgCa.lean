/- Small lemmas of worlds, under names that no other text has. Errors: Is of no error, of a Failure. The program's rules: fault, within, end, Overlap, Together, twice. -/
import Derived.Test.YtidjkhmlpgkaaaaDoorProg
import Derived.Test.YtidjkhmlpgkaaaaDoorKit
import Derived.Test.YtidjkhmlpgkaaaaDoorKitR
import Derived.Deep.OwnRows
import Derived.Deep.RegionHeld3
import Derived.LaidEql
import Derived.Stop.Asserts
import Derived.RowKitTokens
import Derived.Test.YtidjkhmlpgkaaaaDoorMgA
namespace Go.Proofs.YtidjkhmlpgkaaaaDoor
open Go.RowKit
set_option linter.unusedVariables false
set_option linter.unusedSimpArgs false

theorem lthen {a w w' : World} (h : Below a.heap.size a w) (k : Below w.heap.size w w') : Below a.heap.size a w' := below_then h k
theorem lone (w : World) (x : Obj) : Below w.heap.size w (w.alloc x) := (Below.refl _ _).alloc (Nat.le_refl _) _
theorem lup {a b : World} (h : Below a.heap.size a b) {k : Nat} {o : Obj} (hk : a.heap[k]? = some o) : b.heap[k]? = some o := (h.block k (lt_of_block hk)).trans hk
theorem lbox1 {w : World} {B : Nat} {x0 : Value} {t : TypeId} {fr : Nat × Nat} (h : w.heap[B]? = some (.cells #[x0] t fr)) : w.cell? ⟨B, 0, none⟩ = some x0 := by
  simp [World.cell?, h]
theorem lbox2 {w : World} {B : Nat} {x0 x1 : Value} {t : TypeId} {fr : Nat × Nat} (h : w.heap[B]? = some (.cells #[x0, x1] t fr)) : w.cell? ⟨B, 0, none⟩ = some x0 ∧ w.cell? ⟨B, 1, none⟩ = some x1 := by
  simp [World.cell?, h]
theorem lbox4 {w : World} {B : Nat} {x0 x1 x2 x3 : Value} {t : TypeId} {fr : Nat × Nat} (h : w.heap[B]? = some (.cells #[x0, x1, x2, x3] t fr)) : w.cell? ⟨B, 0, none⟩ = some x0 ∧ w.cell? ⟨B, 1, none⟩ = some x1 ∧ w.cell? ⟨B, 2, none⟩ = some x2 ∧ w.cell? ⟨B, 3, none⟩ = some x3 := by
  simp [World.cell?, h]
theorem lbox5 {w : World} {B : Nat} {x0 x1 x2 x3 x4 : Value} {t : TypeId} {fr : Nat × Nat} (h : w.heap[B]? = some (.cells #[x0, x1, x2, x3, x4] t fr)) : w.cell? ⟨B, 0, none⟩ = some x0 ∧ w.cell? ⟨B, 1, none⟩ = some x1 ∧ w.cell? ⟨B, 2, none⟩ = some x2 ∧ w.cell? ⟨B, 3, none⟩ = some x3 ∧ w.cell? ⟨B, 4, none⟩ = some x4 := by
  simp [World.cell?, h]
theorem lbox6 {w : World} {B : Nat} {x0 x1 x2 x3 x4 x5 : Value} {t : TypeId} {fr : Nat × Nat} (h : w.heap[B]? = some (.cells #[x0, x1, x2, x3, x4, x5] t fr)) : w.cell? ⟨B, 0, none⟩ = some x0 ∧ w.cell? ⟨B, 1, none⟩ = some x1 ∧ w.cell? ⟨B, 2, none⟩ = some x2 ∧ w.cell? ⟨B, 3, none⟩ = some x3 ∧ w.cell? ⟨B, 4, none⟩ = some x4 ∧ w.cell? ⟨B, 5, none⟩ = some x5 := by
  simp [World.cell?, h]
theorem lheap_up {w : World} {o : Obj} {k : Nat} {x : Obj} (h : w.heap[k]? = some x) : (w.alloc o).heap[k]? = some x := ((lone w o).block _ (lt_of_block h)).trans h
theorem lheap_top (w : World) (o : Obj) (n : Nat) (hn : w.heap.size = n) : (w.alloc o).heap[n]? = some o := by subst hn; exact heap_alloc_new _ _
theorem lkeep {a b : World} (h : Below a.heap.size a b) (p : Addr) (v : Value) (hc : World.cell? a p = some v) : World.cell? b p = some v := (Kept.of_below (S := fun _ => False) h).cell hc id
end Go.Proofs.YtidjkhmlpgkaaaaDoor

namespace Go.Proofs.YtidjkhmlpgkaaaaDoor
open Go.RowKit Go.Extern.Stop Go.Stop Go.Extern
set_option linter.unusedVariables false
set_option linter.unusedSimpArgs false

def numQ (q : Option (Int × Int)) : Int := match q with | none => 0 | some (n, _) => n
def atQ (q : Option (Int × Int)) : Int := match q with | none => 0 | some (_, a) => a
/-- A value that is an error of a Failure (its number, its place), or none. -/
def ErrF (w : World) (q : Option (Int × Int)) (v : Value) : Prop := match q with
  | none => v = .nilIface
  | some (n, a) => ∃ f, v = .iface 157 (.pointer (some ⟨f, 0, none⟩)) ∧ w.heap[f]? = some (.cells #[.int .i64 a, .int .i64 n] 159 (0, 0))
theorem ErrF.below {w w' : World} {q : Option (Int × Int)} {v : Value} (h : ErrF w q v) (k : Below w.heap.size w w') : ErrF w' q v := by
  cases q with
  | none => exact h
  | some x => obtain ⟨f, rfl, hf⟩ := h; exact ⟨f, rfl, lup k hf⟩
theorem unwrap_fail (w : World) (f : Nat) (a n : Int) (hf : w.heap[f]? = some (.cells #[.int .i64 a, .int .i64 n] 159 (0, 0))) : Calls Tryd.prog 113 #[.pointer (some ⟨f, 0, none⟩)] w fun e w' => e = .returned (.iface 41 (.int .i64 n)) ∧ w' = w := by
  obtain ⟨x0, x1⟩ := lbox2 hf
  go_enter Tryd.func113, Tryd.ntmps113
  go_wp2_with fail
  go_ret
  exact ⟨rfl, rfl⟩
theorem isTypeOf (v : Value) (w : World) : (ReflectliteType.typeOf #[.iface 41 v]).run Tryd.prog w = .ok (.iface 171 (.agg #[.pointer (some ⟨1, 41, none⟩)])) w := by kernel_rfl
theorem isComparable (w : World) : ((ReflectliteType.method fun t => do Rtype.noPackHeld "Comparable" t; (fun a => Value.bool a.comparable) <$> typeInfo t) #[.agg #[.pointer (some ⟨1, 41, none⟩)]]).run Tryd.prog w = .ok (.bool true) w := by kernel_rfl
theorem m_comp (v : Value) (w : World) : (Go.method 312 171 v "Comparable").run Tryd.prog w = .ok (117, v) w := by kernel_rfl
theorem noIs_f (v : Value) (xT : TypeId) (w : World) : (Instr.typeAssert (.iface 157 v) xT 173 true).run Tryd.prog w = .ok (.tuple #[.nilIface, .bool false]) w := run_typeAssert_lacksB Tryd.underlying173 (by kernel_rfl) (by kernel_rfl) v xT w
theorem noIs_n (v : Value) (xT : TypeId) (w : World) : (Instr.typeAssert (.iface 41 v) xT 173 true).run Tryd.prog w = .ok (.tuple #[.nilIface, .bool false]) w := run_typeAssert_lacksB Tryd.underlying173 (by kernel_rfl) (by kernel_rfl) v xT w
theorem hasUn_f (v : Value) (xT : TypeId) (w : World) : (Instr.typeAssert (.iface 157 v) xT 176 true).run Tryd.prog w = .ok (.tuple #[.iface 157 v, .bool true]) w := run_typeAssert_hasB Tryd.underlying176 (by kernel_rfl) v xT w
theorem noUn_n (v : Value) (xT : TypeId) (w : World) : (Instr.typeAssert (.iface 41 v) xT 176 true).run Tryd.prog w = .ok (.tuple #[.nilIface, .bool false]) w := run_typeAssert_lacksB Tryd.underlying176 (by kernel_rfl) (by kernel_rfl) v xT w
theorem noUns_n (v : Value) (xT : TypeId) (w : World) : (Instr.typeAssert (.iface 41 v) xT 178 true).run Tryd.prog w = .ok (.tuple #[.nilIface, .bool false]) w := run_typeAssert_lacksB Tryd.underlying178 (by kernel_rfl) (by kernel_rfl) v xT w
theorem m_un_f (v : Value) (w : World) : (Go.method 312 157 v "Unwrap").run Tryd.prog w = .ok (113, v) w := by kernel_rfl
theorem eql_nn (n m : Int) (w : World) : (binOp .eql 93 (.iface 41 (.int .i64 n)) (.iface 41 (.int .i64 m))).run Tryd.prog w = .ok (.bool (decide (n = m))) w := by
  obtain ⟨i, hi, hc⟩ := Option.map_eq_some_iff.1 (show (Tryd.prog.info? 41).map (·.comparable) = some true by kernel_rfl)
  have h : ∀ d : Nat, (Op.equalIn (d + 2) 93 (.iface 41 (.int .i64 n)) (.iface 41 (.int .i64 m))).run Tryd.prog w = .ok (decide (n = m)) w := fun d => by
    simp [Op.equalIn, run_underlying Tryd.underlying93, run_underlying Tryd.underlying41, typeInfo, hi, hc]
    by_cases h : n = m <;> simp [h]
  simp only [binOp]
  simp [Op.equal, Op.maxDepth, h 9998]
set_option maxHeartbeats 4000000 in
set_option maxRecDepth 100000 in
theorem is2_any (w : World) (f : Nat) (a n m : Int) (hf : w.heap[f]? = some (.cells #[.int .i64 a, .int .i64 n] 159 (0, 0))) : Calls Tryd.prog 94 #[.iface 157 (.pointer (some ⟨f, 0, none⟩)), .iface 41 (.int .i64 m), .bool true] w fun e w' => e = .returned (.bool (decide (n = m))) ∧ Below w.heap.size w w' := by
  have i2 := noIs_f
  have i3 := noIs_n
  have i5 := hasUn_f
  have i6 := noUn_n
  have i7 := noUns_n
  have i9 := m_un_f
  have hty2 := fun (x : Value) (w : World) => run_eql_iface_types (P := Tryd.prog) 157 41 x (.int .i64 m) Tryd.underlying93 (by decide) w
  have HE := Aside.mk (eql_nn n m)
  obtain ⟨q, hq⟩ : ∃ q, decide (n = m) = q := ⟨_, rfl⟩
  rw [hq]
  rw [hq] at HE
  have KU := Aside.mk (unwrap_fail w f a n hf)
  have he := HE.out w
  clear hq hf
  go_enter Tryd.func94, Tryd.ntmps94
  go_wp2_with fail
  refine wp_loop_rounds 2 ?_
  rw [rounds_succ]
  go_wp2_with fail
  refine KU.out.mono ?_
  rintro e w2 ⟨rfl, rfl⟩
  go_wp2_with fail
  rw [rounds_succ]
  cases q
  all_goals
    go_wp2_with fail
    go_ret
    exact ⟨rfl, Below.refl _ _⟩
set_option maxHeartbeats 4000000 in
set_option maxRecDepth 100000 in
theorem is_any (w : World) (n a m : Int) (v : Value) (hv : ErrF w (some (n, a)) v) : Calls Tryd.prog 90 #[v, .int .i64 m] w fun e w' => e = .returned (.bool (decide (n = m))) ∧ Below w.heap.size w w' := by
  obtain ⟨f, rfl, hf⟩ := hv
  have K2 := Aside.mk (is2_any w f a n m hf)
  clear hf
  have KI : Calls Tryd.prog 92 #[.iface 157 (.pointer (some ⟨f, 0, none⟩)), .iface 41 (.int .i64 m)] w fun e w' => e = .returned (.bool (decide (n = m))) ∧ Below w.heap.size w w' := by
    have h10 := @run_callFunc_extern Tryd.prog 93 _ ReflectliteType.typeOf Tryd.func93 (by kernel_rfl) (by kernel_rfl) (by kernel_rfl) (by kernel_rfl)
    have h32 := @run_callFunc_extern Tryd.prog 117 _ (ReflectliteType.method fun t => do Rtype.noPackHeld "Comparable" t; pure (.bool (← typeInfo t).comparable)) Tryd.func117 (by kernel_rfl) (by kernel_rfl) (by kernel_rfl) (by kernel_rfl)
    have tT := isTypeOf
    have cT := isComparable
    have mR := m_comp
    go_enter Tryd.func92, Tryd.ntmps92
    go_wp2_with fail
    refine K2.out.mono ?_
    rintro e w2 ⟨rfl, b2⟩
    go_wp2_with fail
    go_ret
    exact ⟨rfl, b2⟩
  have KI := Aside.mk KI
  go_enter Tryd.func90, Tryd.ntmps90
  go_wp2_with fail
  refine KI.out.mono ?_
  rintro e w2 ⟨rfl, b2⟩
  go_wp2_with fail
  go_ret
  exact ⟨rfl, b2⟩
theorem is_nil (w : World) (m : Int) : Calls Tryd.prog 90 #[.nilIface, .int .i64 m] w fun e w' => e = .returned (.bool false) ∧ w' = w := by
  go_enter Tryd.func90, Tryd.ntmps90
  go_wp2_with fail
  go_ret
  exact ⟨rfl, rfl⟩
end Go.Proofs.YtidjkhmlpgkaaaaDoor

namespace Go.Proofs.YtidjkhmlpgkaaaaDoor
open Go.RowKit
set_option linter.unusedVariables false
set_option linter.unusedSimpArgs false

theorem fault_any (n a : Int) (w : World) :
    Calls Tryd.prog 69 #[.int .i64 n, .int .i64 a] w fun e w' => ∃ v, e = .returned v ∧ ErrF w' (some (n, a)) v ∧ Below w.heap.size w w' := by
  go_enter Tryd.func69, Tryd.ntmps69
  go_wp2_with fail
  go_ret
  exact ⟨_, rfl, ⟨w.heap.size, rfl, heap_alloc_new _ _⟩, lone _ _⟩
theorem within_any (n a b : Int) (w : World) :
    Calls Tryd.prog 70 #[.int .i64 n, .int .i64 a, .int .i64 b] w fun e w' => e = .returned (.bool (decide (a ≤ n) && decide (n ≤ b))) ∧ w = w' := by
  by_cases h1 : a ≤ n
  · by_cases h2 : n ≤ b
    all_goals
      go_enter Tryd.func70, Tryd.ntmps70
      go_wp2
      go_ret
      exact ⟨ret_bool (by simp; omega), rfl⟩
  · go_enter Tryd.func70, Tryd.ntmps70
    go_wp2
    go_ret
    exact ⟨ret_bool (by simp; omega), rfl⟩
theorem end_any (x : Win) (hx : Win.Ok x) (w : World) :
    Calls Tryd.prog 73 #[Win.val x] w fun e w' => e = .returned (.int .i64 (endS x)) ∧ Below w.heap.size w w' := by
  obtain ⟨⟨s0, s1⟩, ⟨l0, l1⟩, ⟨p0, p1⟩, ⟨g0, g1⟩⟩ := hx
  unfold Win.val endS
  generalize Win.s x = s at *
  generalize Win.l x = l at *
  have h : IntKind.i64.wrap (s + l) = s + l := IntWalk.i64_in _ (by omega)
  go_enter Tryd.func73, Tryd.ntmps73
  go_wp2_with fail
  go_ret
  exact ⟨rfl, lone _ _⟩
theorem overlap_iff (v x : Win) : overlapS v x = true ↔ 0 < Win.l v ∧ 0 < Win.l x ∧ Win.s v < endS x ∧ Win.s x < endS v := by
  unfold overlapS laterS endS
  rw [Bool.and_eq_true, hasS_iff, hasS_iff]
  split <;> omega
set_option maxHeartbeats 1600000 in
theorem poverlap_any (v x : Win) (hv : Win.Ok v) (hx : Win.Ok x) (w : World) :
    Calls Tryd.prog 77 #[Win.val v, Win.val x] w fun e w' => e = .returned (.bool (overlapS v x)) ∧ Below w.heap.size w w' := by
  have K1 := Aside.mk (end_any v hv)
  have K2 := Aside.mk (end_any x hx)
  have E : overlapS v x = (decide (0 < Win.l v) && decide (0 < Win.l x) && decide (Win.s v < endS x) && decide (Win.s x < endS v)) := by
    rw [Bool.eq_iff_iff, overlap_iff]
    simp [and_assoc]
  rw [E]
  clear E
  have q1 : 0 ≤ Win.s v ∧ Win.s v ≤ 65535 := hv.s
  have q2 : 0 ≤ Win.s x ∧ Win.s x ≤ 65535 := hx.s
  have q3 : 0 ≤ Win.l v ∧ Win.l v ≤ 65535 := hv.l
  have q4 : 0 ≤ Win.l x ∧ Win.l x ≤ 65535 := hx.l
  obtain ⟨q1, q5⟩ := q1
  obtain ⟨q2, q6⟩ := q2
  obtain ⟨q3, q7⟩ := q3
  obtain ⟨q4, q8⟩ := q4
  unfold Win.val at K1 K2 ⊢
  generalize endS v = ev at *
  generalize endS x = ex at *
  generalize Win.s v = s at *
  generalize Win.l v = l at *
  generalize Win.p v = p at *
  generalize Win.g v = g at *
  generalize Win.s x = s' at *
  generalize Win.l x = l' at *
  generalize Win.p x = p' at *
  generalize Win.g x = g' at *
  have w1 : IntKind.i64.wrap s = s := IntWalk.i64_in _ (by omega)
  have w2 : IntKind.i64.wrap s' = s' := IntWalk.i64_in _ (by omega)
  obtain ⟨W1, HW⟩ : ∃ W1, Aside (W1 = (w.alloc (.cells #[.int .u16 s, .int .u16 l, .int .u8 p, .int .u8 g] 87)).alloc (.cells #[.int .u16 s', .int .u16 l', .int .u8 p', .int .u8 g'] 87)) := ⟨_, ⟨rfl⟩⟩
  have B1 : Aside (Below w.heap.size w W1) := ⟨by rw [HW.out]; exact lthen (lone _ _) (lone _ _)⟩
  obtain ⟨f0, f1, f2, f3⟩ := lbox4 (w := W1) (B := w.heap.size) (t := 87) (fr := (0, 0)) (x0 := .int .u16 s) (x1 := .int .u16 l) (x2 := .int .u8 p) (x3 := .int .u8 g) (by rw [HW.out]; exact lheap_up (heap_alloc_new _ _))
  obtain ⟨e0, e1, e2, e3⟩ := lbox4 (w := W1) (B := w.heap.size + 1) (t := 87) (fr := (0, 0)) (x0 := .int .u16 s') (x1 := .int .u16 l') (x2 := .int .u8 p') (x3 := .int .u8 g') (by rw [HW.out]; exact lheap_top _ _ _ (by simp))
  by_cases h1 : 0 < l
  · by_cases h2 : 0 < l'
    · by_cases h3 : s < ex
      · by_cases h4 : s' < ev
        all_goals
          have d3 : decide (s < ex) = true := decide_eq_true h3
          go_enter Tryd.func77, Tryd.ntmps77
          go_upto_region 1 with (fail)
          rw [← HW.out]
          have KD1 := Aside.mk (K2.out W1.drew)
          go_region_held3 (fun w' => w'.cell? ⟨w.heap.size, 0, none⟩ = some (.int .u16 s) ∧ w'.cell? ⟨w.heap.size, 1, none⟩ = some (.int .u16 l) ∧ w'.cell? ⟨w.heap.size, 2, none⟩ = some (.int .u8 p) ∧ w'.cell? ⟨w.heap.size, 3, none⟩ = some (.int .u8 g) ∧ w'.cell? ⟨w.heap.size + 1, 0, none⟩ = some (.int .u16 s') ∧ w'.cell? ⟨w.heap.size + 1, 1, none⟩ = some (.int .u16 l') ∧ w'.cell? ⟨w.heap.size + 1, 2, none⟩ = some (.int .u8 p') ∧ w'.cell? ⟨w.heap.size + 1, 3, none⟩ = some (.int .u8 g')) (first | go_keep | (exact ⟨k1 _ _ f0, k1 _ _ f1, k1 _ _ f2, k1 _ _ f3, k1 _ _ e0, k1 _ _ e1, k1 _ _ e2, k1 _ _ e3⟩))
            (first
              | ((with_reducible refine KD1.out.mono ?_); rintro e w5 ⟨rfl, b5⟩; have Y5 : Aside (Below W1.heap.size W1 w5) := ⟨lthen (below_drewN W1 1) b5⟩; have KD2 := Aside.mk (K1.out w5); have k1 := lkeep Y5.out)
              | ((with_reducible refine KD2.out.mono ?_); rintro e w6 ⟨rfl, b6⟩; have Y6 : Aside (Below W1.heap.size W1 w6) := ⟨lthen Y5.out b6⟩; have k1 := lkeep Y6.out))
          all_goals
            go_wp2_with fail
            go_ret
            exact ⟨ret_bool (by simp; omega), lthen B1.out Y6.out⟩
      · have d3 : decide (s < ex) = false := decide_eq_false h3
        go_enter Tryd.func77, Tryd.ntmps77
        go_upto_region 1 with (fail)
        rw [← HW.out]
        refine wp_region_held_drew (S := (fun w' => w'.cell? ⟨w.heap.size, 0, none⟩ = some (.int .u16 s) ∧ w'.cell? ⟨w.heap.size + 1, 0, none⟩ = some (.int .u16 s') ∧ w'.cell? ⟨w.heap.size + 1, 1, none⟩ = some (.int .u16 l') ∧ w'.cell? ⟨w.heap.size, 1, none⟩ = some (.int .u16 l) ∧ w'.cell? ⟨w.heap.size + 1, 2, none⟩ = some (.int .u8 p') ∧ w'.cell? ⟨w.heap.size + 1, 3, none⟩ = some (.int .u8 g'))) (by kernel_rfl) ⟨f0, e0, e1, f1, e2, e3⟩ (fun hHeld => ?_)
        refine wpAnyH_take (i := 0) (v := ?_) rfl (by kernel_rfl) (by kernel_rfl) (by kernel_rfl) (fun _ _ _ h => h) (Or.inl ⟨by kernel_rfl, ?_⟩) (by assumption) ?_
        rotate_left
        · (intro w hSw; (try dsimp only at hSw); go_simp)
          all_goals with_reducible rfl
        (try simp only [Act.put, List.setIfInBounds_toArray, List.set_cons_zero, List.set_cons_succ])
        refine wpAnyH_take (i := 1) (v := ?_) rfl (by kernel_rfl) (by kernel_rfl) (by kernel_rfl) (fun _ _ _ h => h) (Or.inl ⟨by kernel_rfl, ?_⟩) (by assumption) ?_
        rotate_left
        · (intro w hSw; (try dsimp only at hSw); go_simp)
          all_goals with_reducible rfl
        (try simp only [Act.put, List.setIfInBounds_toArray, List.set_cons_zero, List.set_cons_succ])
        refine wpAnyH_take (i := 2) (v := ?_) rfl (by kernel_rfl) (by kernel_rfl) (by kernel_rfl) (fun _ _ _ h => h) (Or.inl ⟨by kernel_rfl, ?_⟩) (by assumption) ?_
        rotate_left
        · (intro w hSw; (try dsimp only at hSw); go_simp)
          all_goals with_reducible rfl
        (try simp only [Act.put, List.setIfInBounds_toArray, List.set_cons_zero, List.set_cons_succ])
        refine wpAnyH_take (i := 3) (v := ?_) rfl (by kernel_rfl) (by kernel_rfl) (by kernel_rfl) (fun _ _ _ h => h) (Or.inl ⟨by kernel_rfl, ?_⟩) (by assumption) ?_
        rotate_left
        · (intro w hSw; (try dsimp only at hSw); go_simp)
          all_goals with_reducible rfl
        (try simp only [Act.put, List.setIfInBounds_toArray, List.set_cons_zero, List.set_cons_succ])
        refine wpAnyH_take (i := 4) (v := ?_) rfl (by kernel_rfl) (by kernel_rfl) (by kernel_rfl) (fun _ _ _ h => h) (Or.inl ⟨by kernel_rfl, ?_⟩) (by assumption) ?_
        rotate_left
        · (intro w hSw; (try dsimp only at hSw); go_simp)
          all_goals with_reducible rfl
        (try simp only [Act.put, List.setIfInBounds_toArray, List.set_cons_zero, List.set_cons_succ])
        refine wpAnyH_take (i := 5) (v := ?_) rfl (by kernel_rfl) (by kernel_rfl) (by kernel_rfl) (fun _ _ _ h => h) (Or.inl ⟨by kernel_rfl, ?_⟩) (by assumption) ?_
        rotate_left
        · (intro w hSw; (try dsimp only at hSw); go_simp)
          all_goals with_reducible rfl
        (try simp only [Act.put, List.setIfInBounds_toArray, List.set_cons_zero, List.set_cons_succ])
        refine wpAnyH_take (i := 6) (v := ?_) rfl (by kernel_rfl) (by kernel_rfl) (by kernel_rfl) (fun _ _ _ h => h) (Or.inl ⟨by kernel_rfl, ?_⟩) (by assumption) ?_
        rotate_left
        · (intro w hSw; (try dsimp only at hSw); go_simp)
          all_goals with_reducible rfl
        (try simp only [Act.put, List.setIfInBounds_toArray, List.set_cons_zero, List.set_cons_succ])
        refine wpAnyH_take (i := 7) (v := ?_) rfl (by kernel_rfl) (by kernel_rfl) (by kernel_rfl) (fun _ _ _ h => h) (Or.inl ⟨by kernel_rfl, ?_⟩) (by assumption) ?_
        rotate_left
        · (intro w hSw; (try dsimp only at hSw); go_simp)
          all_goals with_reducible rfl
        (try simp only [Act.put, List.setIfInBounds_toArray, List.set_cons_zero, List.set_cons_succ])
        refine wpAnyH_take (i := 8) (v := ?_) rfl (by kernel_rfl) (by kernel_rfl) (by kernel_rfl) (fun _ _ _ h => h) (Or.inl ⟨by kernel_rfl, ?_⟩) (by assumption) ?_
        rotate_left
        · (intro w hSw; (try dsimp only at hSw); go_simp)
          all_goals with_reducible rfl
        (try simp only [Act.put, List.setIfInBounds_toArray, List.set_cons_zero, List.set_cons_succ])
        refine wpAnyH_take (i := 9) (v := ?_) rfl (by kernel_rfl) (by kernel_rfl) (by kernel_rfl) (fun _ _ _ h => h) (Or.inl ⟨by kernel_rfl, ?_⟩) (by assumption) ?_
        rotate_left
        · (intro w hSw; (try dsimp only at hSw); go_simp)
          all_goals with_reducible rfl
        (try simp only [Act.put, List.setIfInBounds_toArray, List.set_cons_zero, List.set_cons_succ])
        refine wpAnyH_take (i := 10) (v := ?_) rfl (by kernel_rfl) (by kernel_rfl) (by kernel_rfl) (fun _ _ _ h => h) (Or.inl ⟨by kernel_rfl, ?_⟩) (by assumption) ?_
        rotate_left
        · (intro w hSw; (try dsimp only at hSw); go_simp)
          all_goals with_reducible rfl
        (try simp only [Act.put, List.setIfInBounds_toArray, List.set_cons_zero, List.set_cons_succ])
        refine wpAnyH_take (i := 11) (v := ?_) rfl (by kernel_rfl) (by kernel_rfl) (by kernel_rfl) (fun _ _ _ h => h) (Or.inl ⟨by kernel_rfl, ?_⟩) (by assumption) ?_
        rotate_left
        · (intro w hSw; (try dsimp only at hSw); go_simp)
          all_goals with_reducible rfl
        (try simp only [Act.put, List.setIfInBounds_toArray, List.set_cons_zero, List.set_cons_succ])
        refine wpAnyH_take (i := 12) (v := ?_) rfl (by kernel_rfl) (by kernel_rfl) (by kernel_rfl) (fun _ _ _ h => h) (Or.inl ⟨by kernel_rfl, ?_⟩) (by assumption) ?_
        rotate_left
        · (intro w hSw; (try dsimp only at hSw); go_simp)
          all_goals with_reducible rfl
        (try simp only [Act.put, List.setIfInBounds_toArray, List.set_cons_zero, List.set_cons_succ])
        refine wpAnyH_ready (rs := [13]) (by kernel_rfl) (by simp) ?_
        refine AllReadyH.cons rfl (fun K hK => ?_) AllReadyH.nil
        go_simp
        (with_reducible refine (K2.out W1.drew).mono ?_)
        rintro e w5 ⟨rfl, b5⟩
        have Y5 : Aside (Below W1.heap.size W1 w5) := ⟨lthen (below_drewN W1 1) b5⟩
        have k1 := lkeep Y5.out
        go_wp2_with fail
        refine hK.out _ _ ⟨k1 _ _ f0, k1 _ _ e0, k1 _ _ e1, k1 _ _ f1, k1 _ _ e2, k1 _ _ e3⟩ (fun hHeld => ?_)
        clear hK K
        (try simp only [Act.put, List.setIfInBounds_toArray, List.set_cons_zero, List.set_cons_succ])
        refine wpAnyH_take (i := 14) (oi := { dst := some 19, op := _, type := _, pos := _, after := _, guard := some (8, true) }) (v := ?_) rfl (by kernel_rfl) (by kernel_rfl) (by kernel_rfl) (fun _ _ _ h => h) (Or.inl ⟨by kernel_rfl, ?_⟩) (by assumption) ?_
        rotate_left
        · (intro w hSw; (try dsimp only at hSw); go_simp)
          all_goals with_reducible rfl
        (try simp only [Act.put, List.setIfInBounds_toArray, List.set_cons_zero, List.set_cons_succ])
        refine wpAnyH_take (i := 15) (oi := { dst := some 20, op := _, type := _, pos := _, after := _, guard := none }) (v := ?_) rfl (by kernel_rfl) (by kernel_rfl) (by kernel_rfl) (fun _ _ _ h => h) (Or.inl ⟨by kernel_rfl, ?_⟩) (by assumption) ?_
        rotate_left
        · (intro w hSw; (try dsimp only at hSw); go_simp)
          all_goals with_reducible rfl
        (try simp only [Act.put, List.setIfInBounds_toArray, List.set_cons_zero, List.set_cons_succ])
        refine wpAnyH_take (i := 16) (oi := { dst := some 21, op := _, type := _, pos := _, after := _, guard := none }) (v := ?_) rfl (by kernel_rfl) (by kernel_rfl) (by kernel_rfl) (fun _ _ _ h => h) (Or.inl ⟨by kernel_rfl, ?_⟩) (by assumption) ?_
        rotate_left
        · (intro w hSw; (try dsimp only at hSw); go_simp)
          all_goals with_reducible rfl
        (try simp only [Act.put, List.setIfInBounds_toArray, List.set_cons_zero, List.set_cons_succ])
        refine wpAnyH_take (i := 17) (oi := { dst := some 22, op := _, type := _, pos := _, after := _, guard := some (16, true) }) rfl (by kernel_rfl) (by kernel_rfl) (by kernel_rfl) (fun _ _ _ h => h) (Or.inr ⟨by kernel_rfl, rfl⟩) (by assumption) ?_
        (try simp only [Act.put, List.setIfInBounds_toArray, List.set_cons_zero, List.set_cons_succ])
        refine wpAnyH_take (i := 18) (oi := { dst := some 23, op := _, type := _, pos := _, after := _, guard := some (16, true) }) rfl (by kernel_rfl) (by kernel_rfl) (by kernel_rfl) (fun _ _ _ h => h) (Or.inr ⟨by kernel_rfl, rfl⟩) (by assumption) ?_
        (try simp only [Act.put, List.setIfInBounds_toArray, List.set_cons_zero, List.set_cons_succ])
        refine wpAnyH_take (i := 19) (oi := { dst := some 24, op := _, type := _, pos := _, after := _, guard := some (16, true) }) rfl (by kernel_rfl) (by kernel_rfl) (by kernel_rfl) (fun _ _ _ h => h) (Or.inr ⟨by kernel_rfl, rfl⟩) (by assumption) ?_
        (try simp only [Act.put, List.setIfInBounds_toArray, List.set_cons_zero, List.set_cons_succ])
        refine wpAnyH_take (i := 20) (oi := { dst := some 25, op := _, type := _, pos := _, after := _, guard := some (16, true) }) rfl (by kernel_rfl) (by kernel_rfl) (by kernel_rfl) (fun _ _ _ h => h) (Or.inr ⟨by kernel_rfl, rfl⟩) (by assumption) ?_
        (try simp only [Act.put, List.setIfInBounds_toArray, List.set_cons_zero, List.set_cons_succ])
        refine wpAnyH_take (i := 21) (oi := { dst := some 26, op := _, type := _, pos := _, after := _, guard := some (16, true) }) rfl (by kernel_rfl) (by kernel_rfl) (by kernel_rfl) (fun _ _ _ h => h) (Or.inr ⟨by kernel_rfl, rfl⟩) (by assumption) ?_
        (try simp only [Act.put, List.setIfInBounds_toArray, List.set_cons_zero, List.set_cons_succ])
        refine wpAnyH_take (i := 22) (oi := { dst := some 27, op := _, type := _, pos := _, after := _, guard := some (16, true) }) rfl (by kernel_rfl) (by kernel_rfl) (by kernel_rfl) (fun _ _ _ h => h) (Or.inr ⟨by kernel_rfl, rfl⟩) (by assumption) ?_
        (try simp only [Act.put, List.setIfInBounds_toArray, List.set_cons_zero, List.set_cons_succ])
        refine wpAnyH_take (i := 23) (oi := { dst := some 28, op := _, type := _, pos := _, after := _, guard := none }) (v := ?_) rfl (by kernel_rfl) (by kernel_rfl) (by kernel_rfl) (fun _ _ _ h => h) (Or.inl ⟨by kernel_rfl, ?_⟩) (by assumption) ?_
        rotate_left
        · (intro w hSw; (try dsimp only at hSw); go_simp)
          all_goals with_reducible rfl
        (try simp only [Act.put, List.setIfInBounds_toArray, List.set_cons_zero, List.set_cons_succ])
        refine wpAnyH_take (i := 24) (oi := { dst := some 4, op := _, type := _, pos := _, after := _, guard := none }) (v := ?_) rfl (by kernel_rfl) (by kernel_rfl) (by kernel_rfl) (fun _ _ _ h => h) (Or.inl ⟨by kernel_rfl, ?_⟩) (by assumption) ?_
        rotate_left
        · (intro w hSw; (try dsimp only at hSw); go_simp)
          all_goals with_reducible rfl
        (try simp only [Act.put, List.setIfInBounds_toArray, List.set_cons_zero, List.set_cons_succ])
        refine wpAnyH_done (by kernel_rfl) ?_ _
        all_goals
          go_wp2_with fail
          go_ret
          exact ⟨ret_bool (by simp; omega), lthen B1.out Y5.out⟩
    · go_enter Tryd.func77, Tryd.ntmps77
      go_upto_region 1 with (fail)
      rw [← HW.out]
      go_quiet (fail)
      go_wp2_with fail
      go_ret
      exact ⟨ret_bool (by simp; omega), lthen B1.out (below_drewN _ _)⟩
  · go_enter Tryd.func77, Tryd.ntmps77
    go_upto_region 1 with (fail)
    rw [← HW.out]
    go_quiet (fail)
    go_wp2_with fail
    go_ret
    exact ⟨ret_bool (by simp; omega), lthen B1.out (below_drewN _ _)⟩
theorem ptogether_any (v x : Win) (hv : Win.Ok v) (hx : Win.Ok x) (w : World) :
    Calls Tryd.prog 76 #[Win.val v, Win.val x] w fun e w' => e = .returned (.bool (togetherS v x)) ∧ Below w.heap.size w w' := by
  obtain ⟨⟨s0, s1⟩, ⟨l0, l1⟩, ⟨p0, p1⟩, ⟨g0, g1⟩⟩ := hv
  obtain ⟨⟨s2, s3⟩, ⟨l2, l3⟩, ⟨p2, p3⟩, ⟨g2, g3⟩⟩ := hx
  unfold Win.val togetherS
  generalize Win.s v = a1 at *
  generalize Win.l v = a2 at *
  generalize Win.p v = a3 at *
  generalize Win.g v = a4 at *
  generalize Win.s x = b1 at *
  generalize Win.l x = b2 at *
  generalize Win.p x = b3 at *
  generalize Win.g x = b4 at *
  by_cases h0 : a4 = 0
  · go_enter Tryd.func76, Tryd.ntmps76
    go_wp2
    go_ret
    exact ⟨ret_bool (by simp [h0]), lthen (lone _ _) (lone _ _)⟩
  · have e0 : (a4 == 0) = false := beq_eq_false_iff_ne.2 h0
    by_cases h1 : a1 = b1
    · by_cases h2 : a2 = b2
      · by_cases h3 : a3 = b3
        · by_cases h4 : a4 = b4
          · subst h1 h2 h3 h4
            go_enter Tryd.func76, Tryd.ntmps76
            go_wp2
            go_ret
            exact ⟨ret_bool (by simp [h0]), lthen (lone _ _) (lone _ _)⟩
          · have e4 : (a4 == b4) = false := beq_eq_false_iff_ne.2 h4
            subst h1 h2 h3
            go_enter Tryd.func76, Tryd.ntmps76
            go_wp2
            go_ret
            exact ⟨ret_bool (by simp [h4]), lthen (lone _ _) (lone _ _)⟩
        · have e3 : (a3 == b3) = false := beq_eq_false_iff_ne.2 h3
          subst h1 h2
          go_enter Tryd.func76, Tryd.ntmps76
          go_wp2
          go_ret
          exact ⟨ret_bool (by simp [h3]), lthen (lone _ _) (lone _ _)⟩
      · have e2 : (a2 == b2) = false := beq_eq_false_iff_ne.2 h2
        subst h1
        go_enter Tryd.func76, Tryd.ntmps76
        go_wp2
        go_ret
        exact ⟨ret_bool (by simp [h2]), lthen (lone _ _) (lone _ _)⟩
    · have e1 : (a1 == b1) = false := beq_eq_false_iff_ne.2 h1
      go_enter Tryd.func76, Tryd.ntmps76
      go_wp2
      go_ret
      exact ⟨ret_bool (by simp [h1]), lthen (lone _ _) (lone _ _)⟩
end Go.Proofs.YtidjkhmlpgkaaaaDoor
