/- Small lemmas: boxes, rows of bools, a plan opened. -/
import Derived.Test.YtflkfjjfhhapkaaPlanB
import Derived.Deep.OwnRows
namespace Go.Proofs.Ytflkfjjfhhapkaa
open Go.RowKit
set_option linter.unusedVariables false
set_option linter.unusedSimpArgs false

theorem bel_alloc {a w : World} (h : Below a.heap.size a w) (x : Obj) : Below a.heap.size a (w.alloc x) := h.alloc h.size x
theorem bel_drew {a w : World} (h : Below a.heap.size a w) : Below a.heap.size a w.drew := h.drew
theorem bel_drewN {a w : World} (h : Below a.heap.size a w) (n : Nat) : Below a.heap.size a (w.drewN n) := below_then h (below_drewN _ _)

theorem bel_one (w : World) (x : Obj) : Below w.heap.size w (w.alloc x) := (Below.refl _ _).alloc (Nat.le_refl _) _
theorem bel_two (w : World) (x y : Obj) : Below w.heap.size w ((w.alloc x).alloc y) := ((Below.refl _ _).alloc (Nat.le_refl _) _).alloc (by simp) _
theorem bel_then {a w w' : World} (h : Below a.heap.size a w) (k : Below w.heap.size w w') : Below a.heap.size a w' := below_then h k

theorem bcell {W w1 : World} (hb : Below W.heap.size W w1) : (∀ b o, b < W.heap.size → w1.cell? ⟨b, o, none⟩ = W.cell? ⟨b, o, none⟩) ∧ (∀ b o, b < W.heap.size → w1.frozen? ⟨b, o, none⟩ = W.frozen? ⟨b, o, none⟩) :=
  ⟨fun b o h => hb.cell (p := ⟨b, o, none⟩) h, fun b o h => hb.frozen (p := ⟨b, o, none⟩) h⟩
theorem own_kept {S : Nat → Prop} {w w' : World} {base n size : Nat} {e : TypeId} {v : Value} {xs : List Value} (h : w.ownsRow base e size v n xs) (k : Kept S w w') (hv : ∀ r, v.ownBlock = some r → ¬ S r) : w'.ownsRow base e size v n xs := by
  refine ⟨h.1, ?_⟩
  rcases h.2 with h0 | ⟨g, cap, cur, rfl, h1, h2, h3⟩
  · exact .inl h0
  · exact .inr ⟨g, cap, cur, rfl, h1, k.heap h2 (hv g rfl), h3⟩
theorem own_below {w w' : World} {base n size : Nat} {e : TypeId} {v : Value} {xs : List Value} (h : w.ownsRow base e size v n xs) (k : Below w.heap.size w w') : w'.ownsRow base e size v n xs := own_kept (S := fun _ => False) h (Kept.of_below k) (fun _ _ => id)
/-- A plan's value, opened. -/
theorem PlanV.open_ {w : World} {v : Value} {P : Plan} (h : PlanV w v P) : ∃ a0 c0 a1 c1 a2 c2 a3 c3, v = .agg #[.int .u16 (Plan.frame P), .slice a0 (Plan.cores P).length c0, .slice a1 (Plan.parts P).length c1, .slice a2 (Plan.chans P).length c2, .slice a3 (Plan.pairs P).length c3] ∧
    PlanAt w (.slice a0 (Plan.cores P).length c0) (.slice a1 (Plan.parts P).length c1) (.slice a2 (Plan.chans P).length c2) (.slice a3 (Plan.pairs P).length c3) P ∧ (Plan.cores P).length ≤ 9223372036854775807 := by
  obtain ⟨a0, n0, c0, a1, n1, c1, a2, n2, c2, a3, n3, c3, rfl, hp⟩ := h
  obtain ⟨_, _, q, hlen⟩ := hp.cores.len
  obtain ⟨rfl, rfl, rfl⟩ : a0 = _ ∧ n0 = _ ∧ c0 = _ := by injection q with q1 q2 q3; exact ⟨q1, q2, q3⟩
  clear q
  obtain ⟨_, _, q, hlen1⟩ := Elems.len hp.parts
  obtain ⟨rfl, rfl, rfl⟩ : a1 = _ ∧ n1 = _ ∧ c1 = _ := by injection q with q1 q2 q3; exact ⟨q1, q2, q3⟩
  clear q
  obtain ⟨_, _, q, hlen2⟩ := Elems.len hp.chans
  obtain ⟨rfl, rfl, rfl⟩ : a2 = _ ∧ n2 = _ ∧ c2 = _ := by injection q with q1 q2 q3; exact ⟨q1, q2, q3⟩
  clear q
  obtain ⟨_, _, q, hlen3⟩ := Elems.len hp.pairs
  obtain ⟨rfl, rfl, rfl⟩ : a3 = _ ∧ n3 = _ ∧ c3 = _ := by injection q with q1 q2 q3; exact ⟨q1, q2, q3⟩
  exact ⟨_, _, _, _, _, _, _, _, rfl, hp, hlen⟩
theorem A_info_int : (Try.prog.info? 3).map (fun i => (i.zero, i.size, i.bytes)) = some (some (.int .i64 0), 1, 8) := by kernel_rfl
theorem three_boxes (w : World) (o1 o2 o3 : Obj) : (((w.alloc o1).alloc o2).alloc o3).heap[w.heap.size]? = some o1 ∧ (((w.alloc o1).alloc o2).alloc o3).heap[w.heap.size + 1]? = some o2 ∧ (((w.alloc o1).alloc o2).alloc o3).heap[w.heap.size + 1 + 1]? = some o3 ∧ Below w.heap.size w (((w.alloc o1).alloc o2).alloc o3) := by
  have h1 : (w.alloc o1).heap[w.heap.size]? = some o1 := heap_alloc_new _ _
  have h2 : ((w.alloc o1).alloc o2).heap[w.heap.size + 1]? = some o2 := by have := heap_alloc_new (w.alloc o1) o2; simpa using this
  have h3 : (((w.alloc o1).alloc o2).alloc o3).heap[w.heap.size + 1 + 1]? = some o3 := by have := heap_alloc_new ((w.alloc o1).alloc o2) o3; simpa using this
  exact ⟨((bel_two (w.alloc o1) o2 o3).block _ (lt_of_block h1)).trans h1, ((bel_one _ o3).block _ (lt_of_block h2)).trans h2, h3, bel_alloc (bel_two _ _ _) _⟩
theorem heap_up {w : World} {o : Obj} {k : Nat} {x : Obj} (h : w.heap[k]? = some x) : (w.alloc o).heap[k]? = some x := ((bel_one w o).block _ (lt_of_block h)).trans h
theorem heap_top (w : World) (o : Obj) (n : Nat) (hn : w.heap.size = n) : (w.alloc o).heap[n]? = some o := by subst hn; exact heap_alloc_new _ _
theorem box5 {w : World} {B : Nat} {x0 x1 x2 x3 x4 : Value} {t : TypeId} {fr : Nat × Nat} (h : w.heap[B]? = some (.cells #[x0, x1, x2, x3, x4] t fr)) : w.cell? ⟨B, 0, none⟩ = some x0 ∧ w.cell? ⟨B, 1, none⟩ = some x1 ∧ w.cell? ⟨B, 2, none⟩ = some x2 ∧ w.cell? ⟨B, 3, none⟩ = some x3 ∧ w.cell? ⟨B, 4, none⟩ = some x4 := by
  simp [World.cell?, h]
theorem made_bool (n : Nat) : madeCells #[Value.bool false] n = ((List.replicate n false).map Value.bool).toArray := by
  apply Array.ext
  · simp [madeCells]
  · intro i h1 h2
    simp [madeCells, Nat.mod_one]
theorem A_info_bool : (Try.prog.info? 4).map (fun i => (i.zero, i.size, i.bytes)) = some (some (.bool false), 1, 1) := by kernel_rfl

/-- A slice that reads as bools. -/
def Bools (w : World) (v : Value) (xs : List Bool) : Prop :=
  ∃ A c, v = .slice A xs.length c ∧ xs.length ≤ 9223372036854775807 ∧ (0 < xs.length → ∃ ad, A = some ad ∧ ∀ j, j < xs.length → w.cell? (ad.add j) = some (.bool (xs.getD j false)))
theorem Bools.nil (w : World) : Bools w (.slice none 0 0) [] := ⟨none, 0, rfl, by simp, by simp⟩
theorem Bools.kept {S : Nat → Prop} {w w' : World} {v : Value} {xs : List Bool} (h : Bools w v xs) (hk : Kept S w w') (hv : ∀ b, v.ownBlock = some b → ¬ S b) : Bools w' v xs := by
  obtain ⟨A, c, rfl, hm, h⟩ := h
  refine ⟨A, c, rfl, hm, fun hp => ?_⟩
  obtain ⟨ad, rfl, hc⟩ := h hp
  refine ⟨ad, rfl, fun j hj => hk.cell (hc j hj) ?_⟩
  have : (ad.add j).block = ad.block := by unfold Addr.add; split <;> rfl
  rw [this]
  exact hv _ rfl
theorem Bools.below {w w' : World} {v : Value} {xs : List Bool} (h : Bools w v xs) (k : Below w.heap.size w w') : Bools w' v xs := h.kept (S := fun _ => False) (Kept.of_below k) (fun _ _ => id)
def rowB (l : List Bool) : Obj := .cells (l.map Value.bool).toArray 4 (0, 0)
theorem rowB_bools {w : World} {B : Nat} {l : List Bool} (h : w.heap[B]? = some (rowB l)) (hl : l.length ≤ 9223372036854775807) (c : Nat) : Bools w (.slice (some ⟨B, 0, none⟩) l.length c) l := by
  refine ⟨_, c, rfl, hl, fun hp => ⟨_, rfl, fun j hj => ?_⟩⟩
  rw [Addr.add_lit, Nat.zero_add]
  simp [World.cell?, h, rowB, List.getElem?_map, List.getElem?_eq_getElem hj, List.getD_eq_getElem?_getD]
theorem rowB_cell {w : World} {B : Nat} {l : List Bool} (h : w.heap[B]? = some (rowB l)) (j : Nat) (hj : j < l.length) : w.cell? ⟨B, j, none⟩ = some (.bool (l.getD j false)) := by
  simp [World.cell?, h, rowB, List.getElem?_map, List.getElem?_eq_getElem hj, List.getD_eq_getElem?_getD]
theorem rowB_free {w : World} {B : Nat} {l : List Bool} (h : w.heap[B]? = some (rowB l)) (j : Nat) : w.frozen? ⟨B, j, none⟩ = false := by simp [World.frozen?, h, rowB]
theorem rowB_set {w : World} {B : Nat} {l : List Bool} (h : w.heap[B]? = some (rowB l)) (j : Nat) (b : Bool) : (w.setCell ⟨B, j, none⟩ (.bool b)).heap[B]? = some (rowB (l.set j b)) := by
  have := heap_setCell_at (off := j) h (.bool b)
  rw [this, rowB]
  simp [List.map_set]
theorem madeB (n : Nat) : madeCells #[Value.bool false] n = Array.replicate n (Value.bool false) := by rw [made_bool]; simp
theorem rowB_rep (n : Nat) : rowB (List.replicate n false) = .cells (Array.replicate n (Value.bool false)) 4 (0, 0) := by simp [rowB]
theorem make_bools (n : Nat) (hn : n ≤ 65535) (W : World) : (Instr.makeSlice 31 (.int .i64 (n : Int)) (.int .i64 (n : Int))).run Try.prog W = .ok (.slice (some ⟨W.heap.size, 0, none⟩) n n) (W.alloc (.cells (Array.replicate n (Value.bool false)) 4)) := by
  rw [← madeB]
  exact run_make_row' 31 4 (.bool false) 1 Try.underlying31 A_info_bool rfl .i64 .i64 n (by omega) (by omega) W
end Go.Proofs.Ytflkfjjfhhapkaa
