/- A copy's cells, one after another changed: what stays as it is. -/
import Derived.Test.YtbphlapdhcgikaaDoorLxC
import Derived.Test.YtbphlapdhcgikaaDoorCpy4
namespace Go.Proofs.YtbphlapdhcgikaaDoor
open Go.RowKit
set_option linter.unusedVariables false
set_option linter.unusedSimpArgs false

/-- The same, but for a number's value. -/
def Sim (v v' : Value) : Prop := v' = v ∨ ∃ k n n', v = .int k n ∧ v' = .int k n'
/-- A cell of a block that can be written. -/
structure CellW (lo : Nat) (W : World) (g o : Nat) (v : Value) : Prop where
  blk : ∃ cur t, W.heap[g]? = some (.cells cur t (0, 0))
  cell : W.cell? ⟨g, o, none⟩ = some v
  lo : lo ≤ g
/-- Cells of a copy were changed, no other ones. -/
structure Own (lo : Nat) (X wc w' : World) : Prop where
  kept : Kept (fun k => lo ≤ k ∧ k < X.heap.size) wc w'
  sim : ∀ (k : Nat) cs t fr, lo ≤ k → X.heap[k]? = some (.cells cs t fr) → ∃ cs', w'.heap[k]? = some (.cells cs' t fr) ∧ cs'.size = cs.size ∧ ∀ (j : Nat) v, cs[j]? = some v → ∃ v', cs'[j]? = some v' ∧ Sim v v'
theorem Own.start {lo : Nat} {X wc : World} (h : ∀ k, lo ≤ k → k < X.heap.size → wc.heap[k]? = X.heap[k]?) : Own lo X wc wc :=
  ⟨Kept.refl _ _, fun k cs t fr hl hk => ⟨cs, (h k hl (lt_of_block hk)).trans hk, rfl, fun j v hv => ⟨v, hv, .inl rfl⟩⟩⟩
theorem Own.cell {lo : Nat} {X wc w' : World} (h : Own lo X wc w') {g o : Nat} {v : Value} (a : CellW lo X g o v) : (∃ v', w'.cell? ⟨g, o, none⟩ = some v' ∧ Sim v v') ∧ w'.frozen? ⟨g, o, none⟩ = false ∧ g < X.heap.size := by
  obtain ⟨cs, t, hb⟩ := a.blk
  obtain ⟨cs', h1, h2, h3⟩ := h.sim g cs t _ a.lo hb
  have hc := a.cell
  rw [cell_of_row _ _ _ _ _ _ hb] at hc
  obtain ⟨v', h4, h5⟩ := h3 o v hc
  refine ⟨⟨v', by rw [cell_of_row _ _ _ _ _ _ h1]; exact h4, h5⟩, by simp [World.frozen?, h1], lt_of_block hb⟩
theorem Own.sl {lo : Nat} {X wc w' : World} (h : Own lo X wc w') {g o n c : Nat} {A : Option Addr} (a : CellW lo X g o (.slice A n c)) : w'.cell? ⟨g, o, none⟩ = some (.slice A n c) := by
  obtain ⟨⟨v', h1, h2⟩, _⟩ := h.cell a
  rcases h2 with rfl | ⟨k, n, n', h2, _⟩
  · exact h1
  · cases h2
theorem Own.nt {lo : Nat} {X wc w' : World} (h : Own lo X wc w') {g o : Nat} {k : IntKind} {n : Int} (a : CellW lo X g o (.int k n)) : ∃ n', w'.cell? ⟨g, o, none⟩ = some (.int k n') ∧ w'.frozen? ⟨g, o, none⟩ = false := by
  obtain ⟨⟨v', h1, h2⟩, h3, _⟩ := h.cell a
  rcases h2 with rfl | ⟨k', n1, n', h2, rfl⟩
  · exact ⟨n, h1, h3⟩
  · cases h2; exact ⟨n', h1, h3⟩
theorem Own.set {lo : Nat} {X wc w' : World} (h : Own lo X wc w') {g o : Nat} {k : IntKind} {n : Int} (a : CellW lo X g o (.int k n)) (m : Int) : Own lo X wc (w'.setCell ⟨g, o, none⟩ (.int k m)) := by
  obtain ⟨_, _, hg⟩ := h.cell a
  refine ⟨h.kept.setCell (p := ⟨g, o, none⟩) (.inl ⟨a.lo, hg⟩) _, fun j cs t fr hl hj => ?_⟩
  obtain ⟨cs', h1, h2, h3⟩ := h.sim j cs t fr hl hj
  by_cases e : j = g
  · subst e
    refine ⟨_, heap_setCell_at h1 _, by simp [h2], fun i v hv => ?_⟩
    obtain ⟨v', h4, h5⟩ := h3 i v hv
    by_cases ei : i = o
    · subst ei
      have hc := a.cell
      rw [cell_of_row _ _ _ _ _ _ hj, hv] at hc
      injection hc with hc
      subst hc
      have hi : i < cs'.size := (Array.getElem?_eq_some_iff.1 h4).1
      exact ⟨.int k m, by rw [Array.getElem?_setIfInBounds]; simp [hi], .inr ⟨k, n, m, rfl, rfl⟩⟩
    · exact ⟨v', by rw [Array.getElem?_setIfInBounds_ne (fun q => ei q.symm)]; exact h4, h5⟩
  · exact ⟨cs', (Below.heap_setCell w' ⟨g, o, none⟩ _ j e).trans h1, h2, h3⟩
theorem add_zero_addr (g i : Nat) : (⟨g, 0, none⟩ : Addr).add i = ⟨g, i, none⟩ := by unfold Addr.add; split <;> simp_all
/-- All cells of a plan that can be written. -/
structure Wr (lo : Nat) (X : World) (P : Plan) (a0 a1 a2 a3 : Option Addr) : Prop where
  cores : ∀ (i : Nat) L, (Plan.cores P)[i]? = some L → ∃ G A c, a0 = some ⟨G, 0, none⟩ ∧ CellW lo X G i (.slice A L.length c) ∧ ∀ (k : Nat) x, L[k]? = some x → ∃ g n, A = some ⟨g, 0, none⟩ ∧ CellW lo X g (k * 4) (.int .u16 n)
  parts : ∀ (i : Nat) x, (Plan.parts P)[i]? = some x → ∃ G A c B d n, a1 = some ⟨G, 0, none⟩ ∧ CellW lo X G (i * 6) (.slice A (PartR.sems x).length c) ∧ CellW lo X G (i * 6 + 1) (.int .u8 n) ∧ CellW lo X G (i * 6 + 2) (.slice B (PartR.procs x).length d) ∧
    (∀ (k : Nat) y, (PartR.sems x)[k]? = some y → ∃ g m, A = some ⟨g, 0, none⟩ ∧ CellW lo X g (k * 2 + 1) (.int .u8 m)) ∧ (∀ (k : Nat) y, (PartR.procs x)[k]? = some y → ∃ g m, B = some ⟨g, 0, none⟩ ∧ CellW lo X g k (.int .u8 m))
  chans : ∀ (i : Nat) x, (Plan.chans P)[i]? = some x → ∃ g n, a2 = some ⟨g, 0, none⟩ ∧ CellW lo X g (i * 6 + 5) (.int .u16 n)
  pairs : ∀ (i : Nat) x, (Plan.pairs P)[i]? = some x → ∃ g n, a3 = some ⟨g, 0, none⟩ ∧ CellW lo X g (i * 2) (.int .u8 n)
theorem ne_of {α : Type} {L : List α} {i : Nat} {x : α} (h : L[i]? = some x) : L ≠ [] := fun e => by rw [e] at h; simp at h
theorem cell_plus (w : World) (a : Addr) (i j : Nat) (hj : 0 < j) {v : Value} (h : w.cell? ⟨(a.add i).block, (a.add i).off + j, none⟩ = some v) : w.cell? (a.add (i + j)) = some v := by
  rw [← cell_add _ _ _ _ hj]; exact h
theorem Wr.of {w X : World} {P : Plan} {a0 a1 a2 a3 : Option Addr} {n0 c0 n1 c1 n2 c2 n3 c3 : Nat} (h : PlanAt X (.slice a0 n0 c0) (.slice a1 n1 c1) (.slice a2 n2 c2) (.slice a3 n3 c3) P) (f : C4.UfP w.heap.size X P (.slice a0 n0 c0) (.slice a1 n1 c1) (.slice a2 n2 c2) (.slice a3 n3 c3)) :
    Wr w.heap.size X P a0 a1 a2 a3 := by
  refine ⟨fun i L hi => ?_, fun i x hi => ?_, fun i x hi => ?_, fun i x hi => ?_⟩
  · obtain ⟨ad, v, e0, hc, hw⟩ := h.cores.at_ i L hi
    obtain ⟨G, n, c, cur, t, e1, h1, h2⟩ := f.row (ne_of hi)
    cases e1
    cases e0
    obtain ⟨A, cap, rfl, _⟩ := hw.len
    refine ⟨G, A, cap, rfl, ⟨⟨_, _, h2⟩, by rw [← add_zero_addr]; exact hc, h1⟩, fun k x hk => ?_⟩
    obtain ⟨g, n', c', cur', t', e2, h3, h4⟩ := f.cores i L _ _ _ _ hi (ne_of hk) rfl hc
    cases e2
    obtain ⟨ad, e3, q1, _⟩ := hw.at_ k x hk
    cases e3
    exact ⟨g, _, rfl, ⟨⟨_, _, h4⟩, by rw [← add_zero_addr]; exact q1, h3⟩⟩
  · obtain ⟨ad, sv, pv, e0, q0, q1, q2, _, _, _, hp⟩ := Parts.at_ h.parts i x hi
    obtain ⟨G, n, c, cur, t, e1, h1, h2⟩ := f.parts (ne_of hi)
    cases e1
    cases e0
    obtain ⟨A, ca, rfl, _⟩ := Elems.len hp.sems
    obtain ⟨B, cb, rfl, _⟩ := Elems.len hp.procs
    refine ⟨G, A, ca, B, cb, _, rfl, ⟨⟨_, _, h2⟩, by rw [← add_zero_addr]; exact q0, h1⟩, ⟨⟨_, _, h2⟩, by rw [← add_zero_addr]; exact cell_plus _ _ _ _ (by omega) q1, h1⟩, ⟨⟨_, _, h2⟩, by rw [← add_zero_addr]; exact cell_plus _ _ _ _ (by omega) q2, h1⟩, fun k y hk => ?_, fun k y hk => ?_⟩
    · obtain ⟨g, n', c', cur', t', e2, h3, h4⟩ := f.sems i x _ _ _ _ hi (ne_of hk) rfl q0
      cases e2
      obtain ⟨ad, e3, _, r1, _⟩ := Sems.at_ hp.sems k y hk
      cases e3
      exact ⟨g, _, rfl, ⟨⟨_, _, h4⟩, by rw [← add_zero_addr]; exact cell_plus _ _ _ _ (by omega) r1, h3⟩⟩
    · obtain ⟨g, n', c', cur', t', e2, h3, h4⟩ := f.procs i x _ _ _ _ hi (ne_of hk) rfl q2
      cases e2
      obtain ⟨ad, e3, r1, _⟩ := Bytes8.at_ hp.procs k y hk
      cases e3
      exact ⟨g, _, rfl, ⟨⟨_, _, h4⟩, by rw [← add_zero_addr]; exact r1, h3⟩⟩
  · obtain ⟨ad, e0, _, _, _, _, _, q5, _⟩ := Chans.at_ h.chans i x hi
    obtain ⟨G, n, c, cur, t, e1, h1, h2⟩ := f.chans (ne_of hi)
    cases e1
    cases e0
    exact ⟨G, _, rfl, ⟨⟨_, _, h2⟩, by rw [← add_zero_addr]; exact cell_plus _ _ _ _ (by omega) q5, h1⟩⟩
  · obtain ⟨ad, e0, q0, _⟩ := Pairs.at_ h.pairs i x hi
    obtain ⟨G, n, c, cur, t, e1, h1, h2⟩ := f.pairs (ne_of hi)
    cases e1
    cases e0
    exact ⟨G, _, rfl, ⟨⟨_, _, h2⟩, by rw [← add_zero_addr]; exact q0, h1⟩⟩
/-- A copy stays as it is while no block of its own is changed. -/
theorem copy_keeps {w w' : World} {P : Plan} {vc vp vh vq : Value} (h : C4.CopyR w w' P vc vp vh vq) (W : World) (k : Kept (fun k => k < w.heap.size) w' W) : PlanAt W vc vp vh vq P := by
  obtain ⟨h1, h2, h3⟩ := h.stab W ⟨k.os, k.tape, k.output, k.size, fun j hj hn => k.block j hj (fun e => hn (.inr e))⟩
  refine ⟨h.at_.frame, h1, h2, ?_, h3⟩
  have hc := h.at_.chans
  rcases h.own with e | o
  · rw [e] at hc ⊢; exact elems_nil hc
  · exact elems_same (w := w') (fun _ _ q => q) hc (fun b q => k.block b (own_lt o b q) (by have := own_base o b q; omega))
/-- The world behind two copies. -/
structure OwSt (w2 : World) (P : Plan) (lo : Nat) (X : World) (T U : Nat) (vb : Value) (a0 a1 a2 a3 : Option Addr) (wc : World) : Prop where
  bl : w2.heap.size ≤ lo
  bc : Below w2.heap.size w2 wc
  xk : ∀ k, lo ≤ k → k < X.heap.size → wc.heap[k]? = X.heap[k]?
  xs : X.heap.size ≤ wc.heap.size
  wr : Wr lo X P a0 a1 a2 a3
  tx : T < lo ∨ X.heap.size ≤ T
  ux : U < lo ∨ X.heap.size ≤ U
  keep : ∀ W', Kept (fun k => lo ≤ k ∧ k < X.heap.size) wc W' → PlanV W' vb P
theorem OwSt.of {w2 W0 x1 W1 x2 wc : World} {P : Plan} {T U : Nat} {a0 a1 a2 a3 b0 b1 b2 b3 : Option Addr} {n0 c0 n1 c1 n2 c2 n3 c3 m0 d0 m1 d1 m2 d2 m3 d3 : Nat}
    (hc : C4.CopyR W0 x1 P (.slice a0 n0 c0) (.slice a1 n1 c1) (.slice a2 n2 c2) (.slice a3 n3 c3)) (hd : C4.CopyR W1 x2 P (.slice b0 m0 d0) (.slice b1 m1 d1) (.slice b2 m2 d2) (.slice b3 m3 d3)) (h0 : Below w2.heap.size w2 W0) (h1 : Below x1.heap.size x1 W1)
    (k : Kept (fun j => j = T ∨ j = U) x2 wc) (hT : T < W0.heap.size ∨ (x1.heap.size ≤ T ∧ (T < W1.heap.size ∨ x2.heap.size ≤ T))) (hU : U < W0.heap.size ∨ (x1.heap.size ≤ U ∧ (U < W1.heap.size ∨ x2.heap.size ≤ U))) (hT0 : w2.heap.size ≤ T) (hU0 : w2.heap.size ≤ U) :
    OwSt w2 P W0.heap.size x1 T U (.agg #[.int .u16 (Plan.frame P), .slice b0 m0 d0, .slice b1 m1 d1, .slice b2 m2 d2, .slice b3 m3 d3]) a0 a1 a2 a3 wc := by
  have s0 := h0.size
  have s1 := hc.below.size
  have s2 := h1.size
  have s3 := hd.below.size
  have s4 := k.size
  have hxx : Below x1.heap.size x1 x2 := bel_then h1 hd.below
  refine ⟨s0, ?_, fun j hj hl => ?_, by omega, Wr.of hc.at_ hc.uf, by omega, by omega, fun W' hk => ?_⟩
  · have h2 : Below w2.heap.size w2 x2 := bel_then (bel_then h0 hc.below) hxx
    exact h2.trans (k.below h2.size (fun j e => by omega))
  · exact (k.block j (by omega) (by omega)).trans (hxx.block j hl)
  · refine ⟨_, _, _, _, _, _, _, _, _, _, _, _, rfl, copy_keeps hd W' ?_⟩
    have k' : Kept (fun j => j < W1.heap.size) x2 wc := ⟨k.os, k.tape, k.output, k.size, fun j hj hn => k.block j hj (by omega)⟩
    exact k'.then_ hk (fun j hj => .inl (by omega))
theorem kept_two {x : World} {a b : Obj} {S : Nat → Prop} : Kept S x ((x.alloc a).alloc b) := Kept.of_below (bel_then (bel_one _ _) (bel_one _ _))
theorem set5_size (a : World) (Z : Nat) (v0 v1 v2 v3 v4 : Value) : (((((a.setCell ⟨Z, 0, none⟩ v0).setCell ⟨Z, 1, none⟩ v1).setCell ⟨Z, 2, none⟩ v2).setCell ⟨Z, 3, none⟩ v3).setCell ⟨Z, 4, none⟩ v4).heap.size = a.heap.size := by simp [World.setCell]
theorem kept_s1 {a : World} {Z : Nat} {v0 v1 v2 v3 v4 : Value} {S : Nat → Prop} (h : S Z) : Kept S a (((((a.setCell ⟨Z, 0, none⟩ v0).setCell ⟨Z, 1, none⟩ v1).setCell ⟨Z, 2, none⟩ v2).setCell ⟨Z, 3, none⟩ v3).setCell ⟨Z, 4, none⟩ v4) := by
  have k := set5_kept a Z v0 v1 v2 v3 v4
  exact ⟨k.os, k.tape, k.output, k.size, fun j hj hn => k.block j hj (fun e => hn (by rw [e]; exact h))⟩
theorem kept_s1a {a : World} {Z : Nat} {v0 v1 v2 v3 v4 : Value} {S : Nat → Prop} {o : Obj} (h : S Z) : Kept S a ((((((a.setCell ⟨Z, 0, none⟩ v0).setCell ⟨Z, 1, none⟩ v1).setCell ⟨Z, 2, none⟩ v2).setCell ⟨Z, 3, none⟩ v3).setCell ⟨Z, 4, none⟩ v4).alloc o) :=
  (kept_s1 h).trans (Kept.of_below (bel_one _ _))
theorem kept_s2 {a : World} {Z Y : Nat} {v0 v1 v2 v3 v4 u0 u1 u2 u3 u4 : Value} {S : Nat → Prop} (h : S Z) (k : S Y) : Kept S a ((((((((((a.setCell ⟨Z, 0, none⟩ v0).setCell ⟨Z, 1, none⟩ v1).setCell ⟨Z, 2, none⟩ v2).setCell ⟨Z, 3, none⟩ v3).setCell ⟨Z, 4, none⟩ v4).setCell ⟨Y, 0, none⟩ u0).setCell ⟨Y, 1, none⟩ u1).setCell ⟨Y, 2, none⟩ u2).setCell ⟨Y, 3, none⟩ u3).setCell ⟨Y, 4, none⟩ u4) :=
  (kept_s1 h).trans (kept_s1 k)
theorem box_new {w : World} {o : Obj} {n : Nat} (h : n = w.heap.size) : (w.alloc o).heap[n]? = some o := by subst h; exact heap_alloc_new _ _
theorem box_s5 {a : World} {o : Obj} {Z : Nat} {v0 v1 v2 v3 v4 : Value} : ((((((a.setCell ⟨Z, 0, none⟩ v0).setCell ⟨Z, 1, none⟩ v1).setCell ⟨Z, 2, none⟩ v2).setCell ⟨Z, 3, none⟩ v3).setCell ⟨Z, 4, none⟩ v4).alloc o).heap[a.heap.size]? = some o := box_new (set5_size a Z v0 v1 v2 v3 v4).symm
theorem box_a0 {a : World} {o p : Obj} : ((a.alloc o).alloc p).heap[a.heap.size]? = some o := heap_up (heap_alloc_new _ _)
theorem box_a1 {a : World} {o p : Obj} : ((a.alloc p).alloc o).heap[a.heap.size + 1]? = some o := box_new (by simp)
/-- An object at its place. -/
def HeapAt (w : World) (k : Nat) (o : Obj) : Prop := w.heap[k]? = some o
theorem shapeA {a : World} {v0 v1 v2 v3 v4 u0 u1 u2 u3 u4 : Value} {t : TypeId} : HeapAt ((a.alloc (.cells #[v0, v1, v2, v3, v4] t)).alloc (.cells #[u0, u1, u2, u3, u4] t)) a.heap.size (.cells #[v0, v1, v2, v3, v4] t (0, 0)) ∧ HeapAt ((a.alloc (.cells #[v0, v1, v2, v3, v4] t)).alloc (.cells #[u0, u1, u2, u3, u4] t)) (a.heap.size + 1) (.cells #[u0, u1, u2, u3, u4] t (0, 0)) := ⟨box_a0, box_a1⟩
theorem shapeB {a : World} {v0 v1 v2 v3 v4 u0 u1 u2 u3 u4 : Value} {t : TypeId} : HeapAt ((a.alloc (.cells #[u0, u1, u2, u3, u4] t)).alloc (.cells #[v0, v1, v2, v3, v4] t)) (a.heap.size + 1) (.cells #[v0, v1, v2, v3, v4] t (0, 0)) ∧ HeapAt ((a.alloc (.cells #[u0, u1, u2, u3, u4] t)).alloc (.cells #[v0, v1, v2, v3, v4] t)) a.heap.size (.cells #[u0, u1, u2, u3, u4] t (0, 0)) := ⟨box_a1, box_a0⟩
theorem shapeC {a : World} {Z : Nat} {v0 v1 v2 v3 v4 u0 u1 u2 u3 u4 x0 x1 x2 x3 x4 : Value} {t : TypeId} (hz : HeapAt a Z (.cells #[x0, x1, x2, x3, x4] t (0, 0))) : HeapAt ((((((a.setCell ⟨Z, 0, none⟩ v0).setCell ⟨Z, 1, none⟩ v1).setCell ⟨Z, 2, none⟩ v2).setCell ⟨Z, 3, none⟩ v3).setCell ⟨Z, 4, none⟩ v4).alloc (.cells #[u0, u1, u2, u3, u4] t)) Z (.cells #[v0, v1, v2, v3, v4] t (0, 0)) ∧ HeapAt ((((((a.setCell ⟨Z, 0, none⟩ v0).setCell ⟨Z, 1, none⟩ v1).setCell ⟨Z, 2, none⟩ v2).setCell ⟨Z, 3, none⟩ v3).setCell ⟨Z, 4, none⟩ v4).alloc (.cells #[u0, u1, u2, u3, u4] t)) a.heap.size (.cells #[u0, u1, u2, u3, u4] t (0, 0)) := ⟨heap_up (set5_at hz), box_s5⟩
theorem shapeD {a : World} {Z : Nat} {v0 v1 v2 v3 v4 u0 u1 u2 u3 u4 x0 x1 x2 x3 x4 : Value} {t : TypeId} (hz : HeapAt a Z (.cells #[x0, x1, x2, x3, x4] t (0, 0))) : HeapAt ((((((a.setCell ⟨Z, 0, none⟩ u0).setCell ⟨Z, 1, none⟩ u1).setCell ⟨Z, 2, none⟩ u2).setCell ⟨Z, 3, none⟩ u3).setCell ⟨Z, 4, none⟩ u4).alloc (.cells #[v0, v1, v2, v3, v4] t)) a.heap.size (.cells #[v0, v1, v2, v3, v4] t (0, 0)) ∧ HeapAt ((((((a.setCell ⟨Z, 0, none⟩ u0).setCell ⟨Z, 1, none⟩ u1).setCell ⟨Z, 2, none⟩ u2).setCell ⟨Z, 3, none⟩ u3).setCell ⟨Z, 4, none⟩ u4).alloc (.cells #[v0, v1, v2, v3, v4] t)) Z (.cells #[u0, u1, u2, u3, u4] t (0, 0)) := ⟨box_s5, heap_up (set5_at hz)⟩
theorem shapeE {a : World} {Z Y : Nat} {v0 v1 v2 v3 v4 u0 u1 u2 u3 u4 x0 x1 x2 x3 x4 y0 y1 y2 y3 y4 : Value} {t : TypeId} (hz : HeapAt a Z (.cells #[x0, x1, x2, x3, x4] t (0, 0))) (hy : HeapAt a Y (.cells #[y0, y1, y2, y3, y4] t (0, 0))) (hne : Z ≠ Y) : HeapAt (((((((((((a.setCell ⟨Z, 0, none⟩ v0).setCell ⟨Z, 1, none⟩ v1).setCell ⟨Z, 2, none⟩ v2).setCell ⟨Z, 3, none⟩ v3).setCell ⟨Z, 4, none⟩ v4).setCell ⟨Y, 0, none⟩ u0).setCell ⟨Y, 1, none⟩ u1).setCell ⟨Y, 2, none⟩ u2).setCell ⟨Y, 3, none⟩ u3).setCell ⟨Y, 4, none⟩ u4)) Z (.cells #[v0, v1, v2, v3, v4] t (0, 0)) ∧ HeapAt (((((((((((a.setCell ⟨Z, 0, none⟩ v0).setCell ⟨Z, 1, none⟩ v1).setCell ⟨Z, 2, none⟩ v2).setCell ⟨Z, 3, none⟩ v3).setCell ⟨Z, 4, none⟩ v4).setCell ⟨Y, 0, none⟩ u0).setCell ⟨Y, 1, none⟩ u1).setCell ⟨Y, 2, none⟩ u2).setCell ⟨Y, 3, none⟩ u3).setCell ⟨Y, 4, none⟩ u4)) Y (.cells #[u0, u1, u2, u3, u4] t (0, 0)) :=
  ⟨set5_other (set5_at hz) hne, set5_at (set5_other hy (fun e => hne e.symm))⟩
end Go.Proofs.YtbphlapdhcgikaaDoor
