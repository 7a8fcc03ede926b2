/- Layer 4's laws: rows that are appended, and changed. -/
import Derived.Test.YtpcjjmjmigibhaaDoorLwG
import Derived.Test.YtpcjjmjmigibhaaDoorLessP
import Derived.Deep.OwnRows
import Derived.Deep.RegionHeld3
import Derived.Deep.RegionLaw
namespace Go.Proofs.YtpcjjmjmigibhaaDoor
open Go.RowKit
set_option linter.unusedVariables false
set_option linter.unusedSimpArgs false

theorem own_kept {S : Nat → Prop} {w w' : World} {base n size : Nat} {e : TypeId} {v : Value} {xs : List Value} (h : w.ownsRow base e size v n xs) (k : Kept S w w') (hv : ∀ r, v.ownBlock = some r → ¬ S r) : w'.ownsRow base e size v n xs := by
  refine ⟨h.1, ?_⟩
  rcases h.2 with h0 | ⟨g, cap, cur, rfl, h1, h2, h3⟩
  · exact .inl h0
  · exact .inr ⟨g, cap, cur, rfl, h1, k.heap h2 (hv g rfl), h3⟩
theorem own_below {w w' : World} {base n size : Nat} {e : TypeId} {v : Value} {xs : List Value} (h : w.ownsRow base e size v n xs) (k : Below w.heap.size w w') : w'.ownsRow base e size v n xs := own_kept (S := fun _ => False) h (Kept.of_below k) (fun _ _ => id)
section
variable {P : Program} {ops : Array Oper} {rest : List Oper} {o : Oper} {a : Act} {Q : Exit → Act → World → Prop}
theorem run_append_rows {W : World} (base : Nat) (t e ty : TypeId) (z : Value) (size bytes : Nat)
    (ht : P.underlying t = some (.slice e)) (hinfo : (P.info? e).map (fun i => (i.zero, i.size, i.bytes)) = some (some z, size, bytes)) (hz : z.cells.size = size) (hs0 : 0 < size) (hb0 : 0 < bytes)
    (v : Value) (n : Nat) (xs news : List Value) (A : Option Addr) (m c : Nat)
    (HO : W.ownsRow base e size v n xs) (hl : news.length = m * size) (hnews : 0 < m → ∃ ad, A = some ad ∧ ∀ j u, news[j]? = some u → W.cell? (ad.add j) = some u) (h1 : ∀ u ∈ news, u.oneCell' = true)
    (hbase : base ≤ W.heap.size) (hbytes : (n + m) * bytes ≤ 140737488355328) :
    ∃ v1 w1, (Builtin.append_ #[t, t] ty #[v, .slice A m c]).run P W = .ok v1 w1 ∧ w1.ownsRow base e size v1 (n + m) (xs ++ news) ∧ W.grownBy w1 v.ownBlock ∧ (v1.ownBlock = v.ownBlock ∨ v1.ownBlock = some W.heap.size) := by
  obtain ⟨i0, hi, hz0, hz1, hz2⟩ := info_parts hinfo
  have hlen : n + m ≤ 140737488355328 := Nat.le_trans (Nat.le_mul_of_pos_right _ hb0) hbytes
  rcases A with _ | ad
  · have h0 : m = 0 := by
      rcases Nat.eq_zero_or_pos m with h0 | h0
      · exact h0
      · obtain ⟨ad, h, _⟩ := hnews h0
        cases h
    subst h0
    obtain rfl : news = [] := List.eq_nil_of_length_eq_zero (by simpa using hl)
    refine ⟨v, W, ?_, by simpa using HO, World.grownBy.refl W _, .inl rfl⟩
    rcases HO.2 with ⟨rfl, hn⟩ | ⟨g, cap, cur, rfl, _, _, hnc, _⟩
    · simp [Builtin.append_, run_underlying ht, sizeOf, typeInfo, hi, Builtin.lenOf, Builtin.firstCells]
    · simp [Builtin.append_, run_underlying ht, sizeOf, typeInfo, hi, Builtin.lenOf, Builtin.firstCells, hnc, storeCells]
  · rcases Nat.eq_zero_or_pos m with h0 | h0
    · subst h0
      obtain rfl : news = [] := List.eq_nil_of_length_eq_zero (by simpa using hl)
      obtain ⟨v1, w1, hr, h2, h3, _, h5⟩ := run_append_own_at (P := P) W base t ty e i0 z size bytes ht hi hz0 hz1 hz2 hz hs0 v n xs HO ad 0 c [] (by simp) (by simp) (by simp) (by simp only [maxLen]; omega) hbytes hbase
      exact ⟨v1, w1, hr, h2, h3, h5⟩
    · obtain ⟨ad', h', hc⟩ := hnews h0
      injection h' with h'
      subst h'
      obtain ⟨v1, w1, hr, h2, h3, _, h5⟩ := run_append_own_at (P := P) W base t ty e i0 z size bytes ht hi hz0 hz1 hz2 hz hs0 v n xs HO ad m c news hl hc h1 (by simp only [maxLen]; omega) hbytes hbase
      exact ⟨v1, w1, hr, h2, h3, h5⟩
/-- append(v, ys...), ys a slice that is read, nil let in. -/
theorem append_rows {W : World} (base : Nat) (hgd : o.guard = none) (s x : Operand) (t e : TypeId) (z : Value) (size bytes : Nat)
    (ho : o.op = .call { callee := .builtin .append, args := #[s, x], argTypes := #[t, t] })
    (ht : P.underlying t = some (.slice e)) (hinfo : (P.info? e).map (fun i => (i.zero, i.size, i.bytes)) = some (some z, size, bytes)) (hz : z.cells.size = size) (hs0 : 0 < size) (hb0 : 0 < bytes)
    (v : Value) (n : Nat) (xs news : List Value) (A : Option Addr) (m c : Nat) (hs : a.eval s = v) (hx : a.eval x = .slice A m c)
    (HO : W.ownsRow base e size v n xs) (hl : news.length = m * size) (hnews : 0 < m → ∃ ad, A = some ad ∧ ∀ j u, news[j]? = some u → W.cell? (ad.add j) = some u) (h1 : ∀ u ∈ news, u.oneCell' = true)
    (hbase : base ≤ W.heap.size) (hbytes : (n + m) * bytes ≤ 140737488355328)
    (h : ∀ v1 w1, w1.ownsRow base e size v1 (n + m) (xs ++ news) → W.grownBy w1 v.ownBlock → (v1.ownBlock = v.ownBlock ∨ v1.ownBlock = some W.heap.size) → wpList P ops Q rest (a.put o.dst v1) w1) :
    wpList P ops Q (o :: rest) a W := by
  obtain ⟨v1, w1, hr, hown, hg, hat⟩ := run_append_rows (P := P) (W := W) base t e o.type z size bytes ht hinfo hz hs0 hb0 v n xs news A m c HO hl hnews h1 hbase hbytes
  refine wpList_plain hgd fun K hK => ?_
  unfold Oper.wp execOp
  simp only [ho, resolve, invoke, builtin, Sem.run_bind, Sem.run_pure, Result.andThen_ok, List.map_toArray, List.map_cons, List.map_nil, hs, hx, hr]
  exact hK _ _ (h v1 w1 hown hg hat)
/-- The same in a region that draws its order. -/
theorem step_append_rows {E : Prop} {K : Act → World → Prop} {W : World} (base : Nat) (hgd : o.guard = none) (s x : Operand) (t e : TypeId) (z : Value) (size bytes : Nat)
    (ho : o.op = .call { callee := .builtin .append, args := #[s, x], argTypes := #[t, t] })
    (ht : P.underlying t = some (.slice e)) (hinfo : (P.info? e).map (fun i => (i.zero, i.size, i.bytes)) = some (some z, size, bytes)) (hz : z.cells.size = size) (hs0 : 0 < size) (hb0 : 0 < bytes)
    (v : Value) (n : Nat) (xs news : List Value) (A : Option Addr) (m c : Nat) (hs : a.eval s = v) (hx : a.eval x = .slice A m c)
    (HO : W.ownsRow base e size v n xs) (hl : news.length = m * size) (hnews : 0 < m → ∃ ad, A = some ad ∧ ∀ j u, news[j]? = some u → W.cell? (ad.add j) = some u) (h1 : ∀ u ∈ news, u.oneCell' = true)
    (hbase : base ≤ W.heap.size) (hbytes : (n + m) * bytes ≤ 140737488355328)
    (h : ∀ v1 w1, w1.ownsRow base e size v1 (n + m) (xs ++ news) → W.grownBy w1 v.ownBlock → (v1.ownBlock = v.ownBlock ∨ v1.ownBlock = some W.heap.size) → K (a.put o.dst v1) w1) :
    if Region.wanted o (yielded ops a.tmps) = true then Oper.wp P o a W K Q else E := by
  obtain ⟨v1, w1, hr, hown, hg, hat⟩ := run_append_rows (P := P) (W := W) base t e o.type z size bytes ht hinfo hz hs0 hb0 v n xs news A m c HO hl hnews h1 hbase hbytes
  have hw : Region.wanted o (yielded ops a.tmps) = true := by simp [Region.wanted, hgd]
  rw [if_pos hw]
  unfold Oper.wp execOp
  simp only [ho, resolve, invoke, builtin, Sem.run_bind, Sem.run_pure, Result.andThen_ok, List.map_toArray, List.map_cons, List.map_nil, hs, hx, hr]
  exact h _ _ hown hg hat
end

theorem flatMap_len' {α β : Type} {n : Nat} (f : α → List β) (L : List α) (hf : ∀ x ∈ L, (f x).length = n) : (L.flatMap f).length = L.length * n := by
  induction L with
  | nil => simp
  | cons x L ih => rw [List.flatMap_cons, List.length_append, hf x (List.mem_cons_self ..), ih (fun y hy => hf y (List.mem_cons_of_mem _ hy)), List.length_cons, Nat.add_mul]; omega
/-- What is read, as a row of cells. -/
theorem elems_news {α : Type} {w : World} {n : Nat} {R : World → List Value → α → Prop} (f : α → List Value) (hf : ∀ w cs x, R w cs x → cs = f x) {A : Option Addr} {m c : Nat} {L : List α} (h : Elems w n R (.slice A m c) L) :
    L.length = m ∧ (L.flatMap f).length = m * n ∧ (0 < m → ∃ ad, A = some ad ∧ ∀ j u, (L.flatMap f)[j]? = some u → w.cell? (ad.add j) = some u) ∧ (∀ x ∈ L, R w (f x) x ∧ (f x).length = n) := by
  obtain ⟨A', c', e, h1, h2, h3⟩ := h
  injection e with e1 e2 e3
  subst e1 e2 e3
  have hx : ∀ x ∈ L, R w (f x) x ∧ (f x).length = n := by
    intro x hx
    obtain ⟨i, hi, rfl⟩ := List.getElem_of_mem hx
    obtain ⟨ad, _, h4⟩ := h3 (by omega)
    obtain ⟨cs, hl, hc, hr⟩ := h4 i hi
    have := hf _ _ _ hr
    subst this
    exact ⟨hr, hl⟩
  have hlen := flatMap_len' f L (fun x q => (hx x q).2)
  refine ⟨rfl, hlen, fun hp => ?_, hx⟩
  obtain ⟨ad, rfl, h4⟩ := h3 hp
  refine ⟨ad, rfl, fun j u hu => ?_⟩
  have hj : j < (L.flatMap f).length := (List.getElem?_eq_some_iff.1 hu).1
  rw [hlen] at hj
  have hn0 : 0 < n := by
    rcases Nat.eq_zero_or_pos n with q | q
    · subst q; simp at hj
    · exact q
  have hi : j / n < L.length := Nat.div_lt_of_lt_mul (by rw [Nat.mul_comm]; exact hj)
  have hm := Nat.mod_lt j hn0
  have hd : j = j / n * n + j % n := by rw [Nat.mul_comm]; exact (Nat.div_add_mod j n).symm
  obtain ⟨cs, hl, hc, hr⟩ := h4 (j / n) hi
  have := hf _ _ _ hr
  subst this
  rw [hd, flatMap_get' f L (fun x q => (hx x q).2) _ hi _ hm] at hu
  rw [hd, hc _ hm, hu]
/-- What is owned, as it reads. -/
theorem elems_own {α : Type} {w : World} {n base : Nat} {e : TypeId} {v : Value} {R : World → List Value → α → Prop} {L : List α} (f : α → List Value) (hn0 : 0 < n) (h : w.ownsRow base e n v L.length (L.flatMap f)) (hx : ∀ x ∈ L, R w (f x) x ∧ (f x).length = n) : Elems w n R v L := by
  rcases h.2 with ⟨rfl, h0⟩ | ⟨g, cap, cur, rfl, _, _, h3, h4, _⟩
  · refine ⟨none, 0, ?_, by omega, by omega, fun hp => by omega⟩
    rw [h0]
  · refine ⟨_, cap, rfl, h3, by simpa [maxLen] using h4, fun hp => ⟨_, rfl, fun i hi => ⟨f L[i], (hx _ (List.getElem_mem _)).2, fun j hj => ?_, (hx _ (List.getElem_mem _)).1⟩⟩⟩
    have hl : j < (f L[i]).length := by rw [(hx _ (List.getElem_mem _)).2]; exact hj
    rw [List.getElem?_eq_getElem hl]
    refine h.cells (g := g) rfl _ _ ?_
    rw [flatMap_get' f L (fun x q => (hx x q).2) i hi j hj, List.getElem?_eq_getElem hl]
theorem lalloc {a w : World} (h : Below a.heap.size a w) (x : Obj) : Below a.heap.size a (w.alloc x) := h.alloc h.size x
theorem ldrew {a w : World} (h : Below a.heap.size a w) : Below a.heap.size a w.drew := h.drew
theorem A_info_win : (Tryd.prog.info? 39).map (fun i => (i.zero, i.size, i.bytes)) = some (some (.agg #[.int .u16 0, .int .u16 0, .int .u8 0, .int .u8 0]), 4, 6) := by kernel_rfl
theorem A_info_core : (Tryd.prog.info? 43).map (fun i => (i.zero, i.size, i.bytes)) = some (some (.slice none 0 0), 1, 24) := by kernel_rfl
def Win.vals (x : Win) : List Value := [.int .u16 (Win.s x), .int .u16 (Win.l x), .int .u8 (Win.p x), .int .u8 (Win.g x)]
theorem win_one (x : Win) : ∀ u ∈ Win.vals x, u.oneCell' = true := by intro u hu; simp [Win.vals] at hu; rcases hu with rfl | rfl | rfl | rfl <;> rfl
theorem wins_one' (L : List Win) : ∀ u ∈ L.flatMap Win.vals, u.oneCell' = true := by
  intro u hu
  obtain ⟨x, _, hx⟩ := List.mem_flatMap.1 hu
  exact win_one x u hx
theorem own_zero (W : World) (e : TypeId) (size : Nat) : (W.alloc (.cells #[] e)).ownsRow W.heap.size e size (.slice (some ⟨W.heap.size, 0, none⟩) 0 0) 0 [] := ⟨by simp, .inr ⟨_, 0, #[], rfl, Nat.le_refl _, heap_alloc_new _ _, Nat.le_refl _, by decide, by simp, by simp⟩⟩
theorem elems_take {α : Type} {w : World} {n : Nat} {R : World → List Value → α → Prop} {A : Option Addr} {m c : Nat} {L : List α} (h : Elems w n R (.slice A m c) L) (k : Nat) (hk : k ≤ L.length) : Elems w n R (.slice A k c) (L.take k) := by
  obtain ⟨A', c0, e, h1, h2, h3⟩ := h
  injection e with e1 e2 e3
  subst e1 e3
  refine ⟨A, c, by rw [List.length_take, Nat.min_eq_left hk], by rw [List.length_take]; omega, h2, fun hp => ?_⟩
  rw [List.length_take] at hp
  obtain ⟨ad, rfl, h4⟩ := h3 (by omega)
  refine ⟨ad, rfl, fun i hi => ?_⟩
  have hi' := hi
  rw [List.length_take] at hi'
  rw [List.getElem_take]
  exact h4 i (by omega)
theorem elems_drop {α : Type} {w : World} {n : Nat} {R : World → List Value → α → Prop} {ad : Addr} {m c : Nat} {L : List α} (h : Elems w n R (.slice (some ad) m c) L) (k : Nat) (hk : k ≤ L.length) (A' : Option Addr) (hA : 0 < L.length - k → A' = some (ad.add (k * n))) : Elems w n R (.slice A' (L.length - k) (c - k)) (L.drop k) := by
  obtain ⟨A0, c0, e, h1, h2, h3⟩ := h
  injection e with e1 e2 e3
  subst e1 e3
  refine ⟨A', c - k, by rw [List.length_drop], by rw [List.length_drop]; omega, by omega, fun hp => ?_⟩
  rw [List.length_drop] at hp
  obtain ⟨ad', e', h4⟩ := h3 (by omega)
  obtain rfl : ad = ad' := Option.some.inj e'
  refine ⟨_, hA hp, fun i hi => ?_⟩
  have hi' := hi
  rw [List.length_drop] at hi'
  obtain ⟨cs, q1, q2, q3⟩ := h4 (k + i) (by omega)
  refine ⟨cs, q1, fun j hj => ?_, by rw [List.getElem_drop]; exact q3⟩
  rw [Addr.add_add, ← q2 j hj]
  congr 2
  rw [Nat.add_mul]; omega
theorem win_cells' (w : World) (cs : List Value) (x : Win) (h : rd39.R w cs x) : cs = Win.vals x := (win_cells h).1
/-- The rows of a plan's cores, as they lie: their values. -/
theorem cores_rows {w : World} {A : Option Addr} {m c : Nat} {C : List (List Win)} (h : Cores w (.slice A m c) C) : ∃ vs : List Value, vs.length = C.length ∧ (0 < C.length → ∃ ad, A = some ad ∧ ∀ j u, vs[j]? = some u → w.cell? (ad.add j) = some u) ∧ ∀ (j : Nat) (u : Value) (L : List Win), vs[j]? = some u → C[j]? = some L → Wins w u L := by
  obtain ⟨a, cap, e, h1, h2, h3⟩ := h
  injection e with e1 e2 e3
  subst e1
  rcases Nat.eq_zero_or_pos C.length with h0 | h0
  · exact ⟨[], h0.symm, fun q => by omega, fun j u L q => by simp at q⟩
  · obtain ⟨ad, rfl, h4⟩ := h3 h0
    have h5 : ∀ i : Fin C.length, ∃ v, w.cell? (ad.add i) = some v ∧ Wins w v C[i] := fun i => by
      obtain ⟨cs, q1, q2, v, rfl, q3⟩ := h4 i i.2
      have q5 : w.cell? (ad.add (i.1 * 1)) = some v := q2 0 (by decide)
      rw [Nat.mul_one] at q5
      exact ⟨v, q5, q3⟩
    obtain ⟨f, hf⟩ := Classical.axiomOfChoice h5
    refine ⟨List.ofFn f, by simp, fun _ => ⟨ad, rfl, fun j u hu => ?_⟩, fun j u L hu hL => ?_⟩
    · rw [List.getElem?_ofFn] at hu
      split at hu
      · injection hu with hu
        subst hu
        exact (hf ⟨j, by assumption⟩).1
      · cases hu
    · rw [List.getElem?_ofFn] at hu
      split at hu
      · rename_i hj
        injection hu with hu
        subst hu
        rw [List.getElem?_eq_getElem hj] at hL
        injection hL with hL
        subst hL
        exact (hf ⟨j, hj⟩).2
      · cases hu
theorem add_block (ad : Addr) (j : Nat) : (ad.add j).block = ad.block := by unfold Addr.add; split <;> rfl
/-- A reading that the rest of memory does not touch. -/
theorem elems_same {α : Type} {w w' : World} {n : Nat} {R : World → List Value → α → Prop} {v : Value} {L : List α} (hR : ∀ cs x, R w cs x → R w' cs x) (h : Elems w n R v L) (hb : ∀ b, v.ownBlock = some b → w'.heap[b]? = w.heap[b]?) : Elems w' n R v L := by
  obtain ⟨a, cap, rfl, h1, h2, h3⟩ := h
  refine ⟨a, cap, rfl, h1, h2, fun hp => ?_⟩
  obtain ⟨ad, rfl, h4⟩ := h3 hp
  refine ⟨ad, rfl, fun i hi => ?_⟩
  obtain ⟨cs, e, hc, hr⟩ := h4 i hi
  refine ⟨cs, e, fun j hj => ?_, hR _ _ hr⟩
  rw [← hc j hj]
  exact World.cell?_of_block (by rw [add_block]; exact hb _ rfl)

theorem own_some {w : World} {base n size : Nat} {e : TypeId} {v : Value} {xs : List Value} (h : w.ownsRow base e size v n xs) (hn : 0 < n) : ∃ g cap, v = .slice (some ⟨g, 0, none⟩) n cap ∧ base ≤ g ∧ g < w.heap.size := by
  rcases h.2 with ⟨rfl, h0⟩ | ⟨g, cap, cur, rfl, hb, hh, _⟩
  · omega
  · exact ⟨g, cap, rfl, hb, lt_of_block hh⟩
theorem own_set {w : World} {base n : Nat} {e : TypeId} {g cap : Nat} {xs : List Value} (h : w.ownsRow base e 1 (.slice (some ⟨g, 0, none⟩) n cap) n xs) (c : Nat) (hc : c < n) (u : Value) : (w.setCell ⟨g, c, none⟩ u).ownsRow base e 1 (.slice (some ⟨g, 0, none⟩) n cap) n (xs.set c u) := by
  refine ⟨by have := h.1; simpa using this, ?_⟩
  rcases h.2 with ⟨q, h0⟩ | ⟨g', cap', cur, q, hb, hh, h3, h4, h5, h6⟩
  · cases q
  · injection q with q1 q2 q3
    injection q1 with q1
    injection q1 with q1
    subst q1 q3
    refine .inr ⟨g, cap, cur.setIfInBounds c u, rfl, hb, heap_setCell_at hh u, h3, h4, by simpa using h5, ?_⟩
    rw [Array.toList_setIfInBounds, List.take_set, h6]
theorem rows_cores {b : World} {base g cap : Nat} {C : List (List Win)} {vs : List Value} (row : b.ownsRow base 43 1 (.slice (some ⟨g, 0, none⟩) C.length cap) C.length vs) (hw : ∀ (j : Nat) (u : Value) (L : List Win), vs[j]? = some u → C[j]? = some L → Wins b u L) : Cores b (.slice (some ⟨g, 0, none⟩) C.length cap) C := by
  have hl : vs.length = C.length := by have := row.1; simpa using this
  have hcap : C.length ≤ cap ∧ cap ≤ 9223372036854775807 := by
    rcases row.2 with ⟨q, h0⟩ | ⟨g', cap', cur, q, hb, hh, h3, h4, _⟩
    · cases q
    · injection q with q1 q2 q3
      subst q3
      exact ⟨h3, by simpa [maxLen] using h4⟩
  refine ⟨_, cap, rfl, hcap.1, hcap.2, fun _ => ⟨_, rfl, fun i hi => ?_⟩⟩
  have e := List.getElem?_eq_getElem (show i < vs.length by omega)
  have hc := row.cells (g := g) rfl i _ e
  refine ⟨[vs[i]], rfl, fun j hj => ?_, vs[i], rfl, hw i _ _ e (List.getElem?_eq_getElem hi)⟩
  obtain rfl : j = 0 := by have : j < 1 := hj; omega
  have : i * rd43.n + 0 = i := Nat.mul_one i
  rw [this]
  exact hc
theorem own_cell {w : World} {base n : Nat} {e : TypeId} {g cap : Nat} {xs : List Value} (h : w.ownsRow base e 1 (.slice (some ⟨g, 0, none⟩) n cap) n xs) (c : Nat) (hc : c < n) : ∃ u, w.cell? ⟨g, c, none⟩ = some u ∧ w.frozen? ⟨g, c, none⟩ = false := by
  rcases h.2 with ⟨q, h0⟩ | ⟨g', cap', cur, q, hb, hh, h3, h4, h5, h6⟩
  · cases q
  · injection q with q1 q2 q3
    injection q1 with q1
    injection q1 with q1
    subst q1 q3
    have hs : c < cur.size := by rw [h5]; omega
    exact ⟨cur[c], by simp [World.cell?, hh, hs], by simp [World.frozen?, hh]⟩
/-- A core's windows but one, as rows of cells. -/
theorem news_take {w : World} {ld : Addr} {n c : Nat} {L : List Win} (h : Wins w (.slice (some ld) n c) L) (hn : L.length = n) (k : Nat) (hk : k < n) : ((L.take k).flatMap Win.vals).length = k * 4 ∧ (0 < k → ∃ ad, some ld = some ad ∧ ∀ j u, ((L.take k).flatMap Win.vals)[j]? = some u → w.cell? (ad.add j) = some u) := by
  have q := elems_news Win.vals win_cells' (elems_take (n := rd39.n) h k (by omega))
  exact ⟨q.2.1, q.2.2.1⟩
theorem news_drop {w : World} {ld : Addr} {n c : Nat} {L : List Win} (h : Wins w (.slice (some ld) n c) L) (hn : L.length = n) (k : Nat) (hk : k < n) (A' : Option Addr) (hA : 0 < n - (k + 1) → A' = some (ld.add ((k + 1) * 4))) : ((L.drop (k + 1)).flatMap Win.vals).length = (n - (k + 1)) * 4 ∧ (0 < n - (k + 1) → ∃ ad, A' = some ad ∧ ∀ j u, ((L.drop (k + 1)).flatMap Win.vals)[j]? = some u → w.cell? (ad.add j) = some u) := by
  subst hn
  have q := elems_news Win.vals win_cells' (elems_drop (n := rd39.n) h (k + 1) (by omega) A' hA)
  exact ⟨q.2.1, q.2.2.1⟩
theorem wf_u8 {z : Int} (h : 0 ≤ z ∧ z ≤ 255) : (Lit.int .u8 z).wf = true := by simp [Lit.wf, IntKind.min, IntKind.max, IntKind.signed, IntKind.bits]; omega
theorem wf_u16 {z : Int} (h : 0 ≤ z ∧ z ≤ 65535) : (Lit.int .u16 z).wf = true := by simp [Lit.wf, IntKind.min, IntKind.max, IntKind.signed, IntKind.bits]; omega
theorem vals_ok {w : World} {x : Win} (h : Win.Ok x) : rd39.R w (Win.vals x) x := by
  obtain ⟨s, l, p, g, u⟩ := x
  obtain ⟨h1, h2, h3, h4⟩ := h
  exact ⟨[.int .u16 s], _, rfl, ⟨rfl, wf_u16 h1⟩, [.int .u16 l], _, rfl, ⟨rfl, wf_u16 h2⟩, [.int .u8 p], _, rfl, ⟨rfl, wf_u8 h3⟩, [.int .u8 g], _, rfl, ⟨rfl, wf_u8 h4⟩, rfl⟩
theorem set1_cell {w : World} {g c b o : Nat} {y v : Value} (h : w.cell? ⟨b, o, none⟩ = some v) (hne : b ≠ g) : (w.setCell ⟨g, c, none⟩ y).cell? ⟨b, o, none⟩ = some v :=
  ((Kept.refl (fun k => k = g) w).setCell (p := ⟨g, c, none⟩) (.inl rfl) y).cell h hne
theorem less_end {w w4 W6 w9 : World} {C : List (List Win)} {vs : List Value} {g cap c k n m k3 base : Nat} {L : List Win} {A3 : Option Addr} {xs : List Value} {z0 z1 z2 z3 z4 : Value} (hok : ∀ L ∈ C, ∀ x ∈ L, Win.Ok x) (B4 : Below w.heap.size w w4) (B6 : Below w4.heap.size w4 W6) (B9 : Below W6.heap.size W6 w9)
    (X6 : W6.heap[w4.heap.size]? = some (.cells #[z0, z1, z2, z3, z4] 28 (0, 0))) (O6 : W6.ownsRow base 43 1 (.slice (some ⟨g, 0, none⟩) C.length cap) C.length vs) (hg : w4.heap.size < g) (hg6 : g < W6.heap.size) (hc : C[c]? = some L) (hn : L.length = n) (hk : k < n)
    (V3 : ∀ (j : Nat) (u : Value) (L : List Win), vs[j]? = some u → C[j]? = some L → Wins w u L) (o9 : w9.ownsRow W6.heap.size 39 4 (.slice A3 m k3) m xs) (hm : m = k + (n - (k + 1))) (hxs : xs = (L.take k).flatMap Win.vals ++ (L.drop (k + 1)).flatMap Win.vals) :
    Sub (C.set c (L.take k ++ L.drop (k + 1))) C ∧ Below w4.heap.size w4 (w9.setCell ⟨g, c, none⟩ (.slice A3 m k3)) ∧ (w9.setCell ⟨g, c, none⟩ (.slice A3 m k3)).heap[w4.heap.size]? = some (.cells #[z0, z1, z2, z3, z4] 28 (0, 0)) ∧ Cores (w9.setCell ⟨g, c, none⟩ (.slice A3 m k3)) (.slice (some ⟨g, 0, none⟩) C.length cap) (C.set c (L.take k ++ L.drop (k + 1))) := by
  have hK : Kept (fun j => j = g) w9 (w9.setCell ⟨g, c, none⟩ (.slice A3 m k3)) := (Kept.refl (fun j => j = g) w9).setCell (p := ⟨g, c, none⟩) (.inl rfl) _
  have hB : Below w4.heap.size w4 (w9.setCell ⟨g, c, none⟩ (.slice A3 m k3)) := (lthen B6 B9).setCell (p := ⟨g, c, none⟩) (Nat.le_of_lt hg) _
  have hcl := (List.getElem?_eq_some_iff.1 hc).1
  refine ⟨sub_set hc k, hB, hK.heap (lup B9 X6) (by omega), ?_⟩
  have row := own_set (own_below O6 B9) c hcl (.slice A3 m k3)
  have hlen : (C.set c (L.take k ++ L.drop (k + 1))).length = C.length := by simp
  have hx : ∀ x ∈ L.take k ++ L.drop (k + 1), Win.Ok x := by
    intro x hx
    refine hok L (List.mem_of_getElem? hc) x ?_
    rcases List.mem_append.1 hx with q | q
    · exact List.mem_of_mem_take q
    · exact List.mem_of_mem_drop q
  have hml : m = (L.take k ++ L.drop (k + 1)).length := by
    rw [List.length_append, List.length_take, List.length_drop, Nat.min_eq_left (by omega), hm]
    omega
  have hxs' : xs = (L.take k ++ L.drop (k + 1)).flatMap Win.vals := by rw [hxs, List.flatMap_append]
  have hnew : Wins (w9.setCell ⟨g, c, none⟩ (.slice A3 m k3)) (.slice A3 m k3) (L.take k ++ L.drop (k + 1)) := by
    have e : Wins w9 (.slice A3 m k3) (L.take k ++ L.drop (k + 1)) := elems_own Win.vals (by decide) (base := W6.heap.size) (e := 39) (by rw [← hml, ← hxs']; exact o9) (fun x q => ⟨vals_ok (hx x q), rfl⟩)
    refine elems_same (n := rd39.n) (R := rd39.R) (fun cs x q => by
      obtain ⟨rfl, ok⟩ := win_cells q
      exact vals_ok ok) e (fun b hb => hK.block b ?_ ?_)
    · exact own_lt o9 b hb
    · have := own_base o9 b hb
      omega
  have hr := rows_cores (C := C.set c (L.take k ++ L.drop (k + 1))) (by rw [hlen]; exact row) (fun j u M hu hM => by
    have hvl : vs.length = C.length := by have := O6.1; simpa using this
    by_cases e : c = j
    · subst e
      rw [List.getElem?_set_self (by omega)] at hu hM
      injection hu with hu
      injection hM with hM
      subst hu hM
      exact hnew
    · rw [List.getElem?_set_ne e] at hu hM
      exact (V3 j u M hu hM).below (lthen B4 hB))
  rw [hlen] at hr
  exact hr
end Go.Proofs.YtpcjjmjmigibhaaDoor
