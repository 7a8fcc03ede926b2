/- append of rows of elements of several cells; how what is owned reads, and what is read can be appended. plan.Copy: a plan of its own. -/
import Derived.Test.YtidjkhmlpgkaaaaDoorMgB
import Derived.Deep.RegionHeld3
import Derived.Deep.RegionLaw
import Derived.Deep.CutBlock
namespace Go.Proofs.YtidjkhmlpgkaaaaDoor
open Go.RowKit
set_option linter.unusedVariables false
set_option linter.unusedSimpArgs false

section
variable {P : Program} {ops : Array Oper} {rest : List Oper} {o : Oper} {a : Act} {Q : Exit → Act → World → Prop}
theorem run_append_rows {W : World} (base : Nat) (t e ty : TypeId) (z : Value) (size bytes : Nat)
    (ht : P.underlying t = some (.slice e)) (hinfo : (P.info? e).map (fun i => (i.zero, i.size, i.bytes)) = some (some z, size, bytes)) (hz : z.cells.size = size) (hs0 : 0 < size) (hb0 : 0 < bytes)
    (v : Value) (n : Nat) (xs news : List Value) (A : Option Addr) (m c : Nat)
    (HO : W.ownsRow base e size v n xs) (hl : news.length = m * size) (hnews : 0 < m → ∃ ad, A = some ad ∧ ∀ j u, news[j]? = some u → W.cell? (ad.add j) = some u) (h1 : ∀ u ∈ news, u.oneCell' = true)
    (hbase : base ≤ W.heap.size) (hbytes : (n + m) * bytes ≤ 140737488355328) :
    ∃ v1 w1, (Builtin.append_ #[t, t] ty #[v, .slice A m c]).run P W = .ok v1 w1 ∧ w1.ownsRow base e size v1 (n + m) (xs ++ news) ∧ W.grownBy w1 v.ownBlock ∧ (v1.ownBlock = v.ownBlock ∨ v1.ownBlock = some W.heap.size) := by
  obtain ⟨i0, hi, hz0, hz1, hz2⟩ := info_parts hinfo
  have hlen : n + m ≤ 140737488355328 := Nat.le_trans (Nat.le_mul_of_pos_right _ hb0) hbytes
  rcases A with _ | ad
  · have h0 : m = 0 := by
      rcases Nat.eq_zero_or_pos m with h0 | h0
      · exact h0
      · obtain ⟨ad, h, _⟩ := hnews h0
        cases h
    subst h0
    obtain rfl : news = [] := List.eq_nil_of_length_eq_zero (by simpa using hl)
    refine ⟨v, W, ?_, by simpa using HO, World.grownBy.refl W _, .inl rfl⟩
    rcases HO.2 with ⟨rfl, hn⟩ | ⟨g, cap, cur, rfl, _, _, hnc, _⟩
    · simp [Builtin.append_, run_underlying ht, sizeOf, typeInfo, hi, Builtin.lenOf, Builtin.firstCells]
    · simp [Builtin.append_, run_underlying ht, sizeOf, typeInfo, hi, Builtin.lenOf, Builtin.firstCells, hnc, storeCells]
  · rcases Nat.eq_zero_or_pos m with h0 | h0
    · subst h0
      obtain rfl : news = [] := List.eq_nil_of_length_eq_zero (by simpa using hl)
      obtain ⟨v1, w1, hr, h2, h3, _, h5⟩ := run_append_own_at (P := P) W base t ty e i0 z size bytes ht hi hz0 hz1 hz2 hz hs0 v n xs HO ad 0 c [] (by simp) (by simp) (by simp) (by simp only [maxLen]; omega) hbytes hbase
      exact ⟨v1, w1, hr, h2, h3, h5⟩
    · obtain ⟨ad', h', hc⟩ := hnews h0
      injection h' with h'
      subst h'
      obtain ⟨v1, w1, hr, h2, h3, _, h5⟩ := run_append_own_at (P := P) W base t ty e i0 z size bytes ht hi hz0 hz1 hz2 hz hs0 v n xs HO ad m c news hl hc h1 (by simp only [maxLen]; omega) hbytes hbase
      exact ⟨v1, w1, hr, h2, h3, h5⟩
/-- append(v, ys...), ys a slice that is read, nil let in. -/
theorem append_rows {W : World} (base : Nat) (hgd : o.guard = none) (s x : Operand) (t e : TypeId) (z : Value) (size bytes : Nat)
    (ho : o.op = .call { callee := .builtin .append, args := #[s, x], argTypes := #[t, t] })
    (ht : P.underlying t = some (.slice e)) (hinfo : (P.info? e).map (fun i => (i.zero, i.size, i.bytes)) = some (some z, size, bytes)) (hz : z.cells.size = size) (hs0 : 0 < size) (hb0 : 0 < bytes)
    (v : Value) (n : Nat) (xs news : List Value) (A : Option Addr) (m c : Nat) (hs : a.eval s = v) (hx : a.eval x = .slice A m c)
    (HO : W.ownsRow base e size v n xs) (hl : news.length = m * size) (hnews : 0 < m → ∃ ad, A = some ad ∧ ∀ j u, news[j]? = some u → W.cell? (ad.add j) = some u) (h1 : ∀ u ∈ news, u.oneCell' = true)
    (hbase : base ≤ W.heap.size) (hbytes : (n + m) * bytes ≤ 140737488355328)
    (h : ∀ v1 w1, w1.ownsRow base e size v1 (n + m) (xs ++ news) → W.grownBy w1 v.ownBlock → (v1.ownBlock = v.ownBlock ∨ v1.ownBlock = some W.heap.size) → wpList P ops Q rest (a.put o.dst v1) w1) :
    wpList P ops Q (o :: rest) a W := by
  obtain ⟨v1, w1, hr, hown, hg, hat⟩ := run_append_rows (P := P) (W := W) base t e o.type z size bytes ht hinfo hz hs0 hb0 v n xs news A m c HO hl hnews h1 hbase hbytes
  refine wpList_plain hgd fun K hK => ?_
  unfold Oper.wp execOp
  simp only [ho, resolve, invoke, builtin, Sem.run_bind, Sem.run_pure, Result.andThen_ok, List.map_toArray, List.map_cons, List.map_nil, hs, hx, hr]
  exact hK _ _ (h v1 w1 hown hg hat)
/-- The same in a region that draws its order. -/
theorem step_append_rows {E : Prop} {K : Act → World → Prop} {W : World} (base : Nat) (hgd : o.guard = none) (s x : Operand) (t e : TypeId) (z : Value) (size bytes : Nat)
    (ho : o.op = .call { callee := .builtin .append, args := #[s, x], argTypes := #[t, t] })
    (ht : P.underlying t = some (.slice e)) (hinfo : (P.info? e).map (fun i => (i.zero, i.size, i.bytes)) = some (some z, size, bytes)) (hz : z.cells.size = size) (hs0 : 0 < size) (hb0 : 0 < bytes)
    (v : Value) (n : Nat) (xs news : List Value) (A : Option Addr) (m c : Nat) (hs : a.eval s = v) (hx : a.eval x = .slice A m c)
    (HO : W.ownsRow base e size v n xs) (hl : news.length = m * size) (hnews : 0 < m → ∃ ad, A = some ad ∧ ∀ j u, news[j]? = some u → W.cell? (ad.add j) = some u) (h1 : ∀ u ∈ news, u.oneCell' = true)
    (hbase : base ≤ W.heap.size) (hbytes : (n + m) * bytes ≤ 140737488355328)
    (h : ∀ v1 w1, w1.ownsRow base e size v1 (n + m) (xs ++ news) → W.grownBy w1 v.ownBlock → (v1.ownBlock = v.ownBlock ∨ v1.ownBlock = some W.heap.size) → K (a.put o.dst v1) w1) :
    if Region.wanted o (yielded ops a.tmps) = true then Oper.wp P o a W K Q else E := by
  obtain ⟨v1, w1, hr, hown, hg, hat⟩ := run_append_rows (P := P) (W := W) base t e o.type z size bytes ht hinfo hz hs0 hb0 v n xs news A m c HO hl hnews h1 hbase hbytes
  have hw : Region.wanted o (yielded ops a.tmps) = true := by simp [Region.wanted, hgd]
  rw [if_pos hw]
  unfold Oper.wp execOp
  simp only [ho, resolve, invoke, builtin, Sem.run_bind, Sem.run_pure, Result.andThen_ok, List.map_toArray, List.map_cons, List.map_nil, hs, hx, hr]
  exact h _ _ hown hg hat
end

theorem flatMap_get' {α β : Type} {n : Nat} (f : α → List β) (L : List α) (hf : ∀ x ∈ L, (f x).length = n) (i : Nat) (hi : i < L.length) (j : Nat) (hj : j < n) : (L.flatMap f)[i * n + j]? = (f L[i])[j]? := by
  induction L generalizing i with
  | nil => simp at hi
  | cons x L ih =>
    rw [List.flatMap_cons]
    have hx : (f x).length = n := hf x (List.mem_cons_self ..)
    cases i with
    | zero => rw [List.getElem?_append_left (by rw [hx]; omega)]; simp
    | succ i =>
      rw [List.getElem?_append_right (by rw [hx, Nat.add_mul]; omega), hx, show (i + 1) * n + j - n = i * n + j by rw [Nat.add_mul]; omega]
      simpa using ih (fun y hy => hf y (List.mem_cons_of_mem _ hy)) i (by simpa using hi)
theorem flatMap_len' {α β : Type} {n : Nat} (f : α → List β) (L : List α) (hf : ∀ x ∈ L, (f x).length = n) : (L.flatMap f).length = L.length * n := by
  induction L with
  | nil => simp
  | cons x L ih => rw [List.flatMap_cons, List.length_append, hf x (List.mem_cons_self ..), ih (fun y hy => hf y (List.mem_cons_of_mem _ hy)), List.length_cons, Nat.add_mul]; omega
/-- What is read, as a row of cells. -/
theorem elems_news {α : Type} {w : World} {n : Nat} {R : World → List Value → α → Prop} (f : α → List Value) (hf : ∀ w cs x, R w cs x → cs = f x) {A : Option Addr} {m c : Nat} {L : List α} (h : Elems w n R (.slice A m c) L) :
    L.length = m ∧ (L.flatMap f).length = m * n ∧ (0 < m → ∃ ad, A = some ad ∧ ∀ j u, (L.flatMap f)[j]? = some u → w.cell? (ad.add j) = some u) ∧ (∀ x ∈ L, R w (f x) x ∧ (f x).length = n) := by
  obtain ⟨A', c', e, h1, h2, h3⟩ := h
  injection e with e1 e2 e3
  subst e1 e2 e3
  have hx : ∀ x ∈ L, R w (f x) x ∧ (f x).length = n := by
    intro x hx
    obtain ⟨i, hi, rfl⟩ := List.getElem_of_mem hx
    obtain ⟨ad, _, h4⟩ := h3 (by omega)
    obtain ⟨cs, hl, hc, hr⟩ := h4 i hi
    have := hf _ _ _ hr
    subst this
    exact ⟨hr, hl⟩
  have hlen := flatMap_len' f L (fun x q => (hx x q).2)
  refine ⟨rfl, hlen, fun hp => ?_, hx⟩
  obtain ⟨ad, rfl, h4⟩ := h3 hp
  refine ⟨ad, rfl, fun j u hu => ?_⟩
  have hj : j < (L.flatMap f).length := (List.getElem?_eq_some_iff.1 hu).1
  rw [hlen] at hj
  have hn0 : 0 < n := by
    rcases Nat.eq_zero_or_pos n with q | q
    · subst q; simp at hj
    · exact q
  have hi : j / n < L.length := Nat.div_lt_of_lt_mul (by rw [Nat.mul_comm]; exact hj)
  have hm := Nat.mod_lt j hn0
  have hd : j = j / n * n + j % n := by rw [Nat.mul_comm]; exact (Nat.div_add_mod j n).symm
  obtain ⟨cs, hl, hc, hr⟩ := h4 (j / n) hi
  have := hf _ _ _ hr
  subst this
  rw [hd, flatMap_get' f L (fun x q => (hx x q).2) _ hi _ hm] at hu
  rw [hd, hc _ hm, hu]
/-- What is owned, as it reads. -/
theorem elems_own {α : Type} {w : World} {n base : Nat} {e : TypeId} {v : Value} {R : World → List Value → α → Prop} {L : List α} (f : α → List Value) (hn0 : 0 < n) (h : w.ownsRow base e n v L.length (L.flatMap f)) (hx : ∀ x ∈ L, R w (f x) x ∧ (f x).length = n) : Elems w n R v L := by
  rcases h.2 with ⟨rfl, h0⟩ | ⟨g, cap, cur, rfl, _, _, h3, h4, _⟩
  · refine ⟨none, 0, ?_, by omega, by omega, fun hp => by omega⟩
    rw [h0]
  · refine ⟨_, cap, rfl, h3, by simpa [maxLen] using h4, fun hp => ⟨_, rfl, fun i hi => ⟨f L[i], (hx _ (List.getElem_mem _)).2, fun j hj => ?_, (hx _ (List.getElem_mem _)).1⟩⟩⟩
    have hl : j < (f L[i]).length := by rw [(hx _ (List.getElem_mem _)).2]; exact hj
    rw [List.getElem?_eq_getElem hl]
    refine h.cells (g := g) rfl _ _ ?_
    rw [flatMap_get' f L (fun x q => (hx x q).2) i hi j hj, List.getElem?_eq_getElem hl]
theorem add_block (ad : Addr) (j : Nat) : (ad.add j).block = ad.block := by unfold Addr.add; split <;> rfl
/-- A reading that the rest of memory does not touch. -/
theorem elems_same {α : Type} {w w' : World} {n : Nat} {R : World → List Value → α → Prop} {v : Value} {L : List α} (hR : ∀ cs x, R w cs x → R w' cs x) (h : Elems w n R v L) (hb : ∀ b, v.ownBlock = some b → w'.heap[b]? = w.heap[b]?) : Elems w' n R v L := by
  obtain ⟨a, cap, rfl, h1, h2, h3⟩ := h
  refine ⟨a, cap, rfl, h1, h2, fun hp => ?_⟩
  obtain ⟨ad, rfl, h4⟩ := h3 hp
  refine ⟨ad, rfl, fun i hi => ?_⟩
  obtain ⟨cs, e, hc, hr⟩ := h4 i hi
  refine ⟨cs, e, fun j hj => ?_, hR _ _ hr⟩
  rw [← hc j hj]
  exact World.cell?_of_block (by rw [add_block]; exact hb _ rfl)

theorem chan_one (c : ChanR) : ∀ u ∈ ChanR.vals c, u.oneCell' = true := by intro u hu; simp [ChanR.vals] at hu; rcases hu with rfl | rfl | rfl | rfl | rfl | rfl <;> rfl
def PairR.vals (x : PairR) : List Value := [.int .u8 (PairR.a x), .int .u8 (PairR.b x)]
def Win.vals (x : Win) : List Value := [.int .u16 (Win.s x), .int .u16 (Win.l x), .int .u8 (Win.p x), .int .u8 (Win.g x)]
def SemR.vals (x : SemR) : List Value := [.int .u8 (SemR.i x), .int .u8 (SemR.m x)]
theorem flat_one {α : Type} (f : α → List Value) (hf : ∀ x, ∀ u ∈ f x, u.oneCell' = true) (L : List α) : ∀ u ∈ L.flatMap f, u.oneCell' = true := by
  intro u hu
  obtain ⟨x, _, hx⟩ := List.mem_flatMap.1 hu
  exact hf x u hx
theorem pair_one (x : PairR) : ∀ u ∈ PairR.vals x, u.oneCell' = true := by intro u hu; simp [PairR.vals] at hu; rcases hu with rfl | rfl <;> rfl
theorem sem_one (x : SemR) : ∀ u ∈ SemR.vals x, u.oneCell' = true := by intro u hu; simp [SemR.vals] at hu; rcases hu with rfl | rfl <;> rfl
theorem win_one (x : Win) : ∀ u ∈ Win.vals x, u.oneCell' = true := by intro u hu; simp [Win.vals] at hu; rcases hu with rfl | rfl | rfl | rfl <;> rfl

/-- append of what is read to an empty slice without room: nothing that was is written. -/
theorem run_append_fresh {P : Program} {W : World} {α : Type} (t e ty : TypeId) (z : Value) (size bytes : Nat) (R : World → List Value → α → Prop) (f : α → List Value) (L : List α)
    (ht : P.underlying t = some (.slice e)) (hinfo : (P.info? e).map (fun i => (i.zero, i.size, i.bytes)) = some (some z, size, bytes)) (hz : z.cells.size = size) (hs0 : 0 < size) (hb0 : 0 < bytes)
    (b : Addr) (A : Option Addr) (m c : Nat) (hsrc : Elems W size R (.slice A m c) L) (hf : ∀ w cs x, R w cs x → cs = f x) (hRb : ∀ {W' : World} {cs : List Value} {x : α}, R W cs x → Below W.heap.size W W' → R W' cs x) (h1 : ∀ x, ∀ u ∈ f x, u.oneCell' = true)
    (hbytes : m * bytes ≤ 140737488355328) :
    ∃ A1 c1 w1, (Builtin.append_ #[t, t] ty #[.slice (some b) 0 0, .slice A m c]).run P W = .ok (.slice A1 m c1) w1 ∧ Below W.heap.size W w1 ∧ Elems w1 size R (.slice A1 m c1) L ∧ (L = [] ∨ w1.ownsRow W.heap.size e size (.slice A1 m c1) m (L.flatMap f)) := by
  obtain ⟨i0, hi, hz0, hz1, hz2⟩ := info_parts hinfo
  obtain ⟨hl, hl2, hnews, hx⟩ := elems_news f hf hsrc
  have hlen : m ≤ 140737488355328 := Nat.le_trans (Nat.le_mul_of_pos_right _ hb0) hbytes
  rcases Nat.eq_zero_or_pos m with h0 | h0
  · subst h0
    obtain rfl : L = [] := List.eq_nil_of_length_eq_zero hl
    refine ⟨some b, 0, W, ?_, Below.refl _ _, ⟨some b, 0, rfl, by simp, by simp, by simp⟩, .inl rfl⟩
    cases A with
    | none => simp [Builtin.append_, run_underlying ht, sizeOf, typeInfo, hi, Builtin.lenOf, Builtin.firstCells, storeCells]
    | some ad => simp [Builtin.append_, run_underlying ht, sizeOf, typeInfo, hi, Builtin.lenOf, Builtin.firstCells, storeCells, loadCells, loadCellsFrom]
  · obtain ⟨ad, rfl, hc⟩ := hnews h0
    subst hz1 hz2
    have hgr := run_append_grow (P := P) W t ty e i0 z ht hi hz0 b 0 0 [] (by simp) (by simp) ad m c (L.flatMap f) hl2 hc (by omega) (by omega) (growslice_fits (by omega) (by simpa using hbytes))
    rw [Nat.zero_add] at hgr
    have hge := grownCap_ge W m 0 e
    have hcm := grownCap_le_maxLen W m 0 e (by simp only [maxLen]; omega)
    have hb : Below W.heap.size W (W.drew.alloc (.cells (([] : List Value).toArray ++ (L.flatMap f).toArray ++ Builtin.zeroCells z.cells (grownCap W m 0 e - m)) e)) := ((Below.refl _ _).drew).alloc (Nat.le_refl _) _
    have hown : (W.drew.alloc (.cells (([] : List Value).toArray ++ (L.flatMap f).toArray ++ Builtin.zeroCells z.cells (grownCap W m 0 e - m)) e)).ownsRow W.heap.size e i0.size (.slice (some ⟨W.heap.size, 0, none⟩) m (grownCap W m 0 e)) m (L.flatMap f) := by
      refine ⟨hl2, .inr ⟨W.heap.size, _, _, rfl, Nat.le_refl _, heap_alloc_new W.drew _, hge, hcm, ?_, ?_⟩⟩
      · simp only [Array.size_append, List.size_toArray, size_zeroCells, hz, hl2, ← Nat.add_mul, List.length_nil]
        rw [Nat.zero_add, ← Nat.add_mul]
        congr 1
        omega
      · simp only [Array.toList_append, List.append_assoc, List.nil_append]
        rw [← hl2]
        exact List.take_left
    refine ⟨_, _, _, hgr, hb, ?_, .inr hown⟩
    subst hl
    exact elems_own f hs0 hown (fun x q => ⟨hRb (hx x q).1 hb, (hx x q).2⟩)
section
variable {P : Program} {ops : Array Oper} {rest : List Oper} {o : Oper} {a : Act} {Q : Exit → Act → World → Prop}
theorem append_fresh {W : World} {α : Type} (hgd : o.guard = none) (s x : Operand) (t e : TypeId) (z : Value) (size bytes : Nat) (R : World → List Value → α → Prop) (f : α → List Value) (L : List α)
    (ho : o.op = .call { callee := .builtin .append, args := #[s, x], argTypes := #[t, t] })
    (ht : P.underlying t = some (.slice e)) (hinfo : (P.info? e).map (fun i => (i.zero, i.size, i.bytes)) = some (some z, size, bytes)) (hz : z.cells.size = size) (hs0 : 0 < size) (hb0 : 0 < bytes)
    (b : Addr) (A : Option Addr) (m c : Nat) (hs : a.eval s = .slice (some b) 0 0) (hx : a.eval x = .slice A m c) (hsrc : Elems W size R (.slice A m c) L) (hf : ∀ w cs x, R w cs x → cs = f x) (hRb : ∀ {W' : World} {cs : List Value} {x : α}, R W cs x → Below W.heap.size W W' → R W' cs x) (h1 : ∀ x, ∀ u ∈ f x, u.oneCell' = true)
    (hbytes : m * bytes ≤ 140737488355328)
    (h : ∀ A1 c1 w1, Below W.heap.size W w1 → Elems w1 size R (.slice A1 m c1) L → (L = [] ∨ w1.ownsRow W.heap.size e size (.slice A1 m c1) m (L.flatMap f)) → wpList P ops Q rest (a.put o.dst (.slice A1 m c1)) w1) :
    wpList P ops Q (o :: rest) a W := by
  obtain ⟨A1, c1, w1, hr, hb, he, ho1⟩ := run_append_fresh (P := P) (W := W) t e o.type z size bytes R f L ht hinfo hz hs0 hb0 b A m c hsrc hf hRb h1 hbytes
  refine wpList_plain hgd fun K hK => ?_
  unfold Oper.wp execOp
  simp only [ho, resolve, invoke, builtin, Sem.run_bind, Sem.run_pure, Result.andThen_ok, List.map_toArray, List.map_cons, List.map_nil, hs, hx, hr]
  exact hK _ _ (h _ _ _ hb he ho1)
theorem step_append_fresh {E : Prop} {K : Act → World → Prop} {W : World} {α : Type} (hgd : o.guard = none) (s x : Operand) (t e : TypeId) (z : Value) (size bytes : Nat) (R : World → List Value → α → Prop) (f : α → List Value) (L : List α)
    (ho : o.op = .call { callee := .builtin .append, args := #[s, x], argTypes := #[t, t] })
    (ht : P.underlying t = some (.slice e)) (hinfo : (P.info? e).map (fun i => (i.zero, i.size, i.bytes)) = some (some z, size, bytes)) (hz : z.cells.size = size) (hs0 : 0 < size) (hb0 : 0 < bytes)
    (b : Addr) (A : Option Addr) (m c : Nat) (hs : a.eval s = .slice (some b) 0 0) (hx : a.eval x = .slice A m c) (hsrc : Elems W size R (.slice A m c) L) (hf : ∀ w cs x, R w cs x → cs = f x) (hRb : ∀ {W' : World} {cs : List Value} {x : α}, R W cs x → Below W.heap.size W W' → R W' cs x) (h1 : ∀ x, ∀ u ∈ f x, u.oneCell' = true)
    (hbytes : m * bytes ≤ 140737488355328)
    (h : ∀ A1 c1 w1, Below W.heap.size W w1 → Elems w1 size R (.slice A1 m c1) L → (L = [] ∨ w1.ownsRow W.heap.size e size (.slice A1 m c1) m (L.flatMap f)) → K (a.put o.dst (.slice A1 m c1)) w1) :
    if Region.wanted o (yielded ops a.tmps) = true then Oper.wp P o a W K Q else E := by
  obtain ⟨A1, c1, w1, hr, hb, he, ho1⟩ := run_append_fresh (P := P) (W := W) t e o.type z size bytes R f L ht hinfo hz hs0 hb0 b A m c hsrc hf hRb h1 hbytes
  have hw : Region.wanted o (yielded ops a.tmps) = true := by simp [Region.wanted, hgd]
  rw [if_pos hw]
  unfold Oper.wp execOp
  simp only [ho, resolve, invoke, builtin, Sem.run_bind, Sem.run_pure, Result.andThen_ok, List.map_toArray, List.map_cons, List.map_nil, hs, hx, hr]
  exact h _ _ _ hb he ho1
end
end Go.Proofs.YtidjkhmlpgkaaaaDoor

namespace Go.Proofs.YtidjkhmlpgkaaaaDoor
open Go.RowKit
set_option linter.unusedVariables false
set_option linter.unusedSimpArgs false

theorem A_info_chan : (Tryd.prog.info? 129).map (fun i => (i.zero, i.size, i.bytes)) = some (some (.agg #[.int .u8 0, .int .u8 0, .int .u8 0, .int .u8 0, .int .u8 0, .int .u16 0]), 6, 8) := by kernel_rfl
theorem A_info_pair : (Tryd.prog.info? 90).map (fun i => (i.zero, i.size, i.bytes)) = some (some (.agg #[.int .u8 0, .int .u8 0]), 2, 2) := by kernel_rfl
theorem A_info_win : (Tryd.prog.info? 87).map (fun i => (i.zero, i.size, i.bytes)) = some (some (.agg #[.int .u16 0, .int .u16 0, .int .u8 0, .int .u8 0]), 4, 6) := by kernel_rfl
theorem A_info_core : (Tryd.prog.info? 45).map (fun i => (i.zero, i.size, i.bytes)) = some (some (.slice none 0 0), 1, 24) := by kernel_rfl
theorem A_info_sem : (Tryd.prog.info? 143).map (fun i => (i.zero, i.size, i.bytes)) = some (some (.agg #[.int .u8 0, .int .u8 0]), 2, 2) := by kernel_rfl
theorem A_info_u8 : (Tryd.prog.info? 5).map (fun i => (i.zero, i.size, i.bytes)) = some (some (.int .u8 0), 1, 1) := by kernel_rfl
theorem A_info_part : (Tryd.prog.info? 77).map (fun i => (i.zero, i.size, i.bytes)) = some (some (.agg #[.slice none 0 0, .int .u8 0, .slice none 0 0, .int .u8 0, .int .u8 0, .int .u8 0]), 6, 64) := by kernel_rfl

theorem hup {a b : World} (h : Below a.heap.size a b) {k : Nat} {o : Obj} (hk : a.heap[k]? = some o) : b.heap[k]? = some o := (h.block k (lt_of_block hk)).trans hk
theorem chans_below {w w' : World} {v : Value} {L : List ChanR} (h : Chans w v L) (k : Below w.heap.size w w') : Chans w' v L := elems_below h k
theorem pairs_below {w w' : World} {v : Value} {L : List PairR} (h : Pairs w v L) (k : Below w.heap.size w w') : Pairs w' v L := elems_below h k
theorem own_down {w : World} {b c n size : Nat} {e : TypeId} {v : Value} {xs : List Value} (h : w.ownsRow b e size v n xs) (hc : c ≤ b) : w.ownsRow c e size v n xs := by
  refine ⟨h.1, ?_⟩
  rcases h.2 with h0 | ⟨g, cap, cur, rfl, h1, h2⟩
  · exact .inl h0
  · exact .inr ⟨g, cap, cur, rfl, by omega, h2⟩
theorem bsz {a b : World} (h : Below a.heap.size a b) : a.heap.size ≤ b.heap.size := h.size
theorem tz00 {w : World} {o : Obj} : (w.alloc o).heap[w.heap.size]? = some o := heap_alloc_new _ _
theorem tz00d {w : World} {o : Obj} : (w.alloc o).drew.heap[w.heap.size]? = some o := tz00
theorem tz01 {w : World} {o : Obj} {y0 : Obj} : ((w.alloc o).alloc y0).heap[w.heap.size]? = some o := heap_up (heap_alloc_new _ _)
theorem tz01d {w : World} {o : Obj} {y0 : Obj} : ((w.alloc o).alloc y0).drew.heap[w.heap.size]? = some o := tz01
theorem tz02 {w : World} {o : Obj} {y0 : Obj} {y1 : Obj} : (((w.alloc o).alloc y0).alloc y1).heap[w.heap.size]? = some o := heap_up (heap_up (heap_alloc_new _ _))
theorem tz02d {w : World} {o : Obj} {y0 : Obj} {y1 : Obj} : (((w.alloc o).alloc y0).alloc y1).drew.heap[w.heap.size]? = some o := tz02
theorem tz10 {w : World} {o : Obj} {x0 : Obj} : ((w.alloc x0).alloc o).heap[w.heap.size + 1]? = some o := heap_top _ _ _ (by simp)
theorem tz10d {w : World} {o : Obj} {x0 : Obj} : ((w.alloc x0).alloc o).drew.heap[w.heap.size + 1]? = some o := tz10
theorem tz11 {w : World} {o : Obj} {x0 : Obj} {y0 : Obj} : (((w.alloc x0).alloc o).alloc y0).heap[w.heap.size + 1]? = some o := heap_up (heap_top _ _ _ (by simp))
theorem tz11d {w : World} {o : Obj} {x0 : Obj} {y0 : Obj} : (((w.alloc x0).alloc o).alloc y0).drew.heap[w.heap.size + 1]? = some o := tz11
theorem tz20 {w : World} {o : Obj} {x0 : Obj} {x1 : Obj} : (((w.alloc x0).alloc x1).alloc o).heap[w.heap.size + 1 + 1]? = some o := heap_top _ _ _ (by simp)
theorem tz20d {w : World} {o : Obj} {x0 : Obj} {x1 : Obj} : (((w.alloc x0).alloc x1).alloc o).drew.heap[w.heap.size + 1 + 1]? = some o := tz20
theorem tu1 {w : World} {o x : Obj} {k : Nat} (h : w.heap[k]? = some o) : (w.alloc x).heap[k]? = some o := heap_up h
theorem boxz {w : World} {B : Nat} {x0 x1 x2 x3 x4 : Value} {t : TypeId} (h : w.heap[B]? = some (.cells #[x0, x1, x2, x3, x4] t (0, 0))) : w.cell? ⟨B, 0, none⟩ = some x0 ∧ w.cell? ⟨B, 1, none⟩ = some x1 ∧ w.cell? ⟨B, 2, none⟩ = some x2 ∧ w.cell? ⟨B, 3, none⟩ = some x3 ∧ w.cell? ⟨B, 4, none⟩ = some x4 ∧
    w.frozen? ⟨B, 0, none⟩ = false ∧ w.frozen? ⟨B, 1, none⟩ = false ∧ w.frozen? ⟨B, 2, none⟩ = false ∧ w.frozen? ⟨B, 3, none⟩ = false ∧ w.frozen? ⟨B, 4, none⟩ = false := by
  simp [World.cell?, World.frozen?, h]
theorem set5_other {w : World} {Z X : Nat} {v0 v1 v2 v3 v4 : Value} {o : Obj} (h : w.heap[X]? = some o) (hne : X ≠ Z) : (((((w.setCell ⟨Z, 0, none⟩ v0).setCell ⟨Z, 1, none⟩ v1).setCell ⟨Z, 2, none⟩ v2).setCell ⟨Z, 3, none⟩ v3).setCell ⟨Z, 4, none⟩ v4).heap[X]? = some o := by
  have k := (((((Kept.refl (fun k => k = Z) w).setCell (p := ⟨Z, 0, none⟩) (.inl rfl) v0).setCell (p := ⟨Z, 1, none⟩) (.inl rfl) v1).setCell (p := ⟨Z, 2, none⟩) (.inl rfl) v2).setCell (p := ⟨Z, 3, none⟩) (.inl rfl) v3).setCell (p := ⟨Z, 4, none⟩) (.inl rfl) v4
  exact k.heap h hne
theorem set5_at {w : World} {Z : Nat} {v0 v1 v2 v3 v4 x0 x1 x2 x3 x4 : Value} {t : TypeId} (h : w.heap[Z]? = some (.cells #[x0, x1, x2, x3, x4] t (0, 0))) : (((((w.setCell ⟨Z, 0, none⟩ v0).setCell ⟨Z, 1, none⟩ v1).setCell ⟨Z, 2, none⟩ v2).setCell ⟨Z, 3, none⟩ v3).setCell ⟨Z, 4, none⟩ v4).heap[Z]? = some (.cells #[v0, v1, v2, v3, v4] t (0, 0)) := by
  have h1 := heap_setCell_at (off := 0) h v0
  have h2 := heap_setCell_at (off := 1) h1 v1
  have h3 := heap_setCell_at (off := 2) h2 v2
  have h4 := heap_setCell_at (off := 3) h3 v3
  have h5 := heap_setCell_at (off := 4) h4 v4
  simpa using h5
theorem set5_below {a w : World} {Z : Nat} {v0 v1 v2 v3 v4 : Value} (h : Below a.heap.size a w) (hZ : a.heap.size ≤ Z) : Below a.heap.size a (((((w.setCell ⟨Z, 0, none⟩ v0).setCell ⟨Z, 1, none⟩ v1).setCell ⟨Z, 2, none⟩ v2).setCell ⟨Z, 3, none⟩ v3).setCell ⟨Z, 4, none⟩ v4) :=
  ((((h.setCell (p := ⟨Z, 0, none⟩) hZ v0).setCell (p := ⟨Z, 1, none⟩) hZ v1).setCell (p := ⟨Z, 2, none⟩) hZ v2).setCell (p := ⟨Z, 3, none⟩) hZ v3).setCell (p := ⟨Z, 4, none⟩) hZ v4
theorem box5_a1 {w : World} {B : Nat} {x0 x1 x2 x3 x4 : Value} {t : TypeId} {fr : Nat × Nat} {y1 : Obj} (h : w.heap[B]? = some (.cells #[x0, x1, x2, x3, x4] t fr)) : (w.alloc y1).cell? ⟨B, 0, none⟩ = some x0 ∧ (w.alloc y1).cell? ⟨B, 1, none⟩ = some x1 ∧ (w.alloc y1).cell? ⟨B, 2, none⟩ = some x2 ∧ (w.alloc y1).cell? ⟨B, 3, none⟩ = some x3 ∧ (w.alloc y1).cell? ⟨B, 4, none⟩ = some x4 := box5 (heap_up h)
theorem box5_a1d {w : World} {B : Nat} {x0 x1 x2 x3 x4 : Value} {t : TypeId} {fr : Nat × Nat} {y1 : Obj} (h : w.heap[B]? = some (.cells #[x0, x1, x2, x3, x4] t fr)) : (w.alloc y1).drew.cell? ⟨B, 0, none⟩ = some x0 ∧ (w.alloc y1).drew.cell? ⟨B, 1, none⟩ = some x1 ∧ (w.alloc y1).drew.cell? ⟨B, 2, none⟩ = some x2 ∧ (w.alloc y1).drew.cell? ⟨B, 3, none⟩ = some x3 ∧ (w.alloc y1).drew.cell? ⟨B, 4, none⟩ = some x4 := box5_a1 h
theorem box5_a2 {w : World} {B : Nat} {x0 x1 x2 x3 x4 : Value} {t : TypeId} {fr : Nat × Nat} {y1 : Obj} {y2 : Obj} (h : w.heap[B]? = some (.cells #[x0, x1, x2, x3, x4] t fr)) : ((w.alloc y1).alloc y2).cell? ⟨B, 0, none⟩ = some x0 ∧ ((w.alloc y1).alloc y2).cell? ⟨B, 1, none⟩ = some x1 ∧ ((w.alloc y1).alloc y2).cell? ⟨B, 2, none⟩ = some x2 ∧ ((w.alloc y1).alloc y2).cell? ⟨B, 3, none⟩ = some x3 ∧ ((w.alloc y1).alloc y2).cell? ⟨B, 4, none⟩ = some x4 := box5 (heap_up (heap_up h))
theorem box5_a2d {w : World} {B : Nat} {x0 x1 x2 x3 x4 : Value} {t : TypeId} {fr : Nat × Nat} {y1 : Obj} {y2 : Obj} (h : w.heap[B]? = some (.cells #[x0, x1, x2, x3, x4] t fr)) : ((w.alloc y1).alloc y2).drew.cell? ⟨B, 0, none⟩ = some x0 ∧ ((w.alloc y1).alloc y2).drew.cell? ⟨B, 1, none⟩ = some x1 ∧ ((w.alloc y1).alloc y2).drew.cell? ⟨B, 2, none⟩ = some x2 ∧ ((w.alloc y1).alloc y2).drew.cell? ⟨B, 3, none⟩ = some x3 ∧ ((w.alloc y1).alloc y2).drew.cell? ⟨B, 4, none⟩ = some x4 := box5_a2 h
theorem box5_a3 {w : World} {B : Nat} {x0 x1 x2 x3 x4 : Value} {t : TypeId} {fr : Nat × Nat} {y1 : Obj} {y2 : Obj} {y3 : Obj} (h : w.heap[B]? = some (.cells #[x0, x1, x2, x3, x4] t fr)) : (((w.alloc y1).alloc y2).alloc y3).cell? ⟨B, 0, none⟩ = some x0 ∧ (((w.alloc y1).alloc y2).alloc y3).cell? ⟨B, 1, none⟩ = some x1 ∧ (((w.alloc y1).alloc y2).alloc y3).cell? ⟨B, 2, none⟩ = some x2 ∧ (((w.alloc y1).alloc y2).alloc y3).cell? ⟨B, 3, none⟩ = some x3 ∧ (((w.alloc y1).alloc y2).alloc y3).cell? ⟨B, 4, none⟩ = some x4 := box5 (heap_up (heap_up (heap_up h)))
theorem box5_a3d {w : World} {B : Nat} {x0 x1 x2 x3 x4 : Value} {t : TypeId} {fr : Nat × Nat} {y1 : Obj} {y2 : Obj} {y3 : Obj} (h : w.heap[B]? = some (.cells #[x0, x1, x2, x3, x4] t fr)) : (((w.alloc y1).alloc y2).alloc y3).drew.cell? ⟨B, 0, none⟩ = some x0 ∧ (((w.alloc y1).alloc y2).alloc y3).drew.cell? ⟨B, 1, none⟩ = some x1 ∧ (((w.alloc y1).alloc y2).alloc y3).drew.cell? ⟨B, 2, none⟩ = some x2 ∧ (((w.alloc y1).alloc y2).alloc y3).drew.cell? ⟨B, 3, none⟩ = some x3 ∧ (((w.alloc y1).alloc y2).alloc y3).drew.cell? ⟨B, 4, none⟩ = some x4 := box5_a3 h
/-- Copy's state behind its first statement. -/
structure CpSt (W1 : World) (P : Plan) (Z : Nat) (A5 : Option Addr) (c5 : Nat) (A9 : Option Addr) (c9 : Nat) (a : World) : Prop where
  below : Below W1.heap.size W1 a
  box : a.heap[Z]? = some (.cells #[.int .u16 (Plan.frame P), .slice none 0 0, .slice none 0 0, .slice A5 (Plan.chans P).length c5, .slice A9 (Plan.pairs P).length c9] 28 (0, 0))
  hZ : W1.heap.size ≤ Z
  chans : Chans a (.slice A5 (Plan.chans P).length c5) (Plan.chans P)
  pairs : Pairs a (.slice A9 (Plan.pairs P).length c9) (Plan.pairs P)
  own : Plan.chans P = [] ∨ a.ownsRow W1.heap.size 129 6 (.slice A5 (Plan.chans P).length c5) (Plan.chans P).length ((Plan.chans P).flatMap ChanR.vals)
  ownQ : Plan.pairs P = [] ∨ a.ownsRow W1.heap.size 90 2 (.slice A9 (Plan.pairs P).length c9) (Plan.pairs P).length ((Plan.pairs P).flatMap PairR.vals)
theorem own_type {w : World} {base n size : Nat} {e t : TypeId} {v : Value} {xs : List Value} {cs : Array Value} {fr : Nat × Nat} {Z b : Nat} (h : w.ownsRow base e size v n xs) (hz : w.heap[Z]? = some (.cells cs t fr)) (ht : e ≠ t) (hb : v.ownBlock = some b) : b ≠ Z := by
  rcases h.2 with ⟨rfl, _⟩ | ⟨g, cap, cur, rfl, _, hg, _⟩
  · cases hb
  · have : g = b := by simpa [Value.ownBlock] using hb
    subst this
    rintro rfl
    rw [hg] at hz
    injection hz with hz
    injection hz with h1 h2 h3
    exact ht h2
theorem CpSt.of_alloc {W1 a : World} {P : Plan} {A5 A9 : Option Addr} {c5 c9 : Nat} (B : Below W1.heap.size W1 a) (EC : Chans a (.slice A5 (Plan.chans P).length c5) (Plan.chans P)) (EP : Pairs a (.slice A9 (Plan.pairs P).length c9) (Plan.pairs P))
    (PC : Plan.chans P = [] ∨ a.ownsRow W1.heap.size 129 6 (.slice A5 (Plan.chans P).length c5) (Plan.chans P).length ((Plan.chans P).flatMap ChanR.vals))
    (PP : Plan.pairs P = [] ∨ a.ownsRow W1.heap.size 90 2 (.slice A9 (Plan.pairs P).length c9) (Plan.pairs P).length ((Plan.pairs P).flatMap PairR.vals)) :
    CpSt W1 P a.heap.size A5 c5 A9 c9 (a.alloc (.cells #[.int .u16 (Plan.frame P), .slice none 0 0, .slice none 0 0, .slice A5 (Plan.chans P).length c5, .slice A9 (Plan.pairs P).length c9] 28)) :=
  ⟨bel_alloc B _, heap_alloc_new _ _, B.size, chans_below EC (bel_one _ _), pairs_below EP (bel_one _ _), PC.imp id (fun h => own_below h (bel_one _ _)), PP.imp id (fun h => own_below h (bel_one _ _))⟩
theorem elems_nil {α : Type} {w w' : World} {n : Nat} {R : World → List Value → α → Prop} {v : Value} (h : Elems w n R v []) : Elems w' n R v [] := by
  obtain ⟨A, c, e1, h1, h2, _⟩ := h
  exact ⟨A, c, e1, h1, h2, fun hp => by simp at hp⟩
theorem CpSt.of_kept {W1 a b : World} {P : Plan} {A5 A9 : Option Addr} {c5 c9 Z : Nat} {x0 x1 x2 x3 x4 : Value} (B : Below W1.heap.size W1 a) (hz : a.heap[Z]? = some (.cells #[x0, x1, x2, x3, x4] 28 (0, 0))) (hZ : W1.heap.size ≤ Z) (EC : Chans a (.slice A5 (Plan.chans P).length c5) (Plan.chans P)) (EP : Pairs a (.slice A9 (Plan.pairs P).length c9) (Plan.pairs P))
    (PC : Plan.chans P = [] ∨ a.ownsRow W1.heap.size 129 6 (.slice A5 (Plan.chans P).length c5) (Plan.chans P).length ((Plan.chans P).flatMap ChanR.vals))
    (PP : Plan.pairs P = [] ∨ a.ownsRow W1.heap.size 90 2 (.slice A9 (Plan.pairs P).length c9) (Plan.pairs P).length ((Plan.pairs P).flatMap PairR.vals))
    (k : Kept (fun k => k = Z) a b) (hbx : b.heap[Z]? = some (.cells #[.int .u16 (Plan.frame P), .slice none 0 0, .slice none 0 0, .slice A5 (Plan.chans P).length c5, .slice A9 (Plan.pairs P).length c9] 28 (0, 0))) :
    CpSt W1 P Z A5 c5 A9 c9 b where
  below := B.trans (k.below B.size (fun j e => by omega))
  box := hbx
  hZ := hZ
  chans := by
    rcases PC with e | h
    · rw [e] at EC ⊢
      exact elems_nil EC
    · exact elems_same (w := a) (w' := b) (fun _ _ q => q) EC (fun b hb => k.block b (own_lt h b hb) (own_type h hz (by decide) hb))
  pairs := by
    rcases PP with e | h
    · rw [e] at EP ⊢
      exact elems_nil EP
    · exact elems_same (w := a) (w' := b) (fun _ _ q => q) EP (fun b hb => k.block b (own_lt h b hb) (own_type h hz (by decide) hb))
  own := PC.imp id (fun h => own_kept h k (fun b hb => own_type h hz (by decide) hb))
  ownQ := PP.imp id (fun h => own_kept h k (fun b hb => own_type h hz (by decide) hb))
theorem set5_kept (a : World) (Z : Nat) (v0 v1 v2 v3 v4 : Value) : Kept (fun k => k = Z) a (((((a.setCell ⟨Z, 0, none⟩ v0).setCell ⟨Z, 1, none⟩ v1).setCell ⟨Z, 2, none⟩ v2).setCell ⟨Z, 3, none⟩ v3).setCell ⟨Z, 4, none⟩ v4) :=
  (((((Kept.refl (fun k => k = Z) a).setCell (p := ⟨Z, 0, none⟩) (.inl rfl) v0).setCell (p := ⟨Z, 1, none⟩) (.inl rfl) v1).setCell (p := ⟨Z, 2, none⟩) (.inl rfl) v2).setCell (p := ⟨Z, 3, none⟩) (.inl rfl) v3).setCell (p := ⟨Z, 4, none⟩) (.inl rfl) v4
theorem CpSt.of_set {W1 a : World} {P : Plan} {A5 A9 : Option Addr} {c5 c9 Z : Nat} {x0 x1 x2 x3 x4 : Value} (B : Below W1.heap.size W1 a) (hz : a.heap[Z]? = some (.cells #[x0, x1, x2, x3, x4] 28 (0, 0))) (hZ : W1.heap.size ≤ Z) (EC : Chans a (.slice A5 (Plan.chans P).length c5) (Plan.chans P)) (EP : Pairs a (.slice A9 (Plan.pairs P).length c9) (Plan.pairs P))
    (PC : Plan.chans P = [] ∨ a.ownsRow W1.heap.size 129 6 (.slice A5 (Plan.chans P).length c5) (Plan.chans P).length ((Plan.chans P).flatMap ChanR.vals))
    (PP : Plan.pairs P = [] ∨ a.ownsRow W1.heap.size 90 2 (.slice A9 (Plan.pairs P).length c9) (Plan.pairs P).length ((Plan.pairs P).flatMap PairR.vals)) :
    CpSt W1 P Z A5 c5 A9 c9 (((((a.setCell ⟨Z, 0, none⟩ (.int .u16 (Plan.frame P))).setCell ⟨Z, 1, none⟩ (.slice none 0 0)).setCell ⟨Z, 2, none⟩ (.slice none 0 0)).setCell ⟨Z, 3, none⟩ (.slice A5 (Plan.chans P).length c5)).setCell ⟨Z, 4, none⟩ (.slice A9 (Plan.pairs P).length c9)) :=
  CpSt.of_kept B hz hZ EC EP PC PP (set5_kept a Z _ _ _ _ _) (set5_at hz)
theorem grown_kept {w w1 : World} {row : Option Nat} (hg : w.grownBy w1 row) : Kept (fun k => row = some k) w w1 := ⟨hg.os, hg.tape, hg.output, hg.size, fun k hk hn => hg.block k hk (fun e => hn e.symm)⟩
/-- Copy's state while cores are copied. -/
structure CoSt (wc : World) (Z : Nat) (fr : Int) (vh vq : Value) (k : Nat) (C : List (List Win)) (vc : Value) (vs : List Value) (a : World) : Prop where
  kept : Kept (fun j => j = Z) wc a
  box : a.heap[Z]? = some (.cells #[.int .u16 fr, vc, .slice none 0 0, vh, vq] 28 (0, 0))
  row : a.ownsRow wc.heap.size 45 1 vc k vs
  len : vs.length = k
  hZ : Z < wc.heap.size
  each : ∀ i L, i < k → C[i]? = some L → ∃ u, vs[i]? = some u ∧ u.oneCell' = true ∧ Wins a u L ∧ (L = [] ∨ ∀ b, u.ownBlock = some b → wc.heap.size ≤ b ∧ b < a.heap.size ∧ vc.ownBlock ≠ some b)
theorem CoSt.start {wc : World} {Z : Nat} {fr : Int} {vh vq : Value} {C : List (List Win)} (h : wc.heap[Z]? = some (.cells #[.int .u16 fr, .slice none 0 0, .slice none 0 0, vh, vq] 28 (0, 0))) (hZ : Z < wc.heap.size) : CoSt wc Z fr vh vq 0 C (.slice none 0 0) [] wc :=
  ⟨Kept.refl _ _, h, own_nil _ _ _ _, rfl, hZ, fun i L h => by omega⟩
theorem CoSt.push {wc a w5 ω b : World} {Z : Nat} {fr : Int} {vh vq vc v1 : Value} {k : Nat} {C : List (List Win)} {vs : List Value} {A6 : Option Addr} {c6 : Nat} {L : List Win} (s : CoSt wc Z fr vh vq k C vc vs a) (D5 : Below a.heap.size a w5) (hL : C[k]? = some L)
    (e5 : Elems w5 4 rd87.R (.slice A6 L.length c6) L) (o5 : L = [] ∨ w5.ownsRow a.heap.size 87 4 (.slice A6 L.length c6) L.length (L.flatMap Win.vals)) (D6 : Below w5.heap.size w5 ω)
    (hown : b.ownsRow wc.heap.size 45 1 v1 (k + 1) (vs ++ [.slice A6 L.length c6])) (hgr : ω.grownBy b vc.ownBlock) (hat : v1.ownBlock = vc.ownBlock ∨ v1.ownBlock = some ω.heap.size) :
    CoSt wc Z fr vh vq (k + 1) C v1 (vs ++ [.slice A6 L.length c6]) (b.setCell ⟨Z, 1, none⟩ v1) := by
  have DA : Below a.heap.size a ω := bel_then D5 D6
  have hZa : Z < a.heap.size := lt_of_block s.box
  have hZc : ∀ j, vc.ownBlock = some j → j ≠ Z := fun j hj => own_type s.row s.box (by decide) hj
  have hZω := hup DA s.box
  have hZb : b.heap[Z]? = some (.cells #[.int .u16 fr, vc, .slice none 0 0, vh, vq] 28 (0, 0)) := (hgr.block Z (lt_of_block hZω) (fun e => hZc Z e.symm rfl)).trans hZω
  have hZv : ∀ j, v1.ownBlock = some j → j ≠ Z := fun j hj => own_type hown hZb (by decide) hj
  have kb : Kept (fun j => vc.ownBlock = some j) a b := (Kept.of_below DA).trans (grown_kept hgr)
  have kz : Kept (fun j => j = Z) b (b.setCell ⟨Z, 1, none⟩ v1) := (Kept.refl (fun j => j = Z) b).setCell (p := ⟨Z, 1, none⟩) (.inl rfl) _
  have hsz : b.heap.size ≤ (b.setCell ⟨Z, 1, none⟩ v1).heap.size := kz.size
  have hca := s.kept.size
  have hZ0 := s.hZ
  refine ⟨?_, ?_, ?_, by simp [s.len], s.hZ, fun i M hi hM => ?_⟩
  · exact (s.kept.then_ kb (fun j hj => .inr (own_base s.row j hj))).trans kz
  · have := heap_setCell_at (off := 1) hZb v1
    simpa using this
  · exact own_kept hown kz hZv
  · rcases Nat.lt_succ_iff_lt_or_eq.1 hi with q | rfl
    · obtain ⟨u, hu, h1, hw, hb⟩ := s.each i M q hM
      refine ⟨u, by rw [List.getElem?_append_left (by rw [s.len]; exact q)]; exact hu, h1, ?_, ?_⟩
      · rcases hb with rfl | hb
        · exact elems_nil hw
        · refine elems_same (w := a) (fun _ _ q => q) hw (fun j hj => ?_)
          have h2 := hb j hj
          exact (kz.block j (Nat.lt_of_lt_of_le h2.2.1 kb.size) (by omega)).trans (kb.block j h2.2.1 h2.2.2)
      · refine hb.imp id (fun hb j hj => ?_)
        have h2 := hb j hj
        refine ⟨h2.1, by have := kb.size; omega, fun e => ?_⟩
        rcases hat with h | h
        · exact h2.2.2 (by rw [← h]; exact e)
        · rw [h] at e
          injection e with e
          have := DA.size
          omega
    · rw [hL] at hM
      injection hM with hM
      subst hM
      refine ⟨.slice A6 L.length c6, by rw [← s.len, List.getElem?_append_right (Nat.le_refl _)]; simp, rfl, ?_, ?_⟩
      · rcases o5 with rfl | o5
        · exact elems_nil e5
        · refine elems_same (w := w5) (fun _ _ q => q) e5 (fun j hj => ?_)
          have h2 := own_base o5 j hj
          have h3 := own_lt o5 j hj
          have h4 := D6.size
          refine (kz.block j (Nat.lt_of_lt_of_le h3 (Nat.le_trans h4 hgr.size)) (by omega)).trans ((hgr.block j (by omega) (fun e => ?_)).trans (D6.block j h3))
          have := own_lt s.row j e.symm
          omega
      · refine o5.imp id (fun o5 j hj => ?_)
        have h2 := own_base o5 j hj
        have h3 := own_lt o5 j hj
        have h4 := D6.size
        have h5 := hgr.size
        refine ⟨by omega, by omega, fun e => ?_⟩
        rcases hat with h | h
        · rw [h] at e
          have := own_lt s.row j e
          omega
        · rw [h] at e
          injection e with e
          omega
/-- A partition's cells, with its two rows. -/
abbrev PartT : Type := PartR × Value × Value
def PartT.vals (t : PartT) : List Value := PartR.vals t.2.1 t.2.2 t.1
theorem PartT.len (t : PartT) : (PartT.vals t).length = 6 := rfl
def inRow (lo hi : Nat) (vp u : Value) : Prop := ∀ b, u.ownBlock = some b → lo ≤ b ∧ b < hi ∧ vp.ownBlock ≠ some b
theorem part_of_cells {w : World} {sv pv : Value} {x : PartR} (h : PartAt w sv pv x) : rd77.R w (PartR.vals sv pv x) x := by
  obtain ⟨S, e, p, A, u⟩ := x
  obtain ⟨hs, hp, he, hl, h0, h1, h2⟩ := h
  match A, hl with
  | [x0, x1, x2], _ =>
    have w0 : ∀ z : Int, 0 ≤ z ∧ z ≤ 255 → (Lit.int .u8 z).wf = true := fun z hz => by
      simp [Lit.wf, IntKind.min, IntKind.max, IntKind.signed, IntKind.bits]; omega
    refine ⟨[sv], _, rfl, ⟨sv, rfl, hs⟩, [.int .u8 e], _, rfl, ⟨rfl, w0 _ he⟩, [pv], _, rfl, ⟨pv, rfl, hp⟩, [.int .u8 x0, .int .u8 x1, .int .u8 x2], _, rfl, ⟨rfl, rfl, fun i hi => ?_⟩, rfl⟩
    have hi3 : i < 3 := hi
    match i, hi3 with
    | 0, _ => exact ⟨rfl, w0 _ h0⟩
    | 1, _ => exact ⟨rfl, w0 _ h1⟩
    | 2, _ => exact ⟨rfl, w0 _ h2⟩
structure PaSt (wm : World) (Z : Nat) (fr : Int) (vc vh vq : Value) (k : Nat) (A : List PartR) (vp : Value) (ts : List PartT) (a : World) : Prop where
  kept : Kept (fun j => j = Z) wm a
  box : a.heap[Z]? = some (.cells #[.int .u16 fr, vc, vp, vh, vq] 28 (0, 0))
  row : a.ownsRow wm.heap.size 77 6 vp ts.length (ts.flatMap PartT.vals)
  map : ts.map (·.1) = A.take k
  hZ : Z < wm.heap.size
  each : ∀ t ∈ ts, PartAt a t.2.1 t.2.2 t.1 ∧ t.2.1.oneCell' = true ∧ t.2.2.oneCell' = true ∧ (PartR.sems t.1 = [] ∨ inRow wm.heap.size a.heap.size vp t.2.1) ∧ (PartR.procs t.1 = [] ∨ inRow wm.heap.size a.heap.size vp t.2.2)
theorem PaSt.start {wm : World} {Z : Nat} {fr : Int} {vc vh vq : Value} {A : List PartR} (h : wm.heap[Z]? = some (.cells #[.int .u16 fr, vc, .slice none 0 0, vh, vq] 28 (0, 0))) (hZ : Z < wm.heap.size) : PaSt wm Z fr vc vh vq 0 A (.slice none 0 0) [] wm :=
  ⟨Kept.refl _ _, h, own_nil _ _ _ _, rfl, hZ, fun t ht => by cases ht⟩
theorem box6z {w : World} {B : Nat} {x0 x1 x2 x3 x4 x5 : Value} {t : TypeId} (h : w.heap[B]? = some (.cells #[x0, x1, x2, x3, x4, x5] t (0, 0))) : w.cell? ⟨B, 0, none⟩ = some x0 ∧ w.cell? ⟨B, 1, none⟩ = some x1 ∧ w.cell? ⟨B, 2, none⟩ = some x2 ∧ w.cell? ⟨B, 3, none⟩ = some x3 ∧ w.cell? ⟨B, 4, none⟩ = some x4 ∧ w.cell? ⟨B, 5, none⟩ = some x5 ∧
    w.frozen? ⟨B, 0, none⟩ = false ∧ w.frozen? ⟨B, 2, none⟩ = false := by
  simp [World.cell?, World.frozen?, h]
theorem fresh_set {α : Type} {w : World} {base size T i : Nat} {e : TypeId} {R : World → List Value → α → Prop} {f : α → List Value} {v u : Value} {L : List α} (hR : ∀ w' cs x, R w cs x → R w' cs x) (he : Elems w size R v L) (o : L = [] ∨ w.ownsRow base e size v L.length (L.flatMap f)) (hT : T < base) :
    Elems (w.setCell ⟨T, i, none⟩ u) size R v L ∧ (L = [] ∨ (w.setCell ⟨T, i, none⟩ u).ownsRow base e size v L.length (L.flatMap f)) := by
  have k : Kept (fun j => j = T) w (w.setCell ⟨T, i, none⟩ u) := (Kept.refl (fun j => j = T) w).setCell (p := ⟨T, i, none⟩) (.inl rfl) _
  rcases o with rfl | o
  · exact ⟨elems_nil he, .inl rfl⟩
  · exact ⟨elems_same (w := w) (fun _ _ q => hR _ _ _ q) he (fun b hb => k.block b (own_lt o b hb) (by have := own_base o b hb; omega)), .inr (own_kept o k (fun b hb => by have := own_base o b hb; omega))⟩
theorem inRow_of {w : World} {base lo n size : Nat} {e : TypeId} {v vp : Value} {xs : List Value} (o : w.ownsRow base e size v n xs) (hb : lo ≤ base) (hv : ∀ b, vp.ownBlock = some b → b < base) : inRow lo w.heap.size vp v := fun b h => by
  have h1 := own_base o b h
  have h2 := own_lt o b h
  exact ⟨by omega, h2, fun e => by have := hv b e; omega⟩
theorem inRow.up {lo hi hi' nx : Nat} {vp v1 u : Value} (h : inRow lo hi vp u) (hh : hi ≤ hi') (hat : v1.ownBlock = vp.ownBlock ∨ v1.ownBlock = some nx) (hn : hi ≤ nx) : inRow lo hi' v1 u := fun b hb => by
  obtain ⟨h1, h2, h3⟩ := h b hb
  refine ⟨h1, by omega, fun e => ?_⟩
  rcases hat with q | q
  · exact h3 (by rw [← q]; exact e)
  · rw [q] at e; injection e with e; omega
theorem part_same {w w' : World} {sv pv vp : Value} {x : PartR} {lo hi : Nat} (h : PartAt w sv pv x) (hs : PartR.sems x = [] ∨ inRow lo hi vp sv) (hp : PartR.procs x = [] ∨ inRow lo hi vp pv) (hk : ∀ b, lo ≤ b → b < hi → vp.ownBlock ≠ some b → w'.heap[b]? = w.heap[b]?) : PartAt w' sv pv x := by
  refine ⟨?_, ?_, h.ev, h.len, h.a0, h.a1, h.a2⟩
  · have h1 := h.sems
    rcases hs with e | hs
    · rw [e] at h1 ⊢; exact elems_nil h1
    · exact elems_same (w := w) (fun _ _ q => q) h1 (fun b hb => by obtain ⟨a, b', c⟩ := hs b hb; exact hk b a b' c)
  · have h1 := h.procs
    rcases hp with e | hp
    · rw [e] at h1 ⊢; exact elems_nil h1
    · exact elems_same (w := w) (fun _ _ q => q) h1 (fun b hb => by obtain ⟨a, b', c⟩ := hp b hb; exact hk b a b' c)
theorem PaSt.push {wm a W8 b : World} {Z : Nat} {fr : Int} {vc vh vq vp v1 : Value} {k : Nat} {A : List PartR} {ts : List PartT} {X : PartR} {sv pv : Value} (s : PaSt wm Z fr vc vh vq k A vp ts a) (hX : A[k]? = some X) (D8 : Below a.heap.size a W8) (h8 : PartAt W8 sv pv X) (hs1 : sv.oneCell' = true) (hp1 : pv.oneCell' = true)
    (hs : PartR.sems X = [] ∨ W8.ownsRow a.heap.size 143 2 sv (PartR.sems X).length ((PartR.sems X).flatMap SemR.vals)) (hp : PartR.procs X = [] ∨ W8.ownsRow a.heap.size 5 1 pv (PartR.procs X).length ((PartR.procs X).flatMap fun n => [.int .u8 n]))
    (hown : b.ownsRow wm.heap.size 77 6 v1 (ts.length + 1) (ts.flatMap PartT.vals ++ PartR.vals sv pv X)) (hgr : W8.grownBy b vp.ownBlock) (hat : v1.ownBlock = vp.ownBlock ∨ v1.ownBlock = some (W8.heap.size + 1)) :
    PaSt wm Z fr vc vh vq (k + 1) A v1 (ts ++ [(X, sv, pv)]) (b.setCell ⟨Z, 2, none⟩ v1) := by
  have hZ0 := s.hZ
  have hZa : Z < a.heap.size := lt_of_block s.box
  have hZω := hup D8 s.box
  have hZc : ∀ j, vp.ownBlock = some j → j ≠ Z := fun j hj => own_type s.row s.box (by decide) hj
  have hZb : b.heap[Z]? = some (.cells #[.int .u16 fr, vc, vp, vh, vq] 28 (0, 0)) := (hgr.block Z (lt_of_block hZω) (fun e => hZc Z e.symm rfl)).trans hZω
  have hZv : ∀ j, v1.ownBlock = some j → j ≠ Z := fun j hj => own_type hown hZb (by decide) hj
  have kb : Kept (fun j => vp.ownBlock = some j) a b := (Kept.of_below D8).trans (grown_kept hgr)
  have kz : Kept (fun j => j = Z) b (b.setCell ⟨Z, 2, none⟩ v1) := (Kept.refl (fun j => j = Z) b).setCell (p := ⟨Z, 2, none⟩) (.inl rfl) _
  have hca := s.kept.size
  have hvl : ∀ j, vp.ownBlock = some j → j < a.heap.size := fun j hj => own_lt s.row j hj
  have h1 := D8.size
  have h2 := hgr.size
  have h3 := kz.size
  have hs' : PartR.sems X = [] ∨ inRow wm.heap.size W8.heap.size vp sv := hs.imp id (fun o => inRow_of o (by omega) hvl)
  have hp' : PartR.procs X = [] ∨ inRow wm.heap.size W8.heap.size vp pv := hp.imp id (fun o => inRow_of o (by omega) hvl)
  refine ⟨?_, ?_, ?_, ?_, s.hZ, fun t ht => ?_⟩
  · exact (s.kept.then_ kb (fun j hj => .inr (own_base s.row j hj))).trans kz
  · have := heap_setCell_at (off := 2) hZb v1
    simpa using this
  · have := own_kept hown kz hZv
    simpa [PartT.vals] using this
  · rw [List.map_append, s.map, take_snoc hX]; rfl
  · rw [List.mem_append, List.mem_singleton] at ht
    rcases ht with ht | rfl
    · obtain ⟨e1, e2, e3, e4, e5⟩ := s.each t ht
      refine ⟨part_same e1 e4 e5 (fun j a1 a2 a3 => (kz.block j (by omega) (by omega)).trans (kb.block j a2 a3)), e2, e3, e4.imp id (fun q => q.up (by omega) hat (by omega)), e5.imp id (fun q => q.up (by omega) hat (by omega))⟩
    · exact ⟨part_same h8 hs' hp' (fun j a1 a2 a3 => (kz.block j (by omega) (by omega)).trans (hgr.block j a2 (fun e => a3 e.symm))), hs1, hp1, hs'.imp id (fun q => q.up (by omega) hat (by omega)), hp'.imp id (fun q => q.up (by omega) hat (by omega))⟩
theorem own_same {w w' : World} {base n size : Nat} {e : TypeId} {v : Value} {xs : List Value} (h : w.ownsRow base e size v n xs) (hb : ∀ b, v.ownBlock = some b → w'.heap[b]? = w.heap[b]?) : w'.ownsRow base e size v n xs := by
  refine ⟨h.1, ?_⟩
  rcases h.2 with h0 | ⟨g, cap, cur, rfl, h1, h2, h3⟩
  · exact .inl h0
  · exact .inr ⟨g, cap, cur, rfl, h1, (hb g rfl).trans h2, h3⟩
theorem elems_map {α β : Type} {w : World} {n : Nat} {R : World → List Value → α → Prop} {R' : World → List Value → β → Prop} {v : Value} {ts : List α} (g : α → β) (h : Elems w n R v ts) (hR : ∀ cs t, R w cs t → R' w cs (g t)) : Elems w n R' v (ts.map g) := by
  obtain ⟨a, cap, rfl, h1, h2, h3⟩ := h
  refine ⟨a, cap, by simp, by simpa using h1, h2, fun hp => ?_⟩
  obtain ⟨ad, rfl, h4⟩ := h3 (by simpa using hp)
  refine ⟨ad, rfl, fun i hi => ?_⟩
  obtain ⟨cs, e, hc, hr⟩ := h4 i (by simpa using hi)
  exact ⟨cs, e, hc, by simpa using hR _ _ hr⟩
theorem CoSt.read {wc wm W : World} {Z : Nat} {fr : Int} {vh vq vc : Value} {C : List (List Win)} {vs : List Value} (s : CoSt wc Z fr vh vq C.length C vc vs wm) (h : ∀ j, wc.heap.size ≤ j → j < wm.heap.size → W.heap[j]? = wm.heap[j]?) : Cores W vc C := by
  have hrow := own_same (w' := W) s.row (fun b hb => h b (own_base s.row b hb) (own_lt s.row b hb))
  have hz : ((vs.zip C).flatMap fun t => [t.1]) = vs := by
    have h1 : (vs.zip C).map (·.1) = vs := List.map_fst_zip (by rw [s.len]; exact Nat.le_refl _)
    rw [← List.map_eq_flatMap]; exact h1
  have hlz : (vs.zip C).length = C.length := by rw [List.length_zip, s.len, Nat.min_self]
  have he : Elems W 1 (fun w cs (t : Value × List Win) => cs = [t.1] ∧ Wins w t.1 t.2) vc (vs.zip C) := by
    refine elems_own (fun t => [t.1]) (by decide) (by rw [hz, hlz]; exact hrow) (fun t ht => ⟨⟨rfl, ?_⟩, rfl⟩)
    obtain ⟨i, hi, rfl⟩ := List.getElem_of_mem ht
    rw [hlz] at hi
    obtain ⟨u, hu, _, hw, hb⟩ := s.each i _ hi (List.getElem?_eq_getElem hi)
    have e1 : (vs.zip C)[i]'(by rw [hlz]; exact hi) = (u, C[i]) := by
      rw [List.getElem_zip]
      obtain ⟨hi2, e⟩ := List.getElem?_eq_some_iff.1 hu
      rw [e]
    rw [e1]
    rcases hb with e | hb
    · show Wins W u C[i]
      rw [e] at hw ⊢
      exact elems_nil hw
    · exact elems_same (w := wm) (fun _ _ q => q) hw (fun b q => by obtain ⟨a1, a2, _⟩ := hb b q; exact h b a1 a2)
  have := elems_map (R' := rd45.R) (fun t : Value × List Win => t.2) he (fun cs t ⟨e, q⟩ => ⟨t.1, e, q⟩)
  rwa [List.map_snd_zip (by rw [s.len]; exact Nat.le_refl _)] at this
theorem PaSt.read {wm a W : World} {Z : Nat} {fr : Int} {vc vh vq vp : Value} {A : List PartR} {ts : List PartT} (s : PaSt wm Z fr vc vh vq A.length A vp ts a) (h : ∀ j, wm.heap.size ≤ j → j < a.heap.size → W.heap[j]? = a.heap[j]?) : Parts W vp A := by
  have hm := s.map
  rw [List.take_length] at hm
  have hrow := own_same (w' := W) s.row (fun b hb => h b (own_base s.row b hb) (own_lt s.row b hb))
  have he : Elems W 6 (fun w cs (t : PartT) => cs = PartT.vals t ∧ PartAt w t.2.1 t.2.2 t.1) vp ts := by
    refine elems_own PartT.vals (by decide) hrow (fun t ht => ⟨⟨rfl, ?_⟩, rfl⟩)
    obtain ⟨e1, _, _, e4, e5⟩ := s.each t ht
    exact part_same e1 e4 e5 (fun j a1 a2 _ => h j a1 a2)
  have := elems_map (R' := rd77.R) (fun t : PartT => t.1) he (fun cs t ⟨e, q⟩ => by subst e; exact part_of_cells q)
  rwa [hm] at this
/-- What Copy hands back. -/
structure CopyR (w w' : World) (P : Plan) (vc vp vh vq : Value) : Prop where
  below : Below w.heap.size w w'
  at_ : PlanAt w' vc vp vh vq P
  own : Plan.chans P = [] ∨ w'.ownsRow w.heap.size 129 6 vh (Plan.chans P).length ((Plan.chans P).flatMap ChanR.vals)
  stab : ∀ W, Kept (fun k => (Plan.chans P ≠ [] ∧ vh.ownBlock = some k) ∨ k < w.heap.size) w' W → Cores W vc (Plan.cores P) ∧ Parts W vp (Plan.parts P) ∧ Pairs W vq (Plan.pairs P)
def CopyP (w : World) (P : Plan) (e : Ending) (w' : World) : Prop := ∃ a0 c0 a1 c1 a2 c2 a3 c3, e = .returned (.agg #[.int .u16 (Plan.frame P), .slice a0 (Plan.cores P).length c0, .slice a1 (Plan.parts P).length c1, .slice a2 (Plan.chans P).length c2, .slice a3 (Plan.pairs P).length c3]) ∧ CopyR w w' P (.slice a0 (Plan.cores P).length c0) (.slice a1 (Plan.parts P).length c1) (.slice a2 (Plan.chans P).length c2) (.slice a3 (Plan.pairs P).length c3)
theorem CopyR.of {w W1 wc wm wr w' : World} {P : Plan} {Y Z : Nat} {A5 A9 : Option Addr} {c5 c9 : Nat} {vc vp : Value} {vs : List Value} {ts : List PartT} (hfr : 0 ≤ Plan.frame P ∧ Plan.frame P ≤ 65535) (hY : Y < W1.heap.size) (hwY : w.heap.size ≤ Y) (hb : Below w.heap.size w W1) (S0 : CpSt W1 P Z A5 c5 A9 c9 wc)
    (S1 : CoSt wc Z (Plan.frame P) (.slice A5 (Plan.chans P).length c5) (.slice A9 (Plan.pairs P).length c9) (Plan.cores P).length (Plan.cores P) vc vs wm)
    (S2 : PaSt wm Z (Plan.frame P) vc (.slice A5 (Plan.chans P).length c5) (.slice A9 (Plan.pairs P).length c9) (Plan.parts P).length (Plan.parts P) vp ts wr) (k : Kept (fun j => j = Y) wr w') :
    CopyR w w' P vc vp (.slice A5 (Plan.chans P).length c5) (.slice A9 (Plan.pairs P).length c9) := by
  have hZ1 := S0.hZ
  have hZc := lt_of_block S0.box
  have z1 := S0.below.size
  have z2 := S1.kept.size
  have z3 := S2.kept.size
  have hbw := hb.size
  have kk : ∀ j, j < wc.heap.size → j ≠ Z → j ≠ Y → w'.heap[j]? = wc.heap[j]? := fun j h1 h2 h3 => (k.block j (by omega) h3).trans ((S2.kept.block j (by omega) h2).trans (S1.kept.block j h1 h2))
  have k2 : ∀ j, W1.heap.size ≤ j → j < wr.heap.size → w'.heap[j]? = wr.heap[j]? := fun j h1 h2 => k.block j h2 (by omega)
  have own' := S0.own.imp id (fun h => own_same (w' := w') h (fun b q => kk b (own_lt h b q) (own_type h S0.box (by decide) q) (by have := own_base h b q; omega)))
  have ownQ' := S0.ownQ.imp id (fun h => own_same (w' := w') h (fun b q => kk b (own_lt h b q) (own_type h S0.box (by decide) q) (by have := own_base h b q; omega)))
  have hch : Chans w' (.slice A5 (Plan.chans P).length c5) (Plan.chans P) := by
    have := S0.chans
    rcases S0.own with e | h
    · rw [e] at this ⊢; exact elems_nil this
    · exact elems_same (w := wc) (fun _ _ q => q) this (fun b q => kk b (own_lt h b q) (own_type h S0.box (by decide) q) (by have := own_base h b q; omega))
  have hpr : Pairs w' (.slice A9 (Plan.pairs P).length c9) (Plan.pairs P) := by
    have := S0.pairs
    rcases S0.ownQ with e | h
    · rw [e] at this ⊢; exact elems_nil this
    · exact elems_same (w := wc) (fun _ _ q => q) this (fun b q => kk b (own_lt h b q) (own_type h S0.box (by decide) q) (by have := own_base h b q; omega))
  have hrd : ∀ W, (∀ j, wc.heap.size ≤ j → j < wr.heap.size → W.heap[j]? = w'.heap[j]?) → Cores W vc (Plan.cores P) ∧ Parts W vp (Plan.parts P) := fun W h =>
    ⟨S1.read (fun j a1 a2 => (h j a1 (by omega)).trans ((k2 j (by omega) (by omega)).trans (S2.kept.block j a2 (by omega)))), S2.read (fun j a1 a2 => (h j (by omega) a2).trans (k2 j (by omega) a2))⟩
  have hbel : Below w.heap.size w w' := by
    have h1 : Below w.heap.size w wc := bel_then hb S0.below
    have h2 := h1.trans (S1.kept.below h1.size (fun j e => by omega))
    have h3 := h2.trans (S2.kept.below h2.size (fun j e => by omega))
    exact h3.trans (k.below h3.size (fun j e => by omega))
  refine ⟨hbel, ⟨hfr, (hrd w' (fun _ _ _ => rfl)).1, (hrd w' (fun _ _ _ => rfl)).2, hch, hpr⟩, own'.imp id (fun h => own_down h (by omega)), fun W hW => ?_⟩
  have hlt : ∀ b, Plan.chans P ≠ [] → (Value.slice A5 (Plan.chans P).length c5).ownBlock = some b → b < wc.heap.size := fun b hne q => own_lt (S0.own.resolve_left hne) b q
  have hw := hrd W (fun j a1 a2 => hW.block j (by have := k.size; omega) (fun e => by
    rcases e with ⟨hne, e⟩ | e
    · have := hlt j hne e; omega
    · omega))
  refine ⟨hw.1, hw.2, ?_⟩
  rcases ownQ' with e | h
  · rw [e] at hpr ⊢; exact elems_nil hpr
  · refine elems_same (w := w') (fun _ _ q => q) hpr (fun b q => hW.block b (own_lt h b q) (fun e => ?_))
    rcases e with ⟨hne, e⟩ | e
    · rcases (own'.resolve_left hne).2 with ⟨e1, _⟩ | ⟨g, cap, cur, e1, _, hg, _⟩
      · rw [e1] at e; cases e
      · rw [e1] at e
        have : g = b := by simpa [Value.ownBlock] using e
        subst this
        exact own_type h hg (by decide) q rfl
    · have := own_base h b q
      omega
set_option maxHeartbeats 12800000 in
set_option maxRecDepth 100000 in
theorem copy_any (w : World) (v : Value) (P : Plan) (hv : PlanV w v P) (hlH : (Plan.chans P).length ≤ 100000) (hlQ : (Plan.pairs P).length ≤ 100000) (hlC : (Plan.cores P).length ≤ 100000) (hLb : ∀ L ∈ Plan.cores P, L.length ≤ 1000000) (hAb : ∀ x ∈ Plan.parts P, (PartR.sems x).length ≤ 1000000 ∧ (PartR.procs x).length ≤ 1000000) (hlA' : (Plan.parts P).length ≤ 100000) :
    Calls Tryd.prog 37 #[v] w (CopyP w P) := by
  have HV := Aside.mk hv
  obtain ⟨a0, c0, a1, c1, a2, c2, a3, c3, rfl, hp, hlen⟩ := hv.open_
  have HP := Aside.mk hp
  obtain ⟨i0, i1⟩ := hp.frame
  obtain ⟨W1, HW⟩ : ∃ W1, Aside (W1 = (w.alloc (.cells #[.int .u16 (Plan.frame P), .slice a0 (Plan.cores P).length c0, .slice a1 (Plan.parts P).length c1, .slice a2 (Plan.chans P).length c2, .slice a3 (Plan.pairs P).length c3] 28)).alloc (.cells #[.int .u16 0, .slice none 0 0, .slice none 0 0, .slice none 0 0, .slice none 0 0] 28)) := ⟨_, ⟨rfl⟩⟩
  have hb1 : Aside (Below w.heap.size w W1 ∧ W1.heap[w.heap.size]? = some (.cells #[.int .u16 (Plan.frame P), .slice a0 (Plan.cores P).length c0, .slice a1 (Plan.parts P).length c1, .slice a2 (Plan.chans P).length c2, .slice a3 (Plan.pairs P).length c3] 28 (0, 0)) ∧ W1.heap[w.heap.size + 1]? = some (.cells #[.int .u16 0, .slice none 0 0, .slice none 0 0, .slice none 0 0, .slice none 0 0] 28 (0, 0)) ∧ W1.heap.size = w.heap.size + 1 + 1) := ⟨by
    rw [HW.out]; exact ⟨bel_two _ _ _, heap_up (heap_alloc_new _ _), heap_top _ _ _ (by simp), by simp⟩⟩
  clear hp hv
  go_enter Tryd.func37, Tryd.ntmps37
  go_upto_region 1 with (fail)
  rw [← HW.out]
  have BW1 : Below W1.heap.size W1 W1 := Below.refl _ _
  have hlW : w.heap.size < W1.heap.size := by rw [hb1.out.2.2.2]; omega
  have r11 : w.heap.size < W1.heap.size + 1 := by omega
  have r12 : w.heap.size < W1.heap.size + 1 + 1 := by omega
  have r13 : w.heap.size ≤ W1.heap.size := by omega
  have r14 : w.heap.size ≤ W1.heap.size + 1 := by omega
  have q10 : w.heap.size ≠ W1.heap.size := by omega
  have q11 : w.heap.size ≠ W1.heap.size + 1 := by omega
  have q12 : w.heap.size ≠ W1.heap.size + 1 + 1 := by omega
  obtain ⟨g0, g1, g2, g3, g4⟩ := box5 hb1.out.2.1
  go_cut [3] (fun q wc => ∃ (Z : Nat) (A5 : Option Addr) (c5 : Nat) (A9 : Option Addr) (c9 : Nat), q = .pointer (some ⟨Z, 0, none⟩) ∧ Aside (CpSt W1 P Z A5 c5 A9 c9 wc))
  case first =>
   go_region_held3 (fun w' => w'.cell? ⟨w.heap.size, 0, none⟩ = some (.int .u16 (Plan.frame P)) ∧ w'.cell? ⟨w.heap.size, 1, none⟩ = some (.slice a0 (Plan.cores P).length c0) ∧ w'.cell? ⟨w.heap.size, 2, none⟩ = some (.slice a1 (Plan.parts P).length c1) ∧ w'.cell? ⟨w.heap.size, 3, none⟩ = some (.slice a2 (Plan.chans P).length c2) ∧ w'.cell? ⟨w.heap.size, 4, none⟩ = some (.slice a3 (Plan.pairs P).length c3)) (first | (with_reducible exact box5 X9) | (with_reducible exact box5 X5) | (with_reducible exact box5 hb1.out.2.1) | (with_reducible exact box5_a1 X9) | (with_reducible exact box5_a1 X5) | (with_reducible exact box5_a1 hb1.out.2.1) | (with_reducible exact box5_a1d X9) | (with_reducible exact box5_a1d X5) | (with_reducible exact box5_a1d hb1.out.2.1) | (with_reducible exact box5_a2 X9) | (with_reducible exact box5_a2 X5) | (with_reducible exact box5_a2 hb1.out.2.1) | (with_reducible exact box5_a2d X9) | (with_reducible exact box5_a2d X5) | (with_reducible exact box5_a2d hb1.out.2.1) | (with_reducible exact box5_a3 X9) | (with_reducible exact box5_a3 X5) | (with_reducible exact box5_a3 hb1.out.2.1) | (with_reducible exact box5_a3d X9) | (with_reducible exact box5_a3d X5) | (with_reducible exact box5_a3d hb1.out.2.1) | (with_reducible exact box5 (set5_other X9 q10)) | (with_reducible exact box5 (set5_other X9 q11)) | (with_reducible exact box5 (set5_other X9 q12)) | (with_reducible exact box5 (set5_other X9 q50)) | (with_reducible exact box5 (set5_other X9 q51)) | (with_reducible exact box5 (set5_other X9 q52)) | (with_reducible exact box5 (set5_other X9 q90)) | (with_reducible exact box5 (set5_other X9 q91)) | (with_reducible exact box5 (set5_other X9 q92)) | (with_reducible exact box5 (set5_other X5 q10)) | (with_reducible exact box5 (set5_other X5 q11)) | (with_reducible exact box5 (set5_other X5 q12)) | (with_reducible exact box5 (set5_other X5 q50)) | (with_reducible exact box5 (set5_other X5 q51)) | (with_reducible exact box5 (set5_other X5 q52)) | (with_reducible exact box5 (set5_other X5 q90)) | (with_reducible exact box5 (set5_other X5 q91)) | (with_reducible exact box5 (set5_other X5 q92)) | go_keep)
    (first
      | (refine step_append_fresh (by rfl) _ _ 25 129 _ 6 8 rd129.R ChanR.vals (Plan.chans P) (by rfl) Tryd.underlying25 A_info_chan (by rfl) (by decide) (by decide) _ a2 (Plan.chans P).length c2 (by rfl) (by rfl) (chans_below HP.out.chans (bel_then hb1.out.1 (by repeat (first | assumption | apply bel_drew | apply bel_alloc)))) (fun _ _ _ h => (chan_cells h).1) (fun h k => rd129.below h k) chan_one (by omega) ?_; intro A5 c5 w5 b5 e5 o5; have B5 : Below W1.heap.size W1 w5 := bel_then (by repeat (first | assumption | apply bel_drew | apply bel_alloc)) b5; have n5 : w.heap.size < w5.heap.size := Nat.lt_of_lt_of_le hlW B5.size; have r51 : w.heap.size < w5.heap.size + 1 := (by omega); have r52 : w.heap.size < w5.heap.size + 1 + 1 := (by omega); have r53 : w.heap.size ≤ w5.heap.size := (by omega); have r54 : w.heap.size ≤ w5.heap.size + 1 := (by omega); have q50 : w.heap.size ≠ w5.heap.size := (by omega); have q51 : w.heap.size ≠ w5.heap.size + 1 := (by omega); have q52 : w.heap.size ≠ w5.heap.size + 1 + 1 := (by omega); have X5 := (B5.block _ (lt_of_block hb1.out.2.1)).trans hb1.out.2.1; obtain ⟨x50, x51, x52, x53, x54⟩ := box5 X5; have s5 := bsz B5; have EC : Chans w5 (.slice A5 (Plan.chans P).length c5) (Plan.chans P) := e5; have PC := (o5.imp id (fun h => own_down h (bsz (by repeat (first | assumption | apply bel_drew | apply bel_alloc)))) : Plan.chans P = [] ∨ w5.ownsRow W1.heap.size 129 6 (.slice A5 (Plan.chans P).length c5) (Plan.chans P).length ((Plan.chans P).flatMap ChanR.vals)); (first | (have D : Below w9.heap.size w9 w5 := bel_then (by repeat (first | exact Below.refl _ _ | apply bel_drew | apply bel_alloc)) b5; have EP := pairs_below EP D; have PP := PP.imp id (fun h => own_below h D)) | skip); (first | (with_reducible have Z : w5.heap[W1.heap.size]? = some (.cells #[.int .u16 0, .slice none 0 0, .slice none 0 0, .slice none 0 0, .slice none 0 0] 28 (0, 0)) := hup b5 tz00d; obtain ⟨y0, y1, y2, y3, y4, f0, f1, f2, f3, f4⟩ := boxz Z) | (with_reducible have Z : w5.heap[W1.heap.size]? = some (.cells #[.int .u16 0, .slice none 0 0, .slice none 0 0, .slice none 0 0, .slice none 0 0] 28 (0, 0)) := hup b5 tz01d; obtain ⟨y0, y1, y2, y3, y4, f0, f1, f2, f3, f4⟩ := boxz Z) | (with_reducible have Z : w5.heap[W1.heap.size]? = some (.cells #[.int .u16 0, .slice none 0 0, .slice none 0 0, .slice none 0 0, .slice none 0 0] 28 (0, 0)) := hup b5 tz02d; obtain ⟨y0, y1, y2, y3, y4, f0, f1, f2, f3, f4⟩ := boxz Z) | (with_reducible have Z : w5.heap[W1.heap.size + 1]? = some (.cells #[.int .u16 0, .slice none 0 0, .slice none 0 0, .slice none 0 0, .slice none 0 0] 28 (0, 0)) := hup b5 tz10d; obtain ⟨y0, y1, y2, y3, y4, f0, f1, f2, f3, f4⟩ := boxz Z) | (with_reducible have Z : w5.heap[W1.heap.size + 1]? = some (.cells #[.int .u16 0, .slice none 0 0, .slice none 0 0, .slice none 0 0, .slice none 0 0] 28 (0, 0)) := hup b5 tz11d; obtain ⟨y0, y1, y2, y3, y4, f0, f1, f2, f3, f4⟩ := boxz Z) | (with_reducible have Z : w5.heap[W1.heap.size + 1 + 1]? = some (.cells #[.int .u16 0, .slice none 0 0, .slice none 0 0, .slice none 0 0, .slice none 0 0] 28 (0, 0)) := hup b5 tz20d; obtain ⟨y0, y1, y2, y3, y4, f0, f1, f2, f3, f4⟩ := boxz Z) | (with_reducible have Z : w5.heap[w9.heap.size]? = some (.cells #[.int .u16 0, .slice none 0 0, .slice none 0 0, .slice none 0 0, .slice none 0 0] 28 (0, 0)) := hup b5 tz00; obtain ⟨y0, y1, y2, y3, y4, f0, f1, f2, f3, f4⟩ := boxz Z) | (with_reducible have Z : w5.heap[w9.heap.size]? = some (.cells #[.int .u16 0, .slice none 0 0, .slice none 0 0, .slice none 0 0, .slice none 0 0] 28 (0, 0)) := hup b5 tz01; obtain ⟨y0, y1, y2, y3, y4, f0, f1, f2, f3, f4⟩ := boxz Z) | (with_reducible have Z : w5.heap[w9.heap.size]? = some (.cells #[.int .u16 0, .slice none 0 0, .slice none 0 0, .slice none 0 0, .slice none 0 0] 28 (0, 0)) := hup b5 tz02; obtain ⟨y0, y1, y2, y3, y4, f0, f1, f2, f3, f4⟩ := boxz Z) | (with_reducible have Z : w5.heap[w9.heap.size + 1]? = some (.cells #[.int .u16 0, .slice none 0 0, .slice none 0 0, .slice none 0 0, .slice none 0 0] 28 (0, 0)) := hup b5 tz10; obtain ⟨y0, y1, y2, y3, y4, f0, f1, f2, f3, f4⟩ := boxz Z) | (with_reducible have Z : w5.heap[w9.heap.size + 1]? = some (.cells #[.int .u16 0, .slice none 0 0, .slice none 0 0, .slice none 0 0, .slice none 0 0] 28 (0, 0)) := hup b5 tz11; obtain ⟨y0, y1, y2, y3, y4, f0, f1, f2, f3, f4⟩ := boxz Z) | (with_reducible have Z : w5.heap[w9.heap.size + 1 + 1]? = some (.cells #[.int .u16 0, .slice none 0 0, .slice none 0 0, .slice none 0 0, .slice none 0 0] 28 (0, 0)) := hup b5 tz20; obtain ⟨y0, y1, y2, y3, y4, f0, f1, f2, f3, f4⟩ := boxz Z) | (with_reducible have Z := hup b5 Z; obtain ⟨y0, y1, y2, y3, y4, f0, f1, f2, f3, f4⟩ := boxz Z) | (with_reducible have Z := hup b5 (tu1 Z); obtain ⟨y0, y1, y2, y3, y4, f0, f1, f2, f3, f4⟩ := boxz Z) | skip))
      | (refine step_append_fresh (by rfl) _ _ 26 90 _ 2 2 rd90.R PairR.vals (Plan.pairs P) (by rfl) Tryd.underlying26 A_info_pair (by rfl) (by decide) (by decide) _ a3 (Plan.pairs P).length c3 (by rfl) (by rfl) (pairs_below HP.out.pairs (bel_then hb1.out.1 (by repeat (first | assumption | apply bel_drew | apply bel_alloc)))) (fun _ _ _ h => (pair_cells h).1) (fun h k => rd90.below h k) pair_one (by omega) ?_; intro A9 c9 w9 b9 e9 o9; have B9 : Below W1.heap.size W1 w9 := bel_then (by repeat (first | assumption | apply bel_drew | apply bel_alloc)) b9; have n9 : w.heap.size < w9.heap.size := Nat.lt_of_lt_of_le hlW B9.size; have r91 : w.heap.size < w9.heap.size + 1 := (by omega); have r92 : w.heap.size < w9.heap.size + 1 + 1 := (by omega); have r93 : w.heap.size ≤ w9.heap.size := (by omega); have r94 : w.heap.size ≤ w9.heap.size + 1 := (by omega); have q90 : w.heap.size ≠ w9.heap.size := (by omega); have q91 : w.heap.size ≠ w9.heap.size + 1 := (by omega); have q92 : w.heap.size ≠ w9.heap.size + 1 + 1 := (by omega); have X9 := (B9.block _ (lt_of_block hb1.out.2.1)).trans hb1.out.2.1; obtain ⟨x90, x91, x92, x93, x94⟩ := box5 X9; have s9 := bsz B9; have EP : Pairs w9 (.slice A9 (Plan.pairs P).length c9) (Plan.pairs P) := e9; have PP := (o9.imp id (fun h => own_down h (bsz (by repeat (first | assumption | apply bel_drew | apply bel_alloc)))) : Plan.pairs P = [] ∨ w9.ownsRow W1.heap.size 90 2 (.slice A9 (Plan.pairs P).length c9) (Plan.pairs P).length ((Plan.pairs P).flatMap PairR.vals)); (first | (have D : Below w5.heap.size w5 w9 := bel_then (by repeat (first | exact Below.refl _ _ | apply bel_drew | apply bel_alloc)) b9; have EC := chans_below EC D; have PC := PC.imp id (fun h => own_below h D)) | skip); (first | (with_reducible have Z : w9.heap[W1.heap.size]? = some (.cells #[.int .u16 0, .slice none 0 0, .slice none 0 0, .slice none 0 0, .slice none 0 0] 28 (0, 0)) := hup b9 tz00d; obtain ⟨y0, y1, y2, y3, y4, f0, f1, f2, f3, f4⟩ := boxz Z) | (with_reducible have Z : w9.heap[W1.heap.size]? = some (.cells #[.int .u16 0, .slice none 0 0, .slice none 0 0, .slice none 0 0, .slice none 0 0] 28 (0, 0)) := hup b9 tz01d; obtain ⟨y0, y1, y2, y3, y4, f0, f1, f2, f3, f4⟩ := boxz Z) | (with_reducible have Z : w9.heap[W1.heap.size]? = some (.cells #[.int .u16 0, .slice none 0 0, .slice none 0 0, .slice none 0 0, .slice none 0 0] 28 (0, 0)) := hup b9 tz02d; obtain ⟨y0, y1, y2, y3, y4, f0, f1, f2, f3, f4⟩ := boxz Z) | (with_reducible have Z : w9.heap[W1.heap.size + 1]? = some (.cells #[.int .u16 0, .slice none 0 0, .slice none 0 0, .slice none 0 0, .slice none 0 0] 28 (0, 0)) := hup b9 tz10d; obtain ⟨y0, y1, y2, y3, y4, f0, f1, f2, f3, f4⟩ := boxz Z) | (with_reducible have Z : w9.heap[W1.heap.size + 1]? = some (.cells #[.int .u16 0, .slice none 0 0, .slice none 0 0, .slice none 0 0, .slice none 0 0] 28 (0, 0)) := hup b9 tz11d; obtain ⟨y0, y1, y2, y3, y4, f0, f1, f2, f3, f4⟩ := boxz Z) | (with_reducible have Z : w9.heap[W1.heap.size + 1 + 1]? = some (.cells #[.int .u16 0, .slice none 0 0, .slice none 0 0, .slice none 0 0, .slice none 0 0] 28 (0, 0)) := hup b9 tz20d; obtain ⟨y0, y1, y2, y3, y4, f0, f1, f2, f3, f4⟩ := boxz Z) | (with_reducible have Z : w9.heap[w5.heap.size]? = some (.cells #[.int .u16 0, .slice none 0 0, .slice none 0 0, .slice none 0 0, .slice none 0 0] 28 (0, 0)) := hup b9 tz00; obtain ⟨y0, y1, y2, y3, y4, f0, f1, f2, f3, f4⟩ := boxz Z) | (with_reducible have Z : w9.heap[w5.heap.size]? = some (.cells #[.int .u16 0, .slice none 0 0, .slice none 0 0, .slice none 0 0, .slice none 0 0] 28 (0, 0)) := hup b9 tz01; obtain ⟨y0, y1, y2, y3, y4, f0, f1, f2, f3, f4⟩ := boxz Z) | (with_reducible have Z : w9.heap[w5.heap.size]? = some (.cells #[.int .u16 0, .slice none 0 0, .slice none 0 0, .slice none 0 0, .slice none 0 0] 28 (0, 0)) := hup b9 tz02; obtain ⟨y0, y1, y2, y3, y4, f0, f1, f2, f3, f4⟩ := boxz Z) | (with_reducible have Z : w9.heap[w5.heap.size + 1]? = some (.cells #[.int .u16 0, .slice none 0 0, .slice none 0 0, .slice none 0 0, .slice none 0 0] 28 (0, 0)) := hup b9 tz10; obtain ⟨y0, y1, y2, y3, y4, f0, f1, f2, f3, f4⟩ := boxz Z) | (with_reducible have Z : w9.heap[w5.heap.size + 1]? = some (.cells #[.int .u16 0, .slice none 0 0, .slice none 0 0, .slice none 0 0, .slice none 0 0] 28 (0, 0)) := hup b9 tz11; obtain ⟨y0, y1, y2, y3, y4, f0, f1, f2, f3, f4⟩ := boxz Z) | (with_reducible have Z : w9.heap[w5.heap.size + 1 + 1]? = some (.cells #[.int .u16 0, .slice none 0 0, .slice none 0 0, .slice none 0 0, .slice none 0 0] 28 (0, 0)) := hup b9 tz20; obtain ⟨y0, y1, y2, y3, y4, f0, f1, f2, f3, f4⟩ := boxz Z) | (with_reducible have Z := hup b9 Z; obtain ⟨y0, y1, y2, y3, y4, f0, f1, f2, f3, f4⟩ := boxz Z) | (with_reducible have Z := hup b9 (tu1 Z); obtain ⟨y0, y1, y2, y3, y4, f0, f1, f2, f3, f4⟩ := boxz Z) | skip)))
   all_goals
     go_wp2_with fail
     go_meet
     case rel => first
       | with_reducible exact ⟨_, _, _, _, _, rfl, ⟨CpSt.of_alloc B9 EC EP PC PP⟩⟩
       | with_reducible exact ⟨_, _, _, _, _, rfl, ⟨CpSt.of_alloc B5 EC EP PC PP⟩⟩
       | (with_reducible refine ⟨_, _, _, _, _, rfl, ⟨CpSt.of_set B9 Z ?_ EC EP PC PP⟩⟩; omega)
       | (with_reducible refine ⟨_, _, _, _, _, rfl, ⟨CpSt.of_set B5 Z ?_ EC EP PC PP⟩⟩; omega)
       | trace_state
  case rest =>
   obtain ⟨Z, A5, c5, A9, c9, rfl, S0⟩ := hcut
   have HH : Aside (W1.heap.size ≤ wc.heap.size ∧ Z < wc.heap.size ∧ W1.heap.size ≤ Z) := ⟨S0.out.below.size, lt_of_block S0.out.box, S0.out.hZ⟩
   have hZl : Z < wc.heap.size := HH.out.2.1
   clear g0 g1 g2 g3 g4 BW1 hlW r11 r12 r13 r14 q10 q11 q12
   have XW := Aside.mk ((S0.out.below.block _ (lt_of_block hb1.out.2.1)).trans hb1.out.2.1)
   obtain ⟨g0, g1, g2, g3, g4⟩ := box5 XW.out
   go_wp2_with fail
   clear g0 g1 g2 g3 g4
   generalize hCC : Plan.cores P = C at *
   have HCo := Aside.mk (show Cores w (.slice a0 C.length c0) C by have := HP.out.cores; rwa [hCC] at this)
   go_loopg [22] C.length (fun g i wr => ∃ (k : Nat), k ≤ C.length ∧ g = C.length - k ∧ i = .int .i64 k ∧ Aside (∃ vc vs, CoSt wc Z (Plan.frame P) (.slice A5 (Plan.chans P).length c5) (.slice A9 (Plan.pairs P).length c9) k C vc vs wr))
   case atStart => exact ⟨0, by omega, rfl, rfl, ⟨.slice none 0 0, [], CoSt.start S0.out.box hZl⟩⟩
   case round =>
     obtain ⟨k, hk, rfl, rfl, ⟨vc, vs, S⟩⟩ := hrel
     have S := Aside.mk S
     have BW : Aside (Below W1.heap.size W1 wr) := ⟨S0.out.below.trans (S.out.kept.below HH.out.1 (fun j e => by have := HH.out.2.2; omega))⟩
     by_cases hkl : k < C.length
     · have hl := List.getElem?_eq_getElem hkl
       obtain ⟨L, hL⟩ : ∃ L, C[k] = L := ⟨_, rfl⟩
       rw [hL] at hl
       obtain ⟨ad2, lv, rfl, hlv, hwins⟩ := (HCo.out.below (bel_then hb1.out.1 BW.out)).at_ k L hl
       obtain ⟨la, lc, rfl, hlL⟩ := hwins.len
       have HL := Aside.mk hl
       have HW2 := Aside.mk hwins
       have hlb : L.length ≤ 1000000 := hLb L (List.mem_of_getElem? hl)
       have x1 := (boxz S.out.box).2.1
       have fz1 := (boxz S.out.box).2.2.2.2.2.2.1
       have hZr : Z < wr.heap.size := lt_of_block S.out.box
       obtain ⟨vcA, vcn, rfl⟩ := own_len S.out.row
       clear hl hL hwins
       go_upto_block 1 with (fail)
       go_cut [] (fun wd => Aside (∃ vc vs, CoSt wc Z (Plan.frame P) (.slice A5 (Plan.chans P).length c5) (.slice A9 (Plan.pairs P).length c9) (k + 1) C vc vs wd))
       case first =>
         go_wp2_with fail
         go_region_law (first
           | (refine step_append_fresh (by rfl) _ _ 45 87 _ 4 6 rd87.R Win.vals L (by rfl) Tryd.underlying45 A_info_win (by rfl) (by decide) (by decide) _ la L.length lc (by rfl) (by rfl) (elems_below HW2.out (by repeat (first | exact Below.refl _ _ | apply bel_drew | apply bel_alloc))) (fun _ _ _ h => (win_cells h).1) (fun h k => rd87.below h k) win_one (by omega) ?_; intro A6 c6 w5 b5 e5 o5; have D5 : Below wr.heap.size wr w5 := bel_then (by repeat (first | exact Below.refl _ _ | apply bel_drew | apply bel_alloc)) b5; have x15 := (Kept.of_below (S := fun _ => False) D5).cell x1 id; have nZ5 : Z < w5.heap.size := Nat.lt_of_lt_of_le hZr (bsz D5); have o5 := o5.imp id (fun h => own_down h (bsz (a := wr) (by repeat (first | exact Below.refl _ _ | apply bel_drew | apply bel_alloc)))))
           | (refine step_append_rows wc.heap.size (by rfl) _ _ 23 45 (.slice none 0 0) 1 24 (by rfl) Tryd.underlying23 A_info_core (by rfl) (by decide) (by decide) (.slice vcA k vcn) k vs [.slice A6 L.length c6] (some ⟨w5.heap.size, 0, none⟩) 1 1 (by rfl) (by rfl) (own_below S.out.row (bel_then D5 (by repeat (first | exact Below.refl _ _ | apply bel_drew | apply bel_alloc)))) (by rfl) (fun _ => ⟨_, rfl, cell_one_new _ _ _⟩) (by simp [Value.oneCell']) (Nat.le_trans S.out.kept.size (bsz (a := wr) (bel_then D5 (by repeat (first | exact Below.refl _ _ | apply bel_drew | apply bel_alloc))))) (by omega) ?_; intro v1 w6 hown hgr hat; obtain ⟨v1A, v1c, rfl⟩ := own_len hown; have X6 := ((hgr.block Z (Nat.lt_of_lt_of_le hZr (bsz (a := wr) (bel_then D5 (by repeat (first | exact Below.refl _ _ | apply bel_drew | apply bel_alloc))))) (fun e => own_type S.out.row S.out.box (by decide) e.symm rfl)).trans (hup (bel_then D5 (by repeat (first | exact Below.refl _ _ | apply bel_drew | apply bel_alloc))) S.out.box)); obtain ⟨y0, y1, y2, y3, y4, f0, f1, f2, f3, f4⟩ := boxz X6))
         all_goals
           go_wp2_with fail
           go_meet
           case rel => exact ⟨_, _, S.out.push D5 HL.out e5 o5 (by repeat (first | exact Below.refl _ _ | apply bel_drew | apply bel_alloc)) hown hgr hat⟩
       case rest =>
         go_wp2_with fail
         go_roundg (C.length - (k + 1))
         case measure => omega
         case rel => exact ⟨k + 1, by omega, rfl, by go_num, hcut⟩
     · obtain rfl : k = C.length := by omega
       obtain ⟨vcA, vcn, rfl⟩ := own_len S.out.row
       have XP := Aside.mk ((BW.out.block _ (lt_of_block hb1.out.2.1)).trans hb1.out.2.1)
       obtain ⟨g0, g1, g2, g3, g4⟩ := box5 XP.out
       have S1 := S
       obtain ⟨wm, hwm⟩ : ∃ wm, wm = wr := ⟨_, rfl⟩
       rw [← hwm] at S1 BW XP g0 g1 g2 g3 g4 ⊢
       clear S hwm
       generalize hAA : Plan.parts P = A at *
       have HPa := Aside.mk (show Parts w (.slice a1 A.length c1) A by have := HP.out.parts; rwa [hAA] at this)
       have hlA : A.length ≤ 9223372036854775807 := (Elems.len HPa.out).choose_spec.choose_spec.2
       have hZm : Z < wm.heap.size := lt_of_block S1.out.box
       go_wp2_with fail
       clear g0 g1 g2 g3 g4
       go_loopg [38] A.length (fun g i wr => ∃ (k : Nat), k ≤ A.length ∧ g = A.length - k ∧ i = .int .i64 k ∧ Aside (∃ vp ts, PaSt wm Z (Plan.frame P) (.slice vcA C.length vcn) (.slice A5 (Plan.chans P).length c5) (.slice A9 (Plan.pairs P).length c9) k A vp ts wr))
       case atStart => exact ⟨0, by omega, rfl, rfl, ⟨.slice none 0 0, [], PaSt.start S1.out.box hZm⟩⟩
       case round =>
         obtain ⟨k, hk, rfl, rfl, ⟨vp, ts, S⟩⟩ := hrel
         have S := Aside.mk S
         have BR : Aside (Below W1.heap.size W1 wr) := ⟨BW.out.trans (S.out.kept.below (bsz BW.out) (fun j e => by have := HH.out.2.2; omega))⟩
         obtain ⟨vpA, vpn, rfl⟩ := own_len S.out.row
         by_cases hkl : k < A.length
         · have hl := List.getElem?_eq_getElem hkl
           obtain ⟨X, hX⟩ : ∃ X, A[k] = X := ⟨_, rfl⟩
           rw [hX] at hl
           obtain ⟨ad3, sv, pv, rfl, d0, d1, d2, d3, d4, d5, pa⟩ := Parts.at_ (elems_below HPa.out (bel_then hb1.out.1 BR.out)) k X hl
           obtain ⟨sa, sc, qa, qc, rfl, rfl, hl1, hl2⟩ := pa.lens
           have PA := Aside.mk pa
           have HL := Aside.mk hl
           have hbd := hAb X (List.mem_of_getElem? hl)
           obtain ⟨W4, HW4⟩ : ∃ W4, Aside (W4 = wr.alloc (.cells #[.slice sa (PartR.sems X).length sc, .int .u8 (PartR.events X), .slice qa (PartR.procs X).length qc, .int .u8 (PartR.a0 X), .int .u8 (PartR.a1 X), .int .u8 (PartR.a2 X)] 77)) := ⟨_, ⟨rfl⟩⟩
           have T4 : Aside (W4.heap[wr.heap.size]? = some (.cells #[.slice sa (PartR.sems X).length sc, .int .u8 (PartR.events X), .slice qa (PartR.procs X).length qc, .int .u8 (PartR.a0 X), .int .u8 (PartR.a1 X), .int .u8 (PartR.a2 X)] 77 (0, 0)) ∧ Below wr.heap.size wr W4) := ⟨by rw [HW4.out]; exact ⟨heap_alloc_new _ _, bel_one _ _⟩⟩
           have hT4 : wr.heap.size < W4.heap.size := lt_of_block T4.out.1
           clear hl hX pa
           go_upto_region 10 with (fail)
           rw [← HW4.out]
           clear d0 d1 d2 d3 d4 d5
           have q0 : W4.cell? ⟨wr.heap.size, 0, none⟩ = some (.slice sa (PartR.sems X).length sc) := by have := T4.out.1; simp [World.cell?, this]
           go_wp2_with (at_builtin; go_loud (refine append_fresh rfl _ _ 72 143 _ 2 2 rd143.R SemR.vals (PartR.sems X) rfl Tryd.underlying72 A_info_sem rfl (by decide) (by decide) _ sa (PartR.sems X).length sc rfl rfl (elems_below PA.out.sems (bel_then T4.out.2 (bel_one _ _))) (fun _ _ _ h => (sem_cells h).1) (fun h k => rd143.below h k) sem_one (by omega) ?_))
           intro A7 c7 w5 b5 e5 o5
           have D5 := Aside.mk (bel_then (bel_one W4 (.cells #[] 143)) (by simpa using b5))
           have T5 := Aside.mk (hup D5.out T4.out.1)
           have O5 := Aside.mk (And.intro e5 (o5.imp id (fun h => own_down h (Nat.le_succ W4.heap.size))))
           obtain ⟨y0, y1, y2, y3, y4, y5, f0, f2⟩ := box6z T5.out
           obtain ⟨W6, HW6⟩ : ∃ W6, Aside (W6 = w5.setCell ⟨wr.heap.size, 0, none⟩ (.slice A7 (PartR.sems X).length c7)) := ⟨_, ⟨rfl⟩⟩
           clear b5 e5 o5 q0
           go_upto_region 11 with (fail)
           rw [← HW6.out]
           clear y0 y1 y2 y3 y4 y5 f0 f2
           have T6 : Aside (W6.heap[wr.heap.size]? = some (.cells #[.slice A7 (PartR.sems X).length c7, .int .u8 (PartR.events X), .slice qa (PartR.procs X).length qc, .int .u8 (PartR.a0 X), .int .u8 (PartR.a1 X), .int .u8 (PartR.a2 X)] 77 (0, 0)) ∧ Below wr.heap.size wr W6) := ⟨by
             rw [HW6.out]
             exact ⟨by have := heap_setCell_at (off := 0) T5.out (.slice A7 (PartR.sems X).length c7); simpa using this, (bel_then T4.out.2 D5.out).setCell (p := ⟨wr.heap.size, 0, none⟩) (Nat.le_refl _) _⟩⟩
           have O6 : Aside (Elems W6 2 rd143.R (.slice A7 (PartR.sems X).length c7) (PartR.sems X) ∧ (PartR.sems X = [] ∨ W6.ownsRow W4.heap.size 143 2 (.slice A7 (PartR.sems X).length c7) (PartR.sems X).length ((PartR.sems X).flatMap SemR.vals))) := ⟨by
             rw [HW6.out]; exact fresh_set (fun _ _ _ q => q) O5.out.1 O5.out.2 hT4⟩
           have hT6 : wr.heap.size < W6.heap.size := lt_of_block T6.out.1
           have q2 : W6.cell? ⟨wr.heap.size, 2, none⟩ = some (.slice qa (PartR.procs X).length qc) := (box6z T6.out.1).2.2.1
           go_wp2_with (at_builtin; go_loud (refine append_fresh rfl _ _ 73 5 _ 1 1 rd5.R (fun n => [.int .u8 n]) (PartR.procs X) rfl Tryd.underlying73 A_info_u8 rfl (by decide) (by decide) _ qa (PartR.procs X).length qc rfl rfl (elems_below PA.out.procs (bel_then T6.out.2 (bel_one _ _))) (fun _ _ _ h => h.1) (fun h k => rd5.below h k) (fun x u hu => by simp at hu; rw [hu]; rfl) (by omega) ?_))
           intro A8 c8 w7 b7 e7 o7
           have D7 := Aside.mk (bel_then (bel_one W6 (.cells #[] 5)) (by simpa using b7))
           have T7 := Aside.mk (hup D7.out T6.out.1)
           have O7 := Aside.mk (And.intro e7 (o7.imp id (fun h => own_down h (Nat.le_succ W6.heap.size))))
           obtain ⟨y0, y1, y2, y3, y4, y5, f0, f2⟩ := box6z T7.out
           obtain ⟨W8, HW8⟩ : ∃ W8, Aside (W8 = w7.setCell ⟨wr.heap.size, 2, none⟩ (.slice A8 (PartR.procs X).length c8)) := ⟨_, ⟨rfl⟩⟩
           clear b7 e7 o7 q2
           go_upto_region 12 with (fail)
           rw [← HW8.out]
           clear y0 y1 y2 y3 y4 y5 f0 f2
           have T8 : Aside (W8.heap[wr.heap.size]? = some (.cells #[.slice A7 (PartR.sems X).length c7, .int .u8 (PartR.events X), .slice A8 (PartR.procs X).length c8, .int .u8 (PartR.a0 X), .int .u8 (PartR.a1 X), .int .u8 (PartR.a2 X)] 77 (0, 0)) ∧ Below wr.heap.size wr W8) := ⟨by
             rw [HW8.out]
             exact ⟨by have := heap_setCell_at (off := 2) T7.out (.slice A8 (PartR.procs X).length c8); simpa using this, (bel_then T6.out.2 D7.out).setCell (p := ⟨wr.heap.size, 2, none⟩) (Nat.le_refl _) _⟩⟩
           have O8 : Aside (Elems W8 1 rd5.R (.slice A8 (PartR.procs X).length c8) (PartR.procs X) ∧ (PartR.procs X = [] ∨ W8.ownsRow W6.heap.size 5 1 (.slice A8 (PartR.procs X).length c8) (PartR.procs X).length ((PartR.procs X).flatMap fun n => [.int .u8 n]))) := ⟨by
             rw [HW8.out]; exact fresh_set (fun _ _ _ q => q) O7.out.1 O7.out.2 hT6⟩
           have O8' : Aside (Elems W8 2 rd143.R (.slice A7 (PartR.sems X).length c7) (PartR.sems X) ∧ (PartR.sems X = [] ∨ W8.ownsRow W4.heap.size 143 2 (.slice A7 (PartR.sems X).length c7) (PartR.sems X).length ((PartR.sems X).flatMap SemR.vals))) := ⟨by
             rw [HW8.out]; exact fresh_set (fun _ _ _ q => q) (elems_below (r := rd143) O6.out.1 D7.out) (O6.out.2.imp id (fun h => own_below h D7.out)) hT4⟩
           have P8 : Aside (PartAt W8 (.slice A7 (PartR.sems X).length c7) (.slice A8 (PartR.procs X).length c8) X) := ⟨⟨O8'.out.1, O8.out.1, PA.out.ev, PA.out.len, PA.out.a0, PA.out.a1, PA.out.a2⟩⟩
           obtain ⟨y0, y1, y2, y3, y4, y5, f0, f2⟩ := box6z T8.out.1
           have XZ := Aside.mk (hup T8.out.2 S.out.box)
           have z2 := (boxz XZ.out).2.2.1
           have hZ8 : Z < W8.heap.size := lt_of_block XZ.out
           have hts : Aside (ts.length ≤ 100000) := ⟨by have h1 := congrArg List.length S.out.map; rw [List.length_map, List.length_take] at h1; omega⟩
           go_wp2_with (at_builtin; go_loud (refine append_elem wm.heap.size rfl _ _ 24 77 _ 6 64 rfl Tryd.underlying24 A_info_part rfl (by decide) (by decide) (.slice vpA ts.length vpn) ts.length _ (PartR.vals (.slice A7 (PartR.sems X).length c7) (.slice A8 (PartR.procs X).length c8) X) rfl rfl rfl (by simp [PartR.vals, Value.oneCell']) (own_below S.out.row T8.out.2) (Nat.le_trans S.out.kept.size (bsz T8.out.2)) (by have := hts.out; omega) ?_))
           intro v1 w9 hown hgr hat
           obtain ⟨v1A, v1c, rfl⟩ := own_len hown
           have X9 := Aside.mk ((hgr.block Z hZ8 (fun e => own_type S.out.row S.out.box (by decide) e.symm rfl)).trans XZ.out)
           have Y9 := Aside.mk (S.out.push HL.out T8.out.2 P8.out rfl rfl (O8'.out.2.imp id (fun h => own_down h (bsz T4.out.2))) (O8.out.2.imp id (fun h => own_down h (bsz T6.out.2))) hown hgr hat)
           clear hown hgr hat y0 y1 y2 y3 y4 y5 f0 f2 z2
           obtain ⟨z0, z1, z2, z3, z4, f0, f1, f2, f3, f4⟩ := boxz X9.out
           go_wp2_with fail
           go_roundg (A.length - (k + 1))
           case measure => omega
           case rel => exact ⟨k + 1, by omega, rfl, by go_num, ⟨_, _, Y9.out⟩⟩
         · obtain rfl : k = A.length := by omega
           have YB := Aside.mk (hup BR.out hb1.out.2.2.1)
           obtain ⟨z0, z1, z2, z3, z4, _, _, _, _, _⟩ := boxz S.out.box
           obtain ⟨y0, y1, y2, y3, y4, f0, f1, f2, f3, f4⟩ := boxz YB.out
           have hta : ts.length = A.length := by have h1 := congrArg List.length S.out.map; rw [List.length_map, List.length_take] at h1; omega
           have FIN : Aside (∀ w', Kept (fun j => j = w.heap.size + 1) wr w' → CopyR w w' P (.slice vcA C.length vcn) (.slice vpA ts.length vpn) (.slice A5 (Plan.chans P).length c5) (.slice A9 (Plan.pairs P).length c9)) := ⟨fun w' k => by
             subst hCC hAA
             exact CopyR.of ⟨i0, i1⟩ (by rw [hb1.out.2.2.2]; omega) (by omega) hb1.out.1 S0.out S1.out S.out k⟩
           rw [hta] at FIN z2
           have hne : ¬ (Z = w.heap.size + 1) := by have := HH.out.2.2; have := hb1.out.2.2.2; omega
           go_wp2_with fail
           obtain ⟨W9, HW9⟩ : ∃ W9, Aside (W9 = (((((wr.setCell ⟨w.heap.size + 1, 0, none⟩ (.int .u16 (Plan.frame P))).setCell ⟨w.heap.size + 1, 1, none⟩ (.slice vcA C.length vcn)).setCell ⟨w.heap.size + 1, 2, none⟩ (.slice vpA A.length vpn)).setCell ⟨w.heap.size + 1, 3, none⟩ (.slice A5 (Plan.chans P).length c5)).setCell ⟨w.heap.size + 1, 4, none⟩ (.slice A9 (Plan.pairs P).length c9))) := ⟨_, ⟨rfl⟩⟩
           rw [← HW9.out]
           have X9 : W9.heap[w.heap.size + 1]? = some (.cells #[.int .u16 (Plan.frame P), .slice vcA C.length vcn, .slice vpA A.length vpn, .slice A5 (Plan.chans P).length c5, .slice A9 (Plan.pairs P).length c9] 28 (0, 0)) := by rw [HW9.out]; exact set5_at YB.out
           have K9 : Kept (fun j => j = w.heap.size + 1) wr W9 := by rw [HW9.out]; exact set5_kept _ _ _ _ _ _ _
           clear y0 y1 y2 y3 y4 f0 f1 f2 f3 f4 z0 z1 z2 z3 z4
           obtain ⟨y0, y1, y2, y3, y4, _, _, _, _, _⟩ := boxz X9
           refine bodyPost_ret (v := .agg #[.int .u16 (Plan.frame P), .slice vcA C.length vcn, .slice vpA A.length vpn, .slice A5 (Plan.chans P).length c5, .slice A9 (Plan.pairs P).length c9]) (by simp [results, Tryd.results37, go_sem, y0, y1, y2, y3, y4]) rfl ?_
           have F := FIN.out W9 K9
           subst hCC hAA
           exact ⟨_, _, _, _, _, _, _, _, rfl, F⟩
end Go.Proofs.YtidjkhmlpgkaaaaDoor
