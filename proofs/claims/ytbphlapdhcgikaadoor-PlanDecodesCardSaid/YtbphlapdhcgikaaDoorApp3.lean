/- append of rows of elements of several cells; how what is owned reads, and what is read can be appended. -/
import Derived.Test.YtbphlapdhcgikaaDoorBoxA
import Derived.Deep.RegionHeld3
import Derived.Deep.RegionLaw
namespace Go.Proofs.YtbphlapdhcgikaaDoor
open Go.RowKit
set_option linter.unusedVariables false
set_option linter.unusedSimpArgs false

section
variable {P : Program} {ops : Array Oper} {rest : List Oper} {o : Oper} {a : Act} {Q : Exit → Act → World → Prop}
theorem run_append_rows {W : World} (base : Nat) (t e ty : TypeId) (z : Value) (size bytes : Nat)
    (ht : P.underlying t = some (.slice e)) (hinfo : (P.info? e).map (fun i => (i.zero, i.size, i.bytes)) = some (some z, size, bytes)) (hz : z.cells.size = size) (hs0 : 0 < size) (hb0 : 0 < bytes)
    (v : Value) (n : Nat) (xs news : List Value) (A : Option Addr) (m c : Nat)
    (HO : W.ownsRow base e size v n xs) (hl : news.length = m * size) (hnews : 0 < m → ∃ ad, A = some ad ∧ ∀ j u, news[j]? = some u → W.cell? (ad.add j) = some u) (h1 : ∀ u ∈ news, u.oneCell' = true)
    (hbase : base ≤ W.heap.size) (hbytes : (n + m) * bytes ≤ 140737488355328) :
    ∃ v1 w1, (Builtin.append_ #[t, t] ty #[v, .slice A m c]).run P W = .ok v1 w1 ∧ w1.ownsRow base e size v1 (n + m) (xs ++ news) ∧ W.grownBy w1 v.ownBlock ∧ (v1.ownBlock = v.ownBlock ∨ v1.ownBlock = some W.heap.size) := by
  obtain ⟨i0, hi, hz0, hz1, hz2⟩ := info_parts hinfo
  have hlen : n + m ≤ 140737488355328 := Nat.le_trans (Nat.le_mul_of_pos_right _ hb0) hbytes
  rcases A with _ | ad
  · have h0 : m = 0 := by
      rcases Nat.eq_zero_or_pos m with h0 | h0
      · exact h0
      · obtain ⟨ad, h, _⟩ := hnews h0
        cases h
    subst h0
    obtain rfl : news = [] := List.eq_nil_of_length_eq_zero (by simpa using hl)
    refine ⟨v, W, ?_, by simpa using HO, World.grownBy.refl W _, .inl rfl⟩
    rcases HO.2 with ⟨rfl, hn⟩ | ⟨g, cap, cur, rfl, _, _, hnc, _⟩
    · simp [Builtin.append_, run_underlying ht, sizeOf, typeInfo, hi, Builtin.lenOf, Builtin.firstCells]
    · simp [Builtin.append_, run_underlying ht, sizeOf, typeInfo, hi, Builtin.lenOf, Builtin.firstCells, hnc, storeCells]
  · rcases Nat.eq_zero_or_pos m with h0 | h0
    · subst h0
      obtain rfl : news = [] := List.eq_nil_of_length_eq_zero (by simpa using hl)
      obtain ⟨v1, w1, hr, h2, h3, _, h5⟩ := run_append_own_at (P := P) W base t ty e i0 z size bytes ht hi hz0 hz1 hz2 hz hs0 v n xs HO ad 0 c [] (by simp) (by simp) (by simp) (by simp only [maxLen]; omega) hbytes hbase
      exact ⟨v1, w1, hr, h2, h3, h5⟩
    · obtain ⟨ad', h', hc⟩ := hnews h0
      injection h' with h'
      subst h'
      obtain ⟨v1, w1, hr, h2, h3, _, h5⟩ := run_append_own_at (P := P) W base t ty e i0 z size bytes ht hi hz0 hz1 hz2 hz hs0 v n xs HO ad m c news hl hc h1 (by simp only [maxLen]; omega) hbytes hbase
      exact ⟨v1, w1, hr, h2, h3, h5⟩
/-- append(v, ys...), ys a slice that is read, nil let in. -/
theorem append_rows {W : World} (base : Nat) (hgd : o.guard = none) (s x : Operand) (t e : TypeId) (z : Value) (size bytes : Nat)
    (ho : o.op = .call { callee := .builtin .append, args := #[s, x], argTypes := #[t, t] })
    (ht : P.underlying t = some (.slice e)) (hinfo : (P.info? e).map (fun i => (i.zero, i.size, i.bytes)) = some (some z, size, bytes)) (hz : z.cells.size = size) (hs0 : 0 < size) (hb0 : 0 < bytes)
    (v : Value) (n : Nat) (xs news : List Value) (A : Option Addr) (m c : Nat) (hs : a.eval s = v) (hx : a.eval x = .slice A m c)
    (HO : W.ownsRow base e size v n xs) (hl : news.length = m * size) (hnews : 0 < m → ∃ ad, A = some ad ∧ ∀ j u, news[j]? = some u → W.cell? (ad.add j) = some u) (h1 : ∀ u ∈ news, u.oneCell' = true)
    (hbase : base ≤ W.heap.size) (hbytes : (n + m) * bytes ≤ 140737488355328)
    (h : ∀ v1 w1, w1.ownsRow base e size v1 (n + m) (xs ++ news) → W.grownBy w1 v.ownBlock → (v1.ownBlock = v.ownBlock ∨ v1.ownBlock = some W.heap.size) → wpList P ops Q rest (a.put o.dst v1) w1) :
    wpList P ops Q (o :: rest) a W := by
  obtain ⟨v1, w1, hr, hown, hg, hat⟩ := run_append_rows (P := P) (W := W) base t e o.type z size bytes ht hinfo hz hs0 hb0 v n xs news A m c HO hl hnews h1 hbase hbytes
  refine wpList_plain hgd fun K hK => ?_
  unfold Oper.wp execOp
  simp only [ho, resolve, invoke, builtin, Sem.run_bind, Sem.run_pure, Result.andThen_ok, List.map_toArray, List.map_cons, List.map_nil, hs, hx, hr]
  exact hK _ _ (h v1 w1 hown hg hat)
/-- The same in a region that draws its order. -/
theorem step_append_rows {E : Prop} {K : Act → World → Prop} {W : World} (base : Nat) (hgd : o.guard = none) (s x : Operand) (t e : TypeId) (z : Value) (size bytes : Nat)
    (ho : o.op = .call { callee := .builtin .append, args := #[s, x], argTypes := #[t, t] })
    (ht : P.underlying t = some (.slice e)) (hinfo : (P.info? e).map (fun i => (i.zero, i.size, i.bytes)) = some (some z, size, bytes)) (hz : z.cells.size = size) (hs0 : 0 < size) (hb0 : 0 < bytes)
    (v : Value) (n : Nat) (xs news : List Value) (A : Option Addr) (m c : Nat) (hs : a.eval s = v) (hx : a.eval x = .slice A m c)
    (HO : W.ownsRow base e size v n xs) (hl : news.length = m * size) (hnews : 0 < m → ∃ ad, A = some ad ∧ ∀ j u, news[j]? = some u → W.cell? (ad.add j) = some u) (h1 : ∀ u ∈ news, u.oneCell' = true)
    (hbase : base ≤ W.heap.size) (hbytes : (n + m) * bytes ≤ 140737488355328)
    (h : ∀ v1 w1, w1.ownsRow base e size v1 (n + m) (xs ++ news) → W.grownBy w1 v.ownBlock → (v1.ownBlock = v.ownBlock ∨ v1.ownBlock = some W.heap.size) → K (a.put o.dst v1) w1) :
    if Region.wanted o (yielded ops a.tmps) = true then Oper.wp P o a W K Q else E := by
  obtain ⟨v1, w1, hr, hown, hg, hat⟩ := run_append_rows (P := P) (W := W) base t e o.type z size bytes ht hinfo hz hs0 hb0 v n xs news A m c HO hl hnews h1 hbase hbytes
  have hw : Region.wanted o (yielded ops a.tmps) = true := by simp [Region.wanted, hgd]
  rw [if_pos hw]
  unfold Oper.wp execOp
  simp only [ho, resolve, invoke, builtin, Sem.run_bind, Sem.run_pure, Result.andThen_ok, List.map_toArray, List.map_cons, List.map_nil, hs, hx, hr]
  exact h _ _ hown hg hat
end

theorem flatMap_get' {α β : Type} {n : Nat} (f : α → List β) (L : List α) (hf : ∀ x ∈ L, (f x).length = n) (i : Nat) (hi : i < L.length) (j : Nat) (hj : j < n) : (L.flatMap f)[i * n + j]? = (f L[i])[j]? := by
  induction L generalizing i with
  | nil => simp at hi
  | cons x L ih =>
    rw [List.flatMap_cons]
    have hx : (f x).length = n := hf x (List.mem_cons_self ..)
    cases i with
    | zero => rw [List.getElem?_append_left (by rw [hx]; omega)]; simp
    | succ i =>
      rw [List.getElem?_append_right (by rw [hx, Nat.add_mul]; omega), hx, show (i + 1) * n + j - n = i * n + j by rw [Nat.add_mul]; omega]
      simpa using ih (fun y hy => hf y (List.mem_cons_of_mem _ hy)) i (by simpa using hi)
theorem flatMap_len' {α β : Type} {n : Nat} (f : α → List β) (L : List α) (hf : ∀ x ∈ L, (f x).length = n) : (L.flatMap f).length = L.length * n := by
  induction L with
  | nil => simp
  | cons x L ih => rw [List.flatMap_cons, List.length_append, hf x (List.mem_cons_self ..), ih (fun y hy => hf y (List.mem_cons_of_mem _ hy)), List.length_cons, Nat.add_mul]; omega
/-- What is read, as a row of cells. -/
theorem elems_news {α : Type} {w : World} {n : Nat} {R : World → List Value → α → Prop} (f : α → List Value) (hf : ∀ w cs x, R w cs x → cs = f x) {A : Option Addr} {m c : Nat} {L : List α} (h : Elems w n R (.slice A m c) L) :
    L.length = m ∧ (L.flatMap f).length = m * n ∧ (0 < m → ∃ ad, A = some ad ∧ ∀ j u, (L.flatMap f)[j]? = some u → w.cell? (ad.add j) = some u) ∧ (∀ x ∈ L, R w (f x) x ∧ (f x).length = n) := by
  obtain ⟨A', c', e, h1, h2, h3⟩ := h
  injection e with e1 e2 e3
  subst e1 e2 e3
  have hx : ∀ x ∈ L, R w (f x) x ∧ (f x).length = n := by
    intro x hx
    obtain ⟨i, hi, rfl⟩ := List.getElem_of_mem hx
    obtain ⟨ad, _, h4⟩ := h3 (by omega)
    obtain ⟨cs, hl, hc, hr⟩ := h4 i hi
    have := hf _ _ _ hr
    subst this
    exact ⟨hr, hl⟩
  have hlen := flatMap_len' f L (fun x q => (hx x q).2)
  refine ⟨rfl, hlen, fun hp => ?_, hx⟩
  obtain ⟨ad, rfl, h4⟩ := h3 hp
  refine ⟨ad, rfl, fun j u hu => ?_⟩
  have hj : j < (L.flatMap f).length := (List.getElem?_eq_some_iff.1 hu).1
  rw [hlen] at hj
  have hn0 : 0 < n := by
    rcases Nat.eq_zero_or_pos n with q | q
    · subst q; simp at hj
    · exact q
  have hi : j / n < L.length := Nat.div_lt_of_lt_mul (by rw [Nat.mul_comm]; exact hj)
  have hm := Nat.mod_lt j hn0
  have hd : j = j / n * n + j % n := by rw [Nat.mul_comm]; exact (Nat.div_add_mod j n).symm
  obtain ⟨cs, hl, hc, hr⟩ := h4 (j / n) hi
  have := hf _ _ _ hr
  subst this
  rw [hd, flatMap_get' f L (fun x q => (hx x q).2) _ hi _ hm] at hu
  rw [hd, hc _ hm, hu]
/-- What is owned, as it reads. -/
theorem elems_own {α : Type} {w : World} {n base : Nat} {e : TypeId} {v : Value} {R : World → List Value → α → Prop} {L : List α} (f : α → List Value) (hn0 : 0 < n) (h : w.ownsRow base e n v L.length (L.flatMap f)) (hx : ∀ x ∈ L, R w (f x) x ∧ (f x).length = n) : Elems w n R v L := by
  rcases h.2 with ⟨rfl, h0⟩ | ⟨g, cap, cur, rfl, _, _, h3, h4, _⟩
  · refine ⟨none, 0, ?_, by omega, by omega, fun hp => by omega⟩
    rw [h0]
  · refine ⟨_, cap, rfl, h3, by simpa [maxLen] using h4, fun hp => ⟨_, rfl, fun i hi => ⟨f L[i], (hx _ (List.getElem_mem _)).2, fun j hj => ?_, (hx _ (List.getElem_mem _)).1⟩⟩⟩
    have hl : j < (f L[i]).length := by rw [(hx _ (List.getElem_mem _)).2]; exact hj
    rw [List.getElem?_eq_getElem hl]
    refine h.cells (g := g) rfl _ _ ?_
    rw [flatMap_get' f L (fun x q => (hx x q).2) i hi j hj, List.getElem?_eq_getElem hl]
theorem add_block (ad : Addr) (j : Nat) : (ad.add j).block = ad.block := by unfold Addr.add; split <;> rfl
/-- A reading that the rest of memory does not touch. -/
theorem elems_same {α : Type} {w w' : World} {n : Nat} {R : World → List Value → α → Prop} {v : Value} {L : List α} (hR : ∀ cs x, R w cs x → R w' cs x) (h : Elems w n R v L) (hb : ∀ b, v.ownBlock = some b → w'.heap[b]? = w.heap[b]?) : Elems w' n R v L := by
  obtain ⟨a, cap, rfl, h1, h2, h3⟩ := h
  refine ⟨a, cap, rfl, h1, h2, fun hp => ?_⟩
  obtain ⟨ad, rfl, h4⟩ := h3 hp
  refine ⟨ad, rfl, fun i hi => ?_⟩
  obtain ⟨cs, e, hc, hr⟩ := h4 i hi
  refine ⟨cs, e, fun j hj => ?_, hR _ _ hr⟩
  rw [← hc j hj]
  exact World.cell?_of_block (by rw [add_block]; exact hb _ rfl)

theorem chan_one (c : ChanR) : ∀ u ∈ ChanR.vals c, u.oneCell' = true := by intro u hu; simp [ChanR.vals] at hu; rcases hu with rfl | rfl | rfl | rfl | rfl | rfl <;> rfl
def PairR.vals (x : PairR) : List Value := [.int .u8 (PairR.a x), .int .u8 (PairR.b x)]
def Win.vals (x : Win) : List Value := [.int .u16 (Win.s x), .int .u16 (Win.l x), .int .u8 (Win.p x), .int .u8 (Win.g x)]
def SemR.vals (x : SemR) : List Value := [.int .u8 (SemR.i x), .int .u8 (SemR.m x)]
theorem flat_one {α : Type} (f : α → List Value) (hf : ∀ x, ∀ u ∈ f x, u.oneCell' = true) (L : List α) : ∀ u ∈ L.flatMap f, u.oneCell' = true := by
  intro u hu
  obtain ⟨x, _, hx⟩ := List.mem_flatMap.1 hu
  exact hf x u hx
theorem pair_one (x : PairR) : ∀ u ∈ PairR.vals x, u.oneCell' = true := by intro u hu; simp [PairR.vals] at hu; rcases hu with rfl | rfl <;> rfl
theorem sem_one (x : SemR) : ∀ u ∈ SemR.vals x, u.oneCell' = true := by intro u hu; simp [SemR.vals] at hu; rcases hu with rfl | rfl <;> rfl
theorem win_one (x : Win) : ∀ u ∈ Win.vals x, u.oneCell' = true := by intro u hu; simp [Win.vals] at hu; rcases hu with rfl | rfl | rfl | rfl <;> rfl

/-- append of what is read to an empty slice without room: nothing that was is written. -/
theorem run_append_fresh {P : Program} {W : World} {α : Type} (t e ty : TypeId) (z : Value) (size bytes : Nat) (R : World → List Value → α → Prop) (f : α → List Value) (L : List α)
    (ht : P.underlying t = some (.slice e)) (hinfo : (P.info? e).map (fun i => (i.zero, i.size, i.bytes)) = some (some z, size, bytes)) (hz : z.cells.size = size) (hs0 : 0 < size) (hb0 : 0 < bytes)
    (b : Addr) (A : Option Addr) (m c : Nat) (hsrc : Elems W size R (.slice A m c) L) (hf : ∀ w cs x, R w cs x → cs = f x) (hRb : ∀ {W' : World} {cs : List Value} {x : α}, R W cs x → Below W.heap.size W W' → R W' cs x) (h1 : ∀ x, ∀ u ∈ f x, u.oneCell' = true)
    (hbytes : m * bytes ≤ 140737488355328) :
    ∃ A1 c1 w1, (Builtin.append_ #[t, t] ty #[.slice (some b) 0 0, .slice A m c]).run P W = .ok (.slice A1 m c1) w1 ∧ Below W.heap.size W w1 ∧ Elems w1 size R (.slice A1 m c1) L ∧ (L = [] ∨ w1.ownsRow W.heap.size e size (.slice A1 m c1) m (L.flatMap f)) := by
  obtain ⟨i0, hi, hz0, hz1, hz2⟩ := info_parts hinfo
  obtain ⟨hl, hl2, hnews, hx⟩ := elems_news f hf hsrc
  have hlen : m ≤ 140737488355328 := Nat.le_trans (Nat.le_mul_of_pos_right _ hb0) hbytes
  rcases Nat.eq_zero_or_pos m with h0 | h0
  · subst h0
    obtain rfl : L = [] := List.eq_nil_of_length_eq_zero hl
    refine ⟨some b, 0, W, ?_, Below.refl _ _, ⟨some b, 0, rfl, by simp, by simp, by simp⟩, .inl rfl⟩
    cases A with
    | none => simp [Builtin.append_, run_underlying ht, sizeOf, typeInfo, hi, Builtin.lenOf, Builtin.firstCells, storeCells]
    | some ad => simp [Builtin.append_, run_underlying ht, sizeOf, typeInfo, hi, Builtin.lenOf, Builtin.firstCells, storeCells, loadCells, loadCellsFrom]
  · obtain ⟨ad, rfl, hc⟩ := hnews h0
    subst hz1 hz2
    have hgr := run_append_grow (P := P) W t ty e i0 z ht hi hz0 b 0 0 [] (by simp) (by simp) ad m c (L.flatMap f) hl2 hc (by omega) (by omega) (growslice_fits (by omega) (by simpa using hbytes))
    rw [Nat.zero_add] at hgr
    have hge := grownCap_ge W m 0 e
    have hcm := grownCap_le_maxLen W m 0 e (by simp only [maxLen]; omega)
    have hb : Below W.heap.size W (W.drew.alloc (.cells (([] : List Value).toArray ++ (L.flatMap f).toArray ++ Builtin.zeroCells z.cells (grownCap W m 0 e - m)) e)) := ((Below.refl _ _).drew).alloc (Nat.le_refl _) _
    have hown : (W.drew.alloc (.cells (([] : List Value).toArray ++ (L.flatMap f).toArray ++ Builtin.zeroCells z.cells (grownCap W m 0 e - m)) e)).ownsRow W.heap.size e i0.size (.slice (some ⟨W.heap.size, 0, none⟩) m (grownCap W m 0 e)) m (L.flatMap f) := by
      refine ⟨hl2, .inr ⟨W.heap.size, _, _, rfl, Nat.le_refl _, heap_alloc_new W.drew _, hge, hcm, ?_, ?_⟩⟩
      · simp only [Array.size_append, List.size_toArray, size_zeroCells, hz, hl2, ← Nat.add_mul, List.length_nil]
        rw [Nat.zero_add, ← Nat.add_mul]
        congr 1
        omega
      · simp only [Array.toList_append, List.append_assoc, List.nil_append]
        rw [← hl2]
        exact List.take_left
    refine ⟨_, _, _, hgr, hb, ?_, .inr hown⟩
    subst hl
    exact elems_own f hs0 hown (fun x q => ⟨hRb (hx x q).1 hb, (hx x q).2⟩)
section
variable {P : Program} {ops : Array Oper} {rest : List Oper} {o : Oper} {a : Act} {Q : Exit → Act → World → Prop}
theorem append_fresh {W : World} {α : Type} (hgd : o.guard = none) (s x : Operand) (t e : TypeId) (z : Value) (size bytes : Nat) (R : World → List Value → α → Prop) (f : α → List Value) (L : List α)
    (ho : o.op = .call { callee := .builtin .append, args := #[s, x], argTypes := #[t, t] })
    (ht : P.underlying t = some (.slice e)) (hinfo : (P.info? e).map (fun i => (i.zero, i.size, i.bytes)) = some (some z, size, bytes)) (hz : z.cells.size = size) (hs0 : 0 < size) (hb0 : 0 < bytes)
    (b : Addr) (A : Option Addr) (m c : Nat) (hs : a.eval s = .slice (some b) 0 0) (hx : a.eval x = .slice A m c) (hsrc : Elems W size R (.slice A m c) L) (hf : ∀ w cs x, R w cs x → cs = f x) (hRb : ∀ {W' : World} {cs : List Value} {x : α}, R W cs x → Below W.heap.size W W' → R W' cs x) (h1 : ∀ x, ∀ u ∈ f x, u.oneCell' = true)
    (hbytes : m * bytes ≤ 140737488355328)
    (h : ∀ A1 c1 w1, Below W.heap.size W w1 → Elems w1 size R (.slice A1 m c1) L → (L = [] ∨ w1.ownsRow W.heap.size e size (.slice A1 m c1) m (L.flatMap f)) → wpList P ops Q rest (a.put o.dst (.slice A1 m c1)) w1) :
    wpList P ops Q (o :: rest) a W := by
  obtain ⟨A1, c1, w1, hr, hb, he, ho1⟩ := run_append_fresh (P := P) (W := W) t e o.type z size bytes R f L ht hinfo hz hs0 hb0 b A m c hsrc hf hRb h1 hbytes
  refine wpList_plain hgd fun K hK => ?_
  unfold Oper.wp execOp
  simp only [ho, resolve, invoke, builtin, Sem.run_bind, Sem.run_pure, Result.andThen_ok, List.map_toArray, List.map_cons, List.map_nil, hs, hx, hr]
  exact hK _ _ (h _ _ _ hb he ho1)
theorem step_append_fresh {E : Prop} {K : Act → World → Prop} {W : World} {α : Type} (hgd : o.guard = none) (s x : Operand) (t e : TypeId) (z : Value) (size bytes : Nat) (R : World → List Value → α → Prop) (f : α → List Value) (L : List α)
    (ho : o.op = .call { callee := .builtin .append, args := #[s, x], argTypes := #[t, t] })
    (ht : P.underlying t = some (.slice e)) (hinfo : (P.info? e).map (fun i => (i.zero, i.size, i.bytes)) = some (some z, size, bytes)) (hz : z.cells.size = size) (hs0 : 0 < size) (hb0 : 0 < bytes)
    (b : Addr) (A : Option Addr) (m c : Nat) (hs : a.eval s = .slice (some b) 0 0) (hx : a.eval x = .slice A m c) (hsrc : Elems W size R (.slice A m c) L) (hf : ∀ w cs x, R w cs x → cs = f x) (hRb : ∀ {W' : World} {cs : List Value} {x : α}, R W cs x → Below W.heap.size W W' → R W' cs x) (h1 : ∀ x, ∀ u ∈ f x, u.oneCell' = true)
    (hbytes : m * bytes ≤ 140737488355328)
    (h : ∀ A1 c1 w1, Below W.heap.size W w1 → Elems w1 size R (.slice A1 m c1) L → (L = [] ∨ w1.ownsRow W.heap.size e size (.slice A1 m c1) m (L.flatMap f)) → K (a.put o.dst (.slice A1 m c1)) w1) :
    if Region.wanted o (yielded ops a.tmps) = true then Oper.wp P o a W K Q else E := by
  obtain ⟨A1, c1, w1, hr, hb, he, ho1⟩ := run_append_fresh (P := P) (W := W) t e o.type z size bytes R f L ht hinfo hz hs0 hb0 b A m c hsrc hf hRb h1 hbytes
  have hw : Region.wanted o (yielded ops a.tmps) = true := by simp [Region.wanted, hgd]
  rw [if_pos hw]
  unfold Oper.wp execOp
  simp only [ho, resolve, invoke, builtin, Sem.run_bind, Sem.run_pure, Result.andThen_ok, List.map_toArray, List.map_cons, List.map_nil, hs, hx, hr]
  exact h _ _ _ hb he ho1
end
end Go.Proofs.YtbphlapdhcgikaaDoor
