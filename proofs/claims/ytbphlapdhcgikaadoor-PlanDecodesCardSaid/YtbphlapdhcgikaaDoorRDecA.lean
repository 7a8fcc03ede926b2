/- The reference's Decode: what its loops keep. -/
import Derived.Test.YtbphlapdhcgikaaDoorRtkN
import Derived.Test.YtbphlapdhcgikaaDoorDecF
import Derived.Deep.RegionLaw
namespace Go.Proofs.YtbphlapdhcgikaaDoor
open Go.RowKit
set_option linter.unusedVariables false
set_option linter.unusedSimpArgs false

/-- Only blocks from a number on, and of some types, were changed. -/
def Tk (lo : Nat) (ts : List TypeId) (a a' : World) : Prop := Kept (fun j => lo ≤ j ∧ ∃ cs t fr, a.heap[j]? = some (.cells cs t fr) ∧ t ∈ ts) a a'
theorem Tk.refl (lo : Nat) (ts : List TypeId) (a : World) : Tk lo ts a a := Kept.refl _ _
theorem Tk.of_below {lo : Nat} {ts : List TypeId} {a a' : World} (h : Below a.heap.size a a') : Tk lo ts a a' := Kept.of_below h
theorem Tk.trans {lo : Nat} {ts : List TypeId} {a b c : World} (h : Tk lo ts a b) (k : Tk lo ts b c) : Tk lo ts a c := by
  refine Kept.then_ h k fun j hj => ?_
  obtain ⟨hl, cs, t, fr, hb, ht⟩ := hj
  by_cases hs : a.heap.size ≤ j
  · exact .inr hs
  · refine .inl (Classical.byContradiction fun hn => hn ⟨hl, cs, t, fr, ?_, ht⟩)
    exact (h.block j (by omega) hn).symm.trans hb
theorem Tk.mono {lo : Nat} {ts us : List TypeId} {a b : World} (h : Tk lo ts a b) (hs : ∀ t ∈ ts, t ∈ us) : Tk lo us a b := Kept.mono h fun j hj => by
  obtain ⟨hl, cs, t, fr, hb, ht⟩ := hj
  exact ⟨hl, cs, t, fr, hb, hs t ht⟩
theorem Tk.of_block {lo : Nat} {ts : List TypeId} {a b : World} {X : Nat} {cs : Array Value} {t : TypeId} {fr : Nat × Nat} (k : Kept (fun j => j = X) a b) (hX : a.heap[X]? = some (.cells cs t fr)) (hl : lo ≤ X) (ht : t ∈ ts) : Tk lo ts a b := Kept.mono k fun j hj => by
  subst hj
  exact ⟨hl, cs, t, fr, hX, ht⟩
/-- A block that is new may be changed freely. -/
theorem Tk.new {lo : Nat} {ts : List TypeId} {a b c : World} {X : Nat} (h : Tk lo ts a b) (k : Kept (fun j => j = X) b c) (hX : a.heap.size ≤ X) : Tk lo ts a c :=
  Kept.then_ h k fun j hj => .inr (by omega)
theorem Tk.below {ts : List TypeId} {w0 a b : World} (h : Below w0.heap.size w0 a) (k : Tk w0.heap.size ts a b) : Below w0.heap.size w0 b :=
  h.trans (Kept.below k h.size fun j hj => hj.1)
theorem Tk.size {lo : Nat} {ts : List TypeId} {a b : World} (k : Tk lo ts a b) : a.heap.size ≤ b.heap.size := Kept.size k
theorem Tk.grown {lo n size : Nat} {ts : List TypeId} {e : TypeId} {a b : World} {v : Value} {xs : List Value} (o : a.ownsRow lo e size v n xs) (g : a.grownBy b v.ownBlock) (he : e ∈ ts) : Tk lo ts a b := Kept.mono (grown_kept g) fun j hj => by
  obtain ⟨h1, cs, fr, h2⟩ := own_typ o hj
  exact ⟨h1, cs, e, fr, h2, he⟩
/-- A row of one's own that is new may grow. -/
theorem Tk.grow_new {lo lo' n size : Nat} {ts : List TypeId} {e : TypeId} {a b c : World} {v : Value} {xs : List Value} (h : Tk lo ts a b) (o : b.ownsRow lo' e size v n xs) (g : b.grownBy c v.ownBlock) (hl : a.heap.size ≤ lo') : Tk lo ts a c :=
  Kept.then_ h (grown_kept g) fun j hj => .inr (by have := own_base o j hj; omega)
theorem own_tk {lo lo' n size : Nat} {ts : List TypeId} {e : TypeId} {a b : World} {v : Value} {xs : List Value} (o : a.ownsRow lo' e size v n xs) (k : Tk lo ts a b) (he : e ∉ ts) : b.ownsRow lo' e size v n xs := own_kept o k fun j hj hT => by
  obtain ⟨_, cs, fr, h2⟩ := own_typ o hj
  obtain ⟨_, cs', t, fr', h3, ht⟩ := hT
  rw [h2] at h3
  injection h3 with h3
  injection h3 with _ h3
  exact he (by rw [h3]; exact ht)
theorem RowsR.tk {α : Type} {lo lo' : Nat} {e : TypeId} {size : Nat} {E : World → List Value → α → Prop} {ts : List TypeId} {a b : World} {v : Value} {xs : List α} {css : List (List Value)} (h : RowsR lo' e size E a v xs css) (k : Tk lo ts a b) (he : e ∉ ts) (hE : ∀ cs x, E a cs x → E b cs x) : RowsR lo' e size E b v xs css :=
  ⟨own_tk h.own k he, h.len, fun i cs x hc hx => ⟨hE _ _ (h.el i cs x hc hx).1, (h.el i cs x hc hx).2⟩⟩
theorem heap_tk {lo : Nat} {ts : List TypeId} {a b : World} {X : Nat} {cs : Array Value} {t : TypeId} {fr : Nat × Nat} (hX : a.heap[X]? = some (.cells cs t fr)) (k : Tk lo ts a b) (ht : t ∉ ts) : b.heap[X]? = some (.cells cs t fr) := Kept.heap k hX fun hT => by
  obtain ⟨_, cs', t', fr', h3, ht'⟩ := hT
  rw [hX] at h3
  injection h3 with h3
  injection h3 with _ h3
  exact ht (by rw [h3]; exact ht')
theorem E_core.tk {lo Z : Nat} {ts : List TypeId} {a b : World} {cs : List Value} {L : List Win} (h : E_core Z a cs L) (k : Tk lo ts a b) (he : 51 ∉ ts) : E_core Z b cs L := by
  obtain ⟨u, css, l, e, hZ, hr⟩ := h
  exact ⟨u, css, l, e, hZ, hr.tk k he (fun _ _ q => q)⟩
theorem E_part.tk {lo Z : Nat} {ts : List TypeId} {a b : World} {cs : List Value} {x : PartR} (h : E_part Z a cs x) (k : Tk lo ts a b) (he : 58 ∉ ts ∧ 5 ∉ ts) : E_part Z b cs x := by
  obtain ⟨sv, pv, css, dss, l, e, hZ, h1, h2, h3⟩ := h
  exact ⟨sv, pv, css, dss, l, e, hZ, h1.tk k he.1 (fun _ _ q => q), h2.tk k he.2 (fun _ _ q => q), h3⟩
/-- An element more. -/
theorem RowsR.push {α : Type} {lo : Nat} {e : TypeId} {size : Nat} {E : World → List Value → α → Prop} {a b : World} {v v1 : Value} {xs : List α} {css : List (List Value)} {cs : List Value} {x : α} (h : RowsR lo e size E a v xs css) (o : b.ownsRow lo e size v1 (xs.length + 1) (css.flatten ++ cs)) (hE : ∀ cs x, E a cs x → E b cs x) (hx : E b cs x) (hl : cs.length = size) : RowsR lo e size E b v1 (xs ++ [x]) (css ++ [cs]) := by
  refine ⟨?_, by simp [h.len], fun i ds y hd hy => ?_⟩
  · rw [List.flatten_append, List.length_append]
    simpa using o
  · rw [List.getElem?_append] at hd hy
    rw [h.len] at hd
    split at hd
    · rename_i hi
      rw [if_pos hi] at hy
      have z := h.el i ds y hd hy
      exact ⟨hE _ _ z.1, z.2⟩
    · rename_i hi
      rw [if_neg hi] at hy
      have h0 : i - xs.length = 0 := by
        have := (List.getElem?_eq_some_iff.1 hd).1
        simp at this
        omega
      rw [h0] at hd hy
      simp at hd hy
      subst hd hy
      exact ⟨hx, hl⟩
/-- The reading's box, and the plan's. -/
structure DSt3 (w0 : World) (s : ByteArray) (Z X : Nat) (t : St) (v0 v1 v2 v3 v4 : Value) (a : World) : Prop where
  bel : Below w0.heap.size w0 a
  rd : a.heap[Z]? = some (.cells (rcells s t) 98 (0, 0))
  box : a.heap[X]? = some (.cells #[v0, v1, v2, v3, v4] 28 (0, 0))
  hZ : w0.heap.size ≤ Z
  hX : w0.heap.size ≤ X
  at_ : t.1 ≤ s.size
/-- A state of the reader, behind another one. -/
structure Rdn (w0 : World) (s : ByteArray) (Z : Nat) (a : World) (t : St) (b : World) : Prop where
  tk : Tk w0.heap.size [98] a b
  rd : b.heap[Z]? = some (.cells (rcells s t) 98 (0, 0))
  at_ : t.1 ≤ s.size
theorem rdN_le {s : ByteArray} {t : St} (h : t.1 ≤ s.size) (n : Nat) : (rdN (strL s) n t).2.1 ≤ s.size := by
  obtain ⟨a, b⟩ := t
  show Bl.takeA (strL s) a b n ≤ s.size
  have := strL_len s
  unfold Bl.takeA
  have h : a ≤ s.size := h
  split
  · exact h
  · rename_i q
    simp only [not_or] at q
    omega
theorem Rdn.refl {w0 : World} {s : ByteArray} {Z : Nat} {a : World} {t : St} (h : a.heap[Z]? = some (.cells (rcells s t) 98 (0, 0))) (ha : t.1 ≤ s.size) : Rdn w0 s Z a t a := ⟨Tk.refl _ _ _, h, ha⟩
theorem Rdn.below {w0 : World} {s : ByteArray} {Z : Nat} {a b c : World} {t : St} (h : Rdn w0 s Z a t b) (k : Below b.heap.size b c) : Rdn w0 s Z a t c := ⟨h.tk.trans (Tk.of_below k), hup k h.rd, h.at_⟩
theorem Rdn.num {w0 : World} {s : ByteArray} {Z : Nat} {a b c : World} {t : St} {n : Nat} {e : Ending} (h : Rdn w0 s Z a t b) (hZ : w0.heap.size ≤ Z) (r : RNumP b Z s (rdN (strL s) n t) e c) : Rdn w0 s Z a (rdN (strL s) n t).2 c :=
  ⟨h.tk.trans (Tk.of_block r.2.2 h.rd hZ (by simp)), r.2.1, rdN_le h.at_ n⟩
theorem Rdn.num' {w0 : World} {s : ByteArray} {Z : Nat} {a b c : World} {t t' : St} (h : Rdn w0 s Z a t b) (hZ : w0.heap.size ≤ Z) (rd : c.heap[Z]? = some (.cells (rcells s t') 98 (0, 0))) (k : Kept (fun j => j = Z) b c) (ha : t'.1 ≤ s.size) : Rdn w0 s Z a t' c :=
  ⟨h.tk.trans (Tk.of_block k h.rd hZ (by simp)), rd, ha⟩
theorem rdN_le' {s : ByteArray} {t : St} (h : t.1 ≤ s.size) {n : Nat} {r : Int × St} (e : rdN (strL s) n t = r) : r.2.1 ≤ s.size := by
  rw [← e]; exact rdN_le h n
theorem range1 {s : ByteArray} {t : St} {r : Int × St} (e : rdN (strL s) 1 t = r) : 0 ≤ r.1 ∧ r.1 ≤ 255 := by
  rw [← e]; exact rdN_range1 (strL_byte s) t
theorem range2 {s : ByteArray} {t : St} {r : Int × St} (e : rdN (strL s) 2 t = r) : 0 ≤ r.1 ∧ r.1 ≤ 65535 := by
  rw [← e]; exact rdN_range2 (strL_byte s) t
theorem Rdn.put {w0 : World} {s : ByteArray} {Z X : Nat} {a b c : World} {t : St} {cs : Array Value} {u : TypeId} {fr : Nat × Nat} (h : Rdn w0 s Z a t b) (k : Kept (fun j => j = X) b c) (hX : a.heap.size ≤ X) (hb : b.heap[X]? = some (.cells cs u fr)) (hu : 98 ≠ u) : Rdn w0 s Z a t c :=
  ⟨h.tk.new k hX, k.heap h.rd (fun e => by rw [e] at h; have := h.rd; rw [hb] at this; injection this with this; injection this with _ this; exact hu this.symm), h.at_⟩
theorem Rdn.grow {w0 : World} {s : ByteArray} {Z : Nat} {a b c : World} {t : St} {lo n size : Nat} {e : TypeId} {v : Value} {xs : List Value} (h : Rdn w0 s Z a t b) (o : b.ownsRow lo e size v n xs) (g : b.grownBy c v.ownBlock) (hl : a.heap.size ≤ lo) (he : e ≠ 98) : Rdn w0 s Z a t c :=
  ⟨h.tk.grow_new o g hl, (grown_kept g).heap h.rd (fun q => by
    obtain ⟨_, cs, fr, h2⟩ := own_typ o q
    rw [h.rd] at h2
    injection h2 with h2
    injection h2 with _ h2
    exact he h2.symm), h.at_⟩
theorem DSt3.step {w0 : World} {s : ByteArray} {Z X : Nat} {t t' : St} {v0 v1 v2 v3 v4 : Value} {a b : World} (m : DSt3 w0 s Z X t v0 v1 v2 v3 v4 a) (r : Rdn w0 s Z a t' b) : DSt3 w0 s Z X t' v0 v1 v2 v3 v4 b :=
  ⟨r.tk.below m.bel, r.rd, heap_tk m.box r.tk (by decide), m.hZ, m.hX, r.at_⟩
theorem Rdn.comp {w0 : World} {s : ByteArray} {Z : Nat} {a b c : World} {t t' : St} (h : Rdn w0 s Z a t b) (k : Rdn w0 s Z b t' c) : Rdn w0 s Z a t' c := ⟨h.tk.trans k.tk, k.rd, k.at_⟩
theorem DSt3.grown {w0 : World} {s : ByteArray} {Z X lo n size : Nat} {e : TypeId} {t : St} {v0 v1 v2 v3 v4 v : Value} {xs : List Value} {a b : World} (m : DSt3 w0 s Z X t v0 v1 v2 v3 v4 a) (o : a.ownsRow lo e size v n xs) (g : a.grownBy b v.ownBlock) (h1 : 28 ≠ e) (h2 : 98 ≠ e) (hl : w0.heap.size ≤ lo) :
    DSt3 w0 s Z X t v0 v1 v2 v3 v4 b ∧ Tk w0.heap.size [e] a b := by
  have k : Tk w0.heap.size [e] a b := Tk.grown (own_down o hl) g (by simp)
  exact ⟨⟨k.below m.bel, heap_tk m.rd k (by simpa using h2), heap_tk m.box k (by simpa using h1), m.hZ, m.hX, m.at_⟩, k⟩
theorem DSt3.set1 {w0 : World} {s : ByteArray} {Z X : Nat} {t : St} {v0 v1 v2 v3 v4 : Value} {b : World} (m : DSt3 w0 s Z X t v0 v1 v2 v3 v4 b) (u : Value) : DSt3 w0 s Z X t v0 u v2 v3 v4 (b.setCell ⟨X, 1, none⟩ u) ∧ Tk w0.heap.size [28] b (b.setCell ⟨X, 1, none⟩ u) := by
  have k := kset b X 1 u
  refine ⟨⟨m.bel.trans (k.below m.bel.size (fun j e => by have := m.hX; omega)), k.heap m.rd (fun e => ?_), ?_, m.hZ, m.hX, m.at_⟩, Tk.of_block k m.box m.hX (by simp)⟩
  · have h1 := m.rd
    rw [e, m.box] at h1
    injection h1 with h1
    injection h1 with _ h1
    exact absurd h1 (by decide)
  · have h := heap_setCell_at (off := 1) m.box u
    simpa using h
theorem DSt3.set2 {w0 : World} {s : ByteArray} {Z X : Nat} {t : St} {v0 v1 v2 v3 v4 : Value} {b : World} (m : DSt3 w0 s Z X t v0 v1 v2 v3 v4 b) (u : Value) : DSt3 w0 s Z X t v0 v1 u v3 v4 (b.setCell ⟨X, 2, none⟩ u) ∧ Tk w0.heap.size [28] b (b.setCell ⟨X, 2, none⟩ u) := by
  have k := kset b X 2 u
  refine ⟨⟨m.bel.trans (k.below m.bel.size (fun j e => by have := m.hX; omega)), k.heap m.rd (fun e => ?_), ?_, m.hZ, m.hX, m.at_⟩, Tk.of_block k m.box m.hX (by simp)⟩
  · have h1 := m.rd
    rw [e, m.box] at h1
    injection h1 with h1
    injection h1 with _ h1
    exact absurd h1 (by decide)
  · have h := heap_setCell_at (off := 2) m.box u
    simpa using h
theorem DSt3.set3 {w0 : World} {s : ByteArray} {Z X : Nat} {t : St} {v0 v1 v2 v3 v4 : Value} {b : World} (m : DSt3 w0 s Z X t v0 v1 v2 v3 v4 b) (u : Value) : DSt3 w0 s Z X t v0 v1 v2 u v4 (b.setCell ⟨X, 3, none⟩ u) ∧ Tk w0.heap.size [28] b (b.setCell ⟨X, 3, none⟩ u) := by
  have k := kset b X 3 u
  refine ⟨⟨m.bel.trans (k.below m.bel.size (fun j e => by have := m.hX; omega)), k.heap m.rd (fun e => ?_), ?_, m.hZ, m.hX, m.at_⟩, Tk.of_block k m.box m.hX (by simp)⟩
  · have h1 := m.rd
    rw [e, m.box] at h1
    injection h1 with h1
    injection h1 with _ h1
    exact absurd h1 (by decide)
  · have h := heap_setCell_at (off := 3) m.box u
    simpa using h
theorem DSt3.set4 {w0 : World} {s : ByteArray} {Z X : Nat} {t : St} {v0 v1 v2 v3 v4 : Value} {b : World} (m : DSt3 w0 s Z X t v0 v1 v2 v3 v4 b) (u : Value) : DSt3 w0 s Z X t v0 v1 v2 v3 u (b.setCell ⟨X, 4, none⟩ u) ∧ Tk w0.heap.size [28] b (b.setCell ⟨X, 4, none⟩ u) := by
  have k := kset b X 4 u
  refine ⟨⟨m.bel.trans (k.below m.bel.size (fun j e => by have := m.hX; omega)), k.heap m.rd (fun e => ?_), ?_, m.hZ, m.hX, m.at_⟩, Tk.of_block k m.box m.hX (by simp)⟩
  · have h1 := m.rd
    rw [e, m.box] at h1
    injection h1 with h1
    injection h1 with _ h1
    exact absurd h1 (by decide)
  · have h := heap_setCell_at (off := 4) m.box u
    simpa using h
/-- How far reading many things has come: as the document reads; once it has failed, the state alone. -/
def many_st {α : Type} (f : St → α × St) (n : Nat) (t : St) (acc : List α) (total : List α × St) : Prop := (t.2 = false ∧ manyS f n t acc = total) ∨ (t.2 = true ∧ total.2 = t)
theorem many_st_start {α : Type} {f : St → α × St} {n : Nat} {t : St} {total : List α × St} (h : manyS f n t [] = total) (hf : ∀ n s, s.2 = true → (manyS f n s []).2 = s) : many_st f n t [] total := by
  cases hb : t.2 with
  | false => exact .inl ⟨hb, h⟩
  | true => exact .inr ⟨hb, by rw [← h]; exact hf n t hb⟩
theorem many_bad' {α : Type} (f : St → α × St) (n : Nat) (s : St) (h : s.2 = true) : (manyS f n s []).2 = s := by
  cases n with
  | zero => rfl
  | succ n => rw [many_bad _ _ _ _ h (by omega)]
theorem many_st_bad {α : Type} {f : St → α × St} {n : Nat} {t : St} {acc : List α} {total : List α × St} (h : many_st f n t acc total) (ht : t.2 = true) : t = total.2 := by
  rcases h with ⟨h, _⟩ | ⟨_, h⟩
  · rw [ht] at h; cases h
  · exact h.symm
theorem many_st_end {α : Type} {f : St → α × St} {n : Nat} {t : St} {acc : List α} {total : List α × St} (h : many_st f n t acc total) (hn : n = 0) : t = total.2 := by
  subst hn
  rcases h with ⟨_, h⟩ | ⟨_, h⟩
  · rw [← h]; rfl
  · exact h.symm
theorem many_st_list {α : Type} {f : St → α × St} {n : Nat} {t : St} {acc : List α} {total : List α × St} (h : many_st f n t acc total) (hn : n = 0) (ht : t.2 = false) : acc = total.1 := by
  subst hn
  rcases h with ⟨_, h⟩ | ⟨h, _⟩
  · rw [← h]; rfl
  · rw [ht] at h; cases h
theorem many_st_next {α : Type} {f : St → α × St} {n m : Nat} {t t' : St} {acc : List α} {x : α} {total : List α × St} (h : many_st f n t acc total) (hn : n = m + 1) (ht : t.2 = false) (h1 : t' = (f t).2) (h2 : t'.2 = false → x = (f t).1) : many_st f m t' (acc ++ [x]) total := by
  subst hn
  rcases h with ⟨_, h⟩ | ⟨h, _⟩
  · rw [many_go _ _ _ _ ht, ← h1] at h
    cases hb : t'.2 with
    | false =>
      rw [← h2 hb] at h
      exact .inl ⟨hb, h⟩
    | true =>
      refine .inr ⟨hb, ?_⟩
      rw [← h]
      cases m with
      | zero => rfl
      | succ m => rw [many_bad _ _ _ _ hb (by omega)]
  · rw [ht] at h; cases h
/-- What the reference's Decode hands back. -/
def RDecP (w : World) (s : ByteArray) (e : Ending) (w' : World) : Prop :=
  ∃ pv n a, e = .returned (.tuple #[pv, .int .i64 n, .int .i64 a]) ∧ Below w.heap.size w w' ∧ n = numQ (decF (strL s)) ∧ a = atQ (decF (strL s)) ∧ (decF (strL s) = none → PlanV w' pv (decV (strL s))) ∧ (decF (strL s) ≠ none → pv = zeroPlan)
section
variable {P : Program} {ops : Array Oper} {o : Oper} {a : Act} {Q : Exit → Act → World → Prop}
theorem step_append_elem {E : Prop} {K : Act → World → Prop} {W : World} (base : Nat) (hgd : o.guard = none) (s x : Operand) (t e : TypeId) (z : Value) (size bytes : Nat)
    (ho : o.op = .call { callee := .builtin .append, args := #[s, x], argTypes := #[t, t] })
    (ht : P.underlying t = some (.slice e)) (hinfo : (P.info? e).map (fun i => (i.zero, i.size, i.bytes)) = some (some z, size, bytes)) (hz : z.cells.size = size) (hs0 : 0 < size) (hb0 : 0 < bytes)
    (v : Value) (n : Nat) (xs news : List Value) (hs : a.eval s = v) (hx : a.eval x = .slice (some ⟨W.heap.size, 0, none⟩) 1 1) (hn : news.length = size) (h1 : ∀ u ∈ news, u.oneCell' = true)
    (HO : W.ownsRow base e size v n xs) (hbase : base ≤ W.heap.size) (hl : (n + 1) * bytes ≤ 140737488355328)
    (h : ∀ v1 w1, w1.ownsRow base e size v1 (n + 1) (xs ++ news) → W.grownBy w1 v.ownBlock → K (a.put o.dst v1) w1) :
    if Region.wanted o (yielded ops a.tmps) = true then Oper.wp P o a (W.alloc (.cells news.toArray e)) K Q else E := by
  obtain ⟨i0, hi, hz0, hz1, hz2⟩ := info_parts hinfo
  have hlen : n + 1 ≤ 140737488355328 := Nat.le_trans (Nat.le_mul_of_pos_right _ hb0) hl
  obtain ⟨v', w', hr, h2, h3, h4, h5⟩ := run_append_own_at (P := P) (W.alloc (.cells news.toArray e)) base t o.type e i0 z size bytes ht hi hz0 hz1 hz2 hz hs0 v n xs (HO.alloc _) ⟨W.heap.size, 0, none⟩ 1 1 news (by simp [hn])
    (World.news_of_block (cs := news.toArray) (t := e) (fr := (0, 0)) (heap_alloc_new W _)) h1 (by simp only [maxLen]; omega) hl (by simp; omega)
  have hw : Region.wanted o (yielded ops a.tmps) = true := by simp [Region.wanted, hgd]
  rw [if_pos hw]
  unfold Oper.wp execOp
  simp only [ho, resolve, invoke, builtin, Sem.run_bind, Sem.run_pure, Result.andThen_ok, List.map_toArray, List.map_cons, List.map_nil, hs, hx, hr]
  exact h _ _ h2 (World.grownBy.trans (World.grownBy_alloc W _ _) h3)
end
end Go.Proofs.YtbphlapdhcgikaaDoor
