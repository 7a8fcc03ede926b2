/- Readings: what an argument of a type can be, as a plain Lean value. -/
import Derived.Test.YtmfddaihepjfeaaKit
import Derived.OpenShut
import Derived.Deep.Slices
import Derived.ChangeArms
import Derived.WideShapes
namespace Go.Proofs.Ytmfddaihepjfeaa
open Go.RowKit Go.WideShapes
set_option linter.unusedVariables false

/-- A type's readings: n cells that read as a value. -/
structure Rd (P : Program) (t : TypeId) (α : Type) where
  n : Nat
  R : World → List Value → α → Prop
  size : P.cellsOf t = n
  opens : ∀ {H : Type} {enc : TypeId × Value → H} {W : World} {spare : Nat → Bool} {held : Bool} {fuel : Nat} {cs : List Value} {x : DataW H × List MemPlace}, DataW.trod enc P W 0 spare held fuel t cs = some x → ∃ a, R W cs a
  below : ∀ {W W' : World} {cs : List Value} {a : α}, R W cs a → Below W.heap.size W W' → R W' cs a

def Rd.int {P : Program} {t : TypeId} {k : IntKind} (ht : P.underlying t = some (.int k)) (hc : P.cellsOf t = 1) : Rd P t Int where
  n := 1
  R := fun _ cs z => cs = [.int k z] ∧ (Lit.int k z).wf = true
  size := hc
  opens := fun h => by obtain ⟨n, h1, _, h2⟩ := DataW.trod_int ht h; exact ⟨n, h1, h2⟩
  below := fun h _ => h
def Rd.bool {P : Program} {t : TypeId} (ht : P.underlying t = some .bool) (hc : P.cellsOf t = 1) : Rd P t Bool where
  n := 1
  R := fun _ cs z => cs = [.bool z]
  size := hc
  opens := fun h => by obtain ⟨n, h1, _⟩ := DataW.trod_bool ht h; exact ⟨n, h1⟩
  below := fun h _ => h
def Rd.string {P : Program} {t : TypeId} (ht : P.underlying t = some .string) (hc : P.cellsOf t = 1) : Rd P t ByteArray where
  n := 1
  R := fun _ cs z => cs = [.string z] ∧ z.size ≤ 9223372036854775807
  size := hc
  opens := fun h => by obtain ⟨n, h1, _, h2⟩ := DataW.trod_string ht h; exact ⟨n, h1, by simpa [maxLen] using h2⟩
  below := fun h _ => h

/-- A cell behind a place, as the machine spells it. -/
theorem cell_add (w : World) (a : Addr) (i j : Nat) (hj : 0 < j) : w.cell? ⟨(a.add i).block, (a.add i).off + j, none⟩ = w.cell? (a.add (i + j)) := by
  congr 1
  by_cases h1 : i = 0 <;> simp [Addr.add, h1, show j ≠ 0 by omega] <;> omega
/-- A slice's elements, each n cells that read by R. -/
def Elems {α : Type} (w : World) (n : Nat) (R : World → List Value → α → Prop) (v : Value) (L : List α) : Prop :=
  ∃ a cap, v = .slice a L.length cap ∧ L.length ≤ cap ∧ cap ≤ 9223372036854775807 ∧ (0 < L.length → ∃ ad, a = some ad ∧ ∀ i (hi : i < L.length), ∃ cs, cs.length = n ∧ (∀ j, j < n → w.cell? (ad.add (i * n + j)) = cs[j]?) ∧ R w cs L[i])
theorem Elems.below {α : Type} {w w' : World} {n : Nat} {R : World → List Value → α → Prop} {v : Value} {L : List α} (hR : ∀ {W W' : World} {cs : List Value} {a : α}, R W cs a → Below W.heap.size W W' → R W' cs a) (h : Elems w n R v L) (k : Below w.heap.size w w') : Elems w' n R v L := by
  obtain ⟨a, cap, rfl, h1, h2, h3⟩ := h
  refine ⟨a, cap, rfl, h1, h2, fun hp => ?_⟩
  obtain ⟨ad, rfl, h4⟩ := h3 hp
  refine ⟨ad, rfl, fun i hi => ?_⟩
  obtain ⟨cs, e, hc, hr⟩ := h4 i hi
  refine ⟨cs, e, fun j hj => ?_, hR hr k⟩
  rw [← hc j hj]
  have hs : w.cell? (ad.add (i * n + j)) = some (cs[j]'(by omega)) := by rw [hc j hj, List.getElem?_eq_getElem (by omega)]
  rw [hs]
  exact (Kept.of_below (S := fun _ => False) k).cell hs id

def Rd.slice {P : Program} {t e : TypeId} {α : Type} (r : Rd P e α) (ht : P.underlying t = some (.slice e)) (hc : P.cellsOf t = 1) : Rd P t (List α) where
  n := 1
  R := fun w cs L => ∃ v, cs = [v] ∧ Elems w r.n r.R v L
  size := hc
  opens := fun {H enc W spare held fuel cs x} h => by
    rcases Go.Deep.open_slice ht h with ⟨rfl, _⟩ | ⟨a, len, cap, m, n, D, Pl, rfl, hb, hl, hm, hmm, hx, hi⟩
    · exact ⟨[], _, rfl, none, 0, rfl, by simp, by simp, by simp⟩
    · have hlm : len ≤ m := by rw [hmm]; split <;> omega
      have hel : ∀ i, i < len → ∃ q : List Value × α, q.1.length = r.n ∧ (∀ j, j < r.n → W.cell? (a.add (i * r.n + j)) = q.1[j]?) ∧ r.R W q.1 q.2 := fun i hi' => by
        obtain ⟨cs', hc', ht'⟩ := hi i (by omega)
        rw [r.size] at hc'
        obtain ⟨_, hcl, hat⟩ := World.cells?_some hc'
        obtain ⟨y, hy⟩ := r.opens ht'
        refine ⟨(cs', y), hcl, fun j hj => ?_, hy⟩
        rw [← hat j hj, Go.Deep.add_add]
      have hL : ∃ L : List α, L.length = len ∧ ∀ i (hi : i < L.length), ∃ cs : List Value, cs.length = r.n ∧ (∀ j, j < r.n → W.cell? (a.add (i * r.n + j)) = cs[j]?) ∧ r.R W cs L[i] := by
        refine ⟨List.ofFn fun i : Fin len => (Classical.choose (hel i.1 i.2)).2, by simp, fun i hi' => ?_⟩
        have hil : i < len := by simpa using hi'
        have hs := Classical.choose_spec (hel i hil)
        exact ⟨_, hs.1, hs.2.1, by simpa using hs.2.2⟩
      obtain ⟨L, hlen, hL⟩ := hL
      exact ⟨L, _, rfl, some a, cap, by rw [hlen], by omega, by simpa [maxLen] using hm, fun _ => ⟨a, rfl, hL⟩⟩
  below := fun h k => by
    obtain ⟨v, rfl, h⟩ := h
    exact ⟨v, rfl, h.below r.below k⟩

/-- Fields from a place on. -/
structure RdF (P : Program) (o : Nat) (fs : List Field) (β : Type) where
  n : Nat
  R : World → List Value → β → Prop
  opens : ∀ {H : Type} {enc : TypeId × Value → H} {W : World} {spare : Nat → Bool} {held : Bool} {fuel : Nat} {cs : List Value}, (∀ f ∈ fs, ∃ x : DataW H × List MemPlace, DataW.trod enc P W 0 spare held fuel f.type ((cs.drop f.offset).take (P.cellsOf f.type)) = some x) → ∃ a, R W ((cs.drop o).take n) a
  below : ∀ {W W' : World} {cs : List Value} {a : β}, R W cs a → Below W.heap.size W W' → R W' cs a
def RdF.nil {P : Program} (o : Nat) : RdF P o [] Unit where
  n := 0
  R := fun _ cs _ => cs = []
  opens := fun _ => ⟨(), by simp⟩
  below := fun h _ => h
def RdF.cons {P : Program} {o : Nat} {f : Field} {fs : List Field} {α β : Type} (r : Rd P f.type α) (ho : f.offset = o) (s : RdF P (o + r.n) fs β) : RdF P o (f :: fs) (α × β) where
  n := r.n + s.n
  R := fun w cs q => ∃ c1 c2, cs = c1 ++ c2 ∧ r.R w c1 q.1 ∧ s.R w c2 q.2
  opens := fun {H enc W spare held fuel cs} h => by
    obtain ⟨x, hx⟩ := h f (by simp)
    obtain ⟨a, ha⟩ := r.opens hx
    obtain ⟨b, hb⟩ := s.opens (fun g hg => h g (by simp [hg]))
    rw [ho, r.size] at ha
    refine ⟨(a, b), _, _, ?_, ha, hb⟩
    rw [← List.drop_drop]
    exact List.take_add
  below := fun h k => by
    obtain ⟨c1, c2, e, h1, h2⟩ := h
    exact ⟨c1, c2, e, r.below h1 k, s.below h2 k⟩
def Rd.struct {P : Program} {t : TypeId} {fs : Array Field} {β : Type} (s : RdF P 0 fs.toList β) (ht : P.underlying t = some (.struct fs)) (hc : P.cellsOf t = s.n) : Rd P t β where
  n := s.n
  R := s.R
  size := hc
  opens := fun {H enc W spare held fuel cs x} h => by
    obtain ⟨xs, n, _, _, hlen, hl, hel⟩ := DataW.trod_struct ht h
    obtain ⟨a, ha⟩ := s.opens (W := W) (enc := enc) (spare := spare) (held := held) (fuel := n) (cs := cs) (fun f hf => by
      obtain ⟨i, hi, rfl⟩ := List.getElem_of_mem hf
      have hi' : i < fs.size := by simpa using hi
      have := hel i fs[i] (by simp [hi'])
      exact ⟨xs[i]'(by omega), by simpa [List.getElem?_eq_getElem (show i < xs.length by omega)] using this⟩)
    refine ⟨a, ?_⟩
    rw [hc] at hlen
    rwa [List.drop_zero, ← hlen, List.take_length] at ha
  below := s.below
def Rd.array {P : Program} {t e : TypeId} {α : Type} {k : Nat} (r : Rd P e α) (ht : P.underlying t = some (.array k e)) (hc : P.cellsOf t = k * r.n) : Rd P t (List α) where
  n := k * r.n
  R := fun w cs L => L.length = k ∧ cs.length = k * r.n ∧ ∀ i (h : i < L.length), r.R w ((cs.drop (i * r.n)).take r.n) L[i]
  size := hc
  opens := fun {H enc W spare held fuel cs x} h => by
    obtain ⟨xs, n, _, _, hlen, hl, hel⟩ := DataW.trod_array ht h
    have he : ∀ i, i < k → ∃ a, r.R W ((cs.drop (i * r.n)).take r.n) a := fun i hi => by
      have := hel i hi
      rw [r.size, List.getElem?_eq_getElem (show i < xs.length by omega)] at this
      exact r.opens this
    refine ⟨List.ofFn fun i : Fin k => Classical.choose (he i.1 i.2), by simp, by rw [hlen, hc], fun i hi => ?_⟩
    have hik : i < k := by simpa using hi
    simpa using Classical.choose_spec (he i hik)
  below := fun h k => by
    obtain ⟨h1, h2, h3⟩ := h
    exact ⟨h1, h2, fun i hi => r.below (h3 i hi) k⟩
/-- Another name for what is read. -/
def Rd.as {P : Program} {t : TypeId} {α β : Type} (r : Rd P t α) (f : α → β) : Rd P t β where
  n := r.n
  R := fun w cs b => ∃ a, b = f a ∧ r.R w cs a
  size := r.size
  opens := fun h => by obtain ⟨a, ha⟩ := r.opens h; exact ⟨f a, a, rfl, ha⟩
  below := fun h k => by obtain ⟨a, e, h⟩ := h; exact ⟨a, e, r.below h k⟩
/-- One cell, by its own value. -/
theorem Rd.open1 {P : Program} {t : TypeId} {α : Type} (r : Rd P t α) {H : Type} {enc : TypeId × Value → H} {W : World} {spare : Nat → Bool} {held : Bool} {v : Value} {d : DataW H} {p : List MemPlace} (h : DataW.Trod enc P W 0 spare held t v d p) : ∃ a, r.R W v.cells.toList a := by
  obtain ⟨fuel, h⟩ := h
  exact r.opens h
theorem elems_of {P : Program} {t e : TypeId} {α : Type} {r : Rd P e α} {ht : P.underlying t = some (.slice e)} {hc : P.cellsOf t = 1} {W : World} {a : Option Addr} {len cap : Nat} {L : List α} (h : (Rd.slice r ht hc).R W (Value.slice a len cap).cells.toList L) : Elems W r.n r.R (.slice a len cap) L := by
  obtain ⟨v, e, h⟩ := h
  have : v = .slice a len cap := by simp [Value.cells] at e; exact e.symm
  rwa [this] at h
/-- An argument that is an aggregate of cells. -/
theorem agg_of_struct {P : Program} {t : TypeId} {α : Type} (r : Rd P t α) {fs : Array Field} (ht : P.underlying t = some (.struct fs)) {H : Type} {enc : TypeId × Value → H} {W : World} {spare : Nat → Bool} {held : Bool} {v : Value} {d : DataW H} {p : List MemPlace} {rr : Reach} {b0 : Nat} (hv : Value.okWide P W rr b0 t v) (h : DataW.Trod enc P W 0 spare held t v d p) : ∃ cs a, v = .agg cs ∧ r.R W cs.toList a := by
  obtain ⟨cs, rfl, _⟩ := okWide_struct ht hv
  obtain ⟨a, ha⟩ := r.open1 h
  exact ⟨cs, a, rfl, ha⟩
theorem okWide_array {P : Program} {W : World} {t e : TypeId} {k : Nat} {v : Value} {rr : Reach} {b0 : Nat} (ht : P.underlying t = some (.array k e)) (h : Value.okWide P W rr b0 t v) : ∃ cs, v = .agg cs ∧ cs.size = P.cellsOf t := by
  simp only [Value.okWide, ht] at h
  obtain ⟨cs, h1, h2, _⟩ := h
  exact ⟨cs, h1, h2⟩
theorem agg_of_array {P : Program} {t e : TypeId} {k : Nat} {α : Type} (r : Rd P t α) (ht : P.underlying t = some (.array k e)) {H : Type} {enc : TypeId × Value → H} {W : World} {spare : Nat → Bool} {held : Bool} {v : Value} {d : DataW H} {p : List MemPlace} {rr : Reach} {b0 : Nat} (hv : Value.okWide P W rr b0 t v) (h : DataW.Trod enc P W 0 spare held t v d p) : ∃ cs a, v = .agg cs ∧ r.R W cs.toList a := by
  obtain ⟨cs, rfl, _⟩ := okWide_array ht hv
  obtain ⟨a, ha⟩ := r.open1 h
  exact ⟨cs, a, rfl, ha⟩
end Go.Proofs.Ytmfddaihepjfeaa
