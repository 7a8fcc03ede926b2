/- Readings: what an argument of a type can be, as a plain Lean value. -/
import Derived.Test.YtidjkhmlpgkaaaaDoorKit
import Derived.OpenShut
import Derived.Deep.Slices
import Derived.ChangeArms
import Derived.WideShapes
import Derived.SizedLaws
namespace Go.Proofs.YtidjkhmlpgkaaaaDoor
open Go.RowKit Go.WideShapes
set_option linter.unusedVariables false

theorem weights_all {H : Type} {P : Program} {e : TypeId} : ∀ {ds : List (DataW H)} {d : DataW H}, d ∈ ds → ∀ n ∈ d.weights P e, n ∈ DataW.weightsAll P e ds
  | x :: ds, d, hd, n, hn => by
    simp only [DataW.weightsAll, List.mem_append]
    rcases List.mem_cons.1 hd with rfl | hd
    · exact Or.inl hn
    · exact Or.inr (weights_all hd n hn)
/-- A type's readings: n cells that read as a value; S: no slice in it weighs more than the reach. -/
structure Rd (P : Program) (t : TypeId) (α : Type) where
  n : Nat
  R : World → List Value → α → Prop
  size : P.cellsOf t = n
  S : α → Prop
  opens : ∀ {H : Type} {enc : TypeId × Value → H} {W : World} {spare : Nat → Bool} {held : Bool} {fuel : Nat} {cs : List Value} {x : DataW H × List MemPlace}, DataW.trod enc P W 0 spare held fuel t cs = some x → (∀ n ∈ x.1.weights P t, n ≤ reachBytes) → ∃ a, R W cs a ∧ S a
  below : ∀ {W W' : World} {cs : List Value} {a : α}, R W cs a → Below W.heap.size W W' → R W' cs a

def Rd.int {P : Program} {t : TypeId} {k : IntKind} (ht : P.underlying t = some (.int k)) (hc : P.cellsOf t = 1) : Rd P t Int where
  n := 1
  R := fun _ cs z => cs = [.int k z] ∧ (Lit.int k z).wf = true
  size := hc
  S := fun _ => True
  opens := fun h _ => by obtain ⟨n, h1, _, h2⟩ := DataW.trod_int ht h; exact ⟨n, ⟨h1, h2⟩, trivial⟩
  below := fun h _ => h
def Rd.bool {P : Program} {t : TypeId} (ht : P.underlying t = some .bool) (hc : P.cellsOf t = 1) : Rd P t Bool where
  n := 1
  R := fun _ cs z => cs = [.bool z]
  size := hc
  S := fun _ => True
  opens := fun h _ => by obtain ⟨n, h1, _⟩ := DataW.trod_bool ht h; exact ⟨n, h1, trivial⟩
  below := fun h _ => h
def Rd.string {P : Program} {t : TypeId} (ht : P.underlying t = some .string) (hc : P.cellsOf t = 1) : Rd P t ByteArray where
  n := 1
  R := fun _ cs z => cs = [.string z] ∧ z.size ≤ 9223372036854775807
  size := hc
  S := fun z => z.size ≤ reachBytes
  opens := fun h hw => by
    obtain ⟨n, h1, h3, h2⟩ := DataW.trod_string ht h
    refine ⟨n, ⟨h1, by simpa [maxLen] using h2⟩, ?_⟩
    rw [h3] at hw
    have := hw n.data.toList.length (by simp [DataW.weights])
    simpa using this
  below := fun h _ => h

/-- A cell behind a place, as the machine spells it. -/
theorem cell_add (w : World) (a : Addr) (i j : Nat) (hj : 0 < j) : w.cell? ⟨(a.add i).block, (a.add i).off + j, none⟩ = w.cell? (a.add (i + j)) := by
  congr 1
  by_cases h1 : i = 0 <;> simp [Addr.add, h1, show j ≠ 0 by omega] <;> omega
/-- A slice's elements, each n cells that read by R. -/
def Elems {α : Type} (w : World) (n : Nat) (R : World → List Value → α → Prop) (v : Value) (L : List α) : Prop :=
  ∃ a cap, v = .slice a L.length cap ∧ L.length ≤ cap ∧ cap ≤ 9223372036854775807 ∧ (0 < L.length → ∃ ad, a = some ad ∧ ∀ i (hi : i < L.length), ∃ cs, cs.length = n ∧ (∀ j, j < n → w.cell? (ad.add (i * n + j)) = cs[j]?) ∧ R w cs L[i])
theorem Elems.below {α : Type} {w w' : World} {n : Nat} {R : World → List Value → α → Prop} {v : Value} {L : List α} (hR : ∀ {W W' : World} {cs : List Value} {a : α}, R W cs a → Below W.heap.size W W' → R W' cs a) (h : Elems w n R v L) (k : Below w.heap.size w w') : Elems w' n R v L := by
  obtain ⟨a, cap, rfl, h1, h2, h3⟩ := h
  refine ⟨a, cap, rfl, h1, h2, fun hp => ?_⟩
  obtain ⟨ad, rfl, h4⟩ := h3 hp
  refine ⟨ad, rfl, fun i hi => ?_⟩
  obtain ⟨cs, e, hc, hr⟩ := h4 i hi
  refine ⟨cs, e, fun j hj => ?_, hR hr k⟩
  rw [← hc j hj]
  have hs : w.cell? (ad.add (i * n + j)) = some (cs[j]'(by omega)) := by rw [hc j hj, List.getElem?_eq_getElem (by omega)]
  rw [hs]
  exact (Kept.of_below (S := fun _ => False) k).cell hs id

def Rd.slice {P : Program} {t e : TypeId} {α : Type} (r : Rd P e α) (ht : P.underlying t = some (.slice e)) (hc : P.cellsOf t = 1) : Rd P t (List α) where
  n := 1
  R := fun w cs L => ∃ v, cs = [v] ∧ Elems w r.n r.R v L
  size := hc
  S := fun L => L.length * P.bytesOf e ≤ reachBytes ∧ ∀ x ∈ L, r.S x
  opens := fun {H enc W spare held fuel cs x} h hw => by
    rcases Go.Deep.open_slice ht h with ⟨rfl, _⟩ | ⟨a, len, cap, m, n, D, Pl, rfl, hb, hl, hm, hmm, hx, hi⟩
    · exact ⟨[], ⟨_, rfl, none, 0, rfl, by simp, by simp, by simp⟩, by simp, by simp⟩
    · have hlm : len ≤ m := by rw [hmm]; split <;> omega
      rw [hx] at hw
      simp only [DataW.weights, ht] at hw
      have hw1 : len * P.bytesOf e ≤ reachBytes := by
        have h1 := hw _ (List.mem_cons_self ..)
        simp only [List.length_map, List.length_range] at h1
        exact Nat.le_trans (Nat.mul_le_mul_right _ (by omega)) h1
      have hw2 : ∀ i, i < len → ∀ n ∈ (D i).weights P e, n ≤ reachBytes := fun i hi' n hn => hw n (List.mem_cons_of_mem _ (List.mem_append.2 (.inl (weights_all (List.mem_map.2 ⟨i, List.mem_range.2 hi', rfl⟩) n hn))))
      have hel : ∀ i, i < len → ∃ q : List Value × α, q.1.length = r.n ∧ (∀ j, j < r.n → W.cell? (a.add (i * r.n + j)) = q.1[j]?) ∧ r.R W q.1 q.2 ∧ r.S q.2 := fun i hi' => by
        obtain ⟨cs', hc', ht'⟩ := hi i (by omega)
        rw [r.size] at hc'
        obtain ⟨_, hcl, hat⟩ := World.cells?_some hc'
        obtain ⟨y, hy⟩ := r.opens ht' (hw2 i hi')
        refine ⟨(cs', y), hcl, fun j hj => ?_, hy⟩
        rw [← hat j hj, Go.Deep.add_add]
      have hL : ∃ L : List α, L.length = len ∧ (∀ x ∈ L, r.S x) ∧ ∀ i (hi : i < L.length), ∃ cs : List Value, cs.length = r.n ∧ (∀ j, j < r.n → W.cell? (a.add (i * r.n + j)) = cs[j]?) ∧ r.R W cs L[i] := by
        refine ⟨List.ofFn fun i : Fin len => (Classical.choose (hel i.1 i.2)).2, by simp, fun x hx' => ?_, fun i hi' => ?_⟩
        · obtain ⟨i, hi', rfl⟩ := List.getElem_of_mem hx'
          have hil : i < len := by simpa using hi'
          simpa using (Classical.choose_spec (hel i hil)).2.2.2
        · have hil : i < len := by simpa using hi'
          have hs := Classical.choose_spec (hel i hil)
          exact ⟨_, hs.1, hs.2.1, by simpa using hs.2.2.1⟩
      obtain ⟨L, hlen, hLS, hL⟩ := hL
      exact ⟨L, ⟨_, rfl, some a, cap, by rw [hlen], by omega, by simpa [maxLen] using hm, fun _ => ⟨a, rfl, hL⟩⟩, by rw [hlen]; exact hw1, hLS⟩
  below := fun h k => by
    obtain ⟨v, rfl, h⟩ := h
    exact ⟨v, rfl, h.below r.below k⟩

/-- Fields from a place on. -/
structure RdF (P : Program) (o : Nat) (fs : List Field) (β : Type) where
  n : Nat
  R : World → List Value → β → Prop
  S : β → Prop
  opens : ∀ {H : Type} {enc : TypeId × Value → H} {W : World} {spare : Nat → Bool} {held : Bool} {fuel : Nat} {cs : List Value}, (∀ f ∈ fs, ∃ x : DataW H × List MemPlace, DataW.trod enc P W 0 spare held fuel f.type ((cs.drop f.offset).take (P.cellsOf f.type)) = some x ∧ ∀ n ∈ x.1.weights P f.type, n ≤ reachBytes) → ∃ a, R W ((cs.drop o).take n) a ∧ S a
  below : ∀ {W W' : World} {cs : List Value} {a : β}, R W cs a → Below W.heap.size W W' → R W' cs a
def RdF.nil {P : Program} (o : Nat) : RdF P o [] Unit where
  n := 0
  R := fun _ cs _ => cs = []
  S := fun _ => True
  opens := fun _ => ⟨(), by simp, trivial⟩
  below := fun h _ => h
def RdF.cons {P : Program} {o : Nat} {f : Field} {fs : List Field} {α β : Type} (r : Rd P f.type α) (ho : f.offset = o) (s : RdF P (o + r.n) fs β) : RdF P o (f :: fs) (α × β) where
  n := r.n + s.n
  R := fun w cs q => ∃ c1 c2, cs = c1 ++ c2 ∧ r.R w c1 q.1 ∧ s.R w c2 q.2
  S := fun q => r.S q.1 ∧ s.S q.2
  opens := fun {H enc W spare held fuel cs} h => by
    obtain ⟨x, hx, hw⟩ := h f (by simp)
    obtain ⟨a, ha, sa⟩ := r.opens hx hw
    obtain ⟨b, hb, sb⟩ := s.opens (fun g hg => h g (by simp [hg]))
    rw [ho, r.size] at ha
    refine ⟨(a, b), ⟨_, _, ?_, ha, hb⟩, sa, sb⟩
    rw [← List.drop_drop]
    exact List.take_add
  below := fun h k => by
    obtain ⟨c1, c2, e, h1, h2⟩ := h
    exact ⟨c1, c2, e, r.below h1 k, s.below h2 k⟩
def Rd.struct {P : Program} {t : TypeId} {fs : Array Field} {β : Type} (s : RdF P 0 fs.toList β) (ht : P.underlying t = some (.struct fs)) (hc : P.cellsOf t = s.n) : Rd P t β where
  n := s.n
  R := s.R
  size := hc
  S := s.S
  opens := fun {H enc W spare held fuel cs x} h hw => by
    obtain ⟨xs, n, _, hx, hlen, hl, hel⟩ := DataW.trod_struct ht h
    rw [hx] at hw
    simp only [DataW.weights, ht] at hw
    obtain ⟨a, ha, sa⟩ := s.opens (W := W) (enc := enc) (spare := spare) (held := held) (fuel := n) (cs := cs) (fun f hf => by
      obtain ⟨i, hi, rfl⟩ := List.getElem_of_mem hf
      have hi' : i < fs.size := by simpa using hi
      have := hel i fs[i] (by simp [hi'])
      refine ⟨xs[i]'(by omega), by simpa [List.getElem?_eq_getElem (show i < xs.length by omega)] using this, fun m hm => hw m (DataW.weights_mem_each (j := i) (t := fs.toList[i].type) (d := (xs[i]'(by omega)).1) ?_ ?_ m hm)⟩
      · simp [hi']
      · simp [List.getElem?_eq_getElem (show i < xs.length by omega)])
    refine ⟨a, ?_, sa⟩
    rw [hc] at hlen
    rwa [List.drop_zero, ← hlen, List.take_length] at ha
  below := s.below
def Rd.array {P : Program} {t e : TypeId} {α : Type} {k : Nat} (r : Rd P e α) (ht : P.underlying t = some (.array k e)) (hc : P.cellsOf t = k * r.n) : Rd P t (List α) where
  n := k * r.n
  R := fun w cs L => L.length = k ∧ cs.length = k * r.n ∧ ∀ i (h : i < L.length), r.R w ((cs.drop (i * r.n)).take r.n) L[i]
  size := hc
  S := fun L => ∀ x ∈ L, r.S x
  opens := fun {H enc W spare held fuel cs x} h hw => by
    obtain ⟨xs, n, _, hx, hlen, hl, hel⟩ := DataW.trod_array ht h
    rw [hx] at hw
    simp only [DataW.weights, ht] at hw
    have he : ∀ i, i < k → ∃ a, r.R W ((cs.drop (i * r.n)).take r.n) a ∧ r.S a := fun i hi => by
      have := hel i hi
      rw [r.size, List.getElem?_eq_getElem (show i < xs.length by omega)] at this
      exact r.opens this (fun m hm => hw m (weights_all (List.mem_map.2 ⟨xs[i]'(by omega), List.getElem_mem _, rfl⟩) m hm))
    refine ⟨List.ofFn fun i : Fin k => Classical.choose (he i.1 i.2), ⟨by simp, by rw [hlen, hc], fun i hi => ?_⟩, fun x hx' => ?_⟩
    · have hik : i < k := by simpa using hi
      simpa using (Classical.choose_spec (he i hik)).1
    · obtain ⟨i, hi, rfl⟩ := List.getElem_of_mem hx'
      have hik : i < k := by simpa using hi
      simpa using (Classical.choose_spec (he i hik)).2
  below := fun h k => by
    obtain ⟨h1, h2, h3⟩ := h
    exact ⟨h1, h2, fun i hi => r.below (h3 i hi) k⟩
/-- Another name for what is read. -/
def Rd.as {P : Program} {t : TypeId} {α β : Type} (r : Rd P t α) (f : α → β) : Rd P t β where
  n := r.n
  R := fun w cs b => ∃ a, b = f a ∧ r.R w cs a
  size := r.size
  S := fun b => ∃ a, b = f a ∧ r.S a
  opens := fun h hw => by obtain ⟨a, ha, sa⟩ := r.opens h hw; exact ⟨f a, ⟨a, rfl, ha⟩, a, rfl, sa⟩
  below := fun h k => by obtain ⟨a, e, h⟩ := h; exact ⟨a, e, r.below h k⟩
/-- One cell, by its own value. -/
theorem Rd.open1 {P : Program} {t : TypeId} {α : Type} (r : Rd P t α) {H : Type} {enc : TypeId × Value → H} {W : World} {spare : Nat → Bool} {held : Bool} {v : Value} {d : DataW H} {p : List MemPlace} (h : DataW.Trod enc P W 0 spare held t v d p) (hw : ∀ n ∈ d.weights P t, n ≤ reachBytes) : ∃ a, r.R W v.cells.toList a ∧ r.S a := by
  obtain ⟨fuel, h⟩ := h
  exact r.opens h hw
theorem elems_of {P : Program} {t e : TypeId} {α : Type} {r : Rd P e α} {ht : P.underlying t = some (.slice e)} {hc : P.cellsOf t = 1} {W : World} {a : Option Addr} {len cap : Nat} {L : List α} (h : (Rd.slice r ht hc).R W (Value.slice a len cap).cells.toList L) : Elems W r.n r.R (.slice a len cap) L := by
  obtain ⟨v, e, h⟩ := h
  have : v = .slice a len cap := by simp [Value.cells] at e; exact e.symm
  rwa [this] at h
/-- An argument that is an aggregate of cells. -/
theorem agg_of_struct {P : Program} {t : TypeId} {α : Type} (r : Rd P t α) {fs : Array Field} (ht : P.underlying t = some (.struct fs)) {H : Type} {enc : TypeId × Value → H} {W : World} {spare : Nat → Bool} {held : Bool} {v : Value} {d : DataW H} {p : List MemPlace} {rr : Reach} {b0 : Nat} (hv : Value.okWide P W rr b0 t v) (h : DataW.Trod enc P W 0 spare held t v d p) (hw : ∀ n ∈ d.weights P t, n ≤ reachBytes) : ∃ cs a, v = .agg cs ∧ r.R W cs.toList a ∧ r.S a := by
  obtain ⟨cs, rfl, _⟩ := okWide_struct ht hv
  obtain ⟨a, ha⟩ := r.open1 h hw
  exact ⟨cs, a, rfl, ha⟩
theorem okWide_array {P : Program} {W : World} {t e : TypeId} {k : Nat} {v : Value} {rr : Reach} {b0 : Nat} (ht : P.underlying t = some (.array k e)) (h : Value.okWide P W rr b0 t v) : ∃ cs, v = .agg cs ∧ cs.size = P.cellsOf t := by
  simp only [Value.okWide, ht] at h
  obtain ⟨cs, h1, h2, _⟩ := h
  exact ⟨cs, h1, h2⟩
theorem agg_of_array {P : Program} {t e : TypeId} {k : Nat} {α : Type} (r : Rd P t α) (ht : P.underlying t = some (.array k e)) {H : Type} {enc : TypeId × Value → H} {W : World} {spare : Nat → Bool} {held : Bool} {v : Value} {d : DataW H} {p : List MemPlace} {rr : Reach} {b0 : Nat} (hv : Value.okWide P W rr b0 t v) (h : DataW.Trod enc P W 0 spare held t v d p) (hw : ∀ n ∈ d.weights P t, n ≤ reachBytes) : ∃ cs a, v = .agg cs ∧ r.R W cs.toList a ∧ r.S a := by
  obtain ⟨cs, rfl, _⟩ := okWide_array ht hv
  obtain ⟨a, ha⟩ := r.open1 h hw
  exact ⟨cs, a, rfl, ha⟩
end Go.Proofs.YtidjkhmlpgkaaaaDoor
