/- How a plan's partitions, channels and pairs read. -/
import Derived.Test.YtbphlapdhcgikaaDoorPlanA
namespace Go.Proofs.YtbphlapdhcgikaaDoor
open Go.RowKit
set_option linter.unusedVariables false
set_option linter.unusedSimpArgs false

theorem Elems.at_ {α : Type} {w : World} {n : Nat} {R : World → List Value → α → Prop} {a : Option Addr} {m cap : Nat} {L : List α} (h : Elems w n R (.slice a m cap) L) (i : Nat) (x : α) (hx : L[i]? = some x) :
    ∃ ad cs, a = some ad ∧ cs.length = n ∧ (∀ j, j < n → w.cell? (ad.add (i * n + j)) = cs[j]?) ∧ R w cs x := by
  obtain ⟨hi, rfl⟩ := List.getElem?_eq_some_iff.1 hx
  obtain ⟨a', cap', e, h1, h2, h3⟩ := h
  obtain ⟨ad, rfl, h4⟩ := h3 (by omega)
  obtain ⟨cs, hl, hc, hr⟩ := h4 i hi
  cases e
  exact ⟨ad, cs, rfl, hl, hc, hr⟩
theorem Elems.len {α : Type} {w : World} {n : Nat} {R : World → List Value → α → Prop} {v : Value} {L : List α} (h : Elems w n R v L) : ∃ a cap, v = .slice a L.length cap ∧ L.length ≤ 9223372036854775807 := by
  obtain ⟨a, cap, rfl, h1, h2, _⟩ := h
  exact ⟨a, cap, rfl, by omega⟩

/-! ### Pairs, semaphores -/
structure PairR.Ok (x : PairR) : Prop where
  a : 0 ≤ PairR.a x ∧ PairR.a x ≤ 255
  b : 0 ≤ PairR.b x ∧ PairR.b x ≤ 255
def PairR.val (x : PairR) : Value := .agg #[.int .u8 (PairR.a x), .int .u8 (PairR.b x)]
theorem pair_cells {w : World} {cs : List Value} {x : PairR} (h : rd62.R w cs x) : cs = [.int .u8 (PairR.a x), .int .u8 (PairR.b x)] ∧ PairR.Ok x := by
  obtain ⟨s, l, _⟩ := x
  obtain ⟨c1, _, rfl, ⟨rfl, w1⟩, c2, _, rfl, ⟨rfl, w2⟩, rfl⟩ := h
  exact ⟨rfl, ⟨bounds_u8 w1, bounds_u8 w2⟩⟩
theorem Pairs.at_ {w : World} {a : Option Addr} {n cap : Nat} {L : List PairR} (h : Pairs w (.slice a n cap) L) (i : Nat) (x : PairR) (hx : L[i]? = some x) :
    ∃ ad, a = some ad ∧ w.cell? (ad.add (i * 2)) = some (.int .u8 (PairR.a x)) ∧ w.cell? ⟨(ad.add (i * 2)).block, (ad.add (i * 2)).off + 1, none⟩ = some (.int .u8 (PairR.b x)) ∧ PairR.Ok x := by
  obtain ⟨ad, cs, rfl, hl, hc, hr⟩ := Elems.at_ h i x hx
  obtain ⟨rfl, ok⟩ := pair_cells hr
  have hc' : ∀ j, j < 2 → w.cell? (ad.add (i * 2 + j)) = [Value.int .u8 (PairR.a x), .int .u8 (PairR.b x)][j]? := hc
  exact ⟨ad, rfl, by simpa using hc' 0 (by omega), by rw [cell_add _ _ _ _ (by omega)]; simpa using hc' 1 (by omega), ok⟩
def Sems (w : World) (v : Value) (L : List SemR) : Prop := Elems w rd58.n rd58.R v L
structure SemR.Ok (x : SemR) : Prop where
  i : 0 ≤ SemR.i x ∧ SemR.i x ≤ 255
  m : 0 ≤ SemR.m x ∧ SemR.m x ≤ 255
def SemR.val (x : SemR) : Value := .agg #[.int .u8 (SemR.i x), .int .u8 (SemR.m x)]
theorem sem_cells {w : World} {cs : List Value} {x : SemR} (h : rd58.R w cs x) : cs = [.int .u8 (SemR.i x), .int .u8 (SemR.m x)] ∧ SemR.Ok x := by
  obtain ⟨s, l, _⟩ := x
  obtain ⟨c1, _, rfl, ⟨rfl, w1⟩, c2, _, rfl, ⟨rfl, w2⟩, rfl⟩ := h
  exact ⟨rfl, ⟨bounds_u8 w1, bounds_u8 w2⟩⟩
theorem Sems.at_ {w : World} {a : Option Addr} {n cap : Nat} {L : List SemR} (h : Sems w (.slice a n cap) L) (i : Nat) (x : SemR) (hx : L[i]? = some x) :
    ∃ ad, a = some ad ∧ w.cell? (ad.add (i * 2)) = some (.int .u8 (SemR.i x)) ∧ w.cell? ⟨(ad.add (i * 2)).block, (ad.add (i * 2)).off + 1, none⟩ = some (.int .u8 (SemR.m x)) ∧ SemR.Ok x := by
  obtain ⟨ad, cs, rfl, hl, hc, hr⟩ := Elems.at_ h i x hx
  obtain ⟨rfl, ok⟩ := sem_cells hr
  have hc' : ∀ j, j < 2 → w.cell? (ad.add (i * 2 + j)) = [Value.int .u8 (SemR.i x), .int .u8 (SemR.m x)][j]? := hc
  exact ⟨ad, rfl, by simpa using hc' 0 (by omega), by rw [cell_add _ _ _ _ (by omega)]; simpa using hc' 1 (by omega), ok⟩
theorem Sems.below {w w' : World} {v : Value} {L : List SemR} (h : Sems w v L) (k : Below w.heap.size w w') : Sems w' v L := elems_below h k
/-- Processes' priorities: bytes. -/
def Bytes8 (w : World) (v : Value) (L : List Int) : Prop := Elems w rd5.n rd5.R v L
theorem Bytes8.at_ {w : World} {a : Option Addr} {n cap : Nat} {L : List Int} (h : Bytes8 w (.slice a n cap) L) (i : Nat) (x : Int) (hx : L[i]? = some x) :
    ∃ ad, a = some ad ∧ w.cell? (ad.add i) = some (.int .u8 x) ∧ 0 ≤ x ∧ x ≤ 255 := by
  obtain ⟨ad, cs, rfl, hl, hc, rfl, hr⟩ := Elems.at_ h i x hx
  have hc' : ∀ j, j < 1 → w.cell? (ad.add (i * 1 + j)) = [Value.int .u8 x][j]? := hc
  exact ⟨ad, rfl, by simpa using hc' 0 (by omega), bounds_u8 hr⟩
theorem Bytes8.below {w w' : World} {v : Value} {L : List Int} (h : Bytes8 w v L) (k : Below w.heap.size w w') : Bytes8 w' v L := elems_below h k

/-! ### Channels -/
structure ChanR.Ok (x : ChanR) : Prop where
  k : 0 ≤ ChanR.k x ∧ ChanR.k x ≤ 255
  f : 0 ≤ ChanR.f x ∧ ChanR.f x ≤ 255
  t : 0 ≤ ChanR.t x ∧ ChanR.t x ≤ 255
  z : 0 ≤ ChanR.z x ∧ ChanR.z x ≤ 255
  d : 0 ≤ ChanR.d x ∧ ChanR.d x ≤ 255
  y : 0 ≤ ChanR.y x ∧ ChanR.y x ≤ 65535
def ChanR.vals (x : ChanR) : List Value := [.int .u8 (ChanR.k x), .int .u8 (ChanR.f x), .int .u8 (ChanR.t x), .int .u8 (ChanR.z x), .int .u8 (ChanR.d x), .int .u16 (ChanR.y x)]
def ChanR.val (x : ChanR) : Value := .agg #[.int .u8 (ChanR.k x), .int .u8 (ChanR.f x), .int .u8 (ChanR.t x), .int .u8 (ChanR.z x), .int .u8 (ChanR.d x), .int .u16 (ChanR.y x)]
theorem chan_cells {w : World} {cs : List Value} {x : ChanR} (h : rd60.R w cs x) : cs = ChanR.vals x ∧ ChanR.Ok x := by
  obtain ⟨k, f, t, z, d, y, _⟩ := x
  obtain ⟨c1, _, rfl, ⟨rfl, w1⟩, c2, _, rfl, ⟨rfl, w2⟩, c3, _, rfl, ⟨rfl, w3⟩, c4, _, rfl, ⟨rfl, w4⟩, c5, _, rfl, ⟨rfl, w5⟩, c6, _, rfl, ⟨rfl, w6⟩, rfl⟩ := h
  exact ⟨rfl, ⟨bounds_u8 w1, bounds_u8 w2, bounds_u8 w3, bounds_u8 w4, bounds_u8 w5, bounds_u16 w6⟩⟩
theorem Chans.at_ {w : World} {a : Option Addr} {n cap : Nat} {L : List ChanR} (h : Chans w (.slice a n cap) L) (i : Nat) (x : ChanR) (hx : L[i]? = some x) :
    ∃ ad, a = some ad ∧ w.cell? (ad.add (i * 6)) = some (.int .u8 (ChanR.k x)) ∧ w.cell? ⟨(ad.add (i * 6)).block, (ad.add (i * 6)).off + 1, none⟩ = some (.int .u8 (ChanR.f x)) ∧ w.cell? ⟨(ad.add (i * 6)).block, (ad.add (i * 6)).off + 2, none⟩ = some (.int .u8 (ChanR.t x)) ∧
      w.cell? ⟨(ad.add (i * 6)).block, (ad.add (i * 6)).off + 3, none⟩ = some (.int .u8 (ChanR.z x)) ∧ w.cell? ⟨(ad.add (i * 6)).block, (ad.add (i * 6)).off + 4, none⟩ = some (.int .u8 (ChanR.d x)) ∧ w.cell? ⟨(ad.add (i * 6)).block, (ad.add (i * 6)).off + 5, none⟩ = some (.int .u16 (ChanR.y x)) ∧ ChanR.Ok x := by
  obtain ⟨ad, cs, rfl, hl, hc, hr⟩ := Elems.at_ h i x hx
  obtain ⟨rfl, ok⟩ := chan_cells hr
  have hc' : ∀ j, j < 6 → w.cell? (ad.add (i * 6 + j)) = (ChanR.vals x)[j]? := hc
  exact ⟨ad, rfl, by simpa [ChanR.vals] using hc' 0 (by omega), by rw [cell_add _ _ _ _ (by omega)]; simpa [ChanR.vals] using hc' 1 (by omega), by rw [cell_add _ _ _ _ (by omega)]; simpa [ChanR.vals] using hc' 2 (by omega), by rw [cell_add _ _ _ _ (by omega)]; simpa [ChanR.vals] using hc' 3 (by omega), by rw [cell_add _ _ _ _ (by omega)]; simpa [ChanR.vals] using hc' 4 (by omega), by rw [cell_add _ _ _ _ (by omega)]; simpa [ChanR.vals] using hc' 5 (by omega), ok⟩

/-! ### Partitions -/
def PartR.a0 (x : PartR) : Int := (PartR.acts x).getD 0 0
def PartR.a1 (x : PartR) : Int := (PartR.acts x).getD 1 0
def PartR.a2 (x : PartR) : Int := (PartR.acts x).getD 2 0
/-- A partition's cells. -/
structure PartAt (w : World) (sv pv : Value) (x : PartR) : Prop where
  sems : Sems w sv (PartR.sems x)
  procs : Bytes8 w pv (PartR.procs x)
  ev : 0 ≤ PartR.events x ∧ PartR.events x ≤ 255
  len : (PartR.acts x).length = 3
  a0 : 0 ≤ PartR.a0 x ∧ PartR.a0 x ≤ 255
  a1 : 0 ≤ PartR.a1 x ∧ PartR.a1 x ≤ 255
  a2 : 0 ≤ PartR.a2 x ∧ PartR.a2 x ≤ 255
theorem PartAt.below {w w' : World} {sv pv : Value} {x : PartR} (h : PartAt w sv pv x) (k : Below w.heap.size w w') : PartAt w' sv pv x :=
  ⟨h.sems.below k, h.procs.below k, h.ev, h.len, h.a0, h.a1, h.a2⟩
def PartR.vals (sv pv : Value) (x : PartR) : List Value := [sv, .int .u8 (PartR.events x), pv, .int .u8 (PartR.a0 x), .int .u8 (PartR.a1 x), .int .u8 (PartR.a2 x)]
theorem part_cells {w : World} {cs : List Value} {x : PartR} (h : rd56.R w cs x) : ∃ sv pv, cs = PartR.vals sv pv x ∧ PartAt w sv pv x := by
  obtain ⟨S, e, p, A, _⟩ := x
  obtain ⟨c1, _, rfl, ⟨sv, rfl, hs⟩, c2, _, rfl, ⟨rfl, w2⟩, c3, _, rfl, ⟨pv, rfl, hp⟩, c4, _, rfl, ⟨hl, hl4, h4⟩, rfl⟩ := h
  match A, hl with
  | [x0, x1, x2], _ =>
    have hl4 : c4.length = 3 := hl4
    match c4, hl4 with
    | [y0, y1, y2], _ =>
      obtain ⟨q0, u0⟩ : [y0] = [Value.int .u8 x0] ∧ (Lit.int .u8 x0).wf = true := h4 0 (show 0 < 3 by decide)
      obtain ⟨q1, u1⟩ : [y1] = [Value.int .u8 x1] ∧ (Lit.int .u8 x1).wf = true := h4 1 (show 1 < 3 by decide)
      obtain ⟨q2, u2⟩ : [y2] = [Value.int .u8 x2] ∧ (Lit.int .u8 x2).wf = true := h4 2 (show 2 < 3 by decide)
      obtain rfl : y0 = _ := by injection q0
      obtain rfl : y1 = _ := by injection q1
      obtain rfl : y2 = _ := by injection q2
      exact ⟨sv, pv, rfl, hs, hp, bounds_u8 w2, rfl, bounds_u8 u0, bounds_u8 u1, bounds_u8 u2⟩
theorem Parts.at_ {w : World} {a : Option Addr} {n cap : Nat} {L : List PartR} (h : Parts w (.slice a n cap) L) (i : Nat) (x : PartR) (hx : L[i]? = some x) :
    ∃ ad sv pv, a = some ad ∧ w.cell? (ad.add (i * 6)) = some sv ∧ w.cell? ⟨(ad.add (i * 6)).block, (ad.add (i * 6)).off + 1, none⟩ = some (.int .u8 (PartR.events x)) ∧ w.cell? ⟨(ad.add (i * 6)).block, (ad.add (i * 6)).off + 2, none⟩ = some pv ∧
      w.cell? ⟨(ad.add (i * 6)).block, (ad.add (i * 6)).off + 3, none⟩ = some (.int .u8 (PartR.a0 x)) ∧ w.cell? ⟨(ad.add (i * 6)).block, (ad.add (i * 6)).off + 4, none⟩ = some (.int .u8 (PartR.a1 x)) ∧ w.cell? ⟨(ad.add (i * 6)).block, (ad.add (i * 6)).off + 5, none⟩ = some (.int .u8 (PartR.a2 x)) ∧ PartAt w sv pv x := by
  obtain ⟨ad, cs, rfl, hl, hc, hr⟩ := Elems.at_ h i x hx
  obtain ⟨sv, pv, rfl, ok⟩ := part_cells hr
  have hc' : ∀ j, j < 6 → w.cell? (ad.add (i * 6 + j)) = (PartR.vals sv pv x)[j]? := hc
  exact ⟨ad, sv, pv, rfl, by simpa [PartR.vals] using hc' 0 (by omega), by rw [cell_add _ _ _ _ (by omega)]; simpa [PartR.vals] using hc' 1 (by omega), by rw [cell_add _ _ _ _ (by omega)]; simpa [PartR.vals] using hc' 2 (by omega), by rw [cell_add _ _ _ _ (by omega)]; simpa [PartR.vals] using hc' 3 (by omega), by rw [cell_add _ _ _ _ (by omega)]; simpa [PartR.vals] using hc' 4 (by omega), by rw [cell_add _ _ _ _ (by omega)]; simpa [PartR.vals] using hc' 5 (by omega), ok⟩
theorem PartAt.lens {w : World} {sv pv : Value} {x : PartR} (h : PartAt w sv pv x) : ∃ a c b d, sv = .slice a (PartR.sems x).length c ∧ pv = .slice b (PartR.procs x).length d ∧ (PartR.sems x).length ≤ 9223372036854775807 ∧ (PartR.procs x).length ≤ 9223372036854775807 := by
  obtain ⟨a, c, rfl, h1⟩ := Elems.len h.sems
  obtain ⟨b, d, rfl, h2⟩ := Elems.len h.procs
  exact ⟨a, c, b, d, rfl, rfl, h1, h2⟩
end Go.Proofs.YtbphlapdhcgikaaDoor
