/- Plans: how windows, cores and a plan's fields read. -/
import Derived.Test.YtbphlapdhcgikaaDoorRds
import Derived.Test.YtbphlapdhcgikaaDoorKitR
import Derived.Test.YtbphlapdhcgikaaDoorPlanP
namespace Go.Proofs.YtbphlapdhcgikaaDoor
open Go.RowKit
set_option linter.unusedVariables false
set_option linter.unusedSimpArgs false

def Win.val (x : Win) : Value := .agg #[.int .u16 (Win.s x), .int .u16 (Win.l x), .int .u8 (Win.p x), .int .u8 (Win.g x)]
theorem win_cells {w : World} {cs : List Value} {x : Win} (h : rd51.R w cs x) : cs = [.int .u16 (Win.s x), .int .u16 (Win.l x), .int .u8 (Win.p x), .int .u8 (Win.g x)] ∧ Win.Ok x := by
  obtain ⟨s, l, p, g, _⟩ := x
  obtain ⟨c1, _, rfl, ⟨rfl, w1⟩, c2, _, rfl, ⟨rfl, w2⟩, c3, _, rfl, ⟨rfl, w3⟩, c4, _, rfl, ⟨rfl, w4⟩, rfl⟩ := h
  exact ⟨rfl, ⟨bounds_u16 w1, bounds_u16 w2, bounds_u8 w3, bounds_u8 w4⟩⟩
theorem elems_below {P : Program} {t : TypeId} {α : Type} {r : Rd P t α} {w w' : World} {v : Value} {L : List α} (h : Elems w r.n r.R v L) (k : Below w.heap.size w w') : Elems w' r.n r.R v L :=
  Elems.below (R := r.R) (fun h k => r.below h k) h k
/-- A core's windows. -/
def Wins (w : World) (v : Value) (L : List Win) : Prop := Elems w rd51.n rd51.R v L
theorem Wins.below {w w' : World} {v : Value} {L : List Win} (h : Wins w v L) (k : Below w.heap.size w w') : Wins w' v L := elems_below h k
theorem Wins.len {w : World} {v : Value} {L : List Win} (h : Wins w v L) : ∃ a cap, v = .slice a L.length cap ∧ L.length ≤ 9223372036854775807 := by
  obtain ⟨a, cap, rfl, h1, h2, _⟩ := h
  exact ⟨a, cap, rfl, by omega⟩
theorem Wins.at_ {w : World} {a : Option Addr} {n cap : Nat} {L : List Win} (h : Wins w (.slice a n cap) L) (i : Nat) (x : Win) (hx : L[i]? = some x) :
    ∃ ad, a = some ad ∧ w.cell? (ad.add (i * 4)) = some (.int .u16 (Win.s x)) ∧ w.cell? ⟨(ad.add (i * 4)).block, (ad.add (i * 4)).off + 1, none⟩ = some (.int .u16 (Win.l x)) ∧ w.cell? ⟨(ad.add (i * 4)).block, (ad.add (i * 4)).off + 2, none⟩ = some (.int .u8 (Win.p x)) ∧ w.cell? ⟨(ad.add (i * 4)).block, (ad.add (i * 4)).off + 3, none⟩ = some (.int .u8 (Win.g x)) ∧ Win.Ok x := by
  obtain ⟨hi, rfl⟩ := List.getElem?_eq_some_iff.1 hx
  obtain ⟨a', cap', e, h1, h2, h3⟩ := h
  obtain ⟨ad, rfl, h4⟩ := h3 (by omega)
  obtain ⟨cs, hl, hc, hr⟩ := h4 i hi
  obtain ⟨rfl, ok⟩ := win_cells hr
  cases e
  have hc' : ∀ j, j < 4 → w.cell? (ad.add (i * 4 + j)) = [Value.int .u16 (Win.s L[i]), .int .u16 (Win.l L[i]), .int .u8 (Win.p L[i]), .int .u8 (Win.g L[i])][j]? := hc
  exact ⟨ad, rfl, by simpa using hc' 0 (by omega), by rw [cell_add _ _ _ _ (by omega)]; simpa using hc' 1 (by omega), by rw [cell_add _ _ _ _ (by omega)]; simpa using hc' 2 (by omega), by rw [cell_add _ _ _ _ (by omega)]; simpa using hc' 3 (by omega), ok⟩
/-- All cores' windows. -/
def Cores (w : World) (v : Value) (C : List (List Win)) : Prop := Elems w rd49.n rd49.R v C
theorem Cores.below {w w' : World} {v : Value} {C : List (List Win)} (h : Cores w v C) (k : Below w.heap.size w w') : Cores w' v C := elems_below h k
theorem Cores.len {w : World} {v : Value} {C : List (List Win)} (h : Cores w v C) : ∃ a cap, v = .slice a C.length cap ∧ C.length ≤ 9223372036854775807 := by
  obtain ⟨a, cap, rfl, h1, h2, _⟩ := h
  exact ⟨a, cap, rfl, by omega⟩
theorem Cores.at_ {w : World} {a : Option Addr} {n cap : Nat} {C : List (List Win)} (h : Cores w (.slice a n cap) C) (i : Nat) (L : List Win) (hx : C[i]? = some L) : ∃ ad v, a = some ad ∧ w.cell? (ad.add i) = some v ∧ Wins w v L := by
  obtain ⟨hi, rfl⟩ := List.getElem?_eq_some_iff.1 hx
  obtain ⟨a', cap', e, h1, h2, h3⟩ := h
  obtain ⟨ad, rfl, h4⟩ := h3 (by omega)
  obtain ⟨cs, hl, hc, v, rfl, hr⟩ := h4 i hi
  cases e
  have hc' : ∀ j, j < 1 → w.cell? (ad.add (i * 1 + j)) = [v][j]? := hc
  exact ⟨ad, v, rfl, by simpa using hc' 0 (by omega), hr⟩
def Parts (w : World) (v : Value) (L : List PartR) : Prop := Elems w rd56.n rd56.R v L
def Chans (w : World) (v : Value) (L : List ChanR) : Prop := Elems w rd60.n rd60.R v L
def Pairs (w : World) (v : Value) (L : List PairR) : Prop := Elems w rd62.n rd62.R v L
/-- The fields of a plan, as they lie. -/
structure PlanAt (w : World) (cv pv hv qv : Value) (P : Plan) : Prop where
  frame : 0 ≤ Plan.frame P ∧ Plan.frame P ≤ 65535
  cores : Cores w cv (Plan.cores P)
  parts : Parts w pv (Plan.parts P)
  chans : Chans w hv (Plan.chans P)
  pairs : Pairs w qv (Plan.pairs P)
theorem PlanAt.below {w w' : World} {cv pv hv qv : Value} {P : Plan} (h : PlanAt w cv pv hv qv P) (k : Below w.heap.size w w') : PlanAt w' cv pv hv qv P :=
  ⟨h.frame, h.cores.below k, elems_below h.parts k, elems_below h.chans k, elems_below h.pairs k⟩
/-- A plan as a value. -/
def PlanV (w : World) (v : Value) (P : Plan) : Prop := ∃ a0 n0 c0 a1 n1 c1 a2 n2 c2 a3 n3 c3, v = .agg #[.int .u16 (Plan.frame P), .slice a0 n0 c0, .slice a1 n1 c1, .slice a2 n2 c2, .slice a3 n3 c3] ∧ PlanAt w (.slice a0 n0 c0) (.slice a1 n1 c1) (.slice a2 n2 c2) (.slice a3 n3 c3) P
theorem PlanV.below {w w' : World} {v : Value} {P : Plan} (h : PlanV w v P) (k : Below w.heap.size w w') : PlanV w' v P := by
  obtain ⟨a0, n0, c0, a1, n1, c1, a2, n2, c2, a3, n3, c3, e, h⟩ := h
  exact ⟨a0, n0, c0, a1, n1, c1, a2, n2, c2, a3, n3, c3, e, h.below k⟩
theorem planV_of {w : World} {cs : Array Value} {P : Plan} (h : rd28.R w cs.toList P) : PlanV w (.agg cs) P := by
  obtain ⟨f, C, A, H, Q, _⟩ := P
  obtain ⟨c1, _, e1, ⟨rfl, w1⟩, c2, _, rfl, ⟨v2, rfl, x2⟩, c3, _, rfl, ⟨v3, rfl, x3⟩, c4, _, rfl, ⟨v4, rfl, x4⟩, c5, _, rfl, ⟨v5, rfl, x5⟩, rfl⟩ := h
  obtain ⟨a0, k0, rfl, y0⟩ := x2
  obtain ⟨a1, k1, rfl, y1⟩ := x3
  obtain ⟨a2, k2, rfl, y2⟩ := x4
  obtain ⟨a3, k3, rfl, y3⟩ := x5
  obtain ⟨l⟩ := cs
  have e : l = [Value.int .u16 f, .slice a0 C.length k0, .slice a1 A.length k1, .slice a2 H.length k2, .slice a3 Q.length k3] := e1
  subst e
  exact ⟨a0, _, k0, a1, _, k1, a2, _, k2, a3, _, k3, rfl, ⟨bounds_u16 w1, ⟨a0, k0, rfl, y0⟩, ⟨a1, k1, rfl, y1⟩, ⟨a2, k2, rfl, y2⟩, ⟨a3, k3, rfl, y3⟩⟩⟩
end Go.Proofs.YtbphlapdhcgikaaDoor
