/- Plans: how windows, cores and a plan's fields read. How a plan's partitions, channels and pairs read. The rules' reference: has, overlap, together. -/
import Derived.Test.YtidjkhmlpgkaaaaDoorRds
import Derived.Test.YtidjkhmlpgkaaaaDoorKitR
import Derived.Test.YtidjkhmlpgkaaaaDoorMgP
namespace Go.Proofs.YtidjkhmlpgkaaaaDoor
open Go.RowKit
set_option linter.unusedVariables false
set_option linter.unusedSimpArgs false

def Win.val (x : Win) : Value := .agg #[.int .u16 (Win.s x), .int .u16 (Win.l x), .int .u8 (Win.p x), .int .u8 (Win.g x)]
theorem win_cells {w : World} {cs : List Value} {x : Win} (h : rd87.R w cs x) : cs = [.int .u16 (Win.s x), .int .u16 (Win.l x), .int .u8 (Win.p x), .int .u8 (Win.g x)] ∧ Win.Ok x := by
  obtain ⟨s, l, p, g, _⟩ := x
  obtain ⟨c1, _, rfl, ⟨rfl, w1⟩, c2, _, rfl, ⟨rfl, w2⟩, c3, _, rfl, ⟨rfl, w3⟩, c4, _, rfl, ⟨rfl, w4⟩, rfl⟩ := h
  exact ⟨rfl, ⟨bounds_u16 w1, bounds_u16 w2, bounds_u8 w3, bounds_u8 w4⟩⟩
theorem elems_below {P : Program} {t : TypeId} {α : Type} {r : Rd P t α} {w w' : World} {v : Value} {L : List α} (h : Elems w r.n r.R v L) (k : Below w.heap.size w w') : Elems w' r.n r.R v L :=
  Elems.below (R := r.R) (fun h k => r.below h k) h k
/-- A core's windows. -/
def Wins (w : World) (v : Value) (L : List Win) : Prop := Elems w rd87.n rd87.R v L
theorem Wins.below {w w' : World} {v : Value} {L : List Win} (h : Wins w v L) (k : Below w.heap.size w w') : Wins w' v L := elems_below h k
theorem Wins.len {w : World} {v : Value} {L : List Win} (h : Wins w v L) : ∃ a cap, v = .slice a L.length cap ∧ L.length ≤ 9223372036854775807 := by
  obtain ⟨a, cap, rfl, h1, h2, _⟩ := h
  exact ⟨a, cap, rfl, by omega⟩
theorem Wins.at_ {w : World} {a : Option Addr} {n cap : Nat} {L : List Win} (h : Wins w (.slice a n cap) L) (i : Nat) (x : Win) (hx : L[i]? = some x) :
    ∃ ad, a = some ad ∧ w.cell? (ad.add (i * 4)) = some (.int .u16 (Win.s x)) ∧ w.cell? ⟨(ad.add (i * 4)).block, (ad.add (i * 4)).off + 1, none⟩ = some (.int .u16 (Win.l x)) ∧ w.cell? ⟨(ad.add (i * 4)).block, (ad.add (i * 4)).off + 2, none⟩ = some (.int .u8 (Win.p x)) ∧ w.cell? ⟨(ad.add (i * 4)).block, (ad.add (i * 4)).off + 3, none⟩ = some (.int .u8 (Win.g x)) ∧ Win.Ok x := by
  obtain ⟨hi, rfl⟩ := List.getElem?_eq_some_iff.1 hx
  obtain ⟨a', cap', e, h1, h2, h3⟩ := h
  obtain ⟨ad, rfl, h4⟩ := h3 (by omega)
  obtain ⟨cs, hl, hc, hr⟩ := h4 i hi
  obtain ⟨rfl, ok⟩ := win_cells hr
  cases e
  have hc' : ∀ j, j < 4 → w.cell? (ad.add (i * 4 + j)) = [Value.int .u16 (Win.s L[i]), .int .u16 (Win.l L[i]), .int .u8 (Win.p L[i]), .int .u8 (Win.g L[i])][j]? := hc
  exact ⟨ad, rfl, by simpa using hc' 0 (by omega), by rw [cell_add _ _ _ _ (by omega)]; simpa using hc' 1 (by omega), by rw [cell_add _ _ _ _ (by omega)]; simpa using hc' 2 (by omega), by rw [cell_add _ _ _ _ (by omega)]; simpa using hc' 3 (by omega), ok⟩
/-- All cores' windows. -/
def Cores (w : World) (v : Value) (C : List (List Win)) : Prop := Elems w rd45.n rd45.R v C
theorem Cores.below {w w' : World} {v : Value} {C : List (List Win)} (h : Cores w v C) (k : Below w.heap.size w w') : Cores w' v C := elems_below h k
theorem Cores.len {w : World} {v : Value} {C : List (List Win)} (h : Cores w v C) : ∃ a cap, v = .slice a C.length cap ∧ C.length ≤ 9223372036854775807 := by
  obtain ⟨a, cap, rfl, h1, h2, _⟩ := h
  exact ⟨a, cap, rfl, by omega⟩
theorem Cores.at_ {w : World} {a : Option Addr} {n cap : Nat} {C : List (List Win)} (h : Cores w (.slice a n cap) C) (i : Nat) (L : List Win) (hx : C[i]? = some L) : ∃ ad v, a = some ad ∧ w.cell? (ad.add i) = some v ∧ Wins w v L := by
  obtain ⟨hi, rfl⟩ := List.getElem?_eq_some_iff.1 hx
  obtain ⟨a', cap', e, h1, h2, h3⟩ := h
  obtain ⟨ad, rfl, h4⟩ := h3 (by omega)
  obtain ⟨cs, hl, hc, v, rfl, hr⟩ := h4 i hi
  cases e
  have hc' : ∀ j, j < 1 → w.cell? (ad.add (i * 1 + j)) = [v][j]? := hc
  exact ⟨ad, v, rfl, by simpa using hc' 0 (by omega), hr⟩
def Parts (w : World) (v : Value) (L : List PartR) : Prop := Elems w rd77.n rd77.R v L
def Chans (w : World) (v : Value) (L : List ChanR) : Prop := Elems w rd129.n rd129.R v L
def Pairs (w : World) (v : Value) (L : List PairR) : Prop := Elems w rd90.n rd90.R v L
/-- The fields of a plan, as they lie. -/
structure PlanAt (w : World) (cv pv hv qv : Value) (P : Plan) : Prop where
  frame : 0 ≤ Plan.frame P ∧ Plan.frame P ≤ 65535
  cores : Cores w cv (Plan.cores P)
  parts : Parts w pv (Plan.parts P)
  chans : Chans w hv (Plan.chans P)
  pairs : Pairs w qv (Plan.pairs P)
theorem PlanAt.below {w w' : World} {cv pv hv qv : Value} {P : Plan} (h : PlanAt w cv pv hv qv P) (k : Below w.heap.size w w') : PlanAt w' cv pv hv qv P :=
  ⟨h.frame, h.cores.below k, elems_below h.parts k, elems_below h.chans k, elems_below h.pairs k⟩
/-- A plan as a value. -/
def PlanV (w : World) (v : Value) (P : Plan) : Prop := ∃ a0 n0 c0 a1 n1 c1 a2 n2 c2 a3 n3 c3, v = .agg #[.int .u16 (Plan.frame P), .slice a0 n0 c0, .slice a1 n1 c1, .slice a2 n2 c2, .slice a3 n3 c3] ∧ PlanAt w (.slice a0 n0 c0) (.slice a1 n1 c1) (.slice a2 n2 c2) (.slice a3 n3 c3) P
theorem PlanV.below {w w' : World} {v : Value} {P : Plan} (h : PlanV w v P) (k : Below w.heap.size w w') : PlanV w' v P := by
  obtain ⟨a0, n0, c0, a1, n1, c1, a2, n2, c2, a3, n3, c3, e, h⟩ := h
  exact ⟨a0, n0, c0, a1, n1, c1, a2, n2, c2, a3, n3, c3, e, h.below k⟩
theorem planV_of {w : World} {cs : Array Value} {P : Plan} (h : rd28.R w cs.toList P) : PlanV w (.agg cs) P := by
  obtain ⟨f, C, A, H, Q, _⟩ := P
  obtain ⟨c1, _, e1, ⟨rfl, w1⟩, c2, _, rfl, ⟨v2, rfl, x2⟩, c3, _, rfl, ⟨v3, rfl, x3⟩, c4, _, rfl, ⟨v4, rfl, x4⟩, c5, _, rfl, ⟨v5, rfl, x5⟩, rfl⟩ := h
  obtain ⟨a0, k0, rfl, y0⟩ := x2
  obtain ⟨a1, k1, rfl, y1⟩ := x3
  obtain ⟨a2, k2, rfl, y2⟩ := x4
  obtain ⟨a3, k3, rfl, y3⟩ := x5
  obtain ⟨l⟩ := cs
  have e : l = [Value.int .u16 f, .slice a0 C.length k0, .slice a1 A.length k1, .slice a2 H.length k2, .slice a3 Q.length k3] := e1
  subst e
  exact ⟨a0, _, k0, a1, _, k1, a2, _, k2, a3, _, k3, rfl, ⟨bounds_u16 w1, ⟨a0, k0, rfl, y0⟩, ⟨a1, k1, rfl, y1⟩, ⟨a2, k2, rfl, y2⟩, ⟨a3, k3, rfl, y3⟩⟩⟩
end Go.Proofs.YtidjkhmlpgkaaaaDoor

namespace Go.Proofs.YtidjkhmlpgkaaaaDoor
open Go.RowKit
set_option linter.unusedVariables false
set_option linter.unusedSimpArgs false

theorem Elems.at_ {α : Type} {w : World} {n : Nat} {R : World → List Value → α → Prop} {a : Option Addr} {m cap : Nat} {L : List α} (h : Elems w n R (.slice a m cap) L) (i : Nat) (x : α) (hx : L[i]? = some x) :
    ∃ ad cs, a = some ad ∧ cs.length = n ∧ (∀ j, j < n → w.cell? (ad.add (i * n + j)) = cs[j]?) ∧ R w cs x := by
  obtain ⟨hi, rfl⟩ := List.getElem?_eq_some_iff.1 hx
  obtain ⟨a', cap', e, h1, h2, h3⟩ := h
  obtain ⟨ad, rfl, h4⟩ := h3 (by omega)
  obtain ⟨cs, hl, hc, hr⟩ := h4 i hi
  cases e
  exact ⟨ad, cs, rfl, hl, hc, hr⟩
theorem Elems.len {α : Type} {w : World} {n : Nat} {R : World → List Value → α → Prop} {v : Value} {L : List α} (h : Elems w n R v L) : ∃ a cap, v = .slice a L.length cap ∧ L.length ≤ 9223372036854775807 := by
  obtain ⟨a, cap, rfl, h1, h2, _⟩ := h
  exact ⟨a, cap, rfl, by omega⟩

/-! ### Pairs, semaphores -/
structure PairR.Ok (x : PairR) : Prop where
  a : 0 ≤ PairR.a x ∧ PairR.a x ≤ 255
  b : 0 ≤ PairR.b x ∧ PairR.b x ≤ 255
def PairR.val (x : PairR) : Value := .agg #[.int .u8 (PairR.a x), .int .u8 (PairR.b x)]
theorem pair_cells {w : World} {cs : List Value} {x : PairR} (h : rd90.R w cs x) : cs = [.int .u8 (PairR.a x), .int .u8 (PairR.b x)] ∧ PairR.Ok x := by
  obtain ⟨s, l, _⟩ := x
  obtain ⟨c1, _, rfl, ⟨rfl, w1⟩, c2, _, rfl, ⟨rfl, w2⟩, rfl⟩ := h
  exact ⟨rfl, ⟨bounds_u8 w1, bounds_u8 w2⟩⟩
theorem Pairs.at_ {w : World} {a : Option Addr} {n cap : Nat} {L : List PairR} (h : Pairs w (.slice a n cap) L) (i : Nat) (x : PairR) (hx : L[i]? = some x) :
    ∃ ad, a = some ad ∧ w.cell? (ad.add (i * 2)) = some (.int .u8 (PairR.a x)) ∧ w.cell? ⟨(ad.add (i * 2)).block, (ad.add (i * 2)).off + 1, none⟩ = some (.int .u8 (PairR.b x)) ∧ PairR.Ok x := by
  obtain ⟨ad, cs, rfl, hl, hc, hr⟩ := Elems.at_ h i x hx
  obtain ⟨rfl, ok⟩ := pair_cells hr
  have hc' : ∀ j, j < 2 → w.cell? (ad.add (i * 2 + j)) = [Value.int .u8 (PairR.a x), .int .u8 (PairR.b x)][j]? := hc
  exact ⟨ad, rfl, by simpa using hc' 0 (by omega), by rw [cell_add _ _ _ _ (by omega)]; simpa using hc' 1 (by omega), ok⟩
def Sems (w : World) (v : Value) (L : List SemR) : Prop := Elems w rd143.n rd143.R v L
structure SemR.Ok (x : SemR) : Prop where
  i : 0 ≤ SemR.i x ∧ SemR.i x ≤ 255
  m : 0 ≤ SemR.m x ∧ SemR.m x ≤ 255
def SemR.val (x : SemR) : Value := .agg #[.int .u8 (SemR.i x), .int .u8 (SemR.m x)]
theorem sem_cells {w : World} {cs : List Value} {x : SemR} (h : rd143.R w cs x) : cs = [.int .u8 (SemR.i x), .int .u8 (SemR.m x)] ∧ SemR.Ok x := by
  obtain ⟨s, l, _⟩ := x
  obtain ⟨c1, _, rfl, ⟨rfl, w1⟩, c2, _, rfl, ⟨rfl, w2⟩, rfl⟩ := h
  exact ⟨rfl, ⟨bounds_u8 w1, bounds_u8 w2⟩⟩
theorem Sems.at_ {w : World} {a : Option Addr} {n cap : Nat} {L : List SemR} (h : Sems w (.slice a n cap) L) (i : Nat) (x : SemR) (hx : L[i]? = some x) :
    ∃ ad, a = some ad ∧ w.cell? (ad.add (i * 2)) = some (.int .u8 (SemR.i x)) ∧ w.cell? ⟨(ad.add (i * 2)).block, (ad.add (i * 2)).off + 1, none⟩ = some (.int .u8 (SemR.m x)) ∧ SemR.Ok x := by
  obtain ⟨ad, cs, rfl, hl, hc, hr⟩ := Elems.at_ h i x hx
  obtain ⟨rfl, ok⟩ := sem_cells hr
  have hc' : ∀ j, j < 2 → w.cell? (ad.add (i * 2 + j)) = [Value.int .u8 (SemR.i x), .int .u8 (SemR.m x)][j]? := hc
  exact ⟨ad, rfl, by simpa using hc' 0 (by omega), by rw [cell_add _ _ _ _ (by omega)]; simpa using hc' 1 (by omega), ok⟩
theorem Sems.below {w w' : World} {v : Value} {L : List SemR} (h : Sems w v L) (k : Below w.heap.size w w') : Sems w' v L := elems_below h k
/-- Processes' priorities: bytes. -/
def Bytes8 (w : World) (v : Value) (L : List Int) : Prop := Elems w rd5.n rd5.R v L
theorem Bytes8.at_ {w : World} {a : Option Addr} {n cap : Nat} {L : List Int} (h : Bytes8 w (.slice a n cap) L) (i : Nat) (x : Int) (hx : L[i]? = some x) :
    ∃ ad, a = some ad ∧ w.cell? (ad.add i) = some (.int .u8 x) ∧ 0 ≤ x ∧ x ≤ 255 := by
  obtain ⟨ad, cs, rfl, hl, hc, rfl, hr⟩ := Elems.at_ h i x hx
  have hc' : ∀ j, j < 1 → w.cell? (ad.add (i * 1 + j)) = [Value.int .u8 x][j]? := hc
  exact ⟨ad, rfl, by simpa using hc' 0 (by omega), bounds_u8 hr⟩
theorem Bytes8.below {w w' : World} {v : Value} {L : List Int} (h : Bytes8 w v L) (k : Below w.heap.size w w') : Bytes8 w' v L := elems_below h k

/-! ### Channels -/
structure ChanR.Ok (x : ChanR) : Prop where
  k : 0 ≤ ChanR.k x ∧ ChanR.k x ≤ 255
  f : 0 ≤ ChanR.f x ∧ ChanR.f x ≤ 255
  t : 0 ≤ ChanR.t x ∧ ChanR.t x ≤ 255
  z : 0 ≤ ChanR.z x ∧ ChanR.z x ≤ 255
  d : 0 ≤ ChanR.d x ∧ ChanR.d x ≤ 255
  y : 0 ≤ ChanR.y x ∧ ChanR.y x ≤ 65535
def ChanR.vals (x : ChanR) : List Value := [.int .u8 (ChanR.k x), .int .u8 (ChanR.f x), .int .u8 (ChanR.t x), .int .u8 (ChanR.z x), .int .u8 (ChanR.d x), .int .u16 (ChanR.y x)]
def ChanR.val (x : ChanR) : Value := .agg #[.int .u8 (ChanR.k x), .int .u8 (ChanR.f x), .int .u8 (ChanR.t x), .int .u8 (ChanR.z x), .int .u8 (ChanR.d x), .int .u16 (ChanR.y x)]
theorem chan_cells {w : World} {cs : List Value} {x : ChanR} (h : rd129.R w cs x) : cs = ChanR.vals x ∧ ChanR.Ok x := by
  obtain ⟨k, f, t, z, d, y, _⟩ := x
  obtain ⟨c1, _, rfl, ⟨rfl, w1⟩, c2, _, rfl, ⟨rfl, w2⟩, c3, _, rfl, ⟨rfl, w3⟩, c4, _, rfl, ⟨rfl, w4⟩, c5, _, rfl, ⟨rfl, w5⟩, c6, _, rfl, ⟨rfl, w6⟩, rfl⟩ := h
  exact ⟨rfl, ⟨bounds_u8 w1, bounds_u8 w2, bounds_u8 w3, bounds_u8 w4, bounds_u8 w5, bounds_u16 w6⟩⟩
theorem Chans.at_ {w : World} {a : Option Addr} {n cap : Nat} {L : List ChanR} (h : Chans w (.slice a n cap) L) (i : Nat) (x : ChanR) (hx : L[i]? = some x) :
    ∃ ad, a = some ad ∧ w.cell? (ad.add (i * 6)) = some (.int .u8 (ChanR.k x)) ∧ w.cell? ⟨(ad.add (i * 6)).block, (ad.add (i * 6)).off + 1, none⟩ = some (.int .u8 (ChanR.f x)) ∧ w.cell? ⟨(ad.add (i * 6)).block, (ad.add (i * 6)).off + 2, none⟩ = some (.int .u8 (ChanR.t x)) ∧
      w.cell? ⟨(ad.add (i * 6)).block, (ad.add (i * 6)).off + 3, none⟩ = some (.int .u8 (ChanR.z x)) ∧ w.cell? ⟨(ad.add (i * 6)).block, (ad.add (i * 6)).off + 4, none⟩ = some (.int .u8 (ChanR.d x)) ∧ w.cell? ⟨(ad.add (i * 6)).block, (ad.add (i * 6)).off + 5, none⟩ = some (.int .u16 (ChanR.y x)) ∧ ChanR.Ok x := by
  obtain ⟨ad, cs, rfl, hl, hc, hr⟩ := Elems.at_ h i x hx
  obtain ⟨rfl, ok⟩ := chan_cells hr
  have hc' : ∀ j, j < 6 → w.cell? (ad.add (i * 6 + j)) = (ChanR.vals x)[j]? := hc
  exact ⟨ad, rfl, by simpa [ChanR.vals] using hc' 0 (by omega), by rw [cell_add _ _ _ _ (by omega)]; simpa [ChanR.vals] using hc' 1 (by omega), by rw [cell_add _ _ _ _ (by omega)]; simpa [ChanR.vals] using hc' 2 (by omega), by rw [cell_add _ _ _ _ (by omega)]; simpa [ChanR.vals] using hc' 3 (by omega), by rw [cell_add _ _ _ _ (by omega)]; simpa [ChanR.vals] using hc' 4 (by omega), by rw [cell_add _ _ _ _ (by omega)]; simpa [ChanR.vals] using hc' 5 (by omega), ok⟩

/-! ### Partitions -/
def PartR.a0 (x : PartR) : Int := (PartR.acts x).getD 0 0
def PartR.a1 (x : PartR) : Int := (PartR.acts x).getD 1 0
def PartR.a2 (x : PartR) : Int := (PartR.acts x).getD 2 0
/-- A partition's cells. -/
structure PartAt (w : World) (sv pv : Value) (x : PartR) : Prop where
  sems : Sems w sv (PartR.sems x)
  procs : Bytes8 w pv (PartR.procs x)
  ev : 0 ≤ PartR.events x ∧ PartR.events x ≤ 255
  len : (PartR.acts x).length = 3
  a0 : 0 ≤ PartR.a0 x ∧ PartR.a0 x ≤ 255
  a1 : 0 ≤ PartR.a1 x ∧ PartR.a1 x ≤ 255
  a2 : 0 ≤ PartR.a2 x ∧ PartR.a2 x ≤ 255
theorem PartAt.below {w w' : World} {sv pv : Value} {x : PartR} (h : PartAt w sv pv x) (k : Below w.heap.size w w') : PartAt w' sv pv x :=
  ⟨h.sems.below k, h.procs.below k, h.ev, h.len, h.a0, h.a1, h.a2⟩
def PartR.vals (sv pv : Value) (x : PartR) : List Value := [sv, .int .u8 (PartR.events x), pv, .int .u8 (PartR.a0 x), .int .u8 (PartR.a1 x), .int .u8 (PartR.a2 x)]
theorem part_cells {w : World} {cs : List Value} {x : PartR} (h : rd77.R w cs x) : ∃ sv pv, cs = PartR.vals sv pv x ∧ PartAt w sv pv x := by
  obtain ⟨S, e, p, A, _⟩ := x
  obtain ⟨c1, _, rfl, ⟨sv, rfl, hs⟩, c2, _, rfl, ⟨rfl, w2⟩, c3, _, rfl, ⟨pv, rfl, hp⟩, c4, _, rfl, ⟨hl, hl4, h4⟩, rfl⟩ := h
  match A, hl with
  | [x0, x1, x2], _ =>
    have hl4 : c4.length = 3 := hl4
    match c4, hl4 with
    | [y0, y1, y2], _ =>
      obtain ⟨q0, u0⟩ : [y0] = [Value.int .u8 x0] ∧ (Lit.int .u8 x0).wf = true := h4 0 (show 0 < 3 by decide)
      obtain ⟨q1, u1⟩ : [y1] = [Value.int .u8 x1] ∧ (Lit.int .u8 x1).wf = true := h4 1 (show 1 < 3 by decide)
      obtain ⟨q2, u2⟩ : [y2] = [Value.int .u8 x2] ∧ (Lit.int .u8 x2).wf = true := h4 2 (show 2 < 3 by decide)
      obtain rfl : y0 = _ := by injection q0
      obtain rfl : y1 = _ := by injection q1
      obtain rfl : y2 = _ := by injection q2
      exact ⟨sv, pv, rfl, hs, hp, bounds_u8 w2, rfl, bounds_u8 u0, bounds_u8 u1, bounds_u8 u2⟩
theorem Parts.at_ {w : World} {a : Option Addr} {n cap : Nat} {L : List PartR} (h : Parts w (.slice a n cap) L) (i : Nat) (x : PartR) (hx : L[i]? = some x) :
    ∃ ad sv pv, a = some ad ∧ w.cell? (ad.add (i * 6)) = some sv ∧ w.cell? ⟨(ad.add (i * 6)).block, (ad.add (i * 6)).off + 1, none⟩ = some (.int .u8 (PartR.events x)) ∧ w.cell? ⟨(ad.add (i * 6)).block, (ad.add (i * 6)).off + 2, none⟩ = some pv ∧
      w.cell? ⟨(ad.add (i * 6)).block, (ad.add (i * 6)).off + 3, none⟩ = some (.int .u8 (PartR.a0 x)) ∧ w.cell? ⟨(ad.add (i * 6)).block, (ad.add (i * 6)).off + 4, none⟩ = some (.int .u8 (PartR.a1 x)) ∧ w.cell? ⟨(ad.add (i * 6)).block, (ad.add (i * 6)).off + 5, none⟩ = some (.int .u8 (PartR.a2 x)) ∧ PartAt w sv pv x := by
  obtain ⟨ad, cs, rfl, hl, hc, hr⟩ := Elems.at_ h i x hx
  obtain ⟨sv, pv, rfl, ok⟩ := part_cells hr
  have hc' : ∀ j, j < 6 → w.cell? (ad.add (i * 6 + j)) = (PartR.vals sv pv x)[j]? := hc
  exact ⟨ad, sv, pv, rfl, by simpa [PartR.vals] using hc' 0 (by omega), by rw [cell_add _ _ _ _ (by omega)]; simpa [PartR.vals] using hc' 1 (by omega), by rw [cell_add _ _ _ _ (by omega)]; simpa [PartR.vals] using hc' 2 (by omega), by rw [cell_add _ _ _ _ (by omega)]; simpa [PartR.vals] using hc' 3 (by omega), by rw [cell_add _ _ _ _ (by omega)]; simpa [PartR.vals] using hc' 4 (by omega), by rw [cell_add _ _ _ _ (by omega)]; simpa [PartR.vals] using hc' 5 (by omega), ok⟩
theorem PartAt.lens {w : World} {sv pv : Value} {x : PartR} (h : PartAt w sv pv x) : ∃ a c b d, sv = .slice a (PartR.sems x).length c ∧ pv = .slice b (PartR.procs x).length d ∧ (PartR.sems x).length ≤ 9223372036854775807 ∧ (PartR.procs x).length ≤ 9223372036854775807 := by
  obtain ⟨a, c, rfl, h1⟩ := Elems.len h.sems
  obtain ⟨b, d, rfl, h2⟩ := Elems.len h.procs
  exact ⟨a, c, b, d, rfl, rfl, h1, h2⟩
end Go.Proofs.YtidjkhmlpgkaaaaDoor

namespace Go.Proofs.YtidjkhmlpgkaaaaDoor
open Go.RowKit
set_option linter.unusedVariables false
set_option linter.unusedSimpArgs false

theorem bel_alloc {a w : World} (h : Below a.heap.size a w) (x : Obj) : Below a.heap.size a (w.alloc x) := h.alloc h.size x
theorem bel_drew {a w : World} (h : Below a.heap.size a w) : Below a.heap.size a w.drew := h.drew
theorem bel_drewN {a w : World} (h : Below a.heap.size a w) (n : Nat) : Below a.heap.size a (w.drewN n) := below_then h (below_drewN _ _)

theorem bel_one (w : World) (x : Obj) : Below w.heap.size w (w.alloc x) := (Below.refl _ _).alloc (Nat.le_refl _) _
theorem bel_two (w : World) (x y : Obj) : Below w.heap.size w ((w.alloc x).alloc y) := ((Below.refl _ _).alloc (Nat.le_refl _) _).alloc (by simp) _
theorem bel_then {a w w' : World} (h : Below a.heap.size a w) (k : Below w.heap.size w w') : Below a.heap.size a w' := below_then h k

theorem bcell {W w1 : World} (hb : Below W.heap.size W w1) : (∀ b o, b < W.heap.size → w1.cell? ⟨b, o, none⟩ = W.cell? ⟨b, o, none⟩) ∧ (∀ b o, b < W.heap.size → w1.frozen? ⟨b, o, none⟩ = W.frozen? ⟨b, o, none⟩) :=
  ⟨fun b o h => hb.cell (p := ⟨b, o, none⟩) h, fun b o h => hb.frozen (p := ⟨b, o, none⟩) h⟩

theorem has_any (x : Win) (hx : Win.Ok x) (t : Int) (w : World) :
    Calls Tryd.prog 34 #[Win.val x, .int .i64 t] w fun e w' => e = .returned (.bool (hasS x t)) ∧ Below w.heap.size w w' := by
  obtain ⟨⟨s0, s1⟩, ⟨l0, l1⟩, ⟨p0, p1⟩, ⟨g0, g1⟩⟩ := hx
  unfold Win.val hasS
  generalize Win.s x = s at *
  generalize Win.l x = l at *
  by_cases h1 : s ≤ t
  · by_cases h2 : t < s + l
    all_goals
      go_enter Tryd.func34, Tryd.ntmps34
      go_wp2
      go_ret
      exact ⟨ret_bool (by simp; omega), bel_one _ _⟩
  · go_enter Tryd.func34, Tryd.ntmps34
    go_wp2
    go_ret
    exact ⟨ret_bool (by simp; omega), bel_one _ _⟩

theorem overlap_any (v x : Win) (hv : Win.Ok v) (hx : Win.Ok x) (w : World) :
    Calls Tryd.prog 54 #[Win.val v, Win.val x] w fun e w' => e = .returned (.bool (overlapS v x)) ∧ Below w.heap.size w w' := by
  have K1 := Aside.mk (fun t w => has_any v hv t w)
  have K2 := Aside.mk (fun t w => has_any x hx t w)
  obtain ⟨⟨s0, s1⟩, ⟨l0, l1⟩, ⟨p0, p1⟩, ⟨g0, g1⟩⟩ := hv
  obtain ⟨⟨s2, s3⟩, ⟨l2, l3⟩, ⟨p2, p3⟩, ⟨g2, g3⟩⟩ := hx
  obtain ⟨t, ht⟩ : ∃ t, laterS v x = t := ⟨_, rfl⟩
  have E : overlapS v x = (hasS v t && hasS x t) := by rw [← ht]; rfl
  rw [E]
  clear E
  have H1 : ∀ t w, Calls Tryd.prog 34 #[Win.val v, .int .i64 t] w fun e w' => e = .returned (.bool (hasS v t)) ∧ Below w.heap.size w w' := K1.out
  have H2 : ∀ t w, Calls Tryd.prog 34 #[Win.val x, .int .i64 t] w fun e w' => e = .returned (.bool (hasS x t)) ∧ Below w.heap.size w w' := K2.out
  clear K1 K2
  unfold Win.val at H1 H2 ⊢
  have K1 := Aside.mk H1
  have K2 := Aside.mk H2
  clear H1 H2
  unfold laterS at ht
  rcases hb : hasS v t with _ | _
  all_goals
    have K3 := K1.out t
    rw [hb] at K3
    have K3 := Aside.mk K3
    clear K1 hb
    by_cases h1 : Win.s v < Win.s x
    · rw [if_pos h1] at ht
      subst ht
      go_enter Tryd.func54, Tryd.ntmps54
      go_wp2_with fail
      refine (K3.out _).mono ?_
      rintro e w1 ⟨rfl, b1⟩
      have b2 := bel_then (bel_two w _ _) b1
      obtain ⟨c1, f1⟩ := bcell b1
      have B2 := Aside.mk b2
      clear b1 b2
      go_wp2_with (refine (K2.out _ _).mono ?_; rintro e w2 ⟨rfl, b3⟩; have B3 := Aside.mk (bel_then B2.out b3); clear b3)
      go_ret
      first | exact ⟨rfl, B2.out⟩ | exact ⟨rfl, B3.out⟩
    · rw [if_neg h1] at ht
      subst ht
      go_enter Tryd.func54, Tryd.ntmps54
      go_wp2_with fail
      refine (K3.out _).mono ?_
      rintro e w1 ⟨rfl, b1⟩
      have b2 := bel_then (bel_two w _ _) b1
      obtain ⟨c1, f1⟩ := bcell b1
      have B2 := Aside.mk b2
      clear b1 b2
      go_wp2_with (refine (K2.out _ _).mono ?_; rintro e w2 ⟨rfl, b3⟩; have B3 := Aside.mk (bel_then B2.out b3); clear b3)
      go_ret
      first | exact ⟨rfl, B2.out⟩ | exact ⟨rfl, B3.out⟩

theorem together_any (v x : Win) (hv : Win.Ok v) (hx : Win.Ok x) (w : World) :
    Calls Tryd.prog 53 #[Win.val v, Win.val x] w fun e w' => e = .returned (.bool (togetherS v x)) ∧ Below w.heap.size w w' := by
  obtain ⟨⟨s0, s1⟩, ⟨l0, l1⟩, ⟨p0, p1⟩, ⟨g0, g1⟩⟩ := hv
  obtain ⟨⟨s2, s3⟩, ⟨l2, l3⟩, ⟨p2, p3⟩, ⟨g2, g3⟩⟩ := hx
  unfold Win.val togetherS
  generalize Win.s v = a1 at *
  generalize Win.l v = a2 at *
  generalize Win.p v = a3 at *
  generalize Win.g v = a4 at *
  generalize Win.s x = b1 at *
  generalize Win.l x = b2 at *
  generalize Win.p x = b3 at *
  generalize Win.g x = b4 at *
  by_cases h1 : a4 = 0
  · go_enter Tryd.func53, Tryd.ntmps53
    go_wp2
    go_ret
    exact ⟨ret_bool (by simp [h1]), bel_two _ _ _⟩
  by_cases h2 : a4 = b4
  · subst h2
    by_cases h3 : a1 = b1
    · subst h3
      by_cases h4 : a2 = b2
      · subst h4
        by_cases h5 : a3 = b3
        · subst h5
          go_enter Tryd.func53, Tryd.ntmps53
          go_wp2
          go_ret
          exact ⟨ret_bool (by simp [h1]), bel_two _ _ _⟩
        · go_enter Tryd.func53, Tryd.ntmps53
          go_wp2
          go_ret
          exact ⟨ret_bool (by simp [h1, h5]), bel_two _ _ _⟩
      · go_enter Tryd.func53, Tryd.ntmps53
        go_wp2
        go_ret
        exact ⟨ret_bool (by simp [h1, h4]), bel_two _ _ _⟩
    · go_enter Tryd.func53, Tryd.ntmps53
      go_wp2
      go_ret
      exact ⟨ret_bool (by simp [h1, h3]), bel_two _ _ _⟩
  · go_enter Tryd.func53, Tryd.ntmps53
    go_wp2
    go_ret
    exact ⟨ret_bool (by simp [h1, h2]), bel_two _ _ _⟩

end Go.Proofs.YtidjkhmlpgkaaaaDoor
