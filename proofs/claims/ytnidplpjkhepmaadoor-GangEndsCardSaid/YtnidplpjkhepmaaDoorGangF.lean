/- Layer 23's laws: none ahead. -/
import Derived.Test.YtnidplpjkhepmaaDoorGangE
import Derived.Test.YtnidplpjkhepmaaDoorGangP
import Derived.Test.YtnidplpjkhepmaaDoorRds
namespace Go.Proofs.YtnidplpjkhepmaaDoor
open Go.RowKit
set_option linter.unusedVariables false
set_option linter.unusedSimpArgs false

theorem act_cells {w : World} {cs : List Value} {u : rdA31} (h : rd31.R w cs u) : cs = [.int .u8 u.1, .int .u32 u.2.1] ∧ (0 ≤ u.1 ∧ u.1 ≤ 255) ∧ 0 ≤ u.2.1 ∧ u.2.1 ≤ 4294967295 := by
  obtain ⟨k, r, _⟩ := u
  obtain ⟨c1, _, rfl, ⟨rfl, w1⟩, c2, _, rfl, ⟨rfl, w2⟩, rfl⟩ := h
  exact ⟨rfl, bounds_u8 w1, bounds_u32 w2⟩
abbrev Acts (w : World) (v : Value) (l : List rdA31) : Prop := Elems w 2 rd31.R v l
theorem acts_below {w w' : World} {v : Value} {l : List rdA31} (h : Acts w v l) (k : Below w.heap.size w w') : Acts w' v l :=
  Elems.below (R := rd31.R) (fun h k => rd31.below h k) h k
theorem acts_at {w : World} {a : Option Addr} {n cap : Nat} {l : List rdA31} (h : Acts w (.slice a n cap) l) (i : Nat) (hi : i < l.length) : ∃ ad k r, a = some ad ∧ w.cell? (ad.add (i * 2)) = some (.int .u8 k) ∧ w.cell? ⟨(ad.add (i * 2)).block, (ad.add (i * 2)).off + 1, none⟩ = some (.int .u32 r) ∧ (0 ≤ k ∧ k < 256) ∧ 0 ≤ r ∧ r < 4294967296 := by
  obtain ⟨a', cap', e, h1, h2, h3⟩ := h
  obtain ⟨ad, rfl, h4⟩ := h3 (by omega)
  obtain ⟨cs, hl, hc, hr⟩ := h4 i hi
  obtain ⟨rfl, b1, b2⟩ := act_cells hr
  cases e
  exact ⟨ad, _, _, rfl, by simpa using hc 0 (by omega), by rw [cell_add _ _ _ _ (by omega)]; simpa using hc 1 (by omega), ⟨b1.1, Int.lt_of_le_of_lt b1.2 (by decide)⟩, b2.1, Int.lt_of_le_of_lt b2.2 (by decide)⟩

def rowOf (L : List Int) (e : TypeId) : Obj := .cells (L.map (Value.int .u32)).toArray e (0, 0)
/-- Members and the two lists beside them. -/
structure TSt (w0 w : World) (B G : Nat) (v : Value) (bs : List Nat) (ms : List Mb) (W c : Int) (P Q : Nat) (Rl Cl : List Int) : Prop where
  g : GSt w0 w B G v bs ms W c
  r : w.heap[P]? = some (rowOf Rl 29)
  cm : w.heap[Q]? = some (rowOf Cl 29)
  pq : P ≠ Q
  p0 : w0.heap.size ≤ P ∧ w0.heap.size ≤ Q
  pB : P ≠ B ∧ P ≠ G ∧ P ∉ bs ∧ Q ≠ B ∧ Q ≠ G ∧ Q ∉ bs
  pv : v.ownBlock ≠ some P ∧ v.ownBlock ≠ some Q
  lR : Rl.length = 8
  lC : Cl.length = 8
theorem TSt.go {w0 w w' : World} {B G : Nat} {v : Value} {bs : List Nat} {ms ms' : List Mb} {W c W' c' : Int} {P Q : Nat} {Rl Cl : List Int} (t : TSt w0 w B G v bs ms W c P Q Rl Cl) {i b : Nat} (hb : bs[i]? = some b) (s' : CSt w0 w' B G bs ms' W' c') (k : Kept (fun k => k = b ∨ k = B ∨ k = G) w w') :
    TSt w0 w' B G v bs ms' W' c' P Q Rl Cl := by
  have hm := List.mem_of_getElem? hb
  have hp := t.pB
  have h1 : P ≠ b := fun e => hp.2.2.1 (e ▸ hm)
  have h2 : Q ≠ b := fun e => hp.2.2.2.2.2 (e ▸ hm)
  exact ⟨t.g.step hb s' k, k.heap t.r (by omega), k.heap t.cm (by omega), t.pq, t.p0, t.pB, t.pv, t.lR, t.lC⟩
theorem TSt.old {w0 w w' : World} {B G : Nat} {v : Value} {bs : List Nat} {ms : List Mb} {W c : Int} {P Q : Nat} {Rl Cl : List Int} (t : TSt w0 w B G v bs ms W c P Q Rl Cl) (k : Below w.heap.size w w') : TSt w0 w' B G v bs ms W c P Q Rl Cl :=
  ⟨t.g.old k, (k.block _ (lt_of_block t.r)).trans t.r, (k.block _ (lt_of_block t.cm)).trans t.cm, t.pq, t.p0, t.pB, t.pv, t.lR, t.lC⟩
theorem row_put {w : World} {P : Nat} {L : List Int} {e : TypeId} (h : w.heap[P]? = some (rowOf L e)) (i : Nat) (z : Int) : (w.setCell ⟨P, i, none⟩ (.int .u32 z)).heap[P]? = some (rowOf (L.set i z) e) := by
  unfold rowOf at h ⊢
  rw [heap_setCell_at h]
  simp [List.map_set]
theorem row_get {w : World} {P : Nat} {L : List Int} {e : TypeId} (h : w.heap[P]? = some (rowOf L e)) (i : Nat) (hi : i < L.length) {y : Int} (hy : L.getD i 0 = y) : w.cell? ⟨P, i, none⟩ = some (.int .u32 y) := by
  subst hy
  simp [World.cell?, h, rowOf, List.getElem?_eq_getElem hi, List.getD_eq_getElem?_getD]
theorem GSt.put {w0 w : World} {B G : Nat} {v : Value} {bs : List Nat} {ms : List Mb} {W c : Int} (g : GSt w0 w B G v bs ms W c) (P i : Nat) (z : Value) (hp : w0.heap.size ≤ P ∧ P ≠ B ∧ P ≠ G ∧ P ∉ bs ∧ v.ownBlock ≠ some P) : GSt w0 (w.setCell ⟨P, i, none⟩ z) B G v bs ms W c := by
  have k : Kept (fun k => k = P) w (w.setCell ⟨P, i, none⟩ z) := (Kept.refl (fun k => k = P) w).setCell (p := ⟨P, i, none⟩) (.inl rfl) _
  exact ⟨g.s.kept_ k (fun e => hp.2.1 e.symm) (fun e => hp.2.2.1 e.symm) (fun b hb e => hp.2.2.2.1 (e ▸ hb)) (fun k e => by subst e; exact hp.1), own_kept g.row k (fun r hr e => hp.2.2.2.2 (by rw [hr, e])), g.rowAt⟩
theorem TSt.putR {w0 w : World} {B G : Nat} {v : Value} {bs : List Nat} {ms : List Mb} {W c : Int} {P Q : Nat} {Rl Cl : List Int} (t : TSt w0 w B G v bs ms W c P Q Rl Cl) (i : Nat) (z : Int) : TSt w0 (w.setCell ⟨P, i, none⟩ (.int .u32 z)) B G v bs ms W c P Q (Rl.set i z) Cl :=
  ⟨t.g.put P i _ ⟨t.p0.1, t.pB.1, t.pB.2.1, t.pB.2.2.1, t.pv.1⟩, row_put t.r i z, (Below.heap_setCell _ _ _ _ (Ne.symm t.pq)).trans t.cm, t.pq, t.p0, t.pB, t.pv, by rw [List.length_set]; exact t.lR, t.lC⟩
theorem TSt.putC {w0 w : World} {B G : Nat} {v : Value} {bs : List Nat} {ms : List Mb} {W c : Int} {P Q : Nat} {Rl Cl : List Int} (t : TSt w0 w B G v bs ms W c P Q Rl Cl) (i : Nat) (z : Int) : TSt w0 (w.setCell ⟨Q, i, none⟩ (.int .u32 z)) B G v bs ms W c P Q Rl (Cl.set i z) :=
  ⟨t.g.put Q i _ ⟨t.p0.2, t.pB.2.2.2.1, t.pB.2.2.2.2.1, t.pB.2.2.2.2.2, t.pv.2⟩, (Below.heap_setCell _ _ _ _ t.pq).trans t.r, row_put t.cm i z, t.pq, t.p0, t.pB, t.pv, t.lR, by rw [List.length_set]; exact t.lC⟩

def getX (ms : List Mb) : Nat → Mb := fun i => ms.getD i (newMb 0)
def getC (L : List Int) : Nat → Int := fun i => L.getD i 0
theorem getX_set (ms : List Mb) (i : Nat) (x : Mb) (h : i < ms.length) : getX (ms.set i x) = upd (getX ms) i x := by
  funext j
  unfold getX upd
  by_cases e : j = i
  · subst e; simp [List.getD_eq_getElem?_getD, h]
  · rw [if_neg e, List.getD_eq_getElem?_getD, List.getElem?_set_ne (Ne.symm e)]
    show _ = ms.getD j (newMb 0)
    rw [List.getD_eq_getElem?_getD]
theorem getC_set (L : List Int) (i : Nat) (x : Int) (h : i < L.length) : getC (L.set i x) = upd (getC L) i x := by
  funext j
  unfold getC upd
  by_cases e : j = i
  · subst e; simp [List.getD_eq_getElem?_getD, h]
  · rw [if_neg e, List.getD_eq_getElem?_getD, List.getElem?_set_ne (Ne.symm e)]
    show _ = L.getD j 0
    rw [List.getD_eq_getElem?_getD]
theorem getX_some (ms : List Mb) (i : Nat) (h : i < ms.length) : ms[i]? = some (getX ms i) := by
  unfold getX
  rw [List.getD_eq_getElem?_getD, List.getElem?_eq_getElem h]; rfl
/-- What the lists say of the members. -/
structure TInv (n : Nat) (ms : List Mb) (W : Int) (Rl Cl : List Int) : Prop where
  p : PInv n (getX ms) W (getC Cl)
  rd : ∀ i < n, Rl.getD i 0 = (getX ms i).rd
theorem TInv.begin {n : Nat} {ms : List Mb} {W : Int} {Rl Cl : List Int} (t : TInv n ms W Rl Cl) (hl : ms.length = n) (h8 : n ≤ 8) (lR : Rl.length = 8) (i : Nat) (hi : i < n) (r : Int) (r0 : 0 ≤ r) (hb : beginOk (getX ms i) r) : TInv n (ms.set i (beginS (getX ms i) r)) W (Rl.set i r) Cl := by
  refine ⟨by rw [getX_set _ _ _ (by omega)]; exact t.p.begin i hi r r0 hb, fun j hj => ?_⟩
  rw [getX_set _ _ _ (by omega)]
  show getC (Rl.set i r) j = _
  rw [getC_set _ _ _ (by omega)]
  by_cases e : j = i
  · subst e; rw [upd_self, upd_self, beginS, if_pos hb]
  · rw [upd_ne _ _ _ _ e, upd_ne _ _ _ _ e]; exact t.rd j hj
theorem TInv.step {n : Nat} {ms : List Mb} {W : Int} {Rl Cl : List Int} (t : TInv n ms W Rl Cl) (hl : ms.length = n) (h8 : n ≤ 8) (lC : Cl.length = 8) (W1 : W < 4294967296) (i : Nat) (hi : i < n) :
    TInv n (ms.set i (stepX (getX ms i) W)) (stepW (getX ms i) W) Rl (if (stepX (getX ms i) W).came = true then Cl.set i (Rl.getD i 0) else Cl) := by
  have h := t.p.step W1 h8 i hi
  refine ⟨?_, fun j hj => ?_⟩
  · rw [getX_set _ _ _ (by omega)]
    split
    · rename_i q
      rw [if_pos q] at h
      rw [getC_set _ _ _ (by omega), t.rd i hi]
      exact h
    · rename_i q
      rw [if_neg q] at h
      exact h
  · rw [getX_set _ _ _ (by omega)]
    by_cases e : j = i
    · subst e; rw [upd_self, stepX_rd]; exact t.rd j hj
    · rw [upd_ne _ _ _ _ e]; exact t.rd j hj
theorem TInv.start (n : Nat) (h : 1 ≤ n ∧ n ≤ 8) : TInv n (List.replicate n (newMb n)) 0 [0, 0, 0, 0, 0, 0, 0, 0] [0, 0, 0, 0, 0, 0, 0, 0] := by
  have hC : getC [0, 0, 0, 0, 0, 0, 0, 0] = fun _ => 0 := by
    funext i
    unfold getC
    rcases i with _ | _ | _ | _ | _ | _ | _ | _ | i <;> rfl
  have hX : ∀ i < n, getX (List.replicate n (newMb n)) i = newMb n := fun i hi => by
    unfold getX
    simp [List.getD_eq_getElem?_getD, hi]
  have p := PInv.start n h
  refine ⟨?_, fun i hi => ?_⟩
  · rw [hC]
    have e : ∀ (Q : Nat → Mb → Prop), (∀ i < n, Q i (newMb n)) → ∀ i < n, Q i (getX (List.replicate n (newMb n)) i) := fun Q h i hi => by rw [hX i hi]; exact h i hi
    exact ⟨p.W0, p.zero, p.leR, p.cn, e (fun _ x => x.Ok) p.ok, e (fun _ x => x.n = n) p.nn, e (fun _ x => (0 : Int) ≤ 0 ∧ 0 ≤ x.rd) p.le, e (fun _ x => x.ph ≠ 0 → 1 ≤ x.rd) p.p0, e (fun _ x => x.ph = 1 ∨ x.ph = 2 → x.came = false ∧ x.entered = false ∧ x.missed = false ∧ 0 < x.rd) p.p12,
      e (fun _ x => x.ph = 2 → x.wd / 16 ≤ x.rd) p.p2, e (fun _ x => x.ph = 3 → x.came = true ∧ x.entered = false ∧ x.missed = false) p.p3, e (fun _ x => x.came = true → (0 : Int) = x.rd) p.cm, e (fun _ x => x.entered = true → x.came = true ∧ x.missed = false ∧ ∀ j < n, x.rd ≤ 0) p.ent, e (fun i x => x.missed = true → ∃ j < n, j ≠ i ∧ x.rd < 0) p.mis⟩
  · rw [hX i hi]
    show getC [0, 0, 0, 0, 0, 0, 0, 0] i = _
    rw [hC]
    rfl
theorem TSt.start {w0 w : World} {B G : Nat} {v : Value} {bs : List Nat} {ms : List Mb} {W c : Int} (g : GSt w0 w B G v bs ms W c) (hv : ∀ r, v.ownBlock = some r → r < w.heap.size) :
    TSt w0 ((w.alloc (rowOf [0, 0, 0, 0, 0, 0, 0, 0] 29)).alloc (rowOf [0, 0, 0, 0, 0, 0, 0, 0] 29)) B G v bs ms W c w.heap.size (w.heap.size + 1) [0, 0, 0, 0, 0, 0, 0, 0] [0, 0, 0, 0, 0, 0, 0, 0] := by
  have hB := lt_of_block g.s.m.mem.obj
  have hG := lt_of_block g.s.m.mem.words
  have hlt : ∀ b ∈ bs, b < w.heap.size := fun b hb => by
    obtain ⟨i, hi, rfl⟩ := List.getElem_of_mem hb
    exact lt_of_block (g.s.mb i bs[i] (ms[i]'(by rw [g.s.len]; exact hi)) (List.getElem?_eq_getElem hi) (List.getElem?_eq_getElem _))
  have h0 := g.s.m.below.size
  refine ⟨(g.old ((Below.refl _ _).alloc (Nat.le_refl _) _)).old ((Below.refl _ _).alloc (Nat.le_refl _) _), (Below.heap_alloc _ _ _ (by simp)).trans (heap_alloc_new _ _), by simpa using heap_alloc_new (w.alloc (rowOf [0, 0, 0, 0, 0, 0, 0, 0] 29)) (rowOf [0, 0, 0, 0, 0, 0, 0, 0] 29), by omega, by omega, ⟨by omega, by omega, fun h => by have := hlt _ h; omega, by omega, by omega, fun h => by have := hlt _ h; omega⟩, ⟨fun h => by have := hv _ h; omega, fun h => by have := hv _ h; omega⟩, rfl, rfl⟩
end Go.Proofs.YtnidplpjkhepmaaDoor
