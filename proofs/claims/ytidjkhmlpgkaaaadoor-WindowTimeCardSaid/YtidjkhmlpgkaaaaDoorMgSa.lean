/- The sequencer of the cores' windows: its state as plain data, and how it lies in memory. The sequencer: Now, tick, Frame, what a core does. The sequencer: how many cores with lesser numbers run the same partition. The sequencer: a tick that passes. -/
import Derived.Test.YtidjkhmlpgkaaaaDoorMgB
import Derived.Test.YtidjkhmlpgkaaaaDoorMgT
import Derived.Maps.OwnSet
import Derived.StillTailTactics
namespace Go.Proofs.YtidjkhmlpgkaaaaDoor
open Go.RowKit
set_option linter.unusedVariables false
set_option linter.unusedSimpArgs false

open Go.MapKept

/-! ### The plain state -/
/-- A core: its state (0 off, 1 leaving, 2 entering, 3 running), its window's number, the frame in which it began to enter a window last, which one that was. -/
structure Co where
  st : Int
  at_ : Int
  bg : Int
  la : Int
/-- All cores, their gangs' members, the words; how many ticks have passed. -/
structure Sq where
  now : Int
  co : Nat → Co
  mb : Nat → Int → Mb
  ws : List Int
def coreW (C : List (List Win)) (c : Nat) : List Win := C.getD c []
def tkS (F : Int) (s : Sq) : Int := s.now % F
def frS (F : Int) (s : Sq) : Int := s.now / F + 1
/-- The place of a gang's word. -/
def posG (C : List (List Win)) (g : Int) : Nat := (gangsTo C (g.toNat - 1)).length
def Sq.setCo (s : Sq) (c : Nat) (x : Co) : Sq := { s with co := fun i => if i = c then x else s.co i }
def Sq.setMb (s : Sq) (c : Nat) (g : Int) (x : Mb) : Sq := { s with mb := fun i h => if i = c ∧ h = g then x else s.mb i h }
def Sq.setSt (s : Sq) (c : Nat) (k : Int) : Sq := s.setCo c { s.co c with st := k }
def passCo (L : List Win) (t : Int) (x : Co) : Co := if (x.st = 2 ∨ x.st = 3) ∧ (atS L t ≠ some x.at_.toNat ∨ t = 0) then { x with st := 1 } else x
def passS (C : List (List Win)) (F : Int) (s : Sq) : Sq :=
  if s.now = 1099511627776 then s else { s with now := s.now + 1, co := fun c => if c < C.length then passCo (coreW C c) ((s.now + 1) % F) (s.co c) else s.co c }
/-- The gang of a core's window. -/
def gangW (C : List (List Win)) (c : Nat) (i : Nat) : Int := Win.g (wAt (coreW C c) i)
def enterS (C : List (List Win)) (F : Int) (s : Sq) (c : Nat) : Sq := match atS (coreW C c) (tkS F s) with
  | none => s
  | some i => if (s.co c).bg = frS F s ∧ (s.co c).la = (i : Int) then s else
    if gangW C c i = 0 then s.setCo c ⟨2, i, frS F s, i⟩ else (s.setCo c ⟨2, i, frS F s, i⟩).setMb c (gangW C c i) (beginS (s.mb c (gangW C c i)) ((frS F s - 1) % 268435455 + 1))
/-- A member's step. -/
def stepMb (C : List (List Win)) (s : Sq) (c : Nat) (g : Int) : Sq :=
  { s.setMb c g (stepX (s.mb c g) (s.ws.getD (posG C g) 0)) with ws := s.ws.set (posG C g) (stepW (s.mb c g) (s.ws.getD (posG C g) 0)) }
def enteringS (C : List (List Win)) (s : Sq) (c : Nat) (g : Int) : Sq :=
  if g = 0 then s.setSt c 3
  else if (stepX (s.mb c g) (s.ws.getD (posG C g) 0)).entered = true then (stepMb C s c g).setSt c 3
  else if (stepX (s.mb c g) (s.ws.getD (posG C g) 0)).missed = true then (stepMb C s c g).setSt c 1
  else stepMb C s c g
def pickS (C : List (List Win)) (F : Int) (s : Sq) (c : Nat) : Sq :=
  if (s.co c).st = 1 then s.setSt c 0 else if (s.co c).st = 0 then enterS C F s c else if (s.co c).st = 2 then enteringS C s c (gangW C c (s.co c).at_.toNat) else s
/-- Has a core a member of a gang? -/
def memG (C : List (List Win)) (c : Nat) (g : Int) : Prop := c < C.length ∧ 1 ≤ g ∧ g ≤ 255 ∧ hasG (coreW C c) g = true
instance (C : List (List Win)) (c : Nat) (g : Int) : Decidable (memG C c g) := inferInstanceAs (Decidable (_ ∧ _ ∧ _ ∧ _))
/-- What always holds of a state. -/
structure Sq.Ok (C : List (List Win)) (s : Sq) : Prop where
  now : 0 ≤ s.now ∧ s.now ≤ 1099511627776
  st : ∀ c, c < C.length → 0 ≤ (s.co c).st ∧ (s.co c).st ≤ 3
  at_ : ∀ c, c < C.length → (s.co c).st ≠ 0 → 0 ≤ (s.co c).at_ ∧ (s.co c).at_ < (coreW C c).length
  mb : ∀ c g, memG C c g → (s.mb c g).Ok ∧ (s.mb c g).at_ = (posG C g : Int)
  ws : s.ws.length = (gangsTo C 255).length + 1

/-! ### A block whose cells are named by a function -/
def BlkAt (w : World) (b : Nat) (t : TypeId) (n : Nat) (u : Nat → Value) : Prop := ∃ cs, w.heap[b]? = some (.cells cs t (0, 0)) ∧ cs.size = n ∧ ∀ k, k < n → cs[k]? = some (u k)
theorem BlkAt.c {w : World} {b n : Nat} {t : TypeId} {u : Nat → Value} (h : BlkAt w b t n u) (k : Nat) (hk : k < n) : w.cell? ⟨b, k, none⟩ = some (u k) := by
  obtain ⟨cs, h1, h2, h3⟩ := h
  simp [World.cell?, h1, h3 k hk]
theorem BlkAt.f {w : World} {b n : Nat} {t : TypeId} {u : Nat → Value} (h : BlkAt w b t n u) (k : Nat) : w.frozen? ⟨b, k, none⟩ = false := by
  obtain ⟨cs, h1, h2, h3⟩ := h
  simp [World.frozen?, h1]
theorem BlkAt.lt {w : World} {b n : Nat} {t : TypeId} {u : Nat → Value} (h : BlkAt w b t n u) : b < w.heap.size := by
  obtain ⟨cs, h1, _⟩ := h
  exact lt_of_block h1
theorem BlkAt.kept {S : Nat → Prop} {w w' : World} {b n : Nat} {t : TypeId} {u : Nat → Value} (h : BlkAt w b t n u) (k : Kept S w w') (hb : ¬ S b) : BlkAt w' b t n u := by
  obtain ⟨cs, h1, h2⟩ := h
  exact ⟨cs, k.heap h1 hb, h2⟩
theorem BlkAt.below {w w' : World} {b n : Nat} {t : TypeId} {u : Nat → Value} (h : BlkAt w b t n u) (k : Below w.heap.size w w') : BlkAt w' b t n u := h.kept (S := fun _ => False) (Kept.of_below k) id
theorem BlkAt.congr {w : World} {b n : Nat} {t : TypeId} {u u' : Nat → Value} (h : BlkAt w b t n u) (e : ∀ k, k < n → u k = u' k) : BlkAt w b t n u' := by
  obtain ⟨cs, h1, h2, h3⟩ := h
  exact ⟨cs, h1, h2, fun k hk => by rw [h3 k hk, e k hk]⟩
theorem BlkAt.set {w : World} {b n : Nat} {t : TypeId} {u : Nat → Value} (h : BlkAt w b t n u) (j : Nat) (v : Value) : BlkAt (w.setCell ⟨b, j, none⟩ v) b t n (fun k => if k = j then v else u k) := by
  obtain ⟨cs, h1, h2, h3⟩ := h
  refine ⟨cs.setIfInBounds j v, heap_setCell_at (off := j) h1 v, by simp [h2], fun k hk => ?_⟩
  show _ = some (if k = j then v else u k)
  by_cases e : k = j
  · subst e; simp [h2, hk]
  · rw [Array.getElem?_setIfInBounds_ne (by omega), if_neg e]; exact h3 k hk

/-! ### Maps of gangs' members -/
/-- How a member's pointer reads: its block, as a number. -/
def ptrElem (v : Value) : Option (DataW Unit × List MemPlace) := match v with
  | .pointer (some ⟨b, 0, none⟩) => some (.lit (.int .i64 (b : Int)), [])
  | .pointer none => some (.lit (.int .i64 (-1)), [])
  | _ => none
theorem ptrElem_mk (b : Nat) : ptrElem (.pointer (some ⟨b, 0, none⟩)) = some (.lit (.int .i64 (b : Int)), []) := rfl
theorem ptrElem_nil : ptrElem (.pointer none) = some (.lit (.int .i64 (-1)), []) := rfl
theorem ptrElem_inv {v : Value} {b : Nat} {ps : List MemPlace} (h : ptrElem v = some (.lit (.int .i64 (b : Int)), ps)) : v = .pointer (some ⟨b, 0, none⟩) := by
  unfold ptrElem at h
  split at h
  · rename_i b'
    have e : ((b' : Nat) : Int) = (b : Int) := by
      simp only [Option.some.injEq, Prod.mk.injEq] at h
      have := h.1
      injection this with this
      injection this
    have : b' = b := by omega
    subst this
    rfl
  · have e : (-1 : Int) = (b : Int) := by
      simp only [Option.some.injEq, Prod.mk.injEq] at h
      have := h.1
      injection this with this
      injection this
    omega
  · cases h
theorem u8_keyed : Go.Maps.Keyed Tryd.prog 5 := Go.Maps.int_keyed Tryd.underlying5
theorem u8_wf (g : Int) (h0 : 0 ≤ g) (h1 : g ≤ 255) : (Lit.int .u8 g).wf = true := by
  have e : IntKind.u8.max = 255 := rfl
  simp [Lit.wf]; exact ⟨h0, by omega⟩
theorem u8_key (g : Int) (h0 : 0 ≤ g) (h1 : g ≤ 255) : keyOf Tryd.prog 5 (.int .u8 g) = some (.int .u8 g) := Go.Maps.keyOf_int_mk Tryd.underlying5 (u8_wf g h0 h1)
/-- A map of members: which block each gang's member has. -/
def MapAt (w : World) (b : Nat) (n : Nat) (f : Int → Option Nat) : Prop :=
  ∃ D : DataW Unit, w.ownsMap Tryd.prog 5 ptrElem b n D ∧ ∀ g, 0 ≤ g → g ≤ 255 → Go.Maps.has D (.int .u8 g) = (f g).isSome ∧ ∀ k, f g = some k → ∀ z, D.atKey (.int .u8 g) z = .lit (.int .i64 (k : Int))
theorem MapAt.kept {S : Nat → Prop} {w w' : World} {b n : Nat} {f : Int → Option Nat} (h : MapAt w b n f) (k : Kept S w w') (hb : ¬ S b) : MapAt w' b n f := by
  obtain ⟨D, ⟨es, clock, hh, r⟩, h2⟩ := h
  exact ⟨D, ⟨es, clock, k.heap hh hb, r⟩, h2⟩
theorem MapAt.lt {w : World} {b n : Nat} {f : Int → Option Nat} (h : MapAt w b n f) : b < w.heap.size := by
  obtain ⟨D, h1, _⟩ := h
  exact h1.lt
theorem MapAt.below {w w' : World} {b n : Nat} {f : Int → Option Nat} (h : MapAt w b n f) (k : Below w.heap.size w w') : MapAt w' b n f := h.kept (S := fun _ => False) (Kept.of_below k) id
theorem zero_ptr (w : World) : (zeroValue 105).run Tryd.prog w = .ok (.pointer none) w := by kernel_rfl
theorem MapAt.look {w : World} {b n : Nat} {f : Int → Option Nat} (h : MapAt w b n f) (g : Int) (h0 : 0 ≤ g) (h1 : g ≤ 255) (k : Nat) (hk : f g = some k) :
    (Instr.lookup 80 (.map (some b)) (.int .u8 g) true).run Tryd.prog w = .ok (.tuple #[.pointer (some ⟨k, 0, none⟩), .bool true]) w := by
  obtain ⟨D, hD, hf⟩ := h
  obtain ⟨v, ps, hr, hv⟩ := hD.look_ok u8_keyed Tryd.underlying80 (zero_ptr w) ptrElem_nil (u8_key g h0 h1)
  obtain ⟨f1, f2⟩ := hf g h0 h1
  rw [f2 k hk] at hv
  rw [hr, f1, hk, ptrElem_inv hv]
  rfl
theorem ptrElem_inv_nil {v : Value} {ps : List MemPlace} (h : ptrElem v = some (.lit (.int .i64 (-1)), ps)) : v = .pointer none := by
  unfold ptrElem at h
  split at h
  · rename_i b'
    have e : ((b' : Nat) : Int) = -1 := by
      simp only [Option.some.injEq, Prod.mk.injEq] at h
      have := h.1
      injection this with this
      injection this
    omega
  · rfl
  · cases h
theorem MapAt.lookNo {w : World} {b n : Nat} {f : Int → Option Nat} (h : MapAt w b n f) (g : Int) (h0 : 0 ≤ g) (h1 : g ≤ 255) (hk : f g = none) :
    (Instr.lookup 80 (.map (some b)) (.int .u8 g) true).run Tryd.prog w = .ok (.tuple #[.pointer none, .bool false]) w := by
  obtain ⟨D, hD, hf⟩ := h
  obtain ⟨v, ps, hr, hv⟩ := hD.look_ok u8_keyed Tryd.underlying80 (zero_ptr w) ptrElem_nil (u8_key g h0 h1)
  obtain ⟨f1, f2⟩ := hf g h0 h1
  rw [hk] at f1
  rw [Go.Maps.atKey_of_not_has f1] at hv
  rw [hr, f1, ptrElem_inv_nil hv]
  rfl

/-! ### The sequencer in memory -/
structure Loc where
  hi : Nat
  S : Nat
  B : Nat
  G : Nat
  M : Nat → Nat
  K : Nat → Int → Nat
  a0 : Addr
  c0 : Nat
  pv : Value
  hv : Value
  qv : Value
def Co.v (x : Co) (m : Nat) (j : Nat) : Value := if j = 0 then .int .i64 x.st else if j = 1 then .int .i64 x.at_ else if j = 2 then .int .i64 x.bg else if j = 3 then .int .i64 x.la else .map (some m)
def Loc.cv (l : Loc) (C : List (List Win)) : Value := .slice (some l.a0) C.length l.c0
def Loc.u (l : Loc) (P : Plan) (s : Sq) (k : Nat) : Value :=
  if k = 0 then .int .u16 (Plan.frame P) else if k = 1 then l.cv (Plan.cores P) else if k = 2 then l.pv else if k = 3 then l.hv else if k = 4 then l.qv
  else if k = 5 then .pointer (some ⟨l.B, 0, none⟩) else if k < 46 then (s.co ((k - 6) / 5)).v (l.M ((k - 6) / 5)) ((k - 6) % 5) else .int .i64 s.now
/-- Where all of it lies, since w0. -/
structure Loc.Ok (l : Loc) (w0 : World) (C : List (List Win)) : Prop where
  S : w0.heap.size ≤ l.S ∧ l.S < l.hi
  B : w0.heap.size ≤ l.B ∧ l.B < l.hi
  G : w0.heap.size ≤ l.G ∧ l.G < l.hi
  M : ∀ c, c < 8 → w0.heap.size ≤ l.M c ∧ l.M c < l.hi ∧ l.M c ≠ l.S ∧ l.M c ≠ l.B ∧ l.M c ≠ l.G
  K : ∀ c g, memG C c g → w0.heap.size ≤ l.K c g ∧ l.K c g < l.hi ∧ l.K c g ≠ l.S ∧ l.K c g ≠ l.B ∧ l.K c g ≠ l.G ∧ (∀ d, d < 8 → l.K c g ≠ l.M d) ∧ ∀ d h, memG C d h → l.K c g = l.K d h → c = d ∧ g = h
  SB : l.S ≠ l.B
  SG : l.S ≠ l.G
def mapF (l : Loc) (C : List (List Win)) (c : Nat) (g : Int) : Option Nat := if memG C c g then some (l.K c g) else none
/-- The sequencer's state, of at most n steps since it was made; all since w0. -/
structure SqSt (w0 w : World) (l : Loc) (P : Plan) (s : Sq) (n : Nat) : Prop where
  mem : ∃ c, 0 ≤ c ∧ c ≤ (n : Int) ∧ MSt w0 w l.B l.G s.ws c
  seq : BlkAt w l.S 85 47 (l.u P s)
  plan : PlanAt w0 (l.cv (Plan.cores P)) l.pv l.hv l.qv P
  maps : ∀ c, c < 8 → MapAt w (l.M c) 300 (mapF l (Plan.cores P) c)
  mbs : ∀ c g, memG (Plan.cores P) c g → MbAt w (l.K c g) (s.mb c g)
  loc : l.Ok w0 (Plan.cores P)
  ok : s.Ok (Plan.cores P)
  frame : 1 ≤ Plan.frame P
  cores : (Plan.cores P).length ≤ 8
/-- The blocks that an act may change. -/
def Loc.own (l : Loc) (w0 : World) (k : Nat) : Prop := w0.heap.size ≤ k ∧ k < l.hi
theorem SqSt.below0 {w0 w : World} {l : Loc} {P : Plan} {s : Sq} {n : Nat} (h : SqSt w0 w l P s n) : Below w0.heap.size w0 w := by
  obtain ⟨c, _, _, m⟩ := h.mem
  exact m.below
theorem SqSt.kept {S : Nat → Prop} {w0 w w' : World} {l : Loc} {P : Plan} {s : Sq} {n : Nat} (h : SqSt w0 w l P s n) (k : Kept S w w') (hS : ∀ k, S k → l.hi ≤ k) : SqSt w0 w' l P s n := by
  obtain ⟨c, c0, c1, m⟩ := h.mem
  have hS' : ∀ j, j < l.hi → ¬ S j := fun j hj hs => by have := hS j hs; omega
  have hi0 : w0.heap.size ≤ l.hi := by have := h.loc.S; omega
  refine ⟨⟨c, c0, c1, m.kept_ k (hS' _ h.loc.B.2) (hS' _ h.loc.G.2) (fun j hj => by have := hS j hj; omega)⟩, h.seq.kept k (hS' _ h.loc.S.2), h.plan, fun c hc => (h.maps c hc).kept k (hS' _ (h.loc.M c hc).2.1), fun c g hg => (h.mbs c g hg).kept k (hS' _ (h.loc.K c g hg).2.1), h.loc, h.ok, h.frame, h.cores⟩
theorem SqSt.below {w0 w w' : World} {l : Loc} {P : Plan} {s : Sq} {n : Nat} (h : SqSt w0 w l P s n) (k : Below w.heap.size w w') : SqSt w0 w' l P s n :=
  h.kept (S := fun _ => False) (Kept.of_below k) (fun _ e => e.elim)
theorem SqSt.mono {w0 w : World} {l : Loc} {P : Plan} {s : Sq} {n m : Nat} (h : SqSt w0 w l P s n) (hm : n ≤ m) : SqSt w0 w l P s m := by
  obtain ⟨c, c0, c1, q⟩ := h.mem
  exact ⟨⟨c, c0, by omega, q⟩, h.seq, h.plan, h.maps, h.mbs, h.loc, h.ok, h.frame, h.cores⟩
theorem u_at (l : Loc) (P : Plan) (s : Sq) (c j : Nat) (hc : c < 8) (hj : j < 5) : l.u P s (6 + c * 5 + j) = (s.co c).v (l.M c) j := by
  have e1 : (6 + c * 5 + j - 6) / 5 = c := by omega
  have e2 : (6 + c * 5 + j - 6) % 5 = j := by omega
  unfold Loc.u
  rw [if_neg (by omega), if_neg (by omega), if_neg (by omega), if_neg (by omega), if_neg (by omega), if_neg (by omega), if_pos (by omega), e1, e2]
section
variable {w0 w : World} {l : Loc} {P : Plan} {s : Sq} {n : Nat} (h : SqSt w0 w l P s n)
include h
theorem SqSt.cFrame : w.cell? ⟨l.S, 0, none⟩ = some (.int .u16 (Plan.frame P)) := h.seq.c 0 (by decide)
theorem SqSt.cCores : w.cell? ⟨l.S, 1, none⟩ = some (.slice (some l.a0) (Plan.cores P).length l.c0) := h.seq.c 1 (by decide)
theorem SqSt.cMem : w.cell? ⟨l.S, 5, none⟩ = some (.pointer (some ⟨l.B, 0, none⟩)) := h.seq.c 5 (by decide)
theorem SqSt.cNow : w.cell? ⟨l.S, 46, none⟩ = some (.int .i64 s.now) := h.seq.c 46 (by decide)
theorem SqSt.cCo (c j : Nat) (hc : c < 8) (hj : j < 5) : w.cell? ⟨l.S, 6 + c * 5 + j, none⟩ = some ((s.co c).v (l.M c) j) := by
  rw [h.seq.c (6 + c * 5 + j) (by omega), u_at l P s c j hc hj]
theorem SqSt.cCos (c : Nat) (hc : c < 8) : w.cell? ⟨l.S, 6 + c * 5, none⟩ = some (.int .i64 (s.co c).st) ∧ w.cell? ⟨l.S, 6 + c * 5 + 1, none⟩ = some (.int .i64 (s.co c).at_) ∧ w.cell? ⟨l.S, 6 + c * 5 + 2, none⟩ = some (.int .i64 (s.co c).bg) ∧ w.cell? ⟨l.S, 6 + c * 5 + 3, none⟩ = some (.int .i64 (s.co c).la) ∧ w.cell? ⟨l.S, 6 + c * 5 + 4, none⟩ = some (.map (some (l.M c))) :=
  ⟨h.cCo c 0 hc (by decide), h.cCo c 1 hc (by decide), h.cCo c 2 hc (by decide), h.cCo c 3 hc (by decide), h.cCo c 4 hc (by decide)⟩
theorem SqSt.winsAt0 (c : Nat) (hc : c < (Plan.cores P).length) : ∃ v, w0.cell? (l.a0.add c) = some v ∧ Wins w0 v (coreW (Plan.cores P) c) := by
  have e := List.getElem?_eq_getElem hc
  have hp := h.plan.cores
  obtain ⟨ad, v, h1, h2, h3⟩ := Cores.at_ hp c _ e
  injection h1 with h1
  subst h1
  refine ⟨v, h2, ?_⟩
  rw [coreW, List.getD_eq_getElem?_getD, e]
  exact h3
theorem SqSt.winsAt (c : Nat) (hc : c < (Plan.cores P).length) : ∃ v, w.cell? (l.a0.add c) = some v ∧ Wins w v (coreW (Plan.cores P) c) := by
  have e := List.getElem?_eq_getElem hc
  have hp := (h.plan.below h.below0).cores
  obtain ⟨ad, v, h1, h2, h3⟩ := Cores.at_ hp c _ e
  injection h1 with h1
  subst h1
  refine ⟨v, h2, ?_⟩
  rw [coreW, List.getD_eq_getElem?_getD, e]
  exact h3
end
end Go.Proofs.YtidjkhmlpgkaaaaDoor

namespace Go.Proofs.YtidjkhmlpgkaaaaDoor
open Go.RowKit
set_option linter.unusedVariables false
set_option linter.unusedSimpArgs false


section
variable {w0 w : World} {l : Loc} {P : Plan} {s : Sq} {n : Nat} (h : SqSt w0 w l P s n)
include h
theorem now_any : Calls Tryd.prog 13 #[.pointer (some ⟨l.S, 0, none⟩)] w fun e w' => e = .returned (.int .i64 s.now) ∧ w = w' := by
  have h0 := h.cNow
  clear h
  go_enter Tryd.func13, Tryd.ntmps13
  go_wp2_with fail
  go_ret
  exact ⟨rfl, rfl⟩
theorem tick_any : Calls Tryd.prog 45 #[.pointer (some ⟨l.S, 0, none⟩)] w fun e w' => e = .returned (.int .i64 (tkS (Plan.frame P) s)) ∧ ∃ m, w' = w.drewN m := by
  have h0 := h.cNow
  have h1 := h.cFrame
  have f0 := h.plan.frame
  have f1 := h.frame
  have n0 := h.ok.now
  unfold tkS
  generalize Plan.frame P = F at *
  generalize s.now = t at *
  have e1 : (F == 0) = false := beq_eq_false_iff_ne.2 (by omega)
  have e2 : t.tmod F = t % F := Int.tmod_eq_emod_of_nonneg n0.1
  clear h
  go_enter Tryd.func45, Tryd.ntmps45
  go_wp2_with fail
  go_quiet (fail)
  go_wp2_with fail
  go_ret
  exact ⟨rfl, _, rfl⟩
theorem frame_any : Calls Tryd.prog 19 #[.pointer (some ⟨l.S, 0, none⟩)] w fun e w' => e = .returned (.int .i64 (frS (Plan.frame P) s)) ∧ ∃ m, w' = w.drewN m := by
  have h0 := h.cNow
  have h1 := h.cFrame
  have f0 := h.plan.frame
  have f1 := h.frame
  have n0 := h.ok.now
  unfold frS
  generalize Plan.frame P = F at *
  generalize s.now = t at *
  have e1 : (F == 0) = false := beq_eq_false_iff_ne.2 (by omega)
  have e2 : t.tdiv F = t / F := Int.tdiv_eq_ediv_of_nonneg n0.1
  have e3 : t / F ≤ t := Int.ediv_le_self _ n0.1
  have e4 : 0 ≤ t / F := Int.ediv_nonneg n0.1 (by omega)
  clear h
  go_enter Tryd.func19, Tryd.ntmps19
  go_wp2_with fail
  go_quiet (fail)
  go_wp2_with fail
  go_ret
  exact ⟨ret_int (by first | rfl | omega), _, rfl⟩
omit h in
theorem box3 {w : World} {B : Nat} {x0 x1 x2 : Value} {t : TypeId} (h : w.heap[B]? = some (.cells #[x0, x1, x2] t (0, 0))) : w.cell? ⟨B, 0, none⟩ = some x0 ∧ w.cell? ⟨B, 1, none⟩ = some x1 ∧ w.cell? ⟨B, 2, none⟩ = some x2 ∧
    w.frozen? ⟨B, 0, none⟩ = false ∧ w.frozen? ⟨B, 1, none⟩ = false ∧ w.frozen? ⟨B, 2, none⟩ = false := by
  simp [World.cell?, World.frozen?, h]
omit h in
theorem set3_at {w : World} {Z : Nat} {v0 v1 v2 x0 x1 x2 : Value} {t : TypeId} (h : w.heap[Z]? = some (.cells #[x0, x1, x2] t (0, 0))) : (((w.setCell ⟨Z, 0, none⟩ v0).setCell ⟨Z, 1, none⟩ v1).setCell ⟨Z, 2, none⟩ v2).heap[Z]? = some (.cells #[v0, v1, v2] t (0, 0)) := by
  have h1 := heap_setCell_at (off := 0) h v0
  have h2 := heap_setCell_at (off := 1) h1 v1
  have h3 := heap_setCell_at (off := 2) h2 v2
  simpa using h3
omit h in
theorem set3_below {a w : World} {Z : Nat} {v0 v1 v2 : Value} (h : Below a.heap.size a w) (hZ : a.heap.size ≤ Z) : Below a.heap.size a (((w.setCell ⟨Z, 0, none⟩ v0).setCell ⟨Z, 1, none⟩ v1).setCell ⟨Z, 2, none⟩ v2) :=
  ((h.setCell (p := ⟨Z, 0, none⟩) hZ v0).setCell (p := ⟨Z, 1, none⟩) hZ v1).setCell (p := ⟨Z, 2, none⟩) hZ v2
omit h in
theorem cell_up {a b : World} (k : Below a.heap.size a b) {p : Addr} {v : Value} (h : a.cell? p = some v) : b.cell? p = some v := (Kept.of_below (S := fun _ => False) k).cell h id
/-- What a core does: its state, partition, gang. -/
def outC (C : List (List Win)) (c : Int) : Prop := c < 0 ∨ (C.length : Int) ≤ c
instance (C : List (List Win)) (c : Int) : Decidable (outC C c) := inferInstanceAs (Decidable (_ ∨ _))
def coreA (C : List (List Win)) (s : Sq) (c : Int) : Int × Int × Int :=
  if outC C c then (0, 0, 0) else if (s.co c.toNat).st = 0 then (0, -1, 0)
  else ((s.co c.toNat).st, Win.p (wAt (coreW C c.toNat) (s.co c.toNat).at_.toNat), Win.g (wAt (coreW C c.toNat) (s.co c.toNat).at_.toNat))
def coreE (C : List (List Win)) (c : Int) : Int := if outC C c then 251 else 0
def coreV (x : Int × Int × Int) (e : Int) : Value := .tuple #[.agg #[.int .i64 x.1, .int .i64 x.2.1, .int .u8 x.2.2], .int .i64 e]
set_option maxHeartbeats 1600000 in
theorem core_any (c : Int) : Calls Tryd.prog 14 #[.pointer (some ⟨l.S, 0, none⟩), .int .i64 c] w fun e w' => e = .returned (coreV (coreA (Plan.cores P) s c) (coreE (Plan.cores P) c)) ∧ Below w.heap.size w w' := by
  have H := Aside.mk h
  have h1 := h.cCores
  have hS := h.seq.lt
  have hn := h.cores
  clear h
  by_cases hc : outC (Plan.cores P) c
  · rw [coreA, coreE, if_pos hc, if_pos hc]
    rcases hc with hc | hc
    · go_enter Tryd.func14, Tryd.ntmps14
      go_wp2_with fail
      refine bodyPost_ret (v := coreV (0, 0, 0) 251) (by simp [results, Tryd.results14, go_sem, coreV]) rfl ⟨rfl, ?_⟩
      first | exact bel_one _ _ | exact set3_below (bel_one _ _) (Nat.le_refl _)
    · have hc0 : ¬ c < 0 := by omega
      go_enter Tryd.func14, Tryd.ntmps14
      go_wp2_with fail
      refine bodyPost_ret (v := coreV (0, 0, 0) 251) (by simp [results, Tryd.results14, go_sem, coreV]) rfl ⟨rfl, ?_⟩
      first | exact bel_one _ _ | exact set3_below (bel_one _ _) (Nat.le_refl _)
  · rw [coreA, coreE, if_neg hc, if_neg hc]
    have hc0 : 0 ≤ c := by unfold outC at hc; omega
    have hc1 : c < (Plan.cores P).length := by unfold outC at hc; omega
    obtain ⟨k, rfl⟩ := Int.eq_ofNat_of_zero_le hc0
    simp only [Int.toNat_natCast]
    have hk8 : k < 8 := by omega
    obtain ⟨g0, g1, g2, g3, g4⟩ := H.out.cCos k hk8
    by_cases hst : (s.co k).st = 0
    · rw [if_pos hst]
      rw [hst] at g0
      clear hst
      go_enter Tryd.func14, Tryd.ntmps14
      go_wp2_with fail
      refine bodyPost_ret (v := coreV (0, -1, 0) 0) (by simp [results, Tryd.results14, go_sem, coreV]) rfl ⟨rfl, ?_⟩
      first | exact set3_below (bel_two _ _ _) (Nat.le_refl _) | exact bel_two _ _ _
    · rw [if_neg hst]
      have hk : k < (Plan.cores P).length := by omega
      obtain ⟨v, hv, hw⟩ := H.out.winsAt k hk
      obtain ⟨a, cap, rfl, hlen⟩ := hw.len
      obtain ⟨i0, i1⟩ := H.out.ok.at_ k hk hst
      have hb : ((s.co k).st == 0) = false := beq_eq_false_iff_ne.2 hst
      clear hst
      generalize (s.co k).at_ = i at *
      generalize (s.co k).st = st at *
      obtain ⟨j, rfl⟩ := Int.eq_ofNat_of_zero_le i0
      simp only [Int.toNat_natCast]
      have hj : j < (coreW (Plan.cores P) k).length := by omega
      have hl := List.getElem?_eq_getElem hj
      obtain ⟨X, hX⟩ : ∃ X, (coreW (Plan.cores P) k)[j] = X := ⟨_, rfl⟩
      rw [hX] at hl
      rw [wAt_some hl]
      obtain ⟨ad2, rfl, e0, e1, e2, e3, ok⟩ := hw.at_ j X hl
      obtain ⟨p0, p1⟩ := ok.p
      have HL := Aside.mk (And.intro hl (And.intro hX (And.intro hw ok)))
      clear hl hX hw ok
      go_enter Tryd.func14, Tryd.ntmps14
      go_wp2_with fail
      obtain ⟨W1, HW1⟩ : ∃ W1, Aside (W1 = (w.alloc (.cells #[.int .i64 0, .int .i64 0, .int .u8 0] 40)).alloc (.cells #[.int .i64 st, .int .i64 (j : Int), .int .i64 (s.co k).bg, .int .i64 (s.co k).la, .map (some (l.M k))] 82)) := ⟨_, ⟨rfl⟩⟩
      have BW : Aside (Below w.heap.size w W1) := ⟨by rw [HW1.out]; exact bel_two _ _ _⟩
      have x1 := cell_up BW.out h1
      have xv := cell_up BW.out hv
      have x2 := cell_up BW.out e0
      have x3 := cell_up BW.out e1
      have x4 := cell_up BW.out e2
      have x5 := cell_up BW.out e3
      have z1 := World.block_lt_of_cell? _ _ x1
      have zv := World.block_lt_of_cell? _ _ xv
      have z2 := World.block_lt_of_cell? _ _ x2
      have hq : W1.heap.size = w.heap.size + 2 := by rw [HW1.out]; simp
      have y0 : W1.cell? ⟨w.heap.size + 1, 0, none⟩ = some (.int .i64 st) := by rw [HW1.out]; simp
      have y1 : W1.cell? ⟨w.heap.size + 1, 1, none⟩ = some (.int .i64 (j : Int)) := by rw [HW1.out]; simp
      rw [← HW1.out]
      have HQ := Aside.mk hq
      have yl : w.heap.size + 1 < W1.heap.size := by omega
      clear hq
      have R0 : Aside (W1.heap[w.heap.size]? = some (.cells #[.int .i64 0, .int .i64 0, .int .u8 0] 40 (0, 0))) := ⟨by
        rw [HW1.out]; exact ((bel_one (w.alloc _) _).block _ (by simp)).trans (heap_alloc_new _ _)⟩
      obtain ⟨r0, r1, r2, f0, f1, f2⟩ := box3 R0.out
      have rl := lt_of_block R0.out
      go_region
      go_wp2_with fail
      have q := set3_at (v0 := .int .i64 st) (v1 := .int .i64 (Win.p X)) (v2 := .int .u8 (Win.g X)) R0.out
      have bq : Below w.heap.size w (((W1.setCell ⟨w.heap.size, 0, none⟩ (.int .i64 st)).setCell ⟨w.heap.size, 1, none⟩ (.int .i64 (Win.p X))).setCell ⟨w.heap.size, 2, none⟩ (.int .u8 (Win.g X))) := set3_below BW.out (Nat.le_refl _)
      obtain ⟨W2, HW2⟩ : ∃ W2, Aside (W2 = (((W1.setCell ⟨w.heap.size, 0, none⟩ (.int .i64 st)).setCell ⟨w.heap.size, 1, none⟩ (.int .i64 (Win.p X))).setCell ⟨w.heap.size, 2, none⟩ (.int .u8 (Win.g X)))) := ⟨_, ⟨rfl⟩⟩
      rw [← HW2.out] at q bq ⊢
      obtain ⟨q0, q1, q2, _, _, _⟩ := box3 (((bel_one W2 (.cells #[.int .u16 (Win.s X), .int .u16 (Win.l X), .int .u8 (Win.p X), .int .u8 (Win.g X)] 87)).block _ (lt_of_block q)).trans q)
      exact bodyPost_ret (v := coreV (st, Win.p X, Win.g X) 0) (by simp [results, Tryd.results14, go_sem, coreV, q0, q1, q2]) rfl ⟨rfl, bel_drew (bel_alloc bq _)⟩
end
end Go.Proofs.YtidjkhmlpgkaaaaDoor

namespace Go.Proofs.YtidjkhmlpgkaaaaDoor
open Go.RowKit
set_option linter.unusedVariables false
set_option linter.unusedSimpArgs false


def runsS (C : List (List Win)) (s : Sq) (p : Int) (c : Int) : Bool := decide ((coreA C s c).1 = 3) && decide ((coreA C s c).2.1 = p)
def rankTo (C : List (List Win)) (s : Sq) (p : Int) : Nat → Int
  | 0 => 0
  | k + 1 => rankTo C s p k + if runsS C s p k = true then 1 else 0
def rankS (C : List (List Win)) (s : Sq) (c : Int) : Int := if (coreA C s c).1 = 3 then rankTo C s (coreA C s c).2.1 c.toNat else 0
theorem rankTo_le (C : List (List Win)) (s : Sq) (p : Int) (k : Nat) : 0 ≤ rankTo C s p k ∧ rankTo C s p k ≤ k := by
  induction k with
  | zero => simp [rankTo]
  | succ k ih => unfold rankTo; split <;> omega
section
variable {w0 w : World} {l : Loc} {P : Plan} {s : Sq} {n : Nat} (h : SqSt w0 w l P s n)
include h
set_option maxHeartbeats 1600000 in
theorem rank_any (c : Int) : Calls Tryd.prog 29 #[.pointer (some ⟨l.S, 0, none⟩), .int .i64 c] w fun e w' => e = .returned (.int .i64 (rankS (Plan.cores P) s c)) ∧ Below w.heap.size w w' := by
  have H := Aside.mk h
  have K := Aside.mk (core_any h c)
  clear h
  unfold coreV at K
  rw [rankS]
  obtain ⟨⟨st, p, g⟩, hx⟩ : ∃ x, Aside (coreA (Plan.cores P) s c = x) := ⟨_, ⟨rfl⟩⟩
  rw [hx.out] at K ⊢
  by_cases ho : outC (Plan.cores P) c
  · have hst : st = 0 := by have := hx.out; rw [coreA, if_pos ho] at this; injection this with this; exact this.symm
    rw [coreE, if_pos ho] at K
    rw [if_neg (by show ¬ st = 3; omega)]
    clear ho hst
    go_enter Tryd.func29, Tryd.ntmps29
    go_wp2_with fail
    refine K.out.mono ?_
    rintro e w1 ⟨rfl, b1⟩
    go_wp2_with fail
    go_ret
    exact ⟨rfl, bel_alloc b1 _⟩
  · rw [coreE, if_neg ho] at K
    by_cases h3 : st = 3
    · rw [if_pos h3]
      obtain rfl := h3
      have hc0 : 0 ≤ c := by unfold outC at ho; omega
      have hc1 : c < (Plan.cores P).length := by unfold outC at ho; omega
      obtain ⟨m, rfl⟩ := Int.eq_ofNat_of_zero_le hc0
      have hm : m < 8 := by have := H.out.cores; omega
      simp only [Int.toNat_natCast]
      clear ho hc0 hc1
      go_enter Tryd.func29, Tryd.ntmps29
      go_wp2_with fail
      refine K.out.mono ?_
      rintro e w1 ⟨rfl, b1⟩
      have BX : Aside (Below w.heap.size w (w1.alloc (.cells #[.int .i64 3, .int .i64 p, .int .u8 g] 40))) := ⟨bel_alloc b1 _⟩
      have HX : Aside ((w1.alloc (.cells #[.int .i64 3, .int .i64 p, .int .u8 g] 40)).heap[w1.heap.size]? = some (.cells #[.int .i64 3, .int .i64 p, .int .u8 g] 40 (0, 0))) := ⟨heap_alloc_new _ _⟩
      have B1 := Aside.mk b1
      clear b1
      go_wp2_with fail
      go_loopw [5, 25] (fun a i wr => ∃ k : Nat, k ≤ m ∧ a = .int .i64 (rankTo (Plan.cores P) s p k) ∧ i = .int .i64 k ∧ Aside (Below w.heap.size w wr ∧ wr.heap[w1.heap.size]? = some (.cells #[.int .i64 3, .int .i64 p, .int .u8 g] 40 (0, 0)))) (fun _ i _ => m - (intOf i).toNat)
      case atStart => exact ⟨0, by omega, rfl, rfl, ⟨BX.out, HX.out⟩⟩
      case round =>
        obtain ⟨k, hk, rfl, rfl, Q⟩ := hrel
        by_cases hkm : k < m
        · have KK := Aside.mk (core_any (H.out.below Q.out.1) (k : Int))
          have RE : Aside (rankTo (Plan.cores P) s p (k + 1) = rankTo (Plan.cores P) s p k + if runsS (Plan.cores P) s p k = true then 1 else 0) := ⟨rfl⟩
          have rl := rankTo_le (Plan.cores P) s p k
          obtain ⟨r, hr⟩ : ∃ r, r = rankTo (Plan.cores P) s p k := ⟨_, rfl⟩
          rw [← hr] at RE rl ⊢
          clear hr
          unfold runsS at RE
          unfold coreV at KK
          obtain ⟨⟨st2, p2, g2⟩, hx2⟩ : ∃ x, Aside (coreA (Plan.cores P) s (k : Int) = x) := ⟨_, ⟨rfl⟩⟩
          rw [hx2.out] at KK RE
          obtain ⟨ee, he⟩ : ∃ ee, coreE (Plan.cores P) (k : Int) = ee := ⟨_, rfl⟩
          rw [he] at KK
          clear he
          go_wp2_with fail
          refine KK.out.mono ?_
          rintro e w2 ⟨rfl, b2⟩
          have X2 := (b2.block _ (lt_of_block Q.out.2)).trans Q.out.2
          have hl2 := lt_of_block X2
          obtain ⟨y0, y1, y2, _, _, _⟩ := box3 X2
          have Q2 : Aside (Below w.heap.size w w2 ∧ w2.heap[w1.heap.size]? = some (.cells #[.int .i64 3, .int .i64 p, .int .u8 g] 40 (0, 0))) := ⟨bel_then Q.out.1 b2, X2⟩
          clear b2 X2
          have QE : ∀ o, Aside (Below w.heap.size w (w2.alloc o) ∧ (w2.alloc o).heap[w1.heap.size]? = some (.cells #[.int .i64 3, .int .i64 p, .int .u8 g] 40 (0, 0))) := fun o => ⟨bel_alloc Q2.out.1 _, ((bel_one w2 o).block _ hl2).trans Q2.out.2⟩
          by_cases c1 : st2 = 3
          · subst c1
            by_cases c2 : p2 = p
            · subst c2
              have RF : Aside (rankTo (Plan.cores P) s p2 (k + 1) = r + 1) := ⟨by rw [RE.out]; simp⟩
              clear RE
              go_wp2_with fail
              go_roundw
              case rel => exact ⟨k + 1, by omega, by rw [RF.out], by go_num, QE _⟩
              case measure => simp [intOf]; omega
            · have RF : Aside (rankTo (Plan.cores P) s p (k + 1) = r) := ⟨by rw [RE.out]; simp [c2]⟩
              have c2b : (p2 == p) = false := beq_eq_false_iff_ne.2 c2
              clear RE c2
              go_wp2_with fail
              go_roundw
              case rel => exact ⟨k + 1, by omega, by rw [RF.out], by go_num, QE _⟩
              case measure => simp [intOf]; omega
          · have RF : Aside (rankTo (Plan.cores P) s p (k + 1) = r) := ⟨by rw [RE.out]; simp [c1]⟩
            have c1b : (st2 == 3) = false := beq_eq_false_iff_ne.2 c1
            clear RE c1
            go_wp2_with fail
            go_roundw
            case rel => exact ⟨k + 1, by omega, by rw [RF.out], by go_num, QE _⟩
            case measure => simp [intOf]; omega
        · obtain rfl : k = m := by omega
          go_wp2_with fail
          go_ret
          exact ⟨rfl, Q.out.1⟩
    · rw [if_neg h3]
      have h3b : (st != 3) = true := bne_iff_ne.2 h3
      clear ho h3
      go_enter Tryd.func29, Tryd.ntmps29
      go_wp2_with fail
      refine K.out.mono ?_
      rintro e w1 ⟨rfl, b1⟩
      go_wp2_with fail
      go_ret
      exact ⟨rfl, bel_alloc b1 _⟩
end
end Go.Proofs.YtidjkhmlpgkaaaaDoor

namespace Go.Proofs.YtidjkhmlpgkaaaaDoor
open Go.RowKit
set_option linter.unusedVariables false
set_option linter.unusedSimpArgs false


theorem split47 (k : Nat) (hk : k < 47) : k < 6 ∨ k = 46 ∨ ∃ d j, d < 8 ∧ j < 5 ∧ k = 6 + d * 5 + j := by
  rcases Nat.lt_or_ge k 6 with h | h
  · exact .inl h
  · rcases Nat.lt_or_ge k 46 with h2 | h2
    · exact .inr (.inr ⟨(k - 6) / 5, (k - 6) % 5, by omega, by omega, by omega⟩)
    · exact .inr (.inl (by omega))
theorem u_low (l : Loc) (P : Plan) (s s' : Sq) (k : Nat) (hk : k < 6) : l.u P s k = l.u P s' k := by
  unfold Loc.u
  rcases (show k = 0 ∨ k = 1 ∨ k = 2 ∨ k = 3 ∨ k = 4 ∨ k = 5 by omega) with rfl | rfl | rfl | rfl | rfl | rfl <;> rfl
theorem u_46 (l : Loc) (P : Plan) (s : Sq) : l.u P s 46 = .int .i64 s.now := rfl
/-- Two states whose cells but some are the same. -/
theorem u_put (l : Loc) (P : Plan) (s s' : Sq) (p : Nat → Option Value) (h46 : (p 46).getD (.int .i64 s.now) = .int .i64 s'.now) (hlow : ∀ k, k < 6 → p k = none)
    (hco : ∀ d j, d < 8 → j < 5 → (p (6 + d * 5 + j)).getD ((s.co d).v (l.M d) j) = (s'.co d).v (l.M d) j) (k : Nat) (hk : k < 47) : (p k).getD (l.u P s k) = l.u P s' k := by
  rcases split47 k hk with h | rfl | ⟨d, j, hd, hj, rfl⟩
  · rw [hlow k h]; exact u_low l P s s' k h
  · rw [u_46, u_46]; exact h46
  · rw [u_at l P s d j hd hj, u_at l P s' d j hd hj]; exact hco d j hd hj
theorem BlkAt.put {w : World} {b n : Nat} {t : TypeId} {u : Nat → Value} {p : Nat → Option Value} (h : BlkAt w b t n (fun k => (p k).getD (u k))) (j : Nat) (v : Value) : BlkAt (w.setCell ⟨b, j, none⟩ v) b t n (fun k => ((if k = j then some v else p k)).getD (u k)) :=
  (h.set j v).congr (fun k _ => by by_cases e : k = j <;> simp [e])
theorem BlkAt.put0 {w : World} {b n : Nat} {t : TypeId} {u : Nat → Value} (h : BlkAt w b t n u) : BlkAt w b t n (fun k => ((none : Option Value)).getD (u k)) := h.congr (fun _ _ => rfl)
section
variable {w0 w : World} {l : Loc} {P : Plan} {s : Sq} {n : Nat} (h : SqSt w0 w l P s n)
include h
/-- Another state in the sequencer's block, all else as it was. -/
theorem SqSt.turn {w' : World} {s' : Sq} (k : Kept (fun k => k = l.S) w w') (hb : BlkAt w' l.S 85 47 (l.u P s')) (hm : s'.mb = s.mb) (hw : s'.ws = s.ws) (ho : s'.Ok (Plan.cores P)) : SqSt w0 w' l P s' n := by
  obtain ⟨c, c0, c1, m⟩ := h.mem
  refine ⟨⟨c, c0, c1, ?_⟩, hb, h.plan, fun c hc => (h.maps c hc).kept k (h.loc.M c hc).2.2.1, fun c g hg => ?_, h.loc, ho, h.frame, h.cores⟩
  · rw [hw]; exact m.kept_ k (fun e => h.loc.SB e.symm) (fun e => h.loc.SG e.symm) (fun j e => by subst e; exact h.loc.S.1)
  · rw [hm]; exact (h.mbs c g hg).kept k (h.loc.K c g hg).2.2.1
theorem SqSt.toOwn {w' : World} (k : Kept (fun k => k = l.S) w w') : Kept (l.own w0) w w' := k.mono (fun j e => by subst e; exact h.loc.S)
end
theorem ok_setSt {C : List (List Win)} {s : Sq} (h : s.Ok C) (c : Nat) (t : Int) (ht : 0 ≤ t ∧ t ≤ 3) (hc : t = 0 ∨ (s.co c).st ≠ 0) : (s.setSt c t).Ok C := by
  refine ⟨h.now, fun d hd => ?_, fun d hd => ?_, h.mb, h.ws⟩
  · by_cases e : d = c
    · subst e; simp [Sq.setSt, Sq.setCo]; exact ht
    · simp [Sq.setSt, Sq.setCo, e]; exact h.st d hd
  · by_cases e : d = c
    · subst e
      simp [Sq.setSt, Sq.setCo]
      intro hne
      exact h.at_ d hd (hc.resolve_left hne)
    · simp [Sq.setSt, Sq.setCo, e]
      exact h.at_ d hd
theorem blk_setSt {w : World} {l : Loc} {P : Plan} {s : Sq} (h : BlkAt w l.S 85 47 (l.u P s)) (c : Nat) (hc : c < 8) (t : Int) : BlkAt (w.setCell ⟨l.S, 6 + c * 5, none⟩ (.int .i64 t)) l.S 85 47 (l.u P (s.setSt c t)) := by
  refine (h.put0.put (6 + c * 5) (.int .i64 t)).congr (fun k hk => u_put l P s (s.setSt c t) (fun k => if k = 6 + c * 5 then some (.int .i64 t) else none) (by show Option.getD (if _ then _ else _) _ = _; rw [if_neg (by omega)]; rfl) (fun j hj => by show (if _ then _ else _) = _; rw [if_neg (by omega)]) (fun d j hd hj => ?_) k hk)
  show Option.getD (if _ then _ else _) _ = _
  by_cases e : d = c
  · subst e
    by_cases e2 : j = 0
    · subst e2; simp [Sq.setSt, Sq.setCo, Co.v]
    · rw [if_neg (by omega)]; simp [Sq.setSt, Sq.setCo, Co.v, e2]
  · rw [if_neg (by omega)]; simp [Sq.setSt, Sq.setCo, e]
section
variable {w0 w : World} {l : Loc} {P : Plan} {s : Sq} {n : Nat} (h : SqSt w0 w l P s n)
include h
theorem SqSt.setSt (c : Nat) (hc8 : c < 8) (t : Int) (ht : 0 ≤ t ∧ t ≤ 3) (hc : t = 0 ∨ (s.co c).st ≠ 0) : SqSt w0 (w.setCell ⟨l.S, 6 + c * 5, none⟩ (.int .i64 t)) l P (s.setSt c t) n ∧ Kept (l.own w0) w (w.setCell ⟨l.S, 6 + c * 5, none⟩ (.int .i64 t)) := by
  have k := (Kept.refl (fun k => k = l.S) w).setCell (p := ⟨l.S, 6 + c * 5, none⟩) (.inl rfl) (.int .i64 t)
  exact ⟨h.turn k (blk_setSt h.seq c hc8 t) rfl rfl (ok_setSt h.ok c t ht hc), h.toOwn k⟩
end

/-! ### A tick -/
/-- Behind a tick: the first k cores are told. -/
def passK (C : List (List Win)) (F : Int) (s : Sq) (k : Nat) : Sq := { s with now := s.now + 1, co := fun c => if c < k then passCo (coreW C c) ((s.now + 1) % F) (s.co c) else s.co c }
theorem passCo_st (L : List Win) (t : Int) (x : Co) : (passCo L t x).at_ = x.at_ ∧ (0 ≤ x.st ∧ x.st ≤ 3 → 0 ≤ (passCo L t x).st ∧ (passCo L t x).st ≤ 3) ∧ ((passCo L t x).st ≠ 0 → x.st ≠ 0) := by
  unfold passCo
  split
  · rename_i h; refine ⟨rfl, fun _ => ⟨by show (0 : Int) ≤ 1; decide, by show (1 : Int) ≤ 3; decide⟩, fun _ => by rcases h.1 with e | e <;> omega⟩
  · exact ⟨rfl, id, id⟩
theorem ok_passK {C : List (List Win)} {F : Int} {s : Sq} (h : s.Ok C) (h1 : s.now < 1099511627776) (k : Nat) : (passK C F s k).Ok C := by
  refine ⟨⟨by have := h.now.1; show 0 ≤ s.now + 1; omega, by show s.now + 1 ≤ _; omega⟩, fun d hd => ?_, fun d hd => ?_, h.mb, h.ws⟩
  · simp only [passK]
    split
    · exact (passCo_st _ _ _).2.1 (h.st d hd)
    · exact h.st d hd
  · simp only [passK]
    split
    · intro hne
      rw [(passCo_st _ _ _).1]
      exact h.at_ d hd ((passCo_st _ _ _).2.2 hne)
    · exact h.at_ d hd
theorem passK_all (C : List (List Win)) (F : Int) (s : Sq) (h : s.now ≠ 1099511627776) : passK C F s C.length = passS C F s := by
  rw [passS, if_neg h]; rfl
theorem passK_succ_same (C : List (List Win)) (F : Int) (s : Sq) (k : Nat) (h : passCo (coreW C k) ((s.now + 1) % F) (s.co k) = s.co k) : passK C F s (k + 1) = passK C F s k := by
  unfold passK
  congr 1
  funext c
  by_cases e : c = k
  · subst e; simp [h]
  · by_cases e2 : c < k
    · simp [e2, show c < k + 1 by omega]
    · simp [e2, show ¬ c < k + 1 by omega]
theorem passK_succ_put (C : List (List Win)) (F : Int) (s : Sq) (k : Nat) (h : passCo (coreW C k) ((s.now + 1) % F) (s.co k) = { s.co k with st := 1 }) : passK C F s (k + 1) = (passK C F s k).setSt k 1 := by
  unfold passK Sq.setSt Sq.setCo
  congr 1
  funext c
  by_cases e : c = k
  · subst e; simp [h]
  · by_cases e2 : c < k
    · simp [e, e2, show c < k + 1 by omega]
    · simp [e, e2, show ¬ c < k + 1 by omega]
theorem passK_co (C : List (List Win)) (F : Int) (s : Sq) (k : Nat) : (passK C F s k).co k = s.co k := by simp [passK]
set_option maxHeartbeats 3200000 in
theorem Tick_any {w0 w : World} {l : Loc} {P : Plan} {s : Sq} {n : Nat} (h : SqSt w0 w l P s n) : Calls Tryd.prog 22 #[.pointer (some ⟨l.S, 0, none⟩)] w fun e w' => e = .returned (.tuple #[]) ∧ SqSt w0 w' l P (passS (Plan.cores P) (Plan.frame P) s) n ∧ Kept (l.own w0) w w' := by
  have H := Aside.mk h
  have h0 := h.cNow
  have h1 := h.cCores
  have f0 := h.seq.f 46
  have n0 := h.ok.now
  have hn := h.cores
  have hS := h.seq.lt
  clear h
  by_cases hx : s.now = 1099511627776
  · have hb : (s.now == 1099511627776) = true := beq_iff_eq.2 hx
    have HR : Aside (passS (Plan.cores P) (Plan.frame P) s = s) := ⟨by rw [passS, if_pos hx]⟩
    rw [HR.out]
    generalize s.now = t at *
    clear hx
    go_enter Tryd.func22, Tryd.ntmps22
    go_wp2_with fail
    exact bodyPost_ret (v := .tuple #[]) (by simp [results, Tryd.results22, go_sem]) rfl ⟨rfl, H.out, Kept.refl _ _⟩
  · have hb : (s.now == 1099511627776) = false := beq_eq_false_iff_ne.2 hx
    have HR := Aside.mk (passK_all (Plan.cores P) (Plan.frame P) s hx)
    have hlt : s.now < 1099511627776 := by omega
    have OK := Aside.mk (fun k => ok_passK (F := Plan.frame P) H.out.ok hlt k)
    have T0 : Aside (SqSt w0 (w.setCell ⟨l.S, 46, none⟩ (.int .i64 (s.now + 1))) l P (passK (Plan.cores P) (Plan.frame P) s 0) n ∧ Kept (l.own w0) w (w.setCell ⟨l.S, 46, none⟩ (.int .i64 (s.now + 1)))) := ⟨by
      have k := (Kept.refl (fun k => k = l.S) w).setCell (p := ⟨l.S, 46, none⟩) (.inl rfl) (.int .i64 (s.now + 1))
      refine ⟨H.out.turn k ((H.out.seq.put0.put 46 (.int .i64 (s.now + 1))).congr (fun k hk => u_put l P s _ (fun k => if k = 46 then some (.int .i64 (s.now + 1)) else none) rfl (fun j hj => by show (if _ then _ else _) = _; rw [if_neg (by omega)]) (fun d j hd hj => ?_) k hk)) rfl rfl (OK.out 0), H.out.toOwn k⟩
      show Option.getD (if _ then _ else _) _ = _
      rw [if_neg (by omega)]
      simp [passK]⟩
    generalize hs0 : s.now = t at *
    obtain ⟨W1, HW1⟩ : ∃ W1, Aside (W1 = w.setCell ⟨l.S, 46, none⟩ (.int .i64 (t + 1))) := ⟨_, ⟨rfl⟩⟩
    rw [← HW1.out] at T0
    have HS0 := Aside.mk hs0
    have g1 := T0.out.1.cCores
    clear hx hs0
    go_enter Tryd.func22, Tryd.ntmps22
    go_wp2_with fail
    rw [← HW1.out]
    have hF := H.out.frame
    have HO := Aside.mk H.out.ok
    generalize hC : Plan.cores P = C at *
    generalize hFF : Plan.frame P = F at *
    have HC := Aside.mk hC
    have HF := Aside.mk hFF
    clear hC hFF
    go_loopw [25] (fun i wr => ∃ k : Nat, k ≤ C.length ∧ i = .int .i64 k ∧ Aside (SqSt w0 wr l P (passK C F s k) n ∧ Kept (l.own w0) w wr)) (fun i _ => C.length - (intOf i).toNat)
    case atStart => exact ⟨0, by omega, rfl, T0⟩
    case round =>
      obtain ⟨k, hk, rfl, T⟩ := hrel
      by_cases hkl : k < C.length
      · have hk8 : k < 8 := by omega
        obtain ⟨v, hv, hw⟩ := T.out.1.winsAt k (by rw [HC.out]; exact hkl)
        rw [HC.out] at hw
        have KT := Aside.mk (tick_any T.out.1)
        have KA := Aside.mk (fun m t => at_any (wr.drewN m) v (coreW C k) t (hw.below (below_drewN _ _)))
        have HTK : Aside (tkS (Plan.frame P) (passK C F s k) = (t + 1) % F) := ⟨by rw [HF.out, tkS]; show (s.now + 1) % F = _; rw [HS0.out]⟩
        rw [HTK.out] at KT
        have hX : Aside ((passK C F s k).co k = s.co k) := ⟨passK_co C F s k⟩
        have hok := And.intro (HO.out.st k hkl) (HO.out.at_ k hkl)
        obtain ⟨⟨st, at_, bg, la⟩, hx⟩ : ∃ x, Aside (s.co k = x) := ⟨_, ⟨rfl⟩⟩
        rw [hx.out] at hok
        obtain ⟨⟨st0, st3⟩, hat⟩ := hok
        simp only at st0 st3 hat
        obtain ⟨tick, htk⟩ : ∃ tick, Aside ((t + 1) % F = tick) := ⟨_, ⟨rfl⟩⟩
        rw [htk.out] at KT
        obtain ⟨A, hA⟩ : ∃ A, Aside (atS (coreW C k) tick = A) := ⟨_, ⟨rfl⟩⟩
        -- the end of a round, either way
        have ES : (¬ ((st = 2 ∨ st = 3) ∧ (A ≠ some at_.toNat ∨ tick = 0))) → Aside (passK C F s (k + 1) = passK C F s k) := fun q => ⟨passK_succ_same C F s k (by rw [hx.out, HS0.out, htk.out, passCo, hA.out]; exact if_neg q)⟩
        have EP : ((st = 2 ∨ st = 3) ∧ (A ≠ some at_.toNat ∨ tick = 0)) → Aside (passK C F s (k + 1) = (passK C F s k).setSt k 1) := fun q => ⟨passK_succ_put C F s k (by rw [hx.out, HS0.out, htk.out, passCo, hA.out]; exact if_pos q)⟩
        have HW := Aside.mk hw
        have KA2 : Aside (∀ m, Calls Tryd.prog 44 #[v, .int .i64 tick] (wr.drewN m) fun e w' => e = .returned (atV A) ∧ Below (wr.drewN m).heap.size (wr.drewN m) w') := ⟨fun m => by have := KA.out m tick; rw [hA.out] at this; exact this⟩
        clear hw KA
        have hstep : ∀ W, Aside (SqSt w0 W l P (passK C F s k) n ∧ Kept (l.own w0) w W) → st ≠ 0 → Aside (SqSt w0 (W.setCell ⟨l.S, 6 + k * 5, none⟩ (.int .i64 1)) l P ((passK C F s k).setSt k 1) n ∧ Kept (l.own w0) w (W.setCell ⟨l.S, 6 + k * 5, none⟩ (.int .i64 1))) := fun W TW hne => ⟨by
          have q := TW.out.1.setSt k hk8 1 ⟨by decide, by decide⟩ (.inr (by rw [hX.out, hx.out]; exact hne))
          exact ⟨q.1, TW.out.2.trans q.2⟩⟩
        have HSTEP := Aside.mk hstep
        clear hstep
        have PRE : Aside (∀ W, Below wr.heap.size wr W → SqSt w0 W l P (passK C F s k) n ∧ Kept (l.own w0) w W) := ⟨fun W b => ⟨T.out.1.below b, T.out.2.trans (Kept.of_below b)⟩⟩
        by_cases hs23 : st = 2 ∨ st = 3
        · rcases A with _ | i
          · have E := EP ⟨hs23, .inl (by simp)⟩
            simp only [atV] at KA2
            clear EP ES
            rcases hs23 with rfl | rfl
            all_goals
              go_wp2_with fail
              refine KT.out.mono ?_
              rintro e w2 ⟨rfl, m, rfl⟩
              go_wp2_with fail
              refine (KA2.out m).mono ?_
              rintro e w3 ⟨rfl, b3⟩
              have T3 := Aside.mk (PRE.out w3 (bel_then (below_drewN _ _) b3))
              obtain ⟨y0, y1, _, _, _⟩ := T3.out.1.cCos k hk8
              rw [hX.out, hx.out] at y0 y1
              simp only at y0 y1
              have fr := T3.out.1.seq.f (6 + k * 5)
              go_wp2_with fail
              go_roundw
              case rel => exact ⟨k + 1, by omega, by go_num, by rw [E.out]; exact HSTEP.out _ T3 (by decide)⟩
              case measure => simp [intOf]; omega
          · obtain ⟨a0, a1⟩ := hat (by omega)
            obtain ⟨j, rfl⟩ := Int.eq_ofNat_of_zero_le a0
            simp only [atV] at KA2
            by_cases hij : i = j
            · subst hij
              by_cases ht0 : tick = 0
              · have E := EP ⟨hs23, .inr ht0⟩
                subst ht0
                clear EP ES
                rcases hs23 with rfl | rfl
                all_goals
                  go_wp2_with fail
                  refine KT.out.mono ?_
                  rintro e w2 ⟨rfl, m, rfl⟩
                  go_wp2_with fail
                  refine (KA2.out m).mono ?_
                  rintro e w3 ⟨rfl, b3⟩
                  have T3 := Aside.mk (PRE.out w3 (bel_then (below_drewN _ _) b3))
                  have KT3 := Aside.mk (tick_any T3.out.1)
                  rw [HTK.out, htk.out] at KT3
                  obtain ⟨y0, y1, _, _, _⟩ := T3.out.1.cCos k hk8
                  rw [hX.out, hx.out] at y0 y1
                  simp only at y0 y1
                  go_wp2_with fail
                  refine KT3.out.mono ?_
                  rintro e w4 ⟨rfl, m4, rfl⟩
                  have T4 := Aside.mk (PRE.out (w3.drewN m4) (bel_drewN (bel_then (below_drewN _ _) b3) _))
                  obtain ⟨z0, z1, _, _, _⟩ := T4.out.1.cCos k hk8
                  rw [hX.out, hx.out] at z0
                  have fr := T4.out.1.seq.f (6 + k * 5)
                  go_wp2_with fail
                  go_roundw
                  case rel => exact ⟨k + 1, by omega, by go_num, by rw [E.out]; exact HSTEP.out _ T4 (by decide)⟩
                  case measure => simp [intOf]; omega
              · have E := ES (by rintro ⟨_, q | q⟩; exact q (by simp); exact ht0 q)
                have ht0b : (tick == 0) = false := beq_eq_false_iff_ne.2 ht0
                clear EP ES ht0
                rcases hs23 with rfl | rfl
                all_goals
                  go_wp2_with fail
                  refine KT.out.mono ?_
                  rintro e w2 ⟨rfl, m, rfl⟩
                  go_wp2_with fail
                  refine (KA2.out m).mono ?_
                  rintro e w3 ⟨rfl, b3⟩
                  have T3 := Aside.mk (PRE.out w3 (bel_then (below_drewN _ _) b3))
                  have KT3 := Aside.mk (tick_any T3.out.1)
                  rw [HTK.out, htk.out] at KT3
                  obtain ⟨y0, y1, _, _, _⟩ := T3.out.1.cCos k hk8
                  rw [hX.out, hx.out] at y0 y1
                  simp only at y0 y1
                  go_wp2_with fail
                  refine KT3.out.mono ?_
                  rintro e w4 ⟨rfl, m4, rfl⟩
                  have T4 := Aside.mk (PRE.out (w3.drewN m4) (bel_drewN (bel_then (below_drewN _ _) b3) _))
                  go_wp2_with fail
                  go_roundw
                  case rel => exact ⟨k + 1, by omega, by go_num, by rw [E.out]; exact T4⟩
                  case measure => simp [intOf]; omega
            · have E := EP ⟨hs23, .inl (by simp; omega)⟩
              have hne : ((i : Int) != (j : Int)) = true := bne_iff_ne.2 (by omega)
              have hne2 : ¬ (i : Int) = (j : Int) := by omega
              have HIJ := Aside.mk hij
              clear EP ES hij
              rcases hs23 with rfl | rfl
              all_goals
                go_wp2_with fail
                refine KT.out.mono ?_
                rintro e w2 ⟨rfl, m, rfl⟩
                go_wp2_with fail
                refine (KA2.out m).mono ?_
                rintro e w3 ⟨rfl, b3⟩
                have T3 := Aside.mk (PRE.out w3 (bel_then (below_drewN _ _) b3))
                obtain ⟨y0, y1, _, _, _⟩ := T3.out.1.cCos k hk8
                rw [hX.out, hx.out] at y0 y1
                simp only at y0 y1
                have fr := T3.out.1.seq.f (6 + k * 5)
                go_wp2_with fail
                go_roundw
                case rel => exact ⟨k + 1, by omega, by go_num, by rw [E.out]; exact HSTEP.out _ T3 (by decide)⟩
                case measure => simp [intOf]; omega
        · have E := ES (fun q => hs23 q.1)
          have q2 : (st == 2) = false := beq_eq_false_iff_ne.2 (fun e => hs23 (.inl e))
          have q3 : (st == 3) = false := beq_eq_false_iff_ne.2 (fun e => hs23 (.inr e))
          clear EP ES hs23 hat
          rcases A with _ | i
          all_goals
            simp only [atV] at KA2
            go_wp2_with fail
            refine KT.out.mono ?_
            rintro e w2 ⟨rfl, m, rfl⟩
            go_wp2_with fail
            refine (KA2.out m).mono ?_
            rintro e w3 ⟨rfl, b3⟩
            have T3 := Aside.mk (PRE.out w3 (bel_then (below_drewN _ _) b3))
            obtain ⟨y0, y1, _, _, _⟩ := T3.out.1.cCos k hk8
            rw [hX.out, hx.out] at y0 y1
            simp only at y0 y1
            go_wp2_with fail
            go_roundw
            case rel => exact ⟨k + 1, by omega, by go_num, by rw [E.out]; exact T3⟩
            case measure => simp [intOf]; omega
      · obtain rfl : k = C.length := by omega
        go_wp2_with fail
        exact bodyPost_end (v := .tuple #[]) (by simp [results, Tryd.results22, go_sem]) rfl ⟨rfl, by rw [HC.out, HF.out, ← HR.out]; exact T.out⟩
end Go.Proofs.YtidjkhmlpgkaaaaDoor
