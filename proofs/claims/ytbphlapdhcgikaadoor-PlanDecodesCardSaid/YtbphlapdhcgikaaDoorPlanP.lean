/- Plans, windows, and the rules that a plan is held to: plain definitions, and what follows of them. No function of the program is named here. -/
import Derived.KernelRfl
namespace Go.Proofs.YtbphlapdhcgikaaDoor
set_option linter.unusedVariables false
set_option linter.unusedSimpArgs false

/-- A window: start, length, partition, gang. -/
abbrev Win : Type := Int × Int × Int × Int × Unit
def Win.s (x : Win) : Int := x.1
def Win.l (x : Win) : Int := x.2.1
def Win.p (x : Win) : Int := x.2.2.1
def Win.g (x : Win) : Int := x.2.2.2.1
structure Win.Ok (x : Win) : Prop where
  s : 0 ≤ Win.s x ∧ Win.s x ≤ 65535
  l : 0 ≤ Win.l x ∧ Win.l x ≤ 65535
  p : 0 ≤ Win.p x ∧ Win.p x ≤ 255
  g : 0 ≤ Win.g x ∧ Win.g x ≤ 255
abbrev SemR : Type := Int × Int × Unit
abbrev PartR : Type := List SemR × Int × List Int × List Int × Unit
abbrev ChanR : Type := Int × Int × Int × Int × Int × Int × Unit
abbrev PairR : Type := Int × Int × Unit
/-- A plan: its frame, cores, partitions, channels, pairs. -/
abbrev Plan : Type := Int × List (List Win) × List PartR × List ChanR × List PairR × Unit
def Plan.frame (P : Plan) : Int := P.1
def Plan.cores (P : Plan) : List (List Win) := P.2.1
def Plan.parts (P : Plan) : List PartR := P.2.2.1
def Plan.chans (P : Plan) : List ChanR := P.2.2.2.1
def Plan.pairs (P : Plan) : List PairR := P.2.2.2.2.1
def PartR.sems (x : PartR) : List SemR := x.1
def PartR.events (x : PartR) : Int := x.2.1
def PartR.procs (x : PartR) : List Int := x.2.2.1
def PartR.acts (x : PartR) : List Int := x.2.2.2.1

/-- Has a window a tick? -/
def hasS (x : Win) (t : Int) : Bool := decide (Win.s x ≤ t) && decide (t < Win.s x + Win.l x)
theorem hasS_iff (x : Win) (t : Int) : hasS x t = true ↔ Win.s x ≤ t ∧ t < Win.s x + Win.l x := by simp [hasS]
def laterS (v w : Win) : Int := if Win.s v < Win.s w then Win.s w else Win.s v
def overlapS (v w : Win) : Bool := hasS v (laterS v w) && hasS w (laterS v w)
def togetherS (v w : Win) : Bool := decide (Win.g v ≠ 0) && decide (Win.g v = Win.g w) && decide (Win.s v = Win.s w) && decide (Win.l v = Win.l w) && decide (Win.p v = Win.p w)

/-- A window at its place: its core, the place, the window. -/
abbrev Place : Type := Int × Int × Win
def Place.c (x : Place) : Int := x.1
def Place.a (x : Place) : Int := x.2.1
def Place.w (x : Place) : Win := x.2.2
def placesS (c : Nat) (L : List Win) : List Place := L.mapIdx fun i x => ((c : Int), 256 * (c : Int) + (i : Int), x)
def allS (C : List (List Win)) : List Place := (C.mapIdx placesS).flatten
theorem placesS_snoc (c : Nat) (L : List Win) (x : Win) : placesS c (L ++ [x]) = placesS c L ++ [((c : Int), 256 * (c : Int) + (L.length : Int), x)] := by
  simp [placesS, List.mapIdx_concat]
theorem placesS_nil (c : Nat) : placesS c [] = [] := by simp [placesS]
theorem allS_snoc (C : List (List Win)) (L : List Win) : allS (C ++ [L]) = allS C ++ placesS C.length L := by
  simp [allS, List.mapIdx_concat]
theorem allS_nil : allS [] = [] := by simp [allS]
theorem take_snoc {α : Type} {l : List α} {k : Nat} {x : α} (h : l[k]? = some x) : l.take (k + 1) = l.take k ++ [x] := by
  rw [List.take_add_one, h]; rfl

theorem placesS_len (c : Nat) (L : List Win) : (placesS c L).length = L.length := by simp [placesS]
theorem allS_take_succ (C : List (List Win)) (k : Nat) (L : List Win) (h : C[k]? = some L) : allS (C.take (k + 1)) = allS (C.take k) ++ placesS k L := by
  have hk : k < C.length := (List.getElem?_eq_some_iff.1 h).1
  rw [take_snoc h, allS_snoc, List.length_take, Nat.min_eq_left (by omega)]
theorem placesS_take_succ (c : Nat) (L : List Win) (k : Nat) (x : Win) (h : L[k]? = some x) : placesS c (L.take (k + 1)) = placesS c (L.take k) ++ [((c : Int), 256 * (c : Int) + (k : Int), x)] := by
  have hk : k < L.length := (List.getElem?_eq_some_iff.1 h).1
  rw [take_snoc h, placesS_snoc, List.length_take, Nat.min_eq_left (by omega)]
theorem allS_take_len (C : List (List Win)) (h : ∀ L ∈ C, L.length ≤ 256) (k : Nat) (hk : k ≤ C.length) : (allS (C.take k)).length ≤ 256 * k := by
  induction k with
  | zero => simp [allS_nil]
  | succ k ih =>
    have e : C[k]? = some C[k] := List.getElem?_eq_getElem (by omega)
    rw [allS_take_succ C k _ e, List.length_append, placesS_len]
    have := h C[k] (List.getElem_mem _)
    have := ih (by omega)
    omega

/-- The first fault of n. -/
def scan {α : Type} (f : Nat → Option α) : Nat → Option α
  | 0 => none
  | n + 1 => match scan f n with
    | some x => some x
    | none => f n
theorem scan_none {α : Type} {f : Nat → Option α} {n : Nat} (h : scan f n = none) (k : Nat) (hk : k < n) : f k = none := by
  induction n with
  | zero => omega
  | succ n ih =>
    unfold scan at h
    split at h
    · cases h
    · rename_i e
      rcases Nat.lt_succ_iff_lt_or_eq.1 hk with q | rfl
      · exact ih e q
      · exact h
theorem scan_none_of {α : Type} {f : Nat → Option α} {n : Nat} (h : ∀ k, k < n → f k = none) : scan f n = none := by
  induction n with
  | zero => rfl
  | succ n ih => unfold scan; rw [ih (fun k hk => h k (by omega))]; exact h n (by omega)
theorem scan_succ {α : Type} {f : Nat → Option α} {n : Nat} (h : scan f n = none) : scan f (n + 1) = f n := by
  show (match scan f n with | some x => some x | none => f n) = _
  rw [h]
theorem scan_some {α : Type} {f : Nat → Option α} {n k : Nat} {x : α} (h : scan f k = none) (hx : f k = some x) (hk : k < n) : scan f n = some x := by
  induction n with
  | zero => omega
  | succ n ih =>
    rcases Nat.lt_succ_iff_lt_or_eq.1 hk with q | rfl
    · unfold scan; rw [ih q]
    · rw [scan_succ h, hx]

/-- A fault: its number and place. -/
abbrev Flt : Type := Int × Int
def endS (x : Win) : Int := Win.s x + Win.l x
def noPlace : Place := (0, 0, 0, 0, 0, 0, ())
def plAt (l : List Place) (i : Nat) : Place := l.getD i noPlace
theorem plAt_some {l : List Place} {i : Nat} {x : Place} (h : l[i]? = some x) : plAt l i = x := by simp [plAt, List.getD_eq_getElem?_getD, h]
def behindS (l : List Place) (i : Nat) : Int := if 0 < i ∧ Place.c (plAt l (i - 1)) = Place.c (plAt l i) then endS (Place.w (plAt l (i - 1))) else 0
def orderF (fr np : Int) (l : List Place) (i : Nat) : Option Flt :=
  if Win.l (Place.w (plAt l i)) = 0 ∨ Win.s (Place.w (plAt l i)) < behindS l i ∨ fr < endS (Place.w (plAt l i)) then some (44, Place.a (plAt l i))
  else if np ≤ Win.p (Place.w (plAt l i)) then some (45, Place.a (plAt l i)) else none
def twiceF (l : List Place) (i k : Nat) : Option Flt :=
  if Place.c (plAt l k) = Place.c (plAt l i) ∧ Win.g (Place.w (plAt l k)) = Win.g (Place.w (plAt l i)) ∧ Win.g (Place.w (plAt l i)) ≠ 0 then some (46, Place.a (plAt l i)) else none
def crossF (l : List Place) (i k : Nat) : Option Flt :=
  if k ≤ i ∨ Place.c (plAt l k) = Place.c (plAt l i) ∨ togetherS (Place.w (plAt l k)) (Place.w (plAt l i)) = true then none
  else if Win.g (Place.w (plAt l k)) = Win.g (Place.w (plAt l i)) ∧ Win.g (Place.w (plAt l i)) ≠ 0 then some (46, Place.a (plAt l i))
  else if Win.p (Place.w (plAt l k)) = Win.p (Place.w (plAt l i)) ∧ overlapS (Place.w (plAt l k)) (Place.w (plAt l i)) = true then some (47, Place.a (plAt l i))
  else none
def orElseF (a b : Option Flt) : Option Flt := match a with
  | some x => some x
  | none => b
def gangF (l : List Place) (i : Nat) : Option Flt := orElseF (scan (twiceF l i) i) (scan (crossF l i) l.length)
def PairR.a (x : PairR) : Int := x.1
def PairR.b (x : PairR) : Int := x.2.1
def prAt (l : List PairR) (i : Nat) : PairR := l.getD i (0, 0, ())
theorem prAt_some {l : List PairR} {i : Nat} {x : PairR} (h : l[i]? = some x) : prAt l i = x := by simp [prAt, List.getD_eq_getElem?_getD, h]
def samePairF (q : List PairR) (i k : Nat) : Option Flt := if PairR.a (prAt q k) = PairR.a (prAt q i) ∧ PairR.b (prAt q k) = PairR.b (prAt q i) then some (48, (i : Int)) else none
def clashF (l : List Place) (x : PairR) (i a b : Nat) : Option Flt :=
  if Win.p (Place.w (plAt l a)) = PairR.a x ∧ Win.p (Place.w (plAt l b)) = PairR.b x ∧ overlapS (Place.w (plAt l a)) (Place.w (plAt l b)) = true then some (49, (i : Int)) else none
def pairF (np : Int) (l : List Place) (q : List PairR) (i : Nat) : Option Flt :=
  if np ≤ PairR.a (prAt q i) ∨ np ≤ PairR.b (prAt q i) ∨ PairR.b (prAt q i) ≤ PairR.a (prAt q i) then some (48, (i : Int))
  else orElseF (scan (samePairF q i) i) (scan (fun a => scan (clashF l (prAt q i) i a) l.length) l.length)
def ChanR.k (x : ChanR) : Int := x.1
def ChanR.f (x : ChanR) : Int := x.2.1
def ChanR.t (x : ChanR) : Int := x.2.2.1
def ChanR.z (x : ChanR) : Int := x.2.2.2.1
def ChanR.d (x : ChanR) : Int := x.2.2.2.2.1
def ChanR.y (x : ChanR) : Int := x.2.2.2.2.2.1
def queueB (c : ChanR) : Bool := decide (ChanR.k c = 0) && decide (ChanR.y c = 0) && (decide (ChanR.d c = 1) || decide (ChanR.d c = 2) || decide (ChanR.d c = 4) || decide (ChanR.d c = 8) || decide (ChanR.d c = 16))
def sampleB (c : ChanR) : Bool := decide (ChanR.k c = 1) && decide (ChanR.d c = 0) && decide (0 < ChanR.y c)
def chAt (l : List ChanR) (i : Nat) : ChanR := l.getD i (0, 0, 0, 0, 0, 0, ())
theorem chAt_some {l : List ChanR} {i : Nat} {x : ChanR} (h : l[i]? = some x) : chAt l i = x := by simp [chAt, List.getD_eq_getElem?_getD, h]
def chanOk (np : Int) (c : ChanR) (i : Nat) : Bool := decide (i ≤ 63) && (queueB c || sampleB c) && decide (ChanR.f c < np) && decide (ChanR.t c < np) && decide (ChanR.f c ≠ ChanR.t c) && decide (1 ≤ ChanR.z c) && decide (ChanR.z c ≤ 32)
def chanF (np : Int) (h : List ChanR) (i : Nat) : Option Flt := if chanOk np (chAt h i) i = true then none else some (50, (i : Int))
def SemR.i (x : SemR) : Int := x.1
def SemR.m (x : SemR) : Int := x.2.1
def semOk (x : SemR) : Bool := decide (SemR.m x ≠ 0) && decide (SemR.i x ≤ SemR.m x)
def sizesOk (x : PartR) : Bool := decide ((PartR.sems x).length ≤ 16) && decide (PartR.events x ≤ 16) && decide (1 ≤ (PartR.procs x).length) && decide ((PartR.procs x).length ≤ 16) && decide ((PartR.acts x).getD 0 0 ≤ 2) && decide ((PartR.acts x).getD 1 0 ≤ 2) && decide ((PartR.acts x).getD 2 0 ≤ 2)
def objectS (x : PartR) : Bool := sizesOk x && (PartR.sems x).all semOk && (PartR.procs x).all fun p => decide (p ≤ 63)
def ptAt (l : List PartR) (i : Nat) : PartR := l.getD i ([], 0, [], [], ())
theorem ptAt_some {l : List PartR} {i : Nat} {x : PartR} (h : l[i]? = some x) : ptAt l i = x := by simp [ptAt, List.getD_eq_getElem?_getD, h]
def partF (l : List PartR) (i : Nat) : Option Flt := if objectS (ptAt l i) = true then none else some (51, (i : Int))
def manyF (C : List (List Win)) (c : Nat) : Option Flt := if 256 < (C.getD c []).length then some (43, (c : Int)) else none

/-- The rules behind the sizes, in order. -/
def restF (P : Plan) : Option Flt :=
  orElseF (scan (manyF (Plan.cores P)) (Plan.cores P).length)
  (orElseF (scan (orderF (Plan.frame P) ((Plan.parts P).length : Int) (allS (Plan.cores P))) (allS (Plan.cores P)).length)
  (orElseF (scan (gangF (allS (Plan.cores P))) (allS (Plan.cores P)).length)
  (orElseF (scan (pairF ((Plan.parts P).length : Int) (allS (Plan.cores P)) (Plan.pairs P)) (Plan.pairs P).length)
  (orElseF (scan (chanF ((Plan.parts P).length : Int) (Plan.chans P)) (Plan.chans P).length)
  (scan (partF (Plan.parts P)) (Plan.parts P).length)))))
/-- The first rule that is broken, and the place; 0 and 0: none. -/
def checkS (P : Plan) : Flt :=
  if Plan.frame P = 0 then (40, 0)
  else if (Plan.cores P).length < 1 ∨ 8 < (Plan.cores P).length then (41, ((Plan.cores P).length : Int))
  else if (Plan.parts P).length < 1 ∨ 64 < (Plan.parts P).length then (42, ((Plan.parts P).length : Int))
  else (restF P).getD (0, 0)
end Go.Proofs.YtbphlapdhcgikaaDoor
