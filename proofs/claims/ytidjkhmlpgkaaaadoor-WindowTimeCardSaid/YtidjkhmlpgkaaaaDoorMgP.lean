/- Plans, windows, and the rules that a plan is held to: plain definitions, and what follows of them. No function of the program is named here. The table: plain definitions: which window has a tick, what a core serves. A plan that is taken: what the rules give. Plain: no function of the program is named here. The program's rules, as they are asked: window by window, each a number. Plain: no function of the program is named here. The program's rules: pairs that exclude each other, channels, partitions, as they are asked. Plain: no function of the program is named here. -/
import Derived.KernelRfl
namespace Go.Proofs.YtidjkhmlpgkaaaaDoor
set_option linter.unusedVariables false
set_option linter.unusedSimpArgs false

/-- A window: start, length, partition, gang. -/
abbrev Win : Type := Int × Int × Int × Int × Unit
def Win.s (x : Win) : Int := x.1
def Win.l (x : Win) : Int := x.2.1
def Win.p (x : Win) : Int := x.2.2.1
def Win.g (x : Win) : Int := x.2.2.2.1
structure Win.Ok (x : Win) : Prop where
  s : 0 ≤ Win.s x ∧ Win.s x ≤ 65535
  l : 0 ≤ Win.l x ∧ Win.l x ≤ 65535
  p : 0 ≤ Win.p x ∧ Win.p x ≤ 255
  g : 0 ≤ Win.g x ∧ Win.g x ≤ 255
abbrev SemR : Type := Int × Int × Unit
abbrev PartR : Type := List SemR × Int × List Int × List Int × Unit
abbrev ChanR : Type := Int × Int × Int × Int × Int × Int × Unit
abbrev PairR : Type := Int × Int × Unit
/-- A plan: its frame, cores, partitions, channels, pairs. -/
abbrev Plan : Type := Int × List (List Win) × List PartR × List ChanR × List PairR × Unit
def Plan.frame (P : Plan) : Int := P.1
def Plan.cores (P : Plan) : List (List Win) := P.2.1
def Plan.parts (P : Plan) : List PartR := P.2.2.1
def Plan.chans (P : Plan) : List ChanR := P.2.2.2.1
def Plan.pairs (P : Plan) : List PairR := P.2.2.2.2.1
def PartR.sems (x : PartR) : List SemR := x.1
def PartR.events (x : PartR) : Int := x.2.1
def PartR.procs (x : PartR) : List Int := x.2.2.1
def PartR.acts (x : PartR) : List Int := x.2.2.2.1

/-- Has a window a tick? -/
def hasS (x : Win) (t : Int) : Bool := decide (Win.s x ≤ t) && decide (t < Win.s x + Win.l x)
theorem hasS_iff (x : Win) (t : Int) : hasS x t = true ↔ Win.s x ≤ t ∧ t < Win.s x + Win.l x := by simp [hasS]
def laterS (v w : Win) : Int := if Win.s v < Win.s w then Win.s w else Win.s v
def overlapS (v w : Win) : Bool := hasS v (laterS v w) && hasS w (laterS v w)
def togetherS (v w : Win) : Bool := decide (Win.g v ≠ 0) && decide (Win.g v = Win.g w) && decide (Win.s v = Win.s w) && decide (Win.l v = Win.l w) && decide (Win.p v = Win.p w)

/-- A window at its place: its core, the place, the window. -/
abbrev Place : Type := Int × Int × Win
def Place.c (x : Place) : Int := x.1
def Place.a (x : Place) : Int := x.2.1
def Place.w (x : Place) : Win := x.2.2
def placesS (c : Nat) (L : List Win) : List Place := L.mapIdx fun i x => ((c : Int), 256 * (c : Int) + (i : Int), x)
def allS (C : List (List Win)) : List Place := (C.mapIdx placesS).flatten
theorem placesS_snoc (c : Nat) (L : List Win) (x : Win) : placesS c (L ++ [x]) = placesS c L ++ [((c : Int), 256 * (c : Int) + (L.length : Int), x)] := by
  simp [placesS, List.mapIdx_concat]
theorem placesS_nil (c : Nat) : placesS c [] = [] := by simp [placesS]
theorem allS_snoc (C : List (List Win)) (L : List Win) : allS (C ++ [L]) = allS C ++ placesS C.length L := by
  simp [allS, List.mapIdx_concat]
theorem allS_nil : allS [] = [] := by simp [allS]
theorem take_snoc {α : Type} {l : List α} {k : Nat} {x : α} (h : l[k]? = some x) : l.take (k + 1) = l.take k ++ [x] := by
  rw [List.take_add_one, h]; rfl

theorem placesS_len (c : Nat) (L : List Win) : (placesS c L).length = L.length := by simp [placesS]
theorem allS_take_succ (C : List (List Win)) (k : Nat) (L : List Win) (h : C[k]? = some L) : allS (C.take (k + 1)) = allS (C.take k) ++ placesS k L := by
  have hk : k < C.length := (List.getElem?_eq_some_iff.1 h).1
  rw [take_snoc h, allS_snoc, List.length_take, Nat.min_eq_left (by omega)]
theorem placesS_take_succ (c : Nat) (L : List Win) (k : Nat) (x : Win) (h : L[k]? = some x) : placesS c (L.take (k + 1)) = placesS c (L.take k) ++ [((c : Int), 256 * (c : Int) + (k : Int), x)] := by
  have hk : k < L.length := (List.getElem?_eq_some_iff.1 h).1
  rw [take_snoc h, placesS_snoc, List.length_take, Nat.min_eq_left (by omega)]
theorem allS_take_len (C : List (List Win)) (h : ∀ L ∈ C, L.length ≤ 256) (k : Nat) (hk : k ≤ C.length) : (allS (C.take k)).length ≤ 256 * k := by
  induction k with
  | zero => simp [allS_nil]
  | succ k ih =>
    have e : C[k]? = some C[k] := List.getElem?_eq_getElem (by omega)
    rw [allS_take_succ C k _ e, List.length_append, placesS_len]
    have := h C[k] (List.getElem_mem _)
    have := ih (by omega)
    omega

/-- The first fault of n. -/
def scan {α : Type} (f : Nat → Option α) : Nat → Option α
  | 0 => none
  | n + 1 => match scan f n with
    | some x => some x
    | none => f n
theorem scan_none {α : Type} {f : Nat → Option α} {n : Nat} (h : scan f n = none) (k : Nat) (hk : k < n) : f k = none := by
  induction n with
  | zero => omega
  | succ n ih =>
    unfold scan at h
    split at h
    · cases h
    · rename_i e
      rcases Nat.lt_succ_iff_lt_or_eq.1 hk with q | rfl
      · exact ih e q
      · exact h
theorem scan_none_of {α : Type} {f : Nat → Option α} {n : Nat} (h : ∀ k, k < n → f k = none) : scan f n = none := by
  induction n with
  | zero => rfl
  | succ n ih => unfold scan; rw [ih (fun k hk => h k (by omega))]; exact h n (by omega)
theorem scan_succ {α : Type} {f : Nat → Option α} {n : Nat} (h : scan f n = none) : scan f (n + 1) = f n := by
  show (match scan f n with | some x => some x | none => f n) = _
  rw [h]
theorem scan_some {α : Type} {f : Nat → Option α} {n k : Nat} {x : α} (h : scan f k = none) (hx : f k = some x) (hk : k < n) : scan f n = some x := by
  induction n with
  | zero => omega
  | succ n ih =>
    rcases Nat.lt_succ_iff_lt_or_eq.1 hk with q | rfl
    · unfold scan; rw [ih q]
    · rw [scan_succ h, hx]

/-- A fault: its number and place. -/
abbrev Flt : Type := Int × Int
def endS (x : Win) : Int := Win.s x + Win.l x
def noPlace : Place := (0, 0, 0, 0, 0, 0, ())
def plAt (l : List Place) (i : Nat) : Place := l.getD i noPlace
theorem plAt_some {l : List Place} {i : Nat} {x : Place} (h : l[i]? = some x) : plAt l i = x := by simp [plAt, List.getD_eq_getElem?_getD, h]
def behindS (l : List Place) (i : Nat) : Int := if 0 < i ∧ Place.c (plAt l (i - 1)) = Place.c (plAt l i) then endS (Place.w (plAt l (i - 1))) else 0
def orderF (fr np : Int) (l : List Place) (i : Nat) : Option Flt :=
  if Win.l (Place.w (plAt l i)) = 0 ∨ Win.s (Place.w (plAt l i)) < behindS l i ∨ fr < endS (Place.w (plAt l i)) then some (44, Place.a (plAt l i))
  else if np ≤ Win.p (Place.w (plAt l i)) then some (45, Place.a (plAt l i)) else none
def twiceF (l : List Place) (i k : Nat) : Option Flt :=
  if Place.c (plAt l k) = Place.c (plAt l i) ∧ Win.g (Place.w (plAt l k)) = Win.g (Place.w (plAt l i)) ∧ Win.g (Place.w (plAt l i)) ≠ 0 then some (46, Place.a (plAt l i)) else none
def crossF (l : List Place) (i k : Nat) : Option Flt :=
  if k ≤ i ∨ Place.c (plAt l k) = Place.c (plAt l i) ∨ togetherS (Place.w (plAt l k)) (Place.w (plAt l i)) = true then none
  else if Win.g (Place.w (plAt l k)) = Win.g (Place.w (plAt l i)) ∧ Win.g (Place.w (plAt l i)) ≠ 0 then some (46, Place.a (plAt l i))
  else if Win.p (Place.w (plAt l k)) = Win.p (Place.w (plAt l i)) ∧ overlapS (Place.w (plAt l k)) (Place.w (plAt l i)) = true then some (47, Place.a (plAt l i))
  else none
def orElseF (a b : Option Flt) : Option Flt := match a with
  | some x => some x
  | none => b
def gangF (l : List Place) (i : Nat) : Option Flt := orElseF (scan (twiceF l i) i) (scan (crossF l i) l.length)
def PairR.a (x : PairR) : Int := x.1
def PairR.b (x : PairR) : Int := x.2.1
def prAt (l : List PairR) (i : Nat) : PairR := l.getD i (0, 0, ())
theorem prAt_some {l : List PairR} {i : Nat} {x : PairR} (h : l[i]? = some x) : prAt l i = x := by simp [prAt, List.getD_eq_getElem?_getD, h]
def samePairF (q : List PairR) (i k : Nat) : Option Flt := if PairR.a (prAt q k) = PairR.a (prAt q i) ∧ PairR.b (prAt q k) = PairR.b (prAt q i) then some (48, (i : Int)) else none
def clashF (l : List Place) (x : PairR) (i a b : Nat) : Option Flt :=
  if Win.p (Place.w (plAt l a)) = PairR.a x ∧ Win.p (Place.w (plAt l b)) = PairR.b x ∧ overlapS (Place.w (plAt l a)) (Place.w (plAt l b)) = true then some (49, (i : Int)) else none
def pairF (np : Int) (l : List Place) (q : List PairR) (i : Nat) : Option Flt :=
  if np ≤ PairR.a (prAt q i) ∨ np ≤ PairR.b (prAt q i) ∨ PairR.b (prAt q i) ≤ PairR.a (prAt q i) then some (48, (i : Int))
  else orElseF (scan (samePairF q i) i) (scan (fun a => scan (clashF l (prAt q i) i a) l.length) l.length)
def ChanR.k (x : ChanR) : Int := x.1
def ChanR.f (x : ChanR) : Int := x.2.1
def ChanR.t (x : ChanR) : Int := x.2.2.1
def ChanR.z (x : ChanR) : Int := x.2.2.2.1
def ChanR.d (x : ChanR) : Int := x.2.2.2.2.1
def ChanR.y (x : ChanR) : Int := x.2.2.2.2.2.1
def queueB (c : ChanR) : Bool := decide (ChanR.k c = 0) && decide (ChanR.y c = 0) && (decide (ChanR.d c = 1) || decide (ChanR.d c = 2) || decide (ChanR.d c = 4) || decide (ChanR.d c = 8) || decide (ChanR.d c = 16))
def sampleB (c : ChanR) : Bool := decide (ChanR.k c = 1) && decide (ChanR.d c = 0) && decide (0 < ChanR.y c)
def chAt (l : List ChanR) (i : Nat) : ChanR := l.getD i (0, 0, 0, 0, 0, 0, ())
theorem chAt_some {l : List ChanR} {i : Nat} {x : ChanR} (h : l[i]? = some x) : chAt l i = x := by simp [chAt, List.getD_eq_getElem?_getD, h]
def chanOk (np : Int) (c : ChanR) (i : Nat) : Bool := decide (i ≤ 63) && (queueB c || sampleB c) && decide (ChanR.f c < np) && decide (ChanR.t c < np) && decide (ChanR.f c ≠ ChanR.t c) && decide (1 ≤ ChanR.z c) && decide (ChanR.z c ≤ 32)
def chanF (np : Int) (h : List ChanR) (i : Nat) : Option Flt := if chanOk np (chAt h i) i = true then none else some (50, (i : Int))
def SemR.i (x : SemR) : Int := x.1
def SemR.m (x : SemR) : Int := x.2.1
def semOk (x : SemR) : Bool := decide (SemR.m x ≠ 0) && decide (SemR.i x ≤ SemR.m x)
def sizesOk (x : PartR) : Bool := decide ((PartR.sems x).length ≤ 16) && decide (PartR.events x ≤ 16) && decide (1 ≤ (PartR.procs x).length) && decide ((PartR.procs x).length ≤ 16) && decide ((PartR.acts x).getD 0 0 ≤ 2) && decide ((PartR.acts x).getD 1 0 ≤ 2) && decide ((PartR.acts x).getD 2 0 ≤ 2)
def objectS (x : PartR) : Bool := sizesOk x && (PartR.sems x).all semOk && (PartR.procs x).all fun p => decide (p ≤ 63)
def ptAt (l : List PartR) (i : Nat) : PartR := l.getD i ([], 0, [], [], ())
theorem ptAt_some {l : List PartR} {i : Nat} {x : PartR} (h : l[i]? = some x) : ptAt l i = x := by simp [ptAt, List.getD_eq_getElem?_getD, h]
def partF (l : List PartR) (i : Nat) : Option Flt := if objectS (ptAt l i) = true then none else some (51, (i : Int))
def manyF (C : List (List Win)) (c : Nat) : Option Flt := if 256 < (C.getD c []).length then some (43, (c : Int)) else none

/-- The rules behind the sizes, in order. -/
def restF (P : Plan) : Option Flt :=
  orElseF (scan (manyF (Plan.cores P)) (Plan.cores P).length)
  (orElseF (scan (orderF (Plan.frame P) ((Plan.parts P).length : Int) (allS (Plan.cores P))) (allS (Plan.cores P)).length)
  (orElseF (scan (gangF (allS (Plan.cores P))) (allS (Plan.cores P)).length)
  (orElseF (scan (pairF ((Plan.parts P).length : Int) (allS (Plan.cores P)) (Plan.pairs P)) (Plan.pairs P).length)
  (orElseF (scan (chanF ((Plan.parts P).length : Int) (Plan.chans P)) (Plan.chans P).length)
  (scan (partF (Plan.parts P)) (Plan.parts P).length)))))
/-- The first rule that is broken, and the place; 0 and 0: none. -/
def checkS (P : Plan) : Flt :=
  if Plan.frame P = 0 then (40, 0)
  else if (Plan.cores P).length < 1 ∨ 8 < (Plan.cores P).length then (41, ((Plan.cores P).length : Int))
  else if (Plan.parts P).length < 1 ∨ 64 < (Plan.parts P).length then (42, ((Plan.parts P).length : Int))
  else (restF P).getD (0, 0)
end Go.Proofs.YtidjkhmlpgkaaaaDoor

namespace Go.Proofs.YtidjkhmlpgkaaaaDoor
set_option linter.unusedVariables false
set_option linter.unusedSimpArgs false

def wAt (L : List Win) (i : Nat) : Win := L.getD i (0, 0, 0, 0, ())
theorem wAt_some {L : List Win} {i : Nat} {x : Win} (h : L[i]? = some x) : wAt L i = x := by simp [wAt, List.getD_eq_getElem?_getD, h]
def atF (L : List Win) (t : Int) (i : Nat) : Option Nat := if hasS (wAt L i) t = true then some i else none
/-- The number of the window that has a tick. -/
def atS (L : List Win) (t : Int) : Option Nat := scan (atF L t) L.length
def servesS (L : List Win) (t : Int) : Int := match atS L t with
  | some i => Win.p (wAt L i)
  | none => -1
def turnS (C : List (List Win)) (t : Int) : List Int := C.map fun L => servesS L t
theorem scan_lt {α : Type} {f : Nat → Option α} {n : Nat} {x : α} (h : scan f n = some x) : ∃ k, k < n ∧ f k = some x := by
  induction n with
  | zero => cases h
  | succ n ih =>
    unfold scan at h
    split at h
    · rename_i y e
      obtain ⟨k, hk, hx⟩ := ih (by rw [e]; exact h)
      exact ⟨k, by omega, hx⟩
    · exact ⟨n, by omega, h⟩
theorem atS_some {L : List Win} {t : Int} {i : Nat} (h : atS L t = some i) : i < L.length ∧ hasS (wAt L i) t = true := by
  obtain ⟨k, hk, hx⟩ := scan_lt h
  unfold atF at hx
  split at hx
  · injection hx with e
    subst e
    exact ⟨hk, by assumption⟩
  · cases hx
theorem atS_none {L : List Win} {t : Int} (h : atS L t = none) (i : Nat) (hi : i < L.length) : hasS (wAt L i) t = false := by
  have := scan_none h i hi
  unfold atF at this
  split at this
  · cases this
  · rename_i q
    simpa using q
theorem serves_of {L : List Win} {t : Int} {i : Nat} (h : atS L t = some i) : servesS L t = Win.p (wAt L i) := by unfold servesS; rw [h]
theorem serves_no {L : List Win} {t : Int} (h : atS L t = none) : servesS L t = -1 := by unfold servesS; rw [h]

/-! ### The next beginning or end -/
def nearS (t n e : Int) : Int := if t < e then min n e else n
def edgesS (L : List Win) : List Int := L.flatMap fun x => [Win.s x, Win.s x + Win.l x]
def nearAll (t n : Int) (es : List Int) : Int := es.foldl (nearS t) n
theorem nearAll_append (t n : Int) (a b : List Int) : nearAll t n (a ++ b) = nearAll t (nearAll t n a) b := List.foldl_append ..
theorem nearS_le (t n e : Int) : nearS t n e ≤ n := by unfold nearS; split <;> omega
theorem nearAll_le (t n : Int) (es : List Int) : nearAll t n es ≤ n := by
  induction es generalizing n with
  | nil => exact Int.le_refl _
  | cons e es ih => exact Int.le_trans (ih _) (nearS_le _ _ _)
theorem nearAll_gt (t n : Int) (es : List Int) (h : t < n) : t < nearAll t n es := by
  induction es generalizing n with
  | nil => exact h
  | cons e es ih => refine ih _ ?_; unfold nearS; split <;> omega
theorem nearAll_mem (t n : Int) (es : List Int) : nearAll t n es = n ∨ (nearAll t n es ∈ es ∧ t < nearAll t n es) := by
  induction es generalizing n with
  | nil => exact .inl rfl
  | cons e es ih =>
    rcases ih (nearS t n e) with h | ⟨h, h'⟩
    · show nearAll t (nearS t n e) es = n ∨ _
      rw [h]
      unfold nearS at h ⊢
      by_cases q : t < e
      · rw [if_pos q] at h ⊢
        rcases Int.le_total n e with p | p
        · left; omega
        · right
          refine ⟨List.mem_cons.2 (.inl ?_), ?_⟩
          · show nearAll t (nearS t n e) es = e
            unfold nearS; rw [if_pos q, h]; omega
          · show t < nearAll t (nearS t n e) es
            unfold nearS; rw [if_pos q, h]; omega
      · rw [if_neg q]; exact .inl rfl
    · exact .inr ⟨List.mem_cons_of_mem _ h, h'⟩
theorem nearAll_least (t n : Int) (es : List Int) (e : Int) (he : e ∈ es) (h : t < e) : nearAll t n es ≤ e := by
  induction es generalizing n with
  | nil => cases he
  | cons x es ih =>
    rcases List.mem_cons.1 he with rfl | he
    · show nearAll t (nearS t n e) es ≤ e
      exact Int.le_trans (nearAll_le _ _ _) (by unfold nearS; rw [if_pos h]; omega)
    · exact ih _ he
/-- All edges of some cores. -/
def edgesOf (C : List (List Win)) (cs : List Int) : List Int := cs.flatMap fun c => edgesS (C.getD c.toNat [])
end Go.Proofs.YtidjkhmlpgkaaaaDoor

namespace Go.Proofs.YtidjkhmlpgkaaaaDoor
set_option linter.unusedVariables false
set_option linter.unusedSimpArgs false

def NZ (o : Option Flt) : Prop := ∀ x, o = some x → x.1 ≠ 0
theorem NZ.scan {f : Nat → Option Flt} (h : ∀ k, NZ (f k)) (n : Nat) : NZ (scan f n) := fun x hx => by
  obtain ⟨k, _, hk⟩ := scan_lt hx
  exact h k x hk
theorem NZ.or {a b : Option Flt} (h : NZ a) (k : NZ b) : NZ (orElseF a b) := fun x hx => by
  cases a with
  | none => exact k x hx
  | some y => exact h x hx
theorem nz_if {p : Prop} [Decidable p] {a b : Option Flt} (h : NZ a) (k : NZ b) : NZ (if p then a else b) := by split; exact h; exact k
theorem nz_some {n : Int} {a : Int} (h : n ≠ 0) : NZ (some (n, a)) := fun x hx => by injection hx with e; subst e; exact h
theorem nz_none : NZ none := fun x hx => by cases hx
theorem restF_nz (P : Plan) : NZ (restF P) := by
  refine NZ.or (NZ.scan (fun k => nz_if (nz_some (by decide)) nz_none) _) ?_
  refine NZ.or (NZ.scan (fun k => nz_if (nz_some (by decide)) (nz_if (nz_some (by decide)) nz_none)) _) ?_
  refine NZ.or (NZ.scan (fun k => NZ.or (NZ.scan (fun j => nz_if (nz_some (by decide)) nz_none) _) (NZ.scan (fun j => nz_if nz_none (nz_if (nz_some (by decide)) (nz_if (nz_some (by decide)) nz_none))) _)) _) ?_
  refine NZ.or (NZ.scan (fun k => nz_if (nz_some (by decide)) (NZ.or (NZ.scan (fun j => nz_if (nz_some (by decide)) nz_none) _) (NZ.scan (fun j => NZ.scan (fun i => nz_if (nz_some (by decide)) nz_none) _) _))) _) ?_
  refine NZ.or (NZ.scan (fun k => nz_if nz_none (nz_some (by decide))) _) ?_
  exact NZ.scan (fun k => nz_if nz_none (nz_some (by decide))) _
theorem check_none {P : Plan} (h : (checkS P).1 = 0) : Plan.frame P ≠ 0 ∧ 1 ≤ (Plan.cores P).length ∧ (Plan.cores P).length ≤ 8 ∧ 1 ≤ (Plan.parts P).length ∧ (Plan.parts P).length ≤ 64 ∧ restF P = none := by
  unfold checkS at h
  split at h
  · simp at h
  · rename_i h1
    split at h
    · simp at h
    · rename_i h2
      split at h
      · simp at h
      · rename_i h3
        refine ⟨h1, by omega, by omega, by omega, by omega, ?_⟩
        rcases hr : restF P with _ | x
        · rfl
        · rw [hr] at h
          exact absurd h (restF_nz P x hr)
theorem orElse_both {a b : Option Flt} (h : orElseF a b = none) : a = none ∧ b = none := by
  cases a with
  | none => exact ⟨rfl, h⟩
  | some x => cases h
/-- All rules, each by itself. -/
structure Rules (P : Plan) : Prop where
  frame : Plan.frame P ≠ 0
  c1 : 1 ≤ (Plan.cores P).length
  c8 : (Plan.cores P).length ≤ 8
  p1 : 1 ≤ (Plan.parts P).length
  p64 : (Plan.parts P).length ≤ 64
  many : ∀ c < (Plan.cores P).length, manyF (Plan.cores P) c = none
  order : ∀ i < (allS (Plan.cores P)).length, orderF (Plan.frame P) ((Plan.parts P).length : Int) (allS (Plan.cores P)) i = none
  twice : ∀ i < (allS (Plan.cores P)).length, ∀ k < i, twiceF (allS (Plan.cores P)) i k = none
  cross : ∀ i < (allS (Plan.cores P)).length, ∀ k < (allS (Plan.cores P)).length, crossF (allS (Plan.cores P)) i k = none
  pair : ∀ i < (Plan.pairs P).length, pairF ((Plan.parts P).length : Int) (allS (Plan.cores P)) (Plan.pairs P) i = none
  chan : ∀ i < (Plan.chans P).length, chanF ((Plan.parts P).length : Int) (Plan.chans P) i = none
  part : ∀ i < (Plan.parts P).length, partF (Plan.parts P) i = none
theorem rules_of {P : Plan} (h : (checkS P).1 = 0) : Rules P := by
  obtain ⟨h1, h2, h3, h4, h5, hr⟩ := check_none h
  rw [restF] at hr
  obtain ⟨a1, hr⟩ := orElse_both hr
  obtain ⟨a2, hr⟩ := orElse_both hr
  obtain ⟨a3, hr⟩ := orElse_both hr
  obtain ⟨a4, hr⟩ := orElse_both hr
  obtain ⟨a5, a6⟩ := orElse_both hr
  refine ⟨h1, h2, h3, h4, h5, fun c hc => scan_none a1 c hc, fun i hi => scan_none a2 i hi, fun i hi k hk => ?_, fun i hi k hk => ?_, fun i hi => scan_none a4 i hi, fun i hi => scan_none a5 i hi, fun i hi => scan_none a6 i hi⟩
  · exact scan_none (orElse_both (scan_none a3 i hi)).1 k hk
  · exact scan_none (orElse_both (scan_none a3 i hi)).2 k hk

/-! ### Places in a row -/
theorem allS_prefix (C : List (List Win)) (k m : Nat) (hk : k ≤ m) (hm : m ≤ C.length) : ∃ R, allS (C.take m) = allS (C.take k) ++ R := by
  induction m with
  | zero =>
    obtain rfl : k = 0 := by omega
    exact ⟨[], by simp⟩
  | succ m ih =>
    rcases Nat.lt_or_ge m k with h | h
    · obtain rfl : k = m + 1 := by omega
      exact ⟨[], by simp⟩
    · obtain ⟨R, e⟩ := ih h (by omega)
      exact ⟨R ++ placesS m C[m], by rw [allS_take_succ C m _ (List.getElem?_eq_getElem (by omega)), e, List.append_assoc]⟩
theorem allS_get {C : List (List Win)} {c i : Nat} {L : List Win} {x : Win} (hc : C[c]? = some L) (hi : L[i]? = some x) : (allS C)[(allS (C.take c)).length + i]? = some ((c : Int), 256 * (c : Int) + (i : Int), x) := by
  have hcl := (List.getElem?_eq_some_iff.1 hc).1
  have hil := (List.getElem?_eq_some_iff.1 hi).1
  obtain ⟨R, e⟩ := allS_prefix C (c + 1) C.length (by omega) (Nat.le_refl _)
  rw [List.take_length, allS_take_succ C c L hc] at e
  rw [e, List.append_assoc, List.getElem?_append_right (by omega), Nat.add_sub_cancel_left, List.getElem?_append_left (by rw [placesS_len]; exact hil)]
  simp [placesS, List.getElem?_mapIdx, hi]
end Go.Proofs.YtidjkhmlpgkaaaaDoor

namespace Go.Proofs.YtidjkhmlpgkaaaaDoor
set_option linter.unusedVariables false
set_option linter.unusedSimpArgs false

def hitF (n a : Int) : Option Flt := if n = 0 then none else some (n, a)
theorem hitF_zero (a : Int) : hitF 0 a = none := rfl
theorem hitF_pos {n : Int} (h : n ≠ 0) (a : Int) : hitF n a = some (n, a) := if_neg h
def noWin : Win := (0, 0, 0, 0, ())
def winAt (L : List Win) (i : Nat) : Win := L.getD i noWin
theorem winAt_some {L : List Win} {i : Nat} {x : Win} (h : L[i]? = some x) : winAt L i = x := by simp [winAt, List.getD_eq_getElem?_getD, h]
def coreAt (C : List (List Win)) (c : Nat) : List Win := C.getD c []
theorem coreAt_some {C : List (List Win)} {c : Nat} {L : List Win} (h : C[c]? = some L) : coreAt C c = L := by simp [coreAt, List.getD_eq_getElem?_getD, h]
/-- The first that is not 0 of n. -/
def firstN (f : Nat → Int) : Nat → Int
  | 0 => 0
  | n + 1 => if firstN f n = 0 then f n else firstN f n
theorem firstN_zero {f : Nat → Int} {n : Nat} (h : firstN f n = 0) (k : Nat) (hk : k < n) : f k = 0 := by
  induction n with
  | zero => omega
  | succ n ih =>
    unfold firstN at h
    split at h
    · rename_i e
      rcases Nat.lt_succ_iff_lt_or_eq.1 hk with q | rfl
      · exact ih e q
      · exact h
    · exact absurd h (by assumption)
theorem firstN_succ {f : Nat → Int} {n : Nat} (h : firstN f n = 0) : firstN f (n + 1) = f n := by rw [firstN, if_pos h]
theorem firstN_hit {f : Nat → Int} {n k : Nat} (h : firstN f k = 0) (hx : f k ≠ 0) (hk : k < n) : firstN f n = f k := by
  induction n with
  | zero => omega
  | succ n ih =>
    rcases Nat.lt_succ_iff_lt_or_eq.1 hk with q | rfl
    · have := ih q
      rw [firstN, if_neg (by rw [this]; exact hx), this]
    · exact firstN_succ h
theorem scan_hit (f : Nat → Int) (a : Int) (n : Nat) : scan (fun k => hitF (f k) a) n = hitF (firstN f n) a := by
  induction n with
  | zero => rfl
  | succ n ih =>
    by_cases h : firstN f n = 0
    · rw [scan_succ (by rw [ih, h]; rfl), firstN_succ h]
    · unfold scan
      rw [ih, hitF_pos h, firstN, if_neg h, hitF_pos h]
theorem scan_congr {α : Type} {f g : Nat → Option α} {n : Nat} (h : ∀ k, k < n → f k = g k) : scan f n = scan g n := by
  induction n with
  | zero => rfl
  | succ n ih => unfold scan; rw [ih (fun k hk => h k (by omega)), h n (by omega)]
theorem firstN_congr {f g : Nat → Int} {n : Nat} (h : ∀ k, k < n → f k = g k) : firstN f n = firstN g n := by
  induction n with
  | zero => rfl
  | succ n ih => unfold firstN; rw [ih (fun k hk => h k (by omega)), h n (by omega)]
theorem scan_step {α : Type} (f : Nat → Option α) (n : Nat) : scan f (n + 1) = match scan f n with | some x => some x | none => f n := rfl
theorem scan_add (f : Nat → Option Flt) (a b : Nat) : scan f (a + b) = orElseF (scan f a) (scan (fun i => f (a + i)) b) := by
  induction b with
  | zero =>
    show scan f a = orElseF (scan f a) none
    rcases scan f a with _ | x <;> rfl
  | succ b ih =>
    rw [← Nat.add_assoc, scan_step, ih, scan_step]
    rcases scan f a with _ | x <;> rfl
def rowF (f : Nat → Win → Int) (c : Nat) (L : List Win) : Option Flt := scan (fun i => hitF (f i (winAt L i)) (256 * (c : Int) + (i : Int))) L.length
/-- Every window is asked about, core by core: the first number that is not 0, and its place. -/
def eachF (f : Nat → Nat → Win → Int) (C : List (List Win)) : Option Flt := scan (fun c => rowF (f c) c (coreAt C c)) C.length
/-- Where a core's places begin. -/
def idx (C : List (List Win)) (c : Nat) : Nat := (allS (C.take c)).length
theorem idx_succ {C : List (List Win)} {c : Nat} (h : c < C.length) : idx C (c + 1) = idx C c + (coreAt C c).length := by
  have e := List.getElem?_eq_getElem h
  rw [idx, allS_take_succ C c _ e, List.length_append, placesS_len, coreAt_some e]
  rfl
theorem scan_flat (F : Nat → Option Flt) (C : List (List Win)) (k : Nat) (hk : k ≤ C.length) : scan F (idx C k) = scan (fun c => scan (fun i => F (idx C c + i)) (coreAt C c).length) k := by
  induction k with
  | zero => simp [idx, allS_nil, scan]
  | succ k ih =>
    rw [idx_succ (by omega), scan_add, ih (by omega)]
    rcases h : scan (fun c => scan (fun i => F (idx C c + i)) (coreAt C c).length) k with _ | x
    · rw [scan_succ h]; rfl
    · unfold scan; rw [h]; rfl
theorem idx_all (C : List (List Win)) : idx C C.length = (allS C).length := by rw [idx, List.take_length]
theorem plAt_idx {C : List (List Win)} {c i : Nat} {L : List Win} {x : Win} (hc : C[c]? = some L) (hi : L[i]? = some x) : plAt (allS C) (idx C c + i) = ((c : Int), 256 * (c : Int) + (i : Int), x) := plAt_some (allS_get hc hi)
theorem each_scan (F : Nat → Option Flt) (f : Nat → Nat → Win → Int) (C : List (List Win)) (h : ∀ c i L x, C[c]? = some L → L[i]? = some x → F (idx C c + i) = hitF (f c i x) (256 * (c : Int) + (i : Int))) : scan F (allS C).length = eachF f C := by
  rw [← idx_all, scan_flat F C C.length (Nat.le_refl _), eachF]
  refine scan_congr fun c hc => ?_
  have e := List.getElem?_eq_getElem hc
  rw [rowF]
  refine scan_congr fun i hi => ?_
  rw [coreAt_some e] at hi ⊢
  have e2 := List.getElem?_eq_getElem hi
  rw [winAt_some e2]
  exact h c i _ _ e e2
/-! ### Windows by themselves -/
def windowsN (fr np : Int) (C : List (List Win)) (c i : Nat) (x : Win) : Int :=
  if Win.l x = 0 ∨ (0 < i ∧ Win.s x < endS (winAt (coreAt C c) (i - 1))) ∨ fr < endS x then 44 else if np ≤ Win.p x then 45 else 0
theorem behind_idx {C : List (List Win)} {c i : Nat} {L : List Win} {x : Win} (hc : C[c]? = some L) (hi : L[i]? = some x) : behindS (allS C) (idx C c + i) = if 0 < i then endS (winAt L (i - 1)) else 0 := by
  have hcl := (List.getElem?_eq_some_iff.1 hc).1
  have hil := (List.getElem?_eq_some_iff.1 hi).1
  rw [behindS, plAt_idx hc hi]
  by_cases h : 0 < i
  · have e := List.getElem?_eq_getElem (show i - 1 < L.length by omega)
    rw [show idx C c + i - 1 = idx C c + (i - 1) by omega, plAt_idx hc e, if_pos ⟨by omega, rfl⟩, if_pos h, winAt_some e]
    rfl
  · obtain rfl : i = 0 := by omega
    rw [if_neg (by omega : ¬ (0 < 0))]
    split
    · rename_i q
      exfalso
      obtain ⟨q1, q2⟩ := q
      -- the place ahead lies on an earlier core
      have : ∀ k, k ≤ C.length → ∀ j, j < idx C k → Place.c (plAt (allS C) j) < (k : Int) := by
        intro k
        induction k with
        | zero => intro _ j hj; simp [idx, allS_nil] at hj
        | succ k ih =>
          intro hk j hj
          rw [idx_succ (by omega)] at hj
          rcases Nat.lt_or_ge j (idx C k) with h2 | h2
          · have := ih (by omega) j h2; omega
          · have ek := List.getElem?_eq_getElem (show k < C.length by omega)
            rw [coreAt_some ek] at hj
            have ei := List.getElem?_eq_getElem (show j - idx C k < C[k].length by omega)
            have := plAt_idx ek ei
            rw [show idx C k + (j - idx C k) = j by omega] at this
            rw [this]
            simp only [Place.c]
            omega
      have h3 := this c (by omega) (idx C c + 0 - 1) (by omega)
      rw [q2] at h3
      simp [Place.c] at h3
    · rfl
theorem windows_scan (fr np : Int) (C : List (List Win)) (hs : ∀ L ∈ C, ∀ x ∈ L, 0 ≤ Win.s x) : scan (orderF fr np (allS C)) (allS C).length = eachF (windowsN fr np C) C := by
  refine each_scan _ _ C fun c i L x hc hi => ?_
  have h0 := hs L (List.mem_of_getElem? hc) x (List.mem_of_getElem? hi)
  have e : orderF fr np (allS C) (idx C c + i) = if Win.l x = 0 ∨ Win.s x < (if 0 < i then endS (winAt L (i - 1)) else 0) ∨ fr < endS x then some (44, 256 * (c : Int) + (i : Int)) else if np ≤ Win.p x then some (45, 256 * (c : Int) + (i : Int)) else none := by
    unfold orderF
    rw [behind_idx hc hi, plAt_idx hc hi]
    rfl
  rw [e, windowsN, coreAt_some hc]
  have key : (Win.l x = 0 ∨ Win.s x < (if 0 < i then endS (winAt L (i - 1)) else 0) ∨ fr < endS x) ↔ (Win.l x = 0 ∨ (0 < i ∧ Win.s x < endS (winAt L (i - 1))) ∨ fr < endS x) := by
    by_cases h : 0 < i
    · rw [if_pos h]
      simp [h]
    · rw [if_neg h]
      have : ¬ Win.s x < 0 := by omega
      simp [h, this]
  by_cases h1 : Win.l x = 0 ∨ (0 < i ∧ Win.s x < endS (winAt L (i - 1))) ∨ fr < endS x
  · rw [if_pos (key.2 h1), if_pos h1, hitF_pos (by decide)]
  · have h2 := fun q => h1 (key.1 q)
    rw [if_neg h2, if_neg h1]
    by_cases h3 : np ≤ Win.p x
    · rw [if_pos h3, if_pos h3]; rfl
    · rw [if_neg h3, if_neg h3]; rfl
/-! ### Windows of two cores -/
def twiceB (L : List Win) (g : Int) : Bool := L.any fun v => decide (Win.g v = g) && decide (g ≠ 0)
def crossN (v w : Win) : Int := if togetherS v w = true then 0 else if Win.g v ≠ 0 ∧ Win.g v = Win.g w then 46 else if Win.p v = Win.p w ∧ overlapS v w = true then 47 else 0
def rowN (L : List Win) (w : Win) : Int := firstN (fun j => crossN (winAt L j) w) L.length
def laterN (C : List (List Win)) (c : Nat) (w : Win) : Int := firstN (fun k => rowN (coreAt C (c + 1 + k)) w) (C.length - (c + 1))
def pairsN (C : List (List Win)) (c i : Nat) (x : Win) : Int := if twiceB ((coreAt C c).take i) (Win.g x) = true then 46 else laterN C c x
theorem idx_mono (C : List (List Win)) {a b : Nat} (h : a ≤ b) (hb : b ≤ C.length) : idx C a ≤ idx C b := by
  obtain ⟨R, e⟩ := allS_prefix C a b h hb
  rw [idx, idx, e, List.length_append]
  omega
theorem idx_le {C : List (List Win)} {c i : Nat} {L : List Win} {x : Win} (hc : C[c]? = some L) (hi : L[i]? = some x) : idx C c + i < idx C (c + 1) := by
  have hcl := (List.getElem?_eq_some_iff.1 hc).1
  have hil := (List.getElem?_eq_some_iff.1 hi).1
  rw [idx_succ hcl, coreAt_some hc]
  omega
theorem place_of (C : List (List Win)) (j : Nat) (h : j < (allS C).length) : ∃ c i L x, C[c]? = some L ∧ L[i]? = some x ∧ j = idx C c + i := by
  have : ∀ k, k ≤ C.length → j < idx C k → ∃ c i L x, C[c]? = some L ∧ L[i]? = some x ∧ j = idx C c + i := by
    intro k
    induction k with
    | zero => intro _ hj; simp [idx, allS_nil] at hj
    | succ k ih =>
      intro hk hj
      rcases Nat.lt_or_ge j (idx C k) with h2 | h2
      · exact ih (by omega) h2
      · rw [idx_succ (by omega)] at hj
        have ek := List.getElem?_eq_getElem (show k < C.length by omega)
        rw [coreAt_some ek] at hj
        exact ⟨k, j - idx C k, _, _, ek, List.getElem?_eq_getElem (show j - idx C k < C[k].length by omega), by omega⟩
  exact this C.length (Nat.le_refl _) (by rw [idx_all]; exact h)
theorem twice_scan {C : List (List Win)} {c i : Nat} {L : List Win} {x : Win} (hc : C[c]? = some L) (hi : L[i]? = some x) : scan (twiceF (allS C) (idx C c + i)) (idx C c + i) = if twiceB (L.take i) (Win.g x) = true then some (46, 256 * (c : Int) + (i : Int)) else none := by
  have hcl := (List.getElem?_eq_some_iff.1 hc).1
  have hil := (List.getElem?_eq_some_iff.1 hi).1
  have val : ∀ d j M y, C[d]? = some M → M[j]? = some y → twiceF (allS C) (idx C c + i) (idx C d + j) = if d = c ∧ Win.g y = Win.g x ∧ Win.g x ≠ 0 then some (46, 256 * (c : Int) + (i : Int)) else none := by
    intro d j M y hd hj
    have e : twiceF (allS C) (idx C c + i) (idx C d + j) = if (d : Int) = (c : Int) ∧ Win.g y = Win.g x ∧ Win.g x ≠ 0 then some (46, 256 * (c : Int) + (i : Int)) else none := by
      unfold twiceF
      rw [plAt_idx hc hi, plAt_idx hd hj]
      rfl
    rw [e]
    by_cases q : d = c
    · subst q
      simp
    · rw [if_neg (fun h => q (by have := h.1; omega)), if_neg (fun h => q h.1)]
  by_cases h : twiceB (L.take i) (Win.g x) = true
  · rw [if_pos h]
    obtain ⟨y, hy, hq⟩ := List.any_eq_true.1 h
    obtain ⟨j, hj, rfl⟩ := List.getElem_of_mem hy
    rw [List.length_take] at hj
    rw [List.getElem_take] at hq
    simp only [Bool.and_eq_true, decide_eq_true_eq] at hq
    rcases hs : scan (twiceF (allS C) (idx C c + i)) (idx C c + i) with _ | z
    · have := scan_none hs (idx C c + j) (by omega)
      rw [val c j L _ hc (List.getElem?_eq_getElem (by omega)), if_pos ⟨rfl, hq⟩] at this
      cases this
    · obtain ⟨k, hk, he⟩ := scan_lt hs
      have hkl : k < (allS C).length := by
        have := idx_le hc hi
        have := idx_mono C (a := c + 1) (b := C.length) (by omega) (Nat.le_refl _)
        rw [idx_all] at this
        omega
      obtain ⟨d, j', M, y, hd, hj', rfl⟩ := place_of C k hkl
      rw [val d j' M y hd hj'] at he
      split at he
      · exact he.symm
      · cases he
  · rw [if_neg h]
    refine scan_none_of fun k hk => ?_
    have hkl : k < (allS C).length := by
      have := idx_le hc hi
      have := idx_mono C (a := c + 1) (b := C.length) (by omega) (Nat.le_refl _)
      rw [idx_all] at this
      omega
    obtain ⟨d, j, M, y, hd, hj, rfl⟩ := place_of C k hkl
    rw [val d j M y hd hj, if_neg]
    rintro ⟨rfl, q1, q2⟩
    rw [hc] at hd
    obtain rfl := Option.some.inj hd
    refine h (List.any_eq_true.2 ⟨y, ?_, by simp [q1, q2]⟩)
    have hjl := (List.getElem?_eq_some_iff.1 hj).1
    have : (L.take i)[j]? = some y := by rw [List.getElem?_take_of_lt (by omega)]; exact hj
    exact List.mem_of_getElem? this
theorem cross_scan {C : List (List Win)} {c i : Nat} {L : List Win} {x : Win} (hc : C[c]? = some L) (hi : L[i]? = some x) : scan (crossF (allS C) (idx C c + i)) (allS C).length = hitF (laterN C c x) (256 * (c : Int) + (i : Int)) := by
  have hcl := (List.getElem?_eq_some_iff.1 hc).1
  have hil := (List.getElem?_eq_some_iff.1 hi).1
  have val : ∀ d j M y, C[d]? = some M → M[j]? = some y → crossF (allS C) (idx C c + i) (idx C d + j) = if d ≤ c then none else hitF (crossN y x) (256 * (c : Int) + (i : Int)) := by
    intro d j M y hd hj
    have e : crossF (allS C) (idx C c + i) (idx C d + j) = if idx C d + j ≤ idx C c + i ∨ (d : Int) = (c : Int) ∨ togetherS y x = true then none else if Win.g y = Win.g x ∧ Win.g x ≠ 0 then some (46, 256 * (c : Int) + (i : Int)) else if Win.p y = Win.p x ∧ overlapS y x = true then some (47, 256 * (c : Int) + (i : Int)) else none := by
      unfold crossF
      rw [plAt_idx hc hi, plAt_idx hd hj]
      rfl
    rw [e]
    by_cases h : d ≤ c
    · rw [if_pos h, if_pos]
      rcases Nat.lt_or_ge d c with q | q
      · left
        have h1 := idx_le hd hj
        have h2 := idx_mono C (a := d + 1) (b := c) (by omega) (by omega)
        omega
      · exact .inr (.inl (by omega))
    · rw [if_neg h, crossN]
      have h1 := idx_le hc hi
      have h2 := idx_mono C (a := c + 1) (b := d) (by omega) (by have := (List.getElem?_eq_some_iff.1 hd).1; omega)
      by_cases ht : togetherS y x = true
      · rw [if_pos (.inr (.inr ht)), if_pos ht]; rfl
      · rw [if_neg (by rintro (q | q | q); omega; omega; exact ht q), if_neg ht]
        by_cases hg : Win.g y = Win.g x ∧ Win.g x ≠ 0
        · rw [if_pos hg, if_pos ⟨by rw [hg.1]; exact hg.2, hg.1⟩]; rfl
        · have hg2 : ¬ (Win.g y ≠ 0 ∧ Win.g y = Win.g x) := fun q => hg ⟨q.2, by rw [← q.2]; exact q.1⟩
          rw [if_neg hg, if_neg hg2]
          by_cases h3 : Win.p y = Win.p x ∧ overlapS y x = true
          · rw [if_pos h3, if_pos h3]; rfl
          · rw [if_neg h3, if_neg h3]; rfl
  rw [← idx_all, scan_flat _ C C.length (Nat.le_refl _), laterN, ← scan_hit]
  have e : C.length = (c + 1) + (C.length - (c + 1)) := by omega
  have inner : ∀ d, d < C.length → scan (fun j => crossF (allS C) (idx C c + i) (idx C d + j)) (coreAt C d).length = if d ≤ c then none else hitF (rowN (coreAt C d) x) (256 * (c : Int) + (i : Int)) := by
    intro d hd
    have ed := List.getElem?_eq_getElem hd
    rw [coreAt_some ed]
    by_cases h : d ≤ c
    · rw [if_pos h]
      exact scan_none_of fun j hj => by rw [val d j _ _ ed (List.getElem?_eq_getElem hj), if_pos h]
    · rw [if_neg h, rowN, ← scan_hit]
      exact scan_congr fun j hj => by rw [val d j _ _ ed (List.getElem?_eq_getElem hj), if_neg h, winAt_some (List.getElem?_eq_getElem hj)]
  rw [scan_congr inner]
  conv => lhs; rw [e]
  rw [scan_add, scan_none_of (fun k hk => if_pos (by omega))]
  show scan _ _ = _
  exact scan_congr fun k hk => by rw [if_neg (by omega)]
theorem pairs_scan (C : List (List Win)) : scan (gangF (allS C)) (allS C).length = eachF (pairsN C) C := by
  refine each_scan _ _ C fun c i L x hc hi => ?_
  rw [gangF, twice_scan hc hi, cross_scan hc hi, pairsN, coreAt_some hc]
  by_cases h : twiceB (L.take i) (Win.g x) = true
  · rw [if_pos h, if_pos h]; rfl
  · rw [if_neg h, if_neg h]; rfl
end Go.Proofs.YtidjkhmlpgkaaaaDoor

namespace Go.Proofs.YtidjkhmlpgkaaaaDoor
set_option linter.unusedVariables false
set_option linter.unusedSimpArgs false

theorem scan_some_iff {α : Type} (f : Nat → Option α) (n : Nat) : (scan f n).isSome = true ↔ ∃ k, k < n ∧ (f k).isSome = true := by
  constructor
  · intro h
    obtain ⟨x, hx⟩ := Option.isSome_iff_exists.1 h
    obtain ⟨k, hk, e⟩ := scan_lt hx
    exact ⟨k, hk, by rw [e]; rfl⟩
  · rintro ⟨k, hk, h⟩
    rcases hs : scan f n with _ | x
    · rw [scan_none hs k hk] at h; cases h
    · rfl
theorem hitF_isSome (n a : Int) : (hitF n a).isSome = true ↔ n ≠ 0 := by
  by_cases h : n = 0
  · simp [hitF, h]
  · rw [hitF_pos h]; simp [h]
theorem each_some_iff (f : Nat → Nat → Win → Int) (C : List (List Win)) : (eachF f C).isSome = true ↔ ∃ (c i : Nat) (L : List Win) (x : Win), C[c]? = some L ∧ L[i]? = some x ∧ f c i x ≠ 0 := by
  rw [eachF, scan_some_iff]
  constructor
  · rintro ⟨c, hc, h⟩
    have e := List.getElem?_eq_getElem hc
    rw [rowF, scan_some_iff, coreAt_some e] at h
    obtain ⟨i, hi, h⟩ := h
    have e2 := List.getElem?_eq_getElem hi
    rw [hitF_isSome, winAt_some e2] at h
    exact ⟨c, i, _, _, e, e2, h⟩
  · rintro ⟨c, i, L, x, hc, hi, h⟩
    refine ⟨c, (List.getElem?_eq_some_iff.1 hc).1, ?_⟩
    rw [rowF, scan_some_iff, coreAt_some hc]
    exact ⟨i, (List.getElem?_eq_some_iff.1 hi).1, by rw [hitF_isSome, winAt_some hi]; exact h⟩
theorem each_val {f : Nat → Nat → Win → Int} {C : List (List Win)} {n a : Int} (h : eachF f C = some (n, a)) : ∃ c i x, f c i x = n ∧ n ≠ 0 := by
  obtain ⟨c, _, h⟩ := scan_lt h
  obtain ⟨i, _, h⟩ := scan_lt (show scan _ _ = _ from h)
  unfold hitF at h
  split at h
  · cases h
  · rename_i q
    injection h with e
    injection e with e1 e2
    exact ⟨c, i, _, e1, by rw [← e1]; exact q⟩
/-! ### Clashes -/
def meetN (b : Int) (v w : Win) : Int := if Win.p w = b ∧ overlapS v w = true then 49 else 0
def meetQ (C : List (List Win)) (b : Int) (v : Win) : Option Flt := eachF (fun _ _ w => meetN b v w) C
def clashN (C : List (List Win)) (x : PairR) (v : Win) : Int := if Win.p v = PairR.a x ∧ (meetQ C (PairR.b x) v).isSome = true then 49 else 0
def clashQ (C : List (List Win)) (x : PairR) : Option Flt := eachF (fun _ _ v => clashN C x v) C
theorem meet_val {C : List (List Win)} {b : Int} {v : Win} {n a : Int} (h : meetQ C b v = some (n, a)) : n = 49 := by
  obtain ⟨c, i, x, h1, h2⟩ := each_val h
  unfold meetN at h1
  split at h1
  · exact h1.symm
  · exact absurd h1.symm h2
theorem clash_val {C : List (List Win)} {x : PairR} {n a : Int} (h : clashQ C x = some (n, a)) : n = 49 := by
  obtain ⟨c, i, y, h1, h2⟩ := each_val h
  unfold clashN at h1
  split at h1
  · exact h1.symm
  · exact absurd h1.symm h2
theorem clash_iff (C : List (List Win)) (x : PairR) : (clashQ C x).isSome = true ↔ ∃ v w : Win, (∃ (c i : Nat) (L : List Win), C[c]? = some L ∧ L[i]? = some v) ∧ (∃ (c i : Nat) (L : List Win), C[c]? = some L ∧ L[i]? = some w) ∧ Win.p v = PairR.a x ∧ Win.p w = PairR.b x ∧ overlapS v w = true := by
  rw [clashQ, each_some_iff]
  constructor
  · rintro ⟨c, i, L, v, hc, hi, h⟩
    unfold clashN at h
    split at h
    · rename_i q
      obtain ⟨q1, q2⟩ := q
      rw [meetQ, each_some_iff] at q2
      obtain ⟨d, j, M, w, hd, hj, h⟩ := q2
      unfold meetN at h
      split at h
      · rename_i q
        exact ⟨v, w, ⟨c, i, L, hc, hi⟩, ⟨d, j, M, hd, hj⟩, q1, q.1, q.2⟩
      · exact absurd rfl h
    · exact absurd rfl h
  · rintro ⟨v, w, ⟨c, i, L, hc, hi⟩, ⟨d, j, M, hd, hj⟩, h1, h2, h3⟩
    refine ⟨c, i, L, v, hc, hi, ?_⟩
    have hm : (meetQ C (PairR.b x) v).isSome = true := by
      rw [meetQ, each_some_iff]
      exact ⟨d, j, M, w, hd, hj, by rw [meetN, if_pos ⟨h2, h3⟩]; decide⟩
    rw [clashN, if_pos ⟨h1, hm⟩]
    decide
theorem clash_scan (C : List (List Win)) (x : PairR) (i : Nat) : scan (fun a => scan (clashF (allS C) x i a) (allS C).length) (allS C).length = if (clashQ C x).isSome = true then some (49, (i : Int)) else none := by
  have val : ∀ (a b c j : Nat) (L : List Win) (v : Win) (d k : Nat) (M : List Win) (w : Win), C[c]? = some L → L[j]? = some v → C[d]? = some M → M[k]? = some w → a = idx C c + j → b = idx C d + k → clashF (allS C) x i a b = if Win.p v = PairR.a x ∧ Win.p w = PairR.b x ∧ overlapS v w = true then some (49, (i : Int)) else none := by
    rintro a b c j L v d k M w hc hj hd hk rfl rfl
    unfold clashF
    rw [plAt_idx hc hj, plAt_idx hd hk]
    rfl
  by_cases h : (clashQ C x).isSome = true
  · rw [if_pos h]
    obtain ⟨v, w, ⟨c, j, L, hc, hj⟩, ⟨d, k, M, hd, hk⟩, h1, h2, h3⟩ := (clash_iff C x).1 h
    have lt : ∀ {c j : Nat} {L : List Win} {v : Win}, C[c]? = some L → L[j]? = some v → idx C c + j < (allS C).length := by
      intro c j L v hc hj
      have h1 := idx_le hc hj
      have h2 := idx_mono C (a := c + 1) (b := C.length) (by have := (List.getElem?_eq_some_iff.1 hc).1; omega) (Nat.le_refl _)
      rw [idx_all] at h2
      omega
    rcases hs : scan (fun a => scan (clashF (allS C) x i a) (allS C).length) (allS C).length with _ | z
    · have e1 := scan_none hs (idx C c + j) (lt hc hj)
      have e2 := scan_none e1 (idx C d + k) (lt hd hk)
      rw [val _ _ c j L v d k M w hc hj hd hk rfl rfl, if_pos ⟨h1, h2, h3⟩] at e2
      cases e2
    · obtain ⟨a, ha, e⟩ := scan_lt hs
      obtain ⟨b, hb, e⟩ := scan_lt (show scan _ _ = _ from e)
      unfold clashF at e
      split at e
      · exact e.symm
      · cases e
  · rw [if_neg h]
    refine scan_none_of fun a ha => scan_none_of fun b hb => ?_
    obtain ⟨c, j, L, v, hc, hj, rfl⟩ := place_of C a ha
    obtain ⟨d, k, M, w, hd, hk, rfl⟩ := place_of C b hb
    rw [val _ _ c j L v d k M w hc hj hd hk rfl rfl, if_neg]
    rintro ⟨h1, h2, h3⟩
    exact h ((clash_iff C x).2 ⟨v, w, ⟨c, j, L, hc, hj⟩, ⟨d, k, M, hd, hk⟩, h1, h2, h3⟩)
def dupB (x : PairR) (L : List PairR) : Bool := L.any fun y => decide (PairR.a y = PairR.a x) && decide (PairR.b y = PairR.b x)
theorem dupB_snoc {L : List PairR} {j : Nat} {y : PairR} (h : L[j]? = some y) (x : PairR) : dupB x (L.take (j + 1)) = (dupB x (L.take j) || (decide (PairR.a y = PairR.a x) && decide (PairR.b y = PairR.b x))) := by
  rw [take_snoc h, dupB, dupB, List.any_append]
  simp
/-- Is a pair bad? -/
def badB (np : Int) (Q : List PairR) (i : Nat) (x : PairR) : Bool := decide (np ≤ PairR.b x) || decide (PairR.b x ≤ PairR.a x) || dupB x (Q.take i)
theorem pair_eq (np : Int) (C : List (List Win)) (Q : List PairR) (i : Nat) (x : PairR) (hx : Q[i]? = some x) : pairF np (allS C) Q i = if badB np Q i x = true then some (48, (i : Int)) else if (clashQ C x).isSome = true then some (49, (i : Int)) else none := by
  have hil := (List.getElem?_eq_some_iff.1 hx).1
  have hs : scan (samePairF Q i) i = if dupB x (Q.take i) = true then some (48, (i : Int)) else none := by
    have val : ∀ (k : Nat) (y : PairR), Q[k]? = some y → samePairF Q i k = if PairR.a y = PairR.a x ∧ PairR.b y = PairR.b x then some (48, (i : Int)) else none := by
      intro k y hy
      unfold samePairF
      rw [prAt_some hx, prAt_some hy]
    by_cases h : dupB x (Q.take i) = true
    · rw [if_pos h]
      obtain ⟨y, hy, hq⟩ := List.any_eq_true.1 h
      obtain ⟨k, hk, rfl⟩ := List.getElem_of_mem hy
      rw [List.length_take] at hk
      rw [List.getElem_take] at hq
      simp only [Bool.and_eq_true, decide_eq_true_eq] at hq
      rcases hs : scan (samePairF Q i) i with _ | z
      · have := scan_none hs k (by omega)
        rw [val k _ (List.getElem?_eq_getElem (by omega)), if_pos hq] at this
        cases this
      · obtain ⟨j, hj, e⟩ := scan_lt hs
        unfold samePairF at e
        split at e
        · exact e.symm
        · cases e
    · rw [if_neg h]
      refine scan_none_of fun k hk => ?_
      have e := List.getElem?_eq_getElem (show k < Q.length by omega)
      rw [val k _ e, if_neg]
      rintro ⟨q1, q2⟩
      refine h (List.any_eq_true.2 ⟨Q[k]'(by omega), ?_, by simp [q1, q2]⟩)
      have : (Q.take i)[k]? = some Q[k] := by rw [List.getElem?_take_of_lt hk]; exact e
      exact List.mem_of_getElem? this
  have e : pairF np (allS C) Q i = if np ≤ PairR.a x ∨ np ≤ PairR.b x ∨ PairR.b x ≤ PairR.a x then some (48, (i : Int)) else orElseF (if dupB x (Q.take i) = true then some (48, (i : Int)) else none) (if (clashQ C x).isSome = true then some (49, (i : Int)) else none) := by
    unfold pairF
    rw [prAt_some hx, hs, clash_scan]
  rw [e]
  by_cases h1 : np ≤ PairR.b x ∨ PairR.b x ≤ PairR.a x
  · have hb : badB np Q i x = true := by
      rcases h1 with q | q <;> simp [badB, q]
    rw [if_pos (.inr h1), if_pos hb]
  · have h2 : ¬ (np ≤ PairR.a x ∨ np ≤ PairR.b x ∨ PairR.b x ≤ PairR.a x) := by omega
    rw [if_neg h2]
    have n1 : ¬ np ≤ PairR.b x := by omega
    have n2 : ¬ PairR.b x ≤ PairR.a x := by omega
    by_cases h3 : dupB x (Q.take i) = true
    · have hb : badB np Q i x = true := by simp [badB, h3]
      rw [if_pos h3, if_pos hb]; rfl
    · have hb : ¬ badB np Q i x = true := by simp [badB, n1, n2, h3]
      rw [if_neg h3, if_neg hb]; rfl
/-! ### All rules in order -/
/-- The first broken rule, or none. -/
def checkO (P : Plan) : Option Flt :=
  if Plan.frame P = 0 then some (40, 0)
  else if (Plan.cores P).length < 1 ∨ 8 < (Plan.cores P).length then some (41, ((Plan.cores P).length : Int))
  else if (Plan.parts P).length < 1 ∨ 64 < (Plan.parts P).length then some (42, ((Plan.parts P).length : Int))
  else restF P
theorem check_of (P : Plan) : checkS P = (checkO P).getD (0, 0) := by
  unfold checkS checkO
  split
  · rfl
  · split
    · rfl
    · split <;> rfl
theorem checkO_nz (P : Plan) : NZ (checkO P) := nz_if (nz_some (by decide)) (nz_if (nz_some (by decide)) (nz_if (nz_some (by decide)) (restF_nz P)))
theorem checkO_none {P : Plan} : checkO P = none ↔ (checkS P).1 = 0 := by
  rw [check_of]
  rcases h : checkO P with _ | x
  · simp
  · simp only [Option.getD_some]
    constructor
    · intro q; cases q
    · intro q; exact absurd q (checkO_nz P x h)
def sizesO (P : Plan) : Option Flt :=
  if Plan.frame P = 0 then some (40, 0)
  else if (Plan.cores P).length < 1 ∨ 8 < (Plan.cores P).length then some (41, ((Plan.cores P).length : Int))
  else if (Plan.parts P).length < 1 ∨ 64 < (Plan.parts P).length then some (42, ((Plan.parts P).length : Int))
  else scan (manyF (Plan.cores P)) (Plan.cores P).length
theorem sizes_none {P : Plan} (h : sizesO P = none) : (Plan.cores P).length ≤ 8 ∧ (Plan.parts P).length ≤ 64 ∧ ∀ L ∈ Plan.cores P, L.length ≤ 256 := by
  unfold sizesO at h
  split at h
  · cases h
  · split at h
    · cases h
    · split at h
      · cases h
      · refine ⟨by omega, by omega, fun L hL => ?_⟩
        obtain ⟨c, hc, rfl⟩ := List.getElem_of_mem hL
        have := scan_none h c hc
        unfold manyF at this
        split at this
        · cases this
        · rename_i q
          rw [List.getD_eq_getElem?_getD, List.getElem?_eq_getElem hc] at q
          simp only [Option.getD_some] at q
          omega
theorem check_split (P : Plan) (hs : ∀ L ∈ Plan.cores P, ∀ x ∈ L, 0 ≤ Win.s x) : checkO P = orElseF (sizesO P) (orElseF (eachF (windowsN (Plan.frame P) ((Plan.parts P).length : Int) (Plan.cores P)) (Plan.cores P)) (orElseF (eachF (pairsN (Plan.cores P)) (Plan.cores P)) (orElseF (scan (pairF ((Plan.parts P).length : Int) (allS (Plan.cores P)) (Plan.pairs P)) (Plan.pairs P).length) (orElseF (scan (chanF ((Plan.parts P).length : Int) (Plan.chans P)) (Plan.chans P).length) (scan (partF (Plan.parts P)) (Plan.parts P).length))))) := by
  unfold checkO sizesO
  split
  · rfl
  · split
    · rfl
    · split
      · rfl
      · rw [restF, windows_scan _ _ _ hs, pairs_scan]
end Go.Proofs.YtidjkhmlpgkaaaaDoor
