/- The reference's Is and Excludes. The shares of a plan that is taken. Plain: no function of the program is named here. Whom the cores of a taken plan serve at a tick. Plain: no function of the program is named here. Layer 24's laws: WindowApart: what is asked behind each act. Layer 24's laws: WindowApart, whole. -/
import Derived.Test.YtidjkhmlpgkaaaaDoorMgB
import Derived.Deep.LoopGhost
import Derived.Test.YtidjkhmlpgkaaaaDoorMgP
import Derived.Test.YtidjkhmlpgkaaaaDoorMgLI
namespace Go.Proofs.YtidjkhmlpgkaaaaDoor
open Go.RowKit
set_option linter.unusedVariables false
set_option linter.unusedSimpArgs false
def inB (n : Nat) (p : Int) : Bool := decide (0 ≤ p) && decide (p < (n : Int))
theorem ris_any (w : World) (v : Value) (P : Plan) (p : Int) (hv : PlanV w v P) :
    Calls Tryd.prog 35 #[v, .int .i64 p] w fun e w' => e = .returned (.bool (inB (Plan.parts P).length p)) ∧ Below w.heap.size w w' := by
  obtain ⟨a0, c0, a1, c1, a2, c2, a3, c3, rfl, hp, hlen⟩ := hv.open_
  clear hp hv
  unfold inB
  by_cases h1 : 0 ≤ p
  · by_cases h2 : p < ((Plan.parts P).length : Int)
    all_goals
      go_enter Tryd.func35, Tryd.ntmps35
      go_wp2_with fail
      go_ret
      exact ⟨ret_bool (by simp; omega), bel_one _ _⟩
  · go_enter Tryd.func35, Tryd.ntmps35
    go_wp2_with fail
    go_ret
    exact ⟨ret_bool (by simp; omega), bel_one _ _⟩
/-- Does a pair name two partitions? -/
def pairB (a b : Int) (x : PairR) : Bool := (decide (PairR.a x = a) && decide (PairR.b x = b)) || (decide (PairR.a x = b) && decide (PairR.b x = a))
def exclB (P : Plan) (a b : Int) : Bool := (inB (Plan.parts P).length a && inB (Plan.parts P).length b) && (Plan.pairs P).any (pairB a b)
set_option maxHeartbeats 3200000 in
theorem rexcl_any (w : World) (v : Value) (P : Plan) (a b : Int) (hv : PlanV w v P) :
    Calls Tryd.prog 17 #[v, .int .i64 a, .int .i64 b] w fun e w' => e = .returned (.bool (exclB P a b)) ∧ Below w.heap.size w w' := by
  have HV := Aside.mk hv
  obtain ⟨a0, c0, a1, c1, a2, c2, a3, c3, rfl, hp, hlen⟩ := hv.open_
  have HQ := Aside.mk hp.pairs
  obtain ⟨i0, i1⟩ := hp.frame
  have hlenQ : (Plan.pairs P).length ≤ 9223372036854775807 := (Elems.len hp.pairs).choose_spec.choose_spec.2
  obtain ⟨b1, HB1⟩ : ∃ b1, Aside (inB (Plan.parts P).length a = b1) := ⟨_, ⟨rfl⟩⟩
  obtain ⟨b2, HB2⟩ : ∃ b1, Aside (inB (Plan.parts P).length b = b1) := ⟨_, ⟨rfl⟩⟩
  have HF : Aside (exclB P a b = ((b1 && b2) && (Plan.pairs P).any (pairB a b))) := ⟨by rw [exclB, HB1.out, HB2.out]⟩
  rw [HF.out]
  have K1 : Aside (∀ W, Below w.heap.size w W → Calls Tryd.prog 35 #[.agg #[.int .u16 (Plan.frame P), .slice a0 (Plan.cores P).length c0, .slice a1 (Plan.parts P).length c1, .slice a2 (Plan.chans P).length c2, .slice a3 (Plan.pairs P).length c3], .int .i64 a] W fun e w' => e = .returned (.bool b1) ∧ Below W.heap.size W w') := ⟨fun W h => by
    rw [← HB1.out]; exact ris_any W _ P a (HV.out.below h)⟩
  have K2 : Aside (∀ W, Below w.heap.size w W → Calls Tryd.prog 35 #[.agg #[.int .u16 (Plan.frame P), .slice a0 (Plan.cores P).length c0, .slice a1 (Plan.parts P).length c1, .slice a2 (Plan.chans P).length c2, .slice a3 (Plan.pairs P).length c3], .int .i64 b] W fun e w' => e = .returned (.bool b2) ∧ Below W.heap.size W w') := ⟨fun W h => by
    rw [← HB2.out]; exact ris_any W _ P b (HV.out.below h)⟩
  obtain ⟨W1, HW⟩ : ∃ W1, Aside (W1 = w.alloc (.cells #[.int .u16 (Plan.frame P), .slice a0 (Plan.cores P).length c0, .slice a1 (Plan.parts P).length c1, .slice a2 (Plan.chans P).length c2, .slice a3 (Plan.pairs P).length c3] 28)) := ⟨_, ⟨rfl⟩⟩
  have hb1 : Aside (Below w.heap.size w W1 ∧ W1.heap[w.heap.size]? = some (.cells #[.int .u16 (Plan.frame P), .slice a0 (Plan.cores P).length c0, .slice a1 (Plan.parts P).length c1, .slice a2 (Plan.chans P).length c2, .slice a3 (Plan.pairs P).length c3] 28 (0, 0))) := ⟨by rw [HW.out]; exact ⟨bel_one _ _, heap_alloc_new _ _⟩⟩
  obtain ⟨Q, hQ⟩ : ∃ Q, Plan.pairs P = Q := ⟨_, rfl⟩
  rw [hQ] at HQ hlenQ K1 K2 HW hb1
  rw [hQ]
  clear hp hv hQ HV HF
  go_enter Tryd.func17, Tryd.ntmps17
  go_wp2_with fail
  rw [← HW.out]
  go_loopg [7] Q.length (fun g i wr => ∃ k : Nat, k ≤ Q.length ∧ g = Q.length - k ∧ i = .int .i64 k ∧ Aside (((b1 && b2) = true → (Q.take k).any (pairB a b) = false) ∧ Below W1.heap.size W1 wr))
  case atStart => exact ⟨0, by omega, rfl, rfl, ⟨by simp, Below.refl _ _⟩⟩
  case round =>
    obtain ⟨k, hk, rfl, rfl, S⟩ := hrel
    have X := Aside.mk ((S.out.2.block _ (lt_of_block hb1.out.2)).trans hb1.out.2)
    obtain ⟨g0, g1, g2, g3, g4⟩ := box5 X.out
    by_cases hkl : k < Q.length
    · have hl := List.getElem?_eq_getElem hkl
      obtain ⟨x, hx⟩ : ∃ x, Q[k] = x := ⟨_, rfl⟩
      rw [hx] at hl
      obtain ⟨ad, rfl, d0, d1, ok⟩ := Pairs.at_ (elems_below HQ.out (bel_then hb1.out.1 S.out.2)) k x hl
      have HL := Aside.mk hl
      obtain ⟨⟨xa0, xa1⟩, xb0, xb1⟩ := ok
      have HP : Aside (pairB a b x = ((decide (PairR.a x = a) && decide (PairR.b x = b)) || (decide (PairR.a x = b) && decide (PairR.b x = a)))) := ⟨rfl⟩
      have HA : Aside ((Q.take (k + 1)).any (pairB a b) = ((Q.take k).any (pairB a b) || pairB a b x)) := ⟨by rw [take_snoc hl, List.any_append]; simp⟩
      have HY : Aside (pairB a b x = true → Q.any (pairB a b) = true) := ⟨fun h => List.any_eq_true.2 ⟨x, List.mem_of_getElem? hl, h⟩⟩
      generalize PairR.a x = xa at *
      generalize PairR.b x = xb at *
      generalize pairB a b x = px at *
      clear hl hx
      go_wp2_with fail
      go_quiet (fail)
      clear d0 d1
      go_wp2_with fail
      refine (K1.out _ (bel_then hb1.out.1 (below_then S.out.2 (below_drewN _ _)))).mono ?_
      rintro e w5 ⟨rfl, b5⟩
      have S5 := Aside.mk (below_then (below_then S.out.2 (below_drewN _ _)) b5)
      clear b5 g0 g1 g2 g3 g4
      cases b1
      · go_wp2_with fail
        go_roundg (Q.length - (k + 1))
        case measure => omega
        case rel => exact ⟨k + 1, by omega, rfl, by go_num, ⟨by simp, S5.out⟩⟩
      · obtain ⟨g0, g1, g2, g3, g4⟩ := box5 ((S5.out.block _ (lt_of_block hb1.out.2)).trans hb1.out.2)
        go_wp2_with fail
        refine (K2.out _ (bel_then hb1.out.1 S5.out)).mono ?_
        rintro e w6 ⟨rfl, b6⟩
        have S6 := Aside.mk (below_then S5.out b6)
        clear b6 g0 g1 g2 g3 g4
        cases b2
        · go_wp2_with fail
          go_roundg (Q.length - (k + 1))
          case measure => omega
          case rel => exact ⟨k + 1, by omega, rfl, by go_num, ⟨by simp, S6.out⟩⟩
        · obtain ⟨c1, e1⟩ : ∃ c, decide (xa = a) = c := ⟨_, rfl⟩
          obtain ⟨c2, e2⟩ : ∃ c, decide (xb = b) = c := ⟨_, rfl⟩
          obtain ⟨c3, e3⟩ : ∃ c, decide (xa = b) = c := ⟨_, rfl⟩
          obtain ⟨c4, e4⟩ : ∃ c, decide (xb = a) = c := ⟨_, rfl⟩
          have f1 : (xa == a) = c1 := by rw [← e1]; rfl
          have f2 : (xb == b) = c2 := by rw [← e2]; rfl
          have f3 : (xa == b) = c3 := by rw [← e3]; rfl
          have f4 : (xb == a) = c4 := by rw [← e4]; rfl
          rw [e1, e2, e3, e4] at HP
          clear e1 e2 e3 e4
          cases c1 <;> cases c2 <;> cases c3 <;> cases c4
          all_goals
            go_wp2_with fail
            first
              | (go_roundg (Q.length - (k + 1))
                 case measure => omega
                 case rel => exact ⟨k + 1, by omega, rfl, by go_num, ⟨fun h => by rw [HA.out, S.out.1 h, HP.out]; rfl, S6.out⟩⟩)
              | (go_ret
                 exact ⟨ret_bool (by rw [HY.out HP.out]; rfl), bel_then hb1.out.1 S6.out⟩)
    · obtain rfl : k = Q.length := by omega
      go_wp2_with fail
      go_ret
      refine ⟨ret_bool ?_, bel_then hb1.out.1 S.out.2⟩
      have := S.out.1
      rw [List.take_length] at this
      cases hbb : (b1 && b2) with
      | false => simp
      | true => rw [this hbb]; simp
end Go.Proofs.YtidjkhmlpgkaaaaDoor

namespace Go.Proofs.YtidjkhmlpgkaaaaDoor
set_option linter.unusedVariables false
set_option linter.unusedSimpArgs false

theorem order_at {P : Plan} (R : Rules P) {c i : Nat} {L : List Win} {x : Win} (hc : (Plan.cores P)[c]? = some L) (hi : L[i]? = some x) :
    Win.l x ≠ 0 ∧ Win.s x + Win.l x ≤ Plan.frame P ∧ Win.p x < ((Plan.parts P).length : Int) ∧ ∀ j y, i = j + 1 → L[j]? = some y → Win.s y + Win.l y ≤ Win.s x := by
  have hg := allS_get hc hi
  have hlt := (List.getElem?_eq_some_iff.1 hg).1
  have h := R.order _ hlt
  rw [orderF, plAt_some hg] at h
  have h1 := h
  split at h1
  · cases h1
  · rename_i q
    split at h1
    · cases h1
    · rename_i q2
      have e1 : Place.w ((c : Int), 256 * (c : Int) + (i : Int), x) = x := rfl
      rw [e1] at q q2
      refine ⟨fun e => q (.inl e), ?_, by omega, ?_⟩
      · have : ¬ Plan.frame P < endS x := fun e => q (.inr (.inr e))
        unfold endS at this; omega
      · rintro j y rfl hy
        have hb : ¬ Win.s x < behindS (allS (Plan.cores P)) ((allS ((Plan.cores P).take c)).length + (j + 1)) := fun e => q (.inr (.inl e))
        rw [behindS, plAt_some hg, show (allS ((Plan.cores P).take c)).length + (j + 1) - 1 = (allS ((Plan.cores P).take c)).length + j by omega, plAt_some (allS_get hc hy), if_pos ⟨by omega, rfl⟩] at hb
        have e2 : endS (Place.w ((c : Int), 256 * (c : Int) + (j : Int), y)) = Win.s y + Win.l y := rfl
        rw [e2] at hb; omega
/-- Windows in order, from b on, up to F. -/
def Ord (F : Int) : Int → List Win → Prop
  | _, [] => True
  | b, x :: L => b ≤ Win.s x ∧ 1 ≤ Win.l x ∧ Win.s x + Win.l x ≤ F ∧ Ord F (Win.s x + Win.l x) L
theorem ord_of {F b : Int} {L : List Win} (h1 : ∀ (i : Nat) (x : Win), L[i]? = some x → 1 ≤ Win.l x ∧ Win.s x + Win.l x ≤ F) (h2 : ∀ (j : Nat) (x y : Win), L[j]? = some y → L[j + 1]? = some x → Win.s y + Win.l y ≤ Win.s x) (h0 : ∀ x : Win, L[0]? = some x → b ≤ Win.s x) : Ord F b L := by
  induction L generalizing b with
  | nil => trivial
  | cons x L ih =>
    have a := h1 0 x rfl
    exact ⟨h0 x rfl, a.1, a.2, ih (fun i y h => h1 (i + 1) y h) (fun j y z h k => h2 (j + 1) y z h k) (fun y h => h2 0 y x rfl h)⟩
theorem ord_core {P : Plan} (R : Rules P) (hok : ∀ L ∈ Plan.cores P, ∀ x ∈ L, Win.Ok x) {c : Nat} {L : List Win} (hc : (Plan.cores P)[c]? = some L) : Ord (Plan.frame P) 0 L := by
  have ok := hok L (List.mem_of_getElem? hc)
  refine ord_of (fun i x h => ?_) (fun j x y h k => (order_at R hc k).2.2.2 j y rfl h) (fun x h => (ok x (List.mem_of_getElem? h)).s.1)
  have a := order_at R hc h
  have := (ok x (List.mem_of_getElem? h)).l.1
  exact ⟨by omega, a.2.1⟩
theorem scan_cons {α : Type} (f : Nat → Option α) (n : Nat) (h : f 0 = none) : scan f (n + 1) = scan (fun j => f (j + 1)) n := by
  induction n with
  | zero => simp [scan, h]
  | succ n ih =>
    show (match scan f (n + 1) with | some x => some x | none => f (n + 1)) = _
    rw [ih]
    rfl
theorem serves_cons (x : Win) (L : List Win) (t : Int) : servesS (x :: L) t = if hasS x t = true then Win.p x else servesS L t := by
  by_cases h : hasS x t = true
  · rw [if_pos h]
    have : atS (x :: L) t = some 0 := scan_some (k := 0) rfl (by rw [atF, wAt_some (x := x) rfl, if_pos h]) (by simp)
    rw [serves_of this, wAt_some (x := x) rfl]
  · rw [if_neg h]
    have e0 : atF (x :: L) t 0 = none := by rw [atF, wAt_some (x := x) rfl, if_neg h]
    have e : atS (x :: L) t = (atS L t).map (· + 1) := by
      rw [atS, List.length_cons, scan_cons _ _ e0]
      have hm : ∀ n, scan (fun j => atF (x :: L) t (j + 1)) n = (scan (atF L t) n).map (· + 1) := by
        intro n
        induction n with
        | zero => rfl
        | succ n ih =>
          simp only [scan]
          rw [ih]
          have ew : wAt (x :: L) (n + 1) = wAt L n := by simp [wAt]
          rcases scan (atF L t) n with _ | y
          · simp only [Option.map]
            unfold atF
            rw [ew]
            split <;> rfl
          · rfl
      exact hm L.length
    rcases hi : atS L t with _ | i
    · rw [hi] at e
      rw [serves_no e, serves_no hi]
    · rw [hi] at e
      rw [serves_of e, serves_of hi]
      simp [wAt]
theorem serves_below {F b : Int} {L : List Win} (h : Ord F b L) (t : Int) (ht : t < b) : servesS L t = -1 := by
  induction L generalizing b with
  | nil => rfl
  | cons x L ih =>
    obtain ⟨h1, h2, _, h3⟩ := h
    rw [serves_cons, if_neg, ih h3 (by omega)]
    rw [hasS_iff]; omega
end Go.Proofs.YtidjkhmlpgkaaaaDoor

namespace Go.Proofs.YtidjkhmlpgkaaaaDoor
set_option linter.unusedVariables false
set_option linter.unusedSimpArgs false

/-- The window that has a tick; no window: zeros. -/
def wOf (L : List Win) (t : Int) : Win := match atS L t with
  | some i => wAt L i
  | none => noWin
theorem serve_cases (L : List Win) (t : Int) : (atS L t = none ∧ servesS L t = -1 ∧ wOf L t = noWin) ∨ (∃ (i : Nat) (x : Win), L[i]? = some x ∧ hasS x t = true ∧ servesS L t = Win.p x ∧ wOf L t = x) := by
  rcases h : atS L t with _ | i
  · exact .inl ⟨rfl, serves_no h, by unfold wOf; rw [h]⟩
  · obtain ⟨hi, hh⟩ := atS_some h
    have e := List.getElem?_eq_getElem hi
    have ew := wAt_some e
    exact .inr ⟨i, L[i], e, by rw [← ew]; exact hh, by rw [serves_of h, ew], by unfold wOf; rw [h]; exact ew⟩
/-- At most one window has the tick. -/
def Uniq (L : List Win) (t : Int) : Prop := ∀ (i j : Nat) (x y : Win), L[i]? = some x → L[j]? = some y → hasS x t = true → hasS y t = true → i = j
theorem order_lt {P : Plan} (R : Rules P) (hok : ∀ L ∈ Plan.cores P, ∀ x ∈ L, Win.Ok x) {c : Nat} {L : List Win} (hc : (Plan.cores P)[c]? = some L) (i d : Nat) (x y : Win) (hi : L[i]? = some y) (hj : L[i + 1 + d]? = some x) : Win.s y + Win.l y ≤ Win.s x := by
  induction d generalizing x with
  | zero => exact (order_at R hc hj).2.2.2 i y rfl hi
  | succ d ih =>
    have hl := (List.getElem?_eq_some_iff.1 hj).1
    have e := List.getElem?_eq_getElem (show i + 1 + d < L.length by omega)
    have h1 := ih _ e
    have h2 := (order_at R hc hj).2.2.2 (i + 1 + d) _ rfl e
    have h3 := (hok L (List.mem_of_getElem? hc) _ (List.mem_of_getElem? e)).l
    omega
theorem uniq_core {P : Plan} (R : Rules P) (hok : ∀ L ∈ Plan.cores P, ∀ x ∈ L, Win.Ok x) {c : Nat} {L : List Win} (hc : (Plan.cores P)[c]? = some L) (t : Int) : Uniq L t := by
  intro i j x y hi hj hx hy
  rw [hasS_iff] at hx hy
  rcases Nat.lt_trichotomy i j with h | h | h
  · have := order_lt R hok hc i (j - i - 1) y x hi (by rw [show i + 1 + (j - i - 1) = j by omega]; exact hj)
    omega
  · exact h
  · have := order_lt R hok hc j (i - j - 1) x y hj (by rw [show j + 1 + (i - j - 1) = i by omega]; exact hi)
    omega
theorem both_overlaps {x y : Win} {t : Int} (hx : hasS x t = true) (hy : hasS y t = true) : overlapS x y = true := by
  rw [hasS_iff] at hx hy
  unfold overlapS laterS
  rw [Bool.and_eq_true, hasS_iff, hasS_iff]
  split <;> omega
theorem idx_lt {C : List (List Win)} {c i : Nat} {L : List Win} {x : Win} (hc : C[c]? = some L) (hi : L[i]? = some x) : idx C c + i < (allS C).length := by
  have h1 := idx_le hc hi
  have hcl := (List.getElem?_eq_some_iff.1 hc).1
  have h2 := idx_mono C (a := c + 1) (b := C.length) (by omega) (Nat.le_refl _)
  rw [idx_all] at h2
  omega
theorem cross_at {P : Plan} (R : Rules P) {c d i j : Nat} {L M : List Win} {x y : Win} (hc : (Plan.cores P)[c]? = some L) (hd : (Plan.cores P)[d]? = some M) (hlt : d < c) (hi : L[i]? = some x) (hj : M[j]? = some y) :
    togetherS x y = true ∨ ¬ (Win.p x = Win.p y ∧ overlapS x y = true) := by
  have h := R.cross _ (idx_lt hd hj) _ (idx_lt hc hi)
  unfold crossF at h
  rw [plAt_idx hd hj, plAt_idx hc hi] at h
  have h1 := idx_le hd hj
  have hcl := (List.getElem?_eq_some_iff.1 hc).1
  have h2 := idx_mono (Plan.cores P) (a := d + 1) (b := c) (by omega) (by omega)
  split at h
  · rename_i q
    rcases q with q | q | q
    · omega
    · simp only [Place.c] at q
      omega
    · exact .inl q
  · split at h
    · cases h
    · split at h
      · cases h
      · rename_i q
        exact .inr q
theorem together_eq {x y : Win} (h : togetherS x y = true) : x = y ∧ Win.g x ≠ 0 := by
  unfold togetherS at h
  simp only [Bool.and_eq_true, decide_eq_true_eq] at h
  obtain ⟨⟨⟨⟨h1, h2⟩, h3⟩, h4⟩, h5⟩ := h
  refine ⟨?_, h1⟩
  obtain ⟨a, b, c, d, _⟩ := x
  obtain ⟨a', b', c', d', _⟩ := y
  simp only [Win.s, Win.l, Win.p, Win.g] at h2 h3 h4 h5
  rw [h2, h3, h4, h5]
theorem clash_at {P : Plan} (R : Rules P) {c d i j k : Nat} {L M : List Win} {x y : Win} {q : PairR} (hc : (Plan.cores P)[c]? = some L) (hd : (Plan.cores P)[d]? = some M) (hi : L[i]? = some x) (hj : M[j]? = some y) (hq : (Plan.pairs P)[k]? = some q) :
    ¬ (Win.p x = PairR.a q ∧ Win.p y = PairR.b q ∧ overlapS x y = true) := by
  have h := R.pair k (List.getElem?_eq_some_iff.1 hq).1
  unfold pairF at h
  split at h
  · cases h
  · have h3 := scan_none (scan_none (orElse_both h).2 _ (idx_lt hc hi)) _ (idx_lt hd hj)
    unfold clashF at h3
    rw [plAt_idx hc hi, plAt_idx hd hj, prAt_some hq] at h3
    split at h3
    · cases h3
    · assumption
theorem serves_one {P : Plan} (R : Rules P) (hok : ∀ L ∈ Plan.cores P, ∀ x ∈ L, Win.Ok x) {c : Nat} {L : List Win} (hc : (Plan.cores P)[c]? = some L) (t : Int) : -1 ≤ servesS L t ∧ servesS L t < ((Plan.parts P).length : Int) ∧ (Plan.frame P ≤ t → servesS L t < 0) := by
  rcases serve_cases L t with ⟨_, h, _⟩ | ⟨i, x, hi, hx, h, _⟩
  · rw [h]; exact ⟨by omega, by omega, by omega⟩
  · have ho := order_at R hc hi
    have hp := (hok L (List.mem_of_getElem? hc) _ (List.mem_of_getElem? hi)).p
    rw [hasS_iff] at hx
    rw [h]
    exact ⟨by omega, ho.2.2.1, fun hf => by have := ho.2.1; omega⟩
theorem serves_two {P : Plan} (R : Rules P) (hok : ∀ L ∈ Plan.cores P, ∀ x ∈ L, Win.Ok x) {c d : Nat} {L M : List Win} (hc : (Plan.cores P)[c]? = some L) (hd : (Plan.cores P)[d]? = some M) (hlt : d < c) (t : Int) :
    0 ≤ servesS L t → servesS L t = servesS M t → wOf L t = wOf M t ∧ Win.g (wOf L t) ≠ 0 := by
  intro h0 h1
  rcases serve_cases L t with ⟨_, h, _⟩ | ⟨i, x, hi, hx, h, hw⟩
  · rw [h] at h0; omega
  rcases serve_cases M t with ⟨_, h', _⟩ | ⟨j, y, hj, hy, h', hw'⟩
  · rw [h'] at h1; omega
  rw [h, h'] at h1
  rw [hw, hw']
  rcases cross_at R hc hd hlt hi hj with q | q
  · exact together_eq q
  · exact absurd ⟨h1, both_overlaps hx hy⟩ q
theorem serves_clash {P : Plan} (R : Rules P) {c d k : Nat} {L M : List Win} {q : PairR} (hc : (Plan.cores P)[c]? = some L) (hd : (Plan.cores P)[d]? = some M) (t : Int) (hq : (Plan.pairs P)[k]? = some q) (h0 : 0 ≤ PairR.a q ∧ 0 ≤ PairR.b q) :
    ¬ (servesS L t = PairR.a q ∧ servesS M t = PairR.b q) ∧ ¬ (servesS L t = PairR.b q ∧ servesS M t = PairR.a q) := by
  rcases serve_cases L t with ⟨_, h, _⟩ | ⟨i, x, hi, hx, h, hw⟩
  · rw [h]; omega
  rcases serve_cases M t with ⟨_, h', _⟩ | ⟨j, y, hj, hy, h', hw'⟩
  · rw [h']; omega
  rw [h, h']
  constructor
  · rintro ⟨a, b⟩
    exact clash_at R hc hd hi hj hq ⟨a, b, both_overlaps hx hy⟩
  · rintro ⟨a, b⟩
    exact clash_at R hd hc hj hi hq ⟨b, a, both_overlaps hy hx⟩
theorem wOf_ok {L : List Win} (hok : ∀ x ∈ L, Win.Ok x) (t : Int) : Win.Ok (wOf L t) := by
  rcases serve_cases L t with ⟨_, _, h⟩ | ⟨i, x, hi, _, _, h⟩
  · rw [h]; exact ⟨by decide, by decide, by decide, by decide⟩
  · rw [h]; exact hok x (List.mem_of_getElem? hi)
end Go.Proofs.YtidjkhmlpgkaaaaDoor

namespace Go.Proofs.YtidjkhmlpgkaaaaDoor
open Go.RowKit
set_option linter.unusedVariables false
set_option linter.unusedSimpArgs false

def apartS (P : Plan) (s : Sq) : Prop := ∀ c d : Nat, d < c → c < (Plan.cores P).length → (coreA (Plan.cores P) s c).1 = 3 → (coreA (Plan.cores P) s d).1 = 3 →
  ((coreA (Plan.cores P) s c).2.1 = (coreA (Plan.cores P) s d).2.1 → (coreA (Plan.cores P) s c).2.2 ≠ 0 ∧ (coreA (Plan.cores P) s c).2.2 = (coreA (Plan.cores P) s d).2.2) ∧ exclB P (coreA (Plan.cores P) s c).2.1 (coreA (Plan.cores P) s d).2.1 = false
theorem coreA_three {C : List (List Win)} {F : Int} {s : Sq} (h : insideS C F s) (c : Nat) (hc : c < C.length) (h3 : (coreA C s c).1 = 3) : ∃ i : Nat, atS (coreW C c) (tkS F s) = some i ∧ coreA C s c = (3, Win.p (wAt (coreW C c) i), Win.g (wAt (coreW C c) i)) := by
  have ho : ¬ outC C (c : Int) := by unfold outC; omega
  unfold coreA at h3 ⊢
  rw [if_neg ho] at h3 ⊢
  simp only [Int.toNat_natCast] at h3 ⊢
  split at h3
  · exact absurd h3 (show ¬ (0 : Int) = 3 by decide)
  · rename_i h0
    rw [if_neg h0]
    obtain ⟨i, e, q⟩ := h c hc (.inr h3)
    refine ⟨i, q, ?_⟩
    have h3' : (s.co c).st = 3 := h3
    rw [h3', e]
    rfl
theorem apart_of {P : Plan} (R : Rules P) (hok : ∀ L ∈ Plan.cores P, ∀ x ∈ L, Win.Ok x) {s : Sq} (h : insideS (Plan.cores P) (Plan.frame P) s) : apartS P s := by
  intro c d hlt hc h3 h4
  obtain ⟨i, q1, e1⟩ := coreA_three h c hc h3
  obtain ⟨j, q2, e2⟩ := coreA_three h d (by omega) h4
  rw [e1, e2]
  have gc : (Plan.cores P)[c]? = some (coreW (Plan.cores P) c) := by rw [coreW, List.getD_eq_getElem?_getD, List.getElem?_eq_getElem hc]; rfl
  have gd : (Plan.cores P)[d]? = some (coreW (Plan.cores P) d) := by rw [coreW, List.getD_eq_getElem?_getD, List.getElem?_eq_getElem (by omega)]; rfl
  obtain ⟨hi, _⟩ := atS_some q1
  have hl := List.getElem?_eq_getElem hi
  have okx := hok _ (List.mem_of_getElem? gc) _ (List.mem_of_getElem? hl)
  have s1 := serves_of q1
  have s2 := serves_of q2
  have w1 : wOf (coreW (Plan.cores P) c) (tkS (Plan.frame P) s) = wAt (coreW (Plan.cores P) c) i := by
    unfold wOf; rw [q1]
  have w2 : wOf (coreW (Plan.cores P) d) (tkS (Plan.frame P) s) = wAt (coreW (Plan.cores P) d) j := by
    unfold wOf; rw [q2]
  refine ⟨fun e => ?_, ?_⟩
  · have := serves_two R hok gc gd hlt (tkS (Plan.frame P) s) (by rw [s1, wAt_some hl]; exact okx.p.1) (by rw [s1, s2]; exact e)
    rw [w1, w2] at this
    exact ⟨this.2, by rw [this.1]⟩
  · show exclB P (Win.p _) (Win.p _) = false
    cases hx : exclB P (Win.p (wAt (coreW (Plan.cores P) c) i)) (Win.p (wAt (coreW (Plan.cores P) d) j)) with
    | false => rfl
    | true =>
      exfalso
      unfold exclB at hx
      simp only [Bool.and_eq_true] at hx
      obtain ⟨⟨i1, i2⟩, h3⟩ := hx
      obtain ⟨x, hm, hp⟩ := List.any_eq_true.1 h3
      obtain ⟨k, hk, e⟩ := List.mem_iff_getElem.1 hm
      unfold inB at i1 i2
      unfold pairB at hp
      simp only [Bool.and_eq_true, Bool.or_eq_true, decide_eq_true_eq] at i1 i2 hp
      have := serves_clash R gc gd (tkS (Plan.frame P) s) (k := k) (q := x) (by rw [List.getElem?_eq_getElem hk, e]) (by rcases hp with ⟨a, b⟩ | ⟨a, b⟩ <;> (rw [a, b]; omega))
      rw [s1, s2] at this
      rcases hp with ⟨a, b⟩ | ⟨a, b⟩
      · exact this.1 ⟨a.symm, b.symm⟩
      · exact this.2 ⟨b.symm, a.symm⟩
theorem callFunc_apart1 (args : Array Value) (w : World) : (callFunc 16 args).run Tryd.prog w = .ok (.enter 16 args) w := by kernel_rfl
set_option maxHeartbeats 6400000 in
theorem apart1_any {w w0 W : World} {l : Loc} {P : Plan} {s : Sq} {n : Nat} (h : BgSt w w0 W l P s n) (a : Int) (PB : Nat) (a0 a1 a2 a3 : Option Addr) (c0 c1 c2 c3 : Nat) (hV : PlanV W (.agg #[.int .u16 (Plan.frame P), .slice a0 (Plan.cores P).length c0, .slice a1 (Plan.parts P).length c1, .slice a2 (Plan.chans P).length c2, .slice a3 (Plan.pairs P).length c3]) P)
    (hb : W.heap[PB]? = some (.cells #[.int .u16 (Plan.frame P), .slice a0 (Plan.cores P).length c0, .slice a1 (Plan.parts P).length c1, .slice a2 (Plan.chans P).length c2, .slice a3 (Plan.pairs P).length c3] 28 (0, 0))) (hin : apartS P s) :
    Calls Tryd.prog 16 #[.pointer (some ⟨l.S, 0, none⟩), .int .i16 a, .pointer (some ⟨PB, 0, none⟩)] W fun e w' => e = .returned (.bool true) ∧ Below W.heap.size W w' := by
  have H := Aside.mk h
  have HB := Aside.mk hb
  have HI := Aside.mk hin
  have hC8 := h.st.cores
  have KX := Aside.mk (fun V (b : Below W.heap.size W V) (x y : Int) => rexcl_any V _ P x y (hV.below b))
  clear h hV hb hin
  go_enter Tryd.func16, Tryd.ntmps16
  go_wp2_with fail
  go_loopw [6] (fun i wr => ∃ k : Nat, k ≤ (Plan.cores P).length ∧ i = .int .i64 k ∧ Aside (Below W.heap.size W wr)) (fun i _ => (Plan.cores P).length - (intOf i).toNat)
  case atStart => exact ⟨0, by omega, rfl, ⟨Below.refl _ _⟩⟩
  case round =>
    obtain ⟨k, hk, rfl, T⟩ := hrel
    obtain ⟨x0, x1, x2, x3, x4⟩ := lbox5 (lup T.out HB.out)
    by_cases hkl : k < (Plan.cores P).length
    · have K := Aside.mk (core_any (H.out.st.below T.out) (k : Int))
      unfold coreV at K
      obtain ⟨ee, he⟩ : ∃ ee, coreE (Plan.cores P) (k : Int) = ee := ⟨_, rfl⟩
      rw [he] at K
      have HK : Aside (∀ d : Nat, d < k → (coreA (Plan.cores P) s k).1 = 3 → (coreA (Plan.cores P) s d).1 = 3 → ((coreA (Plan.cores P) s k).2.1 = (coreA (Plan.cores P) s d).2.1 → (coreA (Plan.cores P) s k).2.2 ≠ 0 ∧ (coreA (Plan.cores P) s k).2.2 = (coreA (Plan.cores P) s d).2.2) ∧ exclB P (coreA (Plan.cores P) s k).2.1 (coreA (Plan.cores P) s d).2.1 = false) := ⟨fun d hd => HI.out k d hd hkl⟩
      obtain ⟨⟨st, p, g⟩, hx⟩ : ∃ x, coreA (Plan.cores P) s (k : Int) = x := ⟨_, rfl⟩
      rw [hx] at K HK
      clear he hx
      go_wp2_with fail
      refine K.out.mono ?_
      rintro e w1 ⟨rfl, b1⟩
      have T1 := Aside.mk (bel_then T.out b1)
      have T2 : Aside (Below W.heap.size W (w1.alloc (.cells #[.int .i64 st, .int .i64 p, .int .u8 g] 40))) := ⟨bel_alloc T1.out _⟩
      obtain ⟨W2, HW2⟩ : ∃ W2, Aside (W2 = w1.alloc (.cells #[.int .i64 st, .int .i64 p, .int .u8 g] 40)) := ⟨_, ⟨rfl⟩⟩
      have Y2 : Aside (W2.heap[w1.heap.size]? = some (.cells #[.int .i64 st, .int .i64 p, .int .u8 g] 40 (0, 0))) := ⟨by rw [HW2.out]; exact heap_alloc_new _ _⟩
      rw [← HW2.out] at T2
      clear b1 x0 x1 x2 x3 x4
      go_upto_region 5 with fail
      rw [← HW2.out]
      go_wp2_with fail
      go_loopw [9] (fun i wr => ∃ d : Nat, d ≤ k ∧ i = .int .i64 d ∧ Aside (Below W2.heap.size W2 wr)) (fun i _ => k - (intOf i).toNat)
      case atStart => exact ⟨0, by omega, rfl, ⟨Below.refl _ _⟩⟩
      case round =>
        rename World => wi
        obtain ⟨d, hd, rfl, TI⟩ := hrel
        have T3 := Aside.mk (bel_then T2.out TI.out)
        by_cases hdk : d < k
        · have K := Aside.mk (core_any (H.out.st.below T3.out) (d : Int))
          unfold coreV at K
          obtain ⟨ee, he⟩ : ∃ ee, coreE (Plan.cores P) (d : Int) = ee := ⟨_, rfl⟩
          rw [he] at K
          have HD := Aside.mk (HK.out d hdk)
          obtain ⟨⟨st2, p2, g2⟩, hx⟩ : ∃ x, coreA (Plan.cores P) s (d : Int) = x := ⟨_, rfl⟩
          rw [hx] at K HD
          clear he hx
          go_wp2_with fail
          refine K.out.mono ?_
          rintro e w4 ⟨rfl, b4⟩
          obtain ⟨W5, HW5⟩ : ∃ W5, Aside (W5 = w4.alloc (.cells #[.int .i64 st2, .int .i64 p2, .int .u8 g2] 40)) := ⟨_, ⟨rfl⟩⟩
          have T5 : Aside (Below W2.heap.size W2 W5) := ⟨by rw [HW5.out]; exact bel_alloc (bel_then TI.out b4) _⟩
          have Y5 : Aside (W5.heap[w4.heap.size]? = some (.cells #[.int .i64 st2, .int .i64 p2, .int .u8 g2] 40 (0, 0))) := ⟨by rw [HW5.out]; exact heap_alloc_new _ _⟩
          clear b4
          go_upto_region 9 with fail
          rw [← HW5.out]
          obtain ⟨y0, y1, y2, _, _, _⟩ := box3 Y5.out
          obtain ⟨u0, u1, u2, _, _, _⟩ := box3 (lup T5.out Y2.out)
          obtain ⟨x0, x1, x2, x3, x4⟩ := lbox5 (lup (bel_then T2.out T5.out) HB.out)
          by_cases h3 : st = 3
          · by_cases h4 : st2 = 3
            · subst h3 h4
              obtain ⟨q1, q2⟩ := HD.out rfl rfl
              have KE : Aside (Calls Tryd.prog 17 #[.agg #[.int .u16 (Plan.frame P), .slice a0 (Plan.cores P).length c0, .slice a1 (Plan.parts P).length c1, .slice a2 (Plan.chans P).length c2, .slice a3 (Plan.pairs P).length c3], .int .i64 p, .int .i64 p2] W5 fun e w' => e = .returned (.bool false) ∧ Below W5.heap.size W5 w') := ⟨by
                have := KX.out W5 (bel_then T2.out T5.out) p p2
                rw [show exclB P p p2 = false from q2] at this
                exact this⟩
              by_cases hpp : p = p2
              · obtain ⟨r1, r2⟩ := q1 hpp
                subst hpp r2
                have r1b : (g == 0) = false := beq_eq_false_iff_ne.2 r1
                clear q1 q2 r1
                go_wp2_with fail
                refine KE.out.mono ?_
                rintro e w6 ⟨rfl, b6⟩
                have T6 := Aside.mk (bel_then T5.out b6)
                clear b6 x0 x1 x2 x3 x4 y0 y1 y2 u0 u1 u2
                go_wp2_with fail
                go_roundw
                case rel => exact ⟨d + 1, by omega, by go_num, T6⟩
                case measure => simp [intOf]; omega
              · have hppb : (p == p2) = false := beq_eq_false_iff_ne.2 hpp
                clear q1 q2 hpp
                go_wp2_with fail
                refine KE.out.mono ?_
                rintro e w6 ⟨rfl, b6⟩
                have T6 := Aside.mk (bel_then T5.out b6)
                clear b6 x0 x1 x2 x3 x4 y0 y1 y2 u0 u1 u2
                go_wp2_with fail
                go_roundw
                case rel => exact ⟨d + 1, by omega, by go_num, T6⟩
                case measure => simp [intOf]; omega
            · have h4b : (st2 != 3) = true := bne_iff_ne.2 h4
              subst h3
              clear h4
              go_wp2_with fail
              go_roundw
              case rel => exact ⟨d + 1, by omega, by go_num, T5⟩
              case measure => simp [intOf]; omega
          · have h3b : (st != 3) = true := bne_iff_ne.2 h3
            clear h3
            go_wp2_with fail
            go_roundw
            case rel => exact ⟨d + 1, by omega, by go_num, T5⟩
            case measure => simp [intOf]; omega
        · obtain rfl : d = k := by omega
          go_wp2_with fail
          go_roundw
          case rel => exact ⟨d + 1, by omega, by go_num, T3⟩
          case measure => simp [intOf]; omega
    · obtain rfl : k = (Plan.cores P).length := by omega
      go_wp2_with fail
      go_ret
      exact ⟨rfl, T.out⟩
end Go.Proofs.YtidjkhmlpgkaaaaDoor

namespace Go.Proofs.YtidjkhmlpgkaaaaDoor
open Go.RowKit
set_option linter.unusedVariables false
set_option linter.unusedSimpArgs false

set_option maxHeartbeats 6400000 in
theorem wapart_any (w : World) (v av : Value) (P : Plan) (A : List Int) (hl : Look w) (hv : PlanV w v P) (hz : Sz P) (hA : Ints w .i16 av A) (hAr : ∀ x ∈ A, -32768 ≤ x ∧ x ≤ 32767) : Calls Tryd.prog 4 #[v, av] w (LawR w) := by
  have HV := Aside.mk hv
  have HL := Aside.mk hl
  have HA := Aside.mk hA
  have HAr := Aside.mk hAr
  have KS := Aside.mk (fun W (h : Below w.heap.size w W) => small_any W v P (HV.out.below h) hz)
  obtain ⟨a0, c0, a1, c1, a2, c2, a3, c3, rfl, hp, hlen⟩ := hv.open_
  have HP := Aside.mk hp
  obtain ⟨W1, HW⟩ : ∃ W1, Aside (W1 = w.alloc (.cells #[.int .u16 (Plan.frame P), .slice a0 (Plan.cores P).length c0, .slice a1 (Plan.parts P).length c1, .slice a2 (Plan.chans P).length c2, .slice a3 (Plan.pairs P).length c3] 28)) := ⟨_, ⟨rfl⟩⟩
  have hb1 : Aside (Below w.heap.size w W1 ∧ W1.heap[w.heap.size]? = some (.cells #[.int .u16 (Plan.frame P), .slice a0 (Plan.cores P).length c0, .slice a1 (Plan.parts P).length c1, .slice a2 (Plan.chans P).length c2, .slice a3 (Plan.pairs P).length c3] 28 (0, 0))) := ⟨by rw [HW.out]; exact ⟨bel_one _ _, heap_alloc_new _ _⟩⟩
  obtain ⟨x0, x1, x2, x3, x4⟩ := lbox5 hb1.out.2
  have KA := Aside.mk (fun W (h : Below w.heap.size w W) => awake_any W (HL.out.below h))
  clear hv hl hp hz hA hAr
  go_enter Tryd.func4, Tryd.ntmps4
  go_wp2_with fail
  rw [← HW.out]
  go_wp2_with fail
  refine (KS.out _ hb1.out.1).mono ?_
  rintro e w2 ⟨b, rfl, hb, b2⟩
  cases b
  · have B2 := Aside.mk (bel_then hb1.out.1 b2)
    clear b2 hb x0 x1 x2 x3 x4
    go_wp2_with fail
    refine (KA.out _ B2.out).mono ?_
    rintro e w3 ⟨rfl, b3⟩
    go_wp2_with fail
    go_ret
    exact ⟨rfl, bel_then B2.out b3⟩
  · have HF := Aside.mk (hb rfl)
    have B2 := Aside.mk (bel_then hb1.out.1 b2)
    have X2 := Aside.mk (lup b2 hb1.out.2)
    clear b2 hb x0 x1 x2 x3 x4
    obtain ⟨x0, x1, x2, x3, x4⟩ := lbox5 X2.out
    have KB := Aside.mk (begun_any w2 _ P (HV.out.below B2.out) (HL.out.below B2.out) HF.out av A (HA.out.below B2.out) HAr.out 16 #[.pointer (some ⟨w.heap.size, 0, none⟩)] callFunc_apart1 (fun _ => False) (fun _ h => h.elim) (fun _ _ _ h => h)
      (Jt (insideS (Plan.cores P) (Plan.frame P)) (Plan.cores P) (Plan.frame P) A w2) ⟨Below.refl _ _, inside_init _ _, init_ok' HF.out⟩
      (fun k W W' j q => ⟨j.1.trans (q.below j.1.size (fun _ e => e)), j.2⟩)
      (fun hc k hk _ w0 W l h j => by
        have hin := inside_act _ _ _ (A.getD k 0) j.2.2 j.2.1
        have hap := apart_of (rules_of (checkO_none.1 hc)) (plan_ok HV.out) hin
        refine (apart1_any h (A.getD k 0) w.heap.size a0 a1 a2 a3 c0 c1 c2 c3 (HV.out.below (bel_then B2.out j.1)) (lup j.1 X2.out) hap).mono ?_
        rintro e w' ⟨rfl, b⟩
        exact ⟨rfl, ⟨bel_then j.1 b, hin, h.st.ok⟩, Kept.of_below b⟩))
    go_wp2_with fail
    refine KB.out.mono ?_
    rintro e w3 ⟨q, rfl, k3⟩
    have B3 : Aside (Below w.heap.size w w3) := ⟨bel_then B2.out (k3.below (Nat.le_refl _) (fun j e => e.resolve_left id))⟩
    clear k3 KB x0 x1 x2 x3 x4
    go_wp2_with fail
    refine (KA.out _ B3.out).mono ?_
    rintro e w4 ⟨rfl, b4⟩
    go_wp2_with fail
    go_ret
    exact ⟨rfl, bel_then B3.out b4⟩
end Go.Proofs.YtidjkhmlpgkaaaaDoor
