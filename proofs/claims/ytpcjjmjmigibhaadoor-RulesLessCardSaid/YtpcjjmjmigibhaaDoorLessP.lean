/- A plan that is taken, with a window less. Plain: no function of the program is named here. -/
import Derived.Test.YtpcjjmjmigibhaaDoorSrvP
import Derived.Test.YtpcjjmjmigibhaaDoorChkQ
namespace Go.Proofs.YtpcjjmjmigibhaaDoor
set_option linter.unusedVariables false
set_option linter.unusedSimpArgs false

theorem each_none (f : Nat → Nat → Win → Int) (C : List (List Win)) : eachF f C = none ↔ ∀ (c i : Nat) (L : List Win) (x : Win), C[c]? = some L → L[i]? = some x → f c i x = 0 := by
  constructor
  · intro h c i L x hc hi
    rcases Classical.em (f c i x = 0) with q | q
    · exact q
    · have := (each_some_iff f C).2 ⟨c, i, L, x, hc, hi, q⟩
      rw [h] at this; cases this
  · intro h
    rcases hs : eachF f C with _ | y
    · rfl
    · obtain ⟨c, i, L, x, hc, hi, q⟩ := (each_some_iff f C).1 (by rw [hs]; rfl)
      exact absurd (h c i L x hc hi) q
theorem firstN_zero_of {f : Nat → Int} {n : Nat} (h : ∀ k, k < n → f k = 0) : firstN f n = 0 := by
  induction n with
  | zero => rfl
  | succ n ih => rw [firstN_succ (ih fun k hk => h k (by omega))]; exact h n (by omega)
/-- What a core's windows are by themselves. -/
structure WOk (fr np : Int) (L : List Win) : Prop where
  one : ∀ x ∈ L, Win.l x ≠ 0 ∧ endS x ≤ fr ∧ Win.p x < np
  ord : L.Pairwise fun a b => endS a ≤ Win.s b
theorem windowsN_zero {fr np : Int} {C : List (List Win)} {c i : Nat} {L : List Win} {x : Win} (hc : C[c]? = some L) : windowsN fr np C c i x = 0 ↔ (Win.l x ≠ 0 ∧ endS x ≤ fr ∧ Win.p x < np) ∧ (0 < i → endS (winAt L (i - 1)) ≤ Win.s x) := by
  unfold windowsN
  rw [coreAt_some hc]
  split
  · rename_i h
    constructor
    · intro q; cases q
    · rintro ⟨⟨a, b, d⟩, e⟩
      rcases h with h | ⟨h1, h2⟩ | h
      · exact absurd h a
      · have := e h1; omega
      · omega
  · rename_i h
    have n1 : ¬ Win.l x = 0 := fun q => h (.inl q)
    have n2 : ¬ (0 < i ∧ Win.s x < endS (winAt L (i - 1))) := fun q => h (.inr (.inl q))
    have n3 : ¬ fr < endS x := fun q => h (.inr (.inr q))
    split
    · constructor
      · intro q; cases q
      · rintro ⟨⟨_, _, d⟩, _⟩; omega
    · constructor
      · intro _
        exact ⟨⟨n1, by omega, by omega⟩, fun h0 => by have : ¬ Win.s x < endS (winAt L (i - 1)) := fun q => n2 ⟨h0, q⟩; omega⟩
      · intro _; rfl
theorem wok_of {fr np : Int} {C : List (List Win)} (hok : ∀ L ∈ C, ∀ x ∈ L, Win.Ok x) (h : eachF (windowsN fr np C) C = none) {c : Nat} {L : List Win} (hc : C[c]? = some L) : WOk fr np L := by
  have H := (each_none _ _).1 h
  have one : ∀ x ∈ L, Win.l x ≠ 0 ∧ endS x ≤ fr ∧ Win.p x < np := fun x hx => by
    obtain ⟨i, hi, rfl⟩ := List.getElem_of_mem hx
    exact ((windowsN_zero hc).1 (H c i L _ hc (List.getElem?_eq_getElem hi))).1
  refine ⟨one, List.pairwise_iff_getElem.2 fun i j hi hj hij => ?_⟩
  obtain ⟨d, rfl⟩ : ∃ d, j = i + 1 + d := ⟨j - (i + 1), by omega⟩
  induction d with
  | zero =>
    have := ((windowsN_zero hc).1 (H c (i + 1) L _ hc (List.getElem?_eq_getElem hj))).2 (by omega)
    rw [show i + 1 - 1 = i by omega, winAt_some (List.getElem?_eq_getElem hi)] at this
    exact this
  | succ d ih =>
    have a := ih (by omega) (by omega)
    have b := ((windowsN_zero hc).1 (H c (i + 1 + (d + 1)) L _ hc (List.getElem?_eq_getElem hj))).2 (by omega)
    rw [show i + 1 + (d + 1) - 1 = i + 1 + d by omega, winAt_some (List.getElem?_eq_getElem (show i + 1 + d < L.length by omega))] at b
    have := (hok L (List.mem_of_getElem? hc) _ (List.getElem_mem (show i + 1 + d < L.length by omega))).l
    unfold endS at a b ⊢
    omega
theorem wok_sub {fr np : Int} {L M : List Win} (h : WOk fr np L) (s : M.Sublist L) : WOk fr np M := ⟨fun x hx => h.one x (s.subset hx), h.ord.sublist s⟩
theorem of_wok {fr np : Int} {C : List (List Win)} (h : ∀ (c : Nat) (L : List Win), C[c]? = some L → WOk fr np L) : eachF (windowsN fr np C) C = none := by
  refine (each_none _ _).2 fun c i L x hc hi => (windowsN_zero hc).2 ⟨(h c L hc).one x (List.mem_of_getElem? hi), fun h0 => ?_⟩
  have hil := (List.getElem?_eq_some_iff.1 hi).1
  have e := List.getElem?_eq_getElem (show i - 1 < L.length by omega)
  rw [winAt_some e]
  have q := List.pairwise_iff_getElem.1 (h c L hc).ord (i - 1) i (by omega) hil (by omega)
  rw [(List.getElem?_eq_some_iff.1 hi).2] at q
  exact q
/-- What windows of a core, and of two, are to each other. -/
structure POk (C : List (List Win)) : Prop where
  gang : ∀ (c : Nat) (L : List Win), C[c]? = some L → L.Pairwise fun a b => Win.g a = Win.g b → Win.g b = 0
  cross : ∀ (c d : Nat) (L M : List Win), C[c]? = some L → C[d]? = some M → c < d → ∀ x ∈ L, ∀ y ∈ M, crossN y x = 0
theorem pairsN_zero {C : List (List Win)} {c i : Nat} {L : List Win} {x : Win} (hc : C[c]? = some L) (hi : L[i]? = some x) : pairsN C c i x = 0 ↔ (∀ j y, j < i → L[j]? = some y → Win.g y = Win.g x → Win.g x = 0) ∧ ∀ (d : Nat) (M : List Win), C[d]? = some M → c < d → ∀ y ∈ M, crossN y x = 0 := by
  have hil := (List.getElem?_eq_some_iff.1 hi).1
  have key : twiceB (L.take i) (Win.g x) = true ↔ ¬ (∀ j y, j < i → L[j]? = some y → Win.g y = Win.g x → Win.g x = 0) := by
    rw [twiceB, List.any_eq_true]
    constructor
    · rintro ⟨y, hy, hq⟩ h
      obtain ⟨j, hj, rfl⟩ := List.getElem_of_mem hy
      rw [List.length_take] at hj
      rw [List.getElem_take] at hq
      simp only [Bool.and_eq_true, decide_eq_true_eq] at hq
      exact hq.2 (h j _ (by omega) (List.getElem?_eq_getElem (by omega)) hq.1)
    · intro h
      rcases Classical.em (∃ j y, j < i ∧ L[j]? = some y ∧ Win.g y = Win.g x ∧ Win.g x ≠ 0) with ⟨j, y, h1, h2, h3, h4⟩ | q
      · refine ⟨y, ?_, by simp [h3, h4]⟩
        have : (L.take i)[j]? = some y := by rw [List.getElem?_take_of_lt h1]; exact h2
        exact List.mem_of_getElem? this
      · refine absurd (fun j y h1 h2 h3 => ?_) h
        rcases Classical.em (Win.g x = 0) with z | z
        · exact z
        · exact absurd ⟨j, y, h1, h2, h3, z⟩ q
  unfold pairsN
  rw [coreAt_some hc]
  by_cases ht : twiceB (L.take i) (Win.g x) = true
  · rw [if_pos ht]
    constructor
    · intro q; cases q
    · rintro ⟨q, _⟩; exact absurd q (key.1 ht)
  · rw [if_neg ht]
    have hk : ∀ j y, j < i → L[j]? = some y → Win.g y = Win.g x → Win.g x = 0 := by
      rcases Classical.em (∀ j y, j < i → L[j]? = some y → Win.g y = Win.g x → Win.g x = 0) with q | q
      · exact q
      · exact absurd (key.2 q) ht
    constructor
    · intro h
      refine ⟨hk, fun d M hd hcd y hy => ?_⟩
      have hdl := (List.getElem?_eq_some_iff.1 hd).1
      have h1 := firstN_zero (show firstN _ _ = 0 from h) (d - (c + 1)) (by omega)
      rw [show c + 1 + (d - (c + 1)) = d by omega, coreAt_some hd] at h1
      obtain ⟨j, hj, rfl⟩ := List.getElem_of_mem hy
      have h2 := firstN_zero (show firstN _ _ = 0 from h1) j hj
      rw [winAt_some (List.getElem?_eq_getElem hj)] at h2
      exact h2
    · rintro ⟨_, h⟩
      refine firstN_zero_of fun k hk2 => firstN_zero_of fun j hj => ?_
      have e := List.getElem?_eq_getElem (show c + 1 + k < C.length by omega)
      rw [coreAt_some e] at hj ⊢
      rw [winAt_some (List.getElem?_eq_getElem hj)]
      exact h _ _ e (by omega) _ (List.getElem_mem hj)
theorem pok_of {C : List (List Win)} (h : eachF (pairsN C) C = none) : POk C := by
  have H := (each_none _ _).1 h
  refine ⟨fun c L hc => List.pairwise_iff_getElem.2 fun i j hi hj hij => ?_, fun c d L M hc hd hcd x hx y hy => ?_⟩
  · exact ((pairsN_zero hc (List.getElem?_eq_getElem hj)).1 (H c j L _ hc (List.getElem?_eq_getElem hj))).1 i _ hij (List.getElem?_eq_getElem hi)
  · obtain ⟨i, hi, rfl⟩ := List.getElem_of_mem hx
    exact ((pairsN_zero hc (List.getElem?_eq_getElem hi)).1 (H c i L _ hc (List.getElem?_eq_getElem hi))).2 d M hd hcd y hy
theorem of_pok {C : List (List Win)} (h : POk C) : eachF (pairsN C) C = none := by
  refine (each_none _ _).2 fun c i L x hc hi => (pairsN_zero hc hi).2 ⟨fun j y hj hy => ?_, fun d M hd hcd y hy => h.cross c d L M hc hd hcd x (List.mem_of_getElem? hi) y hy⟩
  have hil := (List.getElem?_eq_some_iff.1 hi).1
  have hjl := (List.getElem?_eq_some_iff.1 hy).1
  have q := List.pairwise_iff_getElem.1 (h.gang c L hc) j i hjl hil hj
  rw [(List.getElem?_eq_some_iff.1 hi).2, (List.getElem?_eq_some_iff.1 hy).2] at q
  exact q
/-- Each core has part of the other plan's windows, in order. -/
def Sub (C' C : List (List Win)) : Prop := C'.length = C.length ∧ ∀ (c : Nat) (L' : List Win), C'[c]? = some L' → ∃ L, C[c]? = some L ∧ L'.Sublist L
theorem pok_sub {C' C : List (List Win)} (s : Sub C' C) (h : POk C) : POk C' := by
  refine ⟨fun c L' hc => ?_, fun c d L' M' hc hd hcd x hx y hy => ?_⟩
  · obtain ⟨L, hL, sL⟩ := s.2 c L' hc
    exact (h.gang c L hL).sublist sL
  · obtain ⟨L, hL, sL⟩ := s.2 c L' hc
    obtain ⟨M, hM, sM⟩ := s.2 d M' hd
    exact h.cross c d L M hL hM hcd x (sL.subset hx) y (sM.subset hy)
theorem or_none {a b : Option Flt} (h : a = none) (k : b = none) : orElseF a b = none := by rw [h, k]; rfl
theorem orElse_none {a b : Option Flt} (h : orElseF a b = none) : a = none ∧ b = none := by
  cases a with
  | none => exact ⟨rfl, h⟩
  | some x => cases h
theorem sizes_of {P : Plan} {C' : List (List Win)} (Q' : List PairR) (s : Sub C' (Plan.cores P)) (h : sizesO P = none) : sizesO (Plan.frame P, C', Plan.parts P, Plan.chans P, Q', ()) = none := by
  have hz := (sizes_none h).2.2
  have e : sizesO (Plan.frame P, C', Plan.parts P, Plan.chans P, Q', ()) = if Plan.frame P = 0 then some (40, 0) else if C'.length < 1 ∨ 8 < C'.length then some (41, (C'.length : Int)) else if (Plan.parts P).length < 1 ∨ 64 < (Plan.parts P).length then some (42, ((Plan.parts P).length : Int)) else scan (manyF C') C'.length := rfl
  rw [e, s.1]
  unfold sizesO at h
  split at h
  · cases h
  · rename_i h1
    rw [if_neg h1]
    split at h
    · cases h
    · rename_i h2
      rw [if_neg h2]
      split at h
      · cases h
      · rename_i h3
        rw [if_neg h3]
        refine scan_none_of fun c hc => ?_
        have e := List.getElem?_eq_getElem (show c < C'.length by rw [s.1]; exact hc)
        obtain ⟨L, hL, sL⟩ := s.2 c _ e
        have h5 := hz L (List.mem_of_getElem? hL)
        have h6 := sL.length_le
        rw [manyF, List.getD_eq_getElem?_getD, e]
        simp only [Option.getD_some]
        rw [if_neg (by omega)]
theorem less_taken {P : Plan} (hok : ∀ L ∈ Plan.cores P, ∀ x ∈ L, Win.Ok x) (h : checkO P = none) {C' : List (List Win)} (s : Sub C' (Plan.cores P)) (Q' : List PairR) (hQ : Q' = Plan.pairs P ∨ Q' = []) : checkO (Plan.frame P, C', Plan.parts P, Plan.chans P, Q', ()) = none := by
  have R := rules_of (checkO_none.1 h)
  have hok' : ∀ L' ∈ C', ∀ x ∈ L', Win.Ok x := fun L' hL' x hx => by
    obtain ⟨c, hc, rfl⟩ := List.getElem_of_mem hL'
    obtain ⟨L, hL, sL⟩ := s.2 c _ (List.getElem?_eq_getElem hc)
    exact hok L (List.mem_of_getElem? hL) x (sL.subset hx)
  have hs := check_split P (fun L hL x hx => (hok L hL x hx).s.1)
  rw [h] at hs
  obtain ⟨h1, hs⟩ := orElse_none hs.symm
  obtain ⟨h2, hs⟩ := orElse_none hs
  obtain ⟨h3, hs⟩ := orElse_none hs
  obtain ⟨h4, hs⟩ := orElse_none hs
  obtain ⟨h5, h6⟩ := orElse_none hs
  rw [check_split ((Plan.frame P, C', Plan.parts P, Plan.chans P, Q', ()) : Plan) (fun L hL x hx => (hok' L hL x hx).s.1)]
  refine or_none (sizes_of Q' s h1) (or_none ?_ (or_none ?_ (or_none ?_ (or_none h5 h6))))
  · exact of_wok fun c L' hc => by
      obtain ⟨L, hL, sL⟩ := s.2 c L' hc
      exact wok_sub (wok_of hok h2 hL) sL
  · exact of_pok (pok_sub s (pok_of h3))
  · rcases hQ with rfl | rfl
    · refine scan_none_of fun i hi => ?_
      have hp := R.pair i hi
      show pairF ((Plan.parts P).length : Int) (allS C') (Plan.pairs P) i = none
      unfold pairF at hp ⊢
      split at hp
      · cases hp
      · rename_i q
        rw [if_neg q]
        refine or_none (orElse_none hp).1 (scan_none_of fun a ha => scan_none_of fun b hb => ?_)
        obtain ⟨c, i1, L', x, hc, hx, rfl⟩ := place_of C' a ha
        obtain ⟨d, i2, M', y, hd, hy, rfl⟩ := place_of C' b hb
        obtain ⟨L, hL, sL⟩ := s.2 c _ hc
        obtain ⟨M, hM, sM⟩ := s.2 d _ hd
        obtain ⟨j1, hj1, e1⟩ := List.getElem_of_mem (sL.subset (List.mem_of_getElem? hx))
        obtain ⟨j2, hj2, e2⟩ := List.getElem_of_mem (sM.subset (List.mem_of_getElem? hy))
        have e1' : L[j1]? = some x := by rw [List.getElem?_eq_getElem hj1, e1]
        have e2' : M[j2]? = some y := by rw [List.getElem?_eq_getElem hj2, e2]
        have eq : (Plan.pairs P)[i]? = some (Plan.pairs P)[i] := List.getElem?_eq_getElem hi
        unfold clashF
        rw [plAt_idx hc hx, plAt_idx hd hy, prAt_some eq, if_neg]
        exact clash_at R hL hM e1' e2' eq
    · rfl
theorem sub_refl (C : List (List Win)) : Sub C C := ⟨rfl, fun c L h => ⟨L, h, List.Sublist.refl _⟩⟩
theorem sub_set {C : List (List Win)} {c : Nat} {L : List Win} (hc : C[c]? = some L) (k : Nat) : Sub (C.set c (L.take k ++ L.drop (k + 1))) C := by
  refine ⟨by simp, fun d L' hd => ?_⟩
  rw [List.getElem?_set] at hd
  split at hd
  · rename_i e
    subst e
    split at hd
    · injection hd with hd
      subst hd
      exact ⟨L, hc, by rw [← List.eraseIdx_eq_take_drop_succ]; exact List.eraseIdx_sublist _ _⟩
    · cases hd
  · exact ⟨L', hd, List.Sublist.refl _⟩
end Go.Proofs.YtpcjjmjmigibhaaDoor
