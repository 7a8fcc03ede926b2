/- The gap of a plan that is taken: marks on a row, and the longest run without one. Plain: no function of the program is named here. -/
import Derived.Test.YtmfddaihepjfeaaTabT
import Derived.Test.YtmfddaihepjfeaaTabX
import Derived.Test.YtmfddaihepjfeaaTabS
namespace Go.Proofs.Ytmfddaihepjfeaa
set_option linter.unusedVariables false
set_option linter.unusedSimpArgs false

theorem snoc_ind {α : Type} {p : List α → Prop} (h0 : p []) (hs : ∀ l x, p l → p (l ++ [x])) (l : List α) : p l := by
  rw [← List.reverse_reverse l]
  induction l.reverse with
  | nil => exact h0
  | cons x r ih => rw [List.reverse_cons]; exact hs _ _ ih
theorem range_snoc (u : Nat → Bool) (k : Nat) : (List.range (k + 1)).map u = (List.range k).map u ++ [u k] := by
  rw [List.range_succ, List.map_append]; rfl
theorem run_inv (u : Nat → Bool) (k : Nat) : ∃ M R : Nat, runS ((List.range k).map u) (0, 0) = ((M : Int), (R : Int)) ∧ R ≤ k ∧ (∀ j, k - R ≤ j → j < k → u j = false) ∧ (R < k → u (k - R - 1) = true) ∧
    (∀ k' r, k' ≤ k → r ≤ k' → (∀ j, k' - r ≤ j → j < k' → u j = false) → r ≤ M) ∧ (∃ k', k' ≤ k ∧ M ≤ k' ∧ ∀ j, k' - M ≤ j → j < k' → u j = false) := by
  induction k with
  | zero => exact ⟨0, 0, rfl, by omega, by omega, by omega, by omega, 0, by omega, by omega, by omega⟩
  | succ k ih =>
    obtain ⟨M, R, e, h1, h2, h3, h4, k', h5, h6, h7⟩ := ih
    rw [range_snoc, runS_snoc, e, stepR]
    cases hu : u k with
    | true =>
      refine ⟨M, 0, ?_, by omega, by omega, fun _ => by simpa using hu, ?_, k', by omega, h6, h7⟩
      · simp
      · intro q r hq hr h
        by_cases hqk : q ≤ k
        · exact h4 q r hqk hr h
        · obtain rfl : q = k + 1 := by omega
          by_cases hr0 : r = 0
          · omega
          · have := h k (by omega) (by omega)
            rw [hu] at this; cases this
    | false =>
      have hrun : ∀ j, k + 1 - (R + 1) ≤ j → j < k + 1 → u j = false := by
        intro j a b
        by_cases hj : j = k
        · rw [hj]; exact hu
        · exact h2 j (by omega) (by omega)
      refine ⟨max M (R + 1), R + 1, ?_, by omega, hrun, fun h => ?_, ?_, ?_⟩
      · simp
        omega
      · have := h3 (by omega)
        rwa [show k + 1 - (R + 1) - 1 = k - R - 1 by omega]
      · intro q r hq hr h
        by_cases hqk : q ≤ k
        · have := h4 q r hqk hr h
          omega
        · obtain rfl : q = k + 1 := by omega
          by_cases hrr : r ≤ R + 1
          · omega
          · have h' := h3 (by omega)
            rw [h (k - R - 1) (by omega) (by omega)] at h'
            cases h'
      · by_cases hm : R + 1 ≤ M
        · exact ⟨k', by omega, by omega, fun j a b => h7 j (by omega) b⟩
        · exact ⟨k + 1, by omega, by omega, fun j a b => hrun j (by omega) b⟩
theorem rep_two (s : Nat → Bool) (n : Nat) : repL ((List.range n).map s) 2 = (List.range (2 * n)).map fun i => s (i % n) := by
  have e : repL ((List.range n).map s) 2 = (List.range n).map s ++ (List.range n).map s := by simp [repL, List.replicate]
  rw [e, show 2 * n = n + n by omega, List.range_add, List.map_append, List.map_map]
  congr 1
  · apply List.map_congr_left
    intro i hi
    have := List.mem_range.1 hi
    rw [Nat.mod_eq_of_lt this]
  · apply List.map_congr_left
    intro i hi
    have := List.mem_range.1 hi
    simp [Nat.mod_eq_of_lt this]
theorem runL_le (s : Nat → Bool) (n a : Nat) : runL s n a ≤ n := by
  have := List.findIdx_le_length (p := fun i => s ((a + i) % n)) (xs := List.range n)
  simpa [runL] using this
theorem runL_not (s : Nat → Bool) (n a j : Nat) (h : j < runL s n a) : s ((a + j) % n) = false := by
  have hn := runL_le s n a
  have := List.not_of_lt_findIdx (p := fun i => s ((a + i) % n)) (xs := List.range n) h
  simpa using this
theorem runL_ge (s : Nat → Bool) (n a r : Nat) (hr : r ≤ n) (h : ∀ j, j < r → s ((a + j) % n) = false) : r ≤ runL s n a := by
  rcases Nat.lt_or_ge (runL s n a) r with q | q
  · have hl : runL s n a < (List.range n).length := by rw [List.length_range]; omega
    have h2 := List.findIdx_getElem (p := fun i => s ((a + i) % n)) (xs := List.range n) (w := hl)
    have h3 : s ((a + runL s n a) % n) = true := by
      have h4 : (List.range n)[runL s n a]'hl = runL s n a := List.getElem_range _
      unfold runL at h4 ⊢
      simp only [h4] at h2
      exact h2
    rw [h _ q] at h3; cases h3
  · exact q
theorem runL_mod (s : Nat → Bool) (n a : Nat) : runL s n (a % n) = runL s n a := by
  unfold runL
  congr 1
  funext i
  rw [Nat.mod_add_mod]
theorem run_max (s : Nat → Bool) (n t : Nat) (ht : t < n) (hs : s t = true) : (runS (repL ((List.range n).map s) 2) (0, 0)).1 = (maxN (runL s n) n : Nat) := by
  obtain ⟨M, R, e, h1, h2, h3, h4, k', h5, h6, h7⟩ := run_inv (fun i => s (i % n)) (2 * n)
  rw [rep_two, e]
  show (M : Int) = _
  have ha : M ≤ maxN (runL s n) n := by
    have hM : M ≤ n := by
      rcases Nat.lt_or_ge n M with q | q
      · exfalso
        have hk := h7 (t + n * ((k' - 1 - t) / n))
        have hd := Nat.div_add_mod (k' - 1 - t) n
        have hm := Nat.mod_lt (k' - 1 - t) (show 0 < n by omega)
        have := hk (by omega) (by omega)
        simp only [Nat.add_mul_mod_self_left, Nat.mod_eq_of_lt ht, hs] at this
        cases this
      · exact q
    refine Nat.le_trans (runL_ge s n (k' - M) M hM (fun j hj => h7 (k' - M + j) (by omega) (by omega))) ?_
    rw [← runL_mod]
    exact maxN_le _ (Nat.mod_lt _ (by omega))
  have hb : maxN (runL s n) n ≤ M := by
    rcases Nat.eq_zero_or_pos (maxN (runL s n) n) with q | q
    · omega
    · obtain ⟨j, hj, ej⟩ := maxN_mem q
      rw [← ej]
      have hl := runL_le s n j
      refine h4 (j + runL s n j) _ (by omega) (by omega) (fun i a b => ?_)
      have := runL_not s n j (i - j) (by omega)
      rwa [show j + (i - j) = i by omega] at this
  omega

theorem markL_get (l : List Bool) (s k t : Nat) (ht : t < l.length) : (markL l s k)[t]? = some (l[t] || (decide (s ≤ t) && decide (t < s + k))) := by
  simp [markL, List.getElem?_mapIdx, List.getElem?_eq_getElem ht]
theorem marks_len (n : Nat) (d : List Win) : (marksS n d).1.length = n := by
  refine snoc_ind (p := fun d => (marksS n d).1.length = n) ?_ (fun d x ih => ?_) d
  · simp [marksS]
  · rw [marksS_snoc]; simpa [markL_len] using ih
theorem marks_eq (n : Nat) (d : List Win) (hd : ∀ x ∈ d, Win.Ok x) : (marksS n d).1 = (List.range n).map fun t : Nat => d.any fun x => hasS x (t : Int) := by
  have hl := marks_len n
  revert hd
  refine snoc_ind (p := fun d => (∀ x ∈ d, Win.Ok x) → (marksS n d).1 = (List.range n).map fun t : Nat => d.any fun x => hasS x (t : Int)) ?_ (fun d x ih hd => ?_) d
  · intro _; simp [marksS, List.map_const']
  · rw [marksS_snoc]
    apply List.ext_getElem?
    intro t
    rcases Nat.lt_or_ge t n with q | q
    · show (markL _ _ _)[t]? = _
      have okx := hd x (by simp)
      have e0 := hl d
      have hx : (decide ((Win.s x).toNat ≤ t) && decide (t < (Win.s x).toNat + (Win.l x).toNat)) = hasS x (t : Int) := by
        have := okx.s.1; have := okx.l.1
        unfold hasS
        congr 1
        · rw [decide_eq_decide]; omega
        · rw [decide_eq_decide]; omega
      have he := ih (fun y hy => hd y (by simp [hy]))
      rw [markL_get _ _ _ _ (by omega), hx]
      have e1 : (marksS n d).1[t]'(by omega) = (d.any fun x => hasS x (t : Int)) := by
        have : (marksS n d).1[t]? = some (d.any fun x => hasS x (t : Int)) := by rw [he]; simp [q]
        rw [List.getElem?_eq_getElem (by omega)] at this
        exact Option.some.inj this
      rw [e1]
      simp [q]
    · have a : (marksS n (d ++ [x])).1.length = n := hl _
      rw [marksS_snoc] at a
      rw [List.getElem?_eq_none (by omega), List.getElem?_eq_none (by simpa using q)]
theorem marks_never (n : Nat) (d : List Win) (hd : ∀ x ∈ d, 1 ≤ Win.l x ∧ 0 ≤ Win.s x ∧ Win.s x + Win.l x ≤ (n : Int)) : (marksS n d).2 = d.isEmpty := by
  have hl := marks_len n
  revert hd
  refine snoc_ind (p := fun d : List Win => (∀ x ∈ d, 1 ≤ Win.l x ∧ 0 ≤ Win.s x ∧ Win.s x + Win.l x ≤ (n : Int)) → (marksS n d).2 = d.isEmpty) ?_ (fun d x ih hd => ?_) d
  · intro _; rfl
  · have hx := hd x (by simp)
    rw [marksS_snoc]
    show nevB _ _ _ _ = _
    rw [hl, nevB]
    have h1 : 0 < (Win.l x).toNat := by omega
    have h2 : (Win.s x).toNat < n := by omega
    simp [h1, h2]

theorem serves_some {F b : Int} {L : List Win} (h : Ord F b L) (hok : ∀ x ∈ L, Win.Ok x) (t p : Int) (hp : 0 ≤ p) : servesS L t = p ↔ ∃ x ∈ L, hasS x t = true ∧ Win.p x = p := by
  induction L generalizing b with
  | nil =>
    constructor
    · intro e
      have : servesS [] t = -1 := rfl
      rw [this] at e; omega
    · rintro ⟨x, hx, _⟩; cases hx
  | cons x L ih =>
    obtain ⟨h1, h2, h3, h4⟩ := h
    rw [serves_cons]
    by_cases q : hasS x t = true
    · rw [if_pos q]
      constructor
      · intro e; exact ⟨x, List.mem_cons_self .., q, e⟩
      · rintro ⟨y, hy, hq, e⟩
        rcases List.mem_cons.1 hy with rfl | hy
        · exact e
        · exfalso
          have hb := serves_below h4 t (by rw [hasS_iff] at q; omega)
          have := (ih h4 (fun z hz => hok z (List.mem_cons_of_mem _ hz))).2 ⟨y, hy, hq, e⟩
          omega
    · rw [if_neg q, ih h4 (fun z hz => hok z (List.mem_cons_of_mem _ hz))]
      constructor
      · rintro ⟨y, hy, a⟩; exact ⟨y, List.mem_cons_of_mem _ hy, a⟩
      · rintro ⟨y, hy, a, e⟩
        rcases List.mem_cons.1 hy with rfl | hy
        · exact absurd a q
        · exact ⟨y, hy, a, e⟩
theorem served_iff {P : Plan} (hok : ∀ L ∈ Plan.cores P, ∀ x ∈ L, Win.Ok x) (R : Rules P) (part : Int) (t : Nat) : servedB (Plan.cores P) part t = (matchS (Plan.cores P) part).any fun x => hasS x (t : Int) := by
  rw [Bool.eq_iff_iff, servedB, List.any_eq_true, List.any_eq_true]
  constructor
  · rintro ⟨L, hL, h⟩
    obtain ⟨c, hc, rfl⟩ := List.getElem_of_mem hL
    simp only [cellB, Bool.and_eq_true, decide_eq_true_eq] at h
    obtain ⟨x, hx, a, e⟩ := (serves_some (ord_core R hok (List.getElem?_eq_getElem hc)) (hok _ hL) (t : Int) part h.1).1 h.2
    exact ⟨x, List.mem_filter.2 ⟨List.mem_flatten.2 ⟨_, hL, hx⟩, by simpa using e⟩, a⟩
  · rintro ⟨x, hx, a⟩
    obtain ⟨hm, e⟩ := List.mem_filter.1 hx
    obtain ⟨L, hL, hx⟩ := List.mem_flatten.1 hm
    obtain ⟨c, hc, rfl⟩ := List.getElem_of_mem hL
    have e : Win.p x = part := by simpa using e
    have hp : 0 ≤ part := by have := (hok _ hL x hx).p.1; omega
    refine ⟨_, hL, ?_⟩
    simp only [cellB, Bool.and_eq_true, decide_eq_true_eq]
    exact ⟨hp, (serves_some (ord_core R hok (List.getElem?_eq_getElem hc)) (hok _ hL) (t : Int) part hp).2 ⟨x, hx, a, e⟩⟩
theorem match_fits {P : Plan} (hok : ∀ L ∈ Plan.cores P, ∀ x ∈ L, Win.Ok x) (R : Rules P) (part : Int) : ∀ x ∈ matchS (Plan.cores P) part, Win.Ok x ∧ 1 ≤ Win.l x ∧ 0 ≤ Win.s x ∧ Win.s x + Win.l x ≤ Plan.frame P := by
  intro x hx
  obtain ⟨hm, e⟩ := List.mem_filter.1 hx
  obtain ⟨L, hL, hx⟩ := List.mem_flatten.1 hm
  obtain ⟨c, hc, rfl⟩ := List.getElem_of_mem hL
  obtain ⟨i, hi, rfl⟩ := List.getElem_of_mem hx
  have ok := hok _ hL _ hx
  have a := order_at R (List.getElem?_eq_getElem hc) (List.getElem?_eq_getElem hi)
  have := ok.l.1
  exact ⟨ok, by omega, ok.s.1, a.2.1⟩
theorem gap_eq {P : Plan} (hok : ∀ L ∈ Plan.cores P, ∀ x ∈ L, Win.Ok x) (R : Rules P) (part : Int) (n : Nat) (hn : Plan.frame P = (n : Int)) : gapV n (matchS (Plan.cores P) part) = (maxN (runL (servedB (Plan.cores P) part) n) n : Nat) := by
  have hf := match_fits hok R part
  rw [hn] at hf
  have hs : servedB (Plan.cores P) part = fun t : Nat => (matchS (Plan.cores P) part).any fun x => hasS x (t : Int) := funext fun t => served_iff hok R part t
  rw [gapV, marks_never n _ (fun x hx => (hf x hx).2), marks_eq n _ (fun x hx => (hf x hx).1), hs]
  cases hd : matchS (Plan.cores P) part with
  | nil =>
    have hn0 : 0 < n := by have := R.frame; omega
    have h1 : ∀ a, runL (fun t : Nat => ([] : List Win).any fun x => hasS x (t : Int)) n a = n := fun a => runL_eq (Nat.le_refl _) (fun j _ => rfl) (.inl rfl)
    have h2 := maxN_le (f := runL (fun t : Nat => ([] : List Win).any fun x => hasS x (t : Int)) n) (k := n) 0 hn0
    rw [h1 0] at h2
    obtain ⟨j, _, h3⟩ := maxN_mem (f := runL (fun t : Nat => ([] : List Win).any fun x => hasS x (t : Int)) n) (k := n) (by omega)
    rw [h1 j] at h3
    show (n : Int) = _
    omega
  | cons x d =>
    have hx := hf x (by rw [hd]; exact List.mem_cons_self ..)
    show (runS _ _).1 = _
    refine run_max _ n (Win.s x).toNat (by omega) ?_
    have : hasS x ((Win.s x).toNat : Int) = true := by rw [hasS_iff]; omega
    simp only [List.any_cons, this, Bool.true_or]
end Go.Proofs.Ytmfddaihepjfeaa
