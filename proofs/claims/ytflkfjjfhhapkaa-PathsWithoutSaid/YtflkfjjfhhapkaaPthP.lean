/- Paths between partitions: plain definitions, and what follows of them. No function of the program is named here. -/
import Derived.Test.YtflkfjjfhhapkaaPlanP
namespace Go.Proofs.Ytflkfjjfhhapkaa
set_option linter.unusedVariables false
set_option linter.unusedSimpArgs false

/-- Is a number a partition? -/
def inB (n : Nat) (p : Int) : Bool := decide (0 ≤ p) && decide (p < (n : Int))
theorem inB_iff {n : Nat} {p : Int} : inB n p = true ↔ 0 ≤ p ∧ p < (n : Int) := by simp [inB]
def rightB (n : Nat) (c : ChanR) : Bool := inB n (ChanR.f c) && inB n (ChanR.t c)
theorem rightB_iff {n : Nat} {c : ChanR} : rightB n c = true ↔ (0 ≤ ChanR.f c ∧ ChanR.f c < (n : Int)) ∧ 0 ≤ ChanR.t c ∧ ChanR.t c < (n : Int) := by simp [rightB, inB]
/-- One step from a into b. -/
def Step (n : Nat) (H : List ChanR) (a b : Nat) : Prop := ∃ c ∈ H, rightB n c = true ∧ ((ChanR.f c = (a : Int) ∧ ChanR.t c = (b : Int)) ∨ (ChanR.k c = 0 ∧ ChanR.t c = (a : Int) ∧ ChanR.f c = (b : Int)))
theorem Step.lt {n : Nat} {H : List ChanR} {a b : Nat} (h : Step n H a b) : a < n ∧ b < n := by
  obtain ⟨c, _, hr, h⟩ := h
  rw [rightB_iff] at hr
  omega
inductive Path (n : Nat) (H : List ChanR) : Nat → Nat → Prop
  | refl (a : Nat) : Path n H a a
  | step {a b c : Nat} : Step n H a b → Path n H b c → Path n H a c
theorem Path.trans {n : Nat} {H : List ChanR} {a b c : Nat} (h : Path n H a b) (k : Path n H b c) : Path n H a c := by
  induction h with
  | refl => exact k
  | step s _ ih => exact .step s (ih k)
theorem Path.one {n : Nat} {H : List ChanR} {a b : Nat} (h : Step n H a b) : Path n H a b := .step h (.refl _)
theorem Path.lt {n : Nat} {H : List ChanR} {a b : Nat} (h : Path n H a b) (hb : b < n) : a < n := by
  cases h with
  | refl => exact hb
  | step s _ => exact s.lt.1
theorem Path.lt' {n : Nat} {H : List ChanR} {a b : Nat} (h : Path n H a b) (ha : a < n) : b < n := by
  induction h with
  | refl => exact ha
  | step s _ ih => exact ih s.lt.2

open Classical in
/-- Who has a path into p. -/
noncomputable def intoL (n : Nat) (H : List ChanR) (p : Nat) : List Bool := (List.range n).map fun i => decide (Path n H i p)
open Classical in
noncomputable def outL (n : Nat) (H : List ChanR) (p : Nat) : List Bool := (List.range n).map fun i => decide (Path n H p i)
theorem intoL_len (n : Nat) (H : List ChanR) (p : Nat) : (intoL n H p).length = n := by simp [intoL]
theorem outL_len (n : Nat) (H : List ChanR) (p : Nat) : (outL n H p).length = n := by simp [outL]
theorem intoL_get {n : Nat} {H : List ChanR} {p i : Nat} (hi : i < n) : (intoL n H p).getD i false = true ↔ Path n H i p := by
  simp [intoL, List.getD_eq_getElem?_getD, hi]
theorem outL_get {n : Nat} {H : List ChanR} {p i : Nat} (hi : i < n) : (outL n H p).getD i false = true ↔ Path n H p i := by
  simp [outL, List.getD_eq_getElem?_getD, hi]
theorem bools_ext {K L : List Bool} (hl : K.length = L.length) (h : ∀ i, i < K.length → (K.getD i false = true ↔ L.getD i false = true)) : K = L := by
  apply List.ext_getElem hl
  intro i h1 h2
  have := h i h1
  simp only [List.getD_eq_getElem?_getD, List.getElem?_eq_getElem h1, List.getElem?_eq_getElem h2, Option.getD_some] at this
  exact Bool.eq_iff_iff.2 this
theorem intoL_of {n : Nat} {H : List ChanR} {p : Nat} {K : List Bool} (hl : K.length = n) (hp : K.getD p false = true) (hs : ∀ i, i < n → K.getD i false = true → Path n H i p) (hc : ∀ a b, Step n H a b → K.getD b false = true → K.getD a false = true) : K = intoL n H p := by
  refine bools_ext (by rw [hl, intoL_len]) (fun i hi => ?_)
  rw [intoL_get (by omega)]
  refine ⟨hs i (by omega), fun h => ?_⟩
  have : ∀ a b, Path n H a b → K.getD b false = true → K.getD a false = true := by
    intro a b h
    induction h with
    | refl => exact id
    | step s _ ih => exact fun q => hc _ _ s (ih q)
  exact this _ _ h hp
theorem outL_of {n : Nat} {H : List ChanR} {p : Nat} {K : List Bool} (hl : K.length = n) (hp : K.getD p false = true) (hs : ∀ i, i < n → K.getD i false = true → Path n H p i) (hc : ∀ a b, Step n H a b → K.getD a false = true → K.getD b false = true) : K = outL n H p := by
  refine bools_ext (by rw [hl, outL_len]) (fun i hi => ?_)
  rw [outL_get (by omega)]
  refine ⟨hs i (by omega), fun h => ?_⟩
  have : ∀ a b, Path n H a b → K.getD a false = true → K.getD b false = true := by
    intro a b h
    induction h with
    | refl => exact id
    | step s _ ih => exact fun q => ih (hc _ _ s q)
  exact this _ _ h hp
theorem set_get (K : List Bool) (i j : Nat) : (K.set i true).getD j false = (decide (j = i ∧ i < K.length) || K.getD j false) := by
  simp only [List.getD_eq_getElem?_getD, List.getElem?_set]
  by_cases h : i = j
  · subst h
    by_cases hl : i < K.length
    · simp [hl]
    · simp [hl]
  · have : ¬ (j = i ∧ i < K.length) := by omega
    simp [h, this]
theorem set_sub (K : List Bool) (i j : Nat) (h : K.getD j false = true) : (K.set i true).getD j false = true := by rw [set_get, h, Bool.or_true]
theorem set_at (K : List Bool) (i : Nat) (h : i < K.length) : (K.set i true).getD i false = true := by rw [set_get]; simp [h]
theorem set_of (K : List Bool) (i j : Nat) (h : (K.set i true).getD j false = true) : (j = i ∧ i < K.length) ∨ K.getD j false = true := by
  rw [set_get, Bool.or_eq_true, decide_eq_true_eq] at h; exact h
theorem get_lt {K : List Bool} {i : Nat} (h : K.getD i false = true) : i < K.length := by
  rcases Nat.lt_or_ge i K.length with q | q
  · exact q
  · rw [List.getD_eq_getElem?_getD, List.getElem?_eq_none q] at h; cases h

/-! ### Counting -/
def freeN (K : List Bool) : Nat := K.count false
theorem free_le {K L : List Bool} (hl : K.length = L.length) (h : ∀ i, K.getD i false = true → L.getD i false = true) : freeN L ≤ freeN K := by
  induction K generalizing L with
  | nil =>
    obtain rfl : L = [] := List.eq_nil_of_length_eq_zero (by simpa using hl.symm)
    exact Nat.le_refl _
  | cons x K ih =>
    cases L with
    | nil => cases hl
    | cons y L =>
      have a := ih (L := L) (by simpa using hl) (fun i hi => by have := h (i + 1); simpa using this (by simpa using hi))
      have b := h 0
      simp only [List.getD_cons_zero] at b
      unfold freeN at a ⊢
      rw [List.count_cons, List.count_cons]
      cases x <;> cases y <;> simp_all <;> omega
theorem free_lt {K L : List Bool} (hl : K.length = L.length) (h : ∀ i, K.getD i false = true → L.getD i false = true) (hne : K ≠ L) : freeN L < freeN K := by
  induction K generalizing L with
  | nil =>
    obtain rfl : L = [] := List.eq_nil_of_length_eq_zero (by simpa using hl.symm)
    exact absurd rfl hne
  | cons x K ih =>
    cases L with
    | nil => cases hl
    | cons y L =>
      have h' : ∀ i, K.getD i false = true → L.getD i false = true := fun i hi => by have := h (i + 1); simpa using this (by simpa using hi)
      have hl' : K.length = L.length := by simpa using hl
      have a := free_le hl' h'
      have b := h 0
      simp only [List.getD_cons_zero] at b
      by_cases e : K = L
      · subst e
        unfold freeN
        rw [List.count_cons, List.count_cons]
        cases x <;> cases y <;> simp_all
      · have a := ih hl' h' e
        unfold freeN at a ⊢
        rw [List.count_cons, List.count_cons]
        cases x <;> cases y <;> simp_all <;> omega
theorem free_set {K : List Bool} {i : Nat} (hi : i < K.length) (h : K.getD i false = false) : freeN (K.set i true) < freeN K := by
  refine free_lt (by simp) (fun j hj => set_sub K i j hj) (fun e => ?_)
  have := set_at K i hi
  rw [← e, h] at this
  cases this
theorem free_len (K : List Bool) : freeN K ≤ K.length := List.count_le_length

/-! ### A search in depth -/
structure Fol (n : Nat) (H : List ChanR) (K : List Bool) (a : Nat) (L : List Bool) : Prop where
  len : L.length = n
  sub : ∀ i, K.getD i false = true → L.getD i false = true
  at_ : L.getD a false = true
  sound : ∀ i, L.getD i false = true → K.getD i false = true ∨ Path n H i a
  closed : ∀ x, L.getD x false = true → K.getD x false = true ∨ ∀ y, Step n H y x → L.getD y false = true
def doneC (n : Nat) (c : ChanR) (a : Nat) (L : List Bool) : Prop := rightB n c = true → (ChanR.t c = (a : Int) → L.getD (ChanR.f c).toNat false = true) ∧ (ChanR.k c = 0 → ChanR.f c = (a : Int) → L.getD (ChanR.t c).toNat false = true)
theorem doneC.sub {n : Nat} {c : ChanR} {a : Nat} {L M : List Bool} (h : doneC n c a L) (s : ∀ i, L.getD i false = true → M.getD i false = true) : doneC n c a M := fun r => ⟨fun e => s _ ((h r).1 e), fun e q => s _ ((h r).2 e q)⟩
structure FolL (n : Nat) (H : List ChanR) (K : List Bool) (a j : Nat) (L : List Bool) : Prop where
  len : L.length = n
  sub : ∀ i, (K.set a true).getD i false = true → L.getD i false = true
  at_ : L.getD a false = true
  sound : ∀ i, L.getD i false = true → K.getD i false = true ∨ Path n H i a
  closed : ∀ x, L.getD x false = true → K.getD x false = true ∨ x = a ∨ ∀ y, Step n H y x → L.getD y false = true
  done : ∀ c ∈ H.take j, doneC n c a L
theorem FolL.start {n : Nat} {H : List ChanR} {K : List Bool} {a : Nat} (hl : K.length = n) (ha : a < n) : FolL n H K a 0 (K.set a true) := by
  refine ⟨by simpa using hl, fun i h => h, set_at K a (by omega), fun i h => ?_, fun x h => ?_, by simp⟩
  · rcases set_of K a i h with ⟨rfl, _⟩ | h
    · exact .inr (.refl _)
    · exact .inl h
  · rcases set_of K a x h with ⟨rfl, _⟩ | h
    · exact .inr (.inl rfl)
    · exact .inl h
theorem FolL.call {n : Nat} {H : List ChanR} {K L M : List Bool} {a j y : Nat} (h : FolL n H K a j L) (hs : Step n H y a) (f : Fol n H L y M) : FolL n H K a j M := by
  refine ⟨f.len, fun i q => f.sub i (h.sub i q), f.sub a h.at_, fun i q => ?_, fun x q => ?_, fun c hc => (h.done c hc).sub f.sub⟩
  · rcases f.sound i q with q | q
    · exact h.sound i q
    · exact .inr (q.trans (.one hs))
  · rcases f.closed x q with q | q
    · rcases h.closed x q with q | q | q
      · exact .inl q
      · exact .inr (.inl q)
      · exact .inr (.inr fun z hz => f.sub z (q z hz))
    · exact .inr (.inr q)
theorem FolL.next {n : Nat} {H : List ChanR} {K L : List Bool} {a j : Nat} {c : ChanR} (h : FolL n H K a j L) (hc : H[j]? = some c) (hd : doneC n c a L) : FolL n H K a (j + 1) L := by
  refine ⟨h.len, h.sub, h.at_, h.sound, h.closed, fun d hd' => ?_⟩
  rw [take_snoc hc, List.mem_append, List.mem_singleton] at hd'
  rcases hd' with q | rfl
  · exact h.done d q
  · exact hd
theorem FolL.fin {n : Nat} {H : List ChanR} {K L : List Bool} {a : Nat} (h : FolL n H K a H.length L) : Fol n H K a L := by
  refine ⟨h.len, fun i q => h.sub i (set_sub K a i q), h.at_, h.sound, fun x q => ?_⟩
  rcases h.closed x q with q | rfl | q
  · exact .inl q
  · refine .inr fun y ⟨c, hc, hr, e⟩ => ?_
    have hd := h.done c (by rw [List.take_length]; exact hc) hr
    rcases e with ⟨e1, e2⟩ | ⟨e0, e1, e2⟩
    · have := hd.1 e2
      rwa [e1, Int.toNat_natCast] at this
    · have := hd.2 e0 e2
      rwa [e1, Int.toNat_natCast] at this
  · exact .inr q
theorem rep_get (n i : Nat) : (List.replicate n false).getD i false = false := by
  rcases Nat.lt_or_ge i n with q | q
  · simp [List.getD_eq_getElem?_getD, q]
  · rw [List.getD_eq_getElem?_getD, List.getElem?_eq_none (by simpa using q)]; rfl
theorem Fol.into {n : Nat} {H : List ChanR} {p : Nat} {L : List Bool} (h : Fol n H (List.replicate n false) p L) : L = intoL n H p := by
  refine intoL_of h.len h.at_ (fun i _ q => ?_) (fun a b s q => ?_)
  · rcases h.sound i q with q | q
    · rw [rep_get] at q; cases q
    · exact q
  · rcases h.closed b q with q | q
    · rw [rep_get] at q; cases q
    · exact q a s

/-! ### Round by round: the reference's -/
def kn (K : List Bool) (p : Int) : Bool := K.getD p.toNat false
def midK (K : List Bool) (c : ChanR) : List Bool := if kn K (ChanR.t c) = true then K.set (ChanR.f c).toNat true else K
def stepK (n : Nat) (K : List Bool) (c : ChanR) : List Bool :=
  if rightB n c = true then (if (decide (ChanR.k c = 0) && kn (midK K c) (ChanR.f c)) = true then (midK K c).set (ChanR.t c).toNat true else midK K c) else K
def passK (n : Nat) (H : List ChanR) (K : List Bool) : List Bool := H.foldl (stepK n) K
theorem passK_snoc (n : Nat) (H : List ChanR) (K : List Bool) (c : ChanR) : passK n (H ++ [c]) K = stepK n (passK n H K) c := by simp [passK]
def itK (n : Nat) (H : List ChanR) (p : Nat) : Nat → List Bool
  | 0 => (List.replicate n false).set p true
  | j + 1 => passK n H (itK n H p j)
/-- A pass that only adds. -/
structure Adds (f : List Bool → List Bool) : Prop where
  len : ∀ K, (f K).length = K.length
  sub : ∀ K i, K.getD i false = true → (f K).getD i false = true
theorem fold_adds {f : List Bool → ChanR → List Bool} (hf : ∀ c, Adds fun K => f K c) (H : List ChanR) : Adds fun K => H.foldl f K := by
  induction H with
  | nil => exact ⟨fun _ => rfl, fun _ _ h => h⟩
  | cons c H ih => exact ⟨fun K => (ih.len _).trans ((hf c).len K), fun K i h => ih.sub _ i ((hf c).sub K i h)⟩
theorem same_of {K L : List Bool} (hl : K.length = L.length) (h1 : ∀ i, K.getD i false = true → L.getD i false = true) (h2 : ∀ i, L.getD i false = true → K.getD i false = true) : K = L := bools_ext hl fun i _ => ⟨h1 i, h2 i⟩
theorem fold_fix {f : List Bool → ChanR → List Bool} (hf : ∀ c, Adds fun K => f K c) (H : List ChanR) (K : List Bool) (h : H.foldl f K = K) : ∀ c ∈ H, f K c = K := by
  induction H with
  | nil => simp
  | cons c H ih =>
    have a := fold_adds hf H
    have e : f K c = K := by
      refine (same_of ((hf c).len K).symm ((hf c).sub K) (fun i q => ?_)).symm
      have := a.sub _ i q
      rwa [show H.foldl f (f K c) = K from h] at this
    have h' : H.foldl f K = K := by
      have : H.foldl f (f K c) = K := h
      rwa [e] at this
    intro d hd
    rcases List.mem_cons.1 hd with rfl | hd
    · exact e
    · exact ih h' d hd
theorem stepK_adds (n : Nat) (c : ChanR) : Adds fun K => stepK n K c := by
  refine ⟨fun K => ?_, fun K i h => ?_⟩
  · unfold stepK midK; repeat' split
    all_goals simp
  · unfold stepK midK; repeat' split
    all_goals first | exact h | exact set_sub _ _ _ h | exact set_sub _ _ _ (set_sub _ _ _ h)
theorem stepK_sound {n : Nat} {H : List ChanR} {K : List Bool} {c : ChanR} {p : Nat} (hc : c ∈ H) (hK : ∀ i, K.getD i false = true → Path n H i p) : ∀ i, (stepK n K c).getD i false = true → Path n H i p := by
  intro i hi
  unfold stepK at hi
  split at hi
  · rename_i hr
    have hr' := rightB_iff.1 hr
    have s1 : ∀ i, (midK K c).getD i false = true → Path n H i p := by
      intro i hi
      unfold midK at hi
      split at hi
      · rename_i ht
        rcases set_of _ _ _ hi with ⟨rfl, _⟩ | q
        · exact .step (b := (ChanR.t c).toNat) ⟨c, hc, hr, .inl ⟨by omega, by omega⟩⟩ (hK _ ht)
        · exact hK i q
      · exact hK i hi
    split at hi
    · rename_i hq
      rw [Bool.and_eq_true, decide_eq_true_eq] at hq
      rcases set_of _ _ _ hi with ⟨rfl, _⟩ | q
      · exact .step (b := (ChanR.f c).toNat) ⟨c, hc, hr, .inr ⟨hq.1, by omega, by omega⟩⟩ (s1 _ hq.2)
      · exact s1 i q
    · exact s1 i hi
  · exact hK i hi
theorem passK_sound {n : Nat} {H : List ChanR} {p : Nat} (G : List ChanR) (hG : ∀ c ∈ G, c ∈ H) {K : List Bool} (hK : ∀ i, K.getD i false = true → Path n H i p) : ∀ i, (passK n G K).getD i false = true → Path n H i p := by
  induction G generalizing K with
  | nil => exact hK
  | cons c G ih => exact ih (fun d hd => hG d (List.mem_cons_of_mem _ hd)) (stepK_sound (hG c (List.mem_cons_self ..)) hK)
theorem passK_closed {n : Nat} {H : List ChanR} {K : List Bool} (hl : K.length = n) (h : passK n H K = K) (a b : Nat) (s : Step n H a b) (hb : K.getD b false = true) : K.getD a false = true := by
  obtain ⟨c, hc, hr, e⟩ := s
  have hf := fold_fix (stepK_adds n) H K h c hc
  have hr' := rightB_iff.1 hr
  unfold stepK at hf
  rw [if_pos hr] at hf
  rcases e with ⟨e1, e2⟩ | ⟨e0, e1, e2⟩
  · have hk : kn K (ChanR.t c) = true := by rw [kn, e2, Int.toNat_natCast]; exact hb
    have hm : midK K c = K.set (ChanR.f c).toNat true := by rw [midK, if_pos hk]
    rw [hm] at hf
    have : (K.set (ChanR.f c).toNat true).getD a false = true := by rw [e1, Int.toNat_natCast]; exact set_at K a (by omega)
    rw [← hf]
    split
    · exact set_sub _ _ _ this
    · exact this
  · have hk : kn (midK K c) (ChanR.f c) = true := by
      rw [kn, e2, Int.toNat_natCast, midK]
      split
      · exact set_sub _ _ _ hb
      · exact hb
    rw [hk, e0] at hf
    simp only [decide_true, Bool.and_self, if_true] at hf
    rw [← hf, e1, Int.toNat_natCast]
    refine set_at _ a ?_
    unfold midK
    split
    · simp; omega
    · omega
theorem itK_len (n : Nat) (H : List ChanR) (p j : Nat) : (itK n H p j).length = n := by
  induction j with
  | zero => simp [itK]
  | succ j ih => exact ((fold_adds (stepK_adds n) H).len _).trans ih
theorem itK_into {n : Nat} {H : List ChanR} {p : Nat} (hp : p < n) : itK n H p n = intoL n H p := by
  have hs : ∀ j i, (itK n H p j).getD i false = true → Path n H i p := by
    intro j
    induction j with
    | zero =>
      intro i hi
      rcases set_of _ _ _ hi with ⟨rfl, _⟩ | q
      · exact .refl _
      · rw [rep_get] at q; cases q
    | succ j ih => exact passK_sound H (fun _ h => h) ih
  have hpp : ∀ j, (itK n H p j).getD p false = true := by
    intro j
    induction j with
    | zero => exact set_at _ _ (by simpa using hp)
    | succ j ih => exact (fold_adds (stepK_adds n) H).sub _ _ ih
  have hfix : ∀ j, passK n H (itK n H p j) = itK n H p j ∨ freeN (itK n H p j) + j + 1 ≤ n := by
    intro j
    induction j with
    | zero =>
      right
      have h1 := free_len (List.replicate n false)
      have h2 := free_set (K := List.replicate n false) (i := p) (by simpa using hp) (rep_get n p)
      rw [List.length_replicate] at h1
      show freeN ((List.replicate n false).set p true) + 0 + 1 ≤ n
      omega
    | succ j ih =>
      by_cases e : passK n H (itK n H p j) = itK n H p j
      · left
        show passK n H (passK n H (itK n H p j)) = passK n H (itK n H p j)
        rw [e, e]
      · right
        have h1 := ih.resolve_left e
        have h2 := free_lt (K := itK n H p j) (L := passK n H (itK n H p j)) ((fold_adds (stepK_adds n) H).len _).symm (fun i q => (fold_adds (stepK_adds n) H).sub _ i q) (fun q => e q.symm)
        show freeN (passK n H (itK n H p j)) + (j + 1) + 1 ≤ n
        omega
  have hn := (hfix n).resolve_right (by omega)
  exact intoL_of (itK_len n H p n) (hpp n) (fun i _ => hs n i) (passK_closed (itK_len n H p n) hn)

/-! ### Step by step: the program's -/
def stepO (n : Nat) (K : List Bool) (c : ChanR) : List Bool :=
  if rightB n c = true then
    (if kn K (ChanR.f c) = true then K.set (ChanR.t c).toNat true
     else if (kn K (ChanR.t c) && decide (ChanR.k c = 0)) = true then K.set (ChanR.f c).toNat true else K)
  else K
def passO (n : Nat) (H : List ChanR) (K : List Bool) : List Bool := H.foldl (stepO n) K
theorem passO_snoc (n : Nat) (H : List ChanR) (K : List Bool) (c : ChanR) : passO n (H ++ [c]) K = stepO n (passO n H K) c := by simp [passO]
theorem stepO_adds (n : Nat) (c : ChanR) : Adds fun K => stepO n K c := by
  refine ⟨fun K => ?_, fun K i h => ?_⟩
  · unfold stepO; repeat' split
    all_goals simp
  · unfold stepO; repeat' split
    all_goals first | exact h | exact set_sub _ _ _ h
theorem stepO_sound {n : Nat} {H : List ChanR} {K : List Bool} {c : ChanR} {p : Nat} (hc : c ∈ H) (hK : ∀ i, K.getD i false = true → Path n H p i) : ∀ i, (stepO n K c).getD i false = true → Path n H p i := by
  intro i hi
  unfold stepO at hi
  split at hi
  · rename_i hr
    have hr' := rightB_iff.1 hr
    split at hi
    · rename_i hf
      rcases set_of _ _ _ hi with ⟨rfl, _⟩ | q
      · exact (hK _ hf).trans (.one ⟨c, hc, hr, .inl ⟨by omega, by omega⟩⟩)
      · exact hK i q
    · split at hi
      · rename_i hq
        rw [Bool.and_eq_true, decide_eq_true_eq] at hq
        rcases set_of _ _ _ hi with ⟨rfl, _⟩ | q
        · exact (hK _ hq.1).trans (.one ⟨c, hc, hr, .inr ⟨hq.2, by omega, by omega⟩⟩)
        · exact hK i q
      · exact hK i hi
  · exact hK i hi
theorem passO_sound {n : Nat} {H : List ChanR} {p : Nat} (G : List ChanR) (hG : ∀ c ∈ G, c ∈ H) {K : List Bool} (hK : ∀ i, K.getD i false = true → Path n H p i) : ∀ i, (passO n G K).getD i false = true → Path n H p i := by
  induction G generalizing K with
  | nil => exact hK
  | cons c G ih => exact ih (fun d hd => hG d (List.mem_cons_of_mem _ hd)) (stepO_sound (hG c (List.mem_cons_self ..)) hK)
theorem passO_closed {n : Nat} {H : List ChanR} {K : List Bool} (hl : K.length = n) (h : passO n H K = K) (a b : Nat) (s : Step n H a b) (ha : K.getD a false = true) : K.getD b false = true := by
  obtain ⟨c, hc, hr, e⟩ := s
  have hf := fold_fix (stepO_adds n) H K h c hc
  have hr' := rightB_iff.1 hr
  unfold stepO at hf
  rw [if_pos hr] at hf
  rcases e with ⟨e1, e2⟩ | ⟨e0, e1, e2⟩
  · have hk : kn K (ChanR.f c) = true := by rw [kn, e1, Int.toNat_natCast]; exact ha
    rw [if_pos hk, e2, Int.toNat_natCast] at hf
    rw [← hf]
    exact set_at K b (by omega)
  · by_cases hk : kn K (ChanR.f c) = true
    · rw [kn, e2, Int.toNat_natCast] at hk
      exact hk
    · have ht : kn K (ChanR.t c) = true := by rw [kn, e1, Int.toNat_natCast]; exact ha
      rw [if_neg hk, ht, e0] at hf
      simp only [decide_true, Bool.and_self, if_true] at hf
      rw [← hf, e2, Int.toNat_natCast]
      exact set_at K b (by omega)
/-- The state between two passes: what is known, and what was. -/
structure OutSt (n : Nat) (H : List ChanR) (p : Nat) (K W : List Bool) : Prop where
  len : K.length = n
  wlen : W.length = n
  at_ : K.getD p false = true
  sound : ∀ i, K.getD i false = true → Path n H p i
  pass : K = W → passO n H K = K
theorem OutSt.start {n : Nat} {H : List ChanR} {p : Nat} (hp : p < n) : OutSt n H p ((List.replicate n false).set p true) (List.replicate n false) := by
  refine ⟨by simp, by simp, set_at _ _ (by simpa using hp), fun i hi => ?_, fun e => ?_⟩
  · rcases set_of _ _ _ hi with ⟨rfl, _⟩ | q
    · exact .refl _
    · rw [rep_get] at q; cases q
  · have h1 := set_at (List.replicate n false) p (by simpa using hp)
    rw [e, rep_get] at h1; cases h1
theorem OutSt.next {n : Nat} {H : List ChanR} {p : Nat} {K W : List Bool} (h : OutSt n H p K W) : OutSt n H p (passO n H K) K :=
  ⟨((fold_adds (stepO_adds n) H).len K).trans h.len, h.len, (fold_adds (stepO_adds n) H).sub K p h.at_, passO_sound H (fun _ q => q) h.sound, fun e => by rw [e]; exact e⟩
theorem OutSt.fin {n : Nat} {H : List ChanR} {p : Nat} {K : List Bool} (h : OutSt n H p K K) : K = outL n H p :=
  outL_of h.len h.at_ (fun i _ => h.sound i) (passO_closed h.len (h.pass rfl))
open Classical in
noncomputable def outM (K W : List Bool) : Nat := 2 * freeN K + if K = W then 0 else 1
theorem OutSt.less {n : Nat} {H : List ChanR} {p : Nat} {K W : List Bool} (h : OutSt n H p K W) (hne : K ≠ W) : outM (passO n H K) K < outM K W := by
  unfold outM
  rw [if_neg hne]
  by_cases e : passO n H K = K
  · rw [if_pos e, e]; omega
  · rw [if_neg e]
    have := free_lt (K := K) (L := passO n H K) ((fold_adds (stepO_adds n) H).len K).symm (fun i q => (fold_adds (stepO_adds n) H).sub K i q) (fun q => e q.symm)
    omega
end Go.Proofs.Ytflkfjjfhhapkaa
