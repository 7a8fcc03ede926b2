/- Layer 23, the plain law: what members and their word keep to. -/
import Derived.Test.YtnidplpjkhepmaaDoorGangB
namespace Go.Proofs.YtnidplpjkhepmaaDoor
set_option linter.unusedVariables false
set_option linter.unusedSimpArgs false

def upd {α : Type} (f : Nat → α) (i : Nat) (a : α) : Nat → α := fun j => if j = i then a else f j
theorem upd_self {α : Type} (f : Nat → α) (i : Nat) (a : α) : upd f i a i = a := by simp [upd]
theorem upd_ne {α : Type} (f : Nat → α) (i j : Nat) (a : α) (h : j ≠ i) : upd f i a j = f j := by simp [upd, h]
/-- How many of the first n are r. -/
def cnt (C : Nat → Int) (r : Int) : Nat → Nat
  | 0 => 0
  | n + 1 => cnt C r n + if C n = r then 1 else 0
theorem cnt_le (C : Nat → Int) (r : Int) (n : Nat) : cnt C r n ≤ n := by
  induction n with
  | zero => exact Nat.le_refl _
  | succ n ih => unfold cnt; split <;> omega
theorem cnt_zero (C : Nat → Int) (r : Int) (n : Nat) (h : ∀ j < n, C j ≠ r) : cnt C r n = 0 := by
  induction n with
  | zero => rfl
  | succ n ih => unfold cnt; rw [ih (fun j hj => h j (by omega)), if_neg (h n (by omega))]
theorem cnt_pos (C : Nat → Int) (r : Int) (n : Nat) (h : 1 ≤ cnt C r n) : ∃ j < n, C j = r := by
  apply Classical.byContradiction
  intro hc
  have := cnt_zero C r n (fun j hj e => hc ⟨j, hj, e⟩)
  omega
theorem cnt_all (C : Nat → Int) (r : Int) (n : Nat) (h : cnt C r n = n) : ∀ j < n, C j = r := by
  induction n with
  | zero => intro j hj; omega
  | succ n ih =>
    unfold cnt at h
    have hl := cnt_le C r n
    intro j hj
    by_cases e : C n = r
    · rw [if_pos e] at h
      by_cases e2 : j = n
      · subst e2; exact e
      · exact ih (by omega) j (by omega)
    · rw [if_neg e] at h; omega
theorem cnt_upd (C : Nat → Int) (r : Int) (n i : Nat) (hi : C i ≠ r) : cnt (upd C i r) r n = cnt C r n + if i < n then 1 else 0 := by
  induction n with
  | zero => simp [cnt]
  | succ n ih =>
    unfold cnt
    rw [ih]
    by_cases e : n = i
    · subst e
      rw [upd_self, if_neg hi]
      simp
    · rw [upd_ne _ _ _ _ e]
      by_cases h : i < n
      · rw [if_pos h, if_pos (show i < n + 1 by omega)]; omega
      · rw [if_neg h, if_neg (show ¬ i < n + 1 by omega)]; omega

/-- What n members X, their word W and the greatest rounds C that they have come to keep to. -/
structure PInv (n : Nat) (X : Nat → Mb) (W : Int) (C : Nat → Int) : Prop where
  W0 : 0 ≤ W
  zero : W / 16 = 0 → W = 0
  leR : ∀ i < n, C i ≤ W / 16
  cn : 0 < W / 16 → (cnt C (W / 16) n : Int) = W % 16 ∧ 1 ≤ W % 16
  ok : ∀ i < n, (X i).Ok
  nn : ∀ i < n, (X i).n = (n : Int)
  le : ∀ i < n, 0 ≤ C i ∧ C i ≤ (X i).rd
  p0 : ∀ i < n, (X i).ph ≠ 0 → 1 ≤ (X i).rd
  p12 : ∀ i < n, (X i).ph = 1 ∨ (X i).ph = 2 → (X i).came = false ∧ (X i).entered = false ∧ (X i).missed = false ∧ C i < (X i).rd
  p2 : ∀ i < n, (X i).ph = 2 → (X i).wd / 16 ≤ (X i).rd
  p3 : ∀ i < n, (X i).ph = 3 → (X i).came = true ∧ (X i).entered = false ∧ (X i).missed = false
  cm : ∀ i < n, (X i).came = true → C i = (X i).rd
  ent : ∀ i < n, (X i).entered = true → (X i).came = true ∧ (X i).missed = false ∧ ∀ j < n, (X i).rd ≤ C j
  mis : ∀ i < n, (X i).missed = true → ∃ j < n, j ≠ i ∧ (X i).rd < C j

theorem PInv.start (n : Nat) (h : 1 ≤ n ∧ n ≤ 8) : PInv n (fun _ => ⟨0, n, 0, 0, 0, false, false, false⟩) 0 (fun _ => 0) := by
  refine ⟨by decide, fun _ => rfl, fun i hi => by decide, fun h => absurd h (by decide), fun i hi => ⟨rfl, ⟨by simp; omega, by simp; omega⟩, by simp, by simp, by simp⟩, fun i hi => rfl, fun i hi => by simp, fun i hi h => absurd rfl h, fun i hi h => by simp at h, fun i hi h => by simp at h, fun i hi h => by simp at h, fun i hi h => by simp at h, fun i hi h => by simp at h, fun i hi h => by simp at h⟩

theorem PInv.begin {n : Nat} {X : Nat → Mb} {W : Int} {C : Nat → Int} (p : PInv n X W C) (i : Nat) (hi : i < n) (r : Int) (r0 : 0 ≤ r) (hb : beginOk (X i) r) : PInv n (upd X i (beginS (X i) r)) W C := by
  have hx : beginS (X i) r = ⟨(X i).at_, (X i).n, 1, r, 0, false, false, false⟩ := by rw [beginS, if_pos hb]
  rw [hx]
  have hok := p.ok i hi
  have hrd := hok.rd
  have hle := p.le i hi
  have hb1 := hb.1
  have hb2 := hb.2
  have key : ∀ (Q : Nat → Mb → Prop), (∀ j < n, Q j (X j)) → Q i ⟨(X i).at_, (X i).n, 1, r, 0, false, false, false⟩ → ∀ j < n, Q j (upd X i ⟨(X i).at_, (X i).n, 1, r, 0, false, false, false⟩ j) := by
    intro Q h1 h2 j hj
    by_cases e : j = i
    · subst e; rw [upd_self]; exact h2
    · rw [upd_ne _ _ _ _ e]; exact h1 j hj
  refine ⟨p.W0, p.zero, p.leR, p.cn, key (fun j x => x.Ok) p.ok ⟨hok.a, hok.n, by simp, ⟨r0, Int.lt_of_le_of_lt hb1 (by decide)⟩, by simp⟩, key (fun j x => x.n = n) p.nn (p.nn i hi), key (fun j x => 0 ≤ C j ∧ C j ≤ x.rd) p.le ⟨hle.1, by show C i ≤ r; omega⟩,
    key (fun j x => x.ph ≠ 0 → 1 ≤ x.rd) p.p0 (fun _ => by show 1 ≤ r; omega), key (fun j x => x.ph = 1 ∨ x.ph = 2 → x.came = false ∧ x.entered = false ∧ x.missed = false ∧ C j < x.rd) p.p12 (fun _ => ⟨rfl, rfl, rfl, by show C i < r; omega⟩),
    key (fun j x => x.ph = 2 → x.wd / 16 ≤ x.rd) p.p2 (fun h => by simp at h), key (fun j x => x.ph = 3 → x.came = true ∧ x.entered = false ∧ x.missed = false) p.p3 (fun h => by simp at h),
    key (fun j x => x.came = true → C j = x.rd) p.cm (fun h => by simp at h), key (fun j x => x.entered = true → x.came = true ∧ x.missed = false ∧ ∀ k < n, x.rd ≤ C k) p.ent (fun h => by simp at h),
    key (fun j x => x.missed = true → ∃ k < n, k ≠ j ∧ x.rd < C k) p.mis (fun h => by simp at h)⟩

theorem PInv.put {n : Nat} {X : Nat → Mb} {W : Int} {C : Nat → Int} (p : PInv n X W C) (i : Nat) (hi : i < n) (x : Mb) (ok : x.Ok) (hn : x.n = (X i).n) (hr : x.rd = (X i).rd) (p0 : x.ph ≠ 0 → 1 ≤ x.rd)
    (p12 : x.ph = 1 ∨ x.ph = 2 → x.came = false ∧ x.entered = false ∧ x.missed = false ∧ C i < x.rd) (p2 : x.ph = 2 → x.wd / 16 ≤ x.rd) (p3 : x.ph = 3 → x.came = true ∧ x.entered = false ∧ x.missed = false)
    (cm : x.came = true → C i = x.rd) (ent : x.entered = true → x.came = true ∧ x.missed = false ∧ ∀ k < n, x.rd ≤ C k) (mis : x.missed = true → ∃ k < n, k ≠ i ∧ x.rd < C k) : PInv n (upd X i x) W C := by
  have key : ∀ (Q : Nat → Mb → Prop), (∀ j < n, Q j (X j)) → Q i x → ∀ j < n, Q j (upd X i x j) := by
    intro Q h1 h2 j hj
    by_cases e : j = i
    · subst e; rw [upd_self]; exact h2
    · rw [upd_ne _ _ _ _ e]; exact h1 j hj
  exact ⟨p.W0, p.zero, p.leR, p.cn, key (fun j x => x.Ok) p.ok ok, key (fun j x => x.n = n) p.nn (hn.trans (p.nn i hi)), key (fun j x => 0 ≤ C j ∧ C j ≤ x.rd) p.le (by rw [hr]; exact p.le i hi),
    key (fun j x => x.ph ≠ 0 → 1 ≤ x.rd) p.p0 p0, key (fun j x => x.ph = 1 ∨ x.ph = 2 → x.came = false ∧ x.entered = false ∧ x.missed = false ∧ C j < x.rd) p.p12 p12,
    key (fun j x => x.ph = 2 → x.wd / 16 ≤ x.rd) p.p2 p2, key (fun j x => x.ph = 3 → x.came = true ∧ x.entered = false ∧ x.missed = false) p.p3 p3,
    key (fun j x => x.came = true → C j = x.rd) p.cm cm, key (fun j x => x.entered = true → x.came = true ∧ x.missed = false ∧ ∀ k < n, x.rd ≤ C k) p.ent ent,
    key (fun j x => x.missed = true → ∃ k < n, k ≠ j ∧ x.rd < C k) p.mis mis⟩

theorem PInv.look {n : Nat} {X : Nat → Mb} {W : Int} {C : Nat → Int} (p : PInv n X W C) (W1 : W < 4294967296) (i : Nat) (hi : i < n) (h : (X i).ph = 1 ∨ (X i).ph = 3) : PInv n (upd X i (lookS (X i) W)) W C := by
  have hok := p.ok i hi
  have hle := p.le i hi
  have h0 := p.p0 i hi (by rcases h with h | h <;> rw [h] <;> decide)
  unfold lookS
  split
  · rename_i hlt
    refine p.put i hi _ ⟨hok.a, hok.n, by simp, hok.rd, hok.wd⟩ rfl rfl (fun q => absurd rfl q) (fun q => by simp at q) (fun q => by simp at q) (fun q => by simp at q) (p.cm i hi) ?_ ?_
    · intro q
      rcases h with h | h
      · have := (p.p12 i hi (.inl h)).2.1; simp [this] at q
      · have := (p.p3 i hi h).2.1; simp [this] at q
    · intro _
      have hc := p.cn (by omega)
      obtain ⟨j, hj, e⟩ := cnt_pos C (W / 16) n (by omega)
      refine ⟨j, hj, fun q => ?_, ?_⟩
      · subst q; omega
      · show (X i).rd < C j; omega
  · rename_i hge
    split
    · rename_i h1
      have h12 := p.p12 i hi (.inl h1)
      exact p.put i hi _ ⟨hok.a, hok.n, by simp, hok.rd, ⟨p.W0, W1⟩⟩ rfl rfl (fun _ => h0) (fun _ => h12) (fun _ => by show W / 16 ≤ (X i).rd; omega) (fun q => by simp at q) (p.cm i hi) (p.ent i hi) (p.mis i hi)
    · rename_i hne
      have h3 : (X i).ph = 3 := by rcases h with h | h; exact absurd h hne; exact h
      have h33 := p.p3 i hi h3
      split
      · rename_i hw
        refine p.put i hi _ ⟨hok.a, hok.n, by simp, hok.rd, hok.wd⟩ rfl rfl (fun q => absurd rfl q) (fun q => by simp at q) (fun q => by simp at q) (fun q => by simp at q) (p.cm i hi) ?_ ?_
        · intro _
          have hc := p.cn (by rw [hw.1]; omega)
          have hn := p.nn i hi
          have := cnt_all C (W / 16) n (by omega)
          refine ⟨h33.1, h33.2.2, fun j hj => ?_⟩
          show (X i).rd ≤ C j
          rw [this j hj, hw.1]
          exact Int.le_refl _
        · intro q
          simp [h33.2.2] at q
      · have e : upd X i (X i) = X := by
          funext j
          by_cases q : j = i
          · subst q; exact upd_self _ _ _
          · exact upd_ne _ _ _ _ q
        rw [e]
        exact p
theorem upd_same {α : Type} (f : Nat → α) (i : Nat) (a : α) (h : f i = a) : upd f i a = f := by
  funext j
  by_cases q : j = i
  · subst q; rw [upd_self, h]
  · exact upd_ne _ _ _ _ q
theorem lookS_came (x : Mb) (W : Int) : (lookS x W).came = x.came ∧ (lookS x W).rd = x.rd := by
  unfold lookS
  split
  · exact ⟨rfl, rfl⟩
  · split
    · exact ⟨rfl, rfl⟩
    · split <;> exact ⟨rfl, rfl⟩
theorem stepX_rd (x : Mb) (W : Int) : (stepX x W).rd = x.rd := by
  unfold stepX
  split
  · split <;> rfl
  · split
    · exact (lookS_came x W).2
    · rfl

/-- One has come. -/
theorem PInv.come {n : Nat} {X : Nat → Mb} {C : Nat → Int} (i : Nat) (hi : i < n) (hn : n ≤ 8) (h2 : (X i).ph = 2) (p : PInv n X (X i).wd C) : PInv n (upd X i { X i with ph := 3, came := true }) (nextS (X i)) (upd C i (X i).rd) := by
  have hok := p.ok i hi
  have hle := p.le i hi
  have h12 := p.p12 i hi (.inr h2)
  have hwd := p.p2 i hi h2
  have h0 := p.p0 i hi (by rw [h2]; decide)
  have hrd := hok.rd
  have hw := hok.wd
  have hcnt := cnt_upd C (X i).rd n i (by omega)
  rw [if_pos hi] at hcnt
  have hcl := cnt_le (upd C i (X i).rd) (X i).rd n
  -- the word
  have hW : nextS (X i) / 16 = (X i).rd ∧ 1 ≤ nextS (X i) % 16 ∧ (cnt (upd C i (X i).rd) (X i).rd n : Int) = nextS (X i) % 16 ∧ 0 ≤ nextS (X i) := by
    unfold nextS
    split
    · rename_i e
      have hc := p.cn (by rw [e]; omega)
      rw [e] at hc
      omega
    · rename_i e
      have hz := cnt_zero C (X i).rd n (fun j hj => by have := p.leR j hj; omega)
      omega
  have key : ∀ (Q : Nat → Mb → Prop), (∀ j < n, j ≠ i → Q j (X j)) → Q i { X i with ph := 3, came := true } → ∀ j < n, Q j (upd X i { X i with ph := 3, came := true } j) := by
    intro Q h1 h2 j hj
    by_cases e : j = i
    · subst e; rw [upd_self]; exact h2
    · rw [upd_ne _ _ _ _ e]; exact h1 j hj e
  have hC : ∀ j, j ≠ i → upd C i (X i).rd j = C j := fun j e => upd_ne _ _ _ _ e
  have hCi : upd C i (X i).rd i = (X i).rd := upd_self _ _ _
  have hmono : ∀ j, C j ≤ upd C i (X i).rd j := by
    intro j
    by_cases e : j = i
    · subst e; rw [hCi]; omega
    · rw [hC j e]; exact Int.le_refl _
  refine ⟨hW.2.2.2, fun q => by omega, fun j hj => ?_, fun _ => by rw [hW.1]; exact ⟨hW.2.2.1, hW.2.1⟩, key (fun j x => x.Ok) (fun j hj _ => p.ok j hj) ⟨hok.a, hok.n, by simp, hok.rd, hok.wd⟩, key (fun j x => x.n = n) (fun j hj _ => p.nn j hj) (p.nn i hi),
    key (fun j x => 0 ≤ upd C i (X i).rd j ∧ upd C i (X i).rd j ≤ x.rd) (fun j hj e => by rw [hC j e]; exact p.le j hj) (by rw [hCi]; exact ⟨by omega, Int.le_refl _⟩),
    key (fun j x => x.ph ≠ 0 → 1 ≤ x.rd) (fun j hj _ => p.p0 j hj) (fun _ => h0),
    key (fun j x => x.ph = 1 ∨ x.ph = 2 → x.came = false ∧ x.entered = false ∧ x.missed = false ∧ upd C i (X i).rd j < x.rd) (fun j hj e => by rw [hC j e]; exact p.p12 j hj) (fun q => by simp at q),
    key (fun j x => x.ph = 2 → x.wd / 16 ≤ x.rd) (fun j hj _ => p.p2 j hj) (fun q => by simp at q),
    key (fun j x => x.ph = 3 → x.came = true ∧ x.entered = false ∧ x.missed = false) (fun j hj _ => p.p3 j hj) (fun _ => ⟨rfl, h12.2.1, h12.2.2.1⟩),
    key (fun j x => x.came = true → upd C i (X i).rd j = x.rd) (fun j hj e => by rw [hC j e]; exact p.cm j hj) (fun _ => hCi),
    key (fun j x => x.entered = true → x.came = true ∧ x.missed = false ∧ ∀ k < n, x.rd ≤ upd C i (X i).rd k) (fun j hj _ q => by
      obtain ⟨a, b, c⟩ := p.ent j hj q
      exact ⟨a, b, fun k hk => Int.le_trans (c k hk) (hmono k)⟩) (fun q => by have := h12.2.1; simp [this] at q),
    key (fun j x => x.missed = true → ∃ k < n, k ≠ j ∧ x.rd < upd C i (X i).rd k) (fun j hj _ q => by
      obtain ⟨k, a, b, c⟩ := p.mis j hj q
      exact ⟨k, a, b, Int.lt_of_lt_of_le c (hmono k)⟩) (fun q => by have := h12.2.2.1; simp [this] at q)⟩
  rw [hW.1]
  by_cases e : j = i
  · subst e; rw [hCi]; exact Int.le_refl _
  · rw [hC j e]
    have := p.leR j hj
    omega

theorem PInv.step {n : Nat} {X : Nat → Mb} {W : Int} {C : Nat → Int} (p : PInv n X W C) (W1 : W < 4294967296) (hn : n ≤ 8) (i : Nat) (hi : i < n) : PInv n (upd X i (stepX (X i) W)) (stepW (X i) W) (if (stepX (X i) W).came = true then upd C i (X i).rd else C) := by
  have same : (X i).came = true → upd C i (X i).rd = C := fun h => upd_same _ _ _ (p.cm i hi h)
  have hok := p.ok i hi
  by_cases h2 : (X i).ph = 2
  · by_cases e : W = (X i).wd
    · subst e
      rw [stepX, if_pos h2, if_pos rfl, stepW, if_pos ⟨h2, rfl⟩, if_pos rfl]
      exact PInv.come i hi hn h2 p
    · rw [stepX, if_pos h2, if_neg e, stepW, if_neg (fun q => e q.2)]
      have h12 := p.p12 i hi (.inr h2)
      have h0 := p.p0 i hi (by rw [h2]; decide)
      rw [if_neg (by simp [h12.1])]
      exact p.put i hi _ ⟨hok.a, hok.n, by simp, hok.rd, hok.wd⟩ rfl rfl (fun _ => h0) (fun _ => h12) (fun q => by simp at q) (fun q => by simp at q) (p.cm i hi) (p.ent i hi) (p.mis i hi)
  · have hS : stepW (X i) W = W := by rw [stepW, if_neg (fun q => h2 q.1)]
    rw [hS]
    by_cases h13 : (X i).ph = 1 ∨ (X i).ph = 3
    · rw [stepX, if_neg h2, if_pos h13]
      have hl := p.look W1 i hi h13
      split
      · rename_i q
        rw [(lookS_came _ _).1] at q
        rw [same q]
        exact hl
      · exact hl
    · rw [stepX, if_neg h2, if_neg h13, upd_same X i (X i) rfl]
      split
      · rename_i q
        rw [same q]
        exact p
      · exact p
end Go.Proofs.YtnidplpjkhepmaaDoor
