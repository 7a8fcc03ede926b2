/- Layer 23, the plain law: what members and their word keep to. Layer 24, plain: the gangs' members keep to their word. Layer 24, plain: who runs a gang's window runs it with all the gang. Layer 24, plain: the gangs' law, whole. Layer 24's laws: WindowGang: what is asked behind each act. Layer 24's laws: WindowGang, whole. -/
import Derived.Test.YtidjkhmlpgkaaaaDoorMgB
import Derived.Test.YtidjkhmlpgkaaaaDoorMgLA
namespace Go.Proofs.YtidjkhmlpgkaaaaDoor
set_option linter.unusedVariables false
set_option linter.unusedSimpArgs false

def upd {α : Type} (f : Nat → α) (i : Nat) (a : α) : Nat → α := fun j => if j = i then a else f j
theorem upd_self {α : Type} (f : Nat → α) (i : Nat) (a : α) : upd f i a i = a := by simp [upd]
theorem upd_ne {α : Type} (f : Nat → α) (i j : Nat) (a : α) (h : j ≠ i) : upd f i a j = f j := by simp [upd, h]
/-- How many of the first n are r. -/
def cnt (C : Nat → Int) (r : Int) : Nat → Nat
  | 0 => 0
  | n + 1 => cnt C r n + if C n = r then 1 else 0
theorem cnt_le (C : Nat → Int) (r : Int) (n : Nat) : cnt C r n ≤ n := by
  induction n with
  | zero => exact Nat.le_refl _
  | succ n ih => unfold cnt; split <;> omega
theorem cnt_zero (C : Nat → Int) (r : Int) (n : Nat) (h : ∀ j < n, C j ≠ r) : cnt C r n = 0 := by
  induction n with
  | zero => rfl
  | succ n ih => unfold cnt; rw [ih (fun j hj => h j (by omega)), if_neg (h n (by omega))]
theorem cnt_pos (C : Nat → Int) (r : Int) (n : Nat) (h : 1 ≤ cnt C r n) : ∃ j < n, C j = r := by
  apply Classical.byContradiction
  intro hc
  have := cnt_zero C r n (fun j hj e => hc ⟨j, hj, e⟩)
  omega
theorem cnt_all (C : Nat → Int) (r : Int) (n : Nat) (h : cnt C r n = n) : ∀ j < n, C j = r := by
  induction n with
  | zero => intro j hj; omega
  | succ n ih =>
    unfold cnt at h
    have hl := cnt_le C r n
    intro j hj
    by_cases e : C n = r
    · rw [if_pos e] at h
      by_cases e2 : j = n
      · subst e2; exact e
      · exact ih (by omega) j (by omega)
    · rw [if_neg e] at h; omega
theorem cnt_upd (C : Nat → Int) (r : Int) (n i : Nat) (hi : C i ≠ r) : cnt (upd C i r) r n = cnt C r n + if i < n then 1 else 0 := by
  induction n with
  | zero => simp [cnt]
  | succ n ih =>
    unfold cnt
    rw [ih]
    by_cases e : n = i
    · subst e
      rw [upd_self, if_neg hi]
      simp
    · rw [upd_ne _ _ _ _ e]
      by_cases h : i < n
      · rw [if_pos h, if_pos (show i < n + 1 by omega)]; omega
      · rw [if_neg h, if_neg (show ¬ i < n + 1 by omega)]; omega

/-- What n members X, their word W and the greatest rounds C that they have come to keep to. -/
structure PInv (n : Nat) (X : Nat → Mb) (W : Int) (C : Nat → Int) : Prop where
  W0 : 0 ≤ W
  zero : W / 16 = 0 → W = 0
  leR : ∀ i < n, C i ≤ W / 16
  cn : 0 < W / 16 → (cnt C (W / 16) n : Int) = W % 16 ∧ 1 ≤ W % 16
  ok : ∀ i < n, (X i).Ok
  nn : ∀ i < n, (X i).n = (n : Int)
  le : ∀ i < n, 0 ≤ C i ∧ C i ≤ (X i).rd
  p0 : ∀ i < n, (X i).ph ≠ 0 → 1 ≤ (X i).rd
  p12 : ∀ i < n, (X i).ph = 1 ∨ (X i).ph = 2 → (X i).came = false ∧ (X i).entered = false ∧ (X i).missed = false ∧ C i < (X i).rd
  p2 : ∀ i < n, (X i).ph = 2 → (X i).wd / 16 ≤ (X i).rd
  p3 : ∀ i < n, (X i).ph = 3 → (X i).came = true ∧ (X i).entered = false ∧ (X i).missed = false
  cm : ∀ i < n, (X i).came = true → C i = (X i).rd
  ent : ∀ i < n, (X i).entered = true → (X i).came = true ∧ (X i).missed = false ∧ ∀ j < n, (X i).rd ≤ C j
  mis : ∀ i < n, (X i).missed = true → ∃ j < n, j ≠ i ∧ (X i).rd < C j

theorem PInv.start (a : Int) (n : Nat) (h : 1 ≤ n ∧ n ≤ 8) : PInv n (fun _ => ⟨a, n, 0, 0, 0, false, false, false⟩) 0 (fun _ => 0) := by
  refine ⟨by decide, fun _ => rfl, fun i hi => by decide, fun h => absurd h (by decide), fun i hi => ⟨⟨by simp; omega, by simp; omega⟩, by simp, by simp, by simp⟩, fun i hi => rfl, fun i hi => by simp, fun i hi h => absurd rfl h, fun i hi h => by simp at h, fun i hi h => by simp at h, fun i hi h => by simp at h, fun i hi h => by simp at h, fun i hi h => by simp at h, fun i hi h => by simp at h⟩

theorem PInv.begin {n : Nat} {X : Nat → Mb} {W : Int} {C : Nat → Int} (p : PInv n X W C) (i : Nat) (hi : i < n) (r : Int) (r0 : 0 ≤ r) (hb : beginOk (X i) r) : PInv n (upd X i (beginS (X i) r)) W C := by
  have hx : beginS (X i) r = ⟨(X i).at_, (X i).n, 1, r, 0, false, false, false⟩ := by rw [beginS, if_pos hb]
  rw [hx]
  have hok := p.ok i hi
  have hrd := hok.rd
  have hle := p.le i hi
  have hb1 := hb.1
  have hb2 := hb.2
  have key : ∀ (Q : Nat → Mb → Prop), (∀ j < n, Q j (X j)) → Q i ⟨(X i).at_, (X i).n, 1, r, 0, false, false, false⟩ → ∀ j < n, Q j (upd X i ⟨(X i).at_, (X i).n, 1, r, 0, false, false, false⟩ j) := by
    intro Q h1 h2 j hj
    by_cases e : j = i
    · subst e; rw [upd_self]; exact h2
    · rw [upd_ne _ _ _ _ e]; exact h1 j hj
  refine ⟨p.W0, p.zero, p.leR, p.cn, key (fun j x => x.Ok) p.ok ⟨hok.n, by simp, ⟨r0, Int.lt_of_le_of_lt hb1 (by decide)⟩, by simp⟩, key (fun j x => x.n = n) p.nn (p.nn i hi), key (fun j x => 0 ≤ C j ∧ C j ≤ x.rd) p.le ⟨hle.1, by show C i ≤ r; omega⟩,
    key (fun j x => x.ph ≠ 0 → 1 ≤ x.rd) p.p0 (fun _ => by show 1 ≤ r; omega), key (fun j x => x.ph = 1 ∨ x.ph = 2 → x.came = false ∧ x.entered = false ∧ x.missed = false ∧ C j < x.rd) p.p12 (fun _ => ⟨rfl, rfl, rfl, by show C i < r; omega⟩),
    key (fun j x => x.ph = 2 → x.wd / 16 ≤ x.rd) p.p2 (fun h => by simp at h), key (fun j x => x.ph = 3 → x.came = true ∧ x.entered = false ∧ x.missed = false) p.p3 (fun h => by simp at h),
    key (fun j x => x.came = true → C j = x.rd) p.cm (fun h => by simp at h), key (fun j x => x.entered = true → x.came = true ∧ x.missed = false ∧ ∀ k < n, x.rd ≤ C k) p.ent (fun h => by simp at h),
    key (fun j x => x.missed = true → ∃ k < n, k ≠ j ∧ x.rd < C k) p.mis (fun h => by simp at h)⟩

theorem PInv.put {n : Nat} {X : Nat → Mb} {W : Int} {C : Nat → Int} (p : PInv n X W C) (i : Nat) (hi : i < n) (x : Mb) (ok : x.Ok) (hn : x.n = (X i).n) (hr : x.rd = (X i).rd) (p0 : x.ph ≠ 0 → 1 ≤ x.rd)
    (p12 : x.ph = 1 ∨ x.ph = 2 → x.came = false ∧ x.entered = false ∧ x.missed = false ∧ C i < x.rd) (p2 : x.ph = 2 → x.wd / 16 ≤ x.rd) (p3 : x.ph = 3 → x.came = true ∧ x.entered = false ∧ x.missed = false)
    (cm : x.came = true → C i = x.rd) (ent : x.entered = true → x.came = true ∧ x.missed = false ∧ ∀ k < n, x.rd ≤ C k) (mis : x.missed = true → ∃ k < n, k ≠ i ∧ x.rd < C k) : PInv n (upd X i x) W C := by
  have key : ∀ (Q : Nat → Mb → Prop), (∀ j < n, Q j (X j)) → Q i x → ∀ j < n, Q j (upd X i x j) := by
    intro Q h1 h2 j hj
    by_cases e : j = i
    · subst e; rw [upd_self]; exact h2
    · rw [upd_ne _ _ _ _ e]; exact h1 j hj
  exact ⟨p.W0, p.zero, p.leR, p.cn, key (fun j x => x.Ok) p.ok ok, key (fun j x => x.n = n) p.nn (hn.trans (p.nn i hi)), key (fun j x => 0 ≤ C j ∧ C j ≤ x.rd) p.le (by rw [hr]; exact p.le i hi),
    key (fun j x => x.ph ≠ 0 → 1 ≤ x.rd) p.p0 p0, key (fun j x => x.ph = 1 ∨ x.ph = 2 → x.came = false ∧ x.entered = false ∧ x.missed = false ∧ C j < x.rd) p.p12 p12,
    key (fun j x => x.ph = 2 → x.wd / 16 ≤ x.rd) p.p2 p2, key (fun j x => x.ph = 3 → x.came = true ∧ x.entered = false ∧ x.missed = false) p.p3 p3,
    key (fun j x => x.came = true → C j = x.rd) p.cm cm, key (fun j x => x.entered = true → x.came = true ∧ x.missed = false ∧ ∀ k < n, x.rd ≤ C k) p.ent ent,
    key (fun j x => x.missed = true → ∃ k < n, k ≠ j ∧ x.rd < C k) p.mis mis⟩

theorem PInv.look {n : Nat} {X : Nat → Mb} {W : Int} {C : Nat → Int} (p : PInv n X W C) (W1 : W < 4294967296) (i : Nat) (hi : i < n) (h : (X i).ph = 1 ∨ (X i).ph = 3) : PInv n (upd X i (lookS (X i) W)) W C := by
  have hok := p.ok i hi
  have hle := p.le i hi
  have h0 := p.p0 i hi (by rcases h with h | h <;> rw [h] <;> decide)
  unfold lookS
  split
  · rename_i hlt
    refine p.put i hi _ ⟨hok.n, by simp, hok.rd, hok.wd⟩ rfl rfl (fun q => absurd rfl q) (fun q => by simp at q) (fun q => by simp at q) (fun q => by simp at q) (p.cm i hi) ?_ ?_
    · intro q
      rcases h with h | h
      · have := (p.p12 i hi (.inl h)).2.1; simp [this] at q
      · have := (p.p3 i hi h).2.1; simp [this] at q
    · intro _
      have hc := p.cn (by omega)
      obtain ⟨j, hj, e⟩ := cnt_pos C (W / 16) n (by omega)
      refine ⟨j, hj, fun q => ?_, ?_⟩
      · subst q; omega
      · show (X i).rd < C j; omega
  · rename_i hge
    split
    · rename_i h1
      have h12 := p.p12 i hi (.inl h1)
      exact p.put i hi _ ⟨hok.n, by simp, hok.rd, ⟨p.W0, W1⟩⟩ rfl rfl (fun _ => h0) (fun _ => h12) (fun _ => by show W / 16 ≤ (X i).rd; omega) (fun q => by simp at q) (p.cm i hi) (p.ent i hi) (p.mis i hi)
    · rename_i hne
      have h3 : (X i).ph = 3 := by rcases h with h | h; exact absurd h hne; exact h
      have h33 := p.p3 i hi h3
      split
      · rename_i hw
        refine p.put i hi _ ⟨hok.n, by simp, hok.rd, hok.wd⟩ rfl rfl (fun q => absurd rfl q) (fun q => by simp at q) (fun q => by simp at q) (fun q => by simp at q) (p.cm i hi) ?_ ?_
        · intro _
          have hc := p.cn (by rw [hw.1]; omega)
          have hn := p.nn i hi
          have := cnt_all C (W / 16) n (by omega)
          refine ⟨h33.1, h33.2.2, fun j hj => ?_⟩
          show (X i).rd ≤ C j
          rw [this j hj, hw.1]
          exact Int.le_refl _
        · intro q
          simp [h33.2.2] at q
      · have e : upd X i (X i) = X := by
          funext j
          by_cases q : j = i
          · subst q; exact upd_self _ _ _
          · exact upd_ne _ _ _ _ q
        rw [e]
        exact p
theorem upd_same {α : Type} (f : Nat → α) (i : Nat) (a : α) (h : f i = a) : upd f i a = f := by
  funext j
  by_cases q : j = i
  · subst q; rw [upd_self, h]
  · exact upd_ne _ _ _ _ q
theorem lookS_came (x : Mb) (W : Int) : (lookS x W).came = x.came ∧ (lookS x W).rd = x.rd := by
  unfold lookS
  split
  · exact ⟨rfl, rfl⟩
  · split
    · exact ⟨rfl, rfl⟩
    · split <;> exact ⟨rfl, rfl⟩
theorem stepX_rd (x : Mb) (W : Int) : (stepX x W).rd = x.rd := by
  unfold stepX
  split
  · split <;> rfl
  · split
    · exact (lookS_came x W).2
    · rfl

/-- One has come. -/
theorem PInv.come {n : Nat} {X : Nat → Mb} {C : Nat → Int} (i : Nat) (hi : i < n) (hn : n ≤ 8) (h2 : (X i).ph = 2) (p : PInv n X (X i).wd C) : PInv n (upd X i { X i with ph := 3, came := true }) (nextS (X i)) (upd C i (X i).rd) := by
  have hok := p.ok i hi
  have hle := p.le i hi
  have h12 := p.p12 i hi (.inr h2)
  have hwd := p.p2 i hi h2
  have h0 := p.p0 i hi (by rw [h2]; decide)
  have hrd := hok.rd
  have hw := hok.wd
  have hcnt := cnt_upd C (X i).rd n i (by omega)
  rw [if_pos hi] at hcnt
  have hcl := cnt_le (upd C i (X i).rd) (X i).rd n
  -- the word
  have hW : nextS (X i) / 16 = (X i).rd ∧ 1 ≤ nextS (X i) % 16 ∧ (cnt (upd C i (X i).rd) (X i).rd n : Int) = nextS (X i) % 16 ∧ 0 ≤ nextS (X i) := by
    unfold nextS
    split
    · rename_i e
      have hc := p.cn (by rw [e]; omega)
      rw [e] at hc
      omega
    · rename_i e
      have hz := cnt_zero C (X i).rd n (fun j hj => by have := p.leR j hj; omega)
      omega
  have key : ∀ (Q : Nat → Mb → Prop), (∀ j < n, j ≠ i → Q j (X j)) → Q i { X i with ph := 3, came := true } → ∀ j < n, Q j (upd X i { X i with ph := 3, came := true } j) := by
    intro Q h1 h2 j hj
    by_cases e : j = i
    · subst e; rw [upd_self]; exact h2
    · rw [upd_ne _ _ _ _ e]; exact h1 j hj e
  have hC : ∀ j, j ≠ i → upd C i (X i).rd j = C j := fun j e => upd_ne _ _ _ _ e
  have hCi : upd C i (X i).rd i = (X i).rd := upd_self _ _ _
  have hmono : ∀ j, C j ≤ upd C i (X i).rd j := by
    intro j
    by_cases e : j = i
    · subst e; rw [hCi]; omega
    · rw [hC j e]; exact Int.le_refl _
  refine ⟨hW.2.2.2, fun q => by omega, fun j hj => ?_, fun _ => by rw [hW.1]; exact ⟨hW.2.2.1, hW.2.1⟩, key (fun j x => x.Ok) (fun j hj _ => p.ok j hj) ⟨hok.n, by simp, hok.rd, hok.wd⟩, key (fun j x => x.n = n) (fun j hj _ => p.nn j hj) (p.nn i hi),
    key (fun j x => 0 ≤ upd C i (X i).rd j ∧ upd C i (X i).rd j ≤ x.rd) (fun j hj e => by rw [hC j e]; exact p.le j hj) (by rw [hCi]; exact ⟨by omega, Int.le_refl _⟩),
    key (fun j x => x.ph ≠ 0 → 1 ≤ x.rd) (fun j hj _ => p.p0 j hj) (fun _ => h0),
    key (fun j x => x.ph = 1 ∨ x.ph = 2 → x.came = false ∧ x.entered = false ∧ x.missed = false ∧ upd C i (X i).rd j < x.rd) (fun j hj e => by rw [hC j e]; exact p.p12 j hj) (fun q => by simp at q),
    key (fun j x => x.ph = 2 → x.wd / 16 ≤ x.rd) (fun j hj _ => p.p2 j hj) (fun q => by simp at q),
    key (fun j x => x.ph = 3 → x.came = true ∧ x.entered = false ∧ x.missed = false) (fun j hj _ => p.p3 j hj) (fun _ => ⟨rfl, h12.2.1, h12.2.2.1⟩),
    key (fun j x => x.came = true → upd C i (X i).rd j = x.rd) (fun j hj e => by rw [hC j e]; exact p.cm j hj) (fun _ => hCi),
    key (fun j x => x.entered = true → x.came = true ∧ x.missed = false ∧ ∀ k < n, x.rd ≤ upd C i (X i).rd k) (fun j hj _ q => by
      obtain ⟨a, b, c⟩ := p.ent j hj q
      exact ⟨a, b, fun k hk => Int.le_trans (c k hk) (hmono k)⟩) (fun q => by have := h12.2.1; simp [this] at q),
    key (fun j x => x.missed = true → ∃ k < n, k ≠ j ∧ x.rd < upd C i (X i).rd k) (fun j hj _ q => by
      obtain ⟨k, a, b, c⟩ := p.mis j hj q
      exact ⟨k, a, b, Int.lt_of_lt_of_le c (hmono k)⟩) (fun q => by have := h12.2.2.1; simp [this] at q)⟩
  rw [hW.1]
  by_cases e : j = i
  · subst e; rw [hCi]; exact Int.le_refl _
  · rw [hC j e]
    have := p.leR j hj
    omega

theorem PInv.step {n : Nat} {X : Nat → Mb} {W : Int} {C : Nat → Int} (p : PInv n X W C) (W1 : W < 4294967296) (hn : n ≤ 8) (i : Nat) (hi : i < n) : PInv n (upd X i (stepX (X i) W)) (stepW (X i) W) (if (stepX (X i) W).came = true then upd C i (X i).rd else C) := by
  have same : (X i).came = true → upd C i (X i).rd = C := fun h => upd_same _ _ _ (p.cm i hi h)
  have hok := p.ok i hi
  by_cases h2 : (X i).ph = 2
  · by_cases e : W = (X i).wd
    · subst e
      rw [stepX, if_pos h2, if_pos rfl, stepW, if_pos ⟨h2, rfl⟩, if_pos rfl]
      exact PInv.come i hi hn h2 p
    · rw [stepX, if_pos h2, if_neg e, stepW, if_neg (fun q => e q.2)]
      have h12 := p.p12 i hi (.inr h2)
      have h0 := p.p0 i hi (by rw [h2]; decide)
      rw [if_neg (by simp [h12.1])]
      exact p.put i hi _ ⟨hok.n, by simp, hok.rd, hok.wd⟩ rfl rfl (fun _ => h0) (fun _ => h12) (fun q => by simp at q) (fun q => by simp at q) (p.cm i hi) (p.ent i hi) (p.mis i hi)
  · have hS : stepW (X i) W = W := by rw [stepW, if_neg (fun q => h2 q.1)]
    rw [hS]
    by_cases h13 : (X i).ph = 1 ∨ (X i).ph = 3
    · rw [stepX, if_neg h2, if_pos h13]
      have hl := p.look W1 i hi h13
      split
      · rename_i q
        rw [(lookS_came _ _).1] at q
        rw [same q]
        exact hl
      · exact hl
    · rw [stepX, if_neg h2, if_neg h13, upd_same X i (X i) rfl]
      split
      · rename_i q
        rw [same q]
        exact p
      · exact p
end Go.Proofs.YtidjkhmlpgkaaaaDoor

namespace Go.Proofs.YtidjkhmlpgkaaaaDoor
open Go.RowKit
set_option linter.unusedVariables false
set_option linter.unusedSimpArgs false

theorem PInv.congr {n : Nat} {X X' : Nat → Mb} {W : Int} {D : Nat → Int} (h : PInv n X W D) (e : ∀ i < n, X i = X' i) : PInv n X' W D := by
  refine ⟨h.W0, h.zero, h.leR, h.cn, fun i hi => ?_, fun i hi => ?_, fun i hi => ?_, fun i hi => ?_, fun i hi => ?_, fun i hi => ?_, fun i hi => ?_, fun i hi => ?_, fun i hi => ?_, fun i hi => ?_⟩ <;> rw [← e i hi]
  · exact h.ok i hi
  · exact h.nn i hi
  · exact h.le i hi
  · exact h.p0 i hi
  · exact h.p12 i hi
  · exact h.p2 i hi
  · exact h.p3 i hi
  · exact h.cm i hi
  · exact h.ent i hi
  · exact h.mis i hi
theorem PInv.word_lt {n : Nat} {X : Nat → Mb} {W : Int} {D : Nat → Int} (h : PInv n X W D) : W < 4294967296 := by
  have h0 := h.W0
  by_cases e : 0 < W / 16
  · have hc := h.cn e
    obtain ⟨j, hj, q⟩ := cnt_pos D (W / 16) n (by omega)
    have a := (h.le j hj).2
    have b := (h.ok j hj).rd.2
    omega
  · omega
/-- The cores of a gang, in order. -/
def cosG (C : List (List Win)) (g : Int) : List Nat := (List.range 8).filter fun d => (gangM C g).testBit d
def eG (C : List (List Win)) (g : Int) (i : Nat) : Nat := (cosG C g).getD i 0
theorem manyTo_filter (m k : Nat) : manyTo m k = ((List.range k).filter fun d => m.testBit d).length := by
  induction k with
  | zero => rfl
  | succ k ih =>
    rw [manyTo, ih, List.range_succ, List.filter_append, List.length_append]
    cases h : m.testBit k <;> simp [h]
theorem cosG_len (C : List (List Win)) (g : Int) : (cosG C g).length = manyG C g := (manyTo_filter _ _).symm
theorem eG_get (C : List (List Win)) (g : Int) (i : Nat) (hi : i < manyG C g) : (cosG C g)[i]'(by rw [cosG_len]; exact hi) = eG C g i := by
  rw [eG, List.getD_eq_getElem?_getD, List.getElem?_eq_getElem]
  rfl
theorem eG_mem (C : List (List Win)) (g : Int) (h1 : 1 ≤ g) (h2 : g ≤ 255) (i : Nat) (hi : i < manyG C g) : memG C (eG C g i) g := by
  have h := List.getElem_mem (show i < (cosG C g).length by rw [cosG_len]; exact hi)
  rw [eG_get C g i hi] at h
  unfold cosG at h
  rw [List.mem_filter, gangM_bit] at h
  simp only [Bool.and_eq_true, decide_eq_true_eq] at h
  exact ⟨h.2.1, h1, h2, h.2.2⟩
theorem eG_inj (C : List (List Win)) (g : Int) (i j : Nat) (hi : i < manyG C g) (hj : j < manyG C g) (e : eG C g i = eG C g j) : i = j := by
  rw [← eG_get C g i hi, ← eG_get C g j hj] at e
  have nd : (cosG C g).Nodup := List.Pairwise.filter _ List.nodup_range
  have hp := List.pairwise_iff_getElem.1 nd
  rcases Nat.lt_trichotomy i j with q | q | q
  · exact absurd e (hp i j _ _ q)
  · exact q
  · exact absurd e.symm (hp j i _ _ q)
theorem eG_all (C : List (List Win)) (hC : C.length ≤ 8) (g : Int) (d : Nat) (h : memG C d g) : ∃ i, i < manyG C g ∧ eG C g i = d := by
  have hm : d ∈ cosG C g := by
    unfold cosG
    rw [List.mem_filter, gangM_bit, h.2.2.2]
    simp only [List.mem_range, Bool.and_true, decide_eq_true_eq]
    exact ⟨by have := h.1; omega, h.1⟩
  obtain ⟨i, hi, e⟩ := List.mem_iff_getElem.1 hm
  have hi' : i < manyG C g := by rw [← cosG_len]; exact hi
  exact ⟨i, hi', by rw [← eG_get C g i hi', e]⟩
theorem many_ne (C : List (List Win)) (g : Int) (h : 1 ≤ manyG C g) (h1 : 1 ≤ g) (h2 : g ≤ 255) : gangM C g ≠ 0 := by
  have := eG_mem C g h1 h2 0 h
  exact gangM_ne C g _ this.1 this.2.2.2
theorem posG_inj (C : List (List Win)) (g h : Int) (g1 : 1 ≤ g) (g2 : g ≤ 255) (h1 : 1 ≤ h) (h2 : h ≤ 255) (gm : gangM C g ≠ 0) (hm : gangM C h ≠ 0) (e : posG C g = posG C h) : g = h := by
  obtain ⟨a, rfl⟩ := Int.eq_ofNat_of_zero_le (show 0 ≤ g by omega)
  obtain ⟨b, rfl⟩ := Int.eq_ofNat_of_zero_le (show 0 ≤ h by omega)
  obtain ⟨i, hi, p⟩ := List.mem_iff_getElem.1 (gangsTo_mem C 255 a (by omega) (by omega) gm)
  obtain ⟨j, hj, q⟩ := List.mem_iff_getElem.1 (gangsTo_mem C 255 b (by omega) (by omega) hm)
  have pi := gang_at C i _ (by rw [List.getElem?_eq_getElem hi, p])
  have pj := gang_at C j _ (by rw [List.getElem?_eq_getElem hj, q])
  have ea : posG C (a : Int) = i := pi.2.2.2.2
  have eb : posG C (b : Int) = j := pj.2.2.2.2
  have eij : i = j := by rw [← ea, ← eb, e]
  subst eij
  rw [p] at q
  exact congrArg (·.1) q
def wordG (C : List (List Win)) (s : Sq) (g : Int) : Int := s.ws.getD (posG C g) 0
def GangOk (C : List (List Win)) (s : Sq) (g : Int) : Prop := ∃ D, PInv (manyG C g) (fun i => s.mb (eG C g i) g) (wordG C s g) D
def GInv (C : List (List Win)) (s : Sq) : Prop := ∀ g, 1 ≤ g → g ≤ 255 → 1 ≤ manyG C g → GangOk C s g
theorem ginv_init (C : List (List Win)) : GInv C (initS C) := by
  intro g h1 h2 hm
  refine ⟨fun _ => 0, ?_⟩
  have hw : wordG C (initS C) g = 0 := by
    unfold wordG initS
    rw [List.getD_eq_getElem?_getD, List.getElem?_replicate]
    split <;> rfl
  rw [hw]
  exact PInv.start (posG C g : Int) (manyG C g) ⟨hm, manyTo_le _ _⟩
theorem ginv_same {C : List (List Win)} {s s' : Sq} (h : GInv C s) (hm : s'.mb = s.mb) (hw : s'.ws = s.ws) : GInv C s' := by
  intro g h1 h2 hn
  obtain ⟨D, p⟩ := h g h1 h2 hn
  exact ⟨D, by unfold wordG; rw [hm, hw]; exact p⟩
theorem ginv_begin {C : List (List Win)} (hC : C.length ≤ 8) {s : Sq} (h : GInv C s) (c : Nat) (g : Int) (hg : memG C c g) (r : Int) (r0 : 0 ≤ r) : GInv C (s.setMb c g (beginS (s.mb c g) r)) := by
  intro k k1 k2 hn
  obtain ⟨D, p⟩ := h k k1 k2 hn
  refine ⟨D, ?_⟩
  show PInv _ _ (wordG C s k) D
  by_cases e : k = g
  · subst e
    obtain ⟨i, hi, ei⟩ := eG_all C hC k c hg
    by_cases hb : beginOk (s.mb c k) r
    · have q := p.begin i hi r r0 (by show beginOk (s.mb (eG C k i) k) r; rw [ei]; exact hb)
      refine q.congr (fun j hj => ?_)
      by_cases e2 : j = i
      · subst e2; rw [upd_self]; simp [Sq.setMb, ei]
      · rw [upd_ne _ _ _ _ e2]
        have : eG C k j ≠ c := fun q => e2 (eG_inj C k j i hj hi (q.trans ei.symm))
        simp [Sq.setMb, this]
    · have e3 : beginS (s.mb c k) r = s.mb c k := by rw [beginS, if_neg hb]
      refine p.congr (fun j hj => ?_)
      rw [e3]
      simp only [Sq.setMb]
      split
      · rename_i q; rw [q.1]
      · rfl
  · refine p.congr (fun j hj => ?_)
    simp [Sq.setMb, e]
theorem ginv_step {C : List (List Win)} (hC : C.length ≤ 8) {s : Sq} (h : GInv C s) (hl : s.ws.length = (gangsTo C 255).length + 1) (c : Nat) (g : Int) (hg : memG C c g) : GInv C (stepMb C s c g) := by
  have hgm := gangM_ne C g c hg.1 hg.2.2.2
  have hpl : posG C g < s.ws.length := by rw [hl]; exact posG_lt C g hg.2.2.1
  intro k k1 k2 hn
  obtain ⟨D, p⟩ := h k k1 k2 hn
  by_cases e : k = g
  · subst e
    obtain ⟨i, hi, ei⟩ := eG_all C hC k c hg
    have q := p.step p.word_lt (manyTo_le _ _) i hi
    have hw : wordG C (stepMb C s c k) k = stepW ((fun i => s.mb (eG C k i) k) i) (wordG C s k) := by
      show (List.set _ _ _).getD _ _ = stepW (s.mb (eG C k i) k) _
      rw [List.getD_eq_getElem?_getD, List.getElem?_set_self hpl, ei]
      rfl
    unfold GangOk
    rw [hw]
    refine ⟨_, q.congr (fun j hj => ?_)⟩
    by_cases e2 : j = i
    · subst e2; rw [upd_self]; simp [stepMb, Sq.setMb, ei, wordG]
    · rw [upd_ne _ _ _ _ e2]
      have : eG C k j ≠ c := fun q => e2 (eG_inj C k j i hj hi (q.trans ei.symm))
      simp [stepMb, Sq.setMb, this]
  · have hkm := many_ne C k hn k1 k2
    have hne : posG C k ≠ posG C g := fun q => e (posG_inj C k g k1 k2 hg.2.1 hg.2.2.1 hkm hgm q)
    refine ⟨D, ?_⟩
    have hw : wordG C (stepMb C s c g) k = wordG C s k := by
      show (List.set _ _ _).getD _ _ = _
      rw [List.getD_eq_getElem?_getD, List.getElem?_set_ne (fun q => hne q.symm)]
      rw [wordG, List.getD_eq_getElem?_getD]
    rw [hw]
    refine p.congr (fun j hj => ?_)
    simp [stepMb, Sq.setMb, e]
end Go.Proofs.YtidjkhmlpgkaaaaDoor

namespace Go.Proofs.YtidjkhmlpgkaaaaDoor
open Go.RowKit
set_option linter.unusedVariables false
set_option linter.unusedSimpArgs false

/-- All windows' gangs are bytes. -/
def GOk (C : List (List Win)) : Prop := ∀ (c i : Nat) (X : Win), (coreW C c)[i]? = some X → 0 ≤ Win.g X ∧ Win.g X ≤ 255
/-- The frames in which a core was last seen entering a gang's window. -/
def seenS (C : List (List Win)) (F : Int) (s : Sq) (Ca : Nat → Int → Int) (c : Nat) (g : Int) : Int := if c < C.length ∧ (coreA C s c).1 = 2 ∧ (coreA C s c).2.2 = g then frS F s else Ca c g
structure TInv (C : List (List Win)) (F : Int) (s : Sq) (Ca : Nat → Int → Int) : Prop where
  gang : GInv C s
  ca : ∀ c g, memG C c g → (s.mb c g).rd ≤ Ca c g ∧ Ca c g ≤ frS F s
  run : ∀ c, c < C.length → (s.co c).st = 2 ∨ (s.co c).st = 3 → 1 ≤ gangW C c (s.co c).at_.toNat → (s.mb c (gangW C c (s.co c).at_.toNat)).rd = frS F s
  ent : ∀ c, c < C.length → (s.co c).st = 3 → 1 ≤ gangW C c (s.co c).at_.toNat → (s.mb c (gangW C c (s.co c).at_.toNat)).entered = true
theorem coreA_of {C : List (List Win)} {s : Sq} {c : Nat} (hc : c < C.length) (h : (s.co c).st ≠ 0) : coreA C s c = ((s.co c).st, Win.p (wAt (coreW C c) (s.co c).at_.toNat), gangW C c (s.co c).at_.toNat) := by
  have ho : ¬ outC C (c : Int) := by unfold outC; omega
  unfold coreA
  rw [if_neg ho]
  simp only [Int.toNat_natCast]
  rw [if_neg h]
  rfl
theorem coreA_st {C : List (List Win)} {s : Sq} {c : Nat} (hc : c < C.length) : (coreA C s c).1 = (s.co c).st := by
  by_cases h : (s.co c).st = 0
  · have ho : ¬ outC C (c : Int) := by unfold outC; omega
    unfold coreA
    rw [if_neg ho]
    simp only [Int.toNat_natCast]
    rw [if_pos h, h]
  · rw [coreA_of hc h]
theorem mem_at {C : List (List Win)} {s : Sq} (hg : GOk C) (ok : s.Ok C) {c : Nat} (hc : c < C.length) (hs : (s.co c).st ≠ 0) (h1 : 1 ≤ gangW C c (s.co c).at_.toNat) : memG C c (gangW C c (s.co c).at_.toNat) := by
  obtain ⟨a0, a1⟩ := ok.at_ c hc hs
  have hi : (s.co c).at_.toNat < (coreW C c).length := by omega
  have hl := List.getElem?_eq_getElem hi
  have := hg c _ _ hl
  rw [gangW_of hl] at h1 ⊢
  exact memG_of hc hl h1 this.2
theorem tinv_init (C : List (List Win)) (F : Int) : TInv C F (initS C) (fun _ _ => 0) := by
  refine ⟨ginv_init C, fun c g hg => ⟨by show (0 : Int) ≤ 0; decide, ?_⟩, fun c hc h => ?_, fun c hc h => ?_⟩
  · unfold frS
    show (0 : Int) ≤ 0 / F + 1
    rw [Int.zero_ediv]; decide
  · rcases h with h | h <;> exact absurd h (show ¬ (0 : Int) = _ by decide)
  · exact absurd h (show ¬ (0 : Int) = _ by decide)
/-- What is seen behind an act keeps the bounds. -/
theorem seen_keep {C : List (List Win)} {F : Int} {s : Sq} {Ca : Nat → Int → Int} {f : Int} (hf : f ≤ frS F s) (c : Nat) (g : Int) (x : Int) (h : (x ≤ Ca c g ∨ (c < C.length ∧ (coreA C s c).1 = 2 ∧ (coreA C s c).2.2 = g ∧ x ≤ frS F s)) ∧ Ca c g ≤ f) : x ≤ seenS C F s Ca c g ∧ seenS C F s Ca c g ≤ frS F s := by
  unfold seenS
  split
  · rcases h.1 with q | q
    · exact ⟨by omega, Int.le_refl _⟩
    · exact ⟨q.2.2.2, Int.le_refl _⟩
  · rename_i hn
    rcases h.1 with q | q
    · exact ⟨q, by omega⟩
    · exact absurd ⟨q.1, q.2.1, q.2.2.1⟩ hn
theorem fr_pass (F : Int) (hF : 1 ≤ F) (n : Int) (h0 : 0 ≤ n) : n / F ≤ (n + 1) / F ∧ ((n + 1) % F ≠ 0 → (n + 1) / F = n / F) := by
  have a := Int.ediv_le_ediv (show 0 < F by omega) (show n ≤ n + 1 by omega)
  refine ⟨a, fun hne => ?_⟩
  have e1 := Int.mul_ediv_add_emod n F
  have e2 := Int.mul_ediv_add_emod (n + 1) F
  have b1 := Int.emod_lt_of_pos n (show 0 < F by omega)
  have b2 := Int.emod_nonneg n (show F ≠ 0 by omega)
  have b3 := Int.emod_lt_of_pos (n + 1) (show 0 < F by omega)
  have b4 := Int.emod_nonneg (n + 1) (show F ≠ 0 by omega)
  rcases Int.lt_or_le (n / F) ((n + 1) / F) with q | q
  · exfalso
    have : F * (n / F + 1) ≤ F * ((n + 1) / F) := Int.mul_le_mul_of_nonneg_left (by omega) (by omega)
    rw [Int.mul_add] at this
    omega
  · omega
theorem tinv_pass {C : List (List Win)} {F : Int} (hF : 1 ≤ F) {s : Sq} {Ca : Nat → Int → Int} (ok : s.Ok C) (h : TInv C F s Ca) : TInv C F (passS C F s) (seenS C F (passS C F s) Ca) := by
  have hn := ok.now.1
  by_cases hx : s.now = 1099511627776
  · have e : passS C F s = s := by rw [passS, if_pos hx]
    rw [e]
    exact ⟨h.gang, fun c g hg => seen_keep (Int.le_refl _) c g _ ⟨.inl (h.ca c g hg).1, (h.ca c g hg).2⟩, h.run, h.ent⟩
  · have e : passS C F s = passK C F s C.length := (passK_all C F s hx).symm
    have hfr : frS F s ≤ frS F (passS C F s) := by
      rw [e]; unfold frS passK
      have := (fr_pass F hF s.now hn).1
      show s.now / F + 1 ≤ (s.now + 1) / F + 1
      omega
    have hmb : (passS C F s).mb = s.mb := by rw [e]; rfl
    have hws : (passS C F s).ws = s.ws := by rw [e]; rfl
    have hco : ∀ c, c < C.length → ((passS C F s).co c).st = 2 ∨ ((passS C F s).co c).st = 3 → (passS C F s).co c = s.co c ∧ frS F (passS C F s) = frS F s := by
      intro c hc hs
      have e2 : (passS C F s).co c = passCo (coreW C c) ((s.now + 1) % F) (s.co c) := by rw [e]; simp [passK, hc]
      rw [e2] at hs ⊢
      unfold passCo at hs ⊢
      split at hs
      · rcases hs with hs | hs <;> exact absurd hs (show ¬ (1 : Int) = _ by decide)
      · rename_i hn2
        rw [if_neg hn2]
        refine ⟨rfl, ?_⟩
        have ht : (s.now + 1) % F ≠ 0 := fun q => hn2 ⟨hs, .inr q⟩
        have := (fr_pass F hF s.now hn).2 ht
        rw [e]; unfold frS passK
        show (s.now + 1) / F + 1 = s.now / F + 1
        rw [this]
    refine ⟨ginv_same h.gang hmb hws, fun c g hg => seen_keep hfr c g _ ⟨.inl (by rw [hmb]; exact (h.ca c g hg).1), (h.ca c g hg).2⟩, fun c hc hs hg => ?_, fun c hc hs hg => ?_⟩
    · obtain ⟨q1, q2⟩ := hco c hc hs
      rw [q1] at hs hg ⊢
      rw [q2, hmb]
      exact h.run c hc hs hg
    · obtain ⟨q1, q2⟩ := hco c hc (.inr hs)
      rw [q1] at hs hg ⊢
      rw [hmb]
      exact h.ent c hc hs hg
theorem setCo_mb (s : Sq) (c : Nat) (x : Co) : (s.setCo c x).mb = s.mb := rfl
theorem setSt_mb (s : Sq) (c : Nat) (k : Int) : (s.setSt c k).mb = s.mb := rfl
theorem setMb_eq (s : Sq) (c : Nat) (g : Int) (x : Mb) : (s.setMb c g x).mb c g = x := by simp [Sq.setMb]
theorem setMb_ne (s : Sq) (c : Nat) (g : Int) (x : Mb) (d : Nat) (k : Int) (h : ¬ (d = c ∧ k = g)) : (s.setMb c g x).mb d k = s.mb d k := by simp [Sq.setMb, h]
theorem begin_rd (x : Mb) (f : Int) (hx : x.rd ≤ f) (hf : f ≤ 268435455) (h1 : 1 ≤ f) : (beginS x ((f - 1) % 268435455 + 1)).rd = f := by
  have e : (f - 1) % 268435455 + 1 = f := by rw [Int.emod_eq_of_lt (by omega) (by omega)]; omega
  rw [e]
  unfold beginS
  split
  · rfl
  · rename_i h
    apply Classical.byContradiction
    intro q
    exact h ⟨hf, by show x.rd < f; omega⟩
theorem tinv_enter {C : List (List Win)} (hC : C.length ≤ 8) {F : Int} (hF : 1 ≤ F) (hg : GOk C) {s : Sq} {Ca : Nat → Int → Int} (ok : s.Ok C) (h : TInv C F s Ca) (c : Nat) (hc : c < C.length) (hf : frS F s ≤ 268435455) : TInv C F (enterS C F s c) (seenS C F (enterS C F s c) Ca) := by
  have hfr := fr_eq (F := F) (enter_now C F s c)
  have same : enterS C F s c = s → TInv C F (enterS C F s c) (seenS C F (enterS C F s c) Ca) := fun e => by
    rw [e]
    exact ⟨h.gang, fun d g hm => seen_keep (Int.le_refl _) d g _ ⟨.inl (h.ca d g hm).1, (h.ca d g hm).2⟩, h.run, h.ent⟩
  have h1 : 1 ≤ frS F s := by
    have := Int.ediv_nonneg ok.now.1 (show 0 ≤ F by omega)
    unfold frS; omega
  rcases hA : atS (coreW C c) (tkS F s) with _ | i
  · exact same (by unfold enterS; rw [hA])
  · by_cases hold : (s.co c).bg = frS F s ∧ (s.co c).la = (i : Int)
    · exact same (by unfold enterS; rw [hA]; simp only; rw [if_pos hold])
    · have hil := (atS_some hA).1
      have hl := List.getElem?_eq_getElem hil
      have hgr := hg c i _ hl
      have hgw := gangW_of hl
      by_cases h0 : gangW C c i = 0
      · have e : enterS C F s c = s.setCo c ⟨2, i, frS F s, i⟩ := by unfold enterS; rw [hA]; simp only; rw [if_neg hold, if_pos h0]
        rw [e] at hfr ⊢
        refine ⟨ginv_same h.gang rfl rfl, fun d g hm => seen_keep (by rw [hfr]; exact Int.le_refl _) d g _ ⟨.inl (h.ca d g hm).1, (h.ca d g hm).2⟩, fun d hd hs hq => ?_, fun d hd hs hq => ?_⟩
        · by_cases ed : d = c
          · subst ed
            rw [setCo_eq] at hq
            have : gangW C d ((i : Int)).toNat = 0 := h0
            rw [show (⟨2, (i : Int), frS F s, (i : Int)⟩ : Co).at_ = (i : Int) from rfl, this] at hq
            omega
          · rw [setCo_ne _ _ _ _ ed] at hs hq ⊢
            rw [hfr]
            exact h.run d hd hs hq
        · by_cases ed : d = c
          · subst ed
            rw [setCo_eq] at hs
            exact absurd hs (show ¬ (2 : Int) = 3 by decide)
          · rw [setCo_ne _ _ _ _ ed] at hs hq ⊢
            exact h.ent d hd hs hq
      · have hm := memG_of hc hl (show 1 ≤ Win.g (coreW C c)[i] by rw [hgw] at h0; omega) hgr.2
        rw [← hgw] at hm
        have e : enterS C F s c = (s.setCo c ⟨2, i, frS F s, i⟩).setMb c (gangW C c i) (beginS (s.mb c (gangW C c i)) ((frS F s - 1) % 268435455 + 1)) := by unfold enterS; rw [hA]; simp only; rw [if_neg hold, if_neg h0]
        have hrd := begin_rd (s.mb c (gangW C c i)) (frS F s) (by have := h.ca c _ hm; omega) hf h1
        have hr0 : 0 ≤ (frS F s - 1) % 268435455 + 1 := by
          have := Int.emod_nonneg (frS F s - 1) (show (268435455 : Int) ≠ 0 by decide)
          omega
        have hcoc : (enterS C F s c).co c = ⟨2, i, frS F s, i⟩ := by rw [e]; exact setCo_eq _ _ _
        have hcod : ∀ d, d ≠ c → (enterS C F s c).co d = s.co d := fun d hd => enter_ne C F s c d hd
        have hmbc : (enterS C F s c).mb c (gangW C c i) = beginS (s.mb c (gangW C c i)) ((frS F s - 1) % 268435455 + 1) := by rw [e]; exact setMb_eq _ _ _ _
        have hmbd : ∀ d k, ¬ (d = c ∧ k = gangW C c i) → (enterS C F s c).mb d k = s.mb d k := fun d k q => by rw [e]; exact setMb_ne _ _ _ _ _ _ q
        have hst : ((enterS C F s c).co c).st ≠ 0 := by rw [hcoc]; show (2 : Int) ≠ 0; decide
        refine ⟨?_, fun d g hmm => seen_keep (by rw [hfr]; exact Int.le_refl _) d g _ ⟨?_, (h.ca d g hmm).2⟩, fun d hd hs hq => ?_, fun d hd hs hq => ?_⟩
        · rw [e]
          exact ginv_begin hC (s := s.setCo c ⟨2, i, frS F s, i⟩) (ginv_same h.gang rfl rfl) c _ hm _ hr0
        · by_cases q : d = c ∧ g = gangW C c i
          · obtain ⟨rfl, rfl⟩ := q
            refine .inr ⟨hc, ?_, ?_, ?_⟩
            · rw [coreA_of hc hst, hcoc]
            · rw [coreA_of hc hst, hcoc]; rfl
            · rw [hmbc, hrd, hfr]; exact Int.le_refl _
          · rw [hmbd d g q]
            exact .inl (h.ca d g hmm).1
        · by_cases ed : d = c
          · subst ed
            rw [hcoc]
            show ((enterS C F s d).mb d (gangW C d i)).rd = _
            rw [hmbc, hrd, hfr]
          · rw [hcod d ed] at hs hq ⊢
            rw [hmbd _ _ (fun q => ed q.1), hfr]
            exact h.run d hd hs hq
        · by_cases ed : d = c
          · subst ed
            rw [hcoc] at hs
            exact absurd hs (show ¬ (2 : Int) = 3 by decide)
          · rw [hcod d ed] at hs hq ⊢
            rw [hmbd _ _ (fun q => ed q.1)]
            exact h.ent d hd hs hq
end Go.Proofs.YtidjkhmlpgkaaaaDoor

namespace Go.Proofs.YtidjkhmlpgkaaaaDoor
open Go.RowKit
set_option linter.unusedVariables false
set_option linter.unusedSimpArgs false

theorem tinv_entering {C : List (List Win)} (hC : C.length ≤ 8) {F : Int} {s : Sq} {Ca : Nat → Int → Int} (hg : GOk C) (ok : s.Ok C) (h : TInv C F s Ca) (c : Nat) (hc : c < C.length) (hst : (s.co c).st = 2) :
    TInv C F (enteringS C s c (gangW C c (s.co c).at_.toNat)) (seenS C F (enteringS C s c (gangW C c (s.co c).at_.toNat)) Ca) := by
  have hw0 := ok.at_ c hc (by omega)
  have hil : (s.co c).at_.toNat < (coreW C c).length := by omega
  have hgr := hg c _ _ (List.getElem?_eq_getElem hil)
  have hge : gangW C c (s.co c).at_.toNat = Win.g (coreW C c)[(s.co c).at_.toNat] := gangW_of (List.getElem?_eq_getElem hil)
  have hm0 := fun q => mem_at hg ok hc (by omega) q
  have hrun := h.run c hc (.inl hst)
  obtain ⟨g, hgg⟩ : ∃ g, gangW C c (s.co c).at_.toNat = g := ⟨_, rfl⟩
  have hat : ∀ s' : Sq, (s'.co c).at_ = (s.co c).at_ → gangW C c (s'.co c).at_.toNat = g := fun s' q => by rw [q, hgg]
  rw [hgg] at hge hm0 hrun ⊢
  have hfr := fr_eq (F := F) (entering_now C s c g)
  by_cases h0 : g = 0
  · have e : enteringS C s c g = s.setSt c 3 := by unfold enteringS; rw [if_pos h0]
    rw [e] at hfr ⊢
    have ea : ((s.setSt c 3).co c).at_ = (s.co c).at_ := by rw [setSt_eq]
    refine ⟨ginv_same h.gang rfl rfl, fun d k hm => seen_keep (by rw [hfr]; exact Int.le_refl _) d k _ ⟨.inl (h.ca d k hm).1, (h.ca d k hm).2⟩, fun d hd hs hq => ?_, fun d hd hs hq => ?_⟩
    · by_cases ed : d = c
      · subst ed; rw [hat _ ea] at hq; omega
      · rw [setSt_ne _ _ _ _ ed] at hs hq ⊢
        rw [hfr]; exact h.run d hd hs hq
    · by_cases ed : d = c
      · subst ed; rw [hat _ ea] at hq; omega
      · rw [setSt_ne _ _ _ _ ed] at hs hq ⊢
        exact h.ent d hd hs hq
  · have hm := hm0 (by omega)
    have hr := hrun (by omega)
    have hmbc : (enteringS C s c g).mb c g = stepX (s.mb c g) (wordG C s g) := by
      unfold enteringS
      rw [if_neg h0]
      split
      · exact setMb_eq _ _ _ _
      · split
        · exact setMb_eq _ _ _ _
        · exact setMb_eq _ _ _ _
    have hmbd : ∀ d k, ¬ (d = c ∧ k = g) → (enteringS C s c g).mb d k = s.mb d k := by
      intro d k q
      unfold enteringS
      rw [if_neg h0]
      split
      · exact setMb_ne _ _ _ _ _ _ q
      · split
        · exact setMb_ne _ _ _ _ _ _ q
        · exact setMb_ne _ _ _ _ _ _ q
    have hcod : ∀ d, d ≠ c → (enteringS C s c g).co d = s.co d := fun d hd => entering_ne C s c d g hd
    have hga : ((enteringS C s c g).co c).at_ = (s.co c).at_ := entering_at C s c g
    have hG : GInv C (enteringS C s c g) := by
      have q := ginv_step hC h.gang ok.ws c g hm
      unfold enteringS
      rw [if_neg h0]
      split
      · exact ginv_same q rfl rfl
      · split
        · exact ginv_same q rfl rfl
        · exact q
    have hrd : ((enteringS C s c g).mb c g).rd = (s.mb c g).rd := by rw [hmbc, stepX_rd]
    refine ⟨hG, fun d k hmm => seen_keep (by rw [hfr]; exact Int.le_refl _) d k _ ⟨.inl ?_, (h.ca d k hmm).2⟩, fun d hd hs hq => ?_, fun d hd hs hq => ?_⟩
    · by_cases q : d = c ∧ k = g
      · obtain ⟨rfl, rfl⟩ := q
        rw [hrd]; exact (h.ca d k hmm).1
      · rw [hmbd d k q]; exact (h.ca d k hmm).1
    · by_cases ed : d = c
      · subst ed
        rw [hat _ hga, hrd, hfr]; exact hr
      · rw [hcod d ed] at hs hq ⊢
        rw [hmbd _ _ (fun q => ed q.1), hfr]
        exact h.run d hd hs hq
    · by_cases ed : d = c
      · subst ed
        rw [hat _ hga, hmbc]
        unfold enteringS at hs
        rw [if_neg h0] at hs
        split at hs
        · rename_i q; exact q
        · exfalso
          split at hs
          · rw [setSt_eq] at hs
            exact absurd hs (show ¬ (1 : Int) = 3 by decide)
          · have : (s.co d).st = 3 := hs
            omega
      · rw [hcod d ed] at hs hq ⊢
        rw [hmbd _ _ (fun q => ed q.1)]
        exact h.ent d hd hs hq
theorem tinv_pick {C : List (List Win)} (hC : C.length ≤ 8) {F : Int} (hF : 1 ≤ F) (hg : GOk C) {s : Sq} {Ca : Nat → Int → Int} (ok : s.Ok C) (h : TInv C F s Ca) (c : Nat) (hc : c < C.length) (hf : frS F s ≤ 268435455) : TInv C F (pickS C F s c) (seenS C F (pickS C F s c) Ca) := by
  unfold pickS
  by_cases h1 : (s.co c).st = 1
  · rw [if_pos h1]
    refine ⟨ginv_same h.gang rfl rfl, fun d k hm => seen_keep (Int.le_refl _) d k _ ⟨.inl (h.ca d k hm).1, (h.ca d k hm).2⟩, fun d hd hs hq => ?_, fun d hd hs hq => ?_⟩
    · by_cases ed : d = c
      · subst ed; rw [setSt_eq] at hs; rcases hs with hs | hs <;> exact absurd hs (show ¬ (0 : Int) = _ by decide)
      · rw [setSt_ne _ _ _ _ ed] at hs hq ⊢; exact h.run d hd hs hq
    · by_cases ed : d = c
      · subst ed; rw [setSt_eq] at hs; exact absurd hs (show ¬ (0 : Int) = _ by decide)
      · rw [setSt_ne _ _ _ _ ed] at hs hq ⊢; exact h.ent d hd hs hq
  · rw [if_neg h1]
    by_cases h0 : (s.co c).st = 0
    · rw [if_pos h0]; exact tinv_enter hC hF hg ok h c hc hf
    · rw [if_neg h0]
      by_cases h2 : (s.co c).st = 2
      · rw [if_pos h2]; exact tinv_entering hC hg ok h c hc h2
      · rw [if_neg h2]
        exact ⟨h.gang, fun d g hm => seen_keep (Int.le_refl _) d g _ ⟨.inl (h.ca d g hm).1, (h.ca d g hm).2⟩, h.run, h.ent⟩
theorem tinv_act {C : List (List Win)} (hC : C.length ≤ 8) {F : Int} (hF : 1 ≤ F) (hg : GOk C) {s : Sq} {Ca : Nat → Int → Int} (ok : s.Ok C) (h : TInv C F s Ca) (a : Int) (hf : frS F s ≤ 268435455) : TInv C F (actS C F s a) (seenS C F (actS C F s a) Ca) := by
  unfold actS
  split
  · exact tinv_pass hF ok h
  · unfold pickT
    split
    · exact ⟨h.gang, fun d g hm => seen_keep (Int.le_refl _) d g _ ⟨.inl (h.ca d g hm).1, (h.ca d g hm).2⟩, h.run, h.ent⟩
    · rename_i ho
      exact tinv_pick hC hF hg ok h _ (by unfold outC at ho; omega) hf
/-- A core that runs a gang's window: all the gang's cores were seen entering it in this frame. -/
theorem gang_seen {C : List (List Win)} (hC : C.length ≤ 8) {F : Int} (hg : GOk C) {s : Sq} {Ca : Nat → Int → Int} (ok : s.Ok C) (h : TInv C F s Ca) (c : Nat) (hc : c < C.length) (h3 : (coreA C s c).1 = 3) (hn : (coreA C s c).2.2 ≠ 0) (d : Nat) (hd : d < C.length) (hh : hasG (coreW C d) (coreA C s c).2.2 = true) :
    Ca d (coreA C s c).2.2 = frS F s := by
  rw [coreA_st hc] at h3
  have e := coreA_of (C := C) (s := s) hc (by omega)
  rw [e] at hn hh ⊢
  simp only at hn hh ⊢
  have hw0 := ok.at_ c hc (by omega)
  have hil : (s.co c).at_.toNat < (coreW C c).length := by omega
  have hgr := hg c _ _ (List.getElem?_eq_getElem hil)
  rw [← gangW_of (List.getElem?_eq_getElem hil)] at hgr
  have hm := mem_at hg ok hc (by omega) (by omega)
  have hr := h.run c hc (.inr h3) (by omega)
  have he := h.ent c hc h3 (by omega)
  obtain ⟨g, hgg⟩ : ∃ g, gangW C c (s.co c).at_.toNat = g := ⟨_, rfl⟩
  rw [hgg] at hn hh hm hr he hgr ⊢
  obtain ⟨i, hi, ei⟩ := eG_all C hC g c hm
  have hmd : memG C d g := ⟨hd, hm.2.1, hm.2.2.1, hh⟩
  obtain ⟨j, hj, ej⟩ := eG_all C hC g d hmd
  obtain ⟨D, p⟩ := h.gang g hm.2.1 hm.2.2.1 (by omega)
  have q := (p.ent i hi (by show (s.mb (eG C g i) g).entered = true; rw [ei]; exact he)).2.2 j hj
  have q1 : (s.mb (eG C g i) g).rd ≤ D j := q
  have q2 : D j ≤ (s.mb (eG C g j) g).rd := (p.le j hj).2
  rw [ei, hr] at q1
  rw [ej] at q2
  have q3 := h.ca d g hmd
  omega
/-- How many ticks passed at most. -/
theorem act_now (C : List (List Win)) (F : Int) (s : Sq) (a : Int) : (actS C F s a).now ≤ s.now + 1 := by
  unfold actS passS pickT
  split
  · split
    · omega
    · exact Int.le_refl _
  · split
    · omega
    · rw [pick_now]; omega
theorem fr_small {F : Int} (hF : 1 ≤ F) {s : Sq} (h0 : 0 ≤ s.now) {b : Int} (h : s.now ≤ b) : frS F s ≤ b + 1 := by
  have := Int.ediv_le_self F h0
  unfold frS
  omega
end Go.Proofs.YtidjkhmlpgkaaaaDoor

namespace Go.Proofs.YtidjkhmlpgkaaaaDoor
open Go.RowKit
set_option linter.unusedVariables false
set_option linter.unusedSimpArgs false

theorem hasG_take {L : List Win} {g : Int} (h : ∀ (j : Nat) (x : Win), L[j]? = some x → Win.g x ≠ g) : hasG L g = false := by
  rw [hasG, List.any_eq_false]
  intro x hx
  obtain ⟨i, hi, e⟩ := List.mem_iff_getElem.1 hx
  have := h i x (by rw [List.getElem?_eq_getElem hi, e])
  simp [this]
theorem lhas_any (w : World) (v : Value) (L : List Win) (g : Int) (hv : Wins w v L) :
    Calls Tryd.prog 20 #[v, .int .u8 g] w fun e w' => e = .returned (.bool (hasG L g)) ∧ w = w' := by
  have HV := Aside.mk hv
  obtain ⟨a, cap, rfl, hlen⟩ := hv.len
  clear hv
  go_enter Tryd.func20, Tryd.ntmps20
  go_wp2_with fail
  go_loop [5] (fun i => ∃ k : Nat, k ≤ L.length ∧ i = .int .i64 k ∧ Aside (∀ j x, j < k → L[j]? = some x → Win.g x ≠ g)) (fun i => L.length - (intOf i).toNat)
  case atStart => exact ⟨0, by omega, rfl, ⟨fun j x hj => by omega⟩⟩
  case round =>
    obtain ⟨k, hk, rfl, S⟩ := hrel
    by_cases hkl : k < L.length
    · have hl := List.getElem?_eq_getElem hkl
      obtain ⟨X, hX⟩ : ∃ X, L[k] = X := ⟨_, rfl⟩
      rw [hX] at hl
      obtain ⟨ad, rfl, e0, e1, e2, e3, ok⟩ := HV.out.at_ k X hl
      have HL := Aside.mk hl
      clear hl hX
      by_cases e : Win.g X = g
      · have eb : (Win.g X == g) = true := beq_iff_eq.2 e
        have HR : Aside (hasG L g = true) := ⟨by rw [hasG, List.any_eq_true]; exact ⟨X, List.mem_of_getElem? HL.out, by simp [e]⟩⟩
        clear e
        go_wp2_with fail
        rw [HR.out]
        go_ret
        exact ⟨rfl, rfl⟩
      · have eb : (Win.g X == g) = false := beq_eq_false_iff_ne.2 e
        have SN : Aside (∀ j x, j < k + 1 → L[j]? = some x → Win.g x ≠ g) := ⟨fun j x hj hx => by
          rcases Nat.lt_succ_iff_lt_or_eq.1 hj with q | rfl
          · exact S.out j x q hx
          · rw [HL.out] at hx; injection hx with hx; rw [← hx]; exact e⟩
        clear e
        go_wp2_with fail
        go_round
        case rel => exact ⟨k + 1, by omega, by go_num, SN⟩
        case measure => simp [intOf]; omega
    · obtain rfl : k = L.length := by omega
      have HR : Aside (hasG L g = false) := ⟨hasG_take (fun j x hx => S.out j x (List.getElem?_eq_some_iff.1 hx).1 hx)⟩
      go_wp2_with fail
      rw [HR.out]
      go_ret
      exact ⟨rfl, rfl⟩
/-- The frames in which gangs were seen, as they lie. -/
def caU (Ca : Nat → Int → Int) (i : Nat) : Value := .int .i64 (Ca (i / 256) ((i % 256 : Nat) : Int))
theorem caU_at (Ca : Nat → Int → Int) (c g : Nat) (hg : g < 256) : caU Ca (c * 256 + g) = .int .i64 (Ca c (g : Int)) := by
  have e1 : (c * 256 + g) / 256 = c := by omega
  have e2 : (c * 256 + g) % 256 = g := by omega
  unfold caU; rw [e1, e2]
/-- .. while k cores are looked at. -/
def seenK (C : List (List Win)) (F : Int) (s : Sq) (Ca : Nat → Int → Int) (k : Nat) (c : Nat) (g : Int) : Int := if c < k ∧ (coreA C s c).1 = 2 ∧ (coreA C s c).2.2 = g then frS F s else Ca c g
theorem seenK_all (C : List (List Win)) (F : Int) (s : Sq) (Ca : Nat → Int → Int) : seenK C F s Ca C.length = seenS C F s Ca := rfl
theorem seenK_zero (C : List (List Win)) (F : Int) (s : Sq) (Ca : Nat → Int → Int) : seenK C F s Ca 0 = Ca := by
  funext c g; simp [seenK]
theorem seenK_no (C : List (List Win)) (F : Int) (s : Sq) (Ca : Nat → Int → Int) (k : Nat) (h : (coreA C s k).1 ≠ 2) : seenK C F s Ca (k + 1) = seenK C F s Ca k := by
  funext c g
  unfold seenK
  by_cases e : c = k
  · subst e; simp [h]
  · by_cases e2 : c < k
    · simp [e2, show c < k + 1 by omega]
    · simp [e2, show ¬ c < k + 1 by omega]
theorem seenK_yes (C : List (List Win)) (F : Int) (s : Sq) (Ca : Nat → Int → Int) (k g : Nat) (hk : k < 8) (hg : g < 256) (h : (coreA C s k).1 = 2) (h2 : (coreA C s k).2.2 = (g : Int)) (i : Nat) (hi : i < 2048) :
    (if i = k * 256 + g then Value.int .i64 (frS F s) else caU (seenK C F s Ca k) i) = caU (seenK C F s Ca (k + 1)) i := by
  unfold caU
  by_cases e : i = k * 256 + g
  · rw [if_pos e]
    have e1 : i / 256 = k := by omega
    have e2 : i % 256 = g := by omega
    rw [e1, e2]
    unfold seenK
    rw [if_pos ⟨by omega, h, h2⟩]
  · rw [if_neg e]
    congr 1
    unfold seenK
    by_cases e1 : i / 256 = k
    · have e2 : ¬ (g : Int) = ((i % 256 : Nat) : Int) := by omega
      rw [e1, h2]
      rw [if_neg (by omega), if_neg (fun q => e2 q.2.2)]
    · by_cases e3 : i / 256 < k
      · simp [e3, show i / 256 < k + 1 by omega]
      · simp [e3, show ¬ i / 256 < k + 1 by omega]
theorem gang_byte {C : List (List Win)} {s : Sq} (hg : GOk C) (ok : s.Ok C) (k : Nat) (hkl : k < C.length) : 0 ≤ (coreA C s (k : Int)).2.2 ∧ (coreA C s (k : Int)).2.2 ≤ 255 := by
  by_cases e : (s.co k).st = 0
  · have ho : ¬ outC C (k : Int) := by unfold outC; omega
    unfold coreA
    rw [if_neg ho]
    simp only [Int.toNat_natCast]
    rw [if_pos e]
    exact ⟨by show (0 : Int) ≤ 0; decide, by show (0 : Int) ≤ 255; decide⟩
  · rw [coreA_of hkl e]
    have hw0 := ok.at_ k hkl e
    have hil : (s.co k).at_.toNat < (coreW C k).length := by omega
    have := hg k _ _ (List.getElem?_eq_getElem hil)
    show 0 ≤ gangW _ _ _ ∧ gangW _ _ _ ≤ 255
    rw [gangW_of (List.getElem?_eq_getElem hil)]
    exact this
theorem cell_set_other {W : World} {b c off o : Nat} {v x : Value} (h : W.cell? ⟨b, o, none⟩ = some x) (hne : ¬ b = c) : (W.setCell ⟨c, off, none⟩ v).cell? ⟨b, o, none⟩ = some x :=
  ((Kept.refl (fun j => j = c) W).setCell (p := ⟨c, off, none⟩) (.inl rfl) v).cell h hne
theorem callFunc_gang1 (args : Array Value) (w : World) : (callFunc 18 args).run Tryd.prog w = .ok (.enter 18 args) w := by kernel_rfl
set_option maxHeartbeats 6400000 in
theorem gang1_any {w w0 W : World} {l : Loc} {P : Plan} {s : Sq} {n : Nat} (h : BgSt w w0 W l P s n) (a : Int) (PB CB : Nat) (a0 a1 a2 a3 : Option Addr) (c0 c1 c2 c3 : Nat) (hC : Cores W (.slice a0 (Plan.cores P).length c0) (Plan.cores P))
    (hb : W.heap[PB]? = some (.cells #[.int .u16 (Plan.frame P), .slice a0 (Plan.cores P).length c0, .slice a1 (Plan.parts P).length c1, .slice a2 (Plan.chans P).length c2, .slice a3 (Plan.pairs P).length c3] 28 (0, 0))) (hCB : CB < w.heap.size ∧ CB ≠ 0 ∧ PB ≠ CB) (hCo : ∀ V, Kept (fun j => j = CB) W V → Cores V (.slice a0 (Plan.cores P).length c0) (Plan.cores P))
    (Ca : Nat → Int → Int) (hca : BlkAt W CB 50 2048 (caU Ca)) (hg : GOk (Plan.cores P)) (hin : TInv (Plan.cores P) (Plan.frame P) s (seenS (Plan.cores P) (Plan.frame P) s Ca)) :
    Calls Tryd.prog 18 #[.pointer (some ⟨l.S, 0, none⟩), .int .i16 a, .pointer (some ⟨PB, 0, none⟩), .pointer (some ⟨CB, 0, none⟩)] W fun e w' => e = .returned (.bool true) ∧ BlkAt w' CB 50 2048 (caU (seenS (Plan.cores P) (Plan.frame P) s Ca)) ∧ Kept (fun j => j = CB) W w' := by
  have H := Aside.mk h
  have HC := Aside.mk hC
  have HCo := Aside.mk hCo
  have HB := Aside.mk hb
  have HG := Aside.mk (And.intro hg hin)
  have HCB := Aside.mk hCB
  have hC8 := h.st.cores
  have hcbl := hca.lt
  have HTn : Aside (∀ V, Kept (fun j => j = CB) W V → ∃ w1, BgSt w w1 V l P s n) := ⟨fun V k => by
    obtain ⟨w1, _, q⟩ := H.out.turn k (fun j e => by subst e; exact ⟨HCB.out.1, HCB.out.2.1⟩)
    exact ⟨w1, q⟩⟩
  have Z0 : Aside (BlkAt W CB 50 2048 (caU (seenK (Plan.cores P) (Plan.frame P) s Ca 0)) ∧ Kept (fun j => j = CB) W W) := ⟨by rw [seenK_zero]; exact ⟨hca, Kept.refl _ _⟩⟩
  obtain ⟨fr, hfr⟩ : ∃ fr, Aside (frS (Plan.frame P) s = fr) := ⟨_, ⟨rfl⟩⟩
  clear h hC hCo hb hCB hca hg hin
  go_enter Tryd.func18, Tryd.ntmps18
  go_wp2_with fail
  go_loopw [7] (fun i wr => ∃ k : Nat, k ≤ (Plan.cores P).length ∧ i = .int .i64 k ∧ Aside (BlkAt wr CB 50 2048 (caU (seenK (Plan.cores P) (Plan.frame P) s Ca k)) ∧ Kept (fun j => j = CB) W wr)) (fun i _ => (Plan.cores P).length - (intOf i).toNat)
  case atStart => exact ⟨0, by omega, rfl, Z0⟩
  case round =>
    obtain ⟨k, hk, rfl, T⟩ := hrel
    obtain ⟨x0, x1, x2, x3, x4⟩ := lbox5 (T.out.2.heap HB.out HCB.out.2.2)
    by_cases hkl : k < (Plan.cores P).length
    · obtain ⟨w1', hS⟩ := HTn.out wr T.out.2
      have SS := Aside.mk hS
      have K := Aside.mk (core_any hS.st (k : Int))
      have hE : coreE (Plan.cores P) (k : Int) = 0 := by unfold coreE; rw [if_neg (by unfold outC; omega)]
      unfold coreV at K
      rw [hE] at K
      have hgb := gang_byte HG.out.1 hS.st.ok k hkl
      have N1 := Aside.mk (seenK_no (Plan.cores P) (Plan.frame P) s Ca k)
      have Y1 := Aside.mk (fun g h1 h2 h3 => seenK_yes (Plan.cores P) (Plan.frame P) s Ca k g (by omega) h1 h2 h3)
      obtain ⟨⟨st, p, g⟩, hx⟩ : ∃ x, coreA (Plan.cores P) s (k : Int) = x := ⟨_, rfl⟩
      rw [hx] at K N1 Y1 hgb
      obtain ⟨gn, rfl⟩ := Int.eq_ofNat_of_zero_le (show 0 ≤ g from hgb.1)
      have hgn : gn < 256 := by have : ((gn : Nat) : Int) ≤ 255 := hgb.2; omega
      clear hE hx hS hgb
      go_wp2_with fail
      refine K.out.mono ?_
      rintro e w1 ⟨rfl, b1⟩
      obtain ⟨W2, HW2⟩ : ∃ W2, Aside (W2 = w1.alloc (.cells #[.int .i64 st, .int .i64 p, .int .u8 (gn : Int)] 40)) := ⟨_, ⟨rfl⟩⟩
      have B2 : Aside (Below wr.heap.size wr W2) := ⟨by rw [HW2.out]; exact bel_alloc b1 _⟩
      have Y2 : Aside (W2.heap[w1.heap.size]? = some (.cells #[.int .i64 st, .int .i64 p, .int .u8 (gn : Int)] 40 (0, 0))) := ⟨by rw [HW2.out]; exact heap_alloc_new _ _⟩
      have T2 : Aside (BlkAt W2 CB 50 2048 (caU (seenK (Plan.cores P) (Plan.frame P) s Ca k)) ∧ Kept (fun j => j = CB) W W2) := ⟨⟨T.out.1.below B2.out, T.out.2.trans (Kept.of_below B2.out)⟩⟩
      have K1 : Aside (wr.heap.size ≤ w1.heap.size) := ⟨b1.size⟩
      clear b1 x0 x1 x2 x3 x4
      go_upto_region 5 with fail
      rw [← HW2.out]
      obtain ⟨y0, y1, y2, _, _, _⟩ := box3 Y2.out
      by_cases h2 : st = 2
      · subst h2
        have KF : Aside (Calls Tryd.prog 19 #[.pointer (some ⟨l.S, 0, none⟩)] W2.drew fun e w' => e = .returned (.int .i64 fr) ∧ ∃ m, w' = W2.drew.drewN m) := ⟨by
          have := frame_any (SS.out.st.below (bel_drew B2.out))
          rw [hfr.out] at this
          exact this⟩
        have z0 := T2.out.1.c (k * 256 + gn) (by omega)
        have zf := T2.out.1.f (k * 256 + gn)
        have zl := T2.out.1.lt
        have y2d : ∀ m, (W2.drewN m).cell? ⟨w1.heap.size, 2, none⟩ = some (.int .u8 (gn : Int)) := fun m => cell_up (below_drewN _ _) y2
        have hne1 : ¬ w1.heap.size = CB := by have := T.out.2.size; have := lt_of_block Y2.out; have := K1.out; omega
        have i1 : (k : Int) < 8 := by omega
        have i2 : ((gn : Nat) : Int) < 256 := by omega
        go_wp2_with fail
        go_region_held3 (fun V => V.cell? ⟨w1.heap.size, 2, none⟩ = some (.int .u8 (gn : Int))) (first | (with_reducible exact cell_set_other (y2d _) hne1) | go_keep | (with_reducible exact y2))
          (first | (go_at_call 19; with_reducible refine KF.out.mono ?_; rintro e w3 ⟨rfl, m3, rfl⟩))
        have TN : Aside (BlkAt ((W2.drewN (1 + m3)).setCell ⟨CB, k * 256 + gn, none⟩ (.int .i64 fr)) CB 50 2048 (caU (seenK (Plan.cores P) (Plan.frame P) s Ca (k + 1))) ∧ Kept (fun j => j = CB) W ((W2.drewN (1 + m3)).setCell ⟨CB, k * 256 + gn, none⟩ (.int .i64 fr))) := ⟨by
          have q := (T2.out.1.below (below_drewN W2 (1 + m3))).set (k * 256 + gn) (.int .i64 fr)
          refine ⟨q.congr (fun i hi => ?_), (T2.out.2.drewN _).setCell (p := ⟨CB, k * 256 + gn, none⟩) (.inl rfl) _⟩
          rw [← hfr.out]
          exact Y1.out gn hgn (by first | rfl | trivial) (by first | rfl | trivial) i hi⟩
        go_wp2_with fail
        go_roundw
        case rel => exact ⟨k + 1, by omega, by go_num, TN⟩
        case measure => simp [intOf]; omega
      · have h2b : (st == 2) = false := beq_eq_false_iff_ne.2 h2
        have TN : Aside (BlkAt W2 CB 50 2048 (caU (seenK (Plan.cores P) (Plan.frame P) s Ca (k + 1))) ∧ Kept (fun j => j = CB) W W2) := ⟨by rw [N1.out h2]; exact T2.out⟩
        clear h2
        go_wp2_with fail
        go_roundw
        case rel => exact ⟨k + 1, by omega, by go_num, TN⟩
        case measure => simp [intOf]; omega
    · obtain rfl : k = (Plan.cores P).length := by omega
      rw [seenK_all] at T
      obtain ⟨w1', hS⟩ := HTn.out wr T.out.2
      have SS := Aside.mk hS
      have HCw := Aside.mk (HCo.out wr T.out.2)
      have HBw := Aside.mk (T.out.2.heap HB.out HCB.out.2.2)
      obtain ⟨Cb, hCb⟩ : ∃ Cb, Aside (seenS (Plan.cores P) (Plan.frame P) s Ca = Cb) := ⟨_, ⟨rfl⟩⟩
      rw [hCb.out] at HG T
      have GS := Aside.mk (fun c hc h3 hn d hd hh => gang_seen hC8 HG.out.1 hS.st.ok HG.out.2 c hc h3 hn d hd hh)
      clear hS
      go_wp2_with fail
      go_loopw [10] (fun i wi => ∃ c : Nat, c ≤ (Plan.cores P).length ∧ i = .int .i64 c ∧ Aside (Below wr.heap.size wr wi)) (fun i _ => (Plan.cores P).length - (intOf i).toNat)
      case atStart => exact ⟨0, by omega, rfl, ⟨Below.refl _ _⟩⟩
      case round =>
        rename World => wi
        obtain ⟨c, hc, rfl, U⟩ := hrel
        obtain ⟨x0, x1, x2, x3, x4⟩ := lbox5 (lup U.out HBw.out)
        by_cases hcl : c < (Plan.cores P).length
        · have K := Aside.mk (core_any (SS.out.st.below U.out) (c : Int))
          unfold coreV at K
          obtain ⟨ee, he⟩ : ∃ ee, coreE (Plan.cores P) (c : Int) = ee := ⟨_, rfl⟩
          rw [he] at K
          have GC := Aside.mk (GS.out c hcl)
          have GR := Aside.mk (gang_byte HG.out.1 SS.out.st.ok c hcl)
          obtain ⟨⟨st, p, g⟩, hx⟩ : ∃ x, coreA (Plan.cores P) s (c : Int) = x := ⟨_, rfl⟩
          rw [hx] at K GC GR
          clear he hx
          go_wp2_with fail
          refine K.out.mono ?_
          rintro e w1 ⟨rfl, b1⟩
          obtain ⟨W2, HW2⟩ : ∃ W2, Aside (W2 = w1.alloc (.cells #[.int .i64 st, .int .i64 p, .int .u8 g] 40)) := ⟨_, ⟨rfl⟩⟩
          have B2 : Aside (Below wr.heap.size wr W2) := ⟨by rw [HW2.out]; exact bel_alloc (bel_then U.out b1) _⟩
          have Y2 : Aside (W2.heap[w1.heap.size]? = some (.cells #[.int .i64 st, .int .i64 p, .int .u8 g] 40 (0, 0))) := ⟨by rw [HW2.out]; exact heap_alloc_new _ _⟩
          clear b1 x0 x1 x2 x3 x4
          go_upto_region 11 with fail
          rw [← HW2.out]
          obtain ⟨y0, y1, y2, _, _, _⟩ := box3 Y2.out
          by_cases h3 : st = 3
          · by_cases hg0 : g = 0
            · have hg0b : (g == 0) = true := beq_iff_eq.2 hg0
              subst h3
              clear hg0
              go_wp2_with fail
              go_roundw
              case rel => exact ⟨c + 1, by omega, by go_num, B2⟩
              case measure => simp [intOf]; omega
            · have hg0b : (g == 0) = false := beq_eq_false_iff_ne.2 hg0
              have GD : Aside (∀ d, d < (Plan.cores P).length → hasG (coreW (Plan.cores P) d) g = true → Cb d g = frS (Plan.frame P) s) := ⟨fun d hd hh => GC.out h3 hg0 d hd hh⟩
              subst h3
              clear hg0
              go_wp2_with fail
              go_loopw [13] (fun i wj => ∃ d : Nat, d ≤ (Plan.cores P).length ∧ i = .int .i64 d ∧ Aside (Below W2.heap.size W2 wj)) (fun i _ => (Plan.cores P).length - (intOf i).toNat)
              case atStart => exact ⟨0, by omega, rfl, ⟨Below.refl _ _⟩⟩
              case round =>
                rename World => wj
                obtain ⟨d, hd, rfl, V⟩ := hrel
                have V2 := Aside.mk (bel_then B2.out V.out)
                obtain ⟨x0, x1, x2, x3, x4⟩ := lbox5 (lup V2.out HBw.out)
                obtain ⟨u0, u1, u2, _, _, _⟩ := box3 (lup V.out Y2.out)
                by_cases hdl : d < (Plan.cores P).length
                · have hl := List.getElem?_eq_getElem hdl
                  obtain ⟨L, hL⟩ : ∃ L, (Plan.cores P)[d] = L := ⟨_, rfl⟩
                  rw [hL] at hl
                  have HW : Aside (coreW (Plan.cores P) d = L) := ⟨by rw [coreW, List.getD_eq_getElem?_getD, hl]; rfl⟩
                  have GE := Aside.mk (GD.out d hdl)
                  rw [HW.out, hfr.out] at GE
                  obtain ⟨ad, lv, rfl, hlv, hwins⟩ := (HCw.out.below V2.out).at_ d L hl
                  obtain ⟨la, lc, rfl, hlL⟩ := hwins.len
                  have KH : Aside (∀ m, Calls Tryd.prog 20 #[.slice la L.length lc, .int .u8 g] (wj.drewN m) fun e w' => e = .returned (.bool (hasG L g)) ∧ w' = wj.drewN m) := ⟨fun m => (lhas_any _ _ L g (hwins.below (below_drewN _ _))).mono (fun _ _ q => ⟨q.1, q.2.symm⟩)⟩
                  have KF : Aside (∀ m, Calls Tryd.prog 19 #[.pointer (some ⟨l.S, 0, none⟩)] (wj.drewN m) fun e w' => e = .returned (.int .i64 fr) ∧ ∃ m', w' = (wj.drewN m).drewN m') := ⟨fun m => by
                    have := frame_any (SS.out.st.below (bel_drewN V2.out m))
                    rw [hfr.out] at this
                    exact this⟩
                  have hgb : 0 ≤ g ∧ g ≤ 255 := GR.out
                  obtain ⟨gn, hgn⟩ := Int.eq_ofNat_of_zero_le hgb.1
                  have z0 : wj.cell? ⟨CB, d * 256 + g.toNat, none⟩ = some (.int .i64 (Cb d g)) := by
                    have := (T.out.1.below V2.out).c (d * 256 + gn) (by omega)
                    rw [caU_at _ _ _ (by omega)] at this
                    rw [hgn]; exact this
                  obtain ⟨cv, hcv⟩ : ∃ cv, Cb d g = cv := ⟨_, rfl⟩
                  rw [hcv] at z0 GE
                  have hd8 : (d : Int) < 8 := by omega
                  have hg8 : g < 256 := by omega
                  have hg00 : 0 ≤ g := hgb.1
                  clear hl hL hwins hgn hcv hgb
                  cases hh : hasG L g
                  · rw [hh] at KH
                    clear hh
                    go_wp2_with fail
                    go_quiet ((go_at_call 20; exact Calls.quiet_of_same (KH.out _)))
                    have VN : Aside (Below W2.heap.size W2 (wj.drewN nq)) := ⟨bel_drewN V.out _⟩
                    go_wp2_with fail
                    go_roundw
                    case rel => exact ⟨d + 1, by omega, by go_num, VN⟩
                    case measure => simp [intOf]; omega
                  · have hcf := GE.out hh
                    subst hcf
                    rw [hh] at KH
                    clear hh
                    go_wp2_with fail
                    go_quiet ((first | (go_at_call 20; exact Calls.quiet_of_same (KH.out _)) | (go_at_call 19; exact Calls.quiet_of (KF.out _))))
                    have VN : Aside (Below W2.heap.size W2 (wj.drewN nq)) := ⟨bel_drewN V.out _⟩
                    go_wp2_with fail
                    go_roundw
                    case rel => exact ⟨d + 1, by omega, by go_num, VN⟩
                    case measure => simp [intOf]; omega
                · obtain rfl : d = (Plan.cores P).length := by omega
                  go_wp2_with fail
                  go_roundw
                  case rel => exact ⟨c + 1, by omega, by go_num, V2⟩
                  case measure => simp [intOf]; omega
          · have h3b : (st != 3) = true := bne_iff_ne.2 h3
            clear h3
            go_wp2_with fail
            go_roundw
            case rel => exact ⟨c + 1, by omega, by go_num, B2⟩
            case measure => simp [intOf]; omega
        · obtain rfl : c = (Plan.cores P).length := by omega
          go_wp2_with fail
          go_ret
          exact ⟨rfl, by rw [hCb.out]; exact T.out.1.below U.out, T.out.2.trans (Kept.of_below U.out)⟩
end Go.Proofs.YtidjkhmlpgkaaaaDoor

namespace Go.Proofs.YtidjkhmlpgkaaaaDoor
open Go.RowKit
set_option linter.unusedVariables false
set_option linter.unusedSimpArgs false

def CaR (C : List (List Win)) (F : Int) (A : List Int) : Nat → Nat → Int → Int
  | 0 => fun _ _ => 0
  | k + 1 => seenS C F (runS C F A (k + 1)) (CaR C F A k)
theorem zero_came : Tryd.zeroCells50 = Array.replicate 2048 (Value.int .i64 0) := by kernel_rfl
theorem blk_zero (w : World) : BlkAt (w.alloc (.cells Tryd.zeroCells50 50)) w.heap.size 50 2048 (caU (fun _ _ => 0)) := by
  refine ⟨_, heap_alloc_new _ _, ?_, fun k hk => ?_⟩
  · rw [zero_came]; simp
  · rw [zero_came]; simp [hk, caU]
def Jg (C : List (List Win)) (F : Int) (A : List Int) (w : World) (PB CB : Nat) (box : Obj) (k : Nat) (W : World) : Prop :=
  Below w.heap.size w W ∧ W.heap[PB]? = some box ∧ BlkAt W CB 50 2048 (caU (CaR C F A k)) ∧ TInv C F (runS C F A k) (CaR C F A k) ∧ (runS C F A k).Ok C ∧ (runS C F A k).now ≤ k
set_option maxHeartbeats 6400000 in
theorem wgang_any (w : World) (v av : Value) (P : Plan) (A : List Int) (hl : Look w) (hv : PlanV w v P) (hz : Sz P) (hA : Ints w .i16 av A) (hAr : ∀ x ∈ A, -32768 ≤ x ∧ x ≤ 32767) : Calls Tryd.prog 5 #[v, av] w (LawR w) := by
  have HV := Aside.mk hv
  have HL := Aside.mk hl
  have HA := Aside.mk hA
  have HAr := Aside.mk hAr
  have KS := Aside.mk (fun W (h : Below w.heap.size w W) => small_any W v P (HV.out.below h) hz)
  obtain ⟨a0, c0, a1, c1, a2, c2, a3, c3, rfl, hp, hlen⟩ := hv.open_
  have HP := Aside.mk hp
  obtain ⟨W1, HW⟩ : ∃ W1, Aside (W1 = w.alloc (.cells #[.int .u16 (Plan.frame P), .slice a0 (Plan.cores P).length c0, .slice a1 (Plan.parts P).length c1, .slice a2 (Plan.chans P).length c2, .slice a3 (Plan.pairs P).length c3] 28)) := ⟨_, ⟨rfl⟩⟩
  have hb1 : Aside (Below w.heap.size w W1 ∧ W1.heap[w.heap.size]? = some (.cells #[.int .u16 (Plan.frame P), .slice a0 (Plan.cores P).length c0, .slice a1 (Plan.parts P).length c1, .slice a2 (Plan.chans P).length c2, .slice a3 (Plan.pairs P).length c3] 28 (0, 0))) := ⟨by rw [HW.out]; exact ⟨bel_one _ _, heap_alloc_new _ _⟩⟩
  obtain ⟨x0, x1, x2, x3, x4⟩ := lbox5 hb1.out.2
  have KA := Aside.mk (fun W (h : Below w.heap.size w W) => awake_any W (HL.out.below h))
  clear hv hl hp hz hA hAr
  go_enter Tryd.func5, Tryd.ntmps5
  go_wp2_with fail
  rw [← HW.out]
  go_wp2_with fail
  refine (KS.out _ hb1.out.1).mono ?_
  rintro e w2 ⟨b, rfl, hb, b2⟩
  cases b
  · have B2 := Aside.mk (bel_then hb1.out.1 b2)
    clear b2 hb x0 x1 x2 x3 x4
    go_wp2_with fail
    refine (KA.out _ B2.out).mono ?_
    rintro e w3 ⟨rfl, b3⟩
    go_wp2_with fail
    go_ret
    exact ⟨rfl, bel_then B2.out b3⟩
  · have HF := Aside.mk (hb rfl)
    have B2 := Aside.mk (bel_then hb1.out.1 b2)
    have X2 := Aside.mk (lup b2 hb1.out.2)
    clear b2 hb x0 x1 x2 x3 x4
    obtain ⟨W3, HW3⟩ : ∃ W3, Aside (W3 = w2.alloc (.cells Tryd.zeroCells50 50)) := ⟨_, ⟨rfl⟩⟩
    have Z3 : Aside (BlkAt W3 w2.heap.size 50 2048 (caU (fun _ _ => 0)) ∧ Below w2.heap.size w2 W3 ∧ w2.heap.size < W3.heap.size) := ⟨by rw [HW3.out]; exact ⟨blk_zero _, bel_one _ _, by simp⟩⟩
    have X3 := Aside.mk (lup Z3.out.2.1 X2.out)
    have B3 := Aside.mk (bel_then B2.out Z3.out.2.1)
    have hPB : Aside (w.heap.size < w2.heap.size) := ⟨lt_of_block X2.out⟩
    have hlk : Aside (0 < w.heap.size) := ⟨World.block_lt_of_cell? w _ HL.out.and⟩
    obtain ⟨x0, x1, x2, x3, x4⟩ := lbox5 X3.out
    have hGO : GOk (Plan.cores P) := fun c i X hX => by
      have hX' := hX
      unfold coreW at hX'
      rw [List.getD_eq_getElem?_getD] at hX'
      rcases hcc : (Plan.cores P)[c]? with _ | L
      · rw [hcc] at hX'; simp at hX'
      · rw [hcc] at hX'
        have := (plan_ok HV.out) L (List.mem_of_getElem? hcc) X (List.mem_of_getElem? hX')
        exact this.g
    have GO := Aside.mk hGO
    have KB := Aside.mk (begun_any W3 _ P (HV.out.below B3.out) (HL.out.below B3.out) HF.out av A (HA.out.below B3.out) HAr.out 18 #[.pointer (some ⟨w.heap.size, 0, none⟩), .pointer (some ⟨w2.heap.size, 0, none⟩)] callFunc_gang1 (fun j => j = w2.heap.size)
      (fun j e => by subst e; exact ⟨Z3.out.2.2, by have := hPB.out; have := hlk.out; omega⟩)
      (fun hn b hb e => by
        obtain ⟨a', c', e', _, h1⟩ := HA.out.at_
        obtain ⟨ad, q, h2⟩ := h1 0 hn
        subst q
        subst e'
        have hbl := World.block_lt_of_cell? _ _ h2
        have : ad.block = b := by simpa [Value.ownBlock] using hb
        have hbe : (ad.add 0).block = ad.block := by unfold Addr.add; split <;> rfl
        have := hPB.out
        omega)
      (Jg (Plan.cores P) (Plan.frame P) A w w.heap.size w2.heap.size (.cells #[.int .u16 (Plan.frame P), .slice a0 (Plan.cores P).length c0, .slice a1 (Plan.parts P).length c1, .slice a2 (Plan.chans P).length c2, .slice a3 (Plan.pairs P).length c3] 28 (0, 0)))
      ⟨B3.out, X3.out, Z3.out.1, tinv_init _ _, init_ok' HF.out, by show (0 : Int) ≤ 0; decide⟩
      (fun k W W' j q => by
        have hz := hPB.out
        have hz2 := Z3.out.2.2
        exact ⟨j.1.trans (q.below j.1.size (fun i hi => by omega)), q.heap j.2.1 (by omega), j.2.2.1.kept q (by omega), j.2.2.2⟩)
      (fun hc k hk hk2 w0 W l h j => by
        obtain ⟨j1, j2, j3, j4, j5, j6⟩ := j
        have hcn := check_none (checkO_none.1 hc)
        have hfr := HP.out.frame
        have hF1 : 1 ≤ Plan.frame P := by omega
        have hin := tinv_act HF.out.cores hF1 GO.out j5 j4 (A.getD k 0) (by have := fr_small hF1 j5.now.1 j6; omega)
        have hCW := HP.out.cores.below j1
        have hz := hPB.out
        refine (gang1_any h (A.getD k 0) w.heap.size w2.heap.size a0 a1 a2 a3 c0 c1 c2 c3 hCW j2 ⟨Z3.out.2.2, by have := hlk.out; omega, by omega⟩
          (fun V q => HP.out.cores.below (j1.trans (q.below j1.size (fun i e => by omega)))) (CaR (Plan.cores P) (Plan.frame P) A k) j3 GO.out hin).mono ?_
        rintro e w' ⟨rfl, q1, q2⟩
        refine ⟨rfl, ⟨j1.trans (q2.below j1.size (fun i e => by omega)), q2.heap j2 (by omega), q1, hin, h.st.ok, ?_⟩, q2⟩
        have := act_now (Plan.cores P) (Plan.frame P) (runS (Plan.cores P) (Plan.frame P) A k) (A.getD k 0)
        show (actS _ _ _ _).now ≤ ((k + 1 : Nat) : Int)
        omega))
    clear hGO
    go_upto_region 4 with fail
    rw [← HW3.out]
    go_wp2_with fail
    refine KB.out.mono ?_
    rintro e w4 ⟨q, rfl, k4⟩
    have B4 : Aside (Below w.heap.size w w4) := ⟨B3.out.trans (k4.below B3.out.size (fun j e => by have := hPB.out; have := B3.out.size; omega))⟩
    clear k4 KB x0 x1 x2 x3 x4
    go_wp2_with fail
    refine (KA.out _ B4.out).mono ?_
    rintro e w5 ⟨rfl, b5⟩
    go_wp2_with fail
    go_ret
    exact ⟨rfl, bel_then B4.out b5⟩
end Go.Proofs.YtidjkhmlpgkaaaaDoor
