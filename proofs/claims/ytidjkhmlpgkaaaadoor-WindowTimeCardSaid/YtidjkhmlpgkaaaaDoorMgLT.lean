/- Layer 23, the plain law: if all are at one round and do their steps in turn, all enter it. Layer 24, plain: what is used of a taken plan. Layer 24, plain: what holds of every state of a taken plan. Layer 24, plain: what holds of every state is kept by a pick. Layer 24, plain: turns at one tick. Layer 24, plain: a gang's turns; whatever came before, all run. Layer 24's laws: WindowTime. -/
import Derived.Test.YtidjkhmlpgkaaaaDoorMgLG
import Derived.Test.YtidjkhmlpgkaaaaDoorMgLI
namespace Go.Proofs.YtidjkhmlpgkaaaaDoor
set_option linter.unusedVariables false
set_option linter.unusedSimpArgs false
open Classical

/-- It has not come. -/
def Nt (x : Mb) : Prop := x.ph = 1 ∨ x.ph = 2
/-- How many of the first have not come. -/
noncomputable def un (X : Nat → Mb) : Nat → Nat
  | 0 => 0
  | k + 1 => un X k + if Nt (X k) then 1 else 0
theorem un_le (X : Nat → Mb) (k : Nat) : un X k ≤ k := by
  induction k with
  | zero => exact Nat.le_refl _
  | succ k ih => unfold un; split <;> omega
theorem un_zero (X : Nat → Mb) (n : Nat) (h : un X n = 0) : ∀ j < n, ¬ Nt (X j) := by
  induction n with
  | zero => intro j hj; omega
  | succ n ih =>
    unfold un at h
    intro j hj hn
    by_cases e : j = n
    · subst e; rw [if_pos hn] at h; omega
    · exact ih (by omega) j (by omega) hn
theorem un_none (X : Nat → Mb) (n : Nat) (h : ∀ j < n, ¬ Nt (X j)) : un X n = 0 := by
  induction n with
  | zero => rfl
  | succ n ih => unfold un; rw [ih (fun j hj => h j (by omega)), if_neg (h n (by omega))]
theorem un_same (X Y : Nat → Mb) (n : Nat) (h : ∀ j < n, (Nt (X j) ↔ Nt (Y j))) : un X n = un Y n := by
  induction n with
  | zero => rfl
  | succ n ih =>
    unfold un
    rw [ih (fun j hj => h j (by omega))]
    by_cases e : Nt (X n)
    · rw [if_pos e, if_pos ((h n (by omega)).1 e)]
    · rw [if_neg e, if_neg (fun q => e ((h n (by omega)).2 q))]
theorem un_upd_le (X : Nat → Mb) (i : Nat) (x : Mb) (h : Nt x → Nt (X i)) (n : Nat) : un (upd X i x) n ≤ un X n := by
  induction n with
  | zero => exact Nat.le_refl _
  | succ n ih =>
    unfold un
    by_cases e : n = i
    · subst e
      rw [upd_self]
      by_cases q : Nt x
      · rw [if_pos q, if_pos (h q)]; omega
      · rw [if_neg q]; omega
    · rw [upd_ne _ _ _ _ e]; omega
theorem un_upd_lt (X : Nat → Mb) (i : Nat) (x : Mb) (h : Nt (X i)) (h' : ¬ Nt x) (n : Nat) (hi : i < n) : un (upd X i x) n + 1 ≤ un X n := by
  induction n with
  | zero => omega
  | succ n ih =>
    unfold un
    by_cases e : n = i
    · subst e
      rw [upd_self, if_neg h', if_pos h]
      have := un_upd_le X n x (fun q => absurd q h') n
      omega
    · rw [upd_ne _ _ _ _ e]
      have := ih (by omega)
      omega

/-- All are at the round r. -/
structure EInv (r : Int) (n : Nat) (X : Nat → Mb) (W : Int) : Prop where
  rr : 1 ≤ r ∧ r ≤ 268435455
  p : ∃ C, PInv n X W C
  rd : ∀ i < n, (X i).rd = r
  p0 : ∀ i < n, (X i).ph = 0 → (X i).entered = true
theorem EInv.top {r : Int} {n : Nat} {X : Nat → Mb} {W : Int} (e : EInv r n X W) : 0 ≤ W ∧ W / 16 ≤ r := by
  have hrr := e.rr
  obtain ⟨C, p⟩ := e.p
  refine ⟨p.W0, ?_⟩
  by_cases h : 0 < W / 16
  · have hc := p.cn h
    obtain ⟨j, hj, q⟩ := cnt_pos C (W / 16) n (by omega)
    have := (p.le j hj).2
    have := e.rd j hj
    omega
  · omega
theorem EInv.look {r : Int} {n : Nat} {X : Nat → Mb} {W : Int} (e : EInv r n X W) (i : Nat) (hi : i < n) : (lookS (X i) W).ph = 0 → (lookS (X i) W).entered = true ∨ (X i).ph = 0 := by
  have h1 := e.rd i hi
  have h2 := e.top
  unfold lookS
  rw [if_neg (by omega)]
  split
  · intro h; simp at h
  · split
    · intro _; exact .inl rfl
    · intro h; exact .inr h
theorem EInv.step {r : Int} {n : Nat} {X : Nat → Mb} {W : Int} (e : EInv r n X W) (hn : n ≤ 8) (i : Nat) (hi : i < n) : EInv r n (upd X i (stepX (X i) W)) (stepW (X i) W) := by
  have ht := e.top
  have hrr := e.rr
  have W1 : W < 4294967296 := by omega
  refine ⟨e.rr, by obtain ⟨C, p⟩ := e.p; exact ⟨_, p.step W1 hn i hi⟩, fun j hj => ?_, fun j hj => ?_⟩
  · by_cases q : j = i
    · subst q; rw [upd_self, stepX_rd]; exact e.rd j hj
    · rw [upd_ne _ _ _ _ q]; exact e.rd j hj
  · by_cases q : j = i
    · subst q
      rw [upd_self]
      unfold stepX
      split
      · split <;> (intro h; simp at h)
      · split
        · rename_i h13
          intro h
          rcases e.look j hj h with h' | h'
          · exact h'
          · rw [h'] at h13; omega
        · exact e.p0 j hj
    · rw [upd_ne _ _ _ _ q]; exact e.p0 j hj

/-- The first k do their steps. -/
def run (X : Nat → Mb) (W : Int) : Nat → (Nat → Mb) × Int
  | 0 => (X, W)
  | k + 1 => (upd (run X W k).1 k (stepX ((run X W k).1 k) (run X W k).2), stepW ((run X W k).1 k) (run X W k).2)
theorem run_succ1 (X : Nat → Mb) (W : Int) (k : Nat) : (run X W (k + 1)).1 = upd (run X W k).1 k (stepX ((run X W k).1 k) (run X W k).2) := rfl
theorem run_succ2 (X : Nat → Mb) (W : Int) (k : Nat) : (run X W (k + 1)).2 = stepW ((run X W k).1 k) (run X W k).2 := rfl
theorem run_inv {r : Int} {n : Nat} {X : Nat → Mb} {W : Int} (e : EInv r n X W) (hn : n ≤ 8) (k : Nat) (hk : k ≤ n) : EInv r n (run X W k).1 (run X W k).2 := by
  induction k with
  | zero => exact e
  | succ k ih => exact (ih (by omega)).step hn k (by omega)
theorem run_late (X : Nat → Mb) (W : Int) (k j : Nat) (h : k ≤ j) : (run X W k).1 j = X j := by
  induction k with
  | zero => rfl
  | succ k ih =>
    rw [run_succ1, upd_ne _ _ _ _ (by omega)]
    exact ih (by omega)
theorem run_early (X : Nat → Mb) (W : Int) (k j : Nat) (h : j < k) : (run X W k).1 j = stepX (X j) (run X W j).2 := by
  induction k with
  | zero => omega
  | succ k ih =>
    rw [run_succ1]
    by_cases e : j = k
    · subst e
      rw [upd_self, run_late X W j j (Nat.le_refl _)]
    · rw [upd_ne _ _ _ _ e]
      exact ih (by omega)

theorem step_Nt (x : Mb) (W : Int) (h : Nt (stepX x W)) : Nt x := by
  unfold stepX at h
  split at h
  · rename_i q; exact .inr q
  · split at h
    · rename_i q
      rcases q with q | q
      · exact .inl q
      · unfold lookS at h
        split at h
        · simp [Nt] at h
        · split at h
          · rename_i q2; exact .inl q2
          · split at h
            · simp [Nt] at h
            · exact h
    · exact h
/-- A step that changes the word lets one come. -/
theorem run_un (X : Nat → Mb) (W : Int) (n k : Nat) (hk : k ≤ n) : un (run X W k).1 n ≤ un X n ∧ ((run X W k).2 ≠ W → un (run X W k).1 n + 1 ≤ un X n) := by
  induction k with
  | zero => exact ⟨Nat.le_refl _, fun h => absurd rfl h⟩
  | succ k ih =>
    obtain ⟨h1, h2⟩ := ih (by omega)
    have hle := un_upd_le (run X W k).1 k _ (step_Nt ((run X W k).1 k) (run X W k).2) n
    rw [run_succ1, run_succ2]
    refine ⟨by omega, fun hne => ?_⟩
    by_cases hs : ((run X W k).1 k).ph = 2 ∧ (run X W k).2 = ((run X W k).1 k).wd
    · have := un_upd_lt (run X W k).1 k (stepX ((run X W k).1 k) (run X W k).2) (.inr hs.1) (by rw [stepX, if_pos hs.1, if_pos hs.2]; simp [Nt]) n (by omega)
      omega
    · simp only [stepW, if_neg hs] at hne
      have := h2 hne
      omega
/-- It is about to come. -/
def Fr (x : Mb) (W : Int) : Prop := x.ph = 2 ∧ W = x.wd
/-- A turn in which one is about to come lets one come. -/
theorem turn_some (X : Nat → Mb) (W : Int) (n j : Nat) (hj : j < n) (hf : Fr (X j) W) : un (run X W n).1 n + 1 ≤ un X n := by
  have hmono : ∀ k, k ≤ n → ∀ d, k + d ≤ n → un (run X W (k + d)).1 n ≤ un (run X W k).1 n := by
    intro k hk d
    induction d with
    | zero => intro _; exact Nat.le_refl _
    | succ d ih =>
      intro h
      have := ih (by omega)
      have h2 := un_upd_le (run X W (k + d)).1 (k + d) _ (step_Nt ((run X W (k + d)).1 (k + d)) (run X W (k + d)).2) n
      exact Nat.le_trans h2 this
  by_cases hw : (run X W j).2 = W
  · have h1 : un (run X W (j + 1)).1 n + 1 ≤ un (run X W j).1 n := by
      have hx := run_late X W j j (Nat.le_refl _)
      have := un_upd_lt (run X W j).1 j (stepX ((run X W j).1 j) (run X W j).2) (by rw [hx]; exact .inr hf.1) (by rw [hx, hw, stepX, if_pos hf.1, if_pos hf.2]; simp [Nt]) n hj
      exact this
    have h2 := (run_un X W n j (by omega)).1
    have h3 := hmono (j + 1) (by omega) (n - (j + 1)) (by omega)
    rw [show j + 1 + (n - (j + 1)) = n by omega] at h3
    omega
  · have h2 := (run_un X W n j (by omega)).2 hw
    have h3 := hmono j (by omega) (n - j) (by omega)
    rw [show j + (n - j) = n by omega] at h3
    omega
/-- A turn in which nobody is about to come changes no word. -/
theorem turn_none (X : Nat → Mb) (W : Int) (n : Nat) (h : ∀ j < n, ¬ Fr (X j) W) (k : Nat) (hk : k ≤ n) : (run X W k).2 = W := by
  induction k with
  | zero => rfl
  | succ k ih =>
    have hx := run_late X W k k (Nat.le_refl _)
    rw [run_succ2, ih (by omega), hx]
    exact if_neg (h k (by omega))

/-- How many turns are left at most until all have come. -/
noncomputable def left_ (n : Nat) (X : Nat → Mb) (W : Int) : Nat :=
  if un X n = 0 then 0 else if ∀ j < n, Nt (X j) → Fr (X j) W then 2 * un X n - 1 else if ∃ j, j < n ∧ Fr (X j) W then 2 * un X n else if ∀ j < n, Nt (X j) → (X j).ph = 1 then 2 * un X n else 2 * un X n + 1
theorem left_le (n : Nat) (X : Nat → Mb) (W : Int) : left_ n X W ≤ 2 * un X n + 1 := by
  unfold left_
  repeat' split
  all_goals omega
theorem left_all1 (n : Nat) (X : Nat → Mb) (W : Int) (h : ∀ j < n, Nt (X j) → (X j).ph = 1) : left_ n X W ≤ 2 * un X n := by
  unfold left_
  repeat' split
  all_goals first | omega | contradiction
theorem left_allF (n : Nat) (X : Nat → Mb) (W : Int) (h : ∀ j < n, Nt (X j) → Fr (X j) W) : left_ n X W ≤ 2 * un X n - 1 := by
  unfold left_
  repeat' split
  all_goals first | omega | contradiction
theorem left_someF (n : Nat) (X : Nat → Mb) (W : Int) (h : ∃ j, j < n ∧ Fr (X j) W) : left_ n X W ≤ 2 * un X n := by
  unfold left_
  repeat' split
  all_goals first | omega | contradiction
theorem left_pos (n : Nat) (X : Nat → Mb) (W : Int) (h : un X n ≠ 0) : 1 ≤ left_ n X W := by
  unfold left_
  rw [if_neg h]
  repeat' split
  all_goals omega
/-- What a turn without one about to come does to each that has not come. -/
theorem EInv.quiet {r : Int} {n : Nat} {X : Nat → Mb} {W : Int} (e : EInv r n X W) (j : Nat) (hj : j < n) (hf : ¬ Fr (X j) W) (h : Nt (X j)) : ((X j).ph = 1 → Fr (stepX (X j) W) W) ∧ ((X j).ph = 2 → (stepX (X j) W).ph = 1) ∧ Nt (stepX (X j) W) := by
  have h1 := e.rd j hj
  have h2 := e.top
  rcases h with h | h
  · have hs : stepX (X j) W = { X j with wd := W, ph := 2 } := by
      rw [stepX, if_neg (by omega), if_pos (.inl h), lookS, if_neg (by omega), if_pos h]
    rw [hs]
    exact ⟨fun _ => ⟨rfl, rfl⟩, fun q => by omega, .inr rfl⟩
  · have hs : stepX (X j) W = { X j with ph := 1 } := by
      rw [stepX, if_pos h, if_neg (fun q => hf ⟨h, q⟩)]
    rw [hs]
    exact ⟨fun q => by omega, fun _ => rfl, .inl rfl⟩
theorem EInv.turn {r : Int} {n : Nat} {X : Nat → Mb} {W : Int} (e : EInv r n X W) (hn : n ≤ 8) : left_ n (run X W n).1 (run X W n).2 ≤ left_ n X W - 1 := by
  by_cases h0 : un X n = 0
  · have h1 := (run_un X W n n (Nat.le_refl _)).1
    have h2 : un (run X W n).1 n = 0 := by omega
    have : left_ n (run X W n).1 (run X W n).2 = 0 := by unfold left_; rw [if_pos h2]
    omega
  · by_cases hs : ∃ j, j < n ∧ Fr (X j) W
    · obtain ⟨j, hj, hf⟩ := hs
      have h1 := turn_some X W n j hj hf
      by_cases ha : ∀ j < n, Nt (X j) → Fr (X j) W
      · have hL : ∀ j < n, Nt ((run X W n).1 j) → ((run X W n).1 j).ph = 1 := by
          intro j hj hN
          rw [run_early X W n j hj] at hN ⊢
          have hF := ha j hj (step_Nt _ _ hN)
          unfold stepX at hN ⊢
          rw [if_pos hF.1] at hN ⊢
          split at hN
          · simp [Nt] at hN
          · rename_i q; rw [if_neg q]
        have h2 := left_all1 n _ (run X W n).2 hL
        have h3 : left_ n X W = 2 * un X n - 1 := by unfold left_; rw [if_neg h0, if_pos ha]
        omega
      · have h2 := left_le n (run X W n).1 (run X W n).2
        have h3 : left_ n X W = 2 * un X n := by unfold left_; rw [if_neg h0, if_neg ha, if_pos ⟨j, hj, hf⟩]
        omega
    · have hno : ∀ j < n, ¬ Fr (X j) W := fun j hj q => hs ⟨j, hj, q⟩
      have hW := fun k hk => turn_none X W n hno k hk
      have hX : ∀ j < n, (run X W n).1 j = stepX (X j) W := fun j hj => by rw [run_early X W n j hj, hW j (by omega)]
      have hun := (run_un X W n n (Nat.le_refl _)).1
      have ha : ¬ ∀ j < n, Nt (X j) → Fr (X j) W := by
        intro q
        apply h0
        exact un_none X n (fun j hj h => hno j hj (q j hj h))
      by_cases h1 : ∀ j < n, Nt (X j) → (X j).ph = 1
      · have hF : ∀ j < n, Nt ((run X W n).1 j) → Fr ((run X W n).1 j) (run X W n).2 := by
          intro j hj hN
          rw [hW n (Nat.le_refl _), hX j hj] at *
          have hn := step_Nt _ _ hN
          exact (e.quiet j hj (hno j hj) hn).1 (h1 j hj hn)
        have h2 := left_allF n _ _ hF
        have h3 : left_ n X W = 2 * un X n := by unfold left_; rw [if_neg h0, if_neg ha, if_neg hs, if_pos h1]
        omega
      · have h3 : left_ n X W = 2 * un X n + 1 := by unfold left_; rw [if_neg h0, if_neg ha, if_neg hs, if_neg h1]
        by_cases h5 : ∃ j, j < n ∧ (X j).ph = 1
        · obtain ⟨j, hj, q⟩ := h5
          have h2 := left_someF n (run X W n).1 (run X W n).2 ⟨j, hj, by rw [hW n (Nat.le_refl _), hX j hj]; exact (e.quiet j hj (hno j hj) (.inl q)).1 q⟩
          omega
        · have hL : ∀ j < n, Nt ((run X W n).1 j) → ((run X W n).1 j).ph = 1 := by
            intro j hj hN
            rw [hX j hj] at *
            have hn := step_Nt _ _ hN
            refine (e.quiet j hj (hno j hj) hn).2.1 ?_
            rcases hn with q | q
            · exact absurd ⟨j, hj, q⟩ h5
            · exact q
          have h2 := left_all1 n _ (run X W n).2 hL
          omega
theorem cnt_full (C : Nat → Int) (r : Int) (n : Nat) (h : ∀ j < n, C j = r) : cnt C r n = n := by
  induction n with
  | zero => rfl
  | succ n ih => unfold cnt; rw [ih (fun j hj => h j (by omega)), if_pos (h n (by omega))]
/-- What is reached behind t turns. -/
def Prog (n t : Nat) (X : Nat → Mb) (W : Int) : Prop := left_ n X W ≤ 2 * n + 1 - t ∧ (2 * n + 2 ≤ t → ∀ j < n, (X j).ph = 0)
theorem Prog.start (n : Nat) (X : Nat → Mb) (W : Int) : Prog n 0 X W := by
  refine ⟨?_, fun h => by omega⟩
  have := left_le n X W
  have := un_le X n
  omega
theorem Prog.turn {r : Int} {n t : Nat} {X : Nat → Mb} {W : Int} (e : EInv r n X W) (hn : n ≤ 8) (n1 : 1 ≤ n) (h : Prog n t X W) : Prog n (t + 1) (run X W n).1 (run X W n).2 := by
  refine ⟨?_, fun ht => ?_⟩
  · have := e.turn hn
    have := h.1
    omega
  · have hl := h.1
    have h0 : un X n = 0 := by
      apply Classical.byContradiction
      intro q
      have := left_pos n X W q
      omega
    have hN := un_zero X n h0
    have hno : ∀ j < n, ¬ Fr (X j) W := fun j hj q => hN j hj (.inr q.1)
    obtain ⟨C, p⟩ := e.p
    have hph : ∀ j < n, (X j).ph = 0 ∨ (X j).ph = 3 := fun j hj => by
      have h1 := (p.ok j hj).ph
      have h2 : ¬ ((X j).ph = 1 ∨ (X j).ph = 2) := hN j hj
      omega
    have hC : ∀ j < n, C j = r := fun j hj => by
      rw [← e.rd j hj]
      apply p.cm j hj
      rcases hph j hj with q | q
      · exact (p.ent j hj (e.p0 j hj q)).1
      · exact (p.p3 j hj q).1
    have htop := e.top
    have hrr := e.rr
    have h16 : W / 16 = r := by
      have := p.leR 0 (by omega)
      have := hC 0 (by omega)
      omega
    have hcn := (p.cn (by omega)).1
    rw [h16, cnt_full C r n hC] at hcn
    intro j hj
    rw [run_early X W n j hj, turn_none X W n hno j (by omega)]
    rcases hph j hj with q | q
    · rw [stepX, if_neg (by omega), if_neg (by omega)]; exact q
    · have h1 := e.rd j hj
      have h2 := p.nn j hj
      rw [stepX, if_neg (by omega), if_pos (.inr q), lookS, if_neg (by omega), if_neg (by omega), if_pos ⟨by omega, by omega⟩]
theorem EInv.done {r : Int} {n : Nat} {X : Nat → Mb} {W : Int} (e : EInv r n X W) (h : ∀ j < n, (X j).ph = 0) : ∀ j < n, (X j).entered = true ∧ (X j).missed = false := by
  intro j hj
  obtain ⟨C, p⟩ := e.p
  have := e.p0 j hj (h j hj)
  exact ⟨this, (p.ent j hj this).2.1⟩
end Go.Proofs.YtidjkhmlpgkaaaaDoor

namespace Go.Proofs.YtidjkhmlpgkaaaaDoor
open Go.RowKit
set_option linter.unusedVariables false
set_option linter.unusedSimpArgs false

structure PlanG (C : List (List Win)) : Prop where
  len : C.length ≤ 8
  g : GOk C
  uniq : ∀ c, c < C.length → ∀ t, Uniq (coreW C c) t
  one : ∀ c i j, c < C.length → i < (coreW C c).length → j < (coreW C c).length → gangW C c i = gangW C c j → gangW C c i ≠ 0 → i = j
  tog : ∀ c d i j, c < C.length → d < C.length → i < (coreW C c).length → j < (coreW C d).length → gangW C c i = gangW C d j → gangW C c i ≠ 0 → wAt (coreW C c) i = wAt (coreW C d) j
theorem core_get {C : List (List Win)} {c : Nat} (hc : c < C.length) : C[c]? = some (coreW C c) := by rw [coreW, List.getD_eq_getElem?_getD, List.getElem?_eq_getElem hc]; rfl
theorem twice_at {P : Plan} (R : Rules P) {c i j : Nat} {L : List Win} {x y : Win} (hc : (Plan.cores P)[c]? = some L) (hlt : j < i) (hi : L[i]? = some x) (hj : L[j]? = some y) : ¬ (Win.g y = Win.g x ∧ Win.g x ≠ 0) := by
  have h1 := idx_lt hc hi
  have h := R.twice _ h1 (idx (Plan.cores P) c + j) (by omega)
  unfold twiceF at h
  rw [plAt_idx hc hi, plAt_idx hc hj] at h
  split at h
  · cases h
  · rename_i q
    rintro ⟨a, b⟩
    exact q ⟨rfl, a, b⟩
theorem gang_cross {P : Plan} (R : Rules P) {c d i j : Nat} {L M : List Win} {x y : Win} (hc : (Plan.cores P)[c]? = some L) (hd : (Plan.cores P)[d]? = some M) (hlt : d < c) (hi : L[i]? = some x) (hj : M[j]? = some y) (hg : Win.g x = Win.g y) (h0 : Win.g y ≠ 0) : x = y := by
  have h := R.cross _ (idx_lt hd hj) _ (idx_lt hc hi)
  unfold crossF at h
  rw [plAt_idx hd hj, plAt_idx hc hi] at h
  have h1 := idx_le hd hj
  have hcl := (List.getElem?_eq_some_iff.1 hc).1
  have h2 := idx_mono (Plan.cores P) (a := d + 1) (b := c) (by omega) (by omega)
  split at h
  · rename_i q
    rcases q with q | q | q
    · omega
    · simp only [Place.c] at q
      omega
    · exact (together_eq q).1
  · split at h
    · cases h
    · rename_i q
      exact absurd ⟨hg, h0⟩ q
theorem planG_of {P : Plan} (R : Rules P) (hok : ∀ L ∈ Plan.cores P, ∀ x ∈ L, Win.Ok x) : PlanG (Plan.cores P) := by
  refine ⟨R.c8, fun c i X hX => ?_, fun c hc t => uniq_core R hok (core_get hc) t, fun c i j hc hi hj e h0 => ?_, fun c d i j hc hd hi hj e h0 => ?_⟩
  · have hX' := hX
    unfold coreW at hX'
    rw [List.getD_eq_getElem?_getD] at hX'
    rcases hcc : (Plan.cores P)[c]? with _ | L
    · rw [hcc] at hX'; simp at hX'
    · rw [hcc] at hX'
      exact ((hok L (List.mem_of_getElem? hcc)) X (List.mem_of_getElem? hX')).g
  · have hl := List.getElem?_eq_getElem hi
    have hm := List.getElem?_eq_getElem hj
    rw [gangW_of hl] at e h0
    rw [gangW_of hm] at e
    rcases Nat.lt_trichotomy i j with q | q | q
    · exact absurd ⟨e, by rw [← e]; exact h0⟩ (twice_at R (core_get hc) q hm hl)
    · exact q
    · exact absurd ⟨e.symm, h0⟩ (twice_at R (core_get hc) q hl hm)
  · have hl := List.getElem?_eq_getElem hi
    have hm := List.getElem?_eq_getElem hj
    rw [wAt_some hl, wAt_some hm]
    rw [gangW_of hl] at e h0
    rw [gangW_of hm] at e
    rcases Nat.lt_trichotomy c d with q | q | q
    · exact (gang_cross R (core_get hd) (core_get hc) q hm hl e.symm h0).symm
    · subst q
      rcases Nat.lt_trichotomy i j with q | q | q
      · exact absurd ⟨e, by rw [← e]; exact h0⟩ (twice_at R (core_get hc) q hm hl)
      · subst q; rfl
      · exact absurd ⟨e.symm, h0⟩ (twice_at R (core_get hc) q hl hm)
    · exact gang_cross R (core_get hc) (core_get hd) q hl hm e (by rw [← e]; exact h0)
theorem at_has {L : List Win} {t : Int} {i : Nat} (hu : Uniq L t) (hi : i < L.length) (h : hasS (wAt L i) t = true) : atS L t = some i := by
  rcases hA : atS L t with _ | j
  · rw [atS_none hA i hi] at h; cases h
  · obtain ⟨hj, h2⟩ := atS_some hA
    have e1 := List.getElem?_eq_getElem hi
    have e2 := List.getElem?_eq_getElem hj
    rw [wAt_some e1] at h
    rw [wAt_some e2] at h2
    rw [hu i j _ _ e1 e2 h h2]
theorem at_mid {L : List Win} {a b t : Int} {i : Nat} (hu : Uniq L t) (h1 : atS L a = some i) (h2 : atS L b = some i) (ha : a ≤ t) (hb : t ≤ b) : atS L t = some i := by
  obtain ⟨hi, q1⟩ := atS_some h1
  obtain ⟨_, q2⟩ := atS_some h2
  refine at_has hu hi ?_
  rw [hasS_iff] at q1 q2 ⊢
  omega
/-- A gang's window has the tick on all its cores. -/
theorem gang_at_all {C : List (List Win)} (pg : PlanG C) {c d i : Nat} {t : Int} (hc : c < C.length) (h : atS (coreW C c) t = some i) (h1 : 1 ≤ gangW C c i) (hd : memG C d (gangW C c i)) : ∃ j, atS (coreW C d) t = some j ∧ gangW C d j = gangW C c i := by
  obtain ⟨hi, q⟩ := atS_some h
  have hm := hd.2.2.2
  rw [hasG, List.any_eq_true] at hm
  obtain ⟨x, hx, e⟩ := hm
  obtain ⟨j, hj, rfl⟩ := List.mem_iff_getElem.1 hx
  have ej := List.getElem?_eq_getElem hj
  have hg : gangW C d j = gangW C c i := by rw [gangW_of ej]; exact of_decide_eq_true e
  have ht := pg.tog c d i j hc hd.1 hi hj hg.symm (by omega)
  exact ⟨j, at_has (pg.uniq d hd.1 t) hj (by rw [← ht]; exact q), hg⟩
end Go.Proofs.YtidjkhmlpgkaaaaDoor

namespace Go.Proofs.YtidjkhmlpgkaaaaDoor
open Go.RowKit
set_option linter.unusedVariables false
set_option linter.unusedSimpArgs false

/-- A core entered its window i in this frame. -/
def EntF (C : List (List Win)) (F : Int) (s : Sq) (c i : Nat) : Prop := ((s.co c).bg = frS F s ∧ (s.co c).la = (i : Int)) ∨ (1 ≤ gangW C c i ∧ (s.mb c (gangW C c i)).rd = frS F s)
structure LInv (C : List (List Win)) (F : Int) (s : Sq) : Prop where
  ok : s.Ok C
  ins : insideS C F s
  tin : ∃ Ca, TInv C F s Ca
  bg : ∀ c, c < C.length → (s.co c).bg ≤ frS F s
  ent : ∀ c i, c < C.length → i < (coreW C c).length → EntF C F s c i → (∃ te, te ≤ tkS F s ∧ atS (coreW C c) te = some i) ∧ (atS (coreW C c) (tkS F s) = some i → ((s.co c).st = 2 ∨ (s.co c).st = 3) ∧ (s.co c).at_ = (i : Int))
  ph : ∀ c, c < C.length → (s.co c).st = 2 → 1 ≤ gangW C c (s.co c).at_.toNat → (s.mb c (gangW C c (s.co c).at_.toNat)).ph ≠ 0
theorem fr_pos {F : Int} (hF : 1 ≤ F) {s : Sq} (h : 0 ≤ s.now) : 1 ≤ frS F s := by
  have := Int.ediv_nonneg h (show 0 ≤ F by omega)
  unfold frS; omega
theorem memG_win {C : List (List Win)} (hg : GOk C) {c i : Nat} (hc : c < C.length) (hi : i < (coreW C c).length) (h : 1 ≤ gangW C c i) : memG C c (gangW C c i) := by
  have hl := List.getElem?_eq_getElem hi
  have := hg c i _ hl
  rw [gangW_of hl] at h ⊢
  exact memG_of hc hl h this.2
theorem linv_init (C : List (List Win)) (hC : C.length ≤ 8) (F : Int) (hF : 1 ≤ F) : LInv C F (initS C) := by
  have h1 : frS F (initS C) = 1 := by unfold frS; show (0 : Int) / F + 1 = 1; rw [Int.zero_ediv]; rfl
  refine ⟨init_ok C hC, inside_init C F, ⟨_, tinv_init C F⟩, fun c _ => by rw [h1]; show (0 : Int) ≤ 1; decide, fun c i _ _ h => ?_, fun c _ h => absurd h (show ¬ (0 : Int) = 2 by decide)⟩
  rcases h with h | h
  · rw [h1] at h; exact absurd h.1 (show ¬ (0 : Int) = 1 by decide)
  · rw [h1] at h; exact absurd h.2 (show ¬ (0 : Int) = 1 by decide)
theorem pass_arith (F : Int) (hF : 1 ≤ F) (n : Int) (h0 : 0 ≤ n) : ((n + 1) % F = 0 ∧ n / F + 1 ≤ (n + 1) / F) ∨ ((n + 1) % F = n % F + 1 ∧ (n + 1) % F ≠ 0 ∧ (n + 1) / F = n / F) := by
  by_cases h : (n + 1) % F = 0
  · refine .inl ⟨h, ?_⟩
    have e1 := Int.mul_ediv_add_emod n F
    have e2 := Int.mul_ediv_add_emod (n + 1) F
    have b2 := Int.emod_nonneg n (show F ≠ 0 by omega)
    have a := Int.ediv_le_ediv (show 0 < F by omega) (show n ≤ n + 1 by omega)
    rcases Int.lt_or_le (n / F) ((n + 1) / F) with q | q
    · omega
    · exfalso
      have e : (n + 1) / F = n / F := by omega
      rw [e] at e2
      omega
  · have e := (fr_pass F hF n h0).2 h
    have e1 := Int.mul_ediv_add_emod n F
    have e2 := Int.mul_ediv_add_emod (n + 1) F
    rw [e] at e2
    exact .inr ⟨by omega, h, e⟩
theorem ok_pass {C : List (List Win)} {F : Int} {s : Sq} (h : s.Ok C) : (passS C F s).Ok C := by
  by_cases hx : s.now = 1099511627776
  · rw [passS, if_pos hx]; exact h
  · rw [← passK_all C F s hx]; exact ok_passK h (by have := h.now.2; omega) _
theorem linv_pass {C : List (List Win)} (pg : PlanG C) {F : Int} (hF : 1 ≤ F) {s : Sq} (h : LInv C F s) : LInv C F (passS C F s) := by
  by_cases hx : s.now = 1099511627776
  · rw [passS, if_pos hx]; exact h
  obtain ⟨Ca, ht⟩ := h.tin
  have e : passS C F s = passK C F s C.length := (passK_all C F s hx).symm
  have hco : ∀ c, c < C.length → (passS C F s).co c = passCo (coreW C c) ((s.now + 1) % F) (s.co c) := fun c hc => by rw [e]; simp [passK, hc]
  have hbl : ∀ c, c < C.length → ((passS C F s).co c).bg = (s.co c).bg ∧ ((passS C F s).co c).la = (s.co c).la := fun c hc => by
    rw [hco c hc]; unfold passCo; split <;> exact ⟨rfl, rfl⟩
  have hmb : (passS C F s).mb = s.mb := by rw [e]; rfl
  have htk : tkS F (passS C F s) = (s.now + 1) % F := by rw [e]; rfl
  have hfr : frS F (passS C F s) = (s.now + 1) / F + 1 := by rw [e]; rfl
  have hfr0 : frS F s = s.now / F + 1 := rfl
  have htk0 : tkS F s = s.now % F := rfl
  have har := pass_arith F hF s.now h.ok.now.1
  refine ⟨ok_pass h.ok, inside_pass C F s h.ok h.ins, ⟨_, tinv_pass hF h.ok ht⟩, fun c hc => ?_, fun c i hc hi hE => ?_, fun c hc hs hg => ?_⟩
  · rw [(hbl c hc).1, hfr]
    have := h.bg c hc
    rcases har with q | q <;> omega
  · rcases har with q | q
    · exfalso
      rcases hE with hE | hE
      · rw [(hbl c hc).1, hfr] at hE
        have := h.bg c hc
        omega
      · rw [hmb, hfr] at hE
        have := ht.ca c _ (memG_win pg.g hc hi hE.1)
        omega
    · have hE0 : EntF C F s c i := by
        rcases hE with hE | hE
        · rw [(hbl c hc).1, (hbl c hc).2, hfr, q.2.2, ← hfr0] at hE
          exact .inl hE
        · rw [hmb, hfr, q.2.2, ← hfr0] at hE
          exact .inr hE
      obtain ⟨⟨te, a, b⟩, k⟩ := h.ent c i hc hi hE0
      rw [htk]
      refine ⟨⟨te, by omega, b⟩, fun hat => ?_⟩
      have hmid := at_mid (pg.uniq c hc (tkS F s)) b hat a (by omega)
      obtain ⟨k1, k2⟩ := k hmid
      have hkeep : (passS C F s).co c = s.co c := by
        rw [hco c hc]
        unfold passCo
        rw [if_neg]
        rintro ⟨_, z | z⟩
        · exact z (by rw [hat, k2]; rfl)
        · exact q.2.1 z
      rw [hkeep]
      exact ⟨k1, k2⟩
  · have hkeep : (passS C F s).co c = s.co c := by
      rw [hco c hc] at hs ⊢
      unfold passCo at hs ⊢
      split at hs
      · exact absurd hs (show ¬ (1 : Int) = 2 by decide)
      · rename_i z; rw [if_neg z]
    rw [hkeep] at hs hg ⊢
    rw [hmb]
    exact h.ph c hc hs hg
/-! ### A pick -/
theorem word_fr {C : List (List Win)} {F : Int} (hF : 1 ≤ F) {s : Sq} (hn : 0 ≤ s.now) {Ca : Nat → Int → Int} (h : TInv C F s Ca) (g : Int) (h1 : 1 ≤ g) (h2 : g ≤ 255) (hm : 1 ≤ manyG C g) : 0 ≤ wordG C s g ∧ wordG C s g / 16 ≤ frS F s ∧ wordG C s g < 4294967296 := by
  obtain ⟨D, p⟩ := h.gang g h1 h2 hm
  refine ⟨p.W0, ?_, p.word_lt⟩
  by_cases e : 0 < wordG C s g / 16
  · have hc := p.cn e
    obtain ⟨j, hj, q⟩ := cnt_pos D (wordG C s g / 16) (manyG C g) (by omega)
    have a : D j ≤ (s.mb (eG C g j) g).rd := (p.le j hj).2
    have b := h.ca _ g (eG_mem C g h1 h2 j hj)
    omega
  · have := fr_pos hF hn; omega
theorem many_pos {C : List (List Win)} (hC : C.length ≤ 8) {c : Nat} {g : Int} (h : memG C c g) : 1 ≤ manyG C g := (manyG_range C g hC c h.1 h.2.2.2).1
theorem step_rest (x : Mb) (W : Int) (hr : 0 ≤ x.ph ∧ x.ph ≤ 3) (h : x.ph ≠ 0) (h0 : (stepX x W).ph = 0) : (stepX x W).entered = true ∨ (stepX x W).missed = true := by
  unfold stepX lookS at h0 ⊢
  by_cases h2 : x.ph = 2
  · rw [if_pos h2] at h0 ⊢
    split at h0
    · exact absurd h0 (show ¬ (3 : Int) = 0 by decide)
    · exact absurd h0 (show ¬ (1 : Int) = 0 by decide)
  · rw [if_neg h2, if_pos (by omega)] at h0 ⊢
    by_cases ha : x.rd < W / 16
    · rw [if_pos ha]; exact .inr rfl
    · rw [if_neg ha] at h0 ⊢
      by_cases hb : x.ph = 1
      · rw [if_pos hb] at h0; exact absurd h0 (show ¬ (2 : Int) = 0 by decide)
      · rw [if_neg hb] at h0 ⊢
        by_cases hc : W / 16 = x.rd ∧ W % 16 = x.n
        · rw [if_pos hc]; exact .inl rfl
        · rw [if_neg hc] at h0; exact absurd h0 h
theorem step_miss (x : Mb) (W : Int) (hm : x.missed = false) (hw : W / 16 ≤ x.rd) : (stepX x W).missed = false := by
  unfold stepX lookS
  split
  · split <;> exact hm
  · split
    · rw [if_neg (by omega)]
      split
      · exact hm
      · split <;> exact hm
    · exact hm
/-- A core that is entering a gang's window does not miss. -/
theorem no_miss {C : List (List Win)} (pg : PlanG C) {F : Int} (hF : 1 ≤ F) {s : Sq} (h : LInv C F s) (c : Nat) (hc : c < C.length) (hst : (s.co c).st = 2) (hg : 1 ≤ gangW C c (s.co c).at_.toNat) :
    (stepX (s.mb c (gangW C c (s.co c).at_.toNat)) (wordG C s (gangW C c (s.co c).at_.toNat))).missed = false := by
  obtain ⟨Ca, ht⟩ := h.tin
  have hm := mem_at pg.g h.ok hc (by omega) hg
  have hrun := ht.run c hc (.inl hst) hg
  have hph := h.ph c hc hst hg
  obtain ⟨g, hgg⟩ : ∃ g, gangW C c (s.co c).at_.toNat = g := ⟨_, rfl⟩
  rw [hgg] at hm hrun hph ⊢
  have hmp := many_pos pg.len hm
  have hw := word_fr hF h.ok.now.1 ht g hm.2.1 hm.2.2.1 hmp
  obtain ⟨D, p⟩ := ht.gang g hm.2.1 hm.2.2.1 hmp
  obtain ⟨i, hi, ei⟩ := eG_all C pg.len g c hm
  have hk := (p.ok i hi).ph
  have p12 := p.p12 i hi
  have p3 := p.p3 i hi
  simp only [ei] at hk p12 p3
  refine step_miss _ _ ?_ (by omega)
  rcases (show (s.mb c g).ph = 1 ∨ (s.mb c g).ph = 2 ∨ (s.mb c g).ph = 3 by omega) with q | q | q
  · exact (p12 (.inl q)).2.2.1
  · exact (p12 (.inr q)).2.2.1
  · exact (p3 q).2.2
theorem ok_enter {C : List (List Win)} {F : Int} (hF : 1 ≤ F) {s : Sq} (h : s.Ok C) (c : Nat) (hg : GOk C) (hc : c < C.length) : (enterS C F s c).Ok C := by
  unfold enterS
  split
  · exact h
  · rename_i i hi
    have hil := (atS_some hi).1
    split
    · exact h
    · have q := ok_setCo h c ⟨2, i, frS F s, i⟩ ⟨by show (0 : Int) ≤ 2; decide, by show (2 : Int) ≤ 3; decide⟩ ⟨by show (0 : Int) ≤ (i : Int); omega, by show (i : Int) < _; omega⟩
      split
      · exact q
      · rename_i h0
        have hl := List.getElem?_eq_getElem hil
        have hgr := hg c i _ hl
        have hm := memG_win hg hc hil (by rw [gangW_of hl] at h0 ⊢; omega)
        have hmb := h.mb c _ hm
        have hb := begin_ok hmb.1 ((frS F s - 1) % 268435455 + 1) (by have := Int.emod_nonneg (frS F s - 1) (show (268435455 : Int) ≠ 0 by decide); omega)
        exact ok_setMb q c _ _ ⟨hb.1, hb.2.trans hmb.2⟩
theorem ok_entering {C : List (List Win)} {s : Sq} (h : s.Ok C) (c : Nat) (g : Int) (hst : (s.co c).st ≠ 0) (hm : g = 0 ∨ (memG C c g ∧ 0 ≤ wordG C s g ∧ wordG C s g < 4294967296)) : (enteringS C s c g).Ok C := by
  unfold enteringS
  split
  · exact ok_setSt h c 3 ⟨by decide, by decide⟩ (.inr hst)
  · rename_i h0
    obtain ⟨hm, hw⟩ := hm.resolve_left h0
    have hmb := h.mb c g hm
    have hs := step_ok hmb.1 _ hw
    have q := ok_stepMb h c g ⟨hs.1, hs.2.trans hmb.2⟩
    split
    · exact ok_setSt q c 3 ⟨by decide, by decide⟩ (.inr hst)
    · split
      · exact ok_setSt q c 1 ⟨by decide, by decide⟩ (.inr hst)
      · exact q
end Go.Proofs.YtidjkhmlpgkaaaaDoor

namespace Go.Proofs.YtidjkhmlpgkaaaaDoor
open Go.RowKit
set_option linter.unusedVariables false
set_option linter.unusedSimpArgs false

/-- Entering or running, no core that is so leaves by a pick. -/
theorem linv_enter {C : List (List Win)} (pg : PlanG C) {F : Int} (hF : 1 ≤ F) {s : Sq} (h : LInv C F s) (hf : frS F s ≤ 268435455) (c : Nat) (hc : c < C.length) (hst : (s.co c).st = 0) : LInv C F (enterS C F s c) := by
  obtain ⟨Ca, ht⟩ := h.tin
  have hok := ok_enter hF h.ok c pg.g hc
  have hnow := enter_now C F s c
  have hfr := fr_eq (F := F) hnow
  have htk := tk_eq (F := F) hnow
  have hins : insideS C F (enterS C F s c) := by
    have := inside_pick C F s c h.ins
    unfold pickS at this
    rwa [if_neg (by omega), if_pos hst] at this
  have htin := tinv_enter pg.len hF pg.g h.ok ht c hc hf
  have same : enterS C F s c = s → LInv C F (enterS C F s c) := fun e => by rw [e]; exact h
  rcases hA : atS (coreW C c) (tkS F s) with _ | i
  · exact same (by unfold enterS; rw [hA])
  by_cases hold : (s.co c).bg = frS F s ∧ (s.co c).la = (i : Int)
  · exact same (by unfold enterS; rw [hA]; simp only; rw [if_pos hold])
  have hil := (atS_some hA).1
  have hcoc : (enterS C F s c).co c = ⟨2, i, frS F s, i⟩ := by
    rcases enter_eq C F s c with q | ⟨j, q1, q2⟩
    · unfold enterS at q ⊢
      rw [hA] at q ⊢
      simp only at q ⊢
      rw [if_neg hold] at q ⊢
      split at q
      · rename_i h0; rw [if_pos h0]; exact setCo_eq _ _ _
      · rename_i h0; rw [if_neg h0]; exact setCo_eq _ _ _
    · rw [hA] at q1
      injection q1 with q1
      rw [q2, q1]
  have hcod : ∀ d, d ≠ c → (enterS C F s c).co d = s.co d := fun d hd => enter_ne C F s c d hd
  have hmbd : ∀ d k, ¬ (d = c ∧ k = gangW C c i) → (enterS C F s c).mb d k = s.mb d k := fun d k q => by
    unfold enterS
    rw [hA]
    simp only
    rw [if_neg hold]
    split
    · rfl
    · exact setMb_ne _ _ _ _ _ _ q
  -- it had not entered this window in this frame
  have hno : ¬ EntF C F s c i := fun q => by
    have := ((h.ent c i hc hil q).2 hA).1
    omega
  have hmbc : 1 ≤ gangW C c i → (enterS C F s c).mb c (gangW C c i) = ⟨(s.mb c (gangW C c i)).at_, (s.mb c (gangW C c i)).n, 1, frS F s, 0, false, false, false⟩ := fun h1 => by
    have hm := memG_win pg.g hc hil h1
    have hrd := ht.ca c _ hm
    have hne : (s.mb c (gangW C c i)).rd ≠ frS F s := fun q => hno (.inr ⟨h1, q⟩)
    have hfp := fr_pos hF h.ok.now.1
    have e : (frS F s - 1) % 268435455 + 1 = frS F s := by rw [Int.emod_eq_of_lt (by omega) (by omega)]; omega
    unfold enterS
    rw [hA]
    simp only
    rw [if_neg hold, if_neg (by omega), setMb_eq, e, beginS, if_pos ⟨hf, by show (s.mb c (gangW C c i)).rd < _; omega⟩]
  refine ⟨hok, hins, ⟨_, htin⟩, fun d hd => ?_, fun d j hd hj hE => ?_, fun d hd hs hg => ?_⟩
  · rw [hfr]
    by_cases e : d = c
    · subst e; rw [hcoc]; exact Int.le_refl _
    · rw [hcod d e]; exact h.bg d hd
  · rw [htk]
    by_cases e : d = c
    · subst e
      by_cases ej : j = i
      · subst ej
        exact ⟨⟨tkS F s, Int.le_refl _, hA⟩, fun _ => by rw [hcoc]; exact ⟨.inl rfl, rfl⟩⟩
      · have hat : ¬ atS (coreW C d) (tkS F s) = some j := fun q => by rw [hA] at q; injection q with q; exact ej q.symm
        refine ⟨?_, fun q => absurd q hat⟩
        rcases hE with hE | hE
        · rw [hcoc] at hE
          exact absurd (show (i : Int) = (j : Int) from hE.2) (by omega)
        · have hgne : gangW C d j ≠ gangW C d i := fun q => ej (pg.one d j i hd hj hil q (by omega))
          rw [hmbd d _ (fun q => hgne q.2), hfr] at hE
          exact (h.ent d j hd hj (.inr hE)).1
    · have hE0 : EntF C F s d j := by
        rcases hE with hE | hE
        · rw [hcod d e, hfr] at hE; exact .inl hE
        · rw [hmbd d _ (fun q => e q.1), hfr] at hE; exact .inr hE
      rw [hcod d e]
      exact h.ent d j hd hj hE0
  · by_cases e : d = c
    · subst e
      rw [hcoc] at hg ⊢
      have hg' : 1 ≤ gangW C d i := hg
      show ((enterS C F s d).mb d (gangW C d i)).ph ≠ 0
      rw [hmbc hg']
      show (1 : Int) ≠ 0
      decide
    · rw [hcod d e] at hs hg ⊢
      rw [hmbd d _ (fun q => e q.1)]
      exact h.ph d hd hs hg
/-- What becomes of a core that is entering. -/
theorem entering_out {C : List (List Win)} (pg : PlanG C) {F : Int} (hF : 1 ≤ F) {s : Sq} (h : LInv C F s) (c : Nat) (hc : c < C.length) (hst : (s.co c).st = 2) :
    let g := gangW C c (s.co c).at_.toNat
    (enteringS C s c g).co c = { s.co c with st := 3 } ∨ ((enteringS C s c g).co c = s.co c ∧ 1 ≤ g ∧ (enteringS C s c g).mb c g = stepX (s.mb c g) (wordG C s g) ∧ (stepX (s.mb c g) (wordG C s g)).entered = false ∧ (stepX (s.mb c g) (wordG C s g)).missed = false) := by
  intro g
  have hw0 := h.ok.at_ c hc (by omega)
  have hil : (s.co c).at_.toNat < (coreW C c).length := by omega
  have hgr := pg.g c _ _ (List.getElem?_eq_getElem hil)
  have hge : g = Win.g (coreW C c)[(s.co c).at_.toNat] := gangW_of (List.getElem?_eq_getElem hil)
  by_cases h0 : g = 0
  · left
    unfold enteringS
    rw [if_pos h0]
    exact setSt_eq _ _ _
  · have h1 : 1 ≤ g := by omega
    have hnm := no_miss pg hF h c hc hst h1
    cases hen : (stepX (s.mb c g) (wordG C s g)).entered with
    | true =>
      left
      unfold enteringS
      rw [if_neg h0, if_pos (show (stepX (s.mb c g) (s.ws.getD (posG C g) 0)).entered = true from hen)]
      exact setSt_eq _ _ _
    | false =>
      right
      refine ⟨?_, h1, ?_, rfl, hnm⟩
      · unfold enteringS
        rw [if_neg h0, if_neg (by rw [show (stepX (s.mb c g) (s.ws.getD (posG C g) 0)).entered = false from hen]; decide), if_neg (by rw [show (stepX (s.mb c g) (s.ws.getD (posG C g) 0)).missed = false from hnm]; decide)]
        rfl
      · unfold enteringS
        rw [if_neg h0, if_neg (by rw [show (stepX (s.mb c g) (s.ws.getD (posG C g) 0)).entered = false from hen]; decide), if_neg (by rw [show (stepX (s.mb c g) (s.ws.getD (posG C g) 0)).missed = false from hnm]; decide)]
        exact setMb_eq _ _ _ _
theorem entering_mb {C : List (List Win)} {s : Sq} {c : Nat} {g : Int} : ∀ d k, ¬ (d = c ∧ k = g) → (enteringS C s c g).mb d k = s.mb d k := by
  intro d k q
  unfold enteringS
  split
  · rfl
  · split
    · exact setMb_ne _ _ _ _ _ _ q
    · split
      · exact setMb_ne _ _ _ _ _ _ q
      · exact setMb_ne _ _ _ _ _ _ q
theorem entering_rd {C : List (List Win)} {s : Sq} {c : Nat} {g : Int} (d : Nat) (k : Int) : ((enteringS C s c g).mb d k).rd = (s.mb d k).rd := by
  by_cases q : d = c ∧ k = g
  · obtain ⟨rfl, rfl⟩ := q
    unfold enteringS
    split
    · rfl
    · split
      · show (((s.setMb d k _).mb d k)).rd = _; rw [setMb_eq, stepX_rd]
      · split
        · show (((s.setMb d k _).mb d k)).rd = _; rw [setMb_eq, stepX_rd]
        · show (((s.setMb d k _).mb d k)).rd = _; rw [setMb_eq, stepX_rd]
  · rw [entering_mb d k q]
theorem linv_entering {C : List (List Win)} (pg : PlanG C) {F : Int} (hF : 1 ≤ F) {s : Sq} (h : LInv C F s) (c : Nat) (hc : c < C.length) (hst : (s.co c).st = 2) : LInv C F (enteringS C s c (gangW C c (s.co c).at_.toNat)) := by
  obtain ⟨Ca, ht⟩ := h.tin
  have hout := entering_out pg hF h c hc hst
  have htin := tinv_entering pg.len pg.g h.ok ht c hc hst
  have hins : insideS C F (enteringS C s c (gangW C c (s.co c).at_.toNat)) := by
    have := inside_pick C F s c h.ins
    unfold pickS at this
    rwa [if_neg (by omega), if_neg (by omega), if_pos hst] at this
  have hw0 := h.ok.at_ c hc (by omega)
  have hil : (s.co c).at_.toNat < (coreW C c).length := by omega
  have hgr := pg.g c _ _ (List.getElem?_eq_getElem hil)
  have hge : gangW C c (s.co c).at_.toNat = Win.g (coreW C c)[(s.co c).at_.toNat] := gangW_of (List.getElem?_eq_getElem hil)
  have hok : (enteringS C s c (gangW C c (s.co c).at_.toNat)).Ok C := by
    refine ok_entering h.ok c _ (by omega) ?_
    by_cases h0 : gangW C c (s.co c).at_.toNat = 0
    · exact .inl h0
    · have hm := mem_at pg.g h.ok hc (by omega) (show 1 ≤ gangW C c (s.co c).at_.toNat by omega)
      have := word_fr hF h.ok.now.1 ht _ hm.2.1 hm.2.2.1 (many_pos pg.len hm)
      exact .inr ⟨hm, this.1, this.2.2⟩
  obtain ⟨g, hgg⟩ : ∃ g, gangW C c (s.co c).at_.toNat = g := ⟨_, rfl⟩
  have hph0 := h.ph c hc hst
  rw [hgg] at hout htin hins hok hge hph0 ⊢
  simp only at hout
  have hnow := entering_now C s c g
  have hfr := fr_eq (F := F) hnow
  have htk := tk_eq (F := F) hnow
  have hcod : ∀ d, d ≠ c → (enteringS C s c g).co d = s.co d := fun d hd => entering_ne C s c d g hd
  have hbl : ∀ d, ((enteringS C s c g).co d).bg = (s.co d).bg ∧ ((enteringS C s c g).co d).la = (s.co d).la ∧ ((enteringS C s c g).co d).at_ = (s.co d).at_ := fun d => by
    by_cases e : d = c
    · subst e
      rcases hout with q | q
      · rw [q]; exact ⟨rfl, rfl, rfl⟩
      · rw [q.1]; exact ⟨rfl, rfl, rfl⟩
    · rw [hcod d e]; exact ⟨rfl, rfl, rfl⟩
  refine ⟨hok, hins, ⟨_, htin⟩, fun d hd => ?_, fun d j hd hj hE => ?_, fun d hd hs hg => ?_⟩
  · rw [hfr, (hbl d).1]; exact h.bg d hd
  · have hE0 : EntF C F s d j := by
      rcases hE with hE | hE
      · rw [(hbl d).1, (hbl d).2.1, hfr] at hE; exact .inl hE
      · rw [entering_rd, hfr] at hE; exact .inr hE
    obtain ⟨k1, k2⟩ := h.ent d j hd hj hE0
    rw [htk]
    refine ⟨k1, fun hat => ?_⟩
    obtain ⟨k3, k4⟩ := k2 hat
    rw [(hbl d).2.2]
    refine ⟨?_, k4⟩
    by_cases e : d = c
    · subst e
      rcases hout with q | q
      · rw [q]; exact .inr rfl
      · rw [q.1]; exact .inl hst
    · rw [hcod d e]; exact k3
  · by_cases e : d = c
    · subst e
      rcases hout with q | q
      · rw [q] at hs; exact absurd hs (show ¬ (3 : Int) = 2 by decide)
      · rw [(hbl d).2.2, hgg] at hg ⊢
        rw [q.2.2.1]
        intro hz
        have hmb := (h.ok.mb d g (by
          have := mem_at pg.g h.ok hd (by omega) (by rw [hgg]; exact hg)
          rw [hgg] at this; exact this)).1
        rcases step_rest _ _ hmb.ph (hph0 hg) hz with z | z
        · rw [q.2.2.2.1] at z; cases z
        · rw [q.2.2.2.2] at z; cases z
    · rw [hcod d e] at hs hg ⊢
      rw [entering_mb d _ (fun q => e q.1)]
      exact h.ph d hd hs hg
theorem linv_pick {C : List (List Win)} (pg : PlanG C) {F : Int} (hF : 1 ≤ F) {s : Sq} (h : LInv C F s) (hf : frS F s ≤ 268435455) (c : Nat) (hc : c < C.length) : LInv C F (pickS C F s c) := by
  unfold pickS
  by_cases h1 : (s.co c).st = 1
  · rw [if_pos h1]
    obtain ⟨Ca, ht⟩ := h.tin
    have hins : insideS C F (s.setSt c 0) := by
      have := inside_pick C F s c h.ins
      unfold pickS at this
      rwa [if_pos h1] at this
    have htin : TInv C F (s.setSt c 0) (seenS C F (s.setSt c 0) Ca) := by
      have := tinv_pick pg.len hF pg.g h.ok ht c hc hf
      unfold pickS at this
      rwa [if_pos h1] at this
    refine ⟨ok_setSt h.ok c 0 ⟨by decide, by decide⟩ (.inl rfl), hins, ⟨_, htin⟩, fun d hd => ?_, fun d j hd hj hE => ?_, fun d hd hs hg => ?_⟩
    · by_cases e : d = c
      · subst e; rw [setSt_eq]; exact h.bg d hd
      · rw [setSt_ne _ _ _ _ e]; exact h.bg d hd
    · have hE0 : EntF C F s d j := by
        by_cases e : d = c
        · subst e
          rcases hE with hE | hE
          · rw [setSt_eq] at hE; exact .inl hE
          · exact .inr hE
        · rcases hE with hE | hE
          · rw [setSt_ne _ _ _ _ e] at hE; exact .inl hE
          · exact .inr hE
      obtain ⟨k1, k2⟩ := h.ent d j hd hj hE0
      refine ⟨k1, fun hat => ?_⟩
      obtain ⟨k3, k4⟩ := k2 hat
      by_cases e : d = c
      · subst e; omega
      · rw [setSt_ne _ _ _ _ e]; exact ⟨k3, k4⟩
    · by_cases e : d = c
      · subst e; rw [setSt_eq] at hs; exact absurd hs (show ¬ (0 : Int) = 2 by decide)
      · rw [setSt_ne _ _ _ _ e] at hs hg ⊢; exact h.ph d hd hs hg
  · rw [if_neg h1]
    by_cases h0 : (s.co c).st = 0
    · rw [if_pos h0]; exact linv_enter pg hF h hf c hc h0
    · rw [if_neg h0]
      by_cases h2 : (s.co c).st = 2
      · rw [if_pos h2]; exact linv_entering pg hF h c hc h2
      · rw [if_neg h2]; exact h
theorem linv_act {C : List (List Win)} (pg : PlanG C) {F : Int} (hF : 1 ≤ F) {s : Sq} (h : LInv C F s) (hf : frS F s ≤ 268435455) (a : Int) : LInv C F (actS C F s a) := by
  unfold actS
  split
  · exact linv_pass pg hF h
  · unfold pickT
    split
    · exact h
    · rename_i ho
      exact linv_pick pg hF h hf _ (by unfold outC at ho; omega)
end Go.Proofs.YtidjkhmlpgkaaaaDoor

namespace Go.Proofs.YtidjkhmlpgkaaaaDoor
open Go.RowKit
set_option linter.unusedVariables false
set_option linter.unusedSimpArgs false

def turnTo (C : List (List Win)) (F : Int) (s : Sq) : Nat → Sq
  | 0 => s
  | c + 1 => pickS C F (turnTo C F s c) c
def turns (C : List (List Win)) (F : Int) (s : Sq) : Nat → Sq
  | 0 => s
  | j + 1 => turnTo C F (turns C F s j) C.length
theorem turnTo_now (C : List (List Win)) (F : Int) (s : Sq) (k : Nat) : (turnTo C F s k).now = s.now := by
  induction k with
  | zero => rfl
  | succ k ih => rw [turnTo, pick_now, ih]
theorem turns_now (C : List (List Win)) (F : Int) (s : Sq) (j : Nat) : (turns C F s j).now = s.now := by
  induction j with
  | zero => rfl
  | succ j ih => rw [turns, turnTo_now, ih]
theorem turns_add (C : List (List Win)) (F : Int) (s : Sq) (a b : Nat) : turns C F s (a + b) = turns C F (turns C F s a) b := by
  induction b with
  | zero => rfl
  | succ b ih => rw [← Nat.add_assoc, turns, ih, turns]
section
variable {C : List (List Win)} (pg : PlanG C) {F : Int} (hF : 1 ≤ F)
include pg hF
theorem linv_turnTo {s : Sq} (h : LInv C F s) (hf : frS F s ≤ 268435455) (k : Nat) (hk : k ≤ C.length) : LInv C F (turnTo C F s k) := by
  induction k with
  | zero => exact h
  | succ k ih => exact linv_pick pg hF (ih (by omega)) (by rw [fr_eq (turnTo_now C F s k)]; exact hf) k (by omega)
theorem linv_turns {s : Sq} (h : LInv C F s) (hf : frS F s ≤ 268435455) (j : Nat) : LInv C F (turns C F s j) := by
  induction j with
  | zero => exact h
  | succ j ih => exact linv_turnTo pg hF ih (by rw [fr_eq (turns_now C F s j)]; exact hf) _ (Nat.le_refl _)
/-- A core that is entering or running its window stays so. -/
theorem pick_stay {s : Sq} (h : LInv C F s) (c d : Nat) (hc : c < C.length) (hs : (s.co c).st = 2 ∨ (s.co c).st = 3) : (((pickS C F s d).co c).st = 2 ∨ ((pickS C F s d).co c).st = 3) ∧ ((pickS C F s d).co c).at_ = (s.co c).at_ ∧ ((s.co c).st = 3 → (pickS C F s d).co c = s.co c) := by
  by_cases e : c = d
  · subst e
    unfold pickS
    rw [if_neg (by omega), if_neg (by omega)]
    by_cases h2 : (s.co c).st = 2
    · rw [if_pos h2]
      rcases entering_out pg hF h c hc h2 with q | q
      · rw [q]; exact ⟨.inr rfl, rfl, fun z => by omega⟩
      · rw [q.1]; exact ⟨hs, rfl, fun z => by omega⟩
    · rw [if_neg h2]; exact ⟨hs, rfl, fun _ => rfl⟩
  · rw [pick_ne C F s d c e]; exact ⟨hs, rfl, fun _ => rfl⟩
theorem pick_not1 {s : Sq} (h : LInv C F s) (c : Nat) (hc : c < C.length) : ((pickS C F s c).co c).st ≠ 1 := by
  have h3 := h.ok.st c hc
  by_cases hs : (s.co c).st = 2 ∨ (s.co c).st = 3
  · have := (pick_stay pg hF h c c hc hs).1; omega
  · unfold pickS
    by_cases h1 : (s.co c).st = 1
    · rw [if_pos h1, setSt_eq]; show ¬ (0 : Int) = 1; decide
    · rw [if_neg h1, if_pos (by omega)]
      rcases enter_eq C F s c with q | ⟨i, _, q⟩
      · rw [q]; exact h1
      · rw [q]; show ¬ (2 : Int) = 1; decide
theorem pick_not1' {s : Sq} (h : LInv C F s) (c d : Nat) (hc : c < C.length) (h1 : (s.co c).st ≠ 1) : ((pickS C F s d).co c).st ≠ 1 := by
  by_cases e : c = d
  · subst e; exact pick_not1 pg hF h c hc
  · rw [pick_ne C F s d c e]; exact h1
omit pg hF in
/-- A core is where the tick wants it. -/
def Placed (C : List (List Win)) (F : Int) (s : Sq) (c : Nat) : Prop := (atS (coreW C c) (tkS F s) = none → (s.co c).st = 0) ∧ ∀ i : Nat, atS (coreW C c) (tkS F s) = some i → ((s.co c).st = 2 ∨ (s.co c).st = 3) ∧ (s.co c).at_ = (i : Int)
theorem pick_placed {s : Sq} (h : LInv C F s) (c : Nat) (hc : c < C.length) (h1 : (s.co c).st ≠ 1) : Placed C F (pickS C F s c) c := by
  have h3 := h.ok.st c hc
  unfold Placed
  rw [tk_eq (pick_now C F s c)]
  by_cases hs : (s.co c).st = 2 ∨ (s.co c).st = 3
  · obtain ⟨k1, k2, _⟩ := pick_stay pg hF h c c hc hs
    obtain ⟨i, a, b⟩ := h.ins c hc hs
    refine ⟨(fun q => by rw [q] at b; cases b), fun j hj => ⟨k1, ?_⟩⟩
    rw [k2, a]
    rw [b] at hj
    injection hj with hj
    rw [hj]
  · have h0 : (s.co c).st = 0 := by omega
    unfold pickS
    rw [if_neg h1, if_pos h0]
    rcases hA : atS (coreW C c) (tkS F s) with _ | i
    · refine ⟨fun _ => ?_, (fun i hi => by cases hi)⟩
      have e : enterS C F s c = s := by unfold enterS; rw [hA]
      rw [e]; exact h0
    · refine ⟨fun q => by (cases q), fun j hj => ?_⟩
      injection hj with hj
      subst hj
      have hil := (atS_some hA).1
      rcases enter_eq C F s c with q | ⟨k, q1, q2⟩
      · exfalso
        -- it had entered the window in this frame
        have hold : (s.co c).bg = frS F s ∧ (s.co c).la = (i : Int) := by
          apply Classical.byContradiction
          intro hn
          unfold enterS at q
          rw [hA] at q
          simp only at q
          rw [if_neg hn] at q
          have : (s.co c).st = 2 := by
            split at q
            · rw [setCo_eq] at q; rw [← q]
            · rw [show ((s.setCo c ⟨2, i, frS F s, i⟩).setMb c (gangW C c i) _).co c = (s.setCo c ⟨2, i, frS F s, i⟩).co c from rfl, setCo_eq] at q; rw [← q]
          omega
        have := ((h.ent c i hc hil (.inl hold)).2 hA).1
        omega
      · rw [hA] at q1
        injection q1 with q1
        rw [q2, q1]
        exact ⟨.inl rfl, rfl⟩
theorem placed_keep {s : Sq} (h : LInv C F s) (c d : Nat) (hc : c < C.length) (hp : Placed C F s c) : Placed C F (pickS C F s d) c := by
  by_cases e : c = d
  · subst e
    refine pick_placed pg hF h c hc ?_
    rcases hA : atS (coreW C c) (tkS F s) with _ | i
    · have := hp.1 hA; omega
    · have := (hp.2 i hA).1; omega
  · unfold Placed
    rw [tk_eq (pick_now C F s d), pick_ne C F s d c e]
    exact hp
/-- Behind a turn no core is leaving; behind two each is where the tick wants it. -/
theorem turn_not1 {s : Sq} (h : LInv C F s) (hf : frS F s ≤ 268435455) (k : Nat) (hk : k ≤ C.length) : ∀ c, c < k → ((turnTo C F s k).co c).st ≠ 1 := by
  induction k with
  | zero => intro c hc; omega
  | succ k ih =>
    intro c hc
    have hl := linv_turnTo pg hF h hf k (by omega)
    rcases Nat.lt_succ_iff_lt_or_eq.1 hc with q | rfl
    · exact pick_not1' pg hF hl c k (by omega) (ih (by omega) c q)
    · exact pick_not1 pg hF hl c (by omega)
theorem turnTo_not1 {s : Sq} (h : LInv C F s) (hf : frS F s ≤ 268435455) (k : Nat) (hk : k ≤ C.length) (c : Nat) (hc : c < C.length) (h1 : (s.co c).st ≠ 1) : ((turnTo C F s k).co c).st ≠ 1 := by
  induction k with
  | zero => exact h1
  | succ k ih => exact pick_not1' pg hF (linv_turnTo pg hF h hf k (by omega)) c k hc (ih (by omega))
theorem turn_placed {s : Sq} (h : LInv C F s) (hf : frS F s ≤ 268435455) (h1 : ∀ c, c < C.length → (s.co c).st ≠ 1) (k : Nat) (hk : k ≤ C.length) : ∀ c, c < k → Placed C F (turnTo C F s k) c := by
  induction k with
  | zero => intro c hc; omega
  | succ k ih =>
    intro c hc
    have hl := linv_turnTo pg hF h hf k (by omega)
    rcases Nat.lt_succ_iff_lt_or_eq.1 hc with q | rfl
    · exact placed_keep pg hF hl c k (by omega) (ih (by omega) c q)
    · exact pick_placed pg hF hl c (by omega) (turnTo_not1 pg hF h hf c (by omega) c (by omega) (h1 c (by omega)))
theorem placed_turnTo {s : Sq} (h : LInv C F s) (hf : frS F s ≤ 268435455) (c : Nat) (hc : c < C.length) (hp : Placed C F s c) (k : Nat) (hk : k ≤ C.length) : Placed C F (turnTo C F s k) c := by
  induction k with
  | zero => exact hp
  | succ k ih => exact placed_keep pg hF (linv_turnTo pg hF h hf k (by omega)) c k hc (ih (by omega))
theorem two_placed {s : Sq} (h : LInv C F s) (hf : frS F s ≤ 268435455) (c : Nat) (hc : c < C.length) : Placed C F (turns C F s 2) c := by
  have h1 : ∀ c, c < C.length → ((turns C F s 1).co c).st ≠ 1 := fun c hc => turn_not1 pg hF h hf _ (Nat.le_refl _) c hc
  exact turn_placed pg hF (linv_turns pg hF h hf 1) (by rw [fr_eq (turns_now C F s 1)]; exact hf) h1 _ (Nat.le_refl _) c hc
theorem placed_turns {s : Sq} (h : LInv C F s) (hf : frS F s ≤ 268435455) (c : Nat) (hc : c < C.length) (hp : Placed C F s c) (j : Nat) : Placed C F (turns C F s j) c := by
  induction j with
  | zero => exact hp
  | succ j ih => exact placed_turnTo pg hF (linv_turns pg hF h hf j) (by rw [fr_eq (turns_now C F s j)]; exact hf) c hc ih _ (Nat.le_refl _)
/-- Who runs goes on. -/
theorem run_turnTo {s : Sq} (h : LInv C F s) (hf : frS F s ≤ 268435455) (c : Nat) (hc : c < C.length) (h3 : (s.co c).st = 3) (k : Nat) (hk : k ≤ C.length) : (turnTo C F s k).co c = s.co c := by
  induction k with
  | zero => rfl
  | succ k ih =>
    have e := ih (by omega)
    have := (pick_stay pg hF (linv_turnTo pg hF h hf k (by omega)) c k hc (by rw [e]; exact .inr h3)).2.2 (by rw [e]; exact h3)
    rw [turnTo, this, e]
theorem run_turns {s : Sq} (h : LInv C F s) (hf : frS F s ≤ 268435455) (c : Nat) (hc : c < C.length) (h3 : (s.co c).st = 3) (j : Nat) : (turns C F s j).co c = s.co c := by
  induction j with
  | zero => rfl
  | succ j ih => rw [turns, run_turnTo pg hF (linv_turns pg hF h hf j) (by rw [fr_eq (turns_now C F s j)]; exact hf) c hc (by rw [ih]; exact h3) _ (Nat.le_refl _), ih]
omit pg hF in
/-- A core in a window without a gang runs behind its pick. -/
theorem pick_plain {s : Sq} (c : Nat) (h2 : (s.co c).st = 2) (h0 : gangW C c (s.co c).at_.toNat = 0) : (pickS C F s c).co c = { s.co c with st := 3 } := by
  unfold pickS
  rw [if_neg (by omega), if_neg (by omega), if_pos h2]
  unfold enteringS
  rw [if_pos h0]
  exact setSt_eq _ _ _
theorem turn_plain {s : Sq} (h : LInv C F s) (hf : frS F s ≤ 268435455) (c : Nat) (hc : c < C.length) (hs : (s.co c).st = 2 ∨ (s.co c).st = 3) (h0 : gangW C c (s.co c).at_.toNat = 0) (k : Nat) (hk : k ≤ C.length) : (((turnTo C F s k).co c).st = 2 ∨ ((turnTo C F s k).co c).st = 3) ∧ ((turnTo C F s k).co c).at_ = (s.co c).at_ ∧ (c < k → ((turnTo C F s k).co c).st = 3) := by
  induction k with
  | zero => exact ⟨hs, rfl, fun q => by omega⟩
  | succ k ih =>
    obtain ⟨a, b, d⟩ := ih (by omega)
    have hl := linv_turnTo pg hF h hf k (by omega)
    obtain ⟨p1, p2, p3⟩ := pick_stay pg hF hl c k hc a
    refine ⟨p1, p2.trans b, fun q => ?_⟩
    rcases Nat.lt_succ_iff_lt_or_eq.1 q with q | rfl
    · rw [turnTo, p3 (d q)]; exact d q
    · rcases a with a | a
      · rw [turnTo, pick_plain c a (by rw [b]; exact h0)]
      · rw [turnTo, p3 a]; exact a
end
end Go.Proofs.YtidjkhmlpgkaaaaDoor

namespace Go.Proofs.YtidjkhmlpgkaaaaDoor
open Go.RowKit
set_option linter.unusedVariables false
set_option linter.unusedSimpArgs false

set_option linter.unusedSectionVars false
theorem filter_at (p : Nat → Bool) (n c : Nat) (hc : c < n) (h : p c = true) : ((List.range n).filter p)[((List.range c).filter p).length]? = some c := by
  induction n with
  | zero => omega
  | succ n ih =>
    rw [List.range_succ, List.filter_append]
    rcases Nat.lt_succ_iff_lt_or_eq.1 hc with q | rfl
    · have := ih q
      rw [List.getElem?_append_left (List.getElem?_eq_some_iff.1 this).1]
      exact this
    · rw [List.getElem?_append_right (Nat.le_refl _), Nat.sub_self]
      simp [h]
theorem eG_at (C : List (List Win)) (g : Int) (c : Nat) (hc : c < 8) (h : (gangM C g).testBit c = true) : eG C g (manyTo (gangM C g) c) = c ∧ manyTo (gangM C g) c < manyG C g := by
  have q := filter_at (fun d => (gangM C g).testBit d) 8 c hc h
  rw [← manyTo_filter] at q
  have q' : (cosG C g)[manyTo (gangM C g) c]? = some c := q
  refine ⟨by rw [eG, List.getD_eq_getElem?_getD, q']; rfl, ?_⟩
  have := (List.getElem?_eq_some_iff.1 q').1
  rwa [cosG_len] at this
theorem manyTo_len (C : List (List Win)) (hC : C.length ≤ 8) (g : Int) : manyTo (gangM C g) C.length = manyG C g := by
  have : ∀ d, manyTo (gangM C g) (C.length + d) = manyTo (gangM C g) C.length := by
    intro d
    induction d with
    | zero => rfl
    | succ d ih =>
      rw [← Nat.add_assoc, manyTo, ih, gangM_bit]
      have : ¬ C.length + d < C.length := by omega
      simp [this]
  have h := this (8 - C.length)
  rw [show C.length + (8 - C.length) = 8 by omega] at h
  exact h.symm
def Rel (C : List (List Win)) (s : Sq) (g : Int) (X : Nat → Mb) (W : Int) : Prop := (∀ i, i < manyG C g → s.mb (eG C g i) g = X i) ∧ wordG C s g = W
def Active (C : List (List Win)) (s : Sq) (g : Int) : Prop := ∀ c, memG C c g → ((s.co c).st = 2 ∨ (s.co c).st = 3) ∧ gangW C c (s.co c).at_.toNat = g
section
variable {C : List (List Win)} (pg : PlanG C) {F : Int} (hF : 1 ≤ F)
include pg hF
theorem einv_of {s : Sq} (h : LInv C F s) (hf : frS F s ≤ 268435455) (g : Int) (h1 : 1 ≤ g) (h2 : g ≤ 255) (hm : 1 ≤ manyG C g) (ha : Active C s g) {X : Nat → Mb} {W : Int} (hr : Rel C s g X W) : EInv (frS F s) (manyG C g) X W := by
  obtain ⟨Ca, ht⟩ := h.tin
  obtain ⟨D, p⟩ := ht.gang g h1 h2 hm
  have pc := p.congr hr.1
  rw [hr.2] at pc
  refine ⟨⟨fr_pos hF h.ok.now.1, hf⟩, ⟨D, pc⟩, fun i hi => ?_, fun i hi hp => ?_⟩
  · have hmem := eG_mem C g h1 h2 i hi
    obtain ⟨a, b⟩ := ha _ hmem
    have := ht.run _ hmem.1 a (by rw [b]; exact h1)
    rw [b, hr.1 i hi] at this
    exact this
  · have hmem := eG_mem C g h1 h2 i hi
    obtain ⟨a, b⟩ := ha _ hmem
    rw [← hr.1 i hi] at hp ⊢
    rcases a with a | a
    · have := h.ph _ hmem.1 a (by rw [b]; exact h1)
      rw [b] at this
      exact absurd hp this
    · have := ht.ent _ hmem.1 a (by rw [b]; exact h1)
      rw [b] at this
      exact this
theorem active_pick {s : Sq} (h : LInv C F s) (g : Int) (ha : Active C s g) (d : Nat) : Active C (pickS C F s d) g := by
  intro c hm
  obtain ⟨a, b⟩ := ha c hm
  obtain ⟨p1, p2, _⟩ := pick_stay pg hF h c d hm.1 a
  exact ⟨p1, by rw [p2]; exact b⟩
/-- A pick of a core that is none of the gang's. -/
theorem pick_other {s : Sq} (h : LInv C F s) (g : Int) (h1 : 1 ≤ g) (h2 : g ≤ 255) (hm : 1 ≤ manyG C g) (c : Nat) (hc : c < C.length) (hn : ¬ memG C c g) {X : Nat → Mb} {W : Int} (hr : Rel C s g X W) : Rel C (pickS C F s c) g X W := by
  have hne : ∀ i, i < manyG C g → eG C g i ≠ c := fun i hi q => hn (by rw [← q]; exact eG_mem C g h1 h2 i hi)
  have hs := h.ok.st c hc
  unfold pickS
  by_cases e1 : (s.co c).st = 1
  · rw [if_pos e1]; exact hr
  rw [if_neg e1]
  by_cases e0 : (s.co c).st = 0
  · rw [if_pos e0]
    have hws : (enterS C F s c).ws = s.ws := by
      unfold enterS
      split
      · rfl
      · split
        · rfl
        · split <;> rfl
    have hmb : ∀ d k, d ≠ c → (enterS C F s c).mb d k = s.mb d k := by
      intro d k hd
      unfold enterS
      split
      · rfl
      · split
        · rfl
        · split
          · rfl
          · exact setMb_ne _ _ _ _ _ _ (fun q => hd q.1)
    exact ⟨fun i hi => by rw [hmb _ _ (hne i hi)]; exact hr.1 i hi, by unfold wordG; rw [hws]; exact hr.2⟩
  rw [if_neg e0]
  by_cases e2 : (s.co c).st = 2
  · rw [if_pos e2]
    refine ⟨fun i hi => by rw [entering_mb _ _ (fun q => hne i hi q.1)]; exact hr.1 i hi, ?_⟩
    rw [← hr.2]
    by_cases z : gangW C c (s.co c).at_.toNat = 0
    · unfold enteringS
      rw [if_pos z]
      rfl
    · have hw0 := h.ok.at_ c hc (by omega)
      have hil : (s.co c).at_.toNat < (coreW C c).length := by omega
      have hgr := pg.g c _ _ (List.getElem?_eq_getElem hil)
      rw [← gangW_of (List.getElem?_eq_getElem hil)] at hgr
      have hmm := mem_at pg.g h.ok hc (by omega) (by omega)
      have hgne : gangW C c (s.co c).at_.toNat ≠ g := fun q => hn (by rw [← q]; exact hmm)
      have hpn : posG C (gangW C c (s.co c).at_.toNat) ≠ posG C g := fun q => hgne (posG_inj C _ g hmm.2.1 hmm.2.2.1 h1 h2 (gangM_ne C _ c hmm.1 hmm.2.2.2) (many_ne C g hm h1 h2) q)
      have hk : wordG C (stepMb C s c (gangW C c (s.co c).at_.toNat)) g = wordG C s g := by
        show (List.set _ _ _).getD _ _ = _
        rw [List.getD_eq_getElem?_getD, List.getElem?_set_ne hpn]
        rw [wordG, List.getD_eq_getElem?_getD]
      unfold enteringS
      rw [if_neg z]
      split
      · exact hk
      · split
        · exact hk
        · exact hk
  · rw [if_neg e2]; exact hr
/-- A pick of one of the gang's: its step. -/
theorem pick_member {s : Sq} (h : LInv C F s) (hf : frS F s ≤ 268435455) (g : Int) (h1 : 1 ≤ g) (h2 : g ≤ 255) (hm : 1 ≤ manyG C g) (ha : Active C s g) (j : Nat) (hj : j < manyG C g) {X : Nat → Mb} {W : Int} (hr : Rel C s g X W) :
    Rel C (pickS C F s (eG C g j)) g (upd X j (stepX (X j) W)) (stepW (X j) W) := by
  have hmem := eG_mem C g h1 h2 j hj
  obtain ⟨a, b⟩ := ha _ hmem
  have e := einv_of pg hF h hf g h1 h2 hm ha hr
  obtain ⟨D, p⟩ := e.p
  unfold pickS
  rw [if_neg (by omega), if_neg (by omega)]
  by_cases e2 : (s.co (eG C g j)).st = 2
  · rw [if_pos e2, b]
    have hpl : posG C g < s.ws.length := by rw [h.ok.ws]; exact posG_lt C g h2
    have hmb : (enteringS C s (eG C g j) g).mb (eG C g j) g = stepX (X j) W := by
      have q : (stepMb C s (eG C g j) g).mb (eG C g j) g = stepX (X j) W := by
        rw [← hr.1 j hj, ← hr.2]; exact setMb_eq _ _ _ _
      unfold enteringS
      rw [if_neg (by omega)]
      split
      · exact q
      · split
        · exact q
        · exact q
    have hw : wordG C (enteringS C s (eG C g j) g) g = stepW (X j) W := by
      have q : wordG C (stepMb C s (eG C g j) g) g = stepW (X j) W := by
        show (List.set _ _ _).getD _ _ = _
        rw [List.getD_eq_getElem?_getD, List.getElem?_set_self hpl, ← hr.1 j hj, ← hr.2]
        rfl
      unfold enteringS
      rw [if_neg (by omega)]
      split
      · exact q
      · split
        · exact q
        · exact q
    refine ⟨fun i hi => ?_, hw⟩
    by_cases ei : i = j
    · subst ei; rw [upd_self]; exact hmb
    · rw [upd_ne _ _ _ _ ei, entering_mb _ _ (fun q => ei (eG_inj C g i j hi hj q.1))]
      exact hr.1 i hi
  · rw [if_neg e2]
    have h3 : (s.co (eG C g j)).st = 3 := by omega
    obtain ⟨Ca, ht⟩ := h.tin
    have hent := ht.ent _ hmem.1 h3 (by rw [b]; exact h1)
    rw [b, hr.1 j hj] at hent
    have hph : (X j).ph = 0 := by
      have hk := (p.ok j hj).ph
      apply Classical.byContradiction
      intro hn
      rcases (show (X j).ph = 1 ∨ (X j).ph = 2 ∨ (X j).ph = 3 by omega) with q | q | q
      · have := (p.p12 j hj (.inl q)).2.1; rw [hent] at this; cases this
      · have := (p.p12 j hj (.inr q)).2.1; rw [hent] at this; cases this
      · have := (p.p3 j hj q).2.1; rw [hent] at this; cases this
    have s1 : stepX (X j) W = X j := by rw [stepX, if_neg (by omega), if_neg (by omega)]
    have s2 : stepW (X j) W = W := by rw [stepW, if_neg (fun q => by omega)]
    rw [s1, s2, upd_same X j (X j) rfl]
    exact hr
theorem turnTo_rel {s : Sq} (h : LInv C F s) (hf : frS F s ≤ 268435455) (g : Int) (h1 : 1 ≤ g) (h2 : g ≤ 255) (hm : 1 ≤ manyG C g) (ha : Active C s g) {X : Nat → Mb} {W : Int} (hr : Rel C s g X W) (k : Nat) (hk : k ≤ C.length) :
    Rel C (turnTo C F s k) g (run X W (manyTo (gangM C g) k)).1 (run X W (manyTo (gangM C g) k)).2 ∧ Active C (turnTo C F s k) g := by
  have hC := pg.len
  induction k with
  | zero => exact ⟨hr, ha⟩
  | succ k ih =>
    obtain ⟨r, a⟩ := ih (by omega)
    have hl := linv_turnTo pg hF h hf k (by omega)
    have hf' : frS F (turnTo C F s k) ≤ 268435455 := by rw [fr_eq (turnTo_now C F s k)]; exact hf
    refine ⟨?_, active_pick pg hF hl g a k⟩
    cases hb : (gangM C g).testBit k with
    | true =>
      obtain ⟨e1, e2⟩ := eG_at C g k (by omega) hb
      have := pick_member pg hF hl hf' g h1 h2 hm a _ e2 r
      rw [e1] at this
      rw [manyTo, hb, if_pos rfl, run_succ1, run_succ2]
      exact this
    | false =>
      rw [manyTo, hb, if_neg (by decide), Nat.add_zero]
      refine pick_other pg hF hl g h1 h2 hm k (by omega) (fun q => ?_) r
      rw [gangM_bit, q.2.2.2] at hb
      simp [q.1] at hb
theorem gang_turns {s : Sq} (h : LInv C F s) (hf : frS F s ≤ 268435455) (g : Int) (h1 : 1 ≤ g) (h2 : g ≤ 255) (hm : 1 ≤ manyG C g) (ha : Active C s g) (t : Nat) :
    ∃ X W, Rel C (turns C F s t) g X W ∧ Prog (manyG C g) t X W ∧ Active C (turns C F s t) g := by
  induction t with
  | zero => exact ⟨fun i => s.mb (eG C g i) g, wordG C s g, ⟨fun _ _ => rfl, rfl⟩, Prog.start _ _ _, ha⟩
  | succ t ih =>
    obtain ⟨X, W, r, p, a⟩ := ih
    have hl := linv_turns pg hF h hf t
    have hf' : frS F (turns C F s t) ≤ 268435455 := by rw [fr_eq (turns_now C F s t)]; exact hf
    obtain ⟨r2, a2⟩ := turnTo_rel pg hF hl hf' g h1 h2 hm a r C.length (Nat.le_refl _)
    rw [manyTo_len C pg.len g] at r2
    exact ⟨_, _, r2, p.turn (einv_of pg hF hl hf' g h1 h2 hm a r) (manyTo_le _ _) hm, a2⟩
/-- Whatever came before: behind so many turns each core runs the window that has the tick, or is off. -/
theorem time_done {s : Sq} (h : LInv C F s) (hf : frS F s ≤ 268435455) (c : Nat) (hc : c < C.length) :
    (atS (coreW C c) (tkS F s) = none → ((turns C F s (2 * C.length + 6)).co c).st = 0) ∧ ∀ i : Nat, atS (coreW C c) (tkS F s) = some i → ((turns C F s (2 * C.length + 6)).co c).st = 3 ∧ ((turns C F s (2 * C.length + 6)).co c).at_ = (i : Int) := by
  have hl2 := linv_turns pg hF h hf 2
  have hf2 : frS F (turns C F s 2) ≤ 268435455 := by rw [fr_eq (turns_now C F s 2)]; exact hf
  have hp2 := fun d hd => two_placed pg hF h hf d hd
  have htk : tkS F (turns C F s 2) = tkS F s := tk_eq (turns_now C F s 2)
  have split : turns C F s (2 * C.length + 6) = turns C F (turns C F s 2) (2 * C.length + 4) := by rw [← turns_add]; congr 1; omega
  rw [split]
  refine ⟨fun hA => ?_, fun i hA => ?_⟩
  · have := placed_turns pg hF hl2 hf2 c hc (hp2 c hc) (2 * C.length + 4)
    exact this.1 (by rw [tk_eq (turns_now C F _ _), htk]; exact hA)
  · obtain ⟨b1, b2⟩ := (hp2 c hc).2 i (by rw [htk]; exact hA)
    have fin : ∀ j, j ≤ 2 * C.length + 4 → ((turns C F (turns C F s 2) j).co c).st = 3 → ((turns C F (turns C F s 2) (2 * C.length + 4)).co c).st = 3 ∧ ((turns C F (turns C F s 2) (2 * C.length + 4)).co c).at_ = (i : Int) := fun j hj h3 => by
      have e : turns C F (turns C F s 2) (2 * C.length + 4) = turns C F (turns C F (turns C F s 2) j) (2 * C.length + 4 - j) := by rw [← turns_add C F (turns C F s 2)]; congr 1; omega
      have hpj := (placed_turns pg hF hl2 hf2 c hc (hp2 c hc) j).2 i (by rw [tk_eq (turns_now C F _ _), htk]; exact hA)
      rw [e, run_turns pg hF (linv_turns pg hF hl2 hf2 j) (by rw [fr_eq (turns_now C F _ _)]; exact hf2) c hc h3]
      exact ⟨h3, hpj.2⟩
    by_cases h0 : gangW C c i = 0
    · have := turn_plain pg hF hl2 hf2 c hc b1 (by rw [b2]; exact h0) C.length (Nat.le_refl _)
      exact fin 1 (by omega) (this.2.2 hc)
    · have hil := (atS_some hA).1
      have hgr := pg.g c i _ (List.getElem?_eq_getElem hil)
      rw [← gangW_of (List.getElem?_eq_getElem hil)] at hgr
      have hmem := memG_win pg.g hc hil (show 1 ≤ gangW C c i by omega)
      have hact : Active C (turns C F s 2) (gangW C c i) := fun d hd => by
        obtain ⟨j, q1, q2⟩ := gang_at_all pg hc hA (by omega) hd
        obtain ⟨k1, k2⟩ := (hp2 d hd.1).2 j (by rw [htk]; exact q1)
        exact ⟨k1, by rw [k2]; exact q2⟩
      have hmp := many_pos pg.len hmem
      obtain ⟨X, W, r, p, a⟩ := gang_turns pg hF hl2 hf2 _ hmem.2.1 hmem.2.2.1 hmp hact (2 * manyG C (gangW C c i) + 2)
      have hnl : manyG C (gangW C c i) ≤ C.length := by rw [← manyTo_len C pg.len]; exact manyTo_le _ _
      refine fin (2 * manyG C (gangW C c i) + 2) (by omega) ?_
      obtain ⟨j, hj, ej⟩ := eG_all C pg.len _ c hmem
      obtain ⟨k1, k2⟩ := a c hmem
      rcases k1 with k1 | k1
      · exfalso
        have hlt := linv_turns pg hF hl2 hf2 (2 * manyG C (gangW C c i) + 2)
        have hph := hlt.ph c hc k1 (by rw [k2]; omega)
        rw [k2] at hph
        have h0 := p.2 (Nat.le_refl _) j hj
        rw [← r.1 j hj, ej] at h0
        exact hph h0
      · exact k1
end
end Go.Proofs.YtidjkhmlpgkaaaaDoor

namespace Go.Proofs.YtidjkhmlpgkaaaaDoor
open Go.RowKit
set_option linter.unusedVariables false
set_option linter.unusedSimpArgs false

theorem pickT_in {C : List (List Win)} {F : Int} {s : Sq} {c : Nat} (hc : c < C.length) : pickT C F s (c : Int) = pickS C F s c := by
  unfold pickT
  rw [if_neg (by unfold outC; omega), Int.toNat_natCast]
theorem time_core {C : List (List Win)} (pg : PlanG C) {F : Int} (hF : 1 ≤ F) (hok : ∀ L ∈ C, ∀ x ∈ L, Win.Ok x) {s : Sq} (h : LInv C F s) (hf : frS F s ≤ 268435455) (c : Nat) (hc : c < C.length) (tt : Int) (ht : tkS F s = tt) :
    (0 ≤ servesS (coreW C c) tt → (coreA C (turns C F s (2 * C.length + 6)) c).1 = 3 ∧ (coreA C (turns C F s (2 * C.length + 6)) c).2.1 = servesS (coreW C c) tt) ∧ (servesS (coreW C c) tt < 0 → (coreA C (turns C F s (2 * C.length + 6)) c).1 = 0) := by
  subst ht
  obtain ⟨k1, k2⟩ := time_done pg hF h hf c hc
  rcases hA : atS (coreW C c) (tkS F s) with _ | i
  · refine ⟨fun q => ?_, fun _ => ?_⟩
    · rw [serves_no hA] at q; exact absurd q (by decide)
    · rw [coreA_st hc]; exact k1 hA
  · obtain ⟨q1, q2⟩ := k2 i hA
    have hi := (atS_some hA).1
    have hW : wAt (coreW C c) i = (coreW C c)[i] := wAt_some (List.getElem?_eq_getElem hi)
    have hm : coreW C c ∈ C := by
      have := core_get hc
      exact List.mem_of_getElem? this
    have h0 := (hok _ hm _ (List.getElem_mem hi)).p.1
    rw [← hW] at h0
    rw [serves_of hA]
    refine ⟨fun _ => ?_, fun q => absurd q (by omega)⟩
    rw [coreA_of hc (by omega)]
    refine ⟨q1, ?_⟩
    show Win.p (wAt (coreW C c) ((turns C F s (2 * C.length + 6)).co c).at_.toNat) = _
    rw [q2, Int.toNat_natCast]
/-- A sequencer's state with all that is known of it. -/
structure Lv (w w0 W : World) (l : Loc) (P : Plan) (s : Sq) (n : Nat) : Prop where
  r : Run w w0 W l P s n
  i : LInv (Plan.cores P) (Plan.frame P) s
theorem Lv.below {w w0 W W' : World} {l : Loc} {P : Plan} {s : Sq} {n : Nat} (h : Lv w w0 W l P s n) (k : Below W.heap.size W W') : Lv w w0 W' l P s n := ⟨h.r.below k, h.i⟩
theorem Lv.mono {w w0 W : World} {l : Loc} {P : Plan} {s : Sq} {n m : Nat} (h : Lv w w0 W l P s n) (hm : n ≤ m) : Lv w w0 W l P s m := ⟨⟨h.r.st.mono hm, h.r.bel, h.r.old, h.r.hi⟩, h.i⟩
set_option maxHeartbeats 12800000 in
set_option maxRecDepth 100000 in
theorem wtime_any (w : World) (v av : Value) (P : Plan) (A : List Int) (hl : Look w) (hv : PlanV w v P) (hz : Sz P) (hA : Ints w .i16 av A) (hAr : ∀ x ∈ A, -32768 ≤ x ∧ x ≤ 32767) : Calls Tryd.prog 6 #[v, av] w (LawR w) := by
  have HV := Aside.mk hv
  have HL := Aside.mk hl
  have HA := Aside.mk hA
  have HAr := Aside.mk hAr
  have KS := Aside.mk (fun W (h : Below w.heap.size w W) => small_any W v P (HV.out.below h) hz)
  obtain ⟨a0, c0, a1, c1, a2, c2, a3, c3, rfl, hp, hlen⟩ := hv.open_
  have HP := Aside.mk hp
  obtain ⟨W1, HW⟩ : ∃ W1, Aside (W1 = w.alloc (.cells #[.int .u16 (Plan.frame P), .slice a0 (Plan.cores P).length c0, .slice a1 (Plan.parts P).length c1, .slice a2 (Plan.chans P).length c2, .slice a3 (Plan.pairs P).length c3] 28)) := ⟨_, ⟨rfl⟩⟩
  have hb1 : Aside (Below w.heap.size w W1 ∧ W1.heap[w.heap.size]? = some (.cells #[.int .u16 (Plan.frame P), .slice a0 (Plan.cores P).length c0, .slice a1 (Plan.parts P).length c1, .slice a2 (Plan.chans P).length c2, .slice a3 (Plan.pairs P).length c3] 28 (0, 0))) := ⟨by rw [HW.out]; exact ⟨bel_one _ _, heap_alloc_new _ _⟩⟩
  obtain ⟨x0, x1, x2, x3, x4⟩ := lbox5 hb1.out.2
  obtain ⟨aa, ac, rfl, hAl, _⟩ := hA.at_
  have KA := Aside.mk (fun W (h : Below w.heap.size w W) => awake_any W (HL.out.below h))
  clear hv hl hp hz hA hAr
  go_enter Tryd.func6, Tryd.ntmps6
  go_wp2_with fail
  rw [← HW.out]
  go_wp2_with fail
  refine (KS.out _ hb1.out.1).mono ?_
  rintro e w2 ⟨b, rfl, hb, b2⟩
  cases b
  · have B2 := Aside.mk (bel_then hb1.out.1 b2)
    clear b2 hb x0 x1 x2 x3 x4
    go_wp2_with fail
    refine (KA.out _ B2.out).mono ?_
    rintro e w3 ⟨rfl, b3⟩
    go_wp2_with fail
    go_ret
    exact ⟨rfl, bel_then B2.out b3⟩
  · have HF := Aside.mk (hb rfl)
    have B2 := Aside.mk (bel_then hb1.out.1 b2)
    have X2 := Aside.mk (lup b2 hb1.out.2)
    clear b2 hb x0 x1 x2 x3 x4
    obtain ⟨x0, x1, x2, x3, x4⟩ := lbox5 X2.out
    rcases hq : checkO P with _ | x
    · have KN := Aside.mk (wnew_ex w2 _ P (HV.out.below B2.out) (HL.out.below B2.out) HF.out hq)
      have hR := rules_of (checkO_none.1 hq)
      have hcn := check_none (checkO_none.1 hq)
      have hfr := HP.out.frame
      have hF1 : 1 ≤ Plan.frame P := by omega
      have PG := Aside.mk (planG_of hR (plan_ok HV.out))
      have hC8 := HF.out.cores
      have hC1 : 1 ≤ (Plan.cores P).length := hcn.2.1
      have L0 := Aside.mk (linv_init (Plan.cores P) hC8 (Plan.frame P) hF1)
      have X0 : Aside (∀ W, Below w2.heap.size w2 W → W.heap[w.heap.size]? = some (.cells #[.int .u16 (Plan.frame P), .slice a0 (Plan.cores P).length c0, .slice a1 (Plan.parts P).length c1, .slice a2 (Plan.chans P).length c2, .slice a3 (Plan.pairs P).length c3] 28 (0, 0))) := ⟨fun W b => lup b X2.out⟩
      have HCC : Aside (∀ W, Below w2.heap.size w2 W → Cores W (.slice a0 (Plan.cores P).length c0) (Plan.cores P)) := ⟨fun W b => HP.out.cores.below (bel_then B2.out b)⟩
      have HAA : Aside (∀ W, Below w2.heap.size w2 W → ∀ k, k < A.length → ∃ ad, aa = some ad ∧ W.cell? (ad.add k) = some (.int .i16 (A.getD k 0))) := ⟨fun W b k hk => by
        obtain ⟨a', c', e', _, h1⟩ := (HA.out.below (bel_then B2.out b)).at_
        injection e' with e1 e2 e3
        subst e1
        exact h1 k hk⟩
      clear hq hR hcn
      obtain ⟨F, hFF⟩ : ∃ F, Aside (Plan.frame P = F) := ⟨_, ⟨rfl⟩⟩
      obtain ⟨C, hCC⟩ : ∃ C, Aside (Plan.cores P = C) := ⟨_, ⟨rfl⟩⟩
      go_wp2_with fail
      refine KN.out.mono ?_
      rintro e w3 ⟨w0, l, rfl, r⟩
      have R3 : Aside (Lv w2 w0 w3 l P (runS (Plan.cores P) (Plan.frame P) A 0) 0) := ⟨⟨r, L0.out⟩⟩
      clear r x0 x1 x2 x3 x4 KN
      go_wp2_with fail
      refine (KA.out _ (bel_then B2.out R3.out.r.bel)).mono ?_
      rintro e w4 ⟨rfl, b4⟩
      have R4 := Aside.mk (R3.out.below b4)
      clear b4
      obtain ⟨x0, x1, x2, x3, x4⟩ := lbox5 (X0.out _ R4.out.r.bel)
      go_upto_block 0 with (fail)
      go_cut [] (fun wc => Aside (∃ s n, n ≤ 100 ∧ Lv w2 w0 wc l P s n ∧ s.now ≤ 100))
      case first =>
        go_wp2_with fail
        go_loopw [8] (fun i wr => ∃ k : Nat, k ≤ A.length ∧ k ≤ 100 ∧ i = .int .i64 k ∧ Aside (Lv w2 w0 wr l P (runS (Plan.cores P) (Plan.frame P) A k) k ∧ (runS (Plan.cores P) (Plan.frame P) A k).now ≤ k)) (fun i _ => A.length - (intOf i).toNat)
        case atStart => exact ⟨0, by omega, by omega, rfl, ⟨R4.out, by show (0 : Int) ≤ 0; decide⟩⟩
        case round =>
          obtain ⟨k, hk, hk1, rfl, T⟩ := hrel
          by_cases hkl : k < A.length
          · by_cases hk100 : k < 100
            · have hk100' : (k : Int) < 100 := by omega
              obtain ⟨ad, rfl, c1⟩ := HAA.out wr T.out.1.r.bel k hkl
              have hr := HAr.out (A.getD k 0) (by rw [List.getD_eq_getElem?_getD, List.getElem?_eq_getElem hkl]; exact List.getElem_mem hkl)
              have HE : Aside (runS (Plan.cores P) (Plan.frame P) A (k + 1) = actS (Plan.cores P) (Plan.frame P) (runS (Plan.cores P) (Plan.frame P) A k) (A.getD k 0)) := ⟨rfl⟩
              have HI : Aside (LInv (Plan.cores P) (Plan.frame P) (runS (Plan.cores P) (Plan.frame P) A (k + 1))) := ⟨linv_act PG.out hF1 T.out.1.i (by have := fr_small hF1 T.out.1.i.ok.now.1 T.out.2; omega) _⟩
              have HN : Aside ((runS (Plan.cores P) (Plan.frame P) A (k + 1)).now ≤ ((k + 1 : Nat) : Int)) := ⟨by have := act_now (Plan.cores P) (Plan.frame P) (runS (Plan.cores P) (Plan.frame P) A k) (A.getD k 0); have := T.out.2; rw [HE.out]; omega⟩
              have TT := T
              generalize A.getD k 0 = a at *
              clear T
              by_cases ha : a < 0
              · have KT := Aside.mk (Tick_any TT.out.1.r.st)
                have HE2 : Aside (passS (Plan.cores P) (Plan.frame P) (runS (Plan.cores P) (Plan.frame P) A k) = runS (Plan.cores P) (Plan.frame P) A (k + 1)) := ⟨by rw [HE.out, actS, if_pos ha]⟩
                rw [HE2.out] at KT
                clear HE HE2
                go_wp2_with fail
                refine KT.out.mono ?_
                rintro e w5 ⟨rfl, t5, k5⟩
                have R5 : Aside (Lv w2 w0 w5 l P (runS (Plan.cores P) (Plan.frame P) A (k + 1)) (k + 1) ∧ (runS (Plan.cores P) (Plan.frame P) A (k + 1)).now ≤ ((k + 1 : Nat) : Int)) := ⟨⟨TT.out.1.r.act (t5.mono (Nat.le_succ k)) k5, HI.out⟩, HN.out⟩
                clear t5 k5 c1
                go_wp2_with fail
                go_roundw
                case rel => exact ⟨k + 1, by omega, by omega, by go_num, R5⟩
                case measure => simp [intOf]; omega
              · have KT := Aside.mk (pick_any TT.out.1.r.st a (by omega))
                have HE2 : Aside (pickT (Plan.cores P) (Plan.frame P) (runS (Plan.cores P) (Plan.frame P) A k) a = runS (Plan.cores P) (Plan.frame P) A (k + 1)) := ⟨by rw [HE.out, actS, if_neg ha]⟩
                obtain ⟨pb, hpb⟩ : ∃ pb, pickB (Plan.cores P) (runS (Plan.cores P) (Plan.frame P) A k) a = pb := ⟨_, rfl⟩
                obtain ⟨pe, hpe⟩ : ∃ pe, pickE (Plan.cores P) a = pe := ⟨_, rfl⟩
                rw [hpb, hpe, HE2.out] at KT
                clear HE HE2 hpb hpe
                go_wp2_with fail
                refine KT.out.mono ?_
                rintro e w5 ⟨rfl, t5, k5⟩
                have R5 : Aside (Lv w2 w0 w5 l P (runS (Plan.cores P) (Plan.frame P) A (k + 1)) (k + 1) ∧ (runS (Plan.cores P) (Plan.frame P) A (k + 1)).now ≤ ((k + 1 : Nat) : Int)) := ⟨⟨TT.out.1.r.act t5 k5, HI.out⟩, HN.out⟩
                clear t5 k5 c1
                go_wp2_with fail
                go_roundw
                case rel => exact ⟨k + 1, by omega, by omega, by go_num, R5⟩
                case measure => simp [intOf]; omega
            · obtain rfl : k = 100 := by omega
              go_wp2_with fail
              go_meet
              case rel => exact ⟨_, _, by omega, T.out.1, T.out.2⟩
          · obtain rfl : k = A.length := by omega
            go_wp2_with fail
            go_meet
            case rel => exact ⟨_, _, by omega, T.out.1, by have := T.out.2; omega⟩
      case rest =>
        rename World => wc
        obtain ⟨⟨s0, n0, hn0, T0, hnow0⟩⟩ := hcut
        clear x0 x1 x2 x3 x4
        have Z0 : Aside (Lv w2 w0 wc l P s0 n0 ∧ s0.now ≤ 100001) := ⟨T0, by omega⟩
        have hF2 : Plan.frame P ≤ 65535 := hfr.2
        go_upto_block 2 with (fail)
        go_wp2_with fail
        go_loopg [] (100002 - s0.now).toNat (fun q wr => ∃ s n, q = (100002 - s.now).toNat ∧ n ≤ 100 ∧ Aside (Lv w2 w0 wr l P s n ∧ s.now ≤ 100001))
        case atStart => exact ⟨s0, n0, rfl, hn0, Z0⟩
        case round =>
          rename World => wa
          obtain ⟨s, n, rfl, hn, T⟩ := hrel
          obtain ⟨x0, x1, x2, x3, x4⟩ := lbox5 (X0.out _ T.out.1.r.bel)
          have KN : Aside (∀ m, Calls Tryd.prog 13 #[.pointer (some ⟨l.S, 0, none⟩)] (wa.drewN m) fun e w' => e = .returned (.int .i64 s.now) ∧ w' = wa.drewN m) := ⟨fun m => (now_any (T.out.1.r.st.below (below_drewN wa m))).mono (fun _ _ q => ⟨q.1, q.2.symm⟩)⟩
          have n0' := T.out.1.i.ok.now.1
          have n1' := T.out.2
          have HS : Aside (tkS (Plan.frame P) s = s.now % Plan.frame P) := ⟨rfl⟩
          obtain ⟨t, ht⟩ : ∃ t, Aside (s.now = t) := ⟨_, ⟨rfl⟩⟩
          rw [ht.out] at KN n0' n1' HS
          obtain ⟨F', hF'⟩ : ∃ F', Aside (Plan.frame P = F') := ⟨_, ⟨rfl⟩⟩
          rw [hF'.out] at x0 HS
          have hF1' : 1 ≤ F' := by rw [← hF'.out]; exact hF1
          have hF2' : F' ≤ 65535 := by rw [← hF'.out]; exact hF2
          have e1 : (F' == 0) = false := beq_eq_false_iff_ne.2 (by omega)
          have e2 : t.tmod F' = t % F' := Int.tmod_eq_emod_of_nonneg n0'
          have e3 : IntKind.u16.wrap F' = F' := by rw [IntKind.wrap_u16]; omega
          by_cases hgo : t % F' ≠ 0 ∨ t = 0
          · have hq : (t % F' != 0) = true ∨ ((t % F' != 0) = false ∧ (t == 0) = true) := by
              by_cases z : t % F' = 0
              · exact .inr ⟨by rw [z]; rfl, beq_iff_eq.2 (hgo.resolve_left (fun y => y z))⟩
              · exact .inl (bne_iff_ne.2 z)
            clear hgo
            rcases hq with hq | ⟨hq, hq2⟩
            all_goals
              go_wp2_with fail
              go_quiet ((go_at_call 13; exact Calls.quiet_of_same (KN.out _)))
              have R1 := Aside.mk (T.out.1.below (below_drewN wa nq))
              have K1 := Aside.mk (now_any R1.out.r.st)
              rw [ht.out] at K1
              clear x0 x1 x2 x3 x4 e1 e2 e3
              go_wp2_with fail
              refine K1.out.mono ?_
              rintro e w5 ⟨rfl, rfl⟩
              by_cases hbig : 100000 < t
              · go_wp2_with fail
                go_ret
                exact ⟨rfl, bel_then B2.out R1.out.r.bel⟩
              · have K2 := Aside.mk (Tick_any R1.out.r.st)
                have HI := Aside.mk (linv_pass PG.out hF1 T.out.1.i)
                have HN : Aside ((passS (Plan.cores P) (Plan.frame P) s).now = t + 1) := ⟨by unfold passS; rw [if_neg (by rw [ht.out]; omega)]; show s.now + 1 = _; rw [ht.out]⟩
                go_wp2_with fail
                refine K2.out.mono ?_
                rintro e w6 ⟨rfl, t6, k6⟩
                have R6 : Aside (Lv w2 w0 w6 l P (passS (Plan.cores P) (Plan.frame P) s) n ∧ (passS (Plan.cores P) (Plan.frame P) s).now ≤ 100001) := ⟨⟨R1.out.r.act t6 k6, HI.out⟩, by rw [HN.out]; omega⟩
                clear t6 k6
                go_wp2_with fail
                go_roundg (100002 - (t + 1)).toNat
                case measure => (have := ht.out; omega)
                case rel => exact ⟨passS (Plan.cores P) (Plan.frame P) s, n, by rw [HN.out], hn, R6⟩
          · have hq : (t % F' != 0) = false := by
              have : t % F' = 0 := Classical.byContradiction (fun z => hgo (.inl z))
              rw [this]; rfl
            have hq2 : (t == 0) = false := beq_eq_false_iff_ne.2 (fun z => hgo (.inr z))
            have hz : t % F' = 0 := Classical.byContradiction (fun z => hgo (.inl z))
            have htp : 1 ≤ t := by have : t ≠ 0 := fun z => hgo (.inr z); omega
            have HZ := Aside.mk hz
            clear hgo hz
            go_wp2_with fail
            go_quiet ((go_at_call 13; exact Calls.quiet_of_same (KN.out _)))
            have R1 := Aside.mk (T.out.1.below (below_drewN wa nq))
            clear x0 x1 x2 x3 x4 e1 e2 e3 hq hq2
            go_upto_block 4 with (fail)
            have T4 : Aside (Lv w2 w0 (wa.drewN nq) l P s n ∧ s.now = t + (0 : Nat)) := ⟨R1.out, by rw [ht.out]; omega⟩
            have HOK := Aside.mk (plan_ok HV.out)
            go_wp2_with fail
            go_loopw [9] (fun i wr => ∃ (tt : Nat) (s' : Sq) (n' : Nat), tt ≤ 60 ∧ (tt : Int) ≤ F' ∧ n' ≤ 100 + tt * 176 ∧ i = .int .i64 tt ∧ Aside (Lv w2 w0 wr l P s' n' ∧ s'.now = t + tt)) (fun i _ => 60 - (intOf i).toNat)
            case atStart => exact ⟨0, s, n, by omega, by omega, by omega, rfl, T4⟩
            case round =>
              clear KN HS
              obtain ⟨tt, s', n', h60, hFt, hnn, rfl, T'⟩ := hrel
              obtain ⟨x0, x1, x2, x3, x4⟩ := lbox5 (X0.out _ T'.out.1.r.bel)
              rw [hF'.out] at x0
              have e3 : IntKind.u16.wrap F' = F' := by rw [IntKind.wrap_u16]; omega
              by_cases hl1 : (tt : Int) < F'
              · by_cases hl2 : (tt : Int) < 60
                · have hn0 := T'.out.1.i.ok.now.1
                  have HFR : Aside (frS (Plan.frame P) s' ≤ 268435455) := ⟨by have := fr_small hF1 hn0 (Int.le_refl _); have := T'.out.2; have := T.out.2; have := ht.out; omega⟩
                  have HTK : Aside (tkS (Plan.frame P) s' = tt) := ⟨by
                    unfold tkS
                    rw [T'.out.2, hF'.out, Int.add_emod, HZ.out, Int.zero_add, Int.emod_emod]
                    exact Int.emod_eq_of_lt (by omega) hl1⟩
                  have HD := Aside.mk (fun c hc => time_core PG.out hF1 HOK.out T'.out.1.i HFR.out c hc tt HTK.out)
                  have T6 : Aside (Lv w2 w0 wr l P (turns (Plan.cores P) (Plan.frame P) s' 0) (n' + 0 * 8)) := ⟨T'.out.1⟩
                  go_upto_block 6 with (fail)
                  clear x0 x1 x2 x3 x4 e3 hn0
                  go_wp2_with fail
                  go_loopw [10] (fun i wr => ∃ j : Nat, j ≤ 2 * (Plan.cores P).length + 6 ∧ i = .int .i64 j ∧ Aside (Lv w2 w0 wr l P (turns (Plan.cores P) (Plan.frame P) s' j) (n' + j * 8))) (fun i _ => 2 * (Plan.cores P).length + 6 - (intOf i).toNat)
                  case atStart => exact ⟨0, by omega, rfl, T6⟩
                  case round =>
                    obtain ⟨j, hj, rfl, TJ⟩ := hrel
                    by_cases hjl : j < 2 * (Plan.cores P).length + 6
                    · have hjl' : (j : Int) < 2 * ((Plan.cores P).length : Int) + 6 := by omega
                      have HFJ : Aside (frS (Plan.frame P) (turns (Plan.cores P) (Plan.frame P) s' j) ≤ 268435455) := ⟨by rw [fr_eq (turns_now _ _ _ _)]; exact HFR.out⟩
                      have T8 : Aside (Lv w2 w0 wr l P (turnTo (Plan.cores P) (Plan.frame P) (turns (Plan.cores P) (Plan.frame P) s' j) 0) (n' + j * 8 + 0)) := ⟨TJ.out⟩
                      go_upto_block 8 with (fail)
                      go_wp2_with fail
                      go_loopw [11] (fun i wr => ∃ c : Nat, c ≤ (Plan.cores P).length ∧ i = .int .i64 c ∧ Aside (Lv w2 w0 wr l P (turnTo (Plan.cores P) (Plan.frame P) (turns (Plan.cores P) (Plan.frame P) s' j) c) (n' + j * 8 + c))) (fun i _ => (Plan.cores P).length - (intOf i).toNat)
                      case atStart => exact ⟨0, by omega, rfl, T8⟩
                      case round =>
                        obtain ⟨c, hc, rfl, TC⟩ := hrel
                        by_cases hcl : c < (Plan.cores P).length
                        · have KT := Aside.mk (pick_any TC.out.r.st (c : Int) (by omega))
                          have HE : Aside (pickT (Plan.cores P) (Plan.frame P) (turnTo (Plan.cores P) (Plan.frame P) (turns (Plan.cores P) (Plan.frame P) s' j) c) (c : Int) = turnTo (Plan.cores P) (Plan.frame P) (turns (Plan.cores P) (Plan.frame P) s' j) (c + 1)) := ⟨pickT_in hcl⟩
                          have HI : Aside (LInv (Plan.cores P) (Plan.frame P) (turnTo (Plan.cores P) (Plan.frame P) (turns (Plan.cores P) (Plan.frame P) s' j) (c + 1))) := ⟨linv_pick PG.out hF1 TC.out.i (by rw [fr_eq (turnTo_now _ _ _ _)]; exact HFJ.out) c hcl⟩
                          obtain ⟨pb, hpb⟩ : ∃ pb, pickB (Plan.cores P) (turnTo (Plan.cores P) (Plan.frame P) (turns (Plan.cores P) (Plan.frame P) s' j) c) (c : Int) = pb := ⟨_, rfl⟩
                          obtain ⟨pe, hpe⟩ : ∃ pe, pickE (Plan.cores P) (c : Int) = pe := ⟨_, rfl⟩
                          rw [hpb, hpe, HE.out] at KT
                          clear HE hpb hpe
                          go_wp2_with fail
                          refine KT.out.mono ?_
                          rintro e w5 ⟨rfl, t5, k5⟩
                          have R5 : Aside (Lv w2 w0 w5 l P (turnTo (Plan.cores P) (Plan.frame P) (turns (Plan.cores P) (Plan.frame P) s' j) (c + 1)) (n' + j * 8 + (c + 1))) := ⟨⟨TC.out.r.act t5 k5, HI.out⟩⟩
                          clear t5 k5
                          go_wp2_with fail
                          go_roundw
                          case rel => exact ⟨c + 1, by omega, by go_num, R5⟩
                          case measure => simp [intOf]; omega
                        · obtain rfl : c = (Plan.cores P).length := by omega
                          have R5 : Aside (Lv w2 w0 wr l P (turns (Plan.cores P) (Plan.frame P) s' (j + 1)) (n' + (j + 1) * 8)) := ⟨TC.out.mono (by omega)⟩
                          go_wp2_with fail
                          go_roundw
                          case rel => exact ⟨j + 1, by omega, by go_num, R5⟩
                          case measure => simp [intOf]; omega
                    · have hje : j = 2 * (Plan.cores P).length + 6 := by omega
                      have hjd : decide ((j : Int) < 2 * ((Plan.cores P).length : Int) + 6) = false := decide_eq_false (by omega)
                      rw [hje] at TJ
                      clear hje hjl hj
                      have hnt : (turns (Plan.cores P) (Plan.frame P) s' (2 * (Plan.cores P).length + 6)).now = t + tt := by rw [turns_now]; exact T'.out.2
                      obtain ⟨s3, hs3⟩ : ∃ s3, turns (Plan.cores P) (Plan.frame P) s' (2 * (Plan.cores P).length + 6) = s3 := ⟨_, rfl⟩
                      obtain ⟨n3, hn3⟩ : ∃ n3, n' + (2 * (Plan.cores P).length + 6) * 8 = n3 := ⟨_, rfl⟩
                      rw [hs3] at hnt HD
                      rw [hs3, hn3] at TJ
                      have hn3' : n3 ≤ 100 + (tt + 1) * 176 := by omega
                      have HNT := Aside.mk hnt
                      clear hs3 hn3 hnt
                      go_upto_block 10 with (fail)
                      go_wp2_with fail
                      go_loopw [12] (fun i wr => ∃ c : Nat, c ≤ (Plan.cores P).length ∧ i = .int .i64 c ∧ Aside (Lv w2 w0 wr l P s3 n3)) (fun i _ => (Plan.cores P).length - (intOf i).toNat)
                      case atStart => exact ⟨0, by omega, rfl, TJ⟩
                      case round =>
                        obtain ⟨c, hc, rfl, TC⟩ := hrel
                        by_cases hcl : c < (Plan.cores P).length
                        · have K := Aside.mk (core_any TC.out.r.st (c : Int))
                          have hE : coreE (Plan.cores P) (c : Int) = 0 := by unfold coreE; rw [if_neg (by unfold outC; omega)]
                          unfold coreV at K
                          rw [hE] at K
                          have HS := Aside.mk (HD.out c hcl)
                          obtain ⟨⟨st, p, g⟩, hx⟩ : ∃ x, coreA (Plan.cores P) s3 (c : Int) = x := ⟨_, rfl⟩
                          rw [hx] at K HS
                          have hl := List.getElem?_eq_getElem hcl
                          obtain ⟨L, hL⟩ : ∃ L, (Plan.cores P)[c] = L := ⟨_, rfl⟩
                          rw [hL] at hl
                          have HW : Aside (coreW (Plan.cores P) c = L) := ⟨by rw [coreW, List.getD_eq_getElem?_getD, hl]; rfl⟩
                          rw [HW.out] at HS
                          obtain ⟨ad, lv, rfl, hlv, hwins⟩ := (HCC.out _ (Below.refl _ _)).at_ c L hl
                          obtain ⟨la, lc, rfl, hlL⟩ := hwins.len
                          have KS2 : Aside (∀ V, Below w2.heap.size w2 V → Calls Tryd.prog 15 #[.slice la L.length lc, .int .i64 tt] V fun e w' => e = .returned (.int .i64 (servesS L tt)) ∧ Below V.heap.size V w') := ⟨fun V b => rserves_any V _ L tt (hwins.below b)⟩
                          have UP : Aside (∀ V, Below w2.heap.size w2 V → V.cell? ⟨w.heap.size, 1, none⟩ = some (.slice (some ad) (Plan.cores P).length c0) ∧ V.cell? (ad.add c) = some (.slice la L.length lc)) := ⟨fun V b => ⟨(lbox5 (X0.out V b)).2.1, cell_up b hlv⟩⟩
                          clear hE hx hl hL hwins hlv
                          go_wp2_with fail
                          refine K.out.mono ?_
                          rintro e wd ⟨rfl, b1⟩
                          obtain ⟨W2, HW2⟩ : ∃ W2, Aside (W2 = wd.alloc (.cells #[.int .i64 st, .int .i64 p, .int .u8 g] 40)) := ⟨_, ⟨rfl⟩⟩
                          have T2 : Aside (Lv w2 w0 W2 l P s3 n3) := ⟨by rw [HW2.out]; exact TC.out.below (bel_alloc b1 _)⟩
                          have Y2 : Aside (W2.heap[wd.heap.size]? = some (.cells #[.int .i64 st, .int .i64 p, .int .u8 g] 40 (0, 0))) := ⟨by rw [HW2.out]; exact heap_alloc_new _ _⟩
                          clear b1
                          go_upto_region 31 with fail
                          rw [← HW2.out]
                          obtain ⟨x1, xl⟩ := UP.out W2 T2.out.r.bel
                          obtain ⟨sv, hsv⟩ : ∃ sv, servesS L tt = sv := ⟨_, rfl⟩
                          rw [hsv] at KS2 HS
                          have KS3 := Aside.mk (KS2.out W2 T2.out.r.bel)
                          clear KS2 hsv
                          go_wp2_with fail
                          refine KS3.out.mono ?_
                          rintro e w7 ⟨rfl, b7⟩
                          have T7 := Aside.mk (T2.out.below b7)
                          obtain ⟨y0, y1, y2, _, _, _⟩ := box3 (lup b7 Y2.out)
                          clear b7 KS3 x1 xl
                          by_cases h0 : 0 ≤ sv
                          · obtain ⟨h1, h2⟩ := HS.out.1 h0
                            obtain rfl : st = 3 := h1
                            obtain rfl : p = sv := h2
                            have g1 : decide (p < 0) = false := decide_eq_false (by omega)
                            have g2 : decide (0 ≤ p) = true := decide_eq_true h0
                            clear h0
                            clear HS
                            go_upto_region 32 with fail
                            have T9 := T7
                            go_wp2_with fail
                            go_roundw
                            case rel => exact ⟨c + 1, by omega, by go_num, T9⟩
                            case measure => simp [intOf]; omega
                          · have h1 := HS.out.2 (by omega)
                            obtain rfl : st = 0 := h1
                            have g1 : decide (sv < 0) = true := decide_eq_true (by omega)
                            have g2 : decide (0 ≤ sv) = false := decide_eq_false h0
                            clear h0
                            clear HS
                            go_upto_region 32 with fail
                            have T9 := T7
                            go_wp2_with fail
                            go_roundw
                            case rel => exact ⟨c + 1, by omega, by go_num, T9⟩
                            case measure => simp [intOf]; omega
                        · obtain rfl : c = (Plan.cores P).length := by omega
                          have K2 := Aside.mk (Tick_any TC.out.r.st)
                          have HI := Aside.mk (linv_pass PG.out hF1 TC.out.i)
                          have HN : Aside ((passS (Plan.cores P) (Plan.frame P) s3).now = t + ((tt + 1 : Nat) : Int)) := ⟨by unfold passS; rw [if_neg (by have := HNT.out; have := T.out.2; have := ht.out; omega)]; show s3.now + 1 = _; rw [HNT.out]; omega⟩
                          go_wp2_with fail
                          refine K2.out.mono ?_
                          rintro e w6 ⟨rfl, t6, k6⟩
                          have R6 : Aside (Lv w2 w0 w6 l P (passS (Plan.cores P) (Plan.frame P) s3) n3 ∧ (passS (Plan.cores P) (Plan.frame P) s3).now = t + ((tt + 1 : Nat) : Int)) := ⟨⟨TC.out.r.act t6 k6, HI.out⟩, HN.out⟩
                          clear t6 k6
                          go_wp2_with fail
                          go_roundw
                          case rel => exact ⟨tt + 1, _, n3, by omega, by omega, hn3', by go_num, R6⟩
                          case measure => simp [intOf]; omega
                · obtain rfl : tt = 60 := by omega
                  go_wp2_with fail
                  go_ret
                  exact ⟨rfl, bel_then B2.out T'.out.1.r.bel⟩
              · go_wp2_with fail
                go_ret
                exact ⟨rfl, bel_then B2.out T'.out.1.r.bel⟩
    · have KN := Aside.mk (wnew_no w2 _ P (HV.out.below B2.out) (HL.out.below B2.out) HF.out x hq)
      clear hq
      go_wp2_with fail
      refine KN.out.mono ?_
      rintro e w3 ⟨rfl, b3⟩
      have B3 := Aside.mk (bel_then B2.out b3)
      clear b3 x0 x1 x2 x3 x4 KN
      go_wp2_with fail
      refine (KA.out _ B3.out).mono ?_
      rintro e w4 ⟨rfl, b4⟩
      have B4 := Aside.mk (bel_then B3.out b4)
      clear b4
      go_wp2_with fail
      refine (KA.out _ B4.out).mono ?_
      rintro e w5 ⟨rfl, b5⟩
      go_wp2_with fail
      go_ret
      exact ⟨rfl, bel_then B4.out b5⟩
end Go.Proofs.YtidjkhmlpgkaaaaDoor
