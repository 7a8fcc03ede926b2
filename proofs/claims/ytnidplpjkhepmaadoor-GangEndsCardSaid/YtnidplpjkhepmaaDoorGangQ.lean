/- Layer 23, the plain law: if all are at one round and do their steps in turn, all enter it. -/
import Derived.Test.YtnidplpjkhepmaaDoorGangP
namespace Go.Proofs.YtnidplpjkhepmaaDoor
set_option linter.unusedVariables false
set_option linter.unusedSimpArgs false
open Classical

/-- It has not come. -/
def Nt (x : Mb) : Prop := x.ph = 1 ∨ x.ph = 2
/-- How many of the first have not come. -/
noncomputable def un (X : Nat → Mb) : Nat → Nat
  | 0 => 0
  | k + 1 => un X k + if Nt (X k) then 1 else 0
theorem un_le (X : Nat → Mb) (k : Nat) : un X k ≤ k := by
  induction k with
  | zero => exact Nat.le_refl _
  | succ k ih => unfold un; split <;> omega
theorem un_zero (X : Nat → Mb) (n : Nat) (h : un X n = 0) : ∀ j < n, ¬ Nt (X j) := by
  induction n with
  | zero => intro j hj; omega
  | succ n ih =>
    unfold un at h
    intro j hj hn
    by_cases e : j = n
    · subst e; rw [if_pos hn] at h; omega
    · exact ih (by omega) j (by omega) hn
theorem un_none (X : Nat → Mb) (n : Nat) (h : ∀ j < n, ¬ Nt (X j)) : un X n = 0 := by
  induction n with
  | zero => rfl
  | succ n ih => unfold un; rw [ih (fun j hj => h j (by omega)), if_neg (h n (by omega))]
theorem un_same (X Y : Nat → Mb) (n : Nat) (h : ∀ j < n, (Nt (X j) ↔ Nt (Y j))) : un X n = un Y n := by
  induction n with
  | zero => rfl
  | succ n ih =>
    unfold un
    rw [ih (fun j hj => h j (by omega))]
    by_cases e : Nt (X n)
    · rw [if_pos e, if_pos ((h n (by omega)).1 e)]
    · rw [if_neg e, if_neg (fun q => e ((h n (by omega)).2 q))]
theorem un_upd_le (X : Nat → Mb) (i : Nat) (x : Mb) (h : Nt x → Nt (X i)) (n : Nat) : un (upd X i x) n ≤ un X n := by
  induction n with
  | zero => exact Nat.le_refl _
  | succ n ih =>
    unfold un
    by_cases e : n = i
    · subst e
      rw [upd_self]
      by_cases q : Nt x
      · rw [if_pos q, if_pos (h q)]; omega
      · rw [if_neg q]; omega
    · rw [upd_ne _ _ _ _ e]; omega
theorem un_upd_lt (X : Nat → Mb) (i : Nat) (x : Mb) (h : Nt (X i)) (h' : ¬ Nt x) (n : Nat) (hi : i < n) : un (upd X i x) n + 1 ≤ un X n := by
  induction n with
  | zero => omega
  | succ n ih =>
    unfold un
    by_cases e : n = i
    · subst e
      rw [upd_self, if_neg h', if_pos h]
      have := un_upd_le X n x (fun q => absurd q h') n
      omega
    · rw [upd_ne _ _ _ _ e]
      have := ih (by omega)
      omega

/-- All are at the round 1024. -/
structure EInv (n : Nat) (X : Nat → Mb) (W : Int) : Prop where
  p : ∃ C, PInv n X W C
  rd : ∀ i < n, (X i).rd = 1024
  p0 : ∀ i < n, (X i).ph = 0 → (X i).entered = true
theorem EInv.top {n : Nat} {X : Nat → Mb} {W : Int} (e : EInv n X W) : 0 ≤ W ∧ W / 16 ≤ 1024 := by
  obtain ⟨C, p⟩ := e.p
  refine ⟨p.W0, ?_⟩
  by_cases h : 0 < W / 16
  · have hc := p.cn h
    obtain ⟨j, hj, q⟩ := cnt_pos C (W / 16) n (by omega)
    have := (p.le j hj).2
    have := e.rd j hj
    omega
  · omega
theorem EInv.look {n : Nat} {X : Nat → Mb} {W : Int} (e : EInv n X W) (i : Nat) (hi : i < n) : (lookS (X i) W).ph = 0 → (lookS (X i) W).entered = true ∨ (X i).ph = 0 := by
  have h1 := e.rd i hi
  have h2 := e.top
  unfold lookS
  rw [if_neg (by omega)]
  split
  · intro h; simp at h
  · split
    · intro _; exact .inl rfl
    · intro h; exact .inr h
theorem EInv.step {n : Nat} {X : Nat → Mb} {W : Int} (e : EInv n X W) (hn : n ≤ 8) (i : Nat) (hi : i < n) : EInv n (upd X i (stepX (X i) W)) (stepW (X i) W) := by
  have ht := e.top
  have W1 : W < 4294967296 := by omega
  refine ⟨by obtain ⟨C, p⟩ := e.p; exact ⟨_, p.step W1 hn i hi⟩, fun j hj => ?_, fun j hj => ?_⟩
  · by_cases q : j = i
    · subst q; rw [upd_self, stepX_rd]; exact e.rd j hj
    · rw [upd_ne _ _ _ _ q]; exact e.rd j hj
  · by_cases q : j = i
    · subst q
      rw [upd_self]
      unfold stepX
      split
      · split <;> (intro h; simp at h)
      · split
        · rename_i h13
          intro h
          rcases e.look j hj h with h' | h'
          · exact h'
          · rw [h'] at h13; omega
        · exact e.p0 j hj
    · rw [upd_ne _ _ _ _ q]; exact e.p0 j hj

/-- The first k do their steps. -/
def run (X : Nat → Mb) (W : Int) : Nat → (Nat → Mb) × Int
  | 0 => (X, W)
  | k + 1 => (upd (run X W k).1 k (stepX ((run X W k).1 k) (run X W k).2), stepW ((run X W k).1 k) (run X W k).2)
theorem run_succ1 (X : Nat → Mb) (W : Int) (k : Nat) : (run X W (k + 1)).1 = upd (run X W k).1 k (stepX ((run X W k).1 k) (run X W k).2) := rfl
theorem run_succ2 (X : Nat → Mb) (W : Int) (k : Nat) : (run X W (k + 1)).2 = stepW ((run X W k).1 k) (run X W k).2 := rfl
theorem run_inv {n : Nat} {X : Nat → Mb} {W : Int} (e : EInv n X W) (hn : n ≤ 8) (k : Nat) (hk : k ≤ n) : EInv n (run X W k).1 (run X W k).2 := by
  induction k with
  | zero => exact e
  | succ k ih => exact (ih (by omega)).step hn k (by omega)
theorem run_late (X : Nat → Mb) (W : Int) (k j : Nat) (h : k ≤ j) : (run X W k).1 j = X j := by
  induction k with
  | zero => rfl
  | succ k ih =>
    rw [run_succ1, upd_ne _ _ _ _ (by omega)]
    exact ih (by omega)
theorem run_early (X : Nat → Mb) (W : Int) (k j : Nat) (h : j < k) : (run X W k).1 j = stepX (X j) (run X W j).2 := by
  induction k with
  | zero => omega
  | succ k ih =>
    rw [run_succ1]
    by_cases e : j = k
    · subst e
      rw [upd_self, run_late X W j j (Nat.le_refl _)]
    · rw [upd_ne _ _ _ _ e]
      exact ih (by omega)

theorem step_Nt (x : Mb) (W : Int) (h : Nt (stepX x W)) : Nt x := by
  unfold stepX at h
  split at h
  · rename_i q; exact .inr q
  · split at h
    · rename_i q
      rcases q with q | q
      · exact .inl q
      · unfold lookS at h
        split at h
        · simp [Nt] at h
        · split at h
          · rename_i q2; exact .inl q2
          · split at h
            · simp [Nt] at h
            · exact h
    · exact h
/-- A step that changes the word lets one come. -/
theorem run_un (X : Nat → Mb) (W : Int) (n k : Nat) (hk : k ≤ n) : un (run X W k).1 n ≤ un X n ∧ ((run X W k).2 ≠ W → un (run X W k).1 n + 1 ≤ un X n) := by
  induction k with
  | zero => exact ⟨Nat.le_refl _, fun h => absurd rfl h⟩
  | succ k ih =>
    obtain ⟨h1, h2⟩ := ih (by omega)
    have hle := un_upd_le (run X W k).1 k _ (step_Nt ((run X W k).1 k) (run X W k).2) n
    rw [run_succ1, run_succ2]
    refine ⟨by omega, fun hne => ?_⟩
    by_cases hs : ((run X W k).1 k).ph = 2 ∧ (run X W k).2 = ((run X W k).1 k).wd
    · have := un_upd_lt (run X W k).1 k (stepX ((run X W k).1 k) (run X W k).2) (.inr hs.1) (by rw [stepX, if_pos hs.1, if_pos hs.2]; simp [Nt]) n (by omega)
      omega
    · simp only [stepW, if_neg hs] at hne
      have := h2 hne
      omega
/-- It is about to come. -/
def Fr (x : Mb) (W : Int) : Prop := x.ph = 2 ∧ W = x.wd
/-- A turn in which one is about to come lets one come. -/
theorem turn_some (X : Nat → Mb) (W : Int) (n j : Nat) (hj : j < n) (hf : Fr (X j) W) : un (run X W n).1 n + 1 ≤ un X n := by
  have hmono : ∀ k, k ≤ n → ∀ d, k + d ≤ n → un (run X W (k + d)).1 n ≤ un (run X W k).1 n := by
    intro k hk d
    induction d with
    | zero => intro _; exact Nat.le_refl _
    | succ d ih =>
      intro h
      have := ih (by omega)
      have h2 := un_upd_le (run X W (k + d)).1 (k + d) _ (step_Nt ((run X W (k + d)).1 (k + d)) (run X W (k + d)).2) n
      exact Nat.le_trans h2 this
  by_cases hw : (run X W j).2 = W
  · have h1 : un (run X W (j + 1)).1 n + 1 ≤ un (run X W j).1 n := by
      have hx := run_late X W j j (Nat.le_refl _)
      have := un_upd_lt (run X W j).1 j (stepX ((run X W j).1 j) (run X W j).2) (by rw [hx]; exact .inr hf.1) (by rw [hx, hw, stepX, if_pos hf.1, if_pos hf.2]; simp [Nt]) n hj
      exact this
    have h2 := (run_un X W n j (by omega)).1
    have h3 := hmono (j + 1) (by omega) (n - (j + 1)) (by omega)
    rw [show j + 1 + (n - (j + 1)) = n by omega] at h3
    omega
  · have h2 := (run_un X W n j (by omega)).2 hw
    have h3 := hmono j (by omega) (n - j) (by omega)
    rw [show j + (n - j) = n by omega] at h3
    omega
/-- A turn in which nobody is about to come changes no word. -/
theorem turn_none (X : Nat → Mb) (W : Int) (n : Nat) (h : ∀ j < n, ¬ Fr (X j) W) (k : Nat) (hk : k ≤ n) : (run X W k).2 = W := by
  induction k with
  | zero => rfl
  | succ k ih =>
    have hx := run_late X W k k (Nat.le_refl _)
    rw [run_succ2, ih (by omega), hx]
    exact if_neg (h k (by omega))

/-- How many turns are left at most until all have come. -/
noncomputable def left_ (n : Nat) (X : Nat → Mb) (W : Int) : Nat :=
  if un X n = 0 then 0 else if ∀ j < n, Nt (X j) → Fr (X j) W then 2 * un X n - 1 else if ∃ j, j < n ∧ Fr (X j) W then 2 * un X n else if ∀ j < n, Nt (X j) → (X j).ph = 1 then 2 * un X n else 2 * un X n + 1
theorem left_le (n : Nat) (X : Nat → Mb) (W : Int) : left_ n X W ≤ 2 * un X n + 1 := by
  unfold left_
  repeat' split
  all_goals omega
theorem left_all1 (n : Nat) (X : Nat → Mb) (W : Int) (h : ∀ j < n, Nt (X j) → (X j).ph = 1) : left_ n X W ≤ 2 * un X n := by
  unfold left_
  repeat' split
  all_goals first | omega | contradiction
theorem left_allF (n : Nat) (X : Nat → Mb) (W : Int) (h : ∀ j < n, Nt (X j) → Fr (X j) W) : left_ n X W ≤ 2 * un X n - 1 := by
  unfold left_
  repeat' split
  all_goals first | omega | contradiction
theorem left_someF (n : Nat) (X : Nat → Mb) (W : Int) (h : ∃ j, j < n ∧ Fr (X j) W) : left_ n X W ≤ 2 * un X n := by
  unfold left_
  repeat' split
  all_goals first | omega | contradiction
theorem left_pos (n : Nat) (X : Nat → Mb) (W : Int) (h : un X n ≠ 0) : 1 ≤ left_ n X W := by
  unfold left_
  rw [if_neg h]
  repeat' split
  all_goals omega
/-- What a turn without one about to come does to each that has not come. -/
theorem EInv.quiet {n : Nat} {X : Nat → Mb} {W : Int} (e : EInv n X W) (j : Nat) (hj : j < n) (hf : ¬ Fr (X j) W) (h : Nt (X j)) : ((X j).ph = 1 → Fr (stepX (X j) W) W) ∧ ((X j).ph = 2 → (stepX (X j) W).ph = 1) ∧ Nt (stepX (X j) W) := by
  have h1 := e.rd j hj
  have h2 := e.top
  rcases h with h | h
  · have hs : stepX (X j) W = { X j with wd := W, ph := 2 } := by
      rw [stepX, if_neg (by omega), if_pos (.inl h), lookS, if_neg (by omega), if_pos h]
    rw [hs]
    exact ⟨fun _ => ⟨rfl, rfl⟩, fun q => by omega, .inr rfl⟩
  · have hs : stepX (X j) W = { X j with ph := 1 } := by
      rw [stepX, if_pos h, if_neg (fun q => hf ⟨h, q⟩)]
    rw [hs]
    exact ⟨fun q => by omega, fun _ => rfl, .inl rfl⟩
theorem EInv.turn {n : Nat} {X : Nat → Mb} {W : Int} (e : EInv n X W) (hn : n ≤ 8) : left_ n (run X W n).1 (run X W n).2 ≤ left_ n X W - 1 := by
  by_cases h0 : un X n = 0
  · have h1 := (run_un X W n n (Nat.le_refl _)).1
    have h2 : un (run X W n).1 n = 0 := by omega
    have : left_ n (run X W n).1 (run X W n).2 = 0 := by unfold left_; rw [if_pos h2]
    omega
  · by_cases hs : ∃ j, j < n ∧ Fr (X j) W
    · obtain ⟨j, hj, hf⟩ := hs
      have h1 := turn_some X W n j hj hf
      by_cases ha : ∀ j < n, Nt (X j) → Fr (X j) W
      · have hL : ∀ j < n, Nt ((run X W n).1 j) → ((run X W n).1 j).ph = 1 := by
          intro j hj hN
          rw [run_early X W n j hj] at hN ⊢
          have hF := ha j hj (step_Nt _ _ hN)
          unfold stepX at hN ⊢
          rw [if_pos hF.1] at hN ⊢
          split at hN
          · simp [Nt] at hN
          · rename_i q; rw [if_neg q]
        have h2 := left_all1 n _ (run X W n).2 hL
        have h3 : left_ n X W = 2 * un X n - 1 := by unfold left_; rw [if_neg h0, if_pos ha]
        omega
      · have h2 := left_le n (run X W n).1 (run X W n).2
        have h3 : left_ n X W = 2 * un X n := by unfold left_; rw [if_neg h0, if_neg ha, if_pos ⟨j, hj, hf⟩]
        omega
    · have hno : ∀ j < n, ¬ Fr (X j) W := fun j hj q => hs ⟨j, hj, q⟩
      have hW := fun k hk => turn_none X W n hno k hk
      have hX : ∀ j < n, (run X W n).1 j = stepX (X j) W := fun j hj => by rw [run_early X W n j hj, hW j (by omega)]
      have hun := (run_un X W n n (Nat.le_refl _)).1
      have ha : ¬ ∀ j < n, Nt (X j) → Fr (X j) W := by
        intro q
        apply h0
        exact un_none X n (fun j hj h => hno j hj (q j hj h))
      by_cases h1 : ∀ j < n, Nt (X j) → (X j).ph = 1
      · have hF : ∀ j < n, Nt ((run X W n).1 j) → Fr ((run X W n).1 j) (run X W n).2 := by
          intro j hj hN
          rw [hW n (Nat.le_refl _), hX j hj] at *
          have hn := step_Nt _ _ hN
          exact (e.quiet j hj (hno j hj) hn).1 (h1 j hj hn)
        have h2 := left_allF n _ _ hF
        have h3 : left_ n X W = 2 * un X n := by unfold left_; rw [if_neg h0, if_neg ha, if_neg hs, if_pos h1]
        omega
      · have h3 : left_ n X W = 2 * un X n + 1 := by unfold left_; rw [if_neg h0, if_neg ha, if_neg hs, if_neg h1]
        by_cases h5 : ∃ j, j < n ∧ (X j).ph = 1
        · obtain ⟨j, hj, q⟩ := h5
          have h2 := left_someF n (run X W n).1 (run X W n).2 ⟨j, hj, by rw [hW n (Nat.le_refl _), hX j hj]; exact (e.quiet j hj (hno j hj) (.inl q)).1 q⟩
          omega
        · have hL : ∀ j < n, Nt ((run X W n).1 j) → ((run X W n).1 j).ph = 1 := by
            intro j hj hN
            rw [hX j hj] at *
            have hn := step_Nt _ _ hN
            refine (e.quiet j hj (hno j hj) hn).2.1 ?_
            rcases hn with q | q
            · exact absurd ⟨j, hj, q⟩ h5
            · exact q
          have h2 := left_all1 n _ (run X W n).2 hL
          omega
theorem cnt_full (C : Nat → Int) (r : Int) (n : Nat) (h : ∀ j < n, C j = r) : cnt C r n = n := by
  induction n with
  | zero => rfl
  | succ n ih => unfold cnt; rw [ih (fun j hj => h j (by omega)), if_pos (h n (by omega))]
/-- What is reached behind t turns. -/
def Prog (n t : Nat) (X : Nat → Mb) (W : Int) : Prop := left_ n X W ≤ 2 * n + 1 - t ∧ (2 * n + 2 ≤ t → ∀ j < n, (X j).ph = 0)
theorem Prog.start (n : Nat) (X : Nat → Mb) (W : Int) : Prog n 0 X W := by
  refine ⟨?_, fun h => by omega⟩
  have := left_le n X W
  have := un_le X n
  omega
theorem Prog.turn {n t : Nat} {X : Nat → Mb} {W : Int} (e : EInv n X W) (hn : n ≤ 8) (n1 : 1 ≤ n) (h : Prog n t X W) : Prog n (t + 1) (run X W n).1 (run X W n).2 := by
  refine ⟨?_, fun ht => ?_⟩
  · have := e.turn hn
    have := h.1
    omega
  · have hl := h.1
    have h0 : un X n = 0 := by
      apply Classical.byContradiction
      intro q
      have := left_pos n X W q
      omega
    have hN := un_zero X n h0
    have hno : ∀ j < n, ¬ Fr (X j) W := fun j hj q => hN j hj (.inr q.1)
    obtain ⟨C, p⟩ := e.p
    have hph : ∀ j < n, (X j).ph = 0 ∨ (X j).ph = 3 := fun j hj => by
      have h1 := (p.ok j hj).ph
      have h2 : ¬ ((X j).ph = 1 ∨ (X j).ph = 2) := hN j hj
      omega
    have hC : ∀ j < n, C j = 1024 := fun j hj => by
      rw [← e.rd j hj]
      apply p.cm j hj
      rcases hph j hj with q | q
      · exact (p.ent j hj (e.p0 j hj q)).1
      · exact (p.p3 j hj q).1
    have htop := e.top
    have h16 : W / 16 = 1024 := by
      have := p.leR 0 (by omega)
      have := hC 0 (by omega)
      omega
    have hcn := (p.cn (by omega)).1
    rw [h16, cnt_full C 1024 n hC] at hcn
    intro j hj
    rw [run_early X W n j hj, turn_none X W n hno j (by omega)]
    rcases hph j hj with q | q
    · rw [stepX, if_neg (by omega), if_neg (by omega)]; exact q
    · have h1 := e.rd j hj
      have h2 := p.nn j hj
      rw [stepX, if_neg (by omega), if_pos (.inr q), lookS, if_neg (by omega), if_neg (by omega), if_pos ⟨by omega, by omega⟩]
theorem EInv.done {n : Nat} {X : Nat → Mb} {W : Int} (e : EInv n X W) (h : ∀ j < n, (X j).ph = 0) : ∀ j < n, (X j).entered = true ∧ (X j).missed = false := by
  intro j hj
  obtain ⟨C, p⟩ := e.p
  have := e.p0 j hj (h j hj)
  exact ⟨this, (p.ent j hj this).2.1⟩
end Go.Proofs.YtnidplpjkhepmaaDoor
