/- Runs of ticks that are not served. Plain. -/
import Derived.Test.YtmfddaihepjfeaaTabP
namespace Go.Proofs.Ytmfddaihepjfeaa
set_option linter.unusedVariables false
set_option linter.unusedSimpArgs false

/-- How many ticks from a tick on are not marked, frame behind frame; at most a frame. -/
def runL (s : Nat → Bool) (n a : Nat) : Nat := (List.range n).findIdx fun i => s ((a + i) % n)
theorem runL_eq {s : Nat → Bool} {n a i : Nat} (hi : i ≤ n) (h : ∀ j, j < i → s ((a + j) % n) = false) (he : i = n ∨ s ((a + i) % n) = true) : runL s n a = i := by
  rcases Nat.lt_or_ge i n with hlt | hge
  · have hs : s ((a + i) % n) = true := by
      rcases he with e | e
      · omega
      · exact e
    rw [runL, List.findIdx_eq (by simpa using hlt)]
    refine ⟨by simpa using hs, fun j hj => ?_⟩
    simpa using h j hj
  · obtain rfl : i = n := by omega
    rw [runL]
    have : (List.range i).findIdx (fun j => s ((a + j) % i)) = (List.range i).length := by
      rw [List.findIdx_eq_length]
      intro x hx
      exact h x (List.mem_range.1 hx)
    rw [this, List.length_range]
/-- The greatest of k numbers. -/
def maxN (f : Nat → Nat) : Nat → Nat
  | 0 => 0
  | k + 1 => if maxN f k < f k then f k else maxN f k
theorem maxN_le {f : Nat → Nat} {k : Nat} (j : Nat) (h : j < k) : f j ≤ maxN f k := by
  induction k with
  | zero => omega
  | succ k ih =>
    unfold maxN
    rcases Nat.lt_succ_iff_lt_or_eq.1 h with q | rfl
    · have := ih q
      split <;> omega
    · split <;> omega
theorem maxN_mem {f : Nat → Nat} {k : Nat} (h : 0 < maxN f k) : ∃ j, j < k ∧ f j = maxN f k := by
  induction k with
  | zero => simp [maxN] at h
  | succ k ih =>
    unfold maxN at h ⊢
    split
    · exact ⟨k, by omega, rfl⟩
    · rename_i q
      rw [if_neg q] at h
      obtain ⟨j, hj, e⟩ := ih h
      exact ⟨j, by omega, e⟩
end Go.Proofs.Ytmfddaihepjfeaa
