/- What is read of bytes: numbers, lists of things, plans. Plain: no function of the program is named here. -/
import Derived.Test.YtbphlapdhcgikaaDoorRdrB
import Derived.Test.YtbphlapdhcgikaaDoorPlanP
namespace Go.Proofs.YtbphlapdhcgikaaDoor
set_option linter.unusedVariables false
set_option linter.unusedSimpArgs false

/-- How a reader stands: how many were read, and whether it failed. -/
abbrev St : Type := Nat × Bool
def rdN (S : List Int) (n : Nat) (s : St) : Int × St := (Bl.numL (Bl.takeL S s.1 s.2 n), (Bl.takeA S s.1 s.2 n, Bl.takeB S s.1 s.2 n))
/-- n things, each read by a function; none, once reading has failed. -/
def manyS {α : Type} (f : St → α × St) : Nat → St → List α → List α × St
  | 0, s, acc => (acc, s)
  | n + 1, s, acc => if s.2 = true then ([], s) else manyS f n (f s).2 (acc ++ [(f s).1])
def winS (S : List Int) (s : St) : Win × St :=
  (((rdN S 2 s).1, (rdN S 2 (rdN S 2 s).2).1, (rdN S 1 (rdN S 2 (rdN S 2 s).2).2).1, (rdN S 1 (rdN S 1 (rdN S 2 (rdN S 2 s).2).2).2).1, ()), (rdN S 1 (rdN S 1 (rdN S 2 (rdN S 2 s).2).2).2).2)
def coreS (S : List Int) (s : St) : List Win × St := manyS (winS S) (rdN S 2 s).1.toNat (rdN S 2 s).2 []
def semS (S : List Int) (s : St) : SemR × St := (((rdN S 1 s).1, (rdN S 1 (rdN S 1 s).2).1, ()), (rdN S 1 (rdN S 1 s).2).2)
def pairS (S : List Int) (s : St) : PairR × St := (((rdN S 1 s).1, (rdN S 1 (rdN S 1 s).2).1, ()), (rdN S 1 (rdN S 1 s).2).2)
def semsS (S : List Int) (s : St) : List SemR × St := manyS (semS S) (rdN S 1 s).1.toNat (rdN S 1 s).2 []
def procsS (S : List Int) (s : St) : List Int × St := manyS (rdN S 1) (rdN S 1 s).1.toNat (rdN S 1 s).2 []
def actsS (S : List Int) (s : St) : List Int × St := ([(rdN S 1 s).1, (rdN S 1 (rdN S 1 s).2).1, (rdN S 1 (rdN S 1 (rdN S 1 s).2).2).1], (rdN S 1 (rdN S 1 (rdN S 1 s).2).2).2)
def partS (S : List Int) (s : St) : PartR × St :=
  (((semsS S s).1, (rdN S 1 (semsS S s).2).1, (procsS S (rdN S 1 (semsS S s).2).2).1, (actsS S (procsS S (rdN S 1 (semsS S s).2).2).2).1, ()), (actsS S (procsS S (rdN S 1 (semsS S s).2).2).2).2)
def chanS (S : List Int) (s : St) : ChanR × St :=
  (((rdN S 1 s).1, (rdN S 1 (rdN S 1 s).2).1, (rdN S 1 (rdN S 1 (rdN S 1 s).2).2).1, (rdN S 1 (rdN S 1 (rdN S 1 (rdN S 1 s).2).2).2).1, (rdN S 1 (rdN S 1 (rdN S 1 (rdN S 1 (rdN S 1 s).2).2).2).2).1, (rdN S 2 (rdN S 1 (rdN S 1 (rdN S 1 (rdN S 1 (rdN S 1 s).2).2).2).2).2).1, ()), (rdN S 2 (rdN S 1 (rdN S 1 (rdN S 1 (rdN S 1 (rdN S 1 s).2).2).2).2).2).2)
theorem rdN_range1 {S : List Int} (hS : ∀ x ∈ S, 0 ≤ x ∧ x ≤ 255) (s : St) : 0 ≤ (rdN S 1 s).1 ∧ (rdN S 1 s).1 ≤ 255 := Bl.numL_one hS
theorem rdN_range2 {S : List Int} (hS : ∀ x ∈ S, 0 ≤ x ∧ x ≤ 255) (s : St) : 0 ≤ (rdN S 2 s).1 ∧ (rdN S 2 s).1 ≤ 65535 := Bl.numL_two hS
theorem winS_ok {S : List Int} (hS : ∀ x ∈ S, 0 ≤ x ∧ x ≤ 255) (s : St) : Win.Ok (winS S s).1 := ⟨rdN_range2 hS _, rdN_range2 hS _, rdN_range1 hS _, rdN_range1 hS _⟩
theorem many_all {α : Type} {f : St → α × St} {p : α → Prop} (hf : ∀ s, p (f s).1) (n : Nat) (s : St) (acc : List α) (ha : ∀ x ∈ acc, p x) : ∀ x ∈ (manyS f n s acc).1, p x := by
  induction n generalizing s acc with
  | zero => exact ha
  | succ n ih =>
    unfold manyS
    split
    · intro x hx; cases hx
    · refine ih _ _ fun x hx => ?_
      rcases List.mem_append.1 hx with q | q
      · exact ha x q
      · rw [List.mem_singleton.1 q]; exact hf s
theorem many_len {α : Type} (f : St → α × St) (n : Nat) (s : St) (acc : List α) : (manyS f n s acc).1.length ≤ n + acc.length := by
  induction n generalizing s acc with
  | zero => simp [manyS]
  | succ n ih =>
    unfold manyS
    split
    · simp
    · have := ih (f s).2 (acc ++ [(f s).1])
      simp at this
      omega
theorem many_bad {α : Type} (f : St → α × St) (n : Nat) (s : St) (acc : List α) (h : s.2 = true) (hn : 0 < n) : manyS f n s acc = ([], s) := by
  obtain ⟨m, rfl⟩ : ∃ m, n = m + 1 := ⟨n - 1, by omega⟩
  rw [manyS, if_pos h]
theorem many_go {α : Type} (f : St → α × St) (n : Nat) (s : St) (acc : List α) (h : s.2 = false) : manyS f (n + 1) s acc = manyS f n (f s).2 (acc ++ [(f s).1]) := by
  rw [manyS, if_neg (by rw [h]; simp)]
/-! ### A plan -/
def headS (S : List Int) : List Int := Bl.takeL S 0 false 4
def st0 (S : List Int) : St := (Bl.takeA S 0 false 4, Bl.takeB S 0 false 4)
def frS (S : List Int) : Int × St := rdN S 2 (st0 S)
def n0S (S : List Int) : Int × St := rdN S 1 (frS S).2
def n1S (S : List Int) : Int × St := rdN S 1 (n0S S).2
def n2S (S : List Int) : Int × St := rdN S 1 (n1S S).2
def n3S (S : List Int) : Int × St := rdN S 1 (n2S S).2
def coresS (S : List Int) : List (List Win) × St := manyS (coreS S) (n0S S).1.toNat (n3S S).2 []
def partsS (S : List Int) : List PartR × St := manyS (partS S) (n1S S).1.toNat (coresS S).2 []
def chansS (S : List Int) : List ChanR × St := manyS (chanS S) (n2S S).1.toNat (partsS S).2 []
def pairsS (S : List Int) : List PairR × St := manyS (pairS S) (n3S S).1.toNat (chansS S).2 []
def decV (S : List Int) : Plan := ((frS S).1, (coresS S).1, (partsS S).1, (chansS S).1, (pairsS S).1, ())
/-- What is wrong with bytes, and where; none: they are a plan. -/
def decF (S : List Int) : Option Flt :=
  if (st0 S).2 = true then some (20, ((st0 S).1 : Int))
  else if headS S ≠ [80, 85, 82, 49] then some (30, 0)
  else (Bl.endQ S (pairsS S).2.1 (pairsS S).2.2).map fun x => (x.2, (x.1 : Int))
end Go.Proofs.YtbphlapdhcgikaaDoor
