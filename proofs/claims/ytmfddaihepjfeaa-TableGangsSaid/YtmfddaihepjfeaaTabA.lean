/- The table: which window has a tick, what a core serves, and all cores. -/
import Derived.Test.YtmfddaihepjfeaaRulL
import Derived.Test.YtmfddaihepjfeaaTabP
namespace Go.Proofs.Ytmfddaihepjfeaa
open Go.RowKit
set_option linter.unusedVariables false
set_option linter.unusedSimpArgs false

theorem thas_any (x : Win) (hx : Win.Ok x) (t : Int) (w : World) :
    Calls Try.prog 29 #[Win.val x, .int .i64 t] w fun e w' => e = .returned (.bool (hasS x t)) ∧ Below w.heap.size w w' := by
  obtain ⟨⟨s0, s1⟩, ⟨l0, l1⟩, ⟨p0, p1⟩, ⟨g0, g1⟩⟩ := hx
  unfold Win.val hasS
  generalize Win.s x = s at *
  generalize Win.l x = l at *
  by_cases h1 : s ≤ t
  · by_cases h2 : t < s + l
    all_goals
      go_enter Try.func29, Try.ntmps29
      go_wp2
      go_ret
      exact ⟨ret_bool (by simp; omega), bel_one _ _⟩
  · go_enter Try.func29, Try.ntmps29
    go_wp2
    go_ret
    exact ⟨ret_bool (by simp; omega), bel_one _ _⟩

/-- At's answer. -/
def atV : Option Nat → Value
  | some i => .tuple #[.int .i64 (i : Int), .bool true]
  | none => .tuple #[.int .i64 0, .bool false]
set_option maxHeartbeats 800000 in
theorem at_any (w : World) (v : Value) (L : List Win) (t : Int) (hv : Wins w v L) :
    Calls Try.prog 13 #[v, .int .i64 t] w fun e w' => e = .returned (atV (atS L t)) ∧ Below w.heap.size w w' := by
  have HV := Aside.mk hv
  obtain ⟨a, cap, rfl, hlen⟩ := hv.len
  clear hv
  go_enter Try.func13, Try.ntmps13
  go_wp2_with fail
  go_loopw [4, 5, 10] (fun p q i wr => ∃ k : Nat, p = .int .i64 0 ∧ q = .bool false ∧ k ≤ L.length ∧ i = .int .i64 k ∧ Aside (scan (atF L t) k = none ∧ Below w.heap.size w wr)) (fun _ _ i _ => L.length - (intOf i).toNat)
  case atStart => exact ⟨0, rfl, rfl, by omega, rfl, ⟨rfl, Below.refl _ _⟩⟩
  case round =>
    obtain ⟨k, rfl, rfl, hk, rfl, S⟩ := hrel
    by_cases hkl : k < L.length
    · have hl := List.getElem?_eq_getElem hkl
      obtain ⟨X, hX⟩ : ∃ X, L[k] = X := ⟨_, rfl⟩
      rw [hX] at hl
      obtain ⟨ad, rfl, e0, e1, e2, e3, ok⟩ := (HV.out.below S.out.2).at_ k X hl
      have KT := Aside.mk (fun w => thas_any X ok t w)
      unfold Win.val at KT
      have HF : Aside (atF L t k = if hasS X t = true then some k else none) := ⟨by rw [atF, wAt_some hl]⟩
      obtain ⟨b, hb⟩ : ∃ b, hasS X t = b := ⟨_, rfl⟩
      rw [hb] at KT HF
      clear hl hX hb ok
      go_wp2_with fail
      refine (KT.out _).mono ?_
      rintro e w' ⟨rfl, b1⟩
      have S1 := Aside.mk (bel_then (bel_alloc S.out.2 _) b1)
      clear b1 e0 e1 e2 e3
      cases b
      · go_wp2_with fail
        go_roundw
        case rel => exact ⟨k + 1, rfl, rfl, by omega, by go_num, ⟨by rw [scan_succ S.out.1, HF.out]; rfl, S1.out⟩⟩
        case measure => simp [intOf]; omega
      · have HR : Aside (atS L t = some k) := ⟨scan_some S.out.1 HF.out hkl⟩
        go_wp2_with fail
        rw [HR.out]
        go_ret2
        exact ⟨rfl, S1.out⟩
    · obtain rfl : k = L.length := by omega
      have HR : Aside (atS L t = none) := ⟨S.out.1⟩
      go_wp2_with fail
      rw [HR.out]
      go_ret2
      exact ⟨rfl, S.out.2⟩

theorem serves_any (w : World) (v : Value) (L : List Win) (t : Int) (hv : Wins w v L) :
    Calls Try.prog 28 #[v, .int .i64 t] w fun e w' => e = .returned (.int .i64 (servesS L t)) ∧ Below w.heap.size w w' := by
  have HV := Aside.mk hv
  have K := Aside.mk (at_any w v L t hv)
  obtain ⟨a, cap, rfl, hlen⟩ := hv.len
  clear hv
  rcases hi : atS L t with _ | i
  · rw [hi] at K
    rw [serves_no hi]
    unfold atV at K
    go_enter Try.func28, Try.ntmps28
    go_wp2_with fail
    refine K.out.mono ?_
    rintro e w' ⟨rfl, b1⟩
    have B1 := Aside.mk b1
    clear b1 hi
    go_wp2_with fail
    go_ret
    exact ⟨rfl, B1.out⟩
  · rw [hi] at K
    rw [serves_of hi]
    unfold atV at K
    obtain ⟨hil, hh⟩ := atS_some hi
    have hl := List.getElem?_eq_getElem hil
    rw [wAt_some hl]
    obtain ⟨X, hX⟩ : ∃ X, L[i] = X := ⟨_, rfl⟩
    rw [hX] at hl ⊢
    have HL := Aside.mk hl
    clear hi hh hl hX
    go_enter Try.func28, Try.ntmps28
    go_wp2_with fail
    refine K.out.mono ?_
    rintro e w' ⟨rfl, b1⟩
    obtain ⟨ad, rfl, e0, e1, e2, e3, ok⟩ := (HV.out.below b1).at_ i X HL.out
    have B1 := Aside.mk b1
    obtain ⟨p0, p1⟩ := ok.p
    clear b1 e0 e1 e3 ok
    go_wp2_with fail
    go_ret
    exact ⟨rfl, B1.out⟩
end Go.Proofs.Ytmfddaihepjfeaa
