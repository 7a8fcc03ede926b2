/- Layer 1's reference: the same numbers? -/
import Derived.Test.YtmfddaihepjfeaaProg
import Derived.Test.YtmfddaihepjfeaaKit
namespace Go.Proofs.Ytmfddaihepjfeaa
open Go.RowKit
set_option linter.unusedVariables false
set_option linter.unusedSimpArgs false

theorem same_lists (xs ys : List Int) (h : xs.length = ys.length) (hd : ∀ j < xs.length, xs.getD j 0 = ys.getD j 0) : xs = ys := by
  apply List.ext_getElem h
  intro i h1 h2
  have := hd i h1
  rw [List.getD_eq_getElem?_getD, List.getElem?_eq_getElem h1, List.getD_eq_getElem?_getD, List.getElem?_eq_getElem h2] at this
  simpa using this

theorem rsame_any (w : World) (v u : Value) (xs ys : List Int) (hv : Ints w .i64 v xs) (hu : Ints w .i64 u ys) :
    Calls Try.prog 16 #[v, u] w fun e w' => e = .returned (.bool (decide (xs = ys))) ∧ Below w.heap.size w w' := by
  obtain ⟨A, c, rfl, hm, hc⟩ := hv
  obtain ⟨A', c', rfl, hm', hc'⟩ := hu
  have Hc := Aside.mk hc
  have Hc' := Aside.mk hc'
  clear hc hc'
  by_cases hl : xs.length = ys.length
  · have hlb : (xs.length == ys.length) = true := beq_iff_eq.2 hl
    have Hl := Aside.mk hl
    clear hl
    go_enter Try.func16, Try.ntmps16
    go_wp2_with fail
    go_loopw [5] (fun i wr => ∃ (k n : Nat), k ≤ xs.length ∧ i = .int .i64 k ∧ w.drewN n = wr ∧ Aside (∀ j < k, xs.getD j 0 = ys.getD j 0)) (fun i _ => xs.length - (intOf i).toNat)
    case atStart => exact ⟨0, 0, by omega, rfl, rfl, ⟨by omega⟩⟩
    case round =>
      obtain ⟨k, n, hk, rfl, rfl, hall⟩ := hrel
      by_cases hlt : k < xs.length
      · obtain ⟨ad, rfl, hcells⟩ := Hc.out (by omega)
        have hlt' : k < ys.length := by have := Hl.out; omega
        obtain ⟨ad', rfl, hcells'⟩ := Hc'.out (by omega)
        have hck := hcells k hlt
        have hck' := hcells' k hlt'
        obtain ⟨x, Hx⟩ : ∃ x, Aside (xs.getD k 0 = x) := ⟨_, ⟨rfl⟩⟩
        obtain ⟨y, Hy⟩ : ∃ y, Aside (ys.getD k 0 = y) := ⟨_, ⟨rfl⟩⟩
        rw [Hx.out] at hck
        rw [Hy.out] at hck'
        clear hcells hcells'
        by_cases hxy : x = y
        · have h1 : (x == y) = true := beq_iff_eq.2 hxy
          have h2 : (x != y) = false := by simp [hxy]
          have Hxy := Aside.mk hxy
          clear hxy
          go_wp2_with fail
          go_quiet (fail)
          go_wp2_with fail
          go_roundw
          case rel =>
            refine ⟨k + 1, _, by omega, by go_num, rfl, ⟨?_⟩⟩
            intro j hj
            by_cases e : j = k
            · subst e; rw [Hx.out, Hy.out]; exact Hxy.out
            · exact hall.out j (by omega)
          case measure => simp [intOf]; omega
        · have h1 : (x == y) = false := beq_eq_false_iff_ne.2 hxy
          have h2 : (x != y) = true := by simp [hxy]
          have Hxy := Aside.mk hxy
          clear hxy
          go_wp2_with fail
          go_quiet (fail)
          go_wp2_with fail
          go_ret
          refine ⟨ret_bool ?_, ?_⟩
          · symm
            rw [decide_eq_false_iff_not]
            rintro rfl
            exact Hxy.out (Hx.out.symm.trans Hy.out)
          · exact below_drewN2 _ _ _
      · have e : k = xs.length := by omega
        have He := Aside.mk e
        clear e
        go_wp2_with fail
        go_ret
        refine ⟨ret_bool ?_, below_drewN _ _⟩
        symm
        rw [decide_eq_true_iff]
        exact same_lists xs ys Hl.out (by rw [← He.out]; exact hall.out)
  · have hlb : (xs.length == ys.length) = false := beq_eq_false_iff_ne.2 hl
    have Hl := Aside.mk hl
    clear hl
    go_enter Try.func16, Try.ntmps16
    go_wp2_with fail
    go_ret
    refine ⟨ret_bool ?_, Below.refl _ _⟩
    symm
    rw [decide_eq_false_iff_not]
    rintro rfl
    exact Hl.out rfl
end Go.Proofs.Ytmfddaihepjfeaa
