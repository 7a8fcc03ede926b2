/- The table: what all cores serve; the next beginning or end. -/
import Derived.Test.YtmfddaihepjfeaaTabA
namespace Go.Proofs.Ytmfddaihepjfeaa
open Go.RowKit
set_option linter.unusedVariables false
set_option linter.unusedSimpArgs false

theorem own_kept {S : Nat → Prop} {w w' : World} {base n size : Nat} {e : TypeId} {v : Value} {xs : List Value} (h : w.ownsRow base e size v n xs) (k : Kept S w w') (hv : ∀ r, v.ownBlock = some r → ¬ S r) : w'.ownsRow base e size v n xs := by
  refine ⟨h.1, ?_⟩
  rcases h.2 with h0 | ⟨g, cap, cur, rfl, h1, h2, h3⟩
  · exact .inl h0
  · exact .inr ⟨g, cap, cur, rfl, h1, k.heap h2 (hv g rfl), h3⟩
theorem own_below {w w' : World} {base n size : Nat} {e : TypeId} {v : Value} {xs : List Value} (h : w.ownsRow base e size v n xs) (k : Below w.heap.size w w') : w'.ownsRow base e size v n xs := own_kept (S := fun _ => False) h (Kept.of_below k) (fun _ _ => id)
/-- A plan's value, opened. -/
theorem PlanV.open_ {w : World} {v : Value} {P : Plan} (h : PlanV w v P) : ∃ a0 c0 a1 c1 a2 c2 a3 c3, v = .agg #[.int .u16 (Plan.frame P), .slice a0 (Plan.cores P).length c0, .slice a1 (Plan.parts P).length c1, .slice a2 (Plan.chans P).length c2, .slice a3 (Plan.pairs P).length c3] ∧
    PlanAt w (.slice a0 (Plan.cores P).length c0) (.slice a1 (Plan.parts P).length c1) (.slice a2 (Plan.chans P).length c2) (.slice a3 (Plan.pairs P).length c3) P ∧ (Plan.cores P).length ≤ 9223372036854775807 := by
  obtain ⟨a0, n0, c0, a1, n1, c1, a2, n2, c2, a3, n3, c3, rfl, hp⟩ := h
  obtain ⟨_, _, q, hlen⟩ := hp.cores.len
  obtain ⟨rfl, rfl, rfl⟩ : a0 = _ ∧ n0 = _ ∧ c0 = _ := by injection q with q1 q2 q3; exact ⟨q1, q2, q3⟩
  clear q
  obtain ⟨_, _, q, hlen1⟩ := Elems.len hp.parts
  obtain ⟨rfl, rfl, rfl⟩ : a1 = _ ∧ n1 = _ ∧ c1 = _ := by injection q with q1 q2 q3; exact ⟨q1, q2, q3⟩
  clear q
  obtain ⟨_, _, q, hlen2⟩ := Elems.len hp.chans
  obtain ⟨rfl, rfl, rfl⟩ : a2 = _ ∧ n2 = _ ∧ c2 = _ := by injection q with q1 q2 q3; exact ⟨q1, q2, q3⟩
  clear q
  obtain ⟨_, _, q, hlen3⟩ := Elems.len hp.pairs
  obtain ⟨rfl, rfl, rfl⟩ : a3 = _ ∧ n3 = _ ∧ c3 = _ := by injection q with q1 q2 q3; exact ⟨q1, q2, q3⟩
  exact ⟨_, _, _, _, _, _, _, _, rfl, hp, hlen⟩
theorem A_info_int : (Try.prog.info? 3).map (fun i => (i.zero, i.size, i.bytes)) = some (some (.int .i64 0), 1, 8) := by kernel_rfl

theorem turn_out (w : World) (v : Value) (P : Plan) (t : Int) (hv : PlanV w v P) (ht : t < 0 ∨ Plan.frame P ≤ t) :
    Calls Try.prog 12 #[v, .int .i64 t] w fun e w' => e = .returned (.tuple #[.slice none 0 0, .int .i64 60]) ∧ Below w.heap.size w w' := by
  obtain ⟨a0, c0, a1, c1, a2, c2, a3, c3, rfl, hp, hlen⟩ := hv.open_
  obtain ⟨f0, f1⟩ := hp.frame
  clear hp hv
  generalize Plan.frame P = fr at *
  by_cases h1 : t < 0
  · go_enter Try.func12, Try.ntmps12
    go_wp2_with fail
    go_ret2
    exact ⟨rfl, bel_one _ _⟩
  · have h2 : fr ≤ t := by omega
    go_enter Try.func12, Try.ntmps12
    go_wp2_with fail
    go_ret2
    exact ⟨rfl, bel_one _ _⟩
set_option maxHeartbeats 1600000 in
theorem turn_in (w : World) (v : Value) (P : Plan) (t : Int) (hv : PlanV w v P) (h1 : 0 ≤ t) (h2 : t < Plan.frame P) (hC : (Plan.cores P).length ≤ 1000) :
    Calls Try.prog 12 #[v, .int .i64 t] w fun e w' => ∃ r, e = .returned (.tuple #[r, .int .i64 0]) ∧ Ints w' .i64 r (turnS (Plan.cores P) t) ∧ Fresh w.heap.size r ∧ Below w.heap.size w w' := by
  obtain ⟨a0, c0, a1, c1, a2, c2, a3, c3, rfl, hp, hlen⟩ := hv.open_
  obtain ⟨f0, f1⟩ := hp.frame
  have HC := Aside.mk hp.cores
  clear hp hv
  generalize Plan.frame P = fr at *
  generalize Plan.cores P = C at *
  obtain ⟨W1, HW⟩ : ∃ W1, Aside (W1 = w.alloc (.cells #[.int .u16 fr, .slice a0 C.length c0, .slice a1 (Plan.parts P).length c1, .slice a2 (Plan.chans P).length c2, .slice a3 (Plan.pairs P).length c3] 28)) := ⟨_, ⟨rfl⟩⟩
  have hB : Aside (Below w.heap.size w W1) := ⟨by rw [HW.out]; exact bel_one _ _⟩
  go_enter Try.func12, Try.ntmps12
  go_wp2_with fail
  rw [← HW.out]
  go_loopw [6, 21] (fun l i wr => ∃ (k : Nat) (v : Value), k ≤ C.length ∧ i = .int .i64 k ∧ v = l ∧ Aside (wr.ownsRow w.heap.size 3 1 v (turnS (C.take k) t).length ((turnS (C.take k) t).map (Value.int .i64)) ∧ Below w.heap.size w wr)) (fun _ i _ => C.length - (intOf i).toNat)
  case atStart => exact ⟨0, _, by omega, rfl, rfl, ⟨own_nil _ _ _ _, hB.out⟩⟩
  case round =>
    obtain ⟨k, v, hk, rfl, rfl, S⟩ := hrel
    by_cases hkl : k < C.length
    · have hl := List.getElem?_eq_getElem hkl
      obtain ⟨L, hL⟩ : ∃ L, C[k] = L := ⟨_, rfl⟩
      rw [hL] at hl
      obtain ⟨ad, lv, rfl, hlv, hwins⟩ := (HC.out.below S.out.2).at_ k L hl
      have K := Aside.mk (serves_any wr lv L t hwins)
      have HS : Aside (turnS (C.take (k + 1)) t = turnS (C.take k) t ++ [servesS L t]) := ⟨by rw [take_snoc hl, turnS, List.map_append]; rfl⟩
      have hlt : Aside ((turnS (C.take k) t).length ≤ 1000) := ⟨by rw [turnS, List.length_map, List.length_take]; omega⟩
      clear hl hL hwins
      go_wp2_with fail
      refine K.out.mono ?_
      rintro e w' ⟨rfl, b1⟩
      have hown : Aside (w'.ownsRow w.heap.size 3 1 v (turnS (C.take k) t).length ((turnS (C.take k) t).map (Value.int .i64)) ∧ Below w.heap.size w w') := ⟨own_below S.out.1 b1, bel_then S.out.2 b1⟩
      clear b1 hlv
      go_wp2_with (at_builtin; go_loud (refine append_elem w.heap.size rfl _ _ 31 3 (.int .i64 0) 1 8 rfl Try.underlying31 A_info_int rfl (by decide) (by decide) v _ _ [.int .i64 (servesS L t)] rfl rfl rfl (by simp [Value.oneCell']) hown.out.1 hown.out.2.size (by have := hlt.out; omega) ?_))
      intro v1 w1 hown1 hg hat
      have X := Aside.mk (And.intro hown1 (And.intro hg hat))
      clear hown1 hg hat
      go_wp2_with fail
      go_roundw
      case rel =>
        obtain ⟨hown1, hg, hat⟩ := X.out
        exact ⟨k + 1, _, by omega, by go_num, rfl, by rw [HS.out]; simpa using hown1, hown.out.2.grown hg hown.out.2.size (fun j hj => own_base hown.out.1 j hj)⟩
      case measure => simp [intOf]; omega
    · obtain rfl : k = C.length := by omega
      go_wp2_with fail
      go_ret2
      have h := S.out.1
      rw [List.take_length] at h
      exact ⟨_, rfl, own_ints h, own_base h, S.out.2⟩
end Go.Proofs.Ytmfddaihepjfeaa
