/- Paths: is a plan small? -/
import Derived.Test.YtflkfjjfhhapkaaBox
import Derived.Test.YtflkfjjfhhapkaaPthP
import Derived.IntWalk
namespace Go.Proofs.Ytflkfjjfhhapkaa
open Go.RowKit
set_option linter.unusedVariables false
set_option linter.unusedSimpArgs false

/-- No slice of a plan weighs more than the reach. -/
structure Sz (P : Plan) : Prop where
  c : ∀ L ∈ Plan.cores P, L.length ≤ 140737488351232
  s : ∀ x ∈ Plan.parts P, (PartR.sems x).length ≤ 140737488351232 ∧ (PartR.procs x).length ≤ 140737488351232
theorem sz_of {P : Plan} (h : rd28.S P) : Sz P := by
  obtain ⟨f, C, A, H, Q, u⟩ := P
  obtain ⟨_, hC, hA, _⟩ := h
  have b1 : Try.prog.bytesOf 72 = 6 := by kernel_rfl
  have b2 : Try.prog.bytesOf 74 = 2 := by kernel_rfl
  have b3 : Try.prog.bytesOf 5 = 1 := by kernel_rfl
  refine ⟨fun L hL => ?_, fun x hx => ?_⟩
  · have h1 : L.length * Try.prog.bytesOf 72 ≤ reachBytes := (hC.2 L hL).1
    rw [b1] at h1
    simp only [reachBytes] at h1
    omega
  · obtain ⟨S, e, p, acts, u⟩ := x
    obtain ⟨h1, _, h2, _⟩ := hA.2 _ hx
    have h1 : S.length * Try.prog.bytesOf 74 ≤ reachBytes := h1.1
    have h2 : p.length * Try.prog.bytesOf 5 ≤ reachBytes := h2.1
    rw [b2] at h1
    rw [b3] at h2
    simp only [reachBytes] at h1 h2
    show S.length ≤ _ ∧ p.length ≤ _
    omega
def lsum {α : Type} (f : α → Nat) (l : List α) : Nat := (l.map f).sum
theorem lsum_snoc {α : Type} (f : α → Nat) (l : List α) (x : α) : lsum f (l ++ [x]) = lsum f l + f x := by simp [lsum]
theorem lsum_mem {α : Type} (f : α → Nat) (l : List α) (x : α) (h : x ∈ l) : f x ≤ lsum f l := by
  induction l with
  | nil => cases h
  | cons y l ih =>
    have e : lsum f (y :: l) = f y + lsum f l := by simp [lsum]
    rcases List.mem_cons.1 h with rfl | h
    · omega
    · have := ih h; omega
theorem lsum_le {α : Type} (f : α → Nat) (l : List α) (b : Nat) (h : ∀ x ∈ l, f x ≤ b) : lsum f l ≤ l.length * b := by
  induction l with
  | nil => simp [lsum]
  | cons y l ih =>
    have e : lsum f (y :: l) = f y + lsum f l := by simp [lsum]
    have h1 := h y (List.mem_cons_self ..)
    have h2 := ih (fun x hx => h x (List.mem_cons_of_mem _ hx))
    rw [e, List.length_cons, Nat.add_mul]; omega
def partN (x : PartR) : Nat := (PartR.sems x).length + (PartR.procs x).length
structure Few (P : Plan) : Prop where
  parts : (Plan.parts P).length ≤ 70
  chans : (Plan.chans P).length ≤ 200
  pairs : (Plan.pairs P).length ≤ 200
  cores : (Plan.cores P).length ≤ 10
  wins : ∀ L ∈ Plan.cores P, L.length ≤ 1000
  objs : ∀ x ∈ Plan.parts P, (PartR.sems x).length ≤ 1000 ∧ (PartR.procs x).length ≤ 1000
def FewP (w : World) (P : Plan) (e : Ending) (w' : World) : Prop := ∃ b, e = .returned (.bool b) ∧ (b = true → Few P) ∧ Below w.heap.size w w'
set_option maxHeartbeats 3200000 in
set_option maxRecDepth 100000 in
theorem few_any (w : World) (v : Value) (P : Plan) (hv : PlanV w v P) (hz : Sz P) : Calls Try.prog 10 #[v] w (FewP w P) := by
  have HZ := Aside.mk hz
  obtain ⟨a0, c0, a1, c1, a2, c2, a3, c3, rfl, hp, hlen⟩ := hv.open_
  have HC := Aside.mk hp.cores
  have HA := Aside.mk hp.parts
  obtain ⟨i0, i1⟩ := hp.frame
  have lP1 : (Plan.parts P).length ≤ 9223372036854775807 := (Elems.len hp.parts).choose_spec.choose_spec.2
  have lP2 : (Plan.chans P).length ≤ 9223372036854775807 := (Elems.len hp.chans).choose_spec.choose_spec.2
  have lP3 : (Plan.pairs P).length ≤ 9223372036854775807 := (Elems.len hp.pairs).choose_spec.choose_spec.2
  obtain ⟨W1, HW⟩ : ∃ W1, Aside (W1 = w.alloc (.cells #[.int .u16 (Plan.frame P), .slice a0 (Plan.cores P).length c0, .slice a1 (Plan.parts P).length c1, .slice a2 (Plan.chans P).length c2, .slice a3 (Plan.pairs P).length c3] 28)) := ⟨_, ⟨rfl⟩⟩
  have hb1 : Aside (Below w.heap.size w W1 ∧ W1.heap[w.heap.size]? = some (.cells #[.int .u16 (Plan.frame P), .slice a0 (Plan.cores P).length c0, .slice a1 (Plan.parts P).length c1, .slice a2 (Plan.chans P).length c2, .slice a3 (Plan.pairs P).length c3] 28 (0, 0))) := ⟨by rw [HW.out]; exact ⟨bel_one _ _, heap_alloc_new _ _⟩⟩
  clear hp hv hz
  by_cases e1 : 70 < (Plan.parts P).length
  · go_enter Try.func10, Try.ntmps10
    go_wp2_with fail
    go_ret
    exact ⟨_, rfl, (by simp), bel_one _ _⟩
  by_cases e2 : 200 < (Plan.chans P).length
  · go_enter Try.func10, Try.ntmps10
    go_wp2_with fail
    go_ret
    exact ⟨_, rfl, (by simp), bel_one _ _⟩
  by_cases e3 : 200 < (Plan.pairs P).length
  · go_enter Try.func10, Try.ntmps10
    go_wp2_with fail
    go_ret
    exact ⟨_, rfl, (by simp), bel_one _ _⟩
  by_cases e4 : 10 < (Plan.cores P).length
  · go_enter Try.func10, Try.ntmps10
    go_wp2_with fail
    go_ret
    exact ⟨_, rfl, (by simp), bel_one _ _⟩
  have HE : Aside ((Plan.parts P).length ≤ 70 ∧ (Plan.chans P).length ≤ 200 ∧ (Plan.pairs P).length ≤ 200 ∧ (Plan.cores P).length ≤ 10) := ⟨by omega⟩
  obtain ⟨C, hC⟩ : ∃ C, Plan.cores P = C := ⟨_, rfl⟩
  obtain ⟨A, hA⟩ : ∃ C, Plan.parts P = C := ⟨_, rfl⟩
  have HF : Aside ((∀ L ∈ C, L.length ≤ 1000) → (∀ x ∈ A, (PartR.sems x).length ≤ 1000 ∧ (PartR.procs x).length ≤ 1000) → Few P) := ⟨fun h1 h2 => ⟨HE.out.1, HE.out.2.1, HE.out.2.2.1, HE.out.2.2.2, by rw [hC]; exact h1, by rw [hA]; exact h2⟩⟩
  have BC : Aside ((∀ L ∈ C, L.length ≤ 140737488351232) ∧ C.length ≤ 10) := ⟨by rw [← hC]; exact ⟨HZ.out.c, HE.out.2.2.2⟩⟩
  have BA : Aside ((∀ x ∈ A, (PartR.sems x).length ≤ 140737488351232 ∧ (PartR.procs x).length ≤ 140737488351232) ∧ A.length ≤ 70) := ⟨by rw [← hA]; exact ⟨HZ.out.s, HE.out.1⟩⟩
  rw [hC] at HC hb1 HW e4 hlen
  rw [hA] at HA hb1 HW e1 lP1
  rw [hC, hA]
  clear hC hA HZ HE
  go_enter Try.func10, Try.ntmps10
  go_wp2_with fail
  rw [← HW.out]
  go_loopg [3, 4] C.length (fun g s3 i wr => ∃ k : Nat, k ≤ C.length ∧ g = C.length - k ∧ i = .int .i64 k ∧ s3 = .int .i64 (lsum List.length (C.take k) : Nat) ∧ Aside (Below W1.heap.size W1 wr))
  case atStart => exact ⟨0, by omega, rfl, rfl, rfl, ⟨Below.refl _ _⟩⟩
  case round =>
    obtain ⟨k, hk, rfl, rfl, rfl, S⟩ := hrel
    obtain ⟨g0, g1, g2, g3, g4⟩ := box5 ((S.out.block _ (lt_of_block hb1.out.2)).trans hb1.out.2)
    have hbd : lsum List.length (C.take k) ≤ 1407374883512320 := by
      have h1 := lsum_le List.length (C.take k) 140737488351232 (fun x hx => BC.out.1 x (List.mem_of_mem_take hx))
      have h2 : (C.take k).length ≤ 10 := by rw [List.length_take]; have := BC.out.2; omega
      have := Nat.mul_le_mul_right 140737488351232 h2
      omega
    by_cases hkl : k < C.length
    · have hl := List.getElem?_eq_getElem hkl
      obtain ⟨L, hL⟩ : ∃ L, C[k] = L := ⟨_, rfl⟩
      rw [hL] at hl
      obtain ⟨ad, lv, rfl, hlv, hwins⟩ := (HC.out.below (bel_then hb1.out.1 S.out)).at_ k L hl
      obtain ⟨la, lc, rfl, hlL⟩ := hwins.len
      have hLb := BC.out.1 L (List.mem_of_getElem? hl)
      have HS : Aside (lsum List.length (C.take (k + 1)) = lsum List.length (C.take k) + L.length) := ⟨by rw [take_snoc hl, lsum_snoc]⟩
      generalize lsum List.length (C.take k) = n0 at *
      clear hl hL hwins
      go_wp2_with fail
      go_roundg (C.length - (k + 1))
      case measure => omega
      case rel => exact ⟨k + 1, by omega, rfl, by go_num, by rw [HS.out]; show Value.int .i64 _ = Value.int .i64 _; congr 1, S⟩
    · obtain rfl : k = C.length := by omega
      rw [List.take_length] at hbd ⊢
      obtain ⟨n1, hn1⟩ : ∃ n1, Aside (lsum List.length C = n1) := ⟨_, ⟨rfl⟩⟩
      rw [hn1.out] at hbd ⊢
      go_wp2_with fail
      clear g0 g1 g2 g3 g4
      go_loopg [3, 5] A.length (fun g s3 i wr => ∃ k n : Nat, k ≤ A.length ∧ g = A.length - k ∧ i = .int .i64 k ∧ s3 = .int .i64 (n : Nat) ∧ n ≤ 1407374883512320 ∧ Aside (n = n1 + lsum partN (A.take k) ∧ Below W1.heap.size W1 wr))
      case atStart => exact ⟨0, n1, by omega, rfl, rfl, rfl, hbd, ⟨by simp [lsum], S.out⟩⟩
      case round =>
        clear S
        obtain ⟨k, n, hk, rfl, rfl, rfl, hnb, S⟩ := hrel
        obtain ⟨g0, g1, g2, g3, g4⟩ := box5 ((S.out.2.block _ (lt_of_block hb1.out.2)).trans hb1.out.2)
        by_cases hkl : k < A.length
        · by_cases hn0 : n ≤ 1000
          · have hl := List.getElem?_eq_getElem hkl
            obtain ⟨X, hX⟩ : ∃ L, A[k] = L := ⟨_, rfl⟩
            rw [hX] at hl
            obtain ⟨ad, sv, pv, rfl, x0, x1, x2, x3, x4, x5, pa⟩ := Parts.at_ (elems_below HA.out (bel_then hb1.out.1 S.out.2)) k X hl
            obtain ⟨sa, sc, qa, qc, rfl, rfl, hl1, hl2⟩ := pa.lens
            obtain ⟨b1, b2⟩ := BA.out.1 X (List.mem_of_getElem? hl)
            have HS : Aside (lsum partN (A.take (k + 1)) = lsum partN (A.take k) + ((PartR.sems X).length + (PartR.procs X).length)) := ⟨by rw [take_snoc hl, lsum_snoc]; rfl⟩
            obtain ⟨y, hy⟩ : ∃ y, (PartR.sems X).length = y := ⟨_, rfl⟩
            obtain ⟨z, hz⟩ : ∃ y, (PartR.procs X).length = y := ⟨_, rfl⟩
            rw [hy] at x0 hl1 b1 HS
            rw [hz] at x2 hl2 b2 HS
            have w1 : IntKind.i64.wrap ((y : Int) + (z : Int)) = (y : Int) + (z : Int) := IntWalk.i64_in _ (by omega)
            have w2 : IntKind.i64.wrap ((n : Int) + ((y : Int) + (z : Int))) = (n : Int) + ((y : Int) + (z : Int)) := IntWalk.i64_in _ (by omega)
            have HH := Aside.mk (And.intro hnb (And.intro hn0 (And.intro b1 b2)))
            clear hl hX pa hy hz
            go_wp2_with fail
            go_quiet (fail)
            go_wp2_with fail
            go_roundg (A.length - (k + 1))
            case measure => omega
            case rel => exact ⟨k + 1, n + (y + z), by omega, rfl, by go_num, by show Value.int .i64 _ = Value.int .i64 _; congr 1, by have := HH.out; omega, ⟨by rw [HS.out, S.out.1]; omega, below_then S.out.2 (below_drewN _ _)⟩⟩
          · go_wp2_with fail
            go_ret
            exact ⟨_, rfl, (by intro h; simp at h; omega), bel_then hb1.out.1 S.out.2⟩
        · obtain rfl : k = A.length := by omega
          go_wp2_with fail
          go_ret
          refine ⟨_, rfl, (fun h => ?_), bel_then hb1.out.1 S.out.2⟩
          have hn : n ≤ 1000 := by simp at h; omega
          have h1 := S.out.1
          rw [List.take_length] at h1
          refine HF.out (fun L hL => ?_) (fun x hx => ?_)
          · have := lsum_mem List.length C L hL
            have := hn1.out
            omega
          · have := lsum_mem partN A x hx
            unfold partN at this h1
            omega
end Go.Proofs.Ytflkfjjfhhapkaa
