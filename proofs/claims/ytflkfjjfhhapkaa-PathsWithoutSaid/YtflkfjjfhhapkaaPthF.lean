/- Paths: who excludes whom; whether two are apart. -/
import Derived.Test.YtflkfjjfhhapkaaPthD
import Derived.Test.YtflkfjjfhhapkaaPthE
namespace Go.Proofs.Ytflkfjjfhhapkaa
open Go.RowKit
set_option linter.unusedVariables false
set_option linter.unusedSimpArgs false

/-- Does a pair name two partitions? -/
def pairB (a b : Int) (x : PairR) : Bool := (decide (PairR.a x = a) && decide (PairR.b x = b)) || (decide (PairR.a x = b) && decide (PairR.b x = a))
def exclB (P : Plan) (a b : Int) : Bool := (inB (Plan.parts P).length a && inB (Plan.parts P).length b) && (Plan.pairs P).any (pairB a b)
def idxV {α : Type} (f : α → Bool) (L : List α) : Int := match L.findIdx? f with
  | some i => (i : Int)
  | none => -1
theorem idx_at {α : Type} {f : α → Bool} {L : List α} {k : Nat} {x : α} (hx : L[k]? = some x) (hf : f x = true) (hn : ∀ j y, j < k → L[j]? = some y → f y = false) : idxV f L = (k : Int) := by
  have : L.findIdx? f = some k := by
    rw [List.findIdx?_eq_some_iff_getElem]
    obtain ⟨h, rfl⟩ := List.getElem?_eq_some_iff.1 hx
    exact ⟨h, hf, fun j hj => by rw [hn j _ hj (List.getElem?_eq_getElem (by omega))]; simp⟩
  rw [idxV, this]
theorem idx_no {α : Type} {f : α → Bool} {L : List α} (hn : ∀ j y, j < L.length → L[j]? = some y → f y = false) : idxV f L = -1 := by
  have : L.findIdx? f = none := by
    rw [List.findIdx?_eq_none_iff]
    intro x hx
    obtain ⟨i, hi, rfl⟩ := List.getElem_of_mem hx
    exact hn i _ hi (List.getElem?_eq_getElem hi)
  rw [idxV, this]
theorem idx_any {α : Type} (f : α → Bool) (L : List α) : decide (0 ≤ idxV f L) = L.any f := by
  unfold idxV
  cases h : L.findIdx? f with
  | none =>
    rw [List.findIdx?_eq_none_iff] at h
    have : L.any f = false := by rw [List.any_eq_false]; intro x hx; rw [h x hx]; simp
    rw [this]; rfl
  | some i =>
    obtain ⟨hi, hf, _⟩ := List.findIdx?_eq_some_iff_getElem.1 h
    have : L.any f = true := List.any_eq_true.2 ⟨L[i], List.getElem_mem _, hf⟩
    rw [this]; simp

set_option maxHeartbeats 1600000 in
theorem idxp_any (w : World) (v : Value) (L : List PairR) (hv : Pairs w v L) (g : FuncId) (caps : Array Value) (hg : ∀ args w, (callFunc g args).run Try.prog w = .ok (.enter g args) w) (f : PairR → Bool)
    (hf : ∀ x W, PairR.Ok x → Below w.heap.size w W → Calls Try.prog g (#[PairR.val x] ++ caps) W fun e W' => e = .returned (.bool (f x)) ∧ Below W.heap.size W W') :
    Calls Try.prog 38 #[v, .func (.func g) #[] caps] w fun e w' => e = .returned (.int .i64 (idxV f L)) ∧ Below w.heap.size w w' := by
  have HV := Aside.mk hv
  obtain ⟨a, cap, rfl, hlen⟩ := Elems.len hv
  have HF := Aside.mk hf
  clear hv hf
  go_enter Try.func38, Try.ntmps38
  go_wp2_with fail
  go_loopg [8] L.length (fun q i wr => ∃ k : Nat, k ≤ L.length ∧ q = L.length - k ∧ i = .int .i64 k ∧ Aside ((∀ j y, j < k → L[j]? = some y → f y = false) ∧ Below w.heap.size w wr))
  case atStart => exact ⟨0, by omega, rfl, rfl, ⟨by omega, Below.refl _ _⟩⟩
  case round =>
    obtain ⟨k, hk, rfl, rfl, S⟩ := hrel
    by_cases hkl : k < L.length
    · have hl := List.getElem?_eq_getElem hkl
      obtain ⟨x, hx⟩ : ∃ x, L[k] = x := ⟨_, rfl⟩
      rw [hx] at hl
      obtain ⟨ad, rfl, d0, d1, ok⟩ := Pairs.at_ (elems_below HV.out S.out.2) k x hl
      have K := Aside.mk (HF.out x wr ok S.out.2)
      have HL := Aside.mk hl
      unfold PairR.val at K
      obtain ⟨b, hb⟩ : ∃ b, f x = b := ⟨_, rfl⟩
      rw [hb] at K
      have HB := Aside.mk hb
      clear hl hx ok hb
      go_wp2_with fail
      refine K.out.mono ?_
      rintro e w5 ⟨rfl, b5⟩
      have B5 := Aside.mk (bel_then S.out.2 b5)
      clear b5 d0 d1
      cases b
      · go_wp2_with fail
        go_roundg (L.length - (k + 1))
        case measure => omega
        case rel => exact ⟨k + 1, by omega, rfl, by go_num, ⟨fun j y hj hy => by
          rcases Nat.lt_succ_iff_lt_or_eq.1 hj with q | rfl
          · exact S.out.1 j y q hy
          · rw [HL.out] at hy; injection hy with e; rw [← e]; exact HB.out, B5.out⟩⟩
      · go_wp2_with fail
        go_ret
        exact ⟨by rw [idx_at HL.out HB.out S.out.1]; rfl, B5.out⟩
    · obtain rfl : k = L.length := by omega
      go_wp2_with fail
      go_ret
      exact ⟨by rw [idx_no S.out.1]; rfl, S.out.2⟩
theorem contp_any (w : World) (v : Value) (L : List PairR) (hv : Pairs w v L) (g : FuncId) (caps : Array Value) (hg : ∀ args w, (callFunc g args).run Try.prog w = .ok (.enter g args) w) (f : PairR → Bool)
    (hf : ∀ x W, PairR.Ok x → Below w.heap.size w W → Calls Try.prog g (#[PairR.val x] ++ caps) W fun e W' => e = .returned (.bool (f x)) ∧ Below W.heap.size W W') :
    Calls Try.prog 32 #[v, .func (.func g) #[] caps] w fun e w' => e = .returned (.bool (L.any f)) ∧ Below w.heap.size w w' := by
  have K := Aside.mk (idxp_any w v L hv g caps hg f hf)
  have HI := Aside.mk (idx_any f L)
  generalize idxV f L = r at *
  clear hv hg hf
  go_enter Try.func32, Try.ntmps32
  go_wp2_with fail
  refine K.out.mono ?_
  rintro e w5 ⟨rfl, b5⟩
  have B5 := Aside.mk b5
  clear b5
  go_wp2_with fail
  go_ret
  exact ⟨ret_bool HI.out, B5.out⟩

theorem callFunc_excl1 (args : Array Value) (w : World) : (callFunc 33 args).run Try.prog w = .ok (.enter 33 args) w := by kernel_rfl
set_option maxHeartbeats 1600000 in
theorem excl1_any (x : PairR) (hx : PairR.Ok x) (a b : Int) (A B : Nat) (w : World) (ha : w.cell? ⟨A, 0, none⟩ = some (.int .i64 a)) (hb : w.cell? ⟨B, 0, none⟩ = some (.int .i64 b)) (hA : A < w.heap.size) (hB : B < w.heap.size) :
    Calls Try.prog 33 #[PairR.val x, .pointer (some ⟨A, 0, none⟩), .pointer (some ⟨B, 0, none⟩)] w fun e w' => e = .returned (.bool (pairB a b x)) ∧ Below w.heap.size w w' := by
  obtain ⟨⟨a0, a1⟩, b0, b1⟩ := hx
  unfold PairR.val pairB
  generalize PairR.a x = xa at *
  generalize PairR.b x = xb at *
  obtain ⟨c1, e1⟩ : ∃ c, decide (xa = a) = c := ⟨_, rfl⟩
  obtain ⟨c2, e2⟩ : ∃ c, decide (xb = b) = c := ⟨_, rfl⟩
  obtain ⟨c3, e3⟩ : ∃ c, decide (xa = b) = c := ⟨_, rfl⟩
  obtain ⟨c4, e4⟩ : ∃ c, decide (xb = a) = c := ⟨_, rfl⟩
  have f1 : (xa == a) = c1 := by rw [← e1]; rfl
  have f2 : (xb == b) = c2 := by rw [← e2]; rfl
  have f3 : (xa == b) = c3 := by rw [← e3]; rfl
  have f4 : (xb == a) = c4 := by rw [← e4]; rfl
  rw [e1, e2, e3, e4]
  clear e1 e2 e3 e4
  cases c1 <;> cases c2 <;> cases c3 <;> cases c4
  all_goals
    go_enter Try.func33, Try.ntmps33
    go_wp2_with fail
    go_ret
    exact ⟨rfl, bel_one _ _⟩

set_option maxHeartbeats 1600000 in
theorem excl_any (w : World) (v : Value) (P : Plan) (a b : Int) (hv : PlanV w v P) :
    Calls Try.prog 22 #[v, .int .i64 a, .int .i64 b] w fun e w' => e = .returned (.bool (exclB P a b)) ∧ Below w.heap.size w w' := by
  have HV := Aside.mk hv
  obtain ⟨a0, c0, a1, c1, a2, c2, a3, c3, rfl, hp, hlen⟩ := hv.open_
  have HQ := Aside.mk hp.pairs
  obtain ⟨i0, i1⟩ := hp.frame
  obtain ⟨b1, HB1⟩ : ∃ b1, Aside (inB (Plan.parts P).length a = b1) := ⟨_, ⟨rfl⟩⟩
  obtain ⟨b2, HB2⟩ : ∃ b1, Aside (inB (Plan.parts P).length b = b1) := ⟨_, ⟨rfl⟩⟩
  have HF : Aside (exclB P a b = ((b1 && b2) && (Plan.pairs P).any (pairB a b))) := ⟨by rw [exclB, HB1.out, HB2.out]⟩
  rw [HF.out]
  have K1 : Aside (∀ W, Below w.heap.size w W → Calls Try.prog 29 #[.agg #[.int .u16 (Plan.frame P), .slice a0 (Plan.cores P).length c0, .slice a1 (Plan.parts P).length c1, .slice a2 (Plan.chans P).length c2, .slice a3 (Plan.pairs P).length c3], .int .i64 a] W fun e w' => e = .returned (.bool b1) ∧ Below W.heap.size W w') := ⟨fun W h => by
    rw [← HB1.out]; exact is_any W _ P a (HV.out.below h)⟩
  have K2 : Aside (∀ W, Below w.heap.size w W → Calls Try.prog 29 #[.agg #[.int .u16 (Plan.frame P), .slice a0 (Plan.cores P).length c0, .slice a1 (Plan.parts P).length c1, .slice a2 (Plan.chans P).length c2, .slice a3 (Plan.pairs P).length c3], .int .i64 b] W fun e w' => e = .returned (.bool b2) ∧ Below W.heap.size W w') := ⟨fun W h => by
    rw [← HB2.out]; exact is_any W _ P b (HV.out.below h)⟩
  obtain ⟨W1, HW⟩ : ∃ W1, Aside (W1 = ((w.alloc (.cells #[.int .u16 (Plan.frame P), .slice a0 (Plan.cores P).length c0, .slice a1 (Plan.parts P).length c1, .slice a2 (Plan.chans P).length c2, .slice a3 (Plan.pairs P).length c3] 28)).alloc (.cells #[.int .i64 a] 3)).alloc (.cells #[.int .i64 b] 3)) := ⟨_, ⟨rfl⟩⟩
  have hb1 : Aside (W1.heap[w.heap.size]? = some (.cells #[.int .u16 (Plan.frame P), .slice a0 (Plan.cores P).length c0, .slice a1 (Plan.parts P).length c1, .slice a2 (Plan.chans P).length c2, .slice a3 (Plan.pairs P).length c3] 28 (0, 0)) ∧ W1.heap[w.heap.size + 1]? = some (.cells #[.int .i64 a] 3 (0, 0)) ∧ W1.heap[w.heap.size + 1 + 1]? = some (.cells #[.int .i64 b] 3 (0, 0)) ∧ Below w.heap.size w W1) := ⟨by rw [HW.out]; exact three_boxes _ _ _ _⟩
  clear hp hv
  go_enter Try.func22, Try.ntmps22
  go_wp2_with fail
  rw [← HW.out]
  refine (K1.out _ hb1.out.2.2.2).mono ?_
  rintro e w2 ⟨rfl, d2⟩
  have D2 := Aside.mk (And.intro (bel_then hb1.out.2.2.2 d2) (And.intro ((d2.block _ (lt_of_block hb1.out.1)).trans hb1.out.1) (And.intro ((d2.block _ (lt_of_block hb1.out.2.1)).trans hb1.out.2.1) ((d2.block _ (lt_of_block hb1.out.2.2.1)).trans hb1.out.2.2.1))))
  clear d2
  cases b1
  · go_wp2_with fail
    go_ret
    exact ⟨ret_bool (by simp), D2.out.1⟩
  · obtain ⟨g0, g1, g2, g3, g4⟩ := box5 D2.out.2.1
    have x2 := cell_of_one D2.out.2.2.2
    go_wp2_with fail
    refine (K2.out _ D2.out.1).mono ?_
    rintro e w3 ⟨rfl, d3⟩
    have D3 := Aside.mk (And.intro (bel_then D2.out.1 d3) (And.intro ((d3.block _ (lt_of_block D2.out.2.1)).trans D2.out.2.1) (And.intro ((d3.block _ (lt_of_block D2.out.2.2.1)).trans D2.out.2.2.1) ((d3.block _ (lt_of_block D2.out.2.2.2)).trans D2.out.2.2.2))))
    clear d3 x2 g0 g1 g2 g3 g4
    cases b2
    · go_wp2_with fail
      go_ret
      exact ⟨ret_bool (by simp), D3.out.1⟩
    · obtain ⟨g0, g1, g2, g3, g4⟩ := box5 D3.out.2.1
      have K3 := Aside.mk (contp_any w3 _ (Plan.pairs P) (elems_below HQ.out D3.out.1) 33 #[.pointer (some ⟨w.heap.size + 1, 0, none⟩), .pointer (some ⟨w.heap.size + 1 + 1, 0, none⟩)] callFunc_excl1 (pairB a b)
        (fun x W ok h => excl1_any x ok a b _ _ W (cell_of_one ((h.block _ (lt_of_block D3.out.2.2.1)).trans D3.out.2.2.1)) (cell_of_one ((h.block _ (lt_of_block D3.out.2.2.2)).trans D3.out.2.2.2)) (Nat.lt_of_lt_of_le (lt_of_block D3.out.2.2.1) h.size) (Nat.lt_of_lt_of_le (lt_of_block D3.out.2.2.2) h.size)))
      go_wp2_with fail
      refine K3.out.mono ?_
      rintro e w4 ⟨rfl, d4⟩
      have D4 := Aside.mk (bel_then D3.out.1 d4)
      clear d4 g0 g1 g2 g3 g4
      go_wp2_with fail
      go_ret
      exact ⟨ret_bool (by simp), D4.out⟩

set_option maxHeartbeats 3200000 in
theorem rexcl_any (w : World) (v : Value) (P : Plan) (a b : Int) (hv : PlanV w v P) :
    Calls Try.prog 23 #[v, .int .i64 a, .int .i64 b] w fun e w' => e = .returned (.bool (exclB P a b)) ∧ Below w.heap.size w w' := by
  have HV := Aside.mk hv
  obtain ⟨a0, c0, a1, c1, a2, c2, a3, c3, rfl, hp, hlen⟩ := hv.open_
  have HQ := Aside.mk hp.pairs
  obtain ⟨i0, i1⟩ := hp.frame
  have hlenQ : (Plan.pairs P).length ≤ 9223372036854775807 := (Elems.len hp.pairs).choose_spec.choose_spec.2
  obtain ⟨b1, HB1⟩ : ∃ b1, Aside (inB (Plan.parts P).length a = b1) := ⟨_, ⟨rfl⟩⟩
  obtain ⟨b2, HB2⟩ : ∃ b1, Aside (inB (Plan.parts P).length b = b1) := ⟨_, ⟨rfl⟩⟩
  have HF : Aside (exclB P a b = ((b1 && b2) && (Plan.pairs P).any (pairB a b))) := ⟨by rw [exclB, HB1.out, HB2.out]⟩
  rw [HF.out]
  have K1 : Aside (∀ W, Below w.heap.size w W → Calls Try.prog 17 #[.agg #[.int .u16 (Plan.frame P), .slice a0 (Plan.cores P).length c0, .slice a1 (Plan.parts P).length c1, .slice a2 (Plan.chans P).length c2, .slice a3 (Plan.pairs P).length c3], .int .i64 a] W fun e w' => e = .returned (.bool b1) ∧ Below W.heap.size W w') := ⟨fun W h => by
    rw [← HB1.out]; exact ris_any W _ P a (HV.out.below h)⟩
  have K2 : Aside (∀ W, Below w.heap.size w W → Calls Try.prog 17 #[.agg #[.int .u16 (Plan.frame P), .slice a0 (Plan.cores P).length c0, .slice a1 (Plan.parts P).length c1, .slice a2 (Plan.chans P).length c2, .slice a3 (Plan.pairs P).length c3], .int .i64 b] W fun e w' => e = .returned (.bool b2) ∧ Below W.heap.size W w') := ⟨fun W h => by
    rw [← HB2.out]; exact ris_any W _ P b (HV.out.below h)⟩
  obtain ⟨W1, HW⟩ : ∃ W1, Aside (W1 = w.alloc (.cells #[.int .u16 (Plan.frame P), .slice a0 (Plan.cores P).length c0, .slice a1 (Plan.parts P).length c1, .slice a2 (Plan.chans P).length c2, .slice a3 (Plan.pairs P).length c3] 28)) := ⟨_, ⟨rfl⟩⟩
  have hb1 : Aside (Below w.heap.size w W1 ∧ W1.heap[w.heap.size]? = some (.cells #[.int .u16 (Plan.frame P), .slice a0 (Plan.cores P).length c0, .slice a1 (Plan.parts P).length c1, .slice a2 (Plan.chans P).length c2, .slice a3 (Plan.pairs P).length c3] 28 (0, 0))) := ⟨by rw [HW.out]; exact ⟨bel_one _ _, heap_alloc_new _ _⟩⟩
  obtain ⟨Q, hQ⟩ : ∃ Q, Plan.pairs P = Q := ⟨_, rfl⟩
  rw [hQ] at HQ hlenQ K1 K2 HW hb1
  rw [hQ]
  clear hp hv hQ HV HF
  go_enter Try.func23, Try.ntmps23
  go_wp2_with fail
  rw [← HW.out]
  go_loopg [7] Q.length (fun g i wr => ∃ k : Nat, k ≤ Q.length ∧ g = Q.length - k ∧ i = .int .i64 k ∧ Aside (((b1 && b2) = true → (Q.take k).any (pairB a b) = false) ∧ Below W1.heap.size W1 wr))
  case atStart => exact ⟨0, by omega, rfl, rfl, ⟨by simp, Below.refl _ _⟩⟩
  case round =>
    obtain ⟨k, hk, rfl, rfl, S⟩ := hrel
    have X := Aside.mk ((S.out.2.block _ (lt_of_block hb1.out.2)).trans hb1.out.2)
    obtain ⟨g0, g1, g2, g3, g4⟩ := box5 X.out
    by_cases hkl : k < Q.length
    · have hl := List.getElem?_eq_getElem hkl
      obtain ⟨x, hx⟩ : ∃ x, Q[k] = x := ⟨_, rfl⟩
      rw [hx] at hl
      obtain ⟨ad, rfl, d0, d1, ok⟩ := Pairs.at_ (elems_below HQ.out (bel_then hb1.out.1 S.out.2)) k x hl
      have HL := Aside.mk hl
      obtain ⟨⟨xa0, xa1⟩, xb0, xb1⟩ := ok
      have HP : Aside (pairB a b x = ((decide (PairR.a x = a) && decide (PairR.b x = b)) || (decide (PairR.a x = b) && decide (PairR.b x = a)))) := ⟨rfl⟩
      have HA : Aside ((Q.take (k + 1)).any (pairB a b) = ((Q.take k).any (pairB a b) || pairB a b x)) := ⟨by rw [take_snoc hl, List.any_append]; simp⟩
      have HY : Aside (pairB a b x = true → Q.any (pairB a b) = true) := ⟨fun h => List.any_eq_true.2 ⟨x, List.mem_of_getElem? hl, h⟩⟩
      generalize PairR.a x = xa at *
      generalize PairR.b x = xb at *
      generalize pairB a b x = px at *
      clear hl hx
      go_wp2_with fail
      go_quiet (fail)
      clear d0 d1
      go_wp2_with fail
      refine (K1.out _ (bel_then hb1.out.1 (below_then S.out.2 (below_drewN _ _)))).mono ?_
      rintro e w5 ⟨rfl, b5⟩
      have S5 := Aside.mk (below_then (below_then S.out.2 (below_drewN _ _)) b5)
      clear b5 g0 g1 g2 g3 g4
      cases b1
      · go_wp2_with fail
        go_roundg (Q.length - (k + 1))
        case measure => omega
        case rel => exact ⟨k + 1, by omega, rfl, by go_num, ⟨by simp, S5.out⟩⟩
      · obtain ⟨g0, g1, g2, g3, g4⟩ := box5 ((S5.out.block _ (lt_of_block hb1.out.2)).trans hb1.out.2)
        go_wp2_with fail
        refine (K2.out _ (bel_then hb1.out.1 S5.out)).mono ?_
        rintro e w6 ⟨rfl, b6⟩
        have S6 := Aside.mk (below_then S5.out b6)
        clear b6 g0 g1 g2 g3 g4
        cases b2
        · go_wp2_with fail
          go_roundg (Q.length - (k + 1))
          case measure => omega
          case rel => exact ⟨k + 1, by omega, rfl, by go_num, ⟨by simp, S6.out⟩⟩
        · obtain ⟨c1, e1⟩ : ∃ c, decide (xa = a) = c := ⟨_, rfl⟩
          obtain ⟨c2, e2⟩ : ∃ c, decide (xb = b) = c := ⟨_, rfl⟩
          obtain ⟨c3, e3⟩ : ∃ c, decide (xa = b) = c := ⟨_, rfl⟩
          obtain ⟨c4, e4⟩ : ∃ c, decide (xb = a) = c := ⟨_, rfl⟩
          have f1 : (xa == a) = c1 := by rw [← e1]; rfl
          have f2 : (xb == b) = c2 := by rw [← e2]; rfl
          have f3 : (xa == b) = c3 := by rw [← e3]; rfl
          have f4 : (xb == a) = c4 := by rw [← e4]; rfl
          rw [e1, e2, e3, e4] at HP
          clear e1 e2 e3 e4
          cases c1 <;> cases c2 <;> cases c3 <;> cases c4
          all_goals
            go_wp2_with fail
            first
              | (go_roundg (Q.length - (k + 1))
                 case measure => omega
                 case rel => exact ⟨k + 1, by omega, rfl, by go_num, ⟨fun h => by rw [HA.out, S.out.1 h, HP.out]; rfl, S6.out⟩⟩)
              | (go_ret
                 exact ⟨ret_bool (by rw [HY.out HP.out]; rfl), bel_then hb1.out.1 S6.out⟩)
    · obtain rfl : k = Q.length := by omega
      go_wp2_with fail
      go_ret
      refine ⟨ret_bool ?_, bel_then hb1.out.1 S.out.2⟩
      have := S.out.1
      rw [List.take_length] at this
      cases hbb : (b1 && b2) with
      | false => simp
      | true => rw [this hbb]; simp
end Go.Proofs.Ytflkfjjfhhapkaa
