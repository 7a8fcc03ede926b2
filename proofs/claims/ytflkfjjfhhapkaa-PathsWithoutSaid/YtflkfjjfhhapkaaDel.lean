/- Channels left out: slices.DeleteFunc, and Without. -/
import Derived.Test.YtflkfjjfhhapkaaCpy
import Derived.Test.YtflkfjjfhhapkaaPthG
namespace Go.Proofs.Ytflkfjjfhhapkaa
open Go.RowKit
set_option linter.unusedVariables false
set_option linter.unusedSimpArgs false

set_option maxHeartbeats 1600000 in
theorem idxc_any (w : World) (v : Value) (L : List ChanR) (hv : Chans w v L) (g : FuncId) (caps : Array Value) (hg : ∀ args w, (callFunc g args).run Try.prog w = .ok (.enter g args) w) (f : ChanR → Bool)
    (hf : ∀ x W, ChanR.Ok x → Below w.heap.size w W → Calls Try.prog g (#[ChanR.val x] ++ caps) W fun e W' => e = .returned (.bool (f x)) ∧ Below W.heap.size W W') :
    Calls Try.prog 39 #[v, .func (.func g) #[] caps] w fun e w' => e = .returned (.int .i64 (idxV f L)) ∧ Below w.heap.size w w' := by
  have HV := Aside.mk hv
  obtain ⟨a, cap, rfl, hlen⟩ := Elems.len hv
  have HF := Aside.mk hf
  clear hv hf
  go_enter Try.func39, Try.ntmps39
  go_wp2_with fail
  go_loopg [8] L.length (fun q i wr => ∃ k : Nat, k ≤ L.length ∧ q = L.length - k ∧ i = .int .i64 k ∧ Aside ((∀ j y, j < k → L[j]? = some y → f y = false) ∧ Below w.heap.size w wr))
  case atStart => exact ⟨0, by omega, rfl, rfl, ⟨by omega, Below.refl _ _⟩⟩
  case round =>
    obtain ⟨k, hk, rfl, rfl, S⟩ := hrel
    by_cases hkl : k < L.length
    · have hl := List.getElem?_eq_getElem hkl
      obtain ⟨x, hx⟩ : ∃ x, L[k] = x := ⟨_, rfl⟩
      rw [hx] at hl
      obtain ⟨ad, rfl, d0, d1, d2, d3, d4, d5, ok⟩ := Chans.at_ (elems_below HV.out S.out.2) k x hl
      have K := Aside.mk (HF.out x wr ok S.out.2)
      have HL := Aside.mk hl
      unfold ChanR.val at K
      obtain ⟨b, hb⟩ : ∃ b, f x = b := ⟨_, rfl⟩
      rw [hb] at K
      have HB := Aside.mk hb
      clear hl hx ok hb
      go_wp2_with fail
      refine K.out.mono ?_
      rintro e w5 ⟨rfl, b5⟩
      have B5 := Aside.mk (bel_then S.out.2 b5)
      clear b5 d0 d1 d2 d3 d4 d5
      cases b
      · go_wp2_with fail
        go_roundg (L.length - (k + 1))
        case measure => omega
        case rel => exact ⟨k + 1, by omega, rfl, by go_num, ⟨fun j y hj hy => by
          rcases Nat.lt_succ_iff_lt_or_eq.1 hj with q | rfl
          · exact S.out.1 j y q hy
          · rw [HL.out] at hy; injection hy with e; rw [← e]; exact HB.out, B5.out⟩⟩
      · go_wp2_with fail
        go_ret
        exact ⟨by rw [idx_at HL.out HB.out S.out.1]; rfl, B5.out⟩
    · obtain rfl : k = L.length := by omega
      go_wp2_with fail
      go_ret
      exact ⟨by rw [idx_no S.out.1]; rfl, S.out.2⟩

theorem callFunc_wo1 (args : Array Value) (w : World) : (callFunc 36 args).run Try.prog w = .ok (.enter 36 args) w := by kernel_rfl
/-- Is a channel left out? -/
def delB (n : Nat) (K : List Bool) (c : ChanR) : Bool := !rightB n c || !kn K (ChanR.t c)
set_option maxHeartbeats 1600000 in
theorem wo1_any (w : World) (P : Plan) (a0 : Option Addr) (c0 : Nat) (a1 : Option Addr) (c1 : Nat) (a2 : Option Addr) (c2 : Nat) (a3 : Option Addr) (c3 : Nat) (hv : PlanV w (.agg #[.int .u16 (Plan.frame P), .slice a0 (Plan.cores P).length c0, .slice a1 (Plan.parts P).length c1, .slice a2 (Plan.chans P).length c2, .slice a3 (Plan.pairs P).length c3]) P) (B X : Nat) (A : Option Addr) (c' : Nat) (K : List Bool) (hK : K.length = (Plan.parts P).length) (c : ChanR) (hc : ChanR.Ok c)
    (hB : w.heap[B]? = some (.cells #[.int .u16 (Plan.frame P), .slice a0 (Plan.cores P).length c0, .slice a1 (Plan.parts P).length c1, .slice a2 (Plan.chans P).length c2, .slice a3 (Plan.pairs P).length c3] 28 (0, 0))) (hX : w.heap[X]? = some (.cells #[.slice A K.length c'] 31 (0, 0))) (hR : Bools w (.slice A K.length c') K) :
    Calls Try.prog 36 #[ChanR.val c, .pointer (some ⟨B, 0, none⟩), .pointer (some ⟨X, 0, none⟩)] w fun e w' => e = .returned (.bool (delB (Plan.parts P).length K c)) ∧ Below w.heap.size w w' := by
  have HV := Aside.mk hv
  have HR := Aside.mk (And.intro hB (And.intro hX hR))
  obtain ⟨⟨kk0, kk1⟩, ⟨f0, f1⟩, ⟨t0, t1⟩, ⟨z0, z1⟩, ⟨d0, d1⟩, ⟨y0, y1⟩⟩ := hc
  have hc0 : ChanR.Ok c := ⟨⟨kk0, kk1⟩, ⟨f0, f1⟩, ⟨t0, t1⟩, ⟨z0, z1⟩, ⟨d0, d1⟩, ⟨y0, y1⟩⟩
  obtain ⟨W1, HW⟩ : ∃ W1, Aside (W1 = w.alloc (.cells #[.int .u8 (ChanR.k c), .int .u8 (ChanR.f c), .int .u8 (ChanR.t c), .int .u8 (ChanR.z c), .int .u8 (ChanR.d c), .int .u16 (ChanR.y c)] 44)) := ⟨_, ⟨rfl⟩⟩
  have T1 : Aside (Below w.heap.size w W1 ∧ W1.heap[w.heap.size]? = some (.cells #[.int .u8 (ChanR.k c), .int .u8 (ChanR.f c), .int .u8 (ChanR.t c), .int .u8 (ChanR.z c), .int .u8 (ChanR.d c), .int .u16 (ChanR.y c)] 44 (0, 0))) := ⟨by rw [HW.out]; exact ⟨bel_one _ _, heap_alloc_new _ _⟩⟩
  have KR := Aside.mk (right_any W1 _ P c hc0 (HV.out.below T1.out.1))
  obtain ⟨br, hbr⟩ : ∃ b, rightB (Plan.parts P).length c = b := ⟨_, rfl⟩
  obtain ⟨bt, hbt⟩ : ∃ b, kn K (ChanR.t c) = b := ⟨_, rfl⟩
  have HD : Aside (delB (Plan.parts P).length K c = (!br || !bt)) := ⟨by rw [delB, hbr, hbt]⟩
  have HBT := Aside.mk hbt
  rw [hbr] at KR
  have HBR := Aside.mk hbr
  unfold ChanR.val at KR ⊢
  rw [HD.out]
  obtain ⟨g0, g1, g2, g3, g4⟩ := box5 (hup T1.out.1 hB)
  have q0 : W1.cell? ⟨w.heap.size, 0, none⟩ = some (.int .u8 (ChanR.k c)) := by have := T1.out.2; simp [World.cell?, this]
  have q1 : W1.cell? ⟨w.heap.size, 1, none⟩ = some (.int .u8 (ChanR.f c)) := by have := T1.out.2; simp [World.cell?, this]
  have q2 : W1.cell? ⟨w.heap.size, 2, none⟩ = some (.int .u8 (ChanR.t c)) := by have := T1.out.2; simp [World.cell?, this]
  have q3 : W1.cell? ⟨w.heap.size, 3, none⟩ = some (.int .u8 (ChanR.z c)) := by have := T1.out.2; simp [World.cell?, this]
  have q4 : W1.cell? ⟨w.heap.size, 4, none⟩ = some (.int .u8 (ChanR.d c)) := by have := T1.out.2; simp [World.cell?, this]
  have q5 : W1.cell? ⟨w.heap.size, 5, none⟩ = some (.int .u16 (ChanR.y c)) := by have := T1.out.2; simp [World.cell?, this]
  clear hv hB hX hR hbr hbt hc0
  go_enter Try.func36, Try.ntmps36
  go_upto_region 1 with (fail)
  rw [← HW.out]
  go_wp2_with fail
  refine KR.out.mono ?_
  rintro e w2 ⟨rfl, b2⟩
  have B2 := Aside.mk (bel_then T1.out.1 b2)
  have T2 := Aside.mk (hup b2 T1.out.2)
  clear b2 q0 q1 q2 q3 q4 q5 g0 g1 g2 g3 g4
  cases br
  · go_wp2_with fail
    go_ret
    exact ⟨ret_bool (by simp), B2.out⟩
  · obtain ⟨_, h2⟩ := rightB_iff.1 HBR.out
    obtain ⟨tn, htn⟩ : ∃ tn : Nat, ChanR.t c = (tn : Int) := ⟨_, (Int.toNat_of_nonneg h2.1).symm⟩
    have q2 : w2.cell? ⟨w.heap.size, 2, none⟩ = some (.int .u8 (tn : Int)) := by have := T2.out; rw [← htn]; simp [World.cell?, this]
    have x0 := cell_of_one (hup B2.out HR.out.2.1)
    have htl : tn < K.length := by rw [hK]; omega
    obtain ⟨ad, c2', e1, r1⟩ := (HR.out.2.2.below B2.out).at_ tn htl
    injection e1 with e1 e2 e3
    subst e1
    have hk : K.getD tn false = bt := by rw [← HBT.out, kn, htn, Int.toNat_natCast]
    rw [hk] at r1
    have hti : (tn : Int) < (K.length : Int) := by omega
    rw [htn] at t0 t1
    clear hk e2 e3 h2 htn htl
    go_wp2_with fail
    go_ret
    exact ⟨ret_bool (by simp), B2.out⟩

/-! ### DeleteFunc -/
theorem flat_len (R : List ChanR) : (R.flatMap ChanR.vals).length = R.length * 6 := flatMap_len' ChanR.vals R (fun _ _ => rfl)
theorem set_app {α : Type} (a : List α) (c : List α) (i j : Nat) (h : a.length = i) (x : α) : (a ++ c).set (i + j) x = a ++ c.set j x := by
  rw [List.set_append_right _ _ (by omega), h, Nat.add_sub_cancel_left]
theorem flat_set (R : List ChanR) (i : Nat) (x : ChanR) (hi : i < R.length) :
    ((((((R.flatMap ChanR.vals).set (i * 6) (.int .u8 (ChanR.k x))).set (i * 6 + 1) (.int .u8 (ChanR.f x))).set (i * 6 + 2) (.int .u8 (ChanR.t x))).set (i * 6 + 3) (.int .u8 (ChanR.z x))).set (i * 6 + 4) (.int .u8 (ChanR.d x))).set (i * 6 + 5) (.int .u16 (ChanR.y x)) = (R.set i x).flatMap ChanR.vals := by
  have e1 : R = R.take i ++ R[i] :: R.drop (i + 1) := by rw [← List.drop_eq_getElem_cons hi, List.take_append_drop]
  have e2 : R.set i x = R.take i ++ x :: R.drop (i + 1) := by rw [List.set_eq_take_append_cons_drop, if_pos hi]
  have hl : ((R.take i).flatMap ChanR.vals).length = i * 6 := by rw [flat_len, List.length_take, Nat.min_eq_left (by omega)]
  rw [e2]
  conv => lhs; rw [e1]
  rw [List.flatMap_append, List.flatMap_append, List.flatMap_cons, List.flatMap_cons]
  have s0 : ∀ (c : List Value) (u : Value), ((R.take i).flatMap ChanR.vals ++ c).set (i * 6) u = (R.take i).flatMap ChanR.vals ++ c.set 0 u := fun c u => by have := set_app _ c (i * 6) 0 hl u; simpa using this
  rw [s0, set_app _ _ _ _ hl, set_app _ _ _ _ hl, set_app _ _ _ _ hl, set_app _ _ _ _ hl, set_app _ _ _ _ hl]
  rfl
/-- What DeleteFunc has done up to a place. -/
structure DlSt (w : World) (base g n cap : Nat) (f : ChanR → Bool) (L : List ChanR) (i j : Nat) (R : List ChanR) (a : World) : Prop where
  kept : Kept (fun k => k = g) w a
  row : a.ownsRow base 44 6 (.slice (some ⟨g, 0, none⟩) n cap) n (R.flatMap ChanR.vals)
  len : R.length = n
  head : R.take i = (L.take j).filter fun c => !f c
  tail : R.drop j = L.drop j
  lt : i < j
  ok : ∀ c ∈ R, ChanR.Ok c
theorem DlSt.old {w a b : World} {base g n cap : Nat} {f : ChanR → Bool} {L : List ChanR} {i j : Nat} {R : List ChanR} (s : DlSt w base g n cap f L i j R a) (k : Below a.heap.size a b) : DlSt w base g n cap f L i j R b :=
  ⟨s.kept.trans (Kept.of_below k), own_below s.row k, s.len, s.head, s.tail, s.lt, s.ok⟩
theorem DlSt.skip {w a : World} {base g n cap : Nat} {f : ChanR → Bool} {L : List ChanR} {i j : Nat} {R : List ChanR} {x : ChanR} (s : DlSt w base g n cap f L i j R a) (hx : L[j]? = some x) (hf : f x = true) : DlSt w base g n cap f L i (j + 1) R a := by
  refine ⟨s.kept, s.row, s.len, ?_, ?_, by have := s.lt; omega, s.ok⟩
  · rw [s.head, take_snoc hx, List.filter_append]; simp [hf]
  · rw [← List.drop_drop, s.tail, List.drop_drop]
theorem DlSt.put {w a b : World} {base g n cap : Nat} {f : ChanR → Bool} {L : List ChanR} {i j : Nat} {R : List ChanR} {x : ChanR} (s : DlSt w base g n cap f L i j R a) (hjn : j < n) (hx : L[j]? = some x) (hf : f x = false) (ok : ChanR.Ok x)
    (hk : Kept (fun k => k = g) a b) (hrow : b.ownsRow base 44 6 (.slice (some ⟨g, 0, none⟩) n cap) n ((R.set i x).flatMap ChanR.vals)) : DlSt w base g n cap f L (i + 1) (j + 1) (R.set i x) b := by
  have hlt := s.lt
  have hl := s.len
  refine ⟨s.kept.trans hk, hrow, by simpa using s.len, ?_, ?_, by omega, fun c hc => ?_⟩
  · have : (R.set i x).take (i + 1) = R.take i ++ [x] := by
      rw [List.take_set, List.take_succ_eq_append_getElem (by omega), List.set_append_right _ _ (by rw [List.length_take]; omega), List.length_take, Nat.min_eq_left (by omega), Nat.sub_self]
      rfl
    rw [this, s.head, take_snoc hx, List.filter_append]; simp [hf]
  · rw [List.drop_set_of_lt (by omega), ← List.drop_drop, s.tail, List.drop_drop]
  · rcases List.mem_or_eq_of_mem_set hc with q | rfl
    · exact s.ok c q
    · exact ok
theorem own_set6 {a : World} {base g n cap : Nat} {R : List ChanR} (h : a.ownsRow base 44 6 (.slice (some ⟨g, 0, none⟩) n cap) n (R.flatMap ChanR.vals)) (i : Nat) (x : ChanR) (hi : i < R.length) :
    ((((((a.setCell ⟨g, i * 6, none⟩ (.int .u8 (ChanR.k x))).setCell ⟨g, i * 6 + 1, none⟩ (.int .u8 (ChanR.f x))).setCell ⟨g, i * 6 + 2, none⟩ (.int .u8 (ChanR.t x))).setCell ⟨g, i * 6 + 3, none⟩ (.int .u8 (ChanR.z x))).setCell ⟨g, i * 6 + 4, none⟩ (.int .u8 (ChanR.d x))).setCell ⟨g, i * 6 + 5, none⟩ (.int .u16 (ChanR.y x))).ownsRow base 44 6 (.slice (some ⟨g, 0, none⟩) n cap) n ((R.set i x).flatMap ChanR.vals) := by
  rw [← flat_set R i x hi]
  exact ((((((h.stored (i * 6) (.int .u8 (ChanR.k x))).1.stored (i * 6 + 1) (.int .u8 (ChanR.f x))).1.stored (i * 6 + 2) (.int .u8 (ChanR.t x))).1.stored (i * 6 + 3) (.int .u8 (ChanR.z x))).1.stored (i * 6 + 4) (.int .u8 (ChanR.d x))).1.stored (i * 6 + 5) (.int .u16 (ChanR.y x))).1
theorem zero_chan (W : World) : (zeroValue 44).run Try.prog W = .ok (.agg #[.int .u8 0, .int .u8 0, .int .u8 0, .int .u8 0, .int .u8 0, .int .u16 0]) W := by kernel_rfl
theorem clear_any {a : World} {base g n cap i : Nat} {R : List ChanR} (h : a.ownsRow base 44 6 (.slice (some ⟨g, 0, none⟩) n cap) n (R.flatMap ChanR.vals)) (hl : R.length = n) (hi : i < n) :
    ∃ b, (∀ ty, (Builtin.clear_ #[25] ty #[.slice (some ⟨g, i * 6, none⟩) (n - i) (cap - i)]).run Try.prog a = .ok (.tuple #[]) b) ∧ Kept (fun k => k = g) a b ∧ b.ownsRow base 44 6 (.slice (some ⟨g, 0, none⟩) i cap) i ((R.take i).flatMap ChanR.vals) := by
  rcases h.2 with ⟨h', _⟩ | ⟨g', cap', cur, h', hb, hg, hnc, hcm, hcs, htake⟩
  · simp at h'
  · simp only [Value.slice.injEq, Option.some.injEq, Addr.mk.injEq, and_true, true_and] at h'
    obtain ⟨rfl, rfl⟩ := h'
    obtain ⟨m, hm⟩ : ∃ m, n - i = m + 1 := ⟨n - i - 1, by omega⟩
    have hz : (Builtin.zeroCells (Value.agg #[.int .u8 0, .int .u8 0, .int .u8 0, .int .u8 0, .int .u8 0, .int .u16 0]).cells (m + 1)).size = (m + 1) * 6 := size_zeroCells _ _
    have h1 : ∀ v ∈ (Builtin.zeroCells (Value.agg #[.int .u8 0, .int .u8 0, .int .u8 0, .int .u8 0, .int .u8 0, .int .u16 0]).cells (m + 1)).toList, v.oneCell' = true := by
      intro v hv
      obtain ⟨k, hk, rfl⟩ := List.getElem_of_mem hv
      have h6 : k % 6 < 6 := Nat.mod_lt _ (by decide)
      have h7 : k % 6 = 0 ∨ k % 6 = 1 ∨ k % 6 = 2 ∨ k % 6 = 3 ∨ k % 6 = 4 ∨ k % 6 = 5 := by omega
      simp only [Builtin.zeroCells, Value.cells, Array.getElem_toList]
      rcases h7 with e | e | e | e | e | e <;> simp [e, Value.oneCell']
    have hst := run_storeCells_at Try.prog g (i * 6) 44 (Builtin.zeroCells (Value.agg #[.int .u8 0, .int .u8 0, .int .u8 0, .int .u8 0, .int .u8 0, .int .u16 0]).cells (m + 1)).toList 0 cur a hg (by simp only [Array.length_toList, hz, hcs]; omega) h1
    refine ⟨a.setRow g (cur.toList.take (i * 6 + 0) ++ (Builtin.zeroCells (Value.agg #[.int .u8 0, .int .u8 0, .int .u8 0, .int .u8 0, .int .u8 0, .int .u16 0]).cells (m + 1)).toList ++ cur.toList.drop (i * 6 + 0 + (Builtin.zeroCells (Value.agg #[.int .u8 0, .int .u8 0, .int .u8 0, .int .u8 0, .int .u8 0, .int .u16 0]).cells (m + 1)).toList.length)).toArray, fun ty => ?_, ?_, ?_⟩
    · rw [hm]
      have hst' := hst
      simp only [Value.cells] at hst'
      simp [Builtin.clear_, run_underlying Try.underlying25, zero_chan, hst', Value.cells]
    · exact ⟨rfl, rfl, rfl, by simp, fun k _ hn => setRow_other a g k _ hn⟩
    · refine ⟨by rw [flat_len, List.length_take, Nat.min_eq_left (by omega)], .inr ⟨g, cap, _, rfl, hb, setRow_heap a g _ _ _ _ hg, by omega, hcm, ?_, ?_⟩⟩
      · simp only [List.size_toArray, List.length_append, List.length_take, List.length_drop, Array.length_toList, hz, hcs, Nat.add_zero]
        omega
      · have e1 : cur.toList.take (i * 6) = (R.take i).flatMap ChanR.vals := by
          have e2 : (R.flatMap ChanR.vals).take (i * 6) = (R.take i).flatMap ChanR.vals := by
            conv => lhs; rw [← List.take_append_drop i R, List.flatMap_append]
            rw [List.take_left' (by rw [flat_len, List.length_take, Nat.min_eq_left (by omega)])]
          rw [← e2, ← htake, List.take_take, Nat.min_eq_left (by omega)]
        simp only [Nat.add_zero, List.append_assoc]
        rw [List.take_left' (by rw [List.length_take, Array.length_toList, hcs]; omega)]
        exact e1
theorem set6_kept (a : World) (g i : Nat) (v0 v1 v2 v3 v4 v5 : Value) : Kept (fun k => k = g) a ((((((a.setCell ⟨g, i * 6, none⟩ v0).setCell ⟨g, i * 6 + 1, none⟩ v1).setCell ⟨g, i * 6 + 2, none⟩ v2).setCell ⟨g, i * 6 + 3, none⟩ v3).setCell ⟨g, i * 6 + 4, none⟩ v4).setCell ⟨g, i * 6 + 5, none⟩ v5) :=
  ((((((Kept.refl (fun k => k = g) a).setCell (p := ⟨g, i * 6, none⟩) (.inl rfl) v0).setCell (p := ⟨g, i * 6 + 1, none⟩) (.inl rfl) v1).setCell (p := ⟨g, i * 6 + 2, none⟩) (.inl rfl) v2).setCell (p := ⟨g, i * 6 + 3, none⟩) (.inl rfl) v3).setCell (p := ⟨g, i * 6 + 4, none⟩) (.inl rfl) v4).setCell (p := ⟨g, i * 6 + 5, none⟩) (.inl rfl) v5
theorem wf_u8 {z : Int} (h : 0 ≤ z ∧ z ≤ 255) : (Lit.int .u8 z).wf = true := by simp [Lit.wf, IntKind.min, IntKind.max, IntKind.signed, IntKind.bits]; omega
theorem wf_u16 {z : Int} (h : 0 ≤ z ∧ z ≤ 65535) : (Lit.int .u16 z).wf = true := by simp [Lit.wf, IntKind.min, IntKind.max, IntKind.signed, IntKind.bits]; omega
theorem chan_of_vals {w : World} {c : ChanR} (ok : ChanR.Ok c) : rd44.R w (ChanR.vals c) c := by
  obtain ⟨k, f, t, z, d, y, u⟩ := c
  obtain ⟨h1, h2, h3, h4, h5, h6⟩ := ok
  exact ⟨[.int .u8 k], _, rfl, ⟨rfl, wf_u8 h1⟩, [.int .u8 f], _, rfl, ⟨rfl, wf_u8 h2⟩, [.int .u8 t], _, rfl, ⟨rfl, wf_u8 h3⟩, [.int .u8 z], _, rfl, ⟨rfl, wf_u8 h4⟩, [.int .u8 d], _, rfl, ⟨rfl, wf_u8 h5⟩, [.int .u16 y], _, rfl, ⟨rfl, wf_u16 h6⟩, rfl⟩
theorem idx_cases {α : Type} (f : α → Bool) (L : List α) : (idxV f L = -1 ∧ L.filter (fun c => !f c) = L) ∨ ∃ (k : Nat) (x : α), L[k]? = some x ∧ f x = true ∧ idxV f L = (k : Int) ∧ (L.take k).filter (fun c => !f c) = L.take k := by
  unfold idxV
  cases h : L.findIdx? f with
  | none =>
    rw [List.findIdx?_eq_none_iff] at h
    exact .inl ⟨rfl, List.filter_eq_self.2 (fun x hx => by rw [h x hx]; rfl)⟩
  | some i =>
    obtain ⟨hi, hf, hn⟩ := List.findIdx?_eq_some_iff_getElem.1 h
    refine .inr ⟨i, L[i], List.getElem?_eq_getElem hi, hf, rfl, List.filter_eq_self.2 (fun x hx => ?_)⟩
    obtain ⟨j, hj, rfl⟩ := List.getElem_of_mem hx
    rw [List.length_take] at hj
    have := hn j (by omega)
    rw [List.getElem_take]
    simp at this
    simp [this]
def DelP (w : World) (L : List ChanR) (S : Nat → Prop) (e : Ending) (w' : World) : Prop := ∃ A m c, e = .returned (.slice A m c) ∧ Chans w' (.slice A m c) L ∧ L.length = m ∧ Kept S w w' ∧ (L = [] ∨ ∃ base, w'.ownsRow base 44 6 (.slice A m c) m (L.flatMap ChanR.vals))
set_option maxHeartbeats 6400000 in
set_option maxRecDepth 100000 in
theorem del_any (w : World) (base g n cap : Nat) (L : List ChanR) (HO : w.ownsRow base 44 6 (.slice (some ⟨g, 0, none⟩) n cap) n (L.flatMap ChanR.vals)) (hv : Chans w (.slice (some ⟨g, 0, none⟩) n cap) L) (hn : L.length = n) (h63 : n ≤ 1000000)
    (gf : FuncId) (caps : Array Value) (hg : ∀ args w, (callFunc gf args).run Try.prog w = .ok (.enter gf args) w) (f : ChanR → Bool)
    (hf : ∀ x W, ChanR.Ok x → Kept (fun k => k = g) w W → Calls Try.prog gf (#[ChanR.val x] ++ caps) W fun e W' => e = .returned (.bool (f x)) ∧ Below W.heap.size W W') :
    Calls Try.prog 35 #[.slice (some ⟨g, 0, none⟩) n cap, .func (.func gf) #[] caps] w (DelP w (L.filter fun c => !f c) (fun k => k = g)) := by
  have K1 := Aside.mk (idxc_any w _ L hv gf caps hg f (fun x W ok h => hf x W ok (Kept.of_below h)))
  have HV := Aside.mk hv
  have HOw := Aside.mk HO
  have HF := Aside.mk hf
  have hnc : n ≤ cap := by
    rcases HO.2 with ⟨h', _⟩ | ⟨g', cap', cur, h', hb, hg', hnc, _⟩
    · simp at h'
    · simp only [Value.slice.injEq, Option.some.injEq, Addr.mk.injEq, and_true, true_and] at h'
      obtain ⟨rfl, rfl⟩ := h'
      exact hnc
  have hcap : cap ≤ 9223372036854775807 := by
    rcases HO.2 with ⟨h', _⟩ | ⟨g', cap', cur, h', hb, hg', hnc, hcm, _⟩
    · simp at h'
    · simp only [Value.slice.injEq, Option.some.injEq, Addr.mk.injEq, and_true, true_and] at h'
      obtain ⟨rfl, rfl⟩ := h'
      simpa [maxLen] using hcm
  have okL : Aside (∀ c ∈ L, ChanR.Ok c) := ⟨fun c hc => by
    obtain ⟨i, hi, rfl⟩ := List.getElem_of_mem hc
    obtain ⟨_, _, _, _, _, _, _, _, ok⟩ := hv.at_ i _ (List.getElem?_eq_getElem hi)
    exact ok⟩
  have HN := Aside.mk hn
  rcases idx_cases f L with ⟨h1, h2⟩ | ⟨k, x, hk, hfx, h1, h2⟩
  · rw [h1] at K1
    have H2 := Aside.mk h2
    clear hv HO hf h1 h2 hn
    go_enter Try.func35, Try.ntmps35
    go_wp2_with fail
    refine K1.out.mono ?_
    rintro e w2 ⟨rfl, b2⟩
    have B2 := Aside.mk b2
    clear b2
    go_wp2_with fail
    go_ret
    exact ⟨_, _, _, rfl, by rw [H2.out]; exact elems_below HV.out B2.out, by rw [H2.out]; exact HN.out, Kept.of_below B2.out, by rw [H2.out]; exact .inr ⟨_, own_below HOw.out B2.out⟩⟩
  · rw [h1] at K1
    have hkn : k < n := by have := (List.getElem?_eq_some_iff.1 hk).1; omega
    have D0 : Aside (∀ w2, Below w.heap.size w w2 → DlSt w base g n cap f L k (k + 1) L w2) := ⟨fun w2 b => ⟨Kept.of_below b, own_below HO b, hn, by rw [take_snoc hk, List.filter_append, h2]; simp [hfx], rfl, by omega, okL.out⟩⟩
    have hkb : ((k : Int) == -1) = false := by simp
    clear hv HO hf h1 h2 hn hk hfx
    go_enter Try.func35, Try.ntmps35
    go_wp2_with fail
    refine K1.out.mono ?_
    rintro e w2 ⟨rfl, b2⟩
    have D2 := Aside.mk (D0.out w2 b2)
    clear b2
    go_wp2_with fail
    go_loopg [5, 6] (n - (k + 1)) (fun q s5 s6 wr => ∃ (i j : Nat), j ≤ n ∧ q = n - j ∧ s5 = .int .i64 i ∧ s6 = .int .i64 j ∧ Aside (∃ R, DlSt w base g n cap f L i j R wr))
    case atStart => exact ⟨k, k + 1, by omega, rfl, rfl, by go_num, ⟨L, D2.out⟩⟩
    case round =>
      obtain ⟨i, j, hj, rfl, rfl, rfl, ⟨R, S⟩⟩ := hrel
      have S := Aside.mk S
      have hij := S.out.lt
      have hin : i < n := by omega
      have HL := S.out.len
      have hAdd : ∀ q : Nat, (⟨g, 0, none⟩ : Addr).add q = ⟨g, q, none⟩ := fun q => by rw [Addr.add_lit, Nat.zero_add]
      have CELL : Aside (∀ (W : World), W.ownsRow base 44 6 (.slice (some ⟨g, 0, none⟩) n cap) n (R.flatMap ChanR.vals) → ∀ (p : Nat) (c : ChanR), R[p]? = some c → W.cell? ⟨g, p * 6, none⟩ = some (.int .u8 (ChanR.k c)) ∧ W.cell? ⟨g, p * 6 + 1, none⟩ = some (.int .u8 (ChanR.f c)) ∧ W.cell? ⟨g, p * 6 + 2, none⟩ = some (.int .u8 (ChanR.t c)) ∧ W.cell? ⟨g, p * 6 + 3, none⟩ = some (.int .u8 (ChanR.z c)) ∧ W.cell? ⟨g, p * 6 + 4, none⟩ = some (.int .u8 (ChanR.d c)) ∧ W.cell? ⟨g, p * 6 + 5, none⟩ = some (.int .u16 (ChanR.y c))) := ⟨fun W h p c hc => by
        obtain ⟨hp, e⟩ := List.getElem?_eq_some_iff.1 hc
        have G : ∀ q u, q < 6 → (ChanR.vals c)[q]? = some u → W.cell? ⟨g, p * 6 + q, none⟩ = some u := fun q u hq hu => by
          have := h.cells (g := g) rfl (p * 6 + q) u (by rw [flatMap_get' ChanR.vals R (fun _ _ => rfl) p hp q hq, e]; exact hu)
          rwa [hAdd] at this
        exact ⟨G 0 _ (by omega) rfl, G 1 _ (by omega) rfl, G 2 _ (by omega) rfl, G 3 _ (by omega) rfl, G 4 _ (by omega) rfl, G 5 _ (by omega) rfl⟩⟩
      have FREE : Aside (∀ (W : World), W.ownsRow base 44 6 (.slice (some ⟨g, 0, none⟩) n cap) n (R.flatMap ChanR.vals) → g < W.heap.size ∧ ∀ q, W.frozen? ⟨g, q, none⟩ = false) := ⟨fun W h => by
        refine ⟨own_lt h g rfl, fun q => ?_⟩
        rcases h.2 with ⟨h', _⟩ | ⟨g', cap', cur, h', hb, hg', _⟩
        · simp at h'
        · simp only [Value.slice.injEq, Option.some.injEq, Addr.mk.injEq, and_true, true_and] at h'
          obtain ⟨rfl, rfl⟩ := h'
          simp [World.frozen?, hg']⟩
      by_cases hjn : j < n
      · have hlj : j < L.length := by have := HN.out; omega
        obtain ⟨c, hc⟩ : ∃ c, L[j]? = some c := ⟨_, List.getElem?_eq_getElem hlj⟩
        have hRj : R[j]? = some c := by
          have h1 : (R.drop j)[0]? = (L.drop j)[0]? := by rw [S.out.tail]
          simpa [List.getElem?_drop, hc] using h1
        obtain ⟨d0, d1, d2, d3, d4, d5⟩ := CELL.out wr S.out.row j c hRj
        have okc : ChanR.Ok c := okL.out c (List.mem_of_getElem? hc)
        have OKC := Aside.mk okc
        have HC := Aside.mk hc
        have hjc : (j : Int) < (n : Int) := by omega
        have hic : (i : Int) < (n : Int) := by omega
        obtain ⟨W4, HW4⟩ : ∃ W4, Aside (W4 = wr.alloc (.cells #[.int .u8 (ChanR.k c), .int .u8 (ChanR.f c), .int .u8 (ChanR.t c), .int .u8 (ChanR.z c), .int .u8 (ChanR.d c), .int .u16 (ChanR.y c)] 44)) := ⟨_, ⟨rfl⟩⟩
        have S4 : Aside (DlSt w base g n cap f L i j R W4 ∧ W4.heap[wr.heap.size]? = some (.cells #[.int .u8 (ChanR.k c), .int .u8 (ChanR.f c), .int .u8 (ChanR.t c), .int .u8 (ChanR.z c), .int .u8 (ChanR.d c), .int .u16 (ChanR.y c)] 44 (0, 0))) := ⟨by
          rw [HW4.out]; exact ⟨S.out.old (bel_one _ _), heap_alloc_new _ _⟩⟩
        have hgw : g < wr.heap.size := (FREE.out wr S.out.row).1
        clear hc hRj okc
        go_upto_region 8 with (fail)
        rw [← HW4.out]
        clear d0 d1 d2 d3 d4 d5
        have q0 : W4.cell? ⟨wr.heap.size, 0, none⟩ = some (.int .u8 (ChanR.k c)) := by have := S4.out.2; simp [World.cell?, this]
        have q1 : W4.cell? ⟨wr.heap.size, 1, none⟩ = some (.int .u8 (ChanR.f c)) := by have := S4.out.2; simp [World.cell?, this]
        have q2 : W4.cell? ⟨wr.heap.size, 2, none⟩ = some (.int .u8 (ChanR.t c)) := by have := S4.out.2; simp [World.cell?, this]
        have q3 : W4.cell? ⟨wr.heap.size, 3, none⟩ = some (.int .u8 (ChanR.z c)) := by have := S4.out.2; simp [World.cell?, this]
        have q4 : W4.cell? ⟨wr.heap.size, 4, none⟩ = some (.int .u8 (ChanR.d c)) := by have := S4.out.2; simp [World.cell?, this]
        have q5 : W4.cell? ⟨wr.heap.size, 5, none⟩ = some (.int .u16 (ChanR.y c)) := by have := S4.out.2; simp [World.cell?, this]
        have KC := Aside.mk (HF.out c W4 OKC.out S4.out.1.kept)
        unfold ChanR.val at KC
        obtain ⟨b, hb⟩ : ∃ b, f c = b := ⟨_, rfl⟩
        rw [hb] at KC
        have HB := Aside.mk hb
        clear hb
        go_wp2_with fail
        refine KC.out.mono ?_
        rintro e w5 ⟨rfl, b5⟩
        have S5 := Aside.mk (And.intro (S4.out.1.old b5) (hup b5 S4.out.2))
        clear b5 q0 q1 q2 q3 q4 q5
        cases b
        · have q0 : w5.cell? ⟨wr.heap.size, 0, none⟩ = some (.int .u8 (ChanR.k c)) := by have := S5.out.2; simp [World.cell?, this]
          have q1 : w5.cell? ⟨wr.heap.size, 1, none⟩ = some (.int .u8 (ChanR.f c)) := by have := S5.out.2; simp [World.cell?, this]
          have q2 : w5.cell? ⟨wr.heap.size, 2, none⟩ = some (.int .u8 (ChanR.t c)) := by have := S5.out.2; simp [World.cell?, this]
          have q3 : w5.cell? ⟨wr.heap.size, 3, none⟩ = some (.int .u8 (ChanR.z c)) := by have := S5.out.2; simp [World.cell?, this]
          have q4 : w5.cell? ⟨wr.heap.size, 4, none⟩ = some (.int .u8 (ChanR.d c)) := by have := S5.out.2; simp [World.cell?, this]
          have q5 : w5.cell? ⟨wr.heap.size, 5, none⟩ = some (.int .u16 (ChanR.y c)) := by have := S5.out.2; simp [World.cell?, this]
          obtain ⟨e0, he0⟩ : ∃ r, R[i]? = some r := ⟨_, List.getElem?_eq_getElem (by omega)⟩
          obtain ⟨x0, x1, x2, x3, x4, x5⟩ := CELL.out w5 S5.out.1.row i e0 he0
          have fr := (FREE.out w5 S5.out.1.row).2
          have z0 := fr (i * 6)
          have z1 := fr (i * 6 + 1)
          have z2 := fr (i * 6 + 2)
          have z3 := fr (i * 6 + 3)
          have z4 := fr (i * 6 + 4)
          have z5 := fr (i * 6 + 5)
          have PUT := Aside.mk (fun b hk hrow => S5.out.1.put (b := b) hjn HC.out HB.out OKC.out hk hrow)
          have OW := Aside.mk (own_set6 S5.out.1.row i c (by omega))
          clear he0 fr
          go_wp2_with fail
          go_roundg (n - (j + 1))
          case measure => omega
          case rel => exact ⟨i + 1, j + 1, by omega, rfl, by go_num, by go_num, ⟨R.set i c, PUT.out _ (set6_kept _ _ _ _ _ _ _ _ _) OW.out⟩⟩
        · go_wp2_with fail
          go_roundg (n - (j + 1))
          case measure => omega
          case rel => exact ⟨i, j + 1, by omega, rfl, rfl, by go_num, ⟨R, S5.out.1.skip HC.out HB.out⟩⟩
      · obtain rfl : j = n := by omega
        obtain ⟨w9, hcl, k9, o9⟩ := clear_any S.out.row HL hin
        have R9 := Aside.mk (And.intro k9 o9)
        have hic : (i : Int) ≤ (j : Int) := by omega
        have hic2 : (i : Int) ≤ (cap : Int) := by omega
        clear k9 o9
        go_wp2_with fail
        go_ret
        have hfl : R.take i = L.filter fun c => !f c := by rw [S.out.head, ← HN.out, List.take_length]
        have hti : (R.take i).length = i := by rw [List.length_take]; omega
        have o9 := R9.out.2
        refine ⟨_, _, _, rfl, ?_, by rw [← hfl]; exact hti, S.out.kept.trans R9.out.1, by rw [← hfl]; exact .inr ⟨_, o9⟩⟩
        rw [← hfl]
        refine elems_own ChanR.vals (by decide) (by rw [hti]; exact o9) (fun c hc => ⟨chan_of_vals (S.out.ok c (List.mem_of_mem_take hc)), rfl⟩)
end Go.Proofs.Ytflkfjjfhhapkaa
