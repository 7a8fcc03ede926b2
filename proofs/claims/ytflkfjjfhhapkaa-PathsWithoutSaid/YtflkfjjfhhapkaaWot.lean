/- Paths: Without. -/
import Derived.Test.YtflkfjjfhhapkaaDel
namespace Go.Proofs.Ytflkfjjfhhapkaa
open Go.RowKit
set_option linter.unusedVariables false
set_option linter.unusedSimpArgs false

/-- A plan with other channels. -/
def Plan.withC (P : Plan) (H : List ChanR) : Plan := (Plan.frame P, Plan.cores P, Plan.parts P, H, Plan.pairs P, ())
def emptyP : Plan := (0, [], [], [], [], ())
def NoW (w : World) (e : Ending) (w' : World) : Prop := e = .returned (.tuple #[.agg #[.int .u16 0, .slice none 0 0, .slice none 0 0, .slice none 0 0, .slice none 0 0], .int .i64 70]) ∧ Below w.heap.size w w'
def SomeW (w : World) (P : Plan) (e : Ending) (w' : World) : Prop := ∃ v, e = .returned (.tuple #[v, .int .i64 0]) ∧ PlanV w' v P ∧ Below w.heap.size w w'

set_option maxHeartbeats 1600000 in
theorem del_nil (w : World) (A : Option Addr) (c : Nat) (hc : c ≤ 9223372036854775807) (gf : FuncId) (caps : Array Value) (hg : ∀ args w, (callFunc gf args).run Try.prog w = .ok (.enter gf args) w) :
    Calls Try.prog 35 #[.slice A 0 c, .func (.func gf) #[] caps] w (DelP w [] (fun _ => False)) := by
  have KI : Calls Try.prog 39 #[.slice A 0 c, .func (.func gf) #[] caps] w fun e w' => e = .returned (.int .i64 (-1)) ∧ w = w' := by
    go_enter Try.func39, Try.ntmps39
    go_wp2_with fail
    go_loopg [8] 0 (fun q i wr => i = .int .i64 ((0 : Nat) : Int) ∧ w = wr)
    case atStart => exact ⟨by go_num, rfl⟩
    case round =>
      obtain ⟨rfl, rfl⟩ := hrel
      go_wp2_with fail
      go_ret
      exact ⟨rfl, rfl⟩
  have KI := Aside.mk KI
  go_enter Try.func35, Try.ntmps35
  go_wp2_with fail
  refine KI.out.mono ?_
  rintro e w2 ⟨rfl, rfl⟩
  go_wp2_with fail
  go_ret
  exact ⟨_, _, _, rfl, ⟨A, c, rfl, by simp, hc, by simp⟩, rfl, Kept.refl _ _, .inl rfl⟩
set_option maxHeartbeats 1600000 in
theorem without_out (w : World) (v : Value) (P : Plan) (p : Int) (hv : PlanV w v P) (hq : inB (Plan.parts P).length p = false) :
    Calls Try.prog 24 #[v, .int .i64 p] w (NoW w) := by
  have HV := Aside.mk hv
  obtain ⟨a0, c0, a1, c1, a2, c2, a3, c3, rfl, hp, hlen⟩ := hv.open_
  have K1 : Aside (∀ W, Below w.heap.size w W → Calls Try.prog 12 #[.agg #[.int .u16 (Plan.frame P), .slice a0 (Plan.cores P).length c0, .slice a1 (Plan.parts P).length c1, .slice a2 (Plan.chans P).length c2, .slice a3 (Plan.pairs P).length c3], .int .i64 p] W (NoB W)) := ⟨fun W h => into_out W _ P p (HV.out.below h) hq⟩
  obtain ⟨W1, HW⟩ : ∃ W1, Aside (W1 = (w.alloc (.cells #[.int .u16 (Plan.frame P), .slice a0 (Plan.cores P).length c0, .slice a1 (Plan.parts P).length c1, .slice a2 (Plan.chans P).length c2, .slice a3 (Plan.pairs P).length c3] 28)).alloc (.cells #[.int .u16 0, .slice none 0 0, .slice none 0 0, .slice none 0 0, .slice none 0 0] 28)) := ⟨_, ⟨rfl⟩⟩
  have hb1 : Aside (Below w.heap.size w W1 ∧ W1.heap[w.heap.size + 1]? = some (.cells #[.int .u16 0, .slice none 0 0, .slice none 0 0, .slice none 0 0, .slice none 0 0] 28 (0, 0))) := ⟨by
    rw [HW.out]; exact ⟨bel_two _ _ _, heap_top _ _ _ (by simp)⟩⟩
  clear hp hv
  go_enter Try.func24, Try.ntmps24
  go_wp2_with fail
  rw [← HW.out]
  refine (K1.out _ hb1.out.1).mono ?_
  rintro e w2 ⟨rfl, b2⟩
  have B2 := Aside.mk (bel_then hb1.out.1 b2)
  have Y2 := Aside.mk (hup b2 hb1.out.2)
  obtain ⟨y0, y1, y2, y3, y4, f0, f1, f2, f3, f4⟩ := boxz Y2.out
  have hlt : w.heap.size + 1 < w2.heap.size := lt_of_block Y2.out
  clear b2 y0 y1 y2 y3 y4 f0 f1 f2 f3 f4 hlt
  obtain ⟨W3, HW3⟩ : ∃ W3, Aside (W3 = w2.alloc (.cells #[.slice none 0 0] 31)) := ⟨_, ⟨rfl⟩⟩
  have T3 : Aside (Below w.heap.size w W3 ∧ W3.heap[w.heap.size + 1]? = some (.cells #[.int .u16 0, .slice none 0 0, .slice none 0 0, .slice none 0 0, .slice none 0 0] 28 (0, 0))) := ⟨by
    rw [HW3.out]; exact ⟨bel_alloc B2.out _, heap_up Y2.out⟩⟩
  obtain ⟨y0, y1, y2, y3, y4, f0, f1, f2, f3, f4⟩ := boxz T3.out.2
  go_upto_region 2 with (fail)
  rw [← HW3.out]
  go_wp2_with fail
  obtain ⟨W9, HW9⟩ : ∃ W9, Aside (W9 = (((((W3.setCell ⟨w.heap.size + 1, 0, none⟩ (.int .u16 0)).setCell ⟨w.heap.size + 1, 1, none⟩ (.slice none 0 0)).setCell ⟨w.heap.size + 1, 2, none⟩ (.slice none 0 0)).setCell ⟨w.heap.size + 1, 3, none⟩ (.slice none 0 0)).setCell ⟨w.heap.size + 1, 4, none⟩ (.slice none 0 0))) := ⟨_, ⟨rfl⟩⟩
  rw [← HW9.out]
  have X9 : W9.heap[w.heap.size + 1]? = some (.cells #[.int .u16 0, .slice none 0 0, .slice none 0 0, .slice none 0 0, .slice none 0 0] 28 (0, 0)) := by rw [HW9.out]; exact set5_at T3.out.2
  have B9 : Below w.heap.size w W9 := by rw [HW9.out]; exact set5_below T3.out.1 (by omega)
  clear y0 y1 y2 y3 y4 f0 f1 f2 f3 f4
  obtain ⟨y0, y1, y2, y3, y4, _, _, _, _, _⟩ := boxz X9
  exact bodyPost_ret (v := .tuple #[.agg #[.int .u16 0, .slice none 0 0, .slice none 0 0, .slice none 0 0, .slice none 0 0], .int .i64 70]) (by simp [results, Try.results24, go_sem, y0, y1, y2, y3, y4]) rfl ⟨rfl, B9⟩

set_option maxHeartbeats 3200000 in
theorem without_in (w : World) (v : Value) (P : Plan) (p : Nat) (hv : PlanV w v P) (hpn : p < (Plan.parts P).length) (hN : (Plan.parts P).length ≤ 65535) (hlH : (Plan.chans P).length ≤ 100000) (hlQ : (Plan.pairs P).length ≤ 100000) (hlC : (Plan.cores P).length ≤ 100000) (hLb : ∀ L ∈ Plan.cores P, L.length ≤ 1000000) (hAb : ∀ x ∈ Plan.parts P, (PartR.sems x).length ≤ 1000000 ∧ (PartR.procs x).length ≤ 1000000) (hlA' : (Plan.parts P).length ≤ 100000) :
    Calls Try.prog 24 #[v, .int .i64 (p : Int)] w (SomeW w (Plan.withC P ((Plan.chans P).filter fun c => rightB (Plan.parts P).length c && kn (intoL (Plan.parts P).length (Plan.chans P) p) (ChanR.t c)))) := by
  have HV := Aside.mk hv
  obtain ⟨a0, c0, a1, c1, a2, c2, a3, c3, rfl, hp, hlen⟩ := hv.open_
  obtain ⟨i0, i1⟩ := hp.frame
  obtain ⟨LI, hLI⟩ : ∃ LI, intoL (Plan.parts P).length (Plan.chans P) p = LI := ⟨_, rfl⟩
  have HLI : Aside (LI.length = (Plan.parts P).length) := ⟨by rw [← hLI]; exact intoL_len _ _ _⟩
  have K1 : Aside (∀ W, Below w.heap.size w W → Calls Try.prog 12 #[.agg #[.int .u16 (Plan.frame P), .slice a0 (Plan.cores P).length c0, .slice a1 (Plan.parts P).length c1, .slice a2 (Plan.chans P).length c2, .slice a3 (Plan.pairs P).length c3], .int .i64 (p : Int)] W (SomeB W LI)) := ⟨fun W h => by rw [← hLI]; exact into_in W _ P p (HV.out.below h) hpn hN⟩
  have K2 : Aside (∀ W, Below w.heap.size w W → Calls Try.prog 34 #[.agg #[.int .u16 (Plan.frame P), .slice a0 (Plan.cores P).length c0, .slice a1 (Plan.parts P).length c1, .slice a2 (Plan.chans P).length c2, .slice a3 (Plan.pairs P).length c3]] W (CopyP W P)) := ⟨fun W h => copy_any W _ P (HV.out.below h) hlH hlQ hlC hLb hAb hlA'⟩
  have HFE : Aside (∀ c, (!delB (Plan.parts P).length LI c) = (rightB (Plan.parts P).length c && kn LI (ChanR.t c))) := ⟨fun c => by rw [delB]; simp⟩
  rw [hLI]
  obtain ⟨W1, HW⟩ : ∃ W1, Aside (W1 = (w.alloc (.cells #[.int .u16 (Plan.frame P), .slice a0 (Plan.cores P).length c0, .slice a1 (Plan.parts P).length c1, .slice a2 (Plan.chans P).length c2, .slice a3 (Plan.pairs P).length c3] 28)).alloc (.cells #[.int .u16 0, .slice none 0 0, .slice none 0 0, .slice none 0 0, .slice none 0 0] 28)) := ⟨_, ⟨rfl⟩⟩
  have hb1 : Aside (Below w.heap.size w W1 ∧ W1.heap[w.heap.size]? = some (.cells #[.int .u16 (Plan.frame P), .slice a0 (Plan.cores P).length c0, .slice a1 (Plan.parts P).length c1, .slice a2 (Plan.chans P).length c2, .slice a3 (Plan.pairs P).length c3] 28 (0, 0)) ∧ W1.heap[w.heap.size + 1]? = some (.cells #[.int .u16 0, .slice none 0 0, .slice none 0 0, .slice none 0 0, .slice none 0 0] 28 (0, 0))) := ⟨by
    rw [HW.out]; exact ⟨bel_two _ _ _, heap_up (heap_alloc_new _ _), heap_top _ _ _ (by simp)⟩⟩
  clear hp hv hLI hLb hAb
  go_enter Try.func24, Try.ntmps24
  go_wp2_with fail
  rw [← HW.out]
  refine (K1.out _ hb1.out.1).mono ?_
  rintro e w2 ⟨vI, rfl, hvI, b2⟩
  obtain ⟨iA, iC, rfl, _, _⟩ := id hvI
  have B2 := Aside.mk (bel_then hb1.out.1 b2)
  obtain ⟨W3, HW3⟩ : ∃ W3, Aside (W3 = w2.alloc (.cells #[.slice iA LI.length iC] 31)) := ⟨_, ⟨rfl⟩⟩
  have T3 : Aside (Below w.heap.size w W3 ∧ W3.heap[w.heap.size]? = some (.cells #[.int .u16 (Plan.frame P), .slice a0 (Plan.cores P).length c0, .slice a1 (Plan.parts P).length c1, .slice a2 (Plan.chans P).length c2, .slice a3 (Plan.pairs P).length c3] 28 (0, 0)) ∧ W3.heap[w.heap.size + 1]? = some (.cells #[.int .u16 0, .slice none 0 0, .slice none 0 0, .slice none 0 0, .slice none 0 0] 28 (0, 0)) ∧ W3.heap[w2.heap.size]? = some (.cells #[.slice iA LI.length iC] 31 (0, 0)) ∧ Bools W3 (.slice iA LI.length iC) LI) := ⟨by
    rw [HW3.out]
    exact ⟨bel_alloc B2.out _, heap_up (hup b2 hb1.out.2.1), heap_up (hup b2 hb1.out.2.2), heap_alloc_new _ _, hvI.below (bel_one _ _)⟩⟩
  clear b2 hvI
  go_upto_region 2 with (fail)
  rw [← HW3.out]
  obtain ⟨g0, g1, g2, g3, g4⟩ := box5 T3.out.2.1
  go_wp2_with fail
  refine (K2.out _ T3.out.1).mono ?_
  rintro e w4 ⟨b0, d0, b1, d1, b2, d2, b3, d3, rfl, CR⟩
  have CR := Aside.mk CR
  clear g0 g1 g2 g3 g4
  obtain ⟨W5, HW5⟩ : ∃ W5, Aside (W5 = w4.alloc (.cells #[.int .u16 (Plan.frame P), .slice b0 (Plan.cores P).length d0, .slice b1 (Plan.parts P).length d1, .slice b2 (Plan.chans P).length d2, .slice b3 (Plan.pairs P).length d3] 28)) := ⟨_, ⟨rfl⟩⟩
  have T5 : Aside (Below W3.heap.size W3 W5 ∧ W5.heap[w4.heap.size]? = some (.cells #[.int .u16 (Plan.frame P), .slice b0 (Plan.cores P).length d0, .slice b1 (Plan.parts P).length d1, .slice b2 (Plan.chans P).length d2, .slice b3 (Plan.pairs P).length d3] 28 (0, 0)) ∧ Below w4.heap.size w4 W5) := ⟨by
    rw [HW5.out]; exact ⟨bel_alloc CR.out.below _, heap_alloc_new _ _, bel_one _ _⟩⟩
  go_upto_region 5 with (fail)
  rw [← HW5.out]
  obtain ⟨x0, x1, x2, x3, x4⟩ := box5 T5.out.2.1
  have hcf := callFunc_wo1
  have KD : Aside (∃ S : Nat → Prop, (∀ k, S k → Plan.chans P ≠ [] ∧ (Value.slice b2 (Plan.chans P).length d2).ownBlock = some k ∧ W3.heap.size ≤ k ∧ k < w4.heap.size) ∧ Calls Try.prog 35 #[.slice b2 (Plan.chans P).length d2, .func (.func 36) #[] #[.pointer (some ⟨w.heap.size, 0, none⟩), .pointer (some ⟨w2.heap.size, 0, none⟩)]] W5 (DelP W5 ((Plan.chans P).filter fun c => !delB (Plan.parts P).length LI c) S)) := ⟨by
    by_cases hne : Plan.chans P = []
    · refine ⟨fun _ => False, fun k h => h.elim, ?_⟩
      have hd2 : d2 ≤ 9223372036854775807 := by
        obtain ⟨_, _, e1, _, h2, _⟩ := CR.out.at_.chans
        injection e1 with _ _ e3
        omega
      have := del_nil W5 b2 d2 hd2 36 #[.pointer (some ⟨w.heap.size, 0, none⟩), .pointer (some ⟨w2.heap.size, 0, none⟩)] callFunc_wo1
      rw [hne]
      exact this
    · have hown := CR.out.own.resolve_left hne
      have hch := elems_below CR.out.at_.chans T5.out.2.2
      rcases hown.2 with ⟨h0, h1⟩ | ⟨g, cap, cur, h0, hbg, _⟩
      · exact absurd (List.eq_nil_of_length_eq_zero h1) hne
      · injection h0 with e1 e2 e3
        subst e1 e3
        have hgl : g < w4.heap.size := own_lt hown g rfl
        refine ⟨fun k => k = g, fun k e => by subst e; exact ⟨hne, rfl, hbg, hgl⟩, ?_⟩
        refine del_any W5 _ g _ _ (Plan.chans P) (own_below hown T5.out.2.2) hch rfl (by omega) 36 _ callFunc_wo1 _ (fun x W ok hk => ?_)
        have hB3 : Below W3.heap.size W3 W := T5.out.1.trans (hk.below T5.out.1.size (fun k e => by omega))
        exact wo1_any W P a0 c0 a1 c1 a2 c2 a3 c3 (HV.out.below (bel_then T3.out.1 hB3)) w.heap.size w2.heap.size iA iC LI HLI.out x ok (hup hB3 T3.out.2.1) (hup hB3 T3.out.2.2.2.1) (T3.out.2.2.2.2.below hB3)⟩
  obtain ⟨S, hS, KD⟩ := KD.out
  have KD := Aside.mk KD
  have HS := Aside.mk hS
  clear hS
  go_wp2_with fail
  refine KD.out.mono ?_
  rintro e w6 ⟨A6, m6, c6, rfl, hch6, hl6, k6, ho6⟩
  have R6 := Aside.mk (And.intro hch6 (And.intro k6 (And.intro hl6 ho6)))
  have hq6 : Aside (w4.heap.size < W5.heap.size) := ⟨lt_of_block T5.out.2.1⟩
  have X6 : Aside (w6.heap[w4.heap.size]? = some (.cells #[.int .u16 (Plan.frame P), .slice b0 (Plan.cores P).length d0, .slice b1 (Plan.parts P).length d1, .slice b2 (Plan.chans P).length d2, .slice b3 (Plan.pairs P).length d3] 28 (0, 0))) := ⟨k6.heap T5.out.2.1 (fun h => by have := HS.out _ h; omega)⟩
  have Y6 : Aside (w6.heap[w.heap.size + 1]? = some (.cells #[.int .u16 0, .slice none 0 0, .slice none 0 0, .slice none 0 0, .slice none 0 0] 28 (0, 0))) := ⟨k6.heap (hup T5.out.1 T3.out.2.2.1) (fun h => by have := HS.out _ h; have := lt_of_block T3.out.2.2.1; omega)⟩
  clear x0 x1 x2 x3 x4 hch6 k6 ho6 hl6 hcf
  obtain ⟨x0, x1, x2, x3, x4, z0, z1, z2, z3, z4⟩ := boxz X6.out
  obtain ⟨W7, HW7⟩ : ∃ W7, Aside (W7 = w6.setCell ⟨w4.heap.size, 3, none⟩ (.slice A6 m6 c6)) := ⟨_, ⟨rfl⟩⟩
  have hYX : Aside (w.heap.size + 1 < W3.heap.size ∧ W3.heap.size ≤ w4.heap.size) := ⟨lt_of_block T3.out.2.2.1, CR.out.below.size⟩
  have T7 : Aside (W7.heap[w4.heap.size]? = some (.cells #[.int .u16 (Plan.frame P), .slice b0 (Plan.cores P).length d0, .slice b1 (Plan.parts P).length d1, .slice A6 m6 c6, .slice b3 (Plan.pairs P).length d3] 28 (0, 0)) ∧ W7.heap[w.heap.size + 1]? = some (.cells #[.int .u16 0, .slice none 0 0, .slice none 0 0, .slice none 0 0, .slice none 0 0] 28 (0, 0)) ∧ Kept (fun k => k = w4.heap.size) w6 W7) := ⟨by
    have hk : Kept (fun k => k = w4.heap.size) w6 W7 := by rw [HW7.out]; exact (Kept.refl (fun k => k = w4.heap.size) w6).setCell (p := ⟨w4.heap.size, 3, none⟩) (.inl rfl) _
    refine ⟨?_, hk.heap Y6.out (by have := hYX.out; omega), hk⟩
    rw [HW7.out]
    have := heap_setCell_at (off := 3) X6.out (.slice A6 m6 c6)
    simpa using this⟩
  go_upto_region 6 with (fail)
  rw [← HW7.out]
  clear x0 x1 x2 x3 x4 z0 z1 z2 z3 z4
  obtain ⟨x0, x1, x2, x3, x4, z0, z1, z2, z3, z4⟩ := boxz T7.out.1
  obtain ⟨y0, y1, y2, y3, y4, f0, f1, f2, f3, f4⟩ := boxz T7.out.2.1
  go_wp2_with fail
  obtain ⟨W9, HW9⟩ : ∃ W9, Aside (W9 = (((((W7.setCell ⟨w.heap.size + 1, 0, none⟩ (.int .u16 (Plan.frame P))).setCell ⟨w.heap.size + 1, 1, none⟩ (.slice b0 (Plan.cores P).length d0)).setCell ⟨w.heap.size + 1, 2, none⟩ (.slice b1 (Plan.parts P).length d1)).setCell ⟨w.heap.size + 1, 3, none⟩ (.slice A6 m6 c6)).setCell ⟨w.heap.size + 1, 4, none⟩ (.slice b3 (Plan.pairs P).length d3))) := ⟨_, ⟨rfl⟩⟩
  rw [← HW9.out]
  have X9 : W9.heap[w.heap.size + 1]? = some (.cells #[.int .u16 (Plan.frame P), .slice b0 (Plan.cores P).length d0, .slice b1 (Plan.parts P).length d1, .slice A6 m6 c6, .slice b3 (Plan.pairs P).length d3] 28 (0, 0)) := by rw [HW9.out]; exact set5_at T7.out.2.1
  have K9 : Kept (fun k => k = w.heap.size + 1) W7 W9 := by rw [HW9.out]; exact set5_kept _ _ _ _ _ _ _
  clear y0 y1 y2 y3 y4 f0 f1 f2 f3 f4 x0 x1 x2 x3 x4 z0 z1 z2 z3 z4
  obtain ⟨y0, y1, y2, y3, y4, _, _, _, _, _⟩ := boxz X9
  refine bodyPost_ret (v := .tuple #[.agg #[.int .u16 (Plan.frame P), .slice b0 (Plan.cores P).length d0, .slice b1 (Plan.parts P).length d1, .slice A6 m6 c6, .slice b3 (Plan.pairs P).length d3], .int .i64 0]) (by simp [results, Try.results24, go_sem, y0, y1, y2, y3, y4]) rfl ?_
  have hKW : Kept (fun k => (Plan.chans P ≠ [] ∧ (Value.slice b2 (Plan.chans P).length d2).ownBlock = some k) ∨ k < W3.heap.size) w4 W9 := by
    have h1 : Kept (fun k => (Plan.chans P ≠ [] ∧ (Value.slice b2 (Plan.chans P).length d2).ownBlock = some k) ∨ k < W3.heap.size) w4 w6 := (Kept.of_below T5.out.2.2).then_ R6.out.2.1 (fun k h => .inl (.inl ⟨(HS.out k h).1, (HS.out k h).2.1⟩))
    exact (h1.then_ T7.out.2.2 (fun k h => .inr (by omega))).then_ K9 (fun k h => .inl (.inr (by have := hYX.out; omega)))
  have hst := CR.out.stab W9 hKW
  have hchF : Chans W9 (.slice A6 m6 c6) ((Plan.chans P).filter fun c => !delB (Plan.parts P).length LI c) := by
    have h6 := R6.out.1
    rcases R6.out.2.2.2 with e | ⟨base, o⟩
    · rw [e] at h6 ⊢
      exact elems_nil h6
    · refine elems_same (w := w6) (w' := W9) (fun _ _ q => q) h6 (fun b q => ?_)
      have n1 := own_type o X6.out (by decide) q
      have n2 := own_type o Y6.out (by decide) q
      have hb := own_lt o b q
      exact (K9.block b (Nat.lt_of_lt_of_le hb T7.out.2.2.size) n2).trans (T7.out.2.2.block b hb n1)
  have hB : Below w.heap.size w W9 := by
    have h1 := bel_then T3.out.1 T5.out.1
    have h2 := h1.trans (R6.out.2.1.below h1.size (fun k h => by have := HS.out k h; have := hYX.out; omega))
    have h3 := h2.trans (T7.out.2.2.below h2.size (fun k h => by have := hYX.out; omega))
    exact h3.trans (K9.below h3.size (fun k h => by omega))
  have hfe : ((Plan.chans P).filter fun c => rightB (Plan.parts P).length c && kn LI (ChanR.t c)) = (Plan.chans P).filter fun c => !delB (Plan.parts P).length LI c := by
    congr 1; funext c; exact (HFE.out c).symm
  rw [hfe]
  have hl := R6.out.2.2.1
  exact ⟨_, rfl, ⟨b0, _, d0, b1, _, d1, A6, m6, c6, b3, _, d3, rfl, ⟨i0, i1⟩, hst.1, hst.2.1, hchF, hst.2.2⟩, hB⟩
end Go.Proofs.Ytflkfjjfhhapkaa
