/- The table's laws: the next beginning or end: the law. -/
import Derived.Test.YtmfddaihepjfeaaTabM
import Derived.Deep.RegionHeld3
import Derived.Deep.RegionLaw
namespace Go.Proofs.Ytmfddaihepjfeaa
open Go.RowKit
set_option linter.unusedVariables false
set_option linter.unusedSimpArgs false

section
variable {P : Program} {ops : Array Oper} {o : Oper} {a : Act} {Q : Exit → Act → World → Prop}
/-- append(v, ys...), ys a slice of one-cell elements that is read, nil let in. -/
theorem step_append_row {E : Prop} {K : Act → World → Prop} {W : World} (base : Nat) (hgd : o.guard = none) (s x : Operand) (t e : TypeId) (z : Value) (bytes : Nat)
    (ho : o.op = .call { callee := .builtin .append, args := #[s, x], argTypes := #[t, t] })
    (ht : P.underlying t = some (.slice e)) (hinfo : (P.info? e).map (fun i => (i.zero, i.size, i.bytes)) = some (some z, 1, bytes)) (hz : z.cells.size = 1) (hb0 : 0 < bytes)
    (v : Value) (n : Nat) (xs news : List Value) (A : Option Addr) (m c : Nat) (hs : a.eval s = v) (hx : a.eval x = .slice A m c)
    (HO : W.ownsRow base e 1 v n xs) (hl : news.length = m) (hnews : 0 < m → ∃ ad, A = some ad ∧ ∀ j u, news[j]? = some u → W.cell? (ad.add j) = some u) (h1 : ∀ u ∈ news, u.oneCell' = true)
    (hbase : base ≤ W.heap.size) (hbytes : (n + m) * bytes ≤ 140737488355328)
    (h : ∀ v1 w1, w1.ownsRow base e 1 v1 (n + m) (xs ++ news) → W.grownBy w1 v.ownBlock → (v1.ownBlock = v.ownBlock ∨ v1.ownBlock = some W.heap.size) → K (a.put o.dst v1) w1) :
    if Region.wanted o (yielded ops a.tmps) = true then Oper.wp P o a W K Q else E := by
  obtain ⟨i0, hi, hz0, hz1, hz2⟩ := info_parts hinfo
  have hlen : n + m ≤ 140737488355328 := Nat.le_trans (Nat.le_mul_of_pos_right _ hb0) hbytes
  have hrun : ∃ v1 w1, (Builtin.append_ #[t, t] o.type #[v, .slice A m c]).run P W = .ok v1 w1 ∧ w1.ownsRow base e 1 v1 (n + m) (xs ++ news) ∧ W.grownBy w1 v.ownBlock ∧ (v1.ownBlock = v.ownBlock ∨ v1.ownBlock = some W.heap.size) := by
    rcases A with _ | ad
    · have h0 : m = 0 := by
        rcases Nat.eq_zero_or_pos m with h0 | h0
        · exact h0
        · obtain ⟨ad, h, _⟩ := hnews h0
          cases h
      subst h0
      obtain rfl : news = [] := List.eq_nil_of_length_eq_zero hl
      refine ⟨v, W, ?_, by simpa using HO, World.grownBy.refl W _, .inl rfl⟩
      rcases HO.2 with ⟨rfl, hn⟩ | ⟨g, cap, cur, rfl, _, _, hnc, _⟩
      · simp [Builtin.append_, run_underlying ht, sizeOf, typeInfo, hi, Builtin.lenOf, Builtin.firstCells]
      · simp [Builtin.append_, run_underlying ht, sizeOf, typeInfo, hi, Builtin.lenOf, Builtin.firstCells, hnc, storeCells]
    · have hcells : ∀ j u, news[j]? = some u → W.cell? (ad.add j) = some u := by
        intro j u hu
        have hj : j < news.length := (List.getElem?_eq_some_iff.1 hu).1
        obtain ⟨ad', h', hc⟩ := hnews (by omega)
        injection h' with h'
        subst h'
        exact hc j u hu
      obtain ⟨v1, w1, hr, h2, h3, _, h5⟩ := run_append_own_at (P := P) W base t o.type e i0 z 1 bytes ht hi hz0 hz1 hz2 hz (by omega) v n xs HO ad m c news (by simp [hl]) hcells h1 (by simp only [maxLen]; omega) hbytes hbase
      exact ⟨v1, w1, hr, h2, h3, h5⟩
  obtain ⟨v1, w1, hr, hown, hg, hat⟩ := hrun
  have hw : Region.wanted o (yielded ops a.tmps) = true := by simp [Region.wanted, hgd]
  rw [if_pos hw]
  unfold Oper.wp execOp
  simp only [ho, resolve, invoke, builtin, Sem.run_bind, Sem.run_pure, Result.andThen_ok, List.map_toArray, List.map_cons, List.map_nil, hs, hx, hr]
  exact h _ _ hown hg hat
end
theorem A_info_int' : (Try.prog.info? 3).map (fun i => (i.zero, i.size, i.bytes)) = some (some (.int .i64 0), 1, 8) := A_info_int

set_option maxHeartbeats 3200000 in
set_option maxRecDepth 100000 in
theorem nexts_any (w : World) (v u : Value) (P : Plan) (t : Int) (cs : List Int) (hv : PlanV w v P) (hu : Ints w .i64 u cs) :
    Calls Try.prog 4 #[v, .int .i64 t, u] w fun e w' => e = .returned (.bool true) ∧ Below w.heap.size w w' := by
  have hv0 := hv
  have HU := Aside.mk hu
  obtain ⟨ua, uc, rfl, hul, _⟩ := hu
  obtain ⟨a0, c0, a1, c1, a2, c2, a3, c3, rfl, hp, hlen⟩ := hv.open_
  obtain ⟨f0, f1⟩ := hp.frame
  obtain ⟨W1, HW⟩ : ∃ W1, Aside (W1 = w.alloc (.cells #[.int .u16 (Plan.frame P), .slice a0 (Plan.cores P).length c0, .slice a1 (Plan.parts P).length c1, .slice a2 (Plan.chans P).length c2, .slice a3 (Plan.pairs P).length c3] 28)) := ⟨_, ⟨rfl⟩⟩
  have hb1 : Aside (Below w.heap.size w W1 ∧ W1.heap[w.heap.size]? = some (.cells #[.int .u16 (Plan.frame P), .slice a0 (Plan.cores P).length c0, .slice a1 (Plan.parts P).length c1, .slice a2 (Plan.chans P).length c2, .slice a3 (Plan.pairs P).length c3] 28 (0, 0))) := ⟨by rw [HW.out]; exact ⟨bel_one _ _, heap_alloc_new _ _⟩⟩
  have K1 := Aside.mk (taken_any W1 _ P (hv0.below hb1.out.1))
  have HV := Aside.mk hv0
  obtain ⟨g0, g1, g2, g3, g4⟩ := box5 hb1.out.2
  clear hp hv hv0
  go_enter Try.func4, Try.ntmps4
  go_wp2_with fail
  rw [← HW.out]
  refine K1.out.mono ?_
  rintro e w2 ⟨b, rfl, htk, b2⟩
  have B2 := Aside.mk (bel_then hb1.out.1 b2)
  have X2 := Aside.mk ((b2.block _ (lt_of_block hb1.out.2)).trans hb1.out.2)
  clear b2 g0 g1 g2 g3 g4
  obtain ⟨g0, g1, g2, g3, g4⟩ := box5 X2.out
  cases b
  · clear htk
    go_wp2_with fail
    refine (awake_any w2).mono ?_
    rintro e w3 ⟨rfl, b3⟩
    have B3 := Aside.mk (bel_then B2.out b3)
    clear b3 g0 g1 g2 g3 g4
    go_wp2_with fail
    go_ret
    exact ⟨rfl, B3.out⟩
  · by_cases h20 : 20 < cs.length
    · clear htk
      go_wp2_with fail
      refine (awake_any w2).mono ?_
      rintro e w3 ⟨rfl, b3⟩
      have B3 := Aside.mk (bel_then B2.out b3)
      clear b3 g0 g1 g2 g3 g4
      go_wp2_with fail
      go_ret
      exact ⟨rfl, B3.out⟩
    · obtain ⟨r, hr⟩ : ∃ r, Aside (r = nextS (Plan.frame P) (Plan.cores P) t cs) := ⟨_, ⟨rfl⟩⟩
      have KN : Aside (∀ W q, Below w.heap.size w W → Ints W .i64 q cs → Calls Try.prog 18 #[.agg #[.int .u16 (Plan.frame P), .slice a0 (Plan.cores P).length c0, .slice a1 (Plan.parts P).length c1, .slice a2 (Plan.chans P).length c2, .slice a3 (Plan.pairs P).length c3], .int .i64 t, q] W (nxP W r)) := ⟨fun W q h hi => by
        by_cases ht : t < 0 ∨ Plan.frame P ≤ t
        · rw [hr.out, nextS, if_pos ht]; exact next_out W _ q P t cs (HV.out.below h) hi ht
        · rw [hr.out]; exact next_in W _ q P t cs (HV.out.below h) hi (by omega) (by omega)⟩
      have KR : Aside (∀ W, Below w.heap.size w W → Calls Try.prog 19 #[.agg #[.int .u16 (Plan.frame P), .slice a0 (Plan.cores P).length c0, .slice a1 (Plan.parts P).length c1, .slice a2 (Plan.chans P).length c2, .slice a3 (Plan.pairs P).length c3], .int .i64 t, .slice ua cs.length uc] W (nxP W r)) := ⟨fun W h => by
        by_cases ht : t < 0 ∨ Plan.frame P ≤ t
        · rw [hr.out, nextS, if_pos ht]; exact rnext_out W _ _ P t cs (HV.out.below h) (HU.out.below h) ht
        · rw [hr.out]; exact rnext_in W _ _ P t cs (HV.out.below h) (HU.out.below h) (by omega) (by omega)⟩
      have n0 := lt_of_block X2.out
      clear htk
      have HO := ((World.ownsRow_lit (base := w2.heap.size) (e := 3) (size := 1) w2 #[] 0 (Nat.le_refl _) (by decide) rfl).drew)
      have BA : Below w.heap.size w (w2.alloc (.cells #[] 3)).drew := bel_drew (bel_alloc B2.out _)
      have HNews := (ints_news (HU.out.below BA)).2
      have HO := Aside.mk HO
      have HNews := Aside.mk HNews
      have hbase : Aside (w2.heap.size ≤ (w2.alloc (.cells #[] 3)).drew.heap.size) := ⟨by have h := (bel_one w2 (.cells #[] 3)).size; exact h⟩
      have BA := Aside.mk BA
      have own2 : Aside (∀ k, (Value.slice (some ⟨w2.heap.size, 0, none⟩) 0 0).ownBlock = some k → w2.heap.size ≤ k) := ⟨fun k h => by simp [Value.ownBlock] at h; omega⟩
      have XA : Aside ((w2.alloc (.cells #[] 3)).drew.heap[w.heap.size]? = some (.cells #[.int .u16 (Plan.frame P), .slice a0 (Plan.cores P).length c0, .slice a1 (Plan.parts P).length c1, .slice a2 (Plan.chans P).length c2, .slice a3 (Plan.pairs P).length c3] 28 (0, 0))) := ⟨heap_up X2.out⟩
      go_wp2_with fail
      go_region_held3 (fun w' => w'.cell? ⟨w.heap.size, 0, none⟩ = some (.int .u16 (Plan.frame P)) ∧ w'.cell? ⟨w.heap.size, 1, none⟩ = some (.slice a0 (Plan.cores P).length c0) ∧ w'.cell? ⟨w.heap.size, 2, none⟩ = some (.slice a1 (Plan.parts P).length c1) ∧ w'.cell? ⟨w.heap.size, 3, none⟩ = some (.slice a2 (Plan.chans P).length c2) ∧ w'.cell? ⟨w.heap.size, 4, none⟩ = some (.slice a3 (Plan.pairs P).length c3)) (first | go_keep | (exact ⟨k1 _ _ (by assumption), k1 _ _ (by assumption), k1 _ _ (by assumption), k1 _ _ (by assumption), k1 _ _ (by assumption)⟩) | (exact ⟨k2 _ _ (by assumption), k2 _ _ (by assumption), k2 _ _ (by assumption), k2 _ _ (by assumption), k2 _ _ (by assumption)⟩))
        (first
          | (refine step_append_row w2.heap.size (by rfl) _ _ 31 3 (.int .i64 0) 8 (by rfl) Try.underlying31 A_info_int rfl (by decide) _ 0 [] (cs.map (Value.int .i64)) ua cs.length uc (by rfl) (by rfl) HO.out (by simp) HNews.out (by simp [Value.oneCell']) hbase.out (by omega) ?_; intro v1 w4 hown hgr hat; have B4 := grown_below hgr hbase.out own2.out; have k1 := (fun (o : Nat) (v : Value) (h : (w2.alloc (.cells #[] 3)).drew.cell? ⟨w.heap.size, o, none⟩ = some v) => (B4.cell (p := ⟨w.heap.size, o, none⟩) n0).trans h); have R4 := Aside.mk (And.intro (BA.out.trans (B4.mono B2.out.size)) (own_ints (own_mono (by simpa using hown) (Nat.zero_le _)))))
          | (go_at_call 18; refine (KN.out _ _ R4.out.1 R4.out.2).mono ?_; rintro e w5 ⟨rfl, b5⟩; have k2 := (fun (o : Nat) (v : Value) (h : w4.cell? ⟨w.heap.size, o, none⟩ = some v) => (Kept.of_below (S := fun _ => False) b5).cell h id)))
      have B5 := Aside.mk (bel_then R4.out.1 b5)
      have X4 := (B4.block _ n0).trans XA.out
      have X5 := Aside.mk ((b5.block _ (lt_of_block X4)).trans X4)
      clear k1 k2 b5 B4 X4 hown hgr hat g0 g1 g2 g3 g4
      obtain ⟨g0, g1, g2, g3, g4⟩ := box5 X5.out
      obtain ⟨r1, r2⟩ := r
      go_wp2_with fail
      refine (KR.out _ B5.out).mono ?_
      rintro e w6 ⟨rfl, b6⟩
      have B6 := Aside.mk (bel_then B5.out b6)
      clear b6 g0 g1 g2 g3 g4
      go_wp2_with fail
      refine (awake_any w6).mono ?_
      rintro e w7 ⟨rfl, b7⟩
      have B7 := Aside.mk (bel_then B6.out b7)
      clear b7
      go_wp2_with fail
      go_ret
      exact ⟨ret_bool (by simp), B7.out⟩
end Go.Proofs.Ytmfddaihepjfeaa
