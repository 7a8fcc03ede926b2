/- The rules' reference: all windows in a row, and a partition's objects. The rules' reference: a partition's objects. -/
import Derived.Test.YtidjkhmlpgkaaaaDoorMgA
namespace Go.Proofs.YtidjkhmlpgkaaaaDoor
open Go.RowKit
set_option linter.unusedVariables false
set_option linter.unusedSimpArgs false

theorem own_mono {w : World} {b b' : Nat} {e : TypeId} {size n : Nat} {v : Value} {xs : List Value} (h : w.ownsRow b e size v n xs) (hb : b' ≤ b) : w.ownsRow b' e size v n xs := by
  refine ⟨h.1, ?_⟩
  rcases h.2 with q | ⟨g, cap, cur, h1, h2, h3⟩
  · exact .inl q
  · exact .inr ⟨g, cap, cur, h1, by omega, h3⟩
/-- The places' cells. -/
def Place.cells (x : Place) : List Value := [.int .i64 (Place.c x), .int .i64 (Place.a x), .int .u16 (Win.s (Place.w x)), .int .u16 (Win.l (Place.w x)), .int .u8 (Win.p (Place.w x)), .int .u8 (Win.g (Place.w x))]
theorem A_info_place : (Tryd.prog.info? 126).map (fun i => (i.zero, i.size, i.bytes)) = some (some (.agg #[.int .i64 0, .int .i64 0, .int .u16 0, .int .u16 0, .int .u8 0, .int .u8 0]), 6, 24) := by kernel_rfl

set_option maxHeartbeats 800000 in
theorem all_any (w : World) (v : Value) (P : Plan) (hv : PlanV w v P) (hC : (Plan.cores P).length ≤ 8) (hL : ∀ L ∈ Plan.cores P, L.length ≤ 256) :
    Calls Tryd.prog 52 #[v] w fun e w' => ∃ r, e = .returned r ∧ w'.ownsRow w.heap.size 126 6 r (allS (Plan.cores P)).length ((allS (Plan.cores P)).flatMap Place.cells) ∧ Below w.heap.size w w' := by
  obtain ⟨a0, n0, c0, a1, n1, c1, a2, n2, c2, a3, n3, c3, rfl, hp⟩ := hv
  have HC := Aside.mk hp.cores
  obtain ⟨_, _, q, hlen⟩ := hp.cores.len
  obtain ⟨rfl, rfl, rfl⟩ : a0 = _ ∧ n0 = _ ∧ c0 = _ := by injection q with q1 q2 q3; exact ⟨q1, q2, q3⟩
  clear q hp
  generalize Plan.cores P = C at *
  have HL := Aside.mk hL
  clear hL
  go_enter Tryd.func52, Tryd.ntmps52
  go_wp2_with fail
  obtain ⟨W1, HW1⟩ : ∃ W1, Aside (W1 = w.alloc (.cells #[.int .u16 (Plan.frame P), .slice a0 C.length c0, .slice a1 n1 c1, .slice a2 n2 c2, .slice a3 n3 c3] 28)) := ⟨_, ⟨rfl⟩⟩
  rw [← HW1.out]
  have hb1 : Aside (Below w.heap.size w W1 ∧ W1.heap.size = w.heap.size + 1) := ⟨by rw [HW1.out]; exact ⟨bel_one _ _, by simp⟩⟩
  have hbox : Aside (W1.heap[w.heap.size]? = some (.cells #[.int .u16 (Plan.frame P), .slice a0 C.length c0, .slice a1 n1 c1, .slice a2 n2 c2, .slice a3 n3 c3] 28 (0, 0))) := ⟨by rw [HW1.out]; exact heap_alloc_new _ _⟩
  clear HW1
  go_loopw [3, 4, 5] (fun u c _ wr => ∃ (k : Nat) (v : Value), k ≤ C.length ∧ c = .int .i64 k ∧ v = u ∧ Aside (wr.ownsRow (w.heap.size + 1) 126 6 v (allS (C.take k)).length ((allS (C.take k)).flatMap Place.cells) ∧ Below W1.heap.size W1 wr)) (fun _ c _ _ => C.length - (intOf c).toNat)
  case atStart =>
    exact ⟨0, _, by omega, rfl, rfl, ⟨by have := World.ownsRow_lit (base := W1.heap.size) (e := 126) (size := 6) W1 #[] 0 (Nat.le_refl _) (by decide) rfl; rw [hb1.out.2] at this; simpa [allS_nil, hb1.out.2] using this, bel_one _ _⟩⟩
  case round =>
    obtain ⟨k, v, hk, rfl, rfl, S⟩ := hrel
    obtain ⟨wo, rfl⟩ : ∃ wo : World, wo = wr := ⟨_, rfl⟩
    have hb := (S.out.2.block _ (lt_of_block hbox.out)).trans hbox.out
    have hcell : wo.cell? ⟨w.heap.size, 1, none⟩ = some (.slice a0 C.length c0) := by simp [World.cell?, hb]
    clear hb
    by_cases hkl : k < C.length
    · have hl := List.getElem?_eq_getElem hkl
      obtain ⟨ad, lv, rfl, hlv, hwins⟩ := ((HC.out.below hb1.out.1).below S.out.2).at_ k C[k] hl
      have hlen2 : (C[k]).length ≤ 256 := HL.out _ (List.getElem_mem _)
      obtain ⟨la, lc, q2, _⟩ := hwins.len
      subst q2
      obtain ⟨L, hL⟩ : ∃ L, C[k] = L := ⟨_, rfl⟩
      rw [hL] at hl hlv hwins hlen2
      have HE := Aside.mk hl
      have H0 := Aside.mk (allS_take_len C HL.out k (by omega))
      have hk8 : k < 8 := by omega
      clear hwins hl hL hlv
      go_wp2_with fail
      go_loopw [3, 5] (fun u i wr => ∃ (j : Nat) (v : Value), j ≤ L.length ∧ i = .int .i64 j ∧ v = u ∧ Aside (wr.ownsRow (w.heap.size + 1) 126 6 v (allS (C.take k) ++ placesS k (L.take j)).length ((allS (C.take k) ++ placesS k (L.take j)).flatMap Place.cells) ∧ Below W1.heap.size W1 wr)) (fun _ i _ => L.length - (intOf i).toNat)
      case atStart =>
        exact ⟨0, _, by omega, rfl, rfl, ⟨by simpa [placesS_nil] using S.out.1, S.out.2⟩⟩
      case round =>
        clear hcell
        obtain ⟨j, v, hj, rfl, rfl, S2⟩ := hrel
        have hb := (S2.out.2.block _ (lt_of_block hbox.out)).trans hbox.out
        have hcell : wr.cell? ⟨w.heap.size, 1, none⟩ = some (.slice (some ad) C.length c0) := by simp [World.cell?, hb]
        obtain ⟨ad', lv, q, hlv, hwins⟩ := ((HC.out.below hb1.out.1).below S2.out.2).at_ k L HE.out
        obtain rfl : ad = ad' := by injection q
        obtain ⟨la', lc', q2, _⟩ := hwins.len
        subst q2
        clear hb q
        by_cases hjl : j < L.length
        · have hx := List.getElem?_eq_getElem hjl
          obtain ⟨X, hX⟩ : ∃ X, L[j] = X := ⟨_, rfl⟩
          rw [hX] at hx
          obtain ⟨ad2, q, e0, e1, e2, e3, ok⟩ := hwins.at_ j X hx
          obtain rfl : la' = some ad2 := q
          have HX := Aside.mk hx
          have HS := Aside.mk (placesS_take_succ k L j X hx)
          have hlen3 : Aside ((allS (C.take k) ++ placesS k (L.take j)).length < 4096) := ⟨by
            have := H0.out
            rw [List.length_append, placesS_len, List.length_take]
            omega⟩
          have hsz : Aside (w.heap.size + 1 ≤ wr.heap.size) := ⟨by have := S2.out.2.size; have := hb1.out.2; omega⟩
          clear hx hX hwins
          go_wp2_with (at_builtin; go_loud (refine append_elem (w.heap.size + 1) rfl _ _ 123 126 (.agg #[.int .i64 0, .int .i64 0, .int .u16 0, .int .u16 0, .int .u8 0, .int .u8 0]) 6 24 rfl Tryd.underlying123 A_info_place rfl (by decide) (by decide) v _ _ [.int .i64 k, .int .i64 (256 * (k : Int) + (j : Int)), .int .u16 (Win.s X), .int .u16 (Win.l X), .int .u8 (Win.p X), .int .u8 (Win.g X)] rfl rfl rfl (by simp [Value.oneCell']) S2.out.1 hsz.out (by have := hlen3.out; omega) ?_))
          intro v1 w1 hown1 hg hat
          have Hown := Aside.mk (And.intro hown1 (And.intro hg hat))
          clear hown1 hg hat e0 e1 e2 e3 hcell hlv
          go_wp2_with fail
          go_roundw
          case rel =>
            obtain ⟨hown1, hg, hat⟩ := Hown.out
            refine ⟨j + 1, _, by omega, by go_num, rfl, ?_, S2.out.2.grown hg S2.out.2.size (fun r hr => by have := own_base S2.out.1 r hr; have := hb1.out.2; omega)⟩
            rw [HS.out]
            simpa [Place.cells, Place.c, Place.a, Place.w, Nat.add_assoc] using hown1
          case measure => simp [intOf]; omega
        · have hjj : j = L.length := by omega
          subst hjj
          clear hwins
          go_wp2_with fail
          go_roundw
          case rel =>
            refine ⟨k + 1, _, by omega, by go_num, rfl, ?_, S2.out.2⟩
            have := S2.out.1
            rw [List.take_length, ← allS_take_succ C k L HE.out] at this
            exact this
          case measure => simp [intOf]; omega
    · go_wp2_with fail
      have hkk : k = C.length := by omega
      subst hkk
      go_ret
      refine ⟨_, rfl, ?_, bel_then hb1.out.1 S.out.2⟩
      have := S.out.1
      rw [List.take_length] at this
      exact own_mono this (by omega)
end Go.Proofs.YtidjkhmlpgkaaaaDoor

namespace Go.Proofs.YtidjkhmlpgkaaaaDoor
open Go.RowKit
set_option linter.unusedVariables false
set_option linter.unusedSimpArgs false

set_option maxHeartbeats 1600000 in
set_option maxRecDepth 100000 in
theorem object_any (w : World) (sv pv : Value) (x : PartR) (hx : PartAt w sv pv x) :
    Calls Tryd.prog 55 #[.agg #[sv, .int .u8 (PartR.events x), pv, .int .u8 (PartR.a0 x), .int .u8 (PartR.a1 x), .int .u8 (PartR.a2 x)]] w fun e w' => e = .returned (.bool (objectS x)) ∧ Below w.heap.size w w' := by
  have HX := Aside.mk hx
  obtain ⟨sa, sc, pa, pc, rfl, rfl, n1, n2⟩ := hx.lens
  have hs := hx.sems
  have hp := hx.procs
  obtain ⟨e0, e1⟩ := hx.ev
  obtain ⟨a00, a01⟩ := hx.a0
  obtain ⟨a10, a11⟩ := hx.a1
  obtain ⟨a20, a21⟩ := hx.a2
  have E : objectS x = ((decide ((PartR.sems x).length ≤ 16) && decide (PartR.events x ≤ 16) && decide (1 ≤ (PartR.procs x).length) && decide ((PartR.procs x).length ≤ 16) && decide (PartR.a0 x ≤ 2) && decide (PartR.a1 x ≤ 2) && decide (PartR.a2 x ≤ 2)) && (PartR.sems x).all semOk && (PartR.procs x).all fun p => decide (p ≤ 63)) := rfl
  rw [E]
  clear E hx
  generalize PartR.sems x = S at *
  generalize PartR.procs x = Q at *
  generalize PartR.events x = ev at *
  generalize PartR.a0 x = A0 at *
  generalize PartR.a1 x = A1 at *
  generalize PartR.a2 x = A2 at *
  have HS := Aside.mk hs
  have HP := Aside.mk hp
  clear hs hp HX
  by_cases h1 : 16 < S.length
  · go_enter Tryd.func55, Tryd.ntmps55
    go_wp2_with fail
    go_ret
    exact ⟨ret_bool (by simp; omega), bel_one _ _⟩
  by_cases h2 : 16 < ev
  · go_enter Tryd.func55, Tryd.ntmps55
    go_wp2_with fail
    go_ret
    exact ⟨ret_bool (by simp; omega), bel_one _ _⟩
  by_cases h3 : Q.length < 1
  · go_enter Tryd.func55, Tryd.ntmps55
    go_wp2_with fail
    go_ret
    exact ⟨ret_bool (by simp; omega), bel_one _ _⟩
  by_cases h4 : 16 < Q.length
  · go_enter Tryd.func55, Tryd.ntmps55
    go_wp2_with fail
    go_ret
    exact ⟨ret_bool (by simp; omega), bel_one _ _⟩
  by_cases h5 : 2 < A0
  · go_enter Tryd.func55, Tryd.ntmps55
    go_wp2_with fail
    go_ret
    exact ⟨ret_bool (by simp; omega), bel_one _ _⟩
  by_cases h6 : 2 < A1
  · go_enter Tryd.func55, Tryd.ntmps55
    go_wp2_with fail
    go_ret
    exact ⟨ret_bool (by simp; omega), bel_one _ _⟩
  by_cases h7 : 2 < A2
  · go_enter Tryd.func55, Tryd.ntmps55
    go_wp2_with fail
    go_ret
    exact ⟨ret_bool (by simp; omega), bel_one _ _⟩
  have G : (decide (S.length ≤ 16) && decide (ev ≤ 16) && decide (1 ≤ Q.length) && decide (Q.length ≤ 16) && decide (A0 ≤ 2) && decide (A1 ≤ 2) && decide (A2 ≤ 2)) = true := by simp; omega
  rw [G, Bool.true_and]
  clear G
  obtain ⟨W1, HW1⟩ : ∃ W1, Aside (W1 = w.alloc (.cells #[.slice sa S.length sc, .int .u8 ev, .slice pa Q.length pc, .int .u8 A0, .int .u8 A1, .int .u8 A2] 77)) := ⟨_, ⟨rfl⟩⟩
  have hb1 : Aside (Below w.heap.size w W1) := ⟨by rw [HW1.out]; exact bel_one _ _⟩
  have c0 : W1.cell? ⟨w.heap.size, 0, none⟩ = some (.slice sa S.length sc) := by rw [HW1.out]; simp
  have c2 : W1.cell? ⟨w.heap.size, 2, none⟩ = some (.slice pa Q.length pc) := by rw [HW1.out]; simp
  go_enter Tryd.func55, Tryd.ntmps55
  go_wp2_with fail
  rw [← HW1.out]
  go_loopw [3] (fun i wr => ∃ (k m : Nat), k ≤ S.length ∧ i = .int .i64 k ∧ W1.drewN m = wr ∧ Aside ((S.take k).all semOk = true)) (fun i _ => S.length - (intOf i).toNat)
  case atStart => exact ⟨0, 0, by omega, rfl, rfl, ⟨by simp⟩⟩
  case round =>
    obtain ⟨k, m, hk, rfl, rfl, HA⟩ := hrel
    by_cases hkl : k < S.length
    · have hl := List.getElem?_eq_getElem hkl
      obtain ⟨X, hX⟩ : ∃ X, S[k] = X := ⟨_, rfl⟩
      rw [hX] at hl
      obtain ⟨ad, rfl, e0, e1, ok⟩ := (HS.out.below hb1.out).at_ k X hl
      obtain ⟨⟨i0, i1⟩, ⟨m0, m1⟩⟩ := ok
      have HE := Aside.mk hl
      have hs : Aside ((S.take (k + 1)).all semOk = ((S.take k).all semOk && semOk X)) := ⟨by rw [take_snoc hl, List.all_append]; simp⟩
      have hf : Aside (semOk X = false → S.all semOk = false) := ⟨fun h => by
        rw [List.all_eq_false]
        exact ⟨X, List.mem_of_getElem? hl, by rw [h]; decide⟩⟩
      clear hl hX
      have hsem : semOk X = (decide (SemR.m X ≠ 0) && decide (SemR.i X ≤ SemR.m X)) := rfl
      have HSem := Aside.mk hsem
      clear hsem
      generalize SemR.i X = iv at *
      generalize SemR.m X = mv at *
      by_cases q1 : mv = 0
      · go_wp2_with fail
        go_quiet (fail)
        go_wp2_with fail
        go_ret
        have := hf.out (by rw [HSem.out]; simp [q1])
        exact ⟨ret_bool (by rw [this]; rfl), (by repeat (first | exact hb1.out | refine bel_drewN ?_ _))⟩
      · by_cases q2 : mv < iv
        · go_wp2_with fail
          go_quiet (fail)
          go_wp2_with fail
          go_ret
          have := hf.out (by rw [HSem.out]; simp; omega)
          exact ⟨ret_bool (by rw [this]; rfl), (by repeat (first | exact hb1.out | refine bel_drewN ?_ _))⟩
        · have hm0 : (mv == 0) = false := by simp [q1]
          have hm1 : decide (mv < iv) = false := by simp [q2]
          go_wp2_with fail
          go_quiet (fail)
          go_wp2_with fail
          go_roundw
          case rel => exact ⟨k + 1, _, by omega, by go_num, rfl, ⟨by rw [hs.out, HA.out, HSem.out]; simp; omega⟩⟩
          case measure => simp [intOf]; omega
    · have hA := HA.out
      rw [List.take_of_length_le (by omega)] at hA
      have hF : Aside (S.all semOk = true) := ⟨hA⟩
      clear hA HA
      go_wp2_with fail
      go_loop [4] (fun i => ∃ (k : Nat), k ≤ Q.length ∧ i = .int .i64 k ∧ Aside ((Q.take k).all (fun p => decide (p ≤ 63)) = true)) (fun i => Q.length - (intOf i).toNat)
      case atStart => exact ⟨0, by omega, rfl, ⟨by simp⟩⟩
      case round =>
        obtain ⟨k2, hk2, rfl, HA⟩ := hrel
        by_cases hkl2 : k2 < Q.length
        · have hl := List.getElem?_eq_getElem hkl2
          obtain ⟨X, hX⟩ : ∃ X, Q[k2] = X := ⟨_, rfl⟩
          rw [hX] at hl
          obtain ⟨ad, rfl, e0, b0, b1⟩ := (HP.out.below hb1.out).at_ k2 X hl
          have hs : Aside ((Q.take (k2 + 1)).all (fun p => decide (p ≤ 63)) = ((Q.take k2).all (fun p => decide (p ≤ 63)) && decide (X ≤ 63))) := ⟨by rw [take_snoc hl, List.all_append]; simp⟩
          have hf : Aside (63 < X → Q.all (fun p => decide (p ≤ 63)) = false) := ⟨fun h => by
            rw [List.all_eq_false]
            exact ⟨X, List.mem_of_getElem? hl, by simp; omega⟩⟩
          clear hl hX
          by_cases q : 63 < X
          · go_wp2_with fail
            go_ret
            have := hf.out q
            exact ⟨ret_bool (by rw [hF.out, this]; rfl), (by repeat (first | exact hb1.out | refine bel_drewN ?_ _))⟩
          · go_wp2_with fail
            go_round
            case rel => exact ⟨k2 + 1, by omega, by go_num, ⟨by rw [hs.out, HA.out]; simp; omega⟩⟩
            case measure => simp [intOf]; omega
        · have hA := HA.out
          rw [List.take_of_length_le (by omega)] at hA
          have hA := Aside.mk hA
          clear HA
          go_wp2_with fail
          go_ret
          exact ⟨ret_bool (by simp [hF.out, hA.out]), (by repeat (first | exact hb1.out | refine bel_drewN ?_ _))⟩
end Go.Proofs.YtidjkhmlpgkaaaaDoor
