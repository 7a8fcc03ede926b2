/- Plans of bytes: many cores, many partitions. -/
import Derived.Test.YtbphlapdhcgikaaDoorDecC
namespace Go.Proofs.YtbphlapdhcgikaaDoor
open Go.RowKit
set_option linter.unusedVariables false
set_option linter.unusedSimpArgs false

theorem info_core : (Tryd.prog.info? 49).map (fun i => (i.zero, i.size, i.bytes)) = some (some (.slice none 0 0), 1, 24) := by kernel_rfl
set_option maxHeartbeats 6400000 in
theorem many_core {base Z c : Nat} {A : Option Addr} {S : List Int} (hS : ∀ x ∈ S, 0 ≤ x ∧ x ≤ 255) (w : World) (s : St) (h : Bl.RD base w Z A c S s.1 s.2) (n : Nat) (hn : n ≤ 65535) :
    Calls Tryd.prog 32 #[.pointer (some ⟨Z, 0, none⟩), .int .i64 n, .func (.func 33) #[.agg #[.pointer (some ⟨Z, 0, none⟩)]] #[]] w (ManyP base Z A c S 49 1 (E_core Z) w (manyS (coreS S) n s [])) := by
  have H0 := Aside.mk h
  have HZ := Aside.mk (rd_lt h)
  have KE : Aside (∀ (W : World) (t : St), Bl.RD base W Z A c S t.1 t.2 → Calls Tryd.prog 28 #[.pointer (some ⟨Z, 0, none⟩)] W (Bl.ErrP W (Bl.errQ t.1 t.2))) := ⟨fun W t q => Bl.err_any base W Z A c S t.1 t.2 q⟩
  have KN : Aside (∀ (W : World) (t : St), Bl.RD base W Z A c S t.1 t.2 → Calls Tryd.prog 33 #[.agg #[.pointer (some ⟨Z, 0, none⟩)]] W fun e w' => ∃ (Au : Option Addr) (nu cu : Nat), e = .returned (.slice Au nu cu) ∧ Rk base Z A c S W (coreS S t).2 w' ∧ E_core Z w' ([.slice Au nu cu]) (coreS S t).1) := ⟨fun W t q => (core_any hS W t q).mono fun _ _ z => core_next W t q z⟩
  clear h
  go_enter Tryd.func32, Tryd.ntmps32
  go_wp2_with fail
  go_loopg [7, 9] n (fun q s7 i wr => ∃ (k : Nat) (acc : List (List Win)) (css : List (List Value)) (t : St) (v : Value), k ≤ n ∧ q = n - k ∧ v = s7 ∧ i = .int .i64 k ∧ Aside (MSt base Z A c S 49 1 (E_core Z) (coreS S) w s n k acc css t v wr))
  case atStart => exact ⟨0, [], [], s, _, by omega, rfl, rfl, rfl, ⟨MSt.start H0.out⟩⟩
  case round =>
    obtain ⟨k, acc, css, t, v, hk, rfl, rfl, rfl, M⟩ := hrel
    by_cases hkn : k < n
    · have hki : (k : Int) < (n : Int) := by omega
      have KE1 := Aside.mk (KE.out wr t M.out.rk.rd)
      cases ht : t.2 with
      | true =>
        rw [ht] at KE1
        have HT := Aside.mk ht
        clear ht
        unfold Bl.ErrP Bl.errQ at KE1
        simp only [if_true] at KE1
        go_wp2_with fail
        refine KE1.out.mono ?_
        rintro e w2 ⟨b2, f, rfl, _, _⟩
        have B2 := Aside.mk b2
        clear b2
        go_wp2_with fail
        go_ret
        refine ⟨_, [], rfl, ?_, ?_⟩
        · rw [M.out.same, many_bad _ _ _ _ HT.out (by omega)]
          exact RowsR.nil _ _ _ _ _
        · rw [M.out.same, many_bad _ _ _ _ HT.out (by omega)]
          exact M.out.rk.below B2.out
      | false =>
        rw [ht] at KE1
        have HT := Aside.mk ht
        clear ht
        unfold Bl.ErrP Bl.errQ at KE1
        simp only [Bool.false_eq_true, if_false] at KE1
        go_wp2_with fail
        refine KE1.out.mono ?_
        rintro e w2 ⟨b2, rfl⟩
        have K2 := Aside.mk (KN.out w2 t (M.out.rk.rd.below b2))
        have B2 := Aside.mk b2
        clear b2
        go_wp2_with fail
        refine K2.out.mono ?_
        rintro e w3 ⟨Au, nu, cu, rfl, r3, e3⟩
        have R3 : Aside (Rk base Z A c S wr (coreS S t).2 w3) := ⟨(Rk.then_ (s := t) ⟨M.out.rk.rd.below B2.out, Kept.of_below B2.out⟩ r3)⟩
        have E3 := Aside.mk e3
        have O3 : Aside (w3.ownsRow w.heap.size 49 1 v k css.flatten) := ⟨by
          have := own_kept M.out.rows.own R3.out.kept (fun r hr e => by have := own_base M.out.rows.own r hr; have := HZ.out; omega)
          rw [M.out.len] at this
          exact this⟩
        have L3 : w.heap.size ≤ w3.heap.size := Nat.le_trans M.out.rk.size R3.out.size
        clear r3 e3
        go_wp2_with (at_builtin; go_loud (refine append_elem w.heap.size rfl _ _ 23 49 _ 1 24 rfl Tryd.underlying23 info_core rfl (by decide) (by decide) v k css.flatten ([.slice Au nu cu]) rfl rfl rfl (by intro u hu; simp only [List.mem_cons, List.not_mem_nil, or_false] at hu; first | (rw [hu]; rfl) | (rcases hu with rfl | rfl | rfl | rfl | rfl | rfl <;> rfl)) O3.out L3 (by omega) ?_))
        intro v1 w4 o4 g4 _
        have M4 := Aside.mk (M.out.push hkn HT.out H0.out HZ.out (E1_core) (E2_core (by decide)) (by decide) R3.out _ E3.out rfl o4 g4)
        clear o4 g4
        go_wp2_with fail
        go_roundg (n - (k + 1))
        case measure => omega
        case rel => exact ⟨k + 1, _, _, _, _, by omega, rfl, rfl, by go_num, M4⟩
    · obtain rfl : k = n := by omega
      clear hkn hk
      go_wp2_with fail
      go_ret
      have hm := M.out.same
      rw [Nat.sub_self, manyS] at hm
      exact ⟨_, _, rfl, by rw [hm]; exact M.out.rows, by rw [hm]; exact M.out.rk⟩
theorem info_part : (Tryd.prog.info? 56).map (fun i => (i.zero, i.size, i.bytes)) = some (some (.agg #[.slice none 0 0, .int .u8 0, .slice none 0 0, .int .u8 0, .int .u8 0, .int .u8 0]), 6, 64) := by kernel_rfl
set_option maxHeartbeats 6400000 in
theorem many_part {base Z c : Nat} {A : Option Addr} {S : List Int} (hS : ∀ x ∈ S, 0 ≤ x ∧ x ≤ 255) (w : World) (s : St) (h : Bl.RD base w Z A c S s.1 s.2) (n : Nat) (hn : n ≤ 65535) :
    Calls Tryd.prog 34 #[.pointer (some ⟨Z, 0, none⟩), .int .i64 n, .func (.func 35) #[.agg #[.pointer (some ⟨Z, 0, none⟩)]] #[]] w (ManyP base Z A c S 56 6 (E_part Z) w (manyS (partS S) n s [])) := by
  have H0 := Aside.mk h
  have HZ := Aside.mk (rd_lt h)
  have KE : Aside (∀ (W : World) (t : St), Bl.RD base W Z A c S t.1 t.2 → Calls Tryd.prog 28 #[.pointer (some ⟨Z, 0, none⟩)] W (Bl.ErrP W (Bl.errQ t.1 t.2))) := ⟨fun W t q => Bl.err_any base W Z A c S t.1 t.2 q⟩
  have KN : Aside (∀ (W : World) (t : St), Bl.RD base W Z A c S t.1 t.2 → Calls Tryd.prog 35 #[.agg #[.pointer (some ⟨Z, 0, none⟩)]] W fun e w' => ∃ (A1 : Option Addr) (n1 c1 : Nat) (ev : Int) (A2 : Option Addr) (n2 c2 : Nat) (x0 x1 x2 : Int), e = .returned (.agg #[.slice A1 n1 c1, .int .u8 ev, .slice A2 n2 c2, .int .u8 x0, .int .u8 x1, .int .u8 x2]) ∧ Rk base Z A c S W (partS S t).2 w' ∧ E_part Z w' ([.slice A1 n1 c1, .int .u8 ev, .slice A2 n2 c2, .int .u8 x0, .int .u8 x1, .int .u8 x2]) (partS S t).1) := ⟨fun W t q => (part_any hS W t q).mono fun _ _ z => z⟩
  clear h
  go_enter Tryd.func34, Tryd.ntmps34
  go_wp2_with fail
  go_loopg [7, 9] n (fun q s7 i wr => ∃ (k : Nat) (acc : List PartR) (css : List (List Value)) (t : St) (v : Value), k ≤ n ∧ q = n - k ∧ v = s7 ∧ i = .int .i64 k ∧ Aside (MSt base Z A c S 56 6 (E_part Z) (partS S) w s n k acc css t v wr))
  case atStart => exact ⟨0, [], [], s, _, by omega, rfl, rfl, rfl, ⟨MSt.start H0.out⟩⟩
  case round =>
    obtain ⟨k, acc, css, t, v, hk, rfl, rfl, rfl, M⟩ := hrel
    by_cases hkn : k < n
    · have hki : (k : Int) < (n : Int) := by omega
      have KE1 := Aside.mk (KE.out wr t M.out.rk.rd)
      cases ht : t.2 with
      | true =>
        rw [ht] at KE1
        have HT := Aside.mk ht
        clear ht
        unfold Bl.ErrP Bl.errQ at KE1
        simp only [if_true] at KE1
        go_wp2_with fail
        refine KE1.out.mono ?_
        rintro e w2 ⟨b2, f, rfl, _, _⟩
        have B2 := Aside.mk b2
        clear b2
        go_wp2_with fail
        go_ret
        refine ⟨_, [], rfl, ?_, ?_⟩
        · rw [M.out.same, many_bad _ _ _ _ HT.out (by omega)]
          exact RowsR.nil _ _ _ _ _
        · rw [M.out.same, many_bad _ _ _ _ HT.out (by omega)]
          exact M.out.rk.below B2.out
      | false =>
        rw [ht] at KE1
        have HT := Aside.mk ht
        clear ht
        unfold Bl.ErrP Bl.errQ at KE1
        simp only [Bool.false_eq_true, if_false] at KE1
        go_wp2_with fail
        refine KE1.out.mono ?_
        rintro e w2 ⟨b2, rfl⟩
        have K2 := Aside.mk (KN.out w2 t (M.out.rk.rd.below b2))
        have B2 := Aside.mk b2
        clear b2
        go_wp2_with fail
        refine K2.out.mono ?_
        rintro e w3 ⟨A1, n1, c1, ev, A2, n2, c2, x0, x1, x2, rfl, r3, e3⟩
        have R3 : Aside (Rk base Z A c S wr (partS S t).2 w3) := ⟨(Rk.then_ (s := t) ⟨M.out.rk.rd.below B2.out, Kept.of_below B2.out⟩ r3)⟩
        have E3 := Aside.mk e3
        have O3 : Aside (w3.ownsRow w.heap.size 56 6 v k css.flatten) := ⟨by
          have := own_kept M.out.rows.own R3.out.kept (fun r hr e => by have := own_base M.out.rows.own r hr; have := HZ.out; omega)
          rw [M.out.len] at this
          exact this⟩
        have L3 : w.heap.size ≤ w3.heap.size := Nat.le_trans M.out.rk.size R3.out.size
        clear r3 e3
        go_wp2_with (at_builtin; go_loud (refine append_elem w.heap.size rfl _ _ 24 56 _ 6 64 rfl Tryd.underlying24 info_part rfl (by decide) (by decide) v k css.flatten ([.slice A1 n1 c1, .int .u8 ev, .slice A2 n2 c2, .int .u8 x0, .int .u8 x1, .int .u8 x2]) rfl rfl rfl (by intro u hu; simp only [List.mem_cons, List.not_mem_nil, or_false] at hu; first | (rw [hu]; rfl) | (rcases hu with rfl | rfl | rfl | rfl | rfl | rfl <;> rfl)) O3.out L3 (by omega) ?_))
        intro v1 w4 o4 g4 _
        have M4 := Aside.mk (M.out.push hkn HT.out H0.out HZ.out (E1_part) (E2_part (by decide)) (by decide) R3.out _ E3.out rfl o4 g4)
        clear o4 g4
        go_wp2_with fail
        go_roundg (n - (k + 1))
        case measure => omega
        case rel => exact ⟨k + 1, _, _, _, _, by omega, rfl, rfl, by go_num, M4⟩
    · obtain rfl : k = n := by omega
      clear hkn hk
      go_wp2_with fail
      go_ret
      have hm := M.out.same
      rw [Nat.sub_self, manyS] at hm
      exact ⟨_, _, rfl, by rw [hm]; exact M.out.rows, by rw [hm]; exact M.out.rk⟩
end Go.Proofs.YtbphlapdhcgikaaDoor
