/- Layer 2: the document's reader: Err, End; same. -/
import Derived.Test.YtdfbiofmfjmkaaaDoorBlbK
namespace Go.Proofs.YtdfbiofmfjmkaaaDoor
open Go.RowKit
set_option linter.unusedVariables false
set_option linter.unusedSimpArgs false

theorem rerr_any (w : World) (s : ByteArray) (a : Nat) (b : Bool) : Calls Tryd.prog 20 #[mV s a b] w (WhyP w (numQ (errQ a b)) (atQ (errQ a b))) := by
  have hM := heap_alloc_new w (.cells #[.string s, .int .i64 a, .bool b] 43)
  obtain ⟨x0, x1, x2, f0, f1, f2⟩ := box3 hM
  unfold mV WhyP
  cases b with
  | true =>
    simp only [errQ, if_true, numQ, atQ]
    go_enter Tryd.func20, Tryd.ntmps20
    go_upto_region 2 with (fail)
    go_quiet (fail)
    go_wp2_with fail
    go_ret2
    exact ⟨rfl, bel_then (bel_one _ _) (below_drewN _ _)⟩
  | false =>
    simp only [errQ, Bool.false_eq_true, if_false, numQ, atQ]
    go_enter Tryd.func20, Tryd.ntmps20
    go_wp2_with fail
    go_ret2
    exact ⟨rfl, bel_one _ _⟩
theorem rend_any (w : World) (s : ByteArray) (a : Nat) (b : Bool) : Calls Tryd.prog 21 #[mV s a b] w (WhyP w (numQ (endQ (strL s) a b)) (atQ (endQ (strL s) a b))) := by
  have hM := heap_alloc_new w (.cells #[.string s, .int .i64 a, .bool b] 43)
  obtain ⟨x0, x1, x2, f0, f1, f2⟩ := box3 hM
  have KE := Aside.mk (rerr_any (w.alloc (.cells #[.string s, .int .i64 a, .bool b] 43)) s a b)
  have hsl := strL_len s
  unfold mV WhyP at KE
  unfold mV WhyP
  cases b with
  | true =>
    simp only [endQ, if_true, numQ, atQ]
    simp only [errQ, if_true, numQ, atQ] at KE
    go_enter Tryd.func21, Tryd.ntmps21
    go_wp2_with fail
    refine KE.out.mono ?_
    rintro e w2 ⟨rfl, b2⟩
    go_wp2_with fail
    go_ret2
    exact ⟨rfl, bel_then (bel_one _ _) b2⟩
  | false =>
    simp only [errQ, Bool.false_eq_true, if_false, numQ, atQ] at KE
    by_cases h : a < s.size
    · have h' : (a : Int) < ((s.size : Nat) : Int) := by omega
      have hq : endQ (strL s) a false = some (a, 21) := by simp [endQ, hsl, h]
      rw [hq]
      simp only [numQ, atQ]
      clear hq
      go_enter Tryd.func21, Tryd.ntmps21
      go_upto_region 2 with (fail)
      go_quiet (fail)
      go_wp2_with fail
      go_ret2
      exact ⟨rfl, bel_then (bel_one _ _) (below_drewN _ _)⟩
    · have h' : ¬ (a : Int) < ((s.size : Nat) : Int) := by omega
      have hq : endQ (strL s) a false = none := by simp [endQ, hsl, h]
      rw [hq]
      simp only [numQ, atQ]
      clear hq
      go_enter Tryd.func21, Tryd.ntmps21
      go_wp2_with fail
      refine KE.out.mono ?_
      rintro e w2 ⟨rfl, b2⟩
      go_wp2_with fail
      go_ret2
      exact ⟨rfl, bel_then (bel_one _ _) b2⟩
set_option maxHeartbeats 1600000 in
theorem lsame_eq (w : World) (v : Value) (s : ByteArray) (hv : Ints w .u8 v (strL s)) (hs : s.size ≤ 140737488355328) : Calls Tryd.prog 29 #[v, .string s] w fun e w' => e = .returned (.bool true) ∧ Below w.heap.size w w' := by
  obtain ⟨A, c, rfl, _, hc⟩ := hv
  have HC := Aside.mk hc
  have hsl := strL_len s
  rw [hsl] at HC ⊢
  clear hc
  go_enter Tryd.func29, Tryd.ntmps29
  go_wp2_with fail
  go_loopg [5] s.size (fun g i wr => ∃ k m : Nat, k ≤ s.size ∧ g = s.size - k ∧ i = .int .i64 k ∧ w.drewN m = wr)
  case atStart => exact ⟨0, 0, by omega, rfl, rfl, rfl⟩
  case round =>
    obtain ⟨k, m, hk, rfl, rfl, rfl⟩ := hrel
    by_cases hlt : k < s.size
    · obtain ⟨ad, rfl, hd⟩ := HC.out (by omega)
      have c0 := hd k hlt
      have hx : (strL s).getD k 0 = ((s[k]'hlt).toNat : Int) := by
        rw [List.getD_eq_getElem?_getD, List.getElem?_eq_getElem (by omega)]
        simp only [Option.getD_some, strL, List.getElem_map]
        rfl
      rw [hx] at c0
      clear hd hx
      go_wp2_with fail
      go_quiet (fail)
      go_wp2_with fail
      trace_state
      go_roundg (s.size - (k + 1))
      case measure => omega
      case rel => exact ⟨k + 1, _, by omega, rfl, by go_num, rfl⟩
    · obtain rfl : k = s.size := by omega
      clear hlt
      go_wp2_with fail
      go_ret
      exact ⟨rfl, below_drewN _ _⟩
end Go.Proofs.YtdfbiofmfjmkaaaDoor
