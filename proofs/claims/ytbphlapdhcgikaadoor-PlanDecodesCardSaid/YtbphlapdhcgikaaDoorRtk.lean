/- The reference's reader: Take, Err, End. -/
import Derived.Test.YtbphlapdhcgikaaDoorLxC
namespace Go.Proofs.YtbphlapdhcgikaaDoor
open Go.RowKit
set_option linter.unusedVariables false
set_option linter.unusedSimpArgs false

namespace Bl
theorem ext_str (s : ByteArray) (a b : Nat) : s.extract a b = strOfNums (((strL s).drop a).take (b - a)) := by
  conv => lhs; rw [← nums_str s]
  unfold strOfNums
  rw [ByteArray.extract_mk, ← List.map_drop, ← List.map_take]
def numR (q : Option (Nat × Int)) : Int := match q with | none => 0 | some (_, n) => n
def atR (q : Option (Nat × Int)) : Nat := match q with | none => 0 | some (a, _) => a
def mV (s : ByteArray) (a : Nat) (b : Bool) : Value := .agg #[.string s, .int .i64 a, .bool b]
theorem set3c_at {w : World} {B : Nat} {x0 x1 x2 : Value} {t : TypeId} (h : w.heap[B]? = some (.cells #[x0, x1, x2] t (0, 0))) (a b c : Value) : (((w.setCell ⟨B, 0, none⟩ a).setCell ⟨B, 1, none⟩ b).setCell ⟨B, 2, none⟩ c).heap[B]? = some (.cells #[a, b, c] t (0, 0)) := by
  have h0 := heap_setCell_at (off := 0) h a
  have h1 := heap_setCell_at (off := 1) h0 b
  have h2 := heap_setCell_at (off := 2) h1 c
  simpa using h2
theorem set3c_below {w0 w : World} {B : Nat} (h : Below w0.heap.size w0 w) (hB : w0.heap.size ≤ B) (a b c : Value) : Below w0.heap.size w0 (((w.setCell ⟨B, 0, none⟩ a).setCell ⟨B, 1, none⟩ b).setCell ⟨B, 2, none⟩ c) :=
  ((h.setCell (p := ⟨B, 0, none⟩) hB a).setCell (p := ⟨B, 1, none⟩) hB b).setCell (p := ⟨B, 2, none⟩) hB c
def RTakeP (w : World) (s : ByteArray) (a : Nat) (b : Bool) (n : Int) (e : Ending) (w' : World) : Prop :=
  e = .returned (.tuple #[mV s (takeA (strL s) a b n) (takeB (strL s) a b n), .string (strOfNums (takeL (strL s) a b n))]) ∧ Below w.heap.size w w'
set_option maxHeartbeats 3200000 in
theorem rtake_any (w : World) (s : ByteArray) (a : Nat) (b : Bool) (n : Int) (ha : a ≤ s.size) (hs : s.size ≤ 140737488355328) (h0 : -9223372036854775808 ≤ n) (h1 : n ≤ 9223372036854775807) :
    Calls Tryd.prog 41 #[mV s a b, .int .i64 n] w (RTakeP w s a b n) := by
  have hsl := strL_len s
  obtain ⟨W2, HW⟩ : ∃ W2, Aside (W2 = (w.alloc (.cells #[.string s, .int .i64 a, .bool b] 93)).alloc (.cells #[.string ⟨#[]⟩, .int .i64 0, .bool false] 93)) := ⟨_, ⟨rfl⟩⟩
  have K2 : Below w.heap.size w W2 := by rw [HW.out]; exact bel_then (bel_one _ _) (bel_one _ _)
  have hM : W2.heap[w.heap.size]? = some (.cells #[.string s, .int .i64 a, .bool b] 93 (0, 0)) := by rw [HW.out]; exact hup (bel_one _ _) (heap_alloc_new w _)
  have hT : W2.heap[w.heap.size + 1]? = some (.cells #[.string ⟨#[]⟩, .int .i64 0, .bool false] 93 (0, 0)) := by
    rw [HW.out]
    have := heap_alloc_new (w.alloc (.cells #[.string s, .int .i64 a, .bool b] 93)) (.cells #[.string ⟨#[]⟩, .int .i64 0, .bool false] 93)
    simpa using this
  have H2 := Aside.mk (And.intro K2 (And.intro hM hT))
  obtain ⟨x0, x1, x2, f0, f1, f2⟩ := box3 hM
  obtain ⟨y0, y1, y2, z0, z1, z2⟩ := box3 hT
  clear K2 hM hT
  unfold mV
  by_cases hb : b = true ∨ n < 1
  · have hA : Aside (RTakeP w s a b n = fun e w' => e = .returned (.tuple #[.agg #[.string s, .int .i64 a, .bool b], .string ⟨#[]⟩]) ∧ Below w.heap.size w w') := ⟨by
      funext e w'
      rcases hb with rfl | hb
      · simp [RTakeP, mV, takeA, takeB, takeL, strOfNums]
      · simp [RTakeP, mV, takeA, takeB, takeL, strOfNums, hb]⟩
    rw [hA.out]
    cases b with
    | true =>
      clear hA hb
      go_enter Tryd.func41, Tryd.ntmps41
      go_upto_region 1 with (fail)
      rw [← HW.out]
      go_wp2_with fail
      have q := set3c_at H2.out.2.2 (.string s) (.int .i64 a) (.bool true)
      obtain ⟨u0, u1, u2, _⟩ := box3 q
      exact bodyPost_ret (v := .tuple #[.agg #[.string s, .int .i64 a, .bool true], .string ⟨#[]⟩]) (by simp [results, Tryd.results41, go_sem, u0, u1, u2]) rfl ⟨rfl, set3c_below H2.out.1 (by omega) _ _ _⟩
    | false =>
      have hn : n < 1 := by simpa using hb
      clear hA hb
      go_enter Tryd.func41, Tryd.ntmps41
      go_upto_region 1 with (fail)
      rw [← HW.out]
      go_wp2_with fail
      have q := set3c_at H2.out.2.2 (.string s) (.int .i64 a) (.bool false)
      obtain ⟨u0, u1, u2, _⟩ := box3 q
      exact bodyPost_ret (v := .tuple #[.agg #[.string s, .int .i64 a, .bool false], .string ⟨#[]⟩]) (by simp [results, Tryd.results41, go_sem, u0, u1, u2]) rfl ⟨rfl, set3c_below H2.out.1 (by omega) _ _ _⟩
  · have hb0 : b = false := by cases b <;> simp_all
    subst hb0
    have hn : ¬ n < 1 := by simpa using hb
    obtain ⟨m, rfl⟩ := Int.eq_ofNat_of_zero_le (by omega : 0 ≤ n)
    have hw : IntKind.i64.wrap (((s.size : Nat) : Int) - (a : Int)) = ((s.size : Nat) : Int) - a := IntWalk.i64_in _ (by omega)
    have hlt : w.heap.size ≠ w.heap.size + 1 := by omega
    by_cases hc : ((s.size : Nat) : Int) - a < m
    · have hA : Aside (RTakeP w s a false m = fun e w' => e = .returned (.tuple #[.agg #[.string s, .int .i64 a, .bool true], .string ⟨#[]⟩]) ∧ Below w.heap.size w w') := ⟨by
        funext e w'
        simp [RTakeP, mV, takeA, takeB, takeL, strOfNums, hsl, hc, hn]⟩
      rw [hA.out]
      obtain ⟨W3, HW3⟩ : ∃ W3, Aside (W3 = W2.setCell ⟨w.heap.size, 2, none⟩ (.bool true)) := ⟨_, ⟨rfl⟩⟩
      have H3 : Aside (Below w.heap.size w W3 ∧ W3.heap[w.heap.size]? = some (.cells #[.string s, .int .i64 a, .bool true] 93 (0, 0)) ∧ W3.heap[w.heap.size + 1]? = some (.cells #[.string ⟨#[]⟩, .int .i64 0, .bool false] 93 (0, 0))) := ⟨by
        rw [HW3.out]
        refine ⟨H2.out.1.setCell (p := ⟨w.heap.size, 2, none⟩) (Nat.le_refl _) _, ?_, (Below.heap_setCell _ _ _ _ (by show w.heap.size + 1 ≠ w.heap.size; omega)).trans H2.out.2.2⟩
        have := heap_setCell_at (off := 2) H2.out.2.1 (.bool true)
        simpa using this⟩
      clear hA hb
      go_enter Tryd.func41, Tryd.ntmps41
      go_upto_region 1 with (fail)
      rw [← HW.out]
      go_upto_region 5 with (fail)
      rw [← HW3.out]
      clear x0 x1 x2 f0 f1 f2 y0 y1 y2 z0 z1 z2
      obtain ⟨x0, x1, x2, f0, f1, f2⟩ := box3 H3.out.2.1
      obtain ⟨y0, y1, y2, z0, z1, z2⟩ := box3 H3.out.2.2
      go_wp2_with fail
      have q := set3c_at H3.out.2.2 (.string s) (.int .i64 a) (.bool true)
      obtain ⟨u0, u1, u2, _⟩ := box3 q
      exact bodyPost_ret (v := .tuple #[.agg #[.string s, .int .i64 a, .bool true], .string ⟨#[]⟩]) (by simp [results, Tryd.results41, go_sem, u0, u1, u2]) rfl ⟨rfl, set3c_below H3.out.1 (by omega) _ _ _⟩
    · have hm : a + m ≤ s.size := by omega
      have hA : Aside (RTakeP w s a false m = fun e w' => e = .returned (.tuple #[.agg #[.string s, .int .i64 ((a : Int) + m), .bool false], .string (s.extract a (a + m))]) ∧ Below w.heap.size w w') := ⟨by
        funext e w'
        rw [ext_str, show a + m - a = m by omega]
        simp [RTakeP, mV, takeA, takeB, takeL, hsl, hc, hn]⟩
      rw [hA.out]
      have hw2 : IntKind.i64.wrap ((a : Int) + (m : Int)) = (a : Int) + m := IntWalk.i64_in _ (by omega)
      have g1 : (0 : Int) ≤ (a : Int) := by omega
      have g2 : (a : Int) ≤ (a : Int) + m := by omega
      have g3 : (a : Int) + m ≤ ((s.size : Nat) : Int) := by omega
      have g4 : ((a : Int) + m).toNat = a + m := by omega
      obtain ⟨W3, HW3⟩ : ∃ W3, Aside (W3 = W2.setCell ⟨w.heap.size, 1, none⟩ (.int .i64 ((a : Int) + m))) := ⟨_, ⟨rfl⟩⟩
      have H3 : Aside (Below w.heap.size w W3 ∧ W3.heap[w.heap.size]? = some (.cells #[.string s, .int .i64 ((a : Int) + m), .bool false] 93 (0, 0)) ∧ W3.heap[w.heap.size + 1]? = some (.cells #[.string ⟨#[]⟩, .int .i64 0, .bool false] 93 (0, 0))) := ⟨by
        rw [HW3.out]
        refine ⟨H2.out.1.setCell (p := ⟨w.heap.size, 1, none⟩) (Nat.le_refl _) _, ?_, (Below.heap_setCell _ _ _ _ (by show w.heap.size + 1 ≠ w.heap.size; omega)).trans H2.out.2.2⟩
        have := heap_setCell_at (off := 1) H2.out.2.1 (.int .i64 ((a : Int) + m))
        simpa using this⟩
      clear hA hb
      go_enter Tryd.func41, Tryd.ntmps41
      go_upto_region 1 with (fail)
      rw [← HW.out]
      go_upto_region 8 with (fail)
      rw [← HW3.out]
      clear x0 x1 x2 f0 f1 f2 y0 y1 y2 z0 z1 z2
      obtain ⟨x0, x1, x2, f0, f1, f2⟩ := box3 H3.out.2.1
      obtain ⟨y0, y1, y2, z0, z1, z2⟩ := box3 H3.out.2.2
      go_wp2_with fail
      have q := set3c_at H3.out.2.2 (.string s) (.int .i64 ((a : Int) + m)) (.bool false)
      obtain ⟨u0, u1, u2, _⟩ := box3 q
      exact bodyPost_ret (v := .tuple #[.agg #[.string s, .int .i64 ((a : Int) + m), .bool false], .string (s.extract a (a + m))]) (by simp [results, Tryd.results41, go_sem, u0, u1, u2]) rfl ⟨rfl, set3c_below H3.out.1 (by omega) _ _ _⟩
theorem rerr_any (w : World) (s : ByteArray) (a : Nat) (b : Bool) : Calls Tryd.prog 66 #[mV s a b] w (WhyP w (numR (errQ a b)) (atR (errQ a b))) := by
  have hM := heap_alloc_new w (.cells #[.string s, .int .i64 a, .bool b] 93)
  obtain ⟨x0, x1, x2, f0, f1, f2⟩ := box3 hM
  unfold mV WhyP
  cases b with
  | true =>
    simp only [errQ, if_true, numR, atR]
    go_enter Tryd.func66, Tryd.ntmps66
    go_upto_region 2 with (fail)
    go_quiet (fail)
    go_wp2_with fail
    go_ret2
    exact ⟨rfl, bel_then (bel_one _ _) (below_drewN _ _)⟩
  | false =>
    simp only [errQ, Bool.false_eq_true, if_false, numR, atR]
    go_enter Tryd.func66, Tryd.ntmps66
    go_wp2_with fail
    go_ret2
    exact ⟨rfl, bel_one _ _⟩
theorem rend_any (w : World) (s : ByteArray) (a : Nat) (b : Bool) : Calls Tryd.prog 43 #[mV s a b] w (WhyP w (numR (endQ (strL s) a b)) (atR (endQ (strL s) a b))) := by
  have hM := heap_alloc_new w (.cells #[.string s, .int .i64 a, .bool b] 93)
  obtain ⟨x0, x1, x2, f0, f1, f2⟩ := box3 hM
  have KE := Aside.mk (rerr_any (w.alloc (.cells #[.string s, .int .i64 a, .bool b] 93)) s a b)
  have hsl := strL_len s
  unfold mV WhyP at KE
  unfold mV WhyP
  cases b with
  | true =>
    simp only [endQ, if_true, numR, atR]
    simp only [errQ, if_true, numR, atR] at KE
    go_enter Tryd.func43, Tryd.ntmps43
    go_wp2_with fail
    refine KE.out.mono ?_
    rintro e w2 ⟨rfl, b2⟩
    go_wp2_with fail
    go_ret2
    exact ⟨rfl, bel_then (bel_one _ _) b2⟩
  | false =>
    simp only [errQ, Bool.false_eq_true, if_false, numR, atR] at KE
    by_cases h : a < s.size
    · have h' : (a : Int) < ((s.size : Nat) : Int) := by omega
      have hq : endQ (strL s) a false = some (a, 21) := by simp [endQ, hsl, h]
      rw [hq]
      simp only [numR, atR]
      clear hq
      go_enter Tryd.func43, Tryd.ntmps43
      go_upto_region 2 with (fail)
      go_quiet (fail)
      go_wp2_with fail
      go_ret2
      exact ⟨rfl, bel_then (bel_one _ _) (below_drewN _ _)⟩
    · have h' : ¬ (a : Int) < ((s.size : Nat) : Int) := by omega
      have hq : endQ (strL s) a false = none := by simp [endQ, hsl, h]
      rw [hq]
      simp only [numR, atR]
      clear hq
      go_enter Tryd.func43, Tryd.ntmps43
      go_wp2_with fail
      refine KE.out.mono ?_
      rintro e w2 ⟨rfl, b2⟩
      go_wp2_with fail
      go_ret2
      exact ⟨rfl, bel_then (bel_one _ _) b2⟩
end Bl
end Go.Proofs.YtbphlapdhcgikaaDoor
