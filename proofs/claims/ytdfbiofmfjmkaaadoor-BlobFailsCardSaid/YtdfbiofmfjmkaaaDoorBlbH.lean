/- Layer 2: the law BlobPieces. -/
import Derived.Test.YtdfbiofmfjmkaaaDoorBlbG
namespace Go.Proofs.YtdfbiofmfjmkaaaDoor
open Go.RowKit
set_option linter.unusedVariables false
set_option linter.unusedSimpArgs false

theorem ext_str (s : ByteArray) (a b : Nat) : s.extract a b = strOfNums (((strL s).drop a).take (b - a)) := by
  conv => lhs; rw [← nums_str s]
  unfold strOfNums
  rw [ByteArray.extract_mk, ← List.map_drop, ← List.map_take]
theorem add_str (L M : List Int) : strOfNums L ++ strOfNums M = strOfNums (L ++ M) := by
  unfold strOfNums
  apply ByteArray.ext
  simp [ByteArray.data_append]
theorem take_more (S : List Int) (at_ : Nat) (bad : Bool) (n : Int) : S.take at_ ++ takeL S at_ bad n = S.take (takeA S at_ bad n) := by
  unfold takeL takeA
  split
  · simp
  · rw [List.take_add]
theorem takeA_le (S : List Int) (at_ : Nat) (bad : Bool) (n : Int) (h : at_ ≤ S.length) : takeA S at_ bad n ≤ S.length := by
  unfold takeA
  split <;> omega
theorem takeA_sum (S : List Int) (at_ : Nat) (bad : Bool) (n : Int) (h0 : 0 ≤ n) (h : takeB S at_ bad n = false) : bad = false ∧ (takeA S at_ bad n : Int) = at_ + n := by
  unfold takeB at h
  unfold takeA
  cases bad with
  | true => simp at h
  | false =>
    refine ⟨rfl, ?_⟩
    by_cases h1 : n < 1
    · simp [h1]; omega
    · simp only [Bool.false_eq_true, false_or, h1, if_false, decide_eq_false_iff_not] at h ⊢
      rw [if_neg h]
      omega
theorem sum_le (L : List Int) (hL : ∀ x ∈ L, 0 ≤ x ∧ x ≤ 255) : 0 ≤ L.sum ∧ L.sum ≤ 255 * L.length := by
  induction L with
  | nil => simp
  | cons a l ih =>
    have := ih (fun x hx => hL x (by simp [hx]))
    have := hL a (by simp)
    simp only [List.sum_cons, List.length_cons]
    omega
theorem sum_next (L : List Int) (k : Nat) (hk : k < L.length) : (L.take (k + 1)).sum = (L.take k).sum + L.getD k 0 := by
  rw [List.take_succ_eq_append_getElem hk, List.sum_append]
  simp [List.getD_eq_getElem?_getD, hk]
set_option maxHeartbeats 1600000 in
theorem total_any (w : World) (v : Value) (L : List Int) (hv : Ints w .u8 v L) (hl : L.length ≤ 300) (hL : ∀ x ∈ L, 0 ≤ x ∧ x ≤ 255) :
    Calls Tryd.prog 14 #[v] w fun e w' => e = .returned (.int .i64 L.sum) ∧ w' = w := by
  obtain ⟨A, c, rfl, _, hc⟩ := hv
  have HC := Aside.mk hc
  have HL := Aside.mk hL
  clear hc hL
  go_enter Tryd.func14, Tryd.ntmps14
  go_wp2_with fail
  go_loopg [3, 4] L.length (fun g s3 s4 wr => ∃ k : Nat, k ≤ L.length ∧ g = L.length - k ∧ s3 = .int .i64 (L.take k).sum ∧ s4 = .int .i64 k ∧ w = wr)
  case atStart => exact ⟨0, by omega, rfl, by simp, rfl, rfl⟩
  case round =>
    obtain ⟨k, hk, rfl, rfl, rfl, rfl⟩ := hrel
    by_cases hlt : k < L.length
    · obtain ⟨ad, rfl, hd⟩ := HC.out (by omega)
      have c0 := hd k hlt
      obtain ⟨x, hx⟩ : ∃ x, L.getD k 0 = x := ⟨_, rfl⟩
      have hxr : 0 ≤ x ∧ x ≤ 255 := by rw [← hx, List.getD_eq_getElem?_getD, List.getElem?_eq_getElem hlt]; exact HL.out _ (List.getElem_mem hlt)
      have hsm := sum_le (L.take k) (fun y hy => HL.out y (List.mem_of_mem_take hy))
      have hlk : (L.take k).length ≤ 300 := by rw [List.length_take]; omega
      have HN := Aside.mk (sum_next L k hlt)
      obtain ⟨t, ht⟩ : ∃ t, (L.take k).sum = t := ⟨_, rfl⟩
      rw [ht] at hsm HN ⊢
      rw [hx] at c0 HN
      have hw1 : IntKind.i64.wrap x = x := IntWalk.i64_in _ (by omega)
      have hw2 : IntKind.i64.wrap (t + x) = t + x := IntWalk.i64_in _ (by omega)
      clear hsm hxr hlk hd hx ht
      go_wp2_with fail
      go_roundg (L.length - (k + 1))
      case measure => omega
      case rel => exact ⟨k + 1, by omega, rfl, by rw [HN.out], by go_num, rfl⟩
    · obtain rfl : k = L.length := by omega
      rw [List.take_length]
      clear hlt hk
      go_wp2_with fail
      go_ret
      exact ⟨rfl, rfl⟩
set_option maxHeartbeats 3200000 in
set_option maxRecDepth 100000 in
theorem pieces_any (w : World) (s : ByteArray) (v : Value) (L : List Int) (hg : ETy w) (hs : s.size ≤ 140737488355328) (hv : Ints w .u8 v L) (hL : ∀ x ∈ L, 0 ≤ x ∧ x ≤ 255) :
    Calls Tryd.prog 3 #[.string s, v] w fun e w' => e = .returned (.bool true) ∧ Below w.heap.size w w' := by
  have HG := Aside.mk hg
  have HV := Aside.mk hv
  have HL := Aside.mk hL
  obtain ⟨Av, cv, rfl, hLl, _⟩ := hv
  obtain ⟨c1, W1, hcv, b1, hrow, hc1⟩ := bytes_of w s
  have hsl := strL_len s
  have hrow := hrow
  obtain ⟨X, hX⟩ := hrow
  have hI1 : Ints W1 .u8 (.slice (some ⟨w.heap.size, 0, none⟩) s.size c1) (strL s) := by
    have := ints_of_blk (c := c1) hX (by omega)
    rwa [hsl] at this
  have KN := Aside.mk (new_any W1 _ (strL s) hI1 (by omega))
  have HS := Aside.mk (strL_byte s)
  have HX : Aside (∀ a, a ≤ s.size → s.extract 0 a = strOfNums ((strL s).take a) ∧ (strOfNums ((strL s).take a)).size = a) := ⟨fun a ha => ⟨by rw [ext_str]; simp, by rw [strOfNums_size, List.length_take, hsl]; omega⟩⟩
  have B1 := Aside.mk b1
  obtain ⟨S, hS⟩ : ∃ S, strL s = S := ⟨_, rfl⟩
  rw [hS] at KN HS HX hsl
  clear hX hI1 b1 hg hL
  go_enter Tryd.func3, Tryd.ntmps3
  go_wp2_with fail
  refine KN.out.mono ?_
  rintro e w2 ⟨Z, A, c, rfl, hR, b2⟩
  have R2 := Aside.mk hR
  have B2 := Aside.mk (bel_then B1.out b2)
  have hbase := B1.out.size
  clear hR b2 hcv
  go_wp2_with fail
  refine (awake_any w2 (HG.out.below B2.out)).mono ?_
  rintro e w3 ⟨rfl, b3⟩
  have R3 := Aside.mk (R2.out.below b3)
  have B3 := Aside.mk (bel_then B2.out b3)
  clear b3
  go_wp2_with fail
  go_loopg [6, 7] L.length (fun g s6 s7 wr => ∃ (k a : Nat) (bad : Bool), k ≤ L.length ∧ k ≤ 300 ∧ a ≤ S.length ∧ g = L.length - k ∧ s6 = .string (strOfNums (S.take a)) ∧ s7 = .int .i64 k ∧ Aside (RD W1.heap.size wr Z A c S a bad ∧ Below w.heap.size w wr ∧ (bad = false → (a : Int) = (L.take k).sum)))
  case atStart => exact ⟨0, 0, false, by omega, by omega, by omega, rfl, by simp [strOfNums], rfl, ⟨R3.out, B3.out, fun _ => by simp⟩⟩
  case round =>
    obtain ⟨k, a, bad, hk, hk3, ha, rfl, rfl, rfl, hst⟩ := hrel
    have hsz := (HX.out a (by omega)).2
    have hex := (HX.out a (by omega)).1
    by_cases hlt : k < L.length ∧ k < 300
    · obtain ⟨hlt, hlt3⟩ := hlt
      have hlt' : (k : Int) < 300 := by omega
      obtain ⟨Av', cv', e', _, hd⟩ := HV.out.below hst.out.2.1
      injection e' with e1 e2 e3
      subst e1 e3
      obtain ⟨ad, rfl, hd2⟩ := hd (by omega)
      have c0 := hd2 k hlt
      obtain ⟨x, hx⟩ : ∃ x, L.getD k 0 = x := ⟨_, rfl⟩
      have hxr : 0 ≤ x ∧ x ≤ 255 := by rw [← hx, List.getD_eq_getElem?_getD, List.getElem?_eq_getElem hlt]; exact HL.out _ (List.getElem_mem hlt)
      have HN := Aside.mk (sum_next L k hlt)
      rw [hx] at c0 HN
      have hw1 : IntKind.i64.wrap x = x := IntWalk.i64_in _ (by omega)
      have KT := Aside.mk (text_any W1.heap.size wr Z A c S a bad x hst.out.1 (by omega) (by omega))
      have hM : Aside (strOfNums (S.take a) ++ strOfNums (takeL S a bad x) = strOfNums (S.take (takeA S a bad x)) ∧ takeA S a bad x ≤ S.length) := ⟨by rw [add_str, take_more], takeA_le S a bad x ha⟩
      have hM2 := Aside.mk (takeA_sum S a bad x hxr.1)
      have hsum : ¬ (9223372036854775807 < (strOfNums (S.take a)).size + (strOfNums (takeL S a bad x)).size) := by
        have := strOfNums_size (takeL S a bad x)
        have : (takeL S a bad x).length ≤ S.length := by
          unfold takeL
          split
          · simp
          · rw [List.length_take, List.length_drop]; omega
        omega
      clear hd hd2 hx hxr e2 hex
      go_wp2_with fail
      refine KT.out.mono ?_
      rintro e w4 h
      obtain ⟨rfl, hR, hB⟩ := h.get hst.out.2.1 (by omega) hst.out.1
      have H4 := Aside.mk (And.intro hR hB)
      clear h hR hB
      go_wp2_with fail
      rw [hM.out.1]
      go_roundg (L.length - (k + 1))
      case measure => omega
      case rel => exact ⟨k + 1, takeA S a bad x, takeB S a bad x, by omega, by omega, hM.out.2, rfl, rfl, by go_num, ⟨H4.out.1, H4.out.2, fun hb => by obtain ⟨h1, h2⟩ := hM2.out hb; rw [HN.out, ← hst.out.2.2 h1, h2]⟩⟩
    · have KA := Aside.mk (at_any W1.heap.size wr Z A c S a bad hst.out.1)
      have KE := Aside.mk (err_any W1.heap.size wr Z A c S a bad hst.out.1)
      obtain ⟨G, hG⟩ : ∃ G, strOfNums (S.take a) = G := ⟨_, rfl⟩
      rw [hG] at hsz hex ⊢
      have hsa : ((G.size : Nat) : Int) = (a : Int) := by omega
      have hsa2 : ¬ ((s.size : Nat) : Int) < (a : Int) := by omega
      have hsa3 : (a : Int) ≤ ((s.size : Nat) : Int) := by omega
      have hsum : bad = false → k = L.length → L.sum = (a : Int) := fun h1 h2 => by have := hst.out.2.2 h1; rw [h2, List.take_length] at this; omega
      have HSM := Aside.mk hsum
      clear hG hsum
      by_cases hkl : k < L.length
      · obtain rfl : k = 300 := by omega
        have hl3 : (300 : Int) < (L.length : Int) := by omega
        clear hlt hk hk3
        go_wp2_with fail
        refine KA.out.mono ?_
        rintro e w4 ⟨rfl, rfl⟩
        go_wp2_with fail
        refine KE.out.mono ?_
        rintro e w5 ⟨b5, h5⟩
        have B5 := Aside.mk (bel_then hst.out.2.1 b5)
        clear b5
        cases bad with
        | true =>
          obtain ⟨f, rfl, _, _⟩ := h5
          go_wp2_with fail
          go_ret
          exact ⟨rfl, B5.out⟩
        | false =>
          obtain rfl := h5
          go_wp2_with fail
          go_ret
          exact ⟨rfl, B5.out⟩
      · obtain rfl : k = L.length := by omega
        have hl3 : ¬ (300 : Int) < (L.length : Int) := by omega
        clear hlt hk hkl
        go_wp2_with fail
        refine KA.out.mono ?_
        rintro e w4 ⟨rfl, rfl⟩
        go_wp2_with fail
        refine KE.out.mono ?_
        rintro e w5 ⟨b5, h5⟩
        have KT := Aside.mk (total_any w5 _ L (HV.out.below (bel_then hst.out.2.1 b5)) hk3 HL.out)
        have B5 := Aside.mk (bel_then hst.out.2.1 b5)
        clear b5
        cases bad with
        | true =>
          obtain ⟨f, rfl, _, _⟩ := h5
          go_wp2_with fail
          go_ret
          exact ⟨rfl, B5.out⟩
        | false =>
          obtain rfl := h5
          have hsum := HSM.out rfl trivial
          go_wp2_with fail
          refine KT.out.mono ?_
          rintro e w6 ⟨rfl, rfl⟩
          rw [hsum]
          go_wp2_with fail
          go_ret
          exact ⟨rfl, B5.out⟩
end Go.Proofs.YtdfbiofmfjmkaaaDoor