/- Layer 2: the law BlobFails. -/
import Derived.Test.YtdfbiofmfjmkaaaDoorBlbO
import Derived.Test.YtdfbiofmfjmkaaaDoorBlbP
namespace Go.Proofs.YtdfbiofmfjmkaaaDoor
open Go.RowKit
set_option linter.unusedVariables false
set_option linter.unusedSimpArgs false

theorem take_bad (S : List Int) (a : Nat) (n : Int) : takeL S a true n = [] ∧ takeA S a true n = a ∧ takeB S a true n = true := by simp [takeL, takeA, takeB]
set_option maxHeartbeats 6400000 in
set_option maxRecDepth 100000 in
theorem fails_any (w : World) (s : ByteArray) (v u : Value) (L M : List AskR) (hg : ETy w) (hs : s.size ≤ 140737488355328) (hv : Asks w v L) (hu : Asks w u M) :
    Calls Tryd.prog 8 #[.string s, v, u] w fun e w' => e = .returned (.bool true) ∧ Below w.heap.size w w' := by
  have HG := Aside.mk hg
  have HV := Aside.mk hv
  have HU := Aside.mk hu
  obtain ⟨Av, cv, rfl, _, _, _⟩ := hv
  obtain ⟨Au, cu, rfl, _, _, _⟩ := hu
  have hLl : L.length ≤ 9223372036854775807 := by obtain ⟨a', cap', e, h1, h2, _⟩ := HV.out; cases e; omega
  have hMl : M.length ≤ 9223372036854775807 := by obtain ⟨a', cap', e, h1, h2, _⟩ := HU.out; cases e; omega
  obtain ⟨c1, W1, hcv, b1, ⟨X, hX⟩, hc1⟩ := bytes_of w s
  have hsl := strL_len s
  have hI1 : Ints W1 .u8 (.slice (some ⟨w.heap.size, 0, none⟩) s.size c1) (strL s) := by
    have := ints_of_blk (c := c1) hX (by omega)
    rwa [hsl] at this
  have KN := Aside.mk (new_any W1 _ (strL s) hI1 (by omega))
  have B1 := Aside.mk b1
  have hbase := b1.size
  have HS := Aside.mk (strL_byte s)
  obtain ⟨S, hS⟩ : ∃ S, strL s = S := ⟨_, rfl⟩
  rw [hS] at KN HS hsl
  clear hX hI1 b1 hg hc1 hS
  go_enter Tryd.func8, Tryd.ntmps8
  go_wp2_with fail
  refine KN.out.mono ?_
  rintro e w2 ⟨Z, A, c, rfl, hR, b2⟩
  have R2 := Aside.mk hR
  have B2 := Aside.mk (bel_then B1.out b2)
  clear hR b2 hcv
  go_wp2_with fail
  refine (awake_any w2 (HG.out.below B2.out)).mono ?_
  rintro e w3 ⟨rfl, b3⟩
  have R3 := Aside.mk (R2.out.below b3)
  have B3 := Aside.mk (bel_then B2.out b3)
  clear b3
  go_wp2_with fail
  go_loopg [8] L.length (fun q s8 wr => ∃ (k a : Nat) (b : Bool), k ≤ L.length ∧ q = L.length - k ∧ s8 = .int .i64 k ∧ Aside (RD W1.heap.size wr Z A c S a b ∧ Below w.heap.size w wr))
  case atStart => exact ⟨0, 0, false, by omega, rfl, rfl, ⟨R3.out, B3.out⟩⟩
  case round =>
    obtain ⟨k, a, b, hk, rfl, rfl, hst⟩ := hrel
    by_cases hc : k < L.length ∧ (k : Int) < 50
    · obtain ⟨hlt, hlt3⟩ := hc
      obtain ⟨ad, kd, N, rfl, c0, c1', n0, n1, hbl⟩ := HV.out.at_ k hlt
      have x0 := (Kept.of_below (S := fun _ => False) hst.out.2).cell c0 id
      have x1 := (Kept.of_below (S := fun _ => False) hst.out.2).cell c1' id
      have KT := Aside.mk (text_any W1.heap.size wr Z A c S a b N hst.out.1 n0 n1)
      clear c0 c1'
      go_wp2_with fail
      refine KT.out.mono ?_
      rintro e w4 h
      obtain ⟨rfl, hR, hB⟩ := h.get hst.out.2 hbase hst.out.1
      have H4 := Aside.mk (And.intro hR hB)
      clear h hR hB
      go_wp2_with fail
      go_roundg (L.length - (k + 1))
      case measure => omega
      case rel => exact ⟨k + 1, _, _, by omega, rfl, by go_num, H4⟩
    · have KE := Aside.mk (err_any W1.heap.size wr Z A c S a b hst.out.1)
      have hc2 : k < L.length → ¬ (k : Int) < 50 := fun h1 h2 => hc ⟨h1, h2⟩
      have hex : (¬ k < L.length) ∨ (k < L.length ∧ ¬ (k : Int) < 50 ∧ ¬ k < 50) := by
        rcases Nat.lt_or_ge k L.length with h | h
        · exact .inr ⟨h, hc2 h, by have := hc2 h; omega⟩
        · exact .inl (by omega)
      clear hc hc2
      have key : ∀ (K : Prop), K → K := fun _ h => h
      cases b with
      | false =>
        rcases hex with h1 | ⟨h1, h2, h3⟩
        all_goals
          go_wp2_with fail
          refine KE.out.mono ?_
          rintro e w4 ⟨b4, h4⟩
          simp only [errQ, Bool.false_eq_true, if_false] at h4
          subst h4
          have B4 := Aside.mk (bel_then hst.out.2 b4)
          clear b4
          go_wp2_with fail
          go_ret
          exact ⟨rfl, B4.out⟩
      | true =>
        rcases hex with h1 | ⟨h1, h2, h3⟩
        all_goals
          go_wp2_with fail
          refine KE.out.mono ?_
          rintro e w4 h
          obtain ⟨v4, rfl, hE, b4⟩ := h.val
          simp only [errQ, if_true] at hE
          obtain ⟨f, rfl, hf⟩ := hE
          have R4 := Aside.mk (And.intro (hst.out.1.below b4) (bel_then hst.out.2 b4))
          clear h b4 hf
          have KEr : Aside (∀ W, RD W1.heap.size W Z A c S a true ∧ Below w.heap.size w W → Calls Tryd.prog 13 #[.pointer (some ⟨Z, 0, none⟩)] W fun e w' => ∃ f, e = .returned (.iface 54 (.pointer (some ⟨f, 0, none⟩))) ∧ w'.heap[f]? = some (.cells #[.int .i64 a, .int .i64 20] 56 (0, 0)) ∧ RD W1.heap.size w' Z A c S a true ∧ Below w.heap.size w w') := ⟨fun W h => (err_any W1.heap.size W Z A c S a true h.1).mono fun e w' q => by
            obtain ⟨v4, rfl, hE, b4⟩ := q.val
            simp only [errQ, if_true] at hE
            obtain ⟨f, rfl, hf⟩ := hE
            exact ⟨f, rfl, hf, h.1.below b4, bel_then h.2 b4⟩⟩
          have KWh : Aside (∀ W f, (RD W1.heap.size W Z A c S a true ∧ Below w.heap.size w W) → W.heap[f]? = some (.cells #[.int .i64 a, .int .i64 20] 56 (0, 0)) → Calls Tryd.prog 17 #[.iface 54 (.pointer (some ⟨f, 0, none⟩))] W fun e w' => e = .returned (.tuple #[.int .i64 20, .int .i64 a]) ∧ RD W1.heap.size w' Z A c S a true ∧ Below w.heap.size w w') := ⟨fun W f h hf => (why_any W (some (a, 20)) _ ⟨f, rfl, hf⟩ (HG.out.below h.2)).mono fun e w' q => ⟨q.1, h.1.below q.2, bel_then h.2 q.2⟩⟩
          have KAt : Aside (∀ W, RD W1.heap.size W Z A c S a true ∧ Below w.heap.size w W → Calls Tryd.prog 12 #[.pointer (some ⟨Z, 0, none⟩)] W fun e w' => e = .returned (.int .i64 a) ∧ w' = W) := ⟨fun W h => at_any W1.heap.size W Z A c S a true h.1⟩
          have K8 : Aside (∀ W, RD W1.heap.size W Z A c S a true ∧ Below w.heap.size w W → Calls Tryd.prog 24 #[.pointer (some ⟨Z, 0, none⟩)] W fun e w' => e = .returned (.int .u8 0) ∧ RD W1.heap.size w' Z A c S a true ∧ Below w.heap.size w w') := ⟨fun W h => (eight_any W1.heap.size W Z A c S a true HS.out h.1).mono fun e w' q => by
            have q := q.get h.2 hbase h.1
            rw [(take_bad S a 1).1, (take_bad S a 1).2.1, (take_bad S a 1).2.2] at q
            exact q⟩
          have K16 : Aside (∀ W, RD W1.heap.size W Z A c S a true ∧ Below w.heap.size w W → Calls Tryd.prog 16 #[.pointer (some ⟨Z, 0, none⟩)] W fun e w' => e = .returned (.int .u16 0) ∧ RD W1.heap.size w' Z A c S a true ∧ Below w.heap.size w w') := ⟨fun W h => (sixteen_any W1.heap.size W Z A c S a true HS.out h.1).mono fun e w' q => by
            have q := q.get h.2 hbase h.1
            rw [(take_bad S a 2).1, (take_bad S a 2).2.1, (take_bad S a 2).2.2] at q
            exact q⟩
          have KTx : Aside (∀ W N, -9223372036854775808 ≤ N → N ≤ 9223372036854775807 → (RD W1.heap.size W Z A c S a true ∧ Below w.heap.size w W) → Calls Tryd.prog 11 #[.pointer (some ⟨Z, 0, none⟩), .int .i64 N] W fun e w' => e = .returned (.string ⟨#[]⟩) ∧ RD W1.heap.size w' Z A c S a true ∧ Below w.heap.size w w') := ⟨fun W N n0 n1 h => (text_any W1.heap.size W Z A c S a true N h.1 n0 n1).mono fun e w' q => by
            have q := q.get h.2 hbase h.1
            rw [(take_bad S a N).1, (take_bad S a N).2.1, (take_bad S a N).2.2] at q
            exact q⟩
          have KLi : Aside (∀ W N, -9223372036854775808 ≤ N → N ≤ 9223372036854775807 → (RD W1.heap.size W Z A c S a true ∧ Below w.heap.size w W) → Calls Tryd.prog 22 #[.pointer (some ⟨Z, 0, none⟩), .int .i64 N] W fun e w' => ∃ A' c', e = .returned (.slice A' 0 c') ∧ RD W1.heap.size w' Z A c S a true ∧ Below w.heap.size w w') := ⟨fun W N n0 n1 h => (list_any W1.heap.size W Z A c S a true N h.1 n0 n1).mono fun e w' q => by
            obtain ⟨v', rfl, ho, hR, hK⟩ := q
            rw [(take_bad S a N).1] at ho
            rw [(take_bad S a N).2.1, (take_bad S a N).2.2] at hR
            obtain ⟨A', c', rfl⟩ := own_len ho
            have hz := h.1.Z_lt.2
            exact ⟨A', c', rfl, hR, h.2.trans (hK.below (by have := h.2.size; omega) (fun j e => by omega))⟩⟩
          have KIs : Aside (∀ W f m, (RD W1.heap.size W Z A c S a true ∧ Below w.heap.size w W) → W.heap[f]? = some (.cells #[.int .i64 a, .int .i64 20] 56 (0, 0)) → Calls Tryd.prog 23 #[.iface 54 (.pointer (some ⟨f, 0, none⟩)), .int .i64 m] W fun e w' => e = .returned (.bool (decide (20 = m))) ∧ RD W1.heap.size w' Z A c S a true ∧ Below w.heap.size w w') := ⟨fun W f m h hf => (is_any 0 W _ 20 m (.inr ⟨f, a, rfl, hf⟩)).mono fun e w' q => ⟨q.1, h.1.below q.2, bel_then h.2 q.2⟩⟩
          clear KE hst
          go_wp2_with fail
          refine (KEr.out _ R4.out).mono ?_
          rintro e w5 ⟨f5, rfl, hf5, hP5⟩
          have KW5 := Aside.mk (KWh.out _ f5 hP5 hf5)
          clear hf5 hP5
          go_wp2_with fail
          refine KW5.out.mono ?_
          rintro e w6 ⟨rfl, hP6⟩
          have P6 := Aside.mk hP6
          clear hP6
          go_wp2_with fail
          refine (KAt.out _ P6.out).mono ?_
          rintro e w7 ⟨rfl, rfl⟩
          go_wp2_with fail
          go_loopg [12] M.length (fun q s12 wr => ∃ (k : Nat), k ≤ M.length ∧ q = M.length - k ∧ s12 = .int .i64 k ∧ Aside (RD W1.heap.size wr Z A c S a true ∧ Below w.heap.size w wr))
          case atStart => exact ⟨0, by omega, rfl, rfl, P6⟩
          case round =>
            obtain ⟨i, hi, rfl, rfl, hst⟩ := hrel
            by_cases hc : i < M.length ∧ (i : Int) < 50
            · obtain ⟨hlt, hlt3⟩ := hc
              obtain ⟨ad, kd, N, rfl, c0, c1', n0, n1, hbl⟩ := HU.out.at_ i hlt
              have HCe : Aside (∀ W, Below w.heap.size w W → W.cell? ⟨(ad.add (i * 2)).block, (ad.add (i * 2)).off + 1, none⟩ = some (.int .i64 N)) := ⟨fun W h => (Kept.of_below (S := fun _ => False) h).cell c1' id⟩
              clear c0 c1'
              go_wp2_with fail
              refine (K8.out _ hst.out).mono ?_
              rintro e w8 ⟨rfl, hP8⟩
              have P8 := Aside.mk hP8
              clear hP8
              go_wp2_with fail
              refine (K16.out _ P8.out).mono ?_
              rintro e w9 ⟨rfl, hP9⟩
              have P9 := Aside.mk hP9
              clear hP9
              have x1 := HCe.out _ P9.out.2
              go_wp2_with fail
              refine (KTx.out _ N n0 n1 P9.out).mono ?_
              rintro e w10 ⟨rfl, hP10⟩
              have P10 := Aside.mk hP10
              clear hP10 x1
              have x1 := HCe.out _ P10.out.2
              go_wp2_with fail
              refine (KLi.out _ N n0 n1 P10.out).mono ?_
              rintro e w11 ⟨A', c', rfl, hP11⟩
              have P11 := Aside.mk hP11
              clear hP11 x1
              go_wp2_with fail
              go_roundg (M.length - (i + 1))
              case measure => omega
              case rel => exact ⟨i + 1, by omega, rfl, by go_num, P11⟩
            · have hex2 : (¬ i < M.length) ∨ (i < M.length ∧ ¬ (i : Int) < 50 ∧ ¬ i < 50) := by
                rcases Nat.lt_or_ge i M.length with h | h
                · exact .inr ⟨h, fun q => hc ⟨h, q⟩, fun q => hc ⟨h, by omega⟩⟩
                · exact .inl (by omega)
              clear hc
              rcases hex2 with h1' | ⟨h1', h2', h3'⟩
              all_goals
                go_wp2_with fail
                refine (KEr.out _ hst.out).mono ?_
                rintro e w8 ⟨f8, rfl, hf8, hP8⟩
                have KW8 := Aside.mk (KWh.out _ f8 hP8 hf8)
                clear hf8 hP8
                go_wp2_with fail
                refine KW8.out.mono ?_
                rintro e w9 ⟨rfl, hP9⟩
                have P9 := Aside.mk hP9
                clear hP9
                go_wp2_with fail
                refine (KAt.out _ P9.out).mono ?_
                rintro e w10 ⟨rfl, rfl⟩
                go_wp2_with fail
                refine (KEr.out _ P9.out).mono ?_
                rintro e w11 ⟨f11, rfl, hf11, hP11⟩
                have KI11 := Aside.mk (KIs.out _ f11 20 hP11 hf11)
                clear hf11 hP11
                go_wp2_with fail
                refine KI11.out.mono ?_
                rintro e w12 ⟨rfl, hP12⟩
                have P12 := Aside.mk hP12
                clear hP12
                go_wp2_with fail
                refine (KEr.out _ P12.out).mono ?_
                rintro e w13 ⟨f13, rfl, hf13, hP13⟩
                have KI13 := Aside.mk (KIs.out _ f13 21 hP13 hf13)
                clear hf13 hP13
                go_wp2_with fail
                refine KI13.out.mono ?_
                rintro e w14 ⟨rfl, hP14⟩
                have P14 := Aside.mk hP14
                clear hP14
                go_wp2_with fail
                go_ret
                exact ⟨rfl, P14.out.2⟩
end Go.Proofs.YtdfbiofmfjmkaaaDoor