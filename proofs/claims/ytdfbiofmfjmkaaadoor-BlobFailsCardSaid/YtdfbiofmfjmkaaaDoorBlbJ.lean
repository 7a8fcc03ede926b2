/- Layer 2: the law BlobOwn. -/
import Derived.Test.YtdfbiofmfjmkaaaDoorBlbH
namespace Go.Proofs.YtdfbiofmfjmkaaaDoor
open Go.RowKit
set_option linter.unusedVariables false
set_option linter.unusedSimpArgs false

/-- A row of bytes at block B that may be written. -/
structure BRow (w : World) (B : Nat) (M : List Int) (X : List Value) (fr : Nat × Nat) : Prop where
  row : w.heap[B]? = some (.cells (M.map (Value.int .u8) ++ X).toArray 5 fr)
  free : ∀ i, i < M.length → ¬ (fr.1 ≤ i ∧ i < fr.2)
theorem BRow.at_ {w : World} {B : Nat} {M : List Int} {X : List Value} {fr : Nat × Nat} (h : BRow w B M X fr) (i : Nat) (hi : i < M.length) : ∃ x, w.cell? ⟨B, i, none⟩ = some (.int .u8 x) ∧ w.frozen? ⟨B, i, none⟩ = false := by
  refine ⟨M[i], ?_, ?_⟩
  · simp [World.cell?, h.row, List.getElem?_append_left, hi]
  · have := h.free i hi
    simp only [World.frozen?, h.row]
    simpa using this
theorem BRow.set {w : World} {B : Nat} {M : List Int} {X : List Value} {fr : Nat × Nat} (h : BRow w B M X fr) (i : Nat) (hi : i < M.length) (y : Int) : BRow (w.setCell ⟨B, i, none⟩ (.int .u8 y)) B (M.set i y) X fr := by
  refine ⟨?_, fun j hj => h.free j (by simpa using hj)⟩
  rw [heap_setCell_at h.row]
  congr 2
  apply Array.ext'
  simp [List.set_append_left, hi, List.map_set]
theorem BRow.kept {T : Nat → Prop} {w w' : World} {B : Nat} {M : List Int} {X : List Value} {fr : Nat × Nat} (h : BRow w B M X fr) (k : Kept T w w') (hT : ¬ T B) : BRow w' B M X fr := ⟨k.heap h.row hT, h.free⟩
theorem BRow.below {w w' : World} {B : Nat} {M : List Int} {X : List Value} {fr : Nat × Nat} (h : BRow w B M X fr) (k : Below w.heap.size w w') : BRow w' B M X fr := ⟨hup k h.row, h.free⟩
theorem own_brow {w : World} {base : Nat} {v : Value} {L : List Int} (h : w.ownsRow base 5 1 v L.length (L.map (Value.int .u8))) : ∃ A c, v = .slice A L.length c ∧ (L = [] ∨ ∃ g X, A = some ⟨g, 0, none⟩ ∧ base ≤ g ∧ BRow w g L X (0, 0)) := by
  rcases h.2 with ⟨e1, e2⟩ | ⟨g, cap, cur, rfl, hb, hg, hn, hm, hs, ht⟩
  · exact ⟨none, 0, by rw [e1, e2], .inl (List.eq_nil_of_length_eq_zero e2)⟩
  · refine ⟨_, _, rfl, .inr ⟨g, cur.toList.drop L.length, rfl, hb, ?_, fun i _ => by simp⟩⟩
    rw [hg, ← ht, Nat.mul_one, List.take_append_drop]
theorem RD.good {T : Nat → Prop} {base : Nat} {w w' w2 : World} {Z : Nat} {A : Option Addr} {c : Nat} {S : List Int} {at_ at' : Nat} {bad : Bool} (h : RD base w Z A c S at_ bad) (h' : RD base w' Z A c S at' false) (k : Kept T w' w2) (hT : ∀ j, T j → w.heap.size ≤ j) : RD base w2 Z A c S at' false := by
  obtain ⟨F, h, _⟩ := h
  obtain ⟨F', h', e⟩ := h'
  obtain rfl : F' = none := by simpa using e
  refine ⟨none, ⟨k.heap h'.box (fun q => ?_), own_kept h'.row k (fun r hr q => ?_), h'.hZ, h'.le, h'.big, fun f hf => by cases hf⟩, rfl⟩
  · have := lt_of_block h.box
    have := hT _ q
    omega
  · have := own_lt h.row r hr
    have := hT _ q
    omega
theorem RD.Z_lt {base : Nat} {w : World} {Z : Nat} {A : Option Addr} {c : Nat} {S : List Int} {at_ : Nat} {bad : Bool} (h : RD base w Z A c S at_ bad) : Z < w.heap.size ∧ base ≤ Z := by
  obtain ⟨F, h, _⟩ := h
  exact ⟨lt_of_block h.box, h.hZ⟩
theorem take_pre (S : List Int) (m : Nat) (h : m ≤ S.length) : takeL S 0 false m = S.take m ∧ takeA S 0 false m = m ∧ takeB S 0 false m = false := by
  rcases Nat.eq_zero_or_pos m with rfl | h0
  · simp [takeL, takeA, takeB]
  · have h1 : ¬ ((m : Int) < 1) := by omega
    have h2 : ¬ ((S.length : Int) < m) := by omega
    simp [takeL, takeA, takeB, h1, h2]
theorem take_all (S : List Int) (m : Nat) (h : m ≤ S.length) : takeL S m false ((S.length : Int) - m) = S.drop m ∧ takeA S m false ((S.length : Int) - m) = S.length ∧ takeB S m false ((S.length : Int) - m) = false := by
  by_cases h0 : m = S.length
  · subst h0
    simp [takeL, takeA, takeB]
  · have h1 : ¬ ((S.length : Int) - m < 1) := by omega
    have h3 : ((S.length : Int) - m).toNat = S.length - m := by omega
    refine ⟨?_, ?_, ?_⟩
    · unfold takeL
      rw [if_neg (by simp only [Bool.false_eq_true, false_or]; omega), h3, List.take_of_length_le (by rw [List.length_drop]; omega)]
    · unfold takeA
      rw [if_neg (by simp only [Bool.false_eq_true, false_or]; omega), h3]
      omega
    · unfold takeB
      rw [if_neg (by simp only [Bool.false_eq_true, false_or]; exact h1)]
      simp
set_option maxHeartbeats 3200000 in
set_option maxRecDepth 100000 in
theorem bown_in (w : World) (s : ByteArray) (m : Nat) (hg : ETy w) (hs : s.size ≤ 1000) (hm : m ≤ s.size) :
    Calls Tryd.prog 6 #[.string s, .int .i64 m] w fun e w' => e = .returned (.bool true) ∧ Below w.heap.size w w' := by
  have HG := Aside.mk hg
  have hsl := strL_len s
  have h1 : ¬ (1000 : Int) < ((s.size : Nat) : Int) := by omega
  have h2 : ¬ (m : Int) < 0 := by omega
  have h3 : ¬ ((s.size : Nat) : Int) < (m : Int) := by omega
  have KA := Aside.mk (fun W (h : Below w.heap.size w W) => awake_any W (HG.out.below h))
  obtain ⟨c1, W1, hcv, b1, ⟨X, hX⟩, hc1⟩ := bytes_of w s
  have hI1 : Ints W1 .u8 (.slice (some ⟨w.heap.size, 0, none⟩) s.size c1) (strL s) := by
    have := ints_of_blk (c := c1) hX (by omega)
    rwa [hsl] at this
  have KN := Aside.mk (new_any W1 _ (strL s) hI1 (by omega))
  have HB1 : Aside (BRow W1 w.heap.size (strL s) X ((strL s |>.map (Value.int .u8)).length + X.length, (strL s |>.map (Value.int .u8)).length + X.length + 1)) := ⟨⟨by rw [hX, List.length_append], fun i hi => by simp; omega⟩⟩
  have B1 := Aside.mk b1
  have hlt1 : w.heap.size < W1.heap.size := lt_of_block hX
  obtain ⟨fr, hfr⟩ : ∃ fr, ((strL s |>.map (Value.int .u8)).length + X.length, (strL s |>.map (Value.int .u8)).length + X.length + 1) = fr := ⟨_, rfl⟩
  rw [hfr] at HB1
  have HX1 : Aside (s.extract 0 m = strOfNums ((strL s).take m) ∧ s.extract m s.size = strOfNums ((strL s).drop m)) := ⟨by rw [ext_str]; simp, by rw [ext_str, List.take_of_length_le (by rw [List.length_drop, hsl]; omega)]⟩
  have HN2 : Aside (∀ W, ∃ c2 W3, (convert 9 22 (.string s)).run Tryd.prog W = .ok (.slice (some ⟨W.heap.size, 0, none⟩) s.size c2) W3 ∧ Below W.heap.size W W3 ∧ Calls Tryd.prog 9 #[.slice (some ⟨W.heap.size, 0, none⟩) s.size c2] W3 (NewP W3 (strL s))) := ⟨fun W => by
    obtain ⟨c2, W3, hcv, b3, ⟨X, hX⟩, _⟩ := bytes_of W s
    have hI : Ints W3 .u8 (.slice (some ⟨W.heap.size, 0, none⟩) s.size c2) (strL s) := by
      have := ints_of_blk (c := c2) hX (by omega)
      rwa [hsl] at this
    exact ⟨c2, W3, hcv, b3, new_any W3 _ (strL s) hI (by omega)⟩⟩
  obtain ⟨S, hS⟩ : ∃ S, strL s = S := ⟨_, rfl⟩
  rw [hS] at KN HB1 HX1 HN2 hsl
  clear hX hI1 b1 hg hS hc1 hfr
  go_enter Tryd.func6, Tryd.ntmps6
  go_wp2_with fail
  refine KN.out.mono ?_
  rintro e w2 ⟨Z, A, c, rfl, hR, b2⟩
  have R2 := Aside.mk hR
  have B2 := Aside.mk (bel_then B1.out b2)
  have K12 := Aside.mk b2
  obtain ⟨c2, W3, hcv2, b3, hN⟩ := HN2.out w2
  have KN2 := Aside.mk hN
  have B3 := Aside.mk b3
  clear hR b2 hcv b3 hN
  go_wp2_with fail
  refine KN2.out.mono ?_
  rintro e w4 ⟨Z2, A2, d2, rfl, hQ, b4⟩
  have R4 := Aside.mk (R2.out.below (bel_then B3.out b4))
  have Q4 := Aside.mk hQ
  have B4 := Aside.mk (bel_then (bel_then B2.out B3.out) b4)
  have HB4 := Aside.mk ((HB1.out.below K12.out).below (bel_then B3.out b4))
  have hsz : w2.heap.size ≤ W3.heap.size ∧ W3.heap.size ≤ w4.heap.size := ⟨B3.out.size, b4.size⟩
  have hzz : Z < w2.heap.size ∧ W1.heap.size ≤ Z ∧ Z2 < w4.heap.size ∧ W3.heap.size ≤ Z2 := ⟨R2.out.Z_lt.1, R2.out.Z_lt.2, hQ.Z_lt.1, hQ.Z_lt.2⟩
  have KL := Aside.mk (list_any W1.heap.size w4 Z A c S 0 false m R4.out (by omega) (by omega))
  obtain ⟨t1, t2, t3⟩ := take_pre S m (by omega)
  unfold ListP at KL
  rw [t1, t2, t3] at KL
  clear hQ b4 hcv2 t1 t2 t3
  go_wp2_with fail
  refine KL.out.mono ?_
  rintro e w5 ⟨vl, rfl, ho, hR, hK⟩
  have hlm : (S.take m).length = m := by rw [List.length_take]; omega
  obtain ⟨Al, cl, rfl, hl⟩ := own_brow ho
  rw [hlm] at ho ⊢
  have R5 := Aside.mk hR
  have K5 := Aside.mk hK
  have Q5 := Aside.mk (Q4.out.kept hK (fun j e => .inl (by omega)))
  have B5 := Aside.mk (B4.out.trans (hK.below (by have := B4.out.size; omega) (fun j e => by omega)))
  have HB5 := Aside.mk (HB4.out.kept hK (fun e => by omega))
  have HL5 := Aside.mk hl
  have h54 := hK.size
  clear hR hK ho hl
  go_wp2_with fail
  go_loopg [9] s.size (fun g s9 wr => ∃ (k : Nat) (M : List Int), k ≤ s.size ∧ M.length = S.length ∧ g = s.size - k ∧ s9 = .int .i64 k ∧ Aside (BRow wr w.heap.size M X fr ∧ Kept (fun j => j = w.heap.size) w5 wr))
  case atStart => exact ⟨0, S, by omega, rfl, rfl, rfl, ⟨HB5.out, Kept.refl _ _⟩⟩
  case round =>
    obtain ⟨k, M, hk, hM, rfl, rfl, hst⟩ := hrel
    by_cases hlt : k < s.size
    · obtain ⟨x, x0, f0⟩ := hst.out.1.at_ k (by omega)
      have hbl : w.heap.size < wr.heap.size := lt_of_block hst.out.1.row
      go_wp2_with fail
      go_roundg (s.size - (k + 1))
      case measure => omega
      case rel => exact ⟨k + 1, M.set k _, by omega, by simpa using hM, rfl, by go_num, ⟨hst.out.1.set k (by omega) _, hst.out.2.setCell (p := ⟨w.heap.size, k, none⟩) (.inl rfl) _⟩⟩
    · obtain rfl : k = s.size := by omega
      have R6 := R5.out.kept hst.out.2 (fun j e => .inl (by omega))
      have Q6 := Q5.out.kept hst.out.2 (fun j e => .inl (by omega))
      have B6 : Below w.heap.size w wr := B5.out.trans (hst.out.2.below (by have := B5.out.size; omega) (fun j e => by omega))
      have P6 := Aside.mk (And.intro R6 (And.intro Q6 B6))
      have HL6 : Aside (∃ g X', m = 0 ∨ Al = some ⟨g, 0, none⟩ ∧ w4.heap.size ≤ g ∧ BRow wr g (S.take m) X' (0, 0)) := ⟨by
        rcases HL5.out with h | ⟨g, X', h1, h2, h3⟩
        · exact ⟨0, [], .inl (by rw [h] at hlm; simpa using hlm.symm)⟩
        · exact ⟨g, X', .inr ⟨h1, h2, h3.kept hst.out.2 (fun e => by have := B4.out.size; omega)⟩⟩⟩
      obtain ⟨g, X', hrow⟩ := HL6.out
      have HRow := Aside.mk hrow
      clear hlt hk hst R6 Q6 B6 HL6 HL5 hM hrow
      go_wp2_with fail
      go_loopg [10] m (fun q s10 w' => ∃ (k : Nat), k ≤ m ∧ q = m - k ∧ s10 = .int .i64 k ∧ Aside ((RD W1.heap.size w' Z A c S m false ∧ RD W3.heap.size w' Z2 A2 d2 S 0 false ∧ Below w.heap.size w w') ∧ ∃ M, M.length = m ∧ (m = 0 ∨ Al = some ⟨g, 0, none⟩ ∧ w4.heap.size ≤ g ∧ BRow w' g M X' (0, 0))))
      case atStart => exact ⟨0, by omega, rfl, rfl, ⟨P6.out, _, hlm, HRow.out⟩⟩
      case round =>
        obtain ⟨k, hk, rfl, rfl, ⟨hP, M, hM, hB⟩⟩ := hrel
        have P7 := Aside.mk hP
        by_cases hlt : k < m
        · obtain ⟨rfl, hgl, hB⟩ := hB.resolve_left (by omega)
          have HB := Aside.mk hB
          obtain ⟨x, x0, f0⟩ := hB.at_ k (by omega)
          have hbl : g < wr.heap.size := lt_of_block hB.row
          clear hP hB
          go_wp2_with fail
          go_roundg (m - (k + 1))
          case measure => omega
          case rel => exact ⟨k + 1, by omega, rfl, by go_num, ⟨⟨R4.out.news P7.out.1 ((Kept.refl (fun j => j = g) wr).setCell (p := ⟨g, k, none⟩) (.inl rfl) _) (fun j e => by subst e; exact ⟨hgl, _, _, HB.out.row⟩), Q4.out.news P7.out.2.1 ((Kept.refl (fun j => j = g) wr).setCell (p := ⟨g, k, none⟩) (.inl rfl) _) (fun j e => by subst e; exact ⟨hgl, _, _, HB.out.row⟩), P7.out.2.2.trans (((Kept.refl (fun j => j = g) wr).setCell (p := ⟨g, k, none⟩) (.inl rfl) _).below (by have := P7.out.2.2.size; omega) (fun j e => by have := B4.out.size; omega))⟩, M.set k _, by simpa using hM, .inr ⟨trivial, hgl, HB.out.set k (by omega) _⟩⟩⟩
        · obtain rfl : k = m := by omega
          clear hlt hk hM hB hP
          have hwb := B1.out.size
          have HP1 : Aside (∀ W, Below wr.heap.size wr W → RD W1.heap.size W Z A c S k false ∧ RD W3.heap.size W Z2 A2 d2 S 0 false ∧ Below w.heap.size w W) := ⟨fun W h => ⟨P7.out.1.below h, P7.out.2.1.below h, bel_then P7.out.2.2 h⟩⟩
          have K1 : Aside (Calls Tryd.prog 10 #[] wr.drew fun e w' => e = .returned (.bool true) ∧ RD W1.heap.size w' Z A c S k false ∧ RD W3.heap.size w' Z2 A2 d2 S 0 false ∧ Below w.heap.size w w') := ⟨(KA.out _ (bel_then P7.out.2.2 (below_drewN wr 1))).mono fun e w' q => ⟨q.1, HP1.out _ (bel_then (below_drewN wr 1) q.2)⟩⟩
          have K2 : Aside (∀ W, RD W1.heap.size W Z A c S k false ∧ RD W3.heap.size W Z2 A2 d2 S 0 false ∧ Below w.heap.size w W → Calls Tryd.prog 11 #[.pointer (some ⟨Z2, 0, none⟩), .int .i64 k] W fun e w' => e = .returned (.string (strOfNums (S.take k))) ∧ RD W1.heap.size w' Z A c S k false ∧ Below w.heap.size w w') := ⟨fun W h => (text_any W3.heap.size W Z2 A2 d2 S 0 false k h.2.1 (by omega) (by omega)).mono fun e w' q => by
            obtain ⟨t1, t2, t3⟩ := take_pre S k (by omega)
            obtain ⟨q1, q2, q3⟩ := q
            rw [t1] at q1
            exact ⟨q1, R2.out.good h.1 q3 (fun j e => by omega), h.2.2.trans (q3.below (by have := h.2.2.size; omega) (fun j e => by omega))⟩⟩
          have K3 : Aside (∀ W, RD W1.heap.size W Z A c S k false → Calls Tryd.prog 12 #[.pointer (some ⟨Z, 0, none⟩)] W fun e w' => e = .returned (.int .i64 k) ∧ w' = W) := ⟨fun W h => at_any _ W Z A c S k false h⟩
          have K4 : Aside (∀ W, RD W1.heap.size W Z A c S k false ∧ Below w.heap.size w W → Calls Tryd.prog 11 #[.pointer (some ⟨Z, 0, none⟩), .int .i64 (((s.size : Nat) : Int) - k)] W fun e w' => e = .returned (.string (strOfNums (S.drop k))) ∧ RD W1.heap.size w' Z A c S S.length false ∧ Below w.heap.size w w') := ⟨fun W h => (text_any W1.heap.size W Z A c S k false (((s.size : Nat) : Int) - k) h.1 (by omega) (by omega)).mono fun e w' q => by
            obtain ⟨t1, t2, t3⟩ := take_all S k (by omega)
            rw [hsl] at t1 t2 t3
            have q := q.get h.2 hwb h.1
            rw [t1, t2, t3] at q
            rw [hsl]
            exact q⟩
          have K5 : Aside (∀ W, RD W1.heap.size W Z A c S S.length false ∧ Below w.heap.size w W → Calls Tryd.prog 18 #[.pointer (some ⟨Z, 0, none⟩)] W fun e w' => e = .returned .nilIface ∧ Below w.heap.size w w') := ⟨fun W h => (end_any W1.heap.size W Z A c S S.length false h.1).mono fun e w' q => by
            obtain ⟨b, q⟩ := q
            rw [show endQ S S.length false = none from by simp [endQ]] at q
            exact ⟨q, bel_then h.2 b⟩⟩
          obtain ⟨e1, e2⟩ := HX1.out
          have hw3 : IntKind.i64.wrap (((s.size : Nat) : Int) - (k : Int)) = ((s.size : Nat) : Int) - k := IntWalk.i64_in _ (by omega)
          have g1 : (0 : Int) ≤ (k : Int) := by omega
          have g2 : (k : Int) ≤ ((s.size : Nat) : Int) := by omega
          go_wp2_with fail
          go_region_held3 (fun w' => True) (exact trivial) (first
            | (with_reducible refine K1.out.mono ?_; rintro e x1 ⟨rfl, hx1⟩)
            | (with_reducible refine (K2.out _ hx1).mono ?_; rintro e x2 ⟨rfl, hx2⟩)
            | (with_reducible refine (K3.out _ hx2.1).mono ?_; rintro e x3 ⟨rfl, rfl⟩)
            | (with_reducible refine (K4.out _ hx2).mono ?_; rintro e x4 ⟨rfl, hx4⟩)
            | (with_reducible refine (K5.out _ hx4).mono ?_; rintro e x5 ⟨rfl, hx5⟩))
          all_goals
            go_wp2_with fail
            go_ret
            exact ⟨rfl, hx5⟩
set_option maxHeartbeats 1600000 in
theorem bown_any (w : World) (s : ByteArray) (n : Int) (hg : ETy w) (hs : s.size ≤ 140737488355328) :
    Calls Tryd.prog 6 #[.string s, .int .i64 n] w fun e w' => e = .returned (.bool true) ∧ Below w.heap.size w w' := by
  have KA := Aside.mk (awake_any w hg)
  by_cases h1 : (1000 : Int) < ((s.size : Nat) : Int)
  · clear hg hs
    go_enter Tryd.func6, Tryd.ntmps6
    go_wp2_with fail
    refine KA.out.mono ?_
    rintro e w2 ⟨rfl, b2⟩
    go_wp2_with fail
    go_ret
    exact ⟨rfl, b2⟩
  · by_cases h2 : n < 0
    · clear hg hs
      go_enter Tryd.func6, Tryd.ntmps6
      go_wp2_with fail
      refine KA.out.mono ?_
      rintro e w2 ⟨rfl, b2⟩
      go_wp2_with fail
      go_ret
      exact ⟨rfl, b2⟩
    · by_cases h3 : ((s.size : Nat) : Int) < n
      · clear hg hs
        go_enter Tryd.func6, Tryd.ntmps6
        go_wp2_with fail
        refine KA.out.mono ?_
        rintro e w2 ⟨rfl, b2⟩
        go_wp2_with fail
        go_ret
        exact ⟨rfl, b2⟩
      · obtain ⟨m, rfl⟩ := Int.eq_ofNat_of_zero_le (by omega : 0 ≤ n)
        exact bown_in w s m hg (by omega) (by omega)
end Go.Proofs.YtdfbiofmfjmkaaaDoor
