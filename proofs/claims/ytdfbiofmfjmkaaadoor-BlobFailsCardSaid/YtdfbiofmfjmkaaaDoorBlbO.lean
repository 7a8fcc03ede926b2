/- Layer 2: the law BlobReads. -/
import Derived.Test.YtdfbiofmfjmkaaaDoorBlbN
import Derived.Test.YtdfbiofmfjmkaaaDoorRds
import Derived.Test.YtdfbiofmfjmkaaaDoorKitR
namespace Go.Proofs.YtdfbiofmfjmkaaaDoor
open Go.RowKit
set_option linter.unusedVariables false
set_option linter.unusedSimpArgs false

abbrev AskR := rdA47
def Asks (w : World) (v : Value) (L : List AskR) : Prop := Elems w rd47.n rd47.R v L
theorem Asks.at_ {w : World} {a : Option Addr} {n cap : Nat} {L : List AskR} (h : Asks w (.slice a n cap) L) (i : Nat) (hi : i < L.length) :
    ∃ ad kd N, a = some ad ∧ w.cell? (ad.add (i * 2)) = some (.int .i64 kd) ∧ w.cell? ⟨(ad.add (i * 2)).block, (ad.add (i * 2)).off + 1, none⟩ = some (.int .i64 N) ∧ -9223372036854775808 ≤ N ∧ N ≤ 9223372036854775807 ∧ (ad.add (i * 2)).block < w.heap.size := by
  obtain ⟨a', cap', e, h1, h2, h3⟩ := h
  obtain ⟨ad, rfl, h4⟩ := h3 (by omega)
  obtain ⟨cs, hl, hc, hr⟩ := h4 i hi
  cases e
  obtain ⟨c1, _, rfl, ⟨rfl, w1⟩, c2, _, rfl, ⟨rfl, w2⟩, rfl⟩ := hr
  have hb := bounds_i64 w2
  have hc' : ∀ j, j < 2 → w.cell? (ad.add (i * 2 + j)) = [Value.int .i64 (L[i]).1, .int .i64 (L[i]).2.1][j]? := hc
  have q0 := hc' 0 (by omega)
  have q1 := hc' 1 (by omega)
  refine ⟨ad, _, _, rfl, by simpa using q0, by rw [cell_add _ _ _ _ (by omega)]; simpa using q1, hb.1, by omega, ?_⟩
  rcases Nat.lt_or_ge (ad.add (i * 2)).block w.heap.size with h | h
  · exact h
  · simp [World.cell?, Array.getElem?_eq_none h] at q0
theorem reads_cut {base : Nat} {w wr W : World} {Z M0 P : Nat} {A : Option Addr} {c : Nat} {S : List Int} {a a' : Nat} {b b' : Bool} {x0 x1 x2 z0 z1 z2 : Value} (H : RD base wr Z A c S a b) (hR : RD base W Z A c S a' b') (hM : W.heap[M0]? = some (.cells #[x0, x1, x2] 43 (0, 0))) (hB : Below w.heap.size w W)
    (hP : W.heap[P]? = some (.cells #[z0, z1, z2] 43 (0, 0))) (hP1 : wr.heap.size ≤ P) (hPM : M0 ≠ P) (hwP : w.heap.size ≤ P) (x y z : Value) :
    RD base (((W.setCell ⟨P, 0, none⟩ x).setCell ⟨P, 1, none⟩ y).setCell ⟨P, 2, none⟩ z) Z A c S a' b' ∧ (((W.setCell ⟨P, 0, none⟩ x).setCell ⟨P, 1, none⟩ y).setCell ⟨P, 2, none⟩ z).heap[M0]? = some (.cells #[x0, x1, x2] 43 (0, 0)) ∧ (((W.setCell ⟨P, 0, none⟩ x).setCell ⟨P, 1, none⟩ y).setCell ⟨P, 2, none⟩ z).heap[P]? = some (.cells #[x, y, z] 43 (0, 0)) ∧ Below w.heap.size w (((W.setCell ⟨P, 0, none⟩ x).setCell ⟨P, 1, none⟩ y).setCell ⟨P, 2, none⟩ z) :=
  ⟨H.newt hR (set3c_kept (Kept.refl (fun j => j = P) W) (.inl rfl) x y z) (fun j e => by subst e; exact ⟨hP1, _, _, _, hP, by decide⟩), set3c_other hM hPM x y z, set3c_at hP x y z, set3c_below hB hwP x y z⟩
set_option maxHeartbeats 6400000 in
set_option maxRecDepth 100000 in
theorem reads_any (w : World) (s : ByteArray) (v : Value) (L : List AskR) (hg : ETy w) (hs : s.size ≤ 140737488355328) (hv : Asks w v L) :
    Calls Tryd.prog 5 #[.string s, v] w fun e w' => e = .returned (.bool true) ∧ Below w.heap.size w w' := by
  have HG := Aside.mk hg
  have HV := Aside.mk hv
  obtain ⟨Av, cv, rfl, _, _, _⟩ := hv
  have hLl : L.length ≤ 9223372036854775807 := by obtain ⟨a', cap', e, h1, h2, _⟩ := HV.out; cases e; omega
  obtain ⟨c1, W1, hcv, b1, ⟨X, hX⟩, hc1⟩ := bytes_of w s
  have hsl := strL_len s
  have hI1 : Ints W1 .u8 (.slice (some ⟨w.heap.size, 0, none⟩) s.size c1) (strL s) := by
    have := ints_of_blk (c := c1) hX (by omega)
    rwa [hsl] at this
  have KN := Aside.mk (new_any W1 _ (strL s) hI1 (by omega))
  have HB1 : Aside (BRow W1 w.heap.size (strL s) X ((strL s |>.map (Value.int .u8)).length + X.length, (strL s |>.map (Value.int .u8)).length + X.length + 1)) := ⟨⟨by rw [hX, List.length_append], fun i hi => by simp; omega⟩⟩
  have B1 := Aside.mk b1
  have hlt1 : w.heap.size < W1.heap.size := lt_of_block hX
  obtain ⟨fr, hfr⟩ : ∃ fr, ((strL s |>.map (Value.int .u8)).length + X.length, (strL s |>.map (Value.int .u8)).length + X.length + 1) = fr := ⟨_, rfl⟩
  rw [hfr] at HB1
  clear hX hI1 b1 hg hc1 hfr
  go_enter Tryd.func5, Tryd.ntmps5
  go_wp2_with fail
  refine KN.out.mono ?_
  rintro e w2 ⟨Z, A, c, rfl, hR, b2⟩
  have R2 := Aside.mk hR
  have B2 := Aside.mk (bel_then B1.out b2)
  have HB2 := Aside.mk (HB1.out.below b2)
  have hz := hR.Z_lt
  obtain ⟨W3, HW3⟩ : ∃ W3, Aside (W3 = w2.alloc (.cells #[.string s, .int .i64 0, .bool false] 43)) := ⟨_, ⟨rfl⟩⟩
  have H3 : Aside (Below w2.heap.size w2 W3 ∧ W3.heap[w2.heap.size]? = some (.cells #[.string s, .int .i64 0, .bool false] 43 (0, 0))) := ⟨by rw [HW3.out]; exact ⟨bel_one _ _, heap_alloc_new w2 _⟩⟩
  clear hR b2 hcv
  go_upto_region 4 with (fail)
  rw [← HW3.out]
  go_wp2_with fail
  refine (awake_any W3 (HG.out.below (bel_then B2.out H3.out.1))).mono ?_
  rintro e w4 ⟨rfl, b4⟩
  have R4 := Aside.mk (R2.out.below (bel_then H3.out.1 b4))
  have B4 := Aside.mk (bel_then (bel_then B2.out H3.out.1) b4)
  have HB4 := Aside.mk (HB2.out.below (bel_then H3.out.1 b4))
  have M4 := Aside.mk (hup b4 H3.out.2)
  have h24 : w2.heap.size < w4.heap.size := lt_of_block M4.out
  have h12 : w.heap.size < w2.heap.size := by omega
  clear b4
  go_wp2_with fail
  go_loopg [8] s.size (fun g s8 wr => ∃ (k : Nat) (M : List Int), k ≤ s.size ∧ M.length = s.size ∧ g = s.size - k ∧ s8 = .int .i64 k ∧ Aside (BRow wr w.heap.size M X fr ∧ Kept (fun j => j = w.heap.size) w4 wr))
  case atStart => exact ⟨0, strL s, by omega, hsl, rfl, rfl, ⟨HB4.out, Kept.refl _ _⟩⟩
  case round =>
    obtain ⟨k, M, hk, hM, rfl, rfl, hst⟩ := hrel
    by_cases hlt : k < s.size
    · obtain ⟨x, x0, f0⟩ := hst.out.1.at_ k (by omega)
      have hbl : w.heap.size < wr.heap.size := lt_of_block hst.out.1.row
      go_wp2_with fail
      go_roundg (s.size - (k + 1))
      case measure => omega
      case rel => exact ⟨k + 1, M.set k _, by omega, by simpa using hM, rfl, by go_num, ⟨hst.out.1.set k (by omega) _, hst.out.2.setCell (p := ⟨w.heap.size, k, none⟩) (.inl rfl) _⟩⟩
    · obtain rfl : k = s.size := by omega
      have R6 := Aside.mk (R4.out.kept hst.out.2 (fun j e => .inl (by omega)))
      have B6 := Aside.mk (B4.out.trans (hst.out.2.below (by have := B4.out.size; omega) (fun j e => by omega)))
      have M6 := Aside.mk (hst.out.2.heap M4.out (by omega))
      clear hlt hk hst hM
      go_wp2_with fail
      go_loopg [9] L.length (fun q s9 w' => ∃ (k a : Nat) (b : Bool), k ≤ L.length ∧ q = L.length - k ∧ s9 = .int .i64 k ∧ Aside (RD W1.heap.size w' Z A c (strL s) a b ∧ w'.heap[w2.heap.size]? = some (.cells #[.string s, .int .i64 a, .bool b] 43 (0, 0)) ∧ Below w.heap.size w w'))
      case atStart => exact ⟨0, 0, false, by omega, rfl, rfl, ⟨R6.out, M6.out, B6.out⟩⟩
      case round =>
        obtain ⟨k, a, b, hk, rfl, rfl, hst⟩ := hrel
        by_cases hlt : k < L.length
        · by_cases hlt3 : (k : Int) < 100
          · obtain ⟨ad, kd, N, rfl, c0, c1', n0, n1, hbl⟩ := HV.out.at_ k hlt
            have KD : Aside (∀ W, Below wr.heap.size wr W → Calls Tryd.prog 19 #[.pointer (some ⟨Z, 0, none⟩), .agg #[.string s, .int .i64 a, .bool b], .agg #[.int .i64 kd, .int .i64 N]] W (DoesP W1.heap.size W Z A c s a b (askN kd N))) := ⟨fun W h => does_any W1.heap.size W Z A c s a b kd N (hst.out.1.below h) hs n0 n1⟩
            have KD1 := Aside.mk (KD.out wr.drew (below_drewN wr 1))
            have HC : Aside (∀ W, Below w.heap.size w W → W.cell? (ad.add (k * 2)) = some (.int .i64 kd) ∧ W.cell? ⟨(ad.add (k * 2)).block, (ad.add (k * 2)).off + 1, none⟩ = some (.int .i64 N)) := ⟨fun W h => ⟨(Kept.of_below (S := fun _ => False) h).cell c0 id, (Kept.of_below (S := fun _ => False) h).cell c1' id⟩⟩
            have hSS : ∀ W x0 x1 x2, W.heap[w2.heap.size]? = some (.cells #[x0, x1, x2] 43 (0, 0)) → Below w.heap.size w W → W.cell? ⟨w2.heap.size, 0, none⟩ = some x0 ∧ W.cell? ⟨w2.heap.size, 1, none⟩ = some x1 ∧ W.cell? ⟨w2.heap.size, 2, none⟩ = some x2 ∧ W.cell? (ad.add (k * 2)) = some (.int .i64 kd) ∧ W.cell? ⟨(ad.add (k * 2)).block, (ad.add (k * 2)).off + 1, none⟩ = some (.int .i64 N) := fun W x0 x1 x2 h1 h2 => ⟨(box3 h1).1, (box3 h1).2.1, (box3 h1).2.2.1, HC.out _ h2⟩
            obtain ⟨x0, x1, x2, d0, d1⟩ := hSS _ _ _ _ hst.out.2.1 hst.out.2.2
            have HSS := Aside.mk hSS
            have mZ : w2.heap.size ≠ Z := by omega
            unfold DoesP at KD1
            obtain ⟨a', ha'⟩ : ∃ a', takeA (strL s) a b (askN kd N) = a' := ⟨_, rfl⟩
            obtain ⟨b', hb'⟩ : ∃ b', takeB (strL s) a b (askN kd N) = b' := ⟨_, rfl⟩
            rw [ha', hb'] at KD1
            unfold mV at KD1
            clear c0 c1' hSS
            have KD2 := Aside.mk (KD.out (wr.alloc (.cells #[.string ⟨#[]⟩, .int .i64 0, .bool false] 43)).drew (bel_then (bel_one wr _) (below_drewN _ 1)))
            unfold DoesP at KD2
            rw [ha', hb'] at KD2
            unfold mV at KD2
            have hwr : w.heap.size ≤ wr.heap.size := hst.out.2.2.size
            have hM0 : w2.heap.size < wr.heap.size := lt_of_block hst.out.2.1
            have hZr : Z < wr.heap.size := hst.out.1.Z_lt.1
            clear ha' hb' KD
            go_wp2_with fail
            go_cut [10, 11] (fun p q wc => ∃ P, p = .pointer (some ⟨P, 0, none⟩) ∧ q = .bool true ∧ Aside ((RD W1.heap.size wc Z A c (strL s) a' b' ∧ wc.heap[w2.heap.size]? = some (.cells #[.string s, .int .i64 a, .bool b] 43 (0, 0)) ∧ wc.heap[P]? = some (.cells #[.string s, .int .i64 a', .bool b'] 43 (0, 0)) ∧ Below w.heap.size w wc)))
            case first =>
              go_region_held3 (fun w' => w'.cell? ⟨w2.heap.size, 0, none⟩ = some (.string s) ∧ w'.cell? ⟨w2.heap.size, 1, none⟩ = some (.int .i64 a) ∧ w'.cell? ⟨w2.heap.size, 2, none⟩ = some (.bool b) ∧ w'.cell? (ad.add (k * 2)) = some (.int .i64 kd) ∧ w'.cell? ⟨(ad.add (k * 2)).block, (ad.add (k * 2)).off + 1, none⟩ = some (.int .i64 N))
                (first | (with_reducible exact HSS.out _ _ _ _ X5.out.2.1 X5.out.2.2.1) | (with_reducible exact HSS.out _ _ _ _ (heap_up X5.out.2.1) (bel_then X5.out.2.2.1 (bel_one _ _))) | (with_reducible exact HSS.out _ _ _ _ X6.out.2.1 X6.out.2.2.2) | go_keep)
                (first
                  | ((with_reducible refine KD1.out.mono ?_); rintro e w5 ⟨rfl, hR5, hK5⟩; have X5 := Aside.mk (And.intro hR5 (And.intro (hK5.heap hst.out.2.1 mZ) (And.intro (bel_then hst.out.2.2 (below_drewN wr 1) |>.trans (hK5.below (by have := hst.out.2.2.size; simpa using this) (fun j e => by omega))) hK5.size))); have hr5 : wr.heap.size ≤ w5.heap.size := X5.out.2.2.2; have X6 := Aside.mk (reads_cut (P := w5.heap.size) hst.out.1 (X5.out.1.below (bel_one w5 (.cells #[.string ⟨#[]⟩, .int .i64 0, .bool false] 43))) (heap_up X5.out.2.1) (bel_then X5.out.2.2.1 (bel_one w5 _)) (heap_alloc_new w5 _) hr5 (by omega) (by omega) (.string s) (.int .i64 a') (.bool b')))
                  | ((with_reducible refine KD2.out.mono ?_); rintro e w5 ⟨rfl, hR5, hK5⟩; have X5 := Aside.mk (And.intro hR5 (And.intro (hK5.heap (heap_up hst.out.2.1 : (wr.alloc (.cells #[.string ⟨#[]⟩, .int .i64 0, .bool false] 43)).heap[w2.heap.size]? = _) mZ) (And.intro ((bel_then hst.out.2.2 (bel_then (bel_one wr (.cells #[.string ⟨#[]⟩, .int .i64 0, .bool false] 43)) (below_drewN _ 1))).trans (hK5.below (by have := hst.out.2.2.size; simp; omega) (fun j e => by omega))) (hK5.heap (heap_alloc_new wr (.cells #[.string ⟨#[]⟩, .int .i64 0, .bool false] 43)) (by omega))))); obtain ⟨y0, y1, y2, z0, z1, z2⟩ := box3 X5.out.2.2.2; have X6 := Aside.mk (reads_cut (P := wr.heap.size) hst.out.1 X5.out.1 X5.out.2.1 X5.out.2.2.1 X5.out.2.2.2 (Nat.le_refl _) (by omega) (by omega) (.string s) (.int .i64 a') (.bool b'))))
              all_goals
                go_wp2_with fail
                go_meet
                case rel => first | exact ⟨_, rfl, rfl, X6⟩ | exact ⟨_, rfl, rfl, ⟨X5.out.1.below (bel_one _ _), heap_up X5.out.2.1, heap_alloc_new _ _, bel_then X5.out.2.2.1 (bel_one _ _)⟩⟩
            case rest =>
              obtain ⟨P, rfl, rfl, hC⟩ := hcut
              clear x0 x1 x2 d0 d1
              obtain ⟨x0, x1, x2, f0, f1, f2⟩ := box3 hC.out.2.1
              obtain ⟨y0, y1, y2, z0, z1, z2⟩ := box3 hC.out.2.2.1
              obtain ⟨W6, HW6⟩ : ∃ W6, Aside (W6 = ((wc.setCell ⟨w2.heap.size, 0, none⟩ (.string s)).setCell ⟨w2.heap.size, 1, none⟩ (.int .i64 a')).setCell ⟨w2.heap.size, 2, none⟩ (.bool b')) := ⟨_, ⟨rfl⟩⟩
              have H6 : Aside (RD W1.heap.size W6 Z A c (strL s) a' b' ∧ W6.heap[w2.heap.size]? = some (.cells #[.string s, .int .i64 a', .bool b'] 43 (0, 0)) ∧ Below w.heap.size w W6) := ⟨by
                rw [HW6.out]
                exact ⟨R2.out.newt hC.out.1 (set3c_kept (Kept.refl (fun j => j = w2.heap.size) wc) (.inl rfl) _ _ _) (fun j e => by subst e; exact ⟨Nat.le_refl _, _, _, _, hC.out.2.1, by decide⟩), set3c_at hC.out.2.1 _ _ _, set3c_below hC.out.2.2.2 (by omega) _ _ _⟩⟩
              go_upto_region 15 with (fail)
              rw [← HW6.out]
              clear x0 x1 x2 f0 f1 f2 y0 y1 y2 z0 z1 z2
              go_wp2_with fail
              refine (err_any W1.heap.size W6 Z A c (strL s) a' b' H6.out.1).mono ?_
              rintro e w7 h
              obtain ⟨v7, rfl, hE, b7⟩ := h.val
              have B7 := Aside.mk (And.intro (H6.out.1.below b7) (And.intro (hup b7 H6.out.2.1) (bel_then H6.out.2.2 b7)))
              have KW := Aside.mk (why_any w7 _ v7 hE (HG.out.below B7.out.2.2))
              clear h hE b7
              go_wp2_with fail
              refine KW.out.mono ?_
              rintro e w8 ⟨rfl, b8⟩
              have B8 := Aside.mk (And.intro (B7.out.1.below b8) (And.intro (hup b8 B7.out.2.1) (bel_then B7.out.2.2 b8)))
              clear b8
              obtain ⟨x0, x1, x2, _⟩ := box3 B8.out.2.1
              have KR := Aside.mk (rerr_any w8 s a' b')
              unfold mV at KR
              go_wp2_with fail
              refine KR.out.mono ?_
              rintro e w9 ⟨rfl, b9⟩
              have B9 := Aside.mk (And.intro (B8.out.1.below b9) (And.intro (hup b9 B8.out.2.1) (bel_then B8.out.2.2 b9)))
              clear b9 x0 x1 x2
              go_wp2_with fail
              refine (end_any W1.heap.size w9 Z A c (strL s) a' b' B9.out.1).mono ?_
              rintro e w10 h
              obtain ⟨v10, rfl, hE, b10⟩ := h.val
              have B10 := Aside.mk (And.intro (B9.out.1.below b10) (And.intro (hup b10 B9.out.2.1) (bel_then B9.out.2.2 b10)))
              have KW2 := Aside.mk (why_any w10 _ v10 hE (HG.out.below B10.out.2.2))
              clear h hE b10
              go_wp2_with fail
              refine KW2.out.mono ?_
              rintro e w11 ⟨rfl, b11⟩
              have B11 := Aside.mk (And.intro (B10.out.1.below b11) (And.intro (hup b11 B10.out.2.1) (bel_then B10.out.2.2 b11)))
              clear b11
              obtain ⟨x0, x1, x2, _⟩ := box3 B11.out.2.1
              have KR2 := Aside.mk (rend_any w11 s a' b')
              unfold mV at KR2
              go_wp2_with fail
              refine KR2.out.mono ?_
              rintro e w12 ⟨rfl, b12⟩
              have B12 := Aside.mk (And.intro (B11.out.1.below b12) (And.intro (hup b12 B11.out.2.1) (bel_then B11.out.2.2 b12)))
              clear b12 x0 x1 x2
              obtain ⟨x0, x1, x2, _⟩ := box3 B12.out.2.1
              have KAt := Aside.mk (at_any W1.heap.size w12.drew Z A c (strL s) a' b' (B12.out.1.below (below_drewN w12 1)))
              generalize numQ (errQ a' b') = n1 at *
              generalize atQ (errQ a' b') = n2 at *
              generalize numQ (endQ (strL s) a' b') = n3 at *
              generalize atQ (endQ (strL s) a' b') = n4 at *
              go_wp2_with fail
              go_region_held3 (fun w' => w'.cell? ⟨w2.heap.size, 1, none⟩ = some (.int .i64 a')) (first | go_keep | assumption) (first
                | ((with_reducible refine KAt.out.mono ?_); rintro e w13 ⟨rfl, rfl⟩))
              all_goals
                go_wp2_with fail
                go_roundg (L.length - (k + 1))
                case measure => omega
                case rel => exact ⟨k + 1, a', b', by omega, rfl, by go_num, ⟨B12.out.1.below (below_drewN w12 1), B12.out.2.1, bel_then B12.out.2.2 (below_drewN w12 1)⟩⟩
          · have hlt3' : ¬ k < 100 := by omega
            clear hk
            go_wp2_with fail
            go_ret
            exact ⟨rfl, hst.out.2.2⟩
        · obtain rfl : k = L.length := by omega
          clear hlt hk
          go_wp2_with fail
          go_ret
          exact ⟨rfl, hst.out.2.2⟩
end Go.Proofs.YtdfbiofmfjmkaaaDoor