/- Paths: Outof, step by step. -/
import Derived.Test.YtflkfjjfhhapkaaPthB
import Derived.Laws.CopyRow
import Derived.Laws.CopyOwn
import Derived.Deep.RegionHeld3
import Derived.Deep.CutBlock
namespace Go.Proofs.Ytflkfjjfhhapkaa
open Go.RowKit
set_option linter.unusedVariables false
set_option linter.unusedSimpArgs false

/-- A plan's box, and two rows of the call's own. -/
structure TwoSt (w0 : World) (X : Nat) (box : Obj) (R1 R2 : Nat) (K W : List Bool) (a : World) : Prop where
  below : Below w0.heap.size w0 a
  box : a.heap[X]? = some box
  r1 : a.heap[R1]? = some (rowB K)
  r2 : a.heap[R2]? = some (rowB W)
  h1 : w0.heap.size ≤ R1
  h2 : w0.heap.size ≤ R2
  ne : R1 ≠ R2
  x1 : X < R1
  x2 : X < R2
theorem TwoSt.old {w0 a b : World} {X R1 R2 : Nat} {box : Obj} {K W : List Bool} (s : TwoSt w0 X box R1 R2 K W a) (k : Below a.heap.size a b) : TwoSt w0 X box R1 R2 K W b :=
  ⟨bel_then s.below k, (k.block _ (lt_of_block s.box)).trans s.box, (k.block _ (lt_of_block s.r1)).trans s.r1, (k.block _ (lt_of_block s.r2)).trans s.r2, s.h1, s.h2, s.ne, s.x1, s.x2⟩
theorem TwoSt.set {w0 a : World} {X R1 R2 : Nat} {box : Obj} {K W : List Bool} (s : TwoSt w0 X box R1 R2 K W a) (i : Nat) : TwoSt w0 X box R1 R2 (K.set i true) W (a.setCell ⟨R1, i, none⟩ (.bool true)) := by
  have hk : Kept (fun k => k = R1) a (a.setCell ⟨R1, i, none⟩ (.bool true)) := (Kept.refl (fun k => k = R1) a).setCell (p := ⟨R1, i, none⟩) (.inl rfl) _
  have := s.x1
  have hne := s.ne
  exact ⟨s.below.trans (hk.below s.below.size (fun k e => by subst e; exact s.h1)), hk.heap s.box (by omega), rowB_set s.r1 i true, hk.heap s.r2 (by omega), s.h1, s.h2, s.ne, s.x1, s.x2⟩
theorem TwoSt.copy {w0 a : World} {X R1 R2 n : Nat} {box : Obj} {K W : List Bool} (s : TwoSt w0 X box R1 R2 K W a) (hK : K.length = n) (hW : W.length = n) :
    ∃ b, (∀ ty, (Builtin.copy_ #[31, 31] ty #[.slice (some ⟨R2, 0, none⟩) n n, .slice (some ⟨R1, 0, none⟩) n n]).run Try.prog a = .ok (goInt n) b) ∧ TwoSt w0 X box R1 R2 K K b := by
  refine ⟨a.setRow R2 (K.map Value.bool).toArray, fun ty => ?_, ?_⟩
  · have := run_copy_row (P := Try.prog) a 31 31 ty 4 R2 0 n n ⟨R1, 0, none⟩ n n (W.map Value.bool).toArray 4 (K.map Value.bool)
      Try.underlying31 (by kernel_rfl) s.r2 (by simp [hK]) ?_ (by simp [hK, hW]) (fun u hu => by obtain ⟨b, _, rfl⟩ := List.mem_map.1 hu; rfl)
    · rw [this]
      have hd : List.drop (0 + (K.map Value.bool).length) (W.map Value.bool).toArray.toList = [] := by rw [List.drop_eq_nil_iff]; simp [hK, hW]
      rw [hd]
      simp [hK]
    · intro j v hv
      have hj : j < K.length := by
        have := (List.getElem?_eq_some_iff.1 hv).1
        simpa using this
      rw [Addr.add_lit, Nat.zero_add, rowB_cell s.r1 j hj, ← hv]
      simp [List.getElem?_map, List.getElem?_eq_getElem hj, List.getD_eq_getElem?_getD]
  · have hb := below_setRow (w := a) s.below s.h2 (K.map Value.bool).toArray
    have h1 := s.ne
    have h2 := s.x2
    exact ⟨hb, (setRow_other a R2 _ _ (by omega)).trans s.box, (setRow_other a R2 _ _ h1).trans s.r1, setRow_heap a R2 _ _ _ _ s.r2, s.h1, s.h2, s.ne, s.x1, s.x2⟩

theorem TwoSt.start {w0 a : World} {X : Nat} {box : Obj} (h : Below w0.heap.size w0 a) (hb : a.heap[X]? = some box) (hX : X < a.heap.size) (n : Nat) :
    TwoSt w0 X box a.heap.size (a.heap.size + 1) (List.replicate n false) (List.replicate n false) ((a.alloc (.cells (Array.replicate n (Value.bool false)) 4)).alloc (.cells (Array.replicate n (Value.bool false)) 4)).drew := by
  have hs := h.size
  refine ⟨bel_then h (bel_drew (bel_two _ _ _)), (heap_up (heap_up hb) : ((a.alloc _).alloc _).heap[X]? = _), ?_, ?_, hs, by omega, by omega, hX, by omega⟩
  · rw [rowB_rep]; exact (heap_up (heap_alloc_new _ _) : ((a.alloc _).alloc _).heap[a.heap.size]? = _)
  · rw [rowB_rep]; exact (heap_top _ _ _ (by simp) : ((a.alloc _).alloc _).heap[a.heap.size + 1]? = _)
theorem TwoSt.swap {w0 a : World} {X R1 R2 : Nat} {box : Obj} {K : List Bool} (s : TwoSt w0 X box R1 R2 K K a) : TwoSt w0 X box R2 R1 K K a :=
  ⟨s.below, s.box, s.r2, s.r1, s.h2, s.h1, s.ne.symm, s.x2, s.x1⟩

theorem outof_out (w : World) (v : Value) (P : Plan) (p : Int) (hv : PlanV w v P) (hq : inB (Plan.parts P).length p = false) :
    Calls Try.prog 15 #[v, .int .i64 p] w (NoB w) := by
  have HV := Aside.mk hv
  obtain ⟨a0, c0, a1, c1, a2, c2, a3, c3, rfl, hp, hlen⟩ := hv.open_
  have K1 : Aside (∀ W, Below w.heap.size w W → Calls Try.prog 29 #[.agg #[.int .u16 (Plan.frame P), .slice a0 (Plan.cores P).length c0, .slice a1 (Plan.parts P).length c1, .slice a2 (Plan.chans P).length c2, .slice a3 (Plan.pairs P).length c3], .int .i64 p] W fun e w' => e = .returned (.bool false) ∧ Below W.heap.size W w') := ⟨fun W h => by
    have := is_any W _ P p (HV.out.below h)
    rwa [hq] at this⟩
  obtain ⟨W1, HW⟩ : ∃ W1, Aside (W1 = w.alloc (.cells #[.int .u16 (Plan.frame P), .slice a0 (Plan.cores P).length c0, .slice a1 (Plan.parts P).length c1, .slice a2 (Plan.chans P).length c2, .slice a3 (Plan.pairs P).length c3] 28)) := ⟨_, ⟨rfl⟩⟩
  have hb1 : Aside (Below w.heap.size w W1 ∧ W1.heap[w.heap.size]? = some (.cells #[.int .u16 (Plan.frame P), .slice a0 (Plan.cores P).length c0, .slice a1 (Plan.parts P).length c1, .slice a2 (Plan.chans P).length c2, .slice a3 (Plan.pairs P).length c3] 28 (0, 0))) := ⟨by rw [HW.out]; exact ⟨bel_one _ _, heap_alloc_new _ _⟩⟩
  clear hp hv
  go_enter Try.func15, Try.ntmps15
  go_wp2_with fail
  rw [← HW.out]
  refine (K1.out _ hb1.out.1).mono ?_
  rintro e w' ⟨rfl, b3⟩
  have B3 := Aside.mk (bel_then hb1.out.1 b3)
  clear b3
  go_wp2_with fail
  go_ret2
  exact ⟨rfl, B3.out⟩

theorem stepO_no {n : Nat} {c : ChanR} (h : rightB n c = false) (K : List Bool) : stepO n K c = K := by rw [stepO, if_neg (by rw [h]; simp)]
theorem stepO_yes {n : Nat} {c : ChanR} {fn tn : Nat} (h : rightB n c = true) (hf : ChanR.f c = (fn : Int)) (ht : ChanR.t c = (tn : Int)) (K : List Bool) :
    stepO n K c = if K.getD fn false = true then K.set tn true else if (K.getD tn false && decide (ChanR.k c = 0)) = true then K.set fn true else K := by
  rw [stepO, if_pos h, kn, kn, hf, ht, Int.toNat_natCast, Int.toNat_natCast]
theorem passO_len (n : Nat) (H : List ChanR) (K : List Bool) : (passO n H K).length = K.length := (fold_adds (stepO_adds n) H).len K

set_option maxHeartbeats 6400000 in
set_option maxRecDepth 100000 in
theorem outof_in (w : World) (v : Value) (P : Plan) (p : Nat) (hv : PlanV w v P) (hpn : p < (Plan.parts P).length) (hN : (Plan.parts P).length ≤ 65535) :
    Calls Try.prog 15 #[v, .int .i64 (p : Int)] w (SomeB w (outL (Plan.parts P).length (Plan.chans P) p)) := by
  have HV := Aside.mk hv
  obtain ⟨a0, c0, a1, c1, a2, c2, a3, c3, rfl, hp, hlen⟩ := hv.open_
  have HC := Aside.mk hp.chans
  obtain ⟨i0, i1⟩ := hp.frame
  have hlenH : (Plan.chans P).length ≤ 9223372036854775807 := (Elems.len hp.chans).choose_spec.choose_spec.2
  have K1 : Aside (∀ W, Below w.heap.size w W → Calls Try.prog 29 #[.agg #[.int .u16 (Plan.frame P), .slice a0 (Plan.cores P).length c0, .slice a1 (Plan.parts P).length c1, .slice a2 (Plan.chans P).length c2, .slice a3 (Plan.pairs P).length c3], .int .i64 (p : Int)] W fun e w' => e = .returned (.bool true) ∧ Below W.heap.size W w') := ⟨fun W h => by
    have := is_any W _ P (p : Int) (HV.out.below h)
    have e : inB (Plan.parts P).length (p : Int) = true := by rw [inB_iff]; omega
    rwa [e] at this⟩
  have KR : Aside (∀ W c, ChanR.Ok c → Below w.heap.size w W → Calls Try.prog 31 #[.agg #[.int .u16 (Plan.frame P), .slice a0 (Plan.cores P).length c0, .slice a1 (Plan.parts P).length c1, .slice a2 (Plan.chans P).length c2, .slice a3 (Plan.pairs P).length c3], ChanR.val c] W fun e w' => e = .returned (.bool (rightB (Plan.parts P).length c)) ∧ Below W.heap.size W w') := ⟨fun W c hc h => right_any W _ P c hc (HV.out.below h)⟩
  have hmk := make_bools (Plan.parts P).length hN
  obtain ⟨n, hn⟩ : ∃ n, (Plan.parts P).length = n := ⟨_, rfl⟩
  obtain ⟨H, hH⟩ : ∃ H, Plan.chans P = H := ⟨_, rfl⟩
  obtain ⟨fr, hfr⟩ : ∃ fr, Plan.frame P = fr := ⟨_, rfl⟩
  obtain ⟨box, hbox⟩ : ∃ box : Obj, Aside (box = .cells #[.int .u16 (Plan.frame P), .slice a0 (Plan.cores P).length c0, .slice a1 (Plan.parts P).length c1, .slice a2 (Plan.chans P).length c2, .slice a3 (Plan.pairs P).length c3] 28 (0, 0)) := ⟨_, ⟨rfl⟩⟩
  obtain ⟨W1, HW⟩ : ∃ W1, Aside (W1 = w.alloc (.cells #[.int .u16 (Plan.frame P), .slice a0 (Plan.cores P).length c0, .slice a1 (Plan.parts P).length c1, .slice a2 (Plan.chans P).length c2, .slice a3 (Plan.pairs P).length c3] 28)) := ⟨_, ⟨rfl⟩⟩
  have hb1 : Aside (Below w.heap.size w W1 ∧ W1.heap[w.heap.size]? = some (.cells #[.int .u16 (Plan.frame P), .slice a0 (Plan.cores P).length c0, .slice a1 (Plan.parts P).length c1, .slice a2 (Plan.chans P).length c2, .slice a3 (Plan.pairs P).length c3] 28 (0, 0))) := ⟨by rw [HW.out]; exact ⟨bel_one _ _, heap_alloc_new _ _⟩⟩
  rw [hn] at hpn hN K1 KR hmk HW hb1 hbox
  rw [hH] at HC hlenH K1 KR HW hb1 hbox
  rw [hfr] at i0 i1 K1 KR HW hb1 hbox
  rw [hn, hH, hfr]
  clear hp hv hn hH HV hfr
  go_enter Try.func15, Try.ntmps15
  go_wp2_with fail
  rw [← HW.out]
  refine (K1.out _ hb1.out.1).mono ?_
  rintro e w2 ⟨rfl, b3⟩
  have B3 := Aside.mk (bel_then hb1.out.1 b3)
  have X2 := Aside.mk ((b3.block _ (lt_of_block hb1.out.2)).trans hb1.out.2)
  have hlt2 : w.heap.size < w2.heap.size := lt_of_block X2.out
  clear b3
  go_upto_region 3 with (fail)
  go_cut [6, 7] (fun k1 k2 wc => ∃ R1 R2 : Nat, k1 = .slice (some ⟨R1, 0, none⟩) n n ∧ k2 = .slice (some ⟨R2, 0, none⟩) n n ∧ Aside (TwoSt w w.heap.size box R1 R2 (List.replicate n false) (List.replicate n false) wc))
  case first =>
    obtain ⟨g0, g1, g2, g3, g4⟩ := box5 X2.out
    go_region_held3 (fun w' => w'.cell? ⟨w.heap.size, 2, none⟩ = some (.slice a1 n c1)) (first | go_keep) (fail)
    all_goals
      clear g0 g1 g2 g3 g4
      go_wp2_with fail
      go_meet
      case rel => first
        | exact ⟨_, _, rfl, rfl, ⟨TwoSt.start B3.out (by rw [hbox.out]; exact X2.out) hlt2 n⟩⟩
        | exact ⟨_, _, rfl, rfl, ⟨(TwoSt.start B3.out (by rw [hbox.out]; exact X2.out) hlt2 n).swap⟩⟩
  case rest =>
    obtain ⟨R1, R2, rfl, rfl, S⟩ := hcut
    have x0 : wc.cell? ⟨R1, p, none⟩ = some (.bool false) := by rw [← rep_get n p]; exact rowB_cell S.out.r1 p (by simpa using hpn)
    have z0 := rowB_free S.out.r1 p
    have hi0 : (p : Int) < (n : Int) := by omega
    obtain ⟨W3, HW3⟩ : ∃ W3, Aside (W3 = wc.setCell ⟨R1, p, none⟩ (.bool true)) := ⟨_, ⟨rfl⟩⟩
    have S3 : Aside (TwoSt w w.heap.size box R1 R2 ((List.replicate n false).set p true) (List.replicate n false) W3) := ⟨by rw [HW3.out]; exact S.out.set p⟩
    clear hmk
    go_upto_block 0 with (fail)
    rw [← HW3.out]
    clear x0 z0 hi0
    have O3 := Aside.mk (OutSt.start (n := n) (H := H) hpn)
    generalize (List.replicate n false).set p true = K3 at *
    generalize List.replicate n false = V3 at *
    go_wp2_with fail
    go_loopg [] (outM K3 V3) (fun g wr => ∃ K V, g = outM K V ∧ Aside (OutSt n H p K V ∧ TwoSt w w.heap.size box R1 R2 K V wr))
    case atStart => exact ⟨_, _, rfl, ⟨O3.out, S3.out⟩⟩
    case round =>
      obtain ⟨K0, V0, rfl, T⟩ := hrel
      have hl0 : Aside (K0.length = n ∧ V0.length = n) := ⟨T.out.1.len, T.out.1.wlen⟩
      have HBk : Bools wr (.slice (some ⟨R1, 0, none⟩) n n) K0 := by
        have := rowB_bools T.out.2.r1 (by rw [hl0.out.1]; omega) n
        rwa [hl0.out.1] at this
      have HBv : Bools wr (.slice (some ⟨R2, 0, none⟩) n n) V0 := by
        have := rowB_bools T.out.2.r2 (by rw [hl0.out.2]; omega) n
        rwa [hl0.out.2] at this
      have KE := Aside.mk (eqb_any wr _ _ K0 V0 HBk HBv)
      clear HBk HBv
      by_cases hkv : K0 = V0
      · have KE : Aside (Calls Try.prog 30 #[.slice (some ⟨R1, 0, none⟩) n n, .slice (some ⟨R2, 0, none⟩) n n] wr fun e w' => e = .returned (.bool true) ∧ Below wr.heap.size wr w') := ⟨by have := KE.out; rwa [decide_eq_true hkv] at this⟩
        have HQ := Aside.mk hkv
        clear hkv
        go_wp2_with fail
        refine KE.out.mono ?_
        rintro e w5 ⟨rfl, b5⟩
        have S5 := Aside.mk (T.out.2.old b5)
        clear b5
        go_wp2_with fail
        go_ret2
        have hF : K0 = outL n H p := OutSt.fin (K := K0) (by have := T.out.1; rwa [← HQ.out] at this)
        have := rowB_bools S5.out.r1 (by rw [hl0.out.1]; omega) n
        rw [hl0.out.1] at this
        exact ⟨_, rfl, by rw [← hF]; exact this, S5.out.below⟩
      · have KE : Aside (Calls Try.prog 30 #[.slice (some ⟨R1, 0, none⟩) n n, .slice (some ⟨R2, 0, none⟩) n n] wr fun e w' => e = .returned (.bool false) ∧ Below wr.heap.size wr w') := ⟨by have := KE.out; rwa [decide_eq_false hkv] at this⟩
        have HQ := Aside.mk hkv
        clear hkv
        go_wp2_with fail
        refine KE.out.mono ?_
        rintro e w5 ⟨rfl, b5⟩
        have S5 := Aside.mk (T.out.2.old b5)
        clear b5
        obtain ⟨w6, hcp, S6⟩ := S5.out.copy hl0.out.1 hl0.out.2
        have S6 := Aside.mk S6
        go_upto_region 7 with (fail)
        clear hcp
        obtain ⟨g0, g1, g2, g3, g4⟩ := box5 (by have := S6.out.box; rwa [hbox.out] at this)
        go_wp2_with fail
        clear g0 g1 g2 g3 g4
        go_loopg [35] H.length (fun g i wq => ∃ k : Nat, k ≤ H.length ∧ g = H.length - k ∧ i = .int .i64 k ∧ Aside (TwoSt w w.heap.size box R1 R2 (passO n (H.take k) K0) K0 wq))
        case atStart => exact ⟨0, by omega, rfl, rfl, S6⟩
        case round =>
          obtain ⟨k, hk, rfl, rfl, U⟩ := hrel
          by_cases hkl : k < H.length
          · have hl := List.getElem?_eq_getElem hkl
            obtain ⟨c, hc⟩ : ∃ c, H[k] = c := ⟨_, rfl⟩
            rw [hc] at hl
            obtain ⟨ad, rfl, d0, d1, d2, d3, d4, d5, ok⟩ := (HC.out.below U.out.below).at_ k c hl
            have KC := Aside.mk (fun W h => KR.out W c ok h)
            have HS : Aside (passO n (H.take (k + 1)) K0 = stepO n (passO n (H.take k) K0) c) := ⟨by rw [take_snoc hl, passO_snoc]⟩
            obtain ⟨K, hK⟩ : ∃ K, Aside (passO n (H.take k) K0 = K) := ⟨_, ⟨rfl⟩⟩
            have hlK : Aside (K.length = n) := ⟨by rw [← hK.out, passO_len]; exact hl0.out.1⟩
            rw [hK.out] at HS U
            obtain ⟨g0, g1, g2, g3, g4⟩ := box5 (by have := U.out.box; rwa [hbox.out] at this)
            have hX5 : w.heap.size < wr.heap.size := lt_of_block U.out.box
            obtain ⟨kk0, kk1⟩ := ok.k
            obtain ⟨br, hbr⟩ : ∃ br, rightB n c = br := ⟨_, rfl⟩
            rw [hbr] at KC
            have HR := Aside.mk hbr
            unfold ChanR.val at KC
            obtain ⟨W4, HW4⟩ : ∃ W4, Aside (W4 = wr.alloc (.cells #[.int .u8 (ChanR.k c), .int .u8 (ChanR.f c), .int .u8 (ChanR.t c), .int .u8 (ChanR.z c), .int .u8 (ChanR.d c), .int .u16 (ChanR.y c)] 44)) := ⟨_, ⟨rfl⟩⟩
            have S4 : Aside (TwoSt w w.heap.size box R1 R2 K K0 W4 ∧ W4.heap[wr.heap.size]? = some (.cells #[.int .u8 (ChanR.k c), .int .u8 (ChanR.f c), .int .u8 (ChanR.t c), .int .u8 (ChanR.z c), .int .u8 (ChanR.d c), .int .u16 (ChanR.y c)] 44 (0, 0))) := ⟨by
              rw [HW4.out]; exact ⟨U.out.old (bel_one _ _), heap_alloc_new _ _⟩⟩
            clear hl hc ok hbr
            go_upto_block 4 with (fail)
            rw [← HW4.out]
            clear d0 d1 d2 d3 d4 d5 g0 g1 g2 g3 g4
            obtain ⟨g0, g1, g2, g3, g4⟩ := box5 (by have := S4.out.1.box; rwa [hbox.out] at this)
            have q0 : W4.cell? ⟨wr.heap.size, 0, none⟩ = some (.int .u8 (ChanR.k c)) := by have := S4.out.2; simp [World.cell?, this]
            have q1 : W4.cell? ⟨wr.heap.size, 1, none⟩ = some (.int .u8 (ChanR.f c)) := by have := S4.out.2; simp [World.cell?, this]
            have q2 : W4.cell? ⟨wr.heap.size, 2, none⟩ = some (.int .u8 (ChanR.t c)) := by have := S4.out.2; simp [World.cell?, this]
            have q3 : W4.cell? ⟨wr.heap.size, 3, none⟩ = some (.int .u8 (ChanR.z c)) := by have := S4.out.2; simp [World.cell?, this]
            have q4 : W4.cell? ⟨wr.heap.size, 4, none⟩ = some (.int .u8 (ChanR.d c)) := by have := S4.out.2; simp [World.cell?, this]
            have q5 : W4.cell? ⟨wr.heap.size, 5, none⟩ = some (.int .u16 (ChanR.y c)) := by have := S4.out.2; simp [World.cell?, this]
            have hchl : wr.heap.size < W4.heap.size := lt_of_block S4.out.2
            go_wp2_with fail
            refine (KC.out _ S4.out.1.below).mono ?_
            rintro e w5 ⟨rfl, b5⟩
            have S5 := Aside.mk (And.intro (S4.out.1.old b5) ((b5.block _ (lt_of_block S4.out.2)).trans S4.out.2))
            clear b5 g0 g1 g2 g3 g4 q0 q1 q2 q3 q4 q5
            cases br
            · have HX : Aside (passO n (H.take (k + 1)) K0 = K) := ⟨by rw [HS.out, stepO_no HR.out]⟩
              go_wp2_with fail
              go_roundg (H.length - (k + 1))
              case measure => omega
              case rel => exact ⟨k + 1, by omega, rfl, by go_num, by rw [HX.out]; exact ⟨S5.out.1⟩⟩
            · obtain ⟨⟨f0, f1⟩, t0, t1⟩ := rightB_iff.1 HR.out
              obtain ⟨fn, hf⟩ : ∃ fn : Nat, ChanR.f c = (fn : Int) := ⟨_, (Int.toNat_of_nonneg f0).symm⟩
              obtain ⟨tn, htt⟩ : ∃ tn : Nat, ChanR.t c = (tn : Int) := ⟨_, (Int.toNat_of_nonneg t0).symm⟩
              have HE := Aside.mk (stepO_yes HR.out hf htt K)
              have fl : Aside (fn < K.length ∧ tn < K.length) := ⟨by rw [hlK.out]; omega⟩
              have q0 : w5.cell? ⟨wr.heap.size, 0, none⟩ = some (.int .u8 (ChanR.k c)) := by have := S5.out.2; simp [World.cell?, this]
              have q1 : w5.cell? ⟨wr.heap.size, 1, none⟩ = some (.int .u8 (fn : Int)) := by have := S5.out.2; rw [← hf]; simp [World.cell?, this]
              have q2 : w5.cell? ⟨wr.heap.size, 2, none⟩ = some (.int .u8 (tn : Int)) := by have := S5.out.2; rw [← htt]; simp [World.cell?, this]
              have r1 : w5.cell? ⟨R1, fn, none⟩ = some (.bool (K.getD fn false)) := rowB_cell S5.out.1.r1 fn fl.out.1
              have r2 : w5.cell? ⟨R1, tn, none⟩ = some (.bool (K.getD tn false)) := rowB_cell S5.out.1.r1 tn fl.out.2
              have z1 : w5.frozen? ⟨R1, tn, none⟩ = false := rowB_free S5.out.1.r1 tn
              have z2 : w5.frozen? ⟨R1, fn, none⟩ = false := rowB_free S5.out.1.r1 fn
              have hfn : (fn : Int) < (n : Int) := by omega
              have htn : (tn : Int) < (n : Int) := by omega
              obtain ⟨kd, hkd⟩ : ∃ kd, ChanR.k c = kd := ⟨_, rfl⟩
              rw [hkd] at HE q0 kk0 kk1
              obtain ⟨bf, hbf⟩ : ∃ bf, K.getD fn false = bf := ⟨_, rfl⟩
              obtain ⟨bt, hbt⟩ : ∃ bt, K.getD tn false = bt := ⟨_, rfl⟩
              rw [hbf] at HE r1
              rw [hbt] at HE r2
              clear hf htt hkd hbf hbt f0 f1 t0 t1
              cases bf
              · cases bt
                · have HX : Aside (passO n (H.take (k + 1)) K0 = K) := ⟨by rw [HS.out, HE.out]; rfl⟩
                  go_wp2_with fail
                  go_roundg (H.length - (k + 1))
                  case measure => omega
                  case rel => exact ⟨k + 1, by omega, rfl, by go_num, by rw [HX.out]; exact ⟨S5.out.1⟩⟩
                · by_cases hk0 : kd = 0
                  · subst hk0
                    have HX : Aside (passO n (H.take (k + 1)) K0 = K.set fn true) := ⟨by rw [HS.out, HE.out]; rfl⟩
                    go_wp2_with fail
                    go_roundg (H.length - (k + 1))
                    case measure => omega
                    case rel => exact ⟨k + 1, by omega, rfl, by go_num, by rw [HX.out]; exact ⟨S5.out.1.set fn⟩⟩
                  · have hkb : (kd == 0) = false := by simp [hk0]
                    have HX : Aside (passO n (H.take (k + 1)) K0 = K) := ⟨by rw [HS.out, HE.out]; simp [hk0]⟩
                    go_wp2_with fail
                    go_roundg (H.length - (k + 1))
                    case measure => omega
                    case rel => exact ⟨k + 1, by omega, rfl, by go_num, by rw [HX.out]; exact ⟨S5.out.1⟩⟩
              · have HX : Aside (passO n (H.take (k + 1)) K0 = K.set tn true) := ⟨by rw [HS.out, HE.out]; rfl⟩
                go_wp2_with fail
                go_roundg (H.length - (k + 1))
                case measure => omega
                case rel => exact ⟨k + 1, by omega, rfl, by go_num, by rw [HX.out]; exact ⟨S5.out.1.set tn⟩⟩
          · obtain rfl : k = H.length := by omega
            go_wp2_with fail
            go_roundg (outM (passO n H K0) K0)
            case measure => exact T.out.1.less HQ.out
            case rel => exact ⟨_, _, rfl, ⟨T.out.1.next, by have := U.out; rwa [List.take_length] at this⟩⟩
end Go.Proofs.Ytflkfjjfhhapkaa
