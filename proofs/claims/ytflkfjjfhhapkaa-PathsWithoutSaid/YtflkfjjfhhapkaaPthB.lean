/- Paths: the reference's Into, round by round. -/
import Derived.Test.YtflkfjjfhhapkaaPthA
namespace Go.Proofs.Ytflkfjjfhhapkaa
open Go.RowKit
set_option linter.unusedVariables false
set_option linter.unusedSimpArgs false

theorem Chans.below {w w' : World} {v : Value} {L : List ChanR} (h : Chans w v L) (k : Below w.heap.size w w') : Chans w' v L := elems_below h k
/-- Who has a path is told. -/
def SomeB (w : World) (L : List Bool) (e : Ending) (w' : World) : Prop := ∃ v, e = .returned (.tuple #[v, .int .i64 0]) ∧ Bools w' v L ∧ Below w.heap.size w w'
/-- No such partition. -/
def NoB (w : World) (e : Ending) (w' : World) : Prop := e = .returned (.tuple #[.slice none 0 0, .int .i64 70]) ∧ Below w.heap.size w w'

theorem stepK_no {n : Nat} {c : ChanR} (h : rightB n c = false) (K : List Bool) : stepK n K c = K := by rw [stepK, if_neg (by rw [h]; simp)]
theorem stepK_yes {n : Nat} {c : ChanR} {fn tn : Nat} (h : rightB n c = true) (hf : ChanR.f c = (fn : Int)) (ht : ChanR.t c = (tn : Int)) (K : List Bool) :
    stepK n K c = if (decide (ChanR.k c = 0) && (if K.getD tn false = true then K.set fn true else K).getD fn false) = true then (if K.getD tn false = true then K.set fn true else K).set tn true else (if K.getD tn false = true then K.set fn true else K) := by
  rw [stepK, if_pos h, midK, kn, kn, hf, ht, Int.toNat_natCast, Int.toNat_natCast]
/-- A row of a call's own, and a plan's box. -/
structure RowSt (w0 : World) (X : Nat) (box : Obj) (B : Nat) (K : List Bool) (a : World) : Prop where
  below : Below w0.heap.size w0 a
  box : a.heap[X]? = some box
  row : a.heap[B]? = some (rowB K)
  hB : w0.heap.size ≤ B
  ne : X < B
theorem RowSt.old {w0 a b : World} {X B : Nat} {box : Obj} {K : List Bool} (s : RowSt w0 X box B K a) (k : Below a.heap.size a b) : RowSt w0 X box B K b :=
  ⟨bel_then s.below k, (k.block _ (lt_of_block s.box)).trans s.box, (k.block _ (lt_of_block s.row)).trans s.row, s.hB, s.ne⟩
theorem RowSt.set {w0 a : World} {X B : Nat} {box : Obj} {K : List Bool} (s : RowSt w0 X box B K a) (i : Nat) (b : Bool) : RowSt w0 X box B (K.set i b) (a.setCell ⟨B, i, none⟩ (.bool b)) := by
  have hk : Kept (fun k => k = B) a (a.setCell ⟨B, i, none⟩ (.bool b)) := (Kept.refl (fun k => k = B) a).setCell (p := ⟨B, i, none⟩) (.inl rfl) _
  exact ⟨s.below.trans (hk.below s.below.size (fun k e => by subst e; exact s.hB)), hk.heap s.box (by have := s.ne; omega), rowB_set s.row i b, s.hB, s.ne⟩

theorem rowB_rep_set (n p : Nat) : rowB ((List.replicate n false).set p true) = .cells ((Array.replicate n (Value.bool false)).setIfInBounds p (.bool true)) 4 (0, 0) := by
  rw [rowB, List.map_set, List.map_replicate, ← List.toArray_replicate, List.setIfInBounds_toArray]

theorem rinto_out (w : World) (v : Value) (P : Plan) (p : Int) (hv : PlanV w v P) (hq : inB (Plan.parts P).length p = false) :
    Calls Try.prog 13 #[v, .int .i64 p] w (NoB w) := by
  have HV := Aside.mk hv
  obtain ⟨a0, c0, a1, c1, a2, c2, a3, c3, rfl, hp, hlen⟩ := hv.open_
  have K1 : Aside (∀ W, Below w.heap.size w W → Calls Try.prog 17 #[.agg #[.int .u16 (Plan.frame P), .slice a0 (Plan.cores P).length c0, .slice a1 (Plan.parts P).length c1, .slice a2 (Plan.chans P).length c2, .slice a3 (Plan.pairs P).length c3], .int .i64 p] W fun e w' => e = .returned (.bool false) ∧ Below W.heap.size W w') := ⟨fun W h => by
    have := ris_any W _ P p (HV.out.below h)
    rwa [hq] at this⟩
  obtain ⟨W1, HW⟩ : ∃ W1, Aside (W1 = w.alloc (.cells #[.int .u16 (Plan.frame P), .slice a0 (Plan.cores P).length c0, .slice a1 (Plan.parts P).length c1, .slice a2 (Plan.chans P).length c2, .slice a3 (Plan.pairs P).length c3] 28)) := ⟨_, ⟨rfl⟩⟩
  have hb1 : Aside (Below w.heap.size w W1 ∧ W1.heap[w.heap.size]? = some (.cells #[.int .u16 (Plan.frame P), .slice a0 (Plan.cores P).length c0, .slice a1 (Plan.parts P).length c1, .slice a2 (Plan.chans P).length c2, .slice a3 (Plan.pairs P).length c3] 28 (0, 0))) := ⟨by rw [HW.out]; exact ⟨bel_one _ _, heap_alloc_new _ _⟩⟩
  clear hp hv
  go_enter Try.func13, Try.ntmps13
  go_wp2_with fail
  rw [← HW.out]
  refine (K1.out _ hb1.out.1).mono ?_
  rintro e w' ⟨rfl, b3⟩
  have B3 := Aside.mk (bel_then hb1.out.1 b3)
  clear b3
  go_wp2_with fail
  go_ret2
  exact ⟨rfl, B3.out⟩

set_option maxHeartbeats 3200000 in
set_option maxRecDepth 100000 in
theorem rinto_in (w : World) (v : Value) (P : Plan) (p : Nat) (hv : PlanV w v P) (hpn : p < (Plan.parts P).length) (hN : (Plan.parts P).length ≤ 65535) :
    Calls Try.prog 13 #[v, .int .i64 (p : Int)] w (SomeB w (intoL (Plan.parts P).length (Plan.chans P) p)) := by
  have HV := Aside.mk hv
  obtain ⟨a0, c0, a1, c1, a2, c2, a3, c3, rfl, hp, hlen⟩ := hv.open_
  have HC := Aside.mk hp.chans
  obtain ⟨i0, i1⟩ := hp.frame
  have hlenH : (Plan.chans P).length ≤ 9223372036854775807 := (Elems.len hp.chans).choose_spec.choose_spec.2
  have K1 : Aside (∀ W, Below w.heap.size w W → Calls Try.prog 17 #[.agg #[.int .u16 (Plan.frame P), .slice a0 (Plan.cores P).length c0, .slice a1 (Plan.parts P).length c1, .slice a2 (Plan.chans P).length c2, .slice a3 (Plan.pairs P).length c3], .int .i64 (p : Int)] W fun e w' => e = .returned (.bool true) ∧ Below W.heap.size W w') := ⟨fun W h => by
    have := ris_any W _ P (p : Int) (HV.out.below h)
    have e : inB (Plan.parts P).length (p : Int) = true := by rw [inB_iff]; omega
    rwa [e] at this⟩
  have KR : Aside (∀ W c, ChanR.Ok c → Below w.heap.size w W → Calls Try.prog 20 #[.agg #[.int .u16 (Plan.frame P), .slice a0 (Plan.cores P).length c0, .slice a1 (Plan.parts P).length c1, .slice a2 (Plan.chans P).length c2, .slice a3 (Plan.pairs P).length c3], ChanR.val c] W fun e w' => e = .returned (.bool (rightB (Plan.parts P).length c)) ∧ Below W.heap.size W w') := ⟨fun W c hc h => rright_any W _ P c hc (HV.out.below h)⟩
  have hmk := make_bools (Plan.parts P).length hN
  obtain ⟨n, hn⟩ : ∃ n, (Plan.parts P).length = n := ⟨_, rfl⟩
  obtain ⟨H, hH⟩ : ∃ H, Plan.chans P = H := ⟨_, rfl⟩
  obtain ⟨fr, hfr⟩ : ∃ fr, Plan.frame P = fr := ⟨_, rfl⟩
  obtain ⟨box, hbox⟩ : ∃ box : Obj, Aside (box = .cells #[.int .u16 (Plan.frame P), .slice a0 (Plan.cores P).length c0, .slice a1 (Plan.parts P).length c1, .slice a2 (Plan.chans P).length c2, .slice a3 (Plan.pairs P).length c3] 28 (0, 0)) := ⟨_, ⟨rfl⟩⟩
  obtain ⟨W1, HW⟩ : ∃ W1, Aside (W1 = w.alloc (.cells #[.int .u16 (Plan.frame P), .slice a0 (Plan.cores P).length c0, .slice a1 (Plan.parts P).length c1, .slice a2 (Plan.chans P).length c2, .slice a3 (Plan.pairs P).length c3] 28)) := ⟨_, ⟨rfl⟩⟩
  have hb1 : Aside (Below w.heap.size w W1 ∧ W1.heap[w.heap.size]? = some (.cells #[.int .u16 (Plan.frame P), .slice a0 (Plan.cores P).length c0, .slice a1 (Plan.parts P).length c1, .slice a2 (Plan.chans P).length c2, .slice a3 (Plan.pairs P).length c3] 28 (0, 0)) ∧ W1.heap.size = w.heap.size + 1) := ⟨by rw [HW.out]; exact ⟨bel_one _ _, heap_alloc_new _ _, by simp⟩⟩
  rw [hn] at hpn hN K1 KR hmk HW hb1 hbox
  rw [hH] at HC hlenH K1 KR HW hb1 hbox
  rw [hfr] at i0 i1 K1 KR HW hb1 hbox
  rw [hn, hH, hfr]
  clear hp hv hn hH HV hfr
  go_enter Try.func13, Try.ntmps13
  go_wp2_with fail
  rw [← HW.out]
  refine (K1.out _ hb1.out.1).mono ?_
  rintro e w2 ⟨rfl, b3⟩
  have B3 := Aside.mk (bel_then hb1.out.1 b3)
  have X2 := Aside.mk ((b3.block _ (lt_of_block hb1.out.2.1)).trans hb1.out.2.1)
  obtain ⟨g0, g1, g2, g3, g4⟩ := box5 X2.out
  have hlt2 : w.heap.size < w2.heap.size := lt_of_block X2.out
  clear b3
  obtain ⟨W3, HW3⟩ : ∃ W3, Aside (W3 = w2.alloc (.cells ((Array.replicate n (Value.bool false)).setIfInBounds p (.bool true)) 4)) := ⟨_, ⟨rfl⟩⟩
  have S3 : Aside (RowSt w w.heap.size box w2.heap.size (itK n H p 0) W3) := ⟨by
    rw [HW3.out, itK]
    refine ⟨bel_then B3.out (bel_one _ _), ?_, ?_, by omega, hlt2⟩
    · rw [hbox.out]; exact heap_up X2.out
    · rw [rowB_rep_set]; exact heap_alloc_new _ _⟩
  have hi0 : (p : Int) < (n : Int) := by omega
  go_wp2_with fail
  rw [← HW3.out]
  clear g0 g1 g2 g3 g4 hi0 hmk
  generalize hBB : w2.heap.size = B at *
  go_loopw [7] (fun i wr => ∃ t : Nat, t ≤ n ∧ i = .int .i64 t ∧ Aside (RowSt w w.heap.size box B (itK n H p t) wr)) (fun i _ => n - (intOf i).toNat)
  case atStart => exact ⟨0, by omega, rfl, S3⟩
  case round =>
    obtain ⟨t, ht, rfl, S⟩ := hrel
    obtain ⟨g0, g1, g2, g3, g4⟩ := box5 (by have := S.out.box; rwa [hbox.out] at this)
    clear g0 g1 g4
    by_cases htn : t < n
    · obtain ⟨K0, hK0⟩ : ∃ K0, Aside (itK n H p t = K0) := ⟨_, ⟨rfl⟩⟩
      have hl0 : Aside (K0.length = n) := ⟨by rw [← hK0.out]; exact itK_len _ _ _ _⟩
      rw [hK0.out] at S
      go_wp2_with fail
      clear g2 g3
      go_loopw [8] (fun i wq => ∃ k : Nat, k ≤ H.length ∧ i = .int .i64 k ∧ Aside (RowSt w w.heap.size box B (passK n (H.take k) K0) wq)) (fun i _ => H.length - (intOf i).toNat)
      case atStart => exact ⟨0, by omega, rfl, S⟩
      case round =>
        obtain ⟨k, hk, rfl, T⟩ := hrel
        obtain ⟨g0, g1, g2, g3, g4⟩ := box5 (by have := T.out.box; rwa [hbox.out] at this)
        by_cases hkl : k < H.length
        · have hl := List.getElem?_eq_getElem hkl
          obtain ⟨c, hc⟩ : ∃ c, H[k] = c := ⟨_, rfl⟩
          rw [hc] at hl
          obtain ⟨ad, rfl, d0, d1, d2, d3, d4, d5, ok⟩ := (HC.out.below T.out.below).at_ k c hl
          have KC := Aside.mk (fun W h => KR.out W c ok h)
          have HS : Aside (passK n (H.take (k + 1)) K0 = stepK n (passK n (H.take k) K0) c) := ⟨by rw [take_snoc hl, passK_snoc]⟩
          obtain ⟨K, hK⟩ : ∃ K, Aside (passK n (H.take k) K0 = K) := ⟨_, ⟨rfl⟩⟩
          have hlK : Aside (K.length = n) := ⟨by rw [← hK.out]; exact ((fold_adds (stepK_adds n) _).len _).trans hl0.out⟩
          rw [hK.out] at HS T
          obtain ⟨kk0, kk1⟩ := ok.k
          have hX5 : w.heap.size < wr.heap.size := lt_of_block T.out.box
          have hB5 : B < wr.heap.size := lt_of_block T.out.row
          have OK := Aside.mk ok
          cases hr : rightB n c with
          | false =>
            rw [hr] at KC
            have HX : Aside (passK n (H.take (k + 1)) K0 = K) := ⟨by rw [HS.out, stepK_no hr]⟩
            clear hl hc hr ok
            unfold ChanR.val at KC
            go_wp2_with fail
            refine (KC.out _ (bel_alloc T.out.below _)).mono ?_
            rintro e w5 ⟨rfl, b5⟩
            have S5 := Aside.mk ((T.out.old (bel_one _ _)).old b5)
            clear b5 d0 d1 d2 d3 d4 d5 g0 g1 g2 g3 g4
            go_wp2_with fail
            go_roundw
            case rel => exact ⟨k + 1, by omega, by go_num, by rw [HX.out]; exact S5⟩
            case measure => simp [intOf]; omega
          | true =>
            rw [hr] at KC
            obtain ⟨⟨f0, f1⟩, t0, t1⟩ := rightB_iff.1 hr
            obtain ⟨fn, hf⟩ : ∃ fn : Nat, ChanR.f c = (fn : Int) := ⟨_, (Int.toNat_of_nonneg f0).symm⟩
            obtain ⟨tn, htt⟩ : ∃ tn : Nat, ChanR.t c = (tn : Int) := ⟨_, (Int.toNat_of_nonneg t0).symm⟩
            have HE := Aside.mk (stepK_yes hr hf htt K)
            unfold ChanR.val at KC
            rw [hf] at f0 f1 KC d1
            rw [htt] at t0 t1 KC d2
            obtain ⟨kd, hkd⟩ : ∃ kd, ChanR.k c = kd := ⟨_, rfl⟩
            rw [hkd] at HE KC d0 kk0 kk1
            clear hl hc hr ok hf htt hkd
            have fl : Aside (fn < K.length ∧ tn < K.length) := ⟨by rw [hlK.out]; omega⟩
            have mk5 : ∀ w5, Below (wr.alloc (.cells #[.int .u8 kd, .int .u8 (fn : Int), .int .u8 (tn : Int), .int .u8 (ChanR.z c), .int .u8 (ChanR.d c), .int .u16 (ChanR.y c)] 44)).heap.size (wr.alloc (.cells #[.int .u8 kd, .int .u8 (fn : Int), .int .u8 (tn : Int), .int .u8 (ChanR.z c), .int .u8 (ChanR.d c), .int .u16 (ChanR.y c)] 44)) w5 →
                RowSt w w.heap.size box B K w5 ∧ w5.heap[wr.heap.size]? = some (.cells #[.int .u8 kd, .int .u8 (fn : Int), .int .u8 (tn : Int), .int .u8 (ChanR.z c), .int .u8 (ChanR.d c), .int .u16 (ChanR.y c)] 44 (0, 0)) := fun w5 b5 =>
              ⟨(T.out.old (bel_one _ _)).old b5, (b5.block _ (lt_of_block (heap_alloc_new _ _))).trans (heap_alloc_new _ _)⟩
            have MK := Aside.mk mk5
            clear mk5
            obtain ⟨b1, hb1'⟩ : ∃ b1, Aside (K.getD tn false = b1) := ⟨_, ⟨rfl⟩⟩
            obtain ⟨b2, hb2⟩ : ∃ b2, Aside (K.getD fn false = b2) := ⟨_, ⟨rfl⟩⟩
            have hfn : (fn : Int) < (n : Int) := f1
            have htn : (tn : Int) < (n : Int) := t1
            cases b1
            · rw [hb1'.out] at HE
              have HE : Aside (stepK n K c = if (decide (kd = 0) && b2) = true then K.set tn true else K) := ⟨by have := HE.out; simp only [Bool.false_eq_true, if_false, hb2.out] at this; exact this⟩
              by_cases hk0 : kd = 0
              · subst hk0
                cases b2
                · have HX : Aside (passK n (H.take (k + 1)) K0 = K) := ⟨by rw [HS.out, HE.out]; rfl⟩
                  go_wp2_with fail
                  refine (KC.out _ (bel_alloc T.out.below _)).mono ?_
                  rintro e w5 ⟨rfl, b5⟩
                  have S5 := Aside.mk (MK.out _ b5)
                  clear b5 d0 d1 d2 d3 d4 d5 g0 g1 g2 g3 g4
                  have y0 : w5.cell? ⟨wr.heap.size, 0, none⟩ = some (.int .u8 0) := by have := S5.out.2; simp [World.cell?, this]
                  have y1 : w5.cell? ⟨wr.heap.size, 1, none⟩ = some (.int .u8 (fn : Int)) := by have := S5.out.2; simp [World.cell?, this]
                  have y2 : w5.cell? ⟨wr.heap.size, 2, none⟩ = some (.int .u8 (tn : Int)) := by have := S5.out.2; simp [World.cell?, this]
                  have r1 : w5.cell? ⟨B, tn, none⟩ = some (.bool false) := by rw [← hb1'.out]; exact rowB_cell S5.out.1.row tn fl.out.2
                  have r2 : w5.cell? ⟨B, fn, none⟩ = some (.bool false) := by rw [← hb2.out]; exact rowB_cell S5.out.1.row fn fl.out.1
                  go_wp2_with fail
                  go_roundw
                  case rel => exact ⟨k + 1, by omega, by go_num, by rw [HX.out]; exact ⟨S5.out.1⟩⟩
                  case measure => simp [intOf]; omega
                · have HX : Aside (passK n (H.take (k + 1)) K0 = K.set tn true) := ⟨by rw [HS.out, HE.out]; rfl⟩
                  go_wp2_with fail
                  refine (KC.out _ (bel_alloc T.out.below _)).mono ?_
                  rintro e w5 ⟨rfl, b5⟩
                  have S5 := Aside.mk (MK.out _ b5)
                  clear b5 d0 d1 d2 d3 d4 d5 g0 g1 g2 g3 g4
                  have y0 : w5.cell? ⟨wr.heap.size, 0, none⟩ = some (.int .u8 0) := by have := S5.out.2; simp [World.cell?, this]
                  have y1 : w5.cell? ⟨wr.heap.size, 1, none⟩ = some (.int .u8 (fn : Int)) := by have := S5.out.2; simp [World.cell?, this]
                  have y2 : w5.cell? ⟨wr.heap.size, 2, none⟩ = some (.int .u8 (tn : Int)) := by have := S5.out.2; simp [World.cell?, this]
                  have r1 : w5.cell? ⟨B, tn, none⟩ = some (.bool false) := by rw [← hb1'.out]; exact rowB_cell S5.out.1.row tn fl.out.2
                  have r2 : w5.cell? ⟨B, fn, none⟩ = some (.bool true) := by rw [← hb2.out]; exact rowB_cell S5.out.1.row fn fl.out.1
                  have z1 : w5.frozen? ⟨B, tn, none⟩ = false := rowB_free S5.out.1.row tn
                  go_wp2_with fail
                  go_roundw
                  case rel => exact ⟨k + 1, by omega, by go_num, by rw [HX.out]; exact ⟨S5.out.1.set tn true⟩⟩
                  case measure => simp [intOf]; omega
              · have HX : Aside (passK n (H.take (k + 1)) K0 = K) := ⟨by rw [HS.out, HE.out]; simp [hk0]⟩
                have hkb : (kd == 0) = false := by simp [hk0]
                go_wp2_with fail
                refine (KC.out _ (bel_alloc T.out.below _)).mono ?_
                rintro e w5 ⟨rfl, b5⟩
                have S5 := Aside.mk (MK.out _ b5)
                clear b5 d0 d1 d2 d3 d4 d5 g0 g1 g2 g3 g4
                have y0 : w5.cell? ⟨wr.heap.size, 0, none⟩ = some (.int .u8 kd) := by have := S5.out.2; simp [World.cell?, this]
                have y1 : w5.cell? ⟨wr.heap.size, 1, none⟩ = some (.int .u8 (fn : Int)) := by have := S5.out.2; simp [World.cell?, this]
                have y2 : w5.cell? ⟨wr.heap.size, 2, none⟩ = some (.int .u8 (tn : Int)) := by have := S5.out.2; simp [World.cell?, this]
                have r1 : w5.cell? ⟨B, tn, none⟩ = some (.bool false) := by rw [← hb1'.out]; exact rowB_cell S5.out.1.row tn fl.out.2
                go_wp2_with fail
                go_roundw
                case rel => exact ⟨k + 1, by omega, by go_num, by rw [HX.out]; exact ⟨S5.out.1⟩⟩
                case measure => simp [intOf]; omega
            · rw [hb1'.out] at HE
              have hsf : Aside ((K.set fn true).getD fn false = true) := ⟨set_at K fn fl.out.1⟩
              have HE : Aside (stepK n K c = if decide (kd = 0) = true then (K.set fn true).set tn true else K.set fn true) := ⟨by have := HE.out; simp only [if_true, hsf.out, Bool.and_true] at this; exact this⟩
              by_cases hk0 : kd = 0
              · subst hk0
                have HX : Aside (passK n (H.take (k + 1)) K0 = (K.set fn true).set tn true) := ⟨by rw [HS.out, HE.out]; rfl⟩
                go_wp2_with fail
                refine (KC.out _ (bel_alloc T.out.below _)).mono ?_
                rintro e w5 ⟨rfl, b5⟩
                have S5 := Aside.mk (MK.out _ b5)
                clear b5 d0 d1 d2 d3 d4 d5 g0 g1 g2 g3 g4
                have y0 : w5.cell? ⟨wr.heap.size, 0, none⟩ = some (.int .u8 0) := by have := S5.out.2; simp [World.cell?, this]
                have y1 : w5.cell? ⟨wr.heap.size, 1, none⟩ = some (.int .u8 (fn : Int)) := by have := S5.out.2; simp [World.cell?, this]
                have y2 : w5.cell? ⟨wr.heap.size, 2, none⟩ = some (.int .u8 (tn : Int)) := by have := S5.out.2; simp [World.cell?, this]
                have r1 : w5.cell? ⟨B, tn, none⟩ = some (.bool true) := by rw [← hb1'.out]; exact rowB_cell S5.out.1.row tn fl.out.2
                have r2 : w5.cell? ⟨B, fn, none⟩ = some (.bool b2) := by rw [← hb2.out]; exact rowB_cell S5.out.1.row fn fl.out.1
                have z2 : w5.frozen? ⟨B, fn, none⟩ = false := rowB_free S5.out.1.row fn
                go_upto_region 15 with (fail)
                obtain ⟨w6, HW6⟩ : ∃ w6, Aside (w6 = w5.setCell ⟨B, fn, none⟩ (.bool true)) := ⟨_, ⟨rfl⟩⟩
                rw [← HW6.out]
                have S6 : Aside (RowSt w w.heap.size box B (K.set fn true) w6 ∧ w6.heap[wr.heap.size]? = some (.cells #[.int .u8 0, .int .u8 (fn : Int), .int .u8 (tn : Int), .int .u8 (ChanR.z c), .int .u8 (ChanR.d c), .int .u16 (ChanR.y c)] 44 (0, 0))) := ⟨by
                  rw [HW6.out]
                  exact ⟨S5.out.1.set fn true, ((Kept.refl (fun k => k = B) w5).setCell (p := ⟨B, fn, none⟩) (.inl rfl) _).heap S5.out.2 (by omega)⟩⟩
                clear y0 y1 y2 r1 r2 z2
                have y0 : w6.cell? ⟨wr.heap.size, 0, none⟩ = some (.int .u8 0) := by have := S6.out.2; simp [World.cell?, this]
                have y1 : w6.cell? ⟨wr.heap.size, 1, none⟩ = some (.int .u8 (fn : Int)) := by have := S6.out.2; simp [World.cell?, this]
                have y2 : w6.cell? ⟨wr.heap.size, 2, none⟩ = some (.int .u8 (tn : Int)) := by have := S6.out.2; simp [World.cell?, this]
                have r2 : w6.cell? ⟨B, fn, none⟩ = some (.bool true) := by rw [← hsf.out]; exact rowB_cell S6.out.1.row fn (by simpa using fl.out.1)
                obtain ⟨bt, r1⟩ : ∃ bt, w6.cell? ⟨B, tn, none⟩ = some (.bool bt) := ⟨_, rowB_cell S6.out.1.row tn (by simpa using fl.out.2)⟩
                have z1 : w6.frozen? ⟨B, tn, none⟩ = false := rowB_free S6.out.1.row tn
                go_wp2_with fail
                go_roundw
                case rel => exact ⟨k + 1, by omega, by go_num, by rw [HX.out]; exact ⟨S6.out.1.set tn true⟩⟩
                case measure => simp [intOf]; omega
              · have HX : Aside (passK n (H.take (k + 1)) K0 = K.set fn true) := ⟨by rw [HS.out, HE.out]; simp [hk0]⟩
                have hkb : (kd == 0) = false := by simp [hk0]
                go_wp2_with fail
                refine (KC.out _ (bel_alloc T.out.below _)).mono ?_
                rintro e w5 ⟨rfl, b5⟩
                have S5 := Aside.mk (MK.out _ b5)
                clear b5 d0 d1 d2 d3 d4 d5 g0 g1 g2 g3 g4
                have y0 : w5.cell? ⟨wr.heap.size, 0, none⟩ = some (.int .u8 kd) := by have := S5.out.2; simp [World.cell?, this]
                have y1 : w5.cell? ⟨wr.heap.size, 1, none⟩ = some (.int .u8 (fn : Int)) := by have := S5.out.2; simp [World.cell?, this]
                have y2 : w5.cell? ⟨wr.heap.size, 2, none⟩ = some (.int .u8 (tn : Int)) := by have := S5.out.2; simp [World.cell?, this]
                have r1 : w5.cell? ⟨B, tn, none⟩ = some (.bool true) := by rw [← hb1'.out]; exact rowB_cell S5.out.1.row tn fl.out.2
                have r2 : w5.cell? ⟨B, fn, none⟩ = some (.bool b2) := by rw [← hb2.out]; exact rowB_cell S5.out.1.row fn fl.out.1
                have z2 : w5.frozen? ⟨B, fn, none⟩ = false := rowB_free S5.out.1.row fn
                go_wp2_with fail
                go_roundw
                case rel => exact ⟨k + 1, by omega, by go_num, by rw [HX.out]; exact ⟨S5.out.1.set fn true⟩⟩
                case measure => simp [intOf]; omega
        · obtain rfl : k = H.length := by omega
          go_wp2_with fail
          go_roundw
          case rel => exact ⟨t + 1, by omega, by go_num, by have := T; rw [List.take_length] at this; rw [itK, hK0.out]; exact this⟩
          case measure => simp [intOf]; omega
    · obtain rfl : t = n := by omega
      have HI : Aside (itK t H p t = intoL t H p) := ⟨itK_into hpn⟩
      have hlI : Aside ((intoL t H p).length = t) := ⟨intoL_len _ _ _⟩
      go_wp2_with fail
      go_ret2
      have := rowB_bools (by have := S.out.row; rwa [HI.out] at this) (by rw [hlI.out]; omega) t
      exact ⟨_, rfl, by rwa [hlI.out] at this, S.out.below⟩
end Go.Proofs.Ytflkfjjfhhapkaa
