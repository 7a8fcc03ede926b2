/- Paths: the search in depth: a closure that calls itself. -/
import Derived.Test.YtflkfjjfhhapkaaPthB
namespace Go.Proofs.Ytflkfjjfhhapkaa
open Go.RowKit
set_option linter.unusedVariables false
set_option linter.unusedSimpArgs false

theorem callFunc_into1 (args : Array Value) (w : World) : (callFunc 28 args).run Try.prog w = .ok (.enter 28 args) w := by kernel_rfl
theorem callFunc_reach1 (args : Array Value) (w : World) : (callFunc 37 args).run Try.prog w = .ok (.enter 37 args) w := by kernel_rfl

/-- What the search holds: the plan's box, the step's, the row, the row's box, the closure's box. -/
structure FlSt (w0 : World) (B R : Nat) (pc : Array Value) (n : Nat) (K : List Bool) (a : World) : Prop where
  below : Below w0.heap.size w0 a
  box : a.heap[B]? = some (.cells pc 28 (0, 0))
  stp : a.heap[B + 1]? = some (.cells #[.func (.func 28) #[] #[]] 63 (0, 0))
  row : a.heap[R]? = some (rowB K)
  kn : a.heap[R + 1]? = some (.cells #[.slice (some ⟨R, 0, none⟩) n n] 31 (0, 0))
  fn : a.heap[R + 1 + 1]? = some (.cells #[.func (.func 37) #[] #[.pointer (some ⟨R + 1, 0, none⟩), .pointer (some ⟨B, 0, none⟩), .pointer (some ⟨B + 1, 0, none⟩), .pointer (some ⟨R + 1 + 1, 0, none⟩)]] 75 (0, 0))
  hB : w0.heap.size ≤ B
  hR : B + 1 < R
theorem FlSt.old {w0 a b : World} {B R n : Nat} {pc : Array Value} {K : List Bool} (s : FlSt w0 B R pc n K a) (k : Below a.heap.size a b) : FlSt w0 B R pc n K b :=
  ⟨bel_then s.below k, (k.block _ (lt_of_block s.box)).trans s.box, (k.block _ (lt_of_block s.stp)).trans s.stp, (k.block _ (lt_of_block s.row)).trans s.row, (k.block _ (lt_of_block s.kn)).trans s.kn, (k.block _ (lt_of_block s.fn)).trans s.fn, s.hB, s.hR⟩
theorem FlSt.set {w0 a : World} {B R n : Nat} {pc : Array Value} {K : List Bool} (s : FlSt w0 B R pc n K a) (i : Nat) : FlSt w0 B R pc n (K.set i true) (a.setCell ⟨R, i, none⟩ (.bool true)) := by
  have hk : Kept (fun k => k = R) a (a.setCell ⟨R, i, none⟩ (.bool true)) := (Kept.refl (fun k => k = R) a).setCell (p := ⟨R, i, none⟩) (.inl rfl) _
  have h1 := s.hR
  have h2 := s.hB
  exact ⟨s.below.trans (hk.below s.below.size (fun k e => by subst e; omega)), hk.heap s.box (by omega), hk.heap s.stp (by omega), rowB_set s.row i true, hk.heap s.kn (by omega), hk.heap s.fn (by omega), s.hB, s.hR⟩
def FolP (w0 : World) (B R : Nat) (pc : Array Value) (n : Nat) (H : List ChanR) (K : List Bool) (a : Nat) (w : World) (e : Ending) (w' : World) : Prop :=
  e = .returned (.tuple #[]) ∧ ∃ L, Fol n H K a L ∧ FlSt w0 B R pc n L w' ∧ Kept (fun k => k = R) w w'

set_option maxHeartbeats 3200000 in
set_option maxRecDepth 100000 in
theorem follow_any (w0 : World) (n : Nat) (H : List ChanR) (fr : Int) (a0 : Option Addr) (n0 c0 : Nat) (a1 : Option Addr) (c1 : Nat) (a2 : Option Addr) (c2 : Nat) (a3 : Option Addr) (n3 c3 : Nat) (B R : Nat)
    (hf : 0 ≤ fr ∧ fr ≤ 65535) (hN : n ≤ 65535) (hlenH : H.length ≤ 9223372036854775807) (HC : Chans w0 (.slice a2 H.length c2) H)
    (KR : ∀ W c, ChanR.Ok c → Below w0.heap.size w0 W → Calls Try.prog 31 #[.agg #[.int .u16 fr, .slice a0 n0 c0, .slice a1 n c1, .slice a2 H.length c2, .slice a3 n3 c3], ChanR.val c] W fun e w' => e = .returned (.bool (rightB n c)) ∧ Below W.heap.size W w')
    (m : Nat) : ∀ (K : List Bool) (a : Nat) (w : World), freeN K ≤ m → K.length = n → a < n → K.getD a false = false → FlSt w0 B R #[.int .u16 fr, .slice a0 n0 c0, .slice a1 n c1, .slice a2 H.length c2, .slice a3 n3 c3] n K w →
      Calls Try.prog 37 #[.int .i64 (a : Int), .pointer (some ⟨R + 1, 0, none⟩), .pointer (some ⟨B, 0, none⟩), .pointer (some ⟨B + 1, 0, none⟩), .pointer (some ⟨R + 1 + 1, 0, none⟩)] w (FolP w0 B R #[.int .u16 fr, .slice a0 n0 c0, .slice a1 n c1, .slice a2 H.length c2, .slice a3 n3 c3] n H K a w) := by
  induction m with
  | zero =>
    intro K a w h1 h2 h3 h4 _
    have := free_set (K := K) (i := a) (by omega) h4
    omega
  | succ m ih =>
    intro K a w h1 h2 h3 h4 S
    obtain ⟨pc, hpc⟩ : ∃ pc : Array Value, pc = #[.int .u16 fr, .slice a0 n0 c0, .slice a1 n c1, .slice a2 H.length c2, .slice a3 n3 c3] := ⟨_, rfl⟩
    rw [← hpc] at ih S ⊢
    have HP := Aside.mk hpc
    have IH := Aside.mk ih
    have HK := Aside.mk (And.intro h2 (And.intro h3 h4))
    have HM : Aside (freeN (K.set a true) ≤ m) := ⟨by have := free_set (K := K) (i := a) (by omega) h4; omega⟩
    have HCs := Aside.mk (And.intro HC KR)
    have hRl : Aside (B + 1 < R ∧ w0.heap.size ≤ B) := ⟨S.hR, S.hB⟩
    obtain ⟨f0, f1⟩ := hf
    have g0 := cell_of_one S.kn
    have z0 : w.frozen? ⟨R, a, none⟩ = false := rowB_free S.row a
    have x0 : w.cell? ⟨R, a, none⟩ = some (.bool false) := by rw [← h4]; exact rowB_cell S.row a (by omega)
    have hbx := S.box
    rw [hpc] at hbx
    obtain ⟨b0, b1, b2, b3, b4⟩ := box5 hbx
    have han : (a : Int) < (n : Int) := by omega
    have hRB : R ≠ B := by have := S.hR; omega
    have hBR : B ≠ R := by have := S.hR; omega
    obtain ⟨W1, HW⟩ : ∃ W1, Aside (W1 = w.setCell ⟨R, a, none⟩ (.bool true)) := ⟨_, ⟨rfl⟩⟩
    have K1 : Aside (Kept (fun k => k = R) w W1 ∧ R < W1.heap.size) := ⟨by rw [HW.out]; exact ⟨(Kept.refl (fun k => k = R) w).setCell (p := ⟨R, a, none⟩) (.inl rfl) _, by simpa using lt_of_block S.row⟩⟩
    have S1 : Aside (FlSt w0 B R pc n (K.set a true) W1) := ⟨by rw [HW.out]; exact S.set a⟩
    clear hpc ih h1 h2 h3 h4 HC KR S hbx
    go_enter Try.func37, Try.ntmps37
    go_upto_region 1 with (fail)
    rw [← HW.out]
    clear g0 z0 x0 b0 b1 b2 b3 b4 han hRB hBR
    have hbx := S1.out.box
    rw [HP.out] at hbx
    obtain ⟨b0, b1, b2, b3, b4⟩ := box5 hbx
    clear hbx
    go_wp2_with fail
    clear b0 b1 b2 b3 b4
    go_loopg [16] H.length (fun g i wr => ∃ k : Nat, k ≤ H.length ∧ g = H.length - k ∧ i = .int .i64 k ∧ Aside (∃ L, FolL n H K a k L ∧ FlSt w0 B R pc n L wr ∧ Kept (fun k => k = R) W1 wr))
    case atStart => exact ⟨0, by omega, rfl, rfl, ⟨_, FolL.start HK.out.1 HK.out.2.1, S1.out, Kept.refl _ _⟩⟩
    case round =>
      obtain ⟨k, hk, rfl, rfl, ⟨L, FL, T, KT⟩⟩ := hrel
      have KT := Aside.mk KT
      have FL := Aside.mk FL
      have T := Aside.mk T
      by_cases hkl : k < H.length
      · have hl := List.getElem?_eq_getElem hkl
        obtain ⟨c, hc⟩ : ∃ c, H[k] = c := ⟨_, rfl⟩
        rw [hc] at hl
        obtain ⟨ad, rfl, d0, d1, d2, d3, d4, d5, ok⟩ := (HCs.out.1.below T.out.below).at_ k c hl
        have KC := Aside.mk (fun W h => HCs.out.2 W c ok h)
        have OK := Aside.mk ok
        have HL := Aside.mk hl
        have hbx := T.out.box
        rw [HP.out] at hbx
        obtain ⟨b0, b1, b2, b3, b4⟩ := box5 hbx
        have hBl : B < wr.heap.size := lt_of_block T.out.box
        obtain ⟨W4, HW4⟩ : ∃ W4, Aside (W4 = wr.alloc (.cells #[.int .u8 (ChanR.k c), .int .u8 (ChanR.f c), .int .u8 (ChanR.t c), .int .u8 (ChanR.z c), .int .u8 (ChanR.d c), .int .u16 (ChanR.y c)] 44)) := ⟨_, ⟨rfl⟩⟩
        have S4 : Aside (FlSt w0 B R pc n L W4 ∧ W4.heap[wr.heap.size]? = some (.cells #[.int .u8 (ChanR.k c), .int .u8 (ChanR.f c), .int .u8 (ChanR.t c), .int .u8 (ChanR.z c), .int .u8 (ChanR.d c), .int .u16 (ChanR.y c)] 44 (0, 0)) ∧ Kept (fun k => k = R) W1 W4) := ⟨by
          rw [HW4.out]; exact ⟨T.out.old (bel_one _ _), heap_alloc_new _ _, KT.out.alloc _⟩⟩
        obtain ⟨br, hbr⟩ : ∃ br, rightB n c = br := ⟨_, rfl⟩
        rw [hbr] at KC
        have HR := Aside.mk hbr
        unfold ChanR.val at KC
        clear hl hc ok hbx hbr
        go_wp2_with fail
        rw [← HW4.out]
        refine (KC.out _ S4.out.1.below).mono ?_
        rintro e w5 ⟨rfl, b5⟩
        have S5 := Aside.mk (And.intro (S4.out.1.old b5) (And.intro ((b5.block _ (lt_of_block S4.out.2.1)).trans S4.out.2.1) (S4.out.2.2.trans (Kept.of_below b5))))
        clear b5 d0 d1 d2 d3 d4 d5 b0 b1 b2 b3 b4
        cases br
        · go_wp2_with fail
          go_roundg (H.length - (k + 1))
          case measure => omega
          case rel => exact ⟨k + 1, by omega, rfl, by go_num, ⟨L, FL.out.next HL.out (fun r => by rw [HR.out] at r; cases r), S5.out.1, S5.out.2.2⟩⟩
        · obtain ⟨⟨f0', f1'⟩, t0', t1'⟩ := rightB_iff.1 HR.out
          obtain ⟨fc, hfc⟩ : ∃ fc : Nat, ChanR.f c = (fc : Int) := ⟨_, (Int.toNat_of_nonneg f0').symm⟩
          obtain ⟨tc, htc⟩ : ∃ tc : Nat, ChanR.t c = (tc : Int) := ⟨_, (Int.toNat_of_nonneg t0').symm⟩
          have KI := Aside.mk (fun W => into1_any c OK.out W)
          unfold ChanR.val at KI
          rw [hfc, htc] at KI S5
          have HFT := Aside.mk (And.intro hfc htc)
          have g1 := cell_of_one S5.out.1.stp
          have q0 : w5.cell? ⟨wr.heap.size, 0, none⟩ = some (.int .u8 (ChanR.k c)) := by have := S5.out.2.1; simp [World.cell?, this]
          have q1 : w5.cell? ⟨wr.heap.size, 1, none⟩ = some (.int .u8 (fc : Int)) := by have := S5.out.2.1; simp [World.cell?, this]
          have q2 : w5.cell? ⟨wr.heap.size, 2, none⟩ = some (.int .u8 (tc : Int)) := by have := S5.out.2.1; simp [World.cell?, this]
          have q3 : w5.cell? ⟨wr.heap.size, 3, none⟩ = some (.int .u8 (ChanR.z c)) := by have := S5.out.2.1; simp [World.cell?, this]
          have q4 : w5.cell? ⟨wr.heap.size, 4, none⟩ = some (.int .u8 (ChanR.d c)) := by have := S5.out.2.1; simp [World.cell?, this]
          have q5 : w5.cell? ⟨wr.heap.size, 5, none⟩ = some (.int .u16 (ChanR.y c)) := by have := S5.out.2.1; simp [World.cell?, this]
          have hcf := callFunc_into1
          rw [hfc] at f0' f1'
          rw [htc] at t0' t1'
          clear hfc htc
          go_wp2_with fail
          refine (KI.out _).mono ?_
          rintro e w6 ⟨rfl, b6⟩
          have S6 := Aside.mk (And.intro (S5.out.1.old b6) (And.intro ((b6.block _ (lt_of_block S5.out.2.1)).trans S5.out.2.1) (S5.out.2.2.trans (Kept.of_below b6))))
          clear b6 q0 q1 q2 q3 q4 q5 g1 hcf
          have hlL : Aside (L.length = n) := ⟨FL.out.len⟩
          have hfcn : (fc : Int) < (n : Int) := f1'
          have htcn : (tc : Int) < (n : Int) := t1'
          have hcr := callFunc_reach1
          go_upto_region 6 with (fail)
          go_cut [39] (fun s wc => ∃ b : Bool, s = .bool b ∧ w6 = wc ∧ Aside (b = true ↔ tc = a ∧ L.getD fc false = false))
          case first =>
            have g0 := cell_of_one S6.out.1.kn
            have r1 : w6.cell? ⟨R, fc, none⟩ = some (.bool (L.getD fc false)) := rowB_cell S6.out.1.row fc (by rw [hlL.out]; omega)
            obtain ⟨bL, hbL⟩ : ∃ bL, L.getD fc false = bL := ⟨_, rfl⟩
            rw [hbL] at r1
            have HB := Aside.mk hbL
            clear hbL
            by_cases hta : tc = a
            · have hta2 : ((tc : Int) == (a : Int)) = true := by simp [hta]
              have hta3 : (tc == a) = true := by simp [hta]
              have HTA := Aside.mk hta
              clear hta
              cases bL
              · go_wp2_with fail
                go_meet
                case rel => exact ⟨true, rfl, rfl, ⟨by rw [HB.out]; simp [HTA.out]⟩⟩
              · go_wp2_with fail
                go_meet
                case rel => exact ⟨false, rfl, rfl, ⟨by rw [HB.out]; simp⟩⟩
            · have hta2 : ((tc : Int) == (a : Int)) = false := by simp; omega
              have hta3 : (tc == a) = false := by simp [hta]
              have HTA := Aside.mk hta
              clear hta
              go_wp2_with fail
              go_meet
              case rel => exact ⟨false, rfl, rfl, ⟨by simp [HTA.out]⟩⟩
          case rest =>
            obtain ⟨b, rfl, rfl, hb⟩ := hcut
            go_upto_if 39 with (fail)
            go_cut [] (fun wc => Aside (∃ L2, FolL n H K a k L2 ∧ (FlSt w0 B R pc n L2 wc ∧ wc.heap[wr.heap.size]? = some (.cells #[.int .u8 (ChanR.k c), .int .u8 (fc : Int), .int .u8 (tc : Int), .int .u8 (ChanR.z c), .int .u8 (ChanR.d c), .int .u16 (ChanR.y c)] 44 (0, 0)) ∧ Kept (fun k => k = R) W1 wc) ∧ (tc = a → L2.getD fc false = true)))
            case first =>
              have g1 := cell_of_one S6.out.1.fn
              cases b
              · go_wp2_with fail
                go_meet
                case rel =>
                  refine ⟨L, FL.out, S6.out, fun e => ?_⟩
                  cases hq : L.getD fc false with
                  | true => rfl
                  | false => have := hb.out.2 ⟨e, hq⟩; cases this
              · obtain ⟨hta, hLf⟩ := hb.out.1 rfl
                have KF := IH.out L fc w6 (Nat.le_trans (free_le (by rw [List.length_set, HK.out.1, hlL.out]) FL.out.sub) HM.out) hlL.out (by omega) hLf S6.out.1
                have KF := Aside.mk KF
                have hst : Step n H fc a := ⟨c, List.mem_of_getElem? HL.out, HR.out, .inl ⟨HFT.out.1, by rw [HFT.out.2, hta]⟩⟩
                have HST := Aside.mk hst
                clear hst hta hLf
                go_wp2_with fail
                refine KF.out.mono ?_
                rintro e w7 ⟨rfl, L2, F2, S7, k7⟩
                have F2 := Aside.mk F2
                have S7 := Aside.mk (And.intro S7 (And.intro (k7.heap S6.out.2.1 (by have := lt_of_block S4.out.2.1; have := KT.out.size; have := K1.out.2; omega)) (S6.out.2.2.trans k7)))
                clear k7 g1
                go_wp2_with fail
                go_meet
                case rel => exact ⟨L2, FL.out.call HST.out F2.out, S7.out, fun _ => F2.out.at_⟩
            case rest =>
              obtain ⟨L2, FL2, S7, hfL⟩ := hcut.out
              have FL2 := Aside.mk FL2
              have S7 := Aside.mk S7
              have HFL := Aside.mk hfL
              have hlL2 : Aside (L2.length = n) := ⟨FL2.out.len⟩
              clear hcut hfL
              have g0 := cell_of_one S7.out.1.kn
              have g1 := cell_of_one S7.out.1.fn
              have r1 : wc.cell? ⟨R, tc, none⟩ = some (.bool (L2.getD tc false)) := rowB_cell S7.out.1.row tc (by rw [hlL2.out]; omega)
              have q0 : wc.cell? ⟨wr.heap.size, 0, none⟩ = some (.int .u8 (ChanR.k c)) := by have := S7.out.2.1; simp [World.cell?, this]
              obtain ⟨bL, hbL⟩ : ∃ bL, L2.getD tc false = bL := ⟨_, rfl⟩
              rw [hbL] at r1
              have HB := Aside.mk hbL
              obtain ⟨kd, hkd⟩ : ∃ kd, ChanR.k c = kd := ⟨_, rfl⟩
              rw [hkd] at q0
              obtain ⟨kk0, kk1⟩ := OK.out.k
              rw [hkd] at kk0 kk1
              have HKD := Aside.mk hkd
              clear hbL hkd
              have DN : Aside (∀ M : List Bool, (∀ i, L2.getD i false = true → M.getD i false = true) → (kd = 0 → fc = a → M.getD tc false = true) → doneC n c a M) := ⟨fun M hs hq r => ⟨fun e => by
                  rw [HFT.out.1, Int.toNat_natCast]; rw [HFT.out.2] at e; exact hs _ (HFL.out (by omega)), fun e1 e2 => by
                  rw [HFT.out.2, Int.toNat_natCast]; rw [HFT.out.1] at e2; rw [HKD.out] at e1; exact hq e1 (by omega)⟩⟩
              by_cases hk0 : kd = 0
              · subst hk0
                by_cases hfa : fc = a
                · have hfa2 : ((fc : Int) == (a : Int)) = true := by simp [hfa]
                  have hfa3 : (fc == a) = true := by simp [hfa]
                  have HFA := Aside.mk hfa
                  clear hfa
                  cases bL
                  · have KF := IH.out L2 tc wc (Nat.le_trans (free_le (by rw [List.length_set, HK.out.1, hlL2.out]) FL2.out.sub) HM.out) hlL2.out (by omega) HB.out S7.out.1
                    have KF := Aside.mk KF
                    have hst : Step n H tc a := ⟨c, List.mem_of_getElem? HL.out, HR.out, .inr ⟨HKD.out, HFT.out.2, by rw [HFT.out.1, HFA.out]⟩⟩
                    have HST := Aside.mk hst
                    clear hst
                    go_wp2_with fail
                    refine KF.out.mono ?_
                    rintro e w7 ⟨rfl, L3, F3, S8, k7⟩
                    have F3 := Aside.mk F3
                    have S8 := Aside.mk (And.intro S8 (S7.out.2.2.trans k7))
                    clear k7 g0 g1 r1 q0
                    go_wp2_with fail
                    go_roundg (H.length - (k + 1))
                    case measure => omega
                    case rel => exact ⟨k + 1, by omega, rfl, by go_num, ⟨L3, (FL2.out.call HST.out F3.out).next HL.out (DN.out L3 F3.out.sub (fun _ _ => F3.out.at_)), S8.out⟩⟩
                  · go_wp2_with fail
                    go_roundg (H.length - (k + 1))
                    case measure => omega
                    case rel => exact ⟨k + 1, by omega, rfl, by go_num, ⟨L2, FL2.out.next HL.out (DN.out L2 (fun _ h => h) (fun _ _ => HB.out)), S7.out.1, S7.out.2.2⟩⟩
                · have hfa2 : ((fc : Int) == (a : Int)) = false := by simp; omega
                  have hfa3 : (fc == a) = false := by simp [hfa]
                  have HFA := Aside.mk hfa
                  clear hfa
                  go_wp2_with fail
                  go_roundg (H.length - (k + 1))
                  case measure => omega
                  case rel => exact ⟨k + 1, by omega, rfl, by go_num, ⟨L2, FL2.out.next HL.out (DN.out L2 (fun _ h => h) (fun _ e => absurd e HFA.out)), S7.out.1, S7.out.2.2⟩⟩
              · have hkb : (kd == 0) = false := by simp [hk0]
                have HK0 := Aside.mk hk0
                clear hk0
                go_wp2_with fail
                go_roundg (H.length - (k + 1))
                case measure => omega
                case rel => exact ⟨k + 1, by omega, rfl, by go_num, ⟨L2, FL2.out.next HL.out (DN.out L2 (fun _ h => h) (fun e => absurd e HK0.out)), S7.out.1, S7.out.2.2⟩⟩
      · obtain rfl : k = H.length := by omega
        go_wp2_with fail
        exact bodyPost_end (v := .tuple #[]) (by simp [results, Try.results37, go_sem]) rfl ⟨rfl, L, FL.out.fin, T.out, K1.out.1.trans KT.out⟩
end Go.Proofs.Ytflkfjjfhhapkaa
