/- Layer 1: Where, of whatever function. The table: the gangs: what a core has of a gang. The table: the gangs. The table: which window has a tick, what a core serves, and all cores. -/
import Derived.Test.YtidjkhmlpgkaaaaDoorProg
import Derived.Test.YtidjkhmlpgkaaaaDoorKit
import Derived.Test.YtidjkhmlpgkaaaaDoorMgB
import Derived.Test.YtidjkhmlpgkaaaaDoorMgRa
import Derived.Test.YtidjkhmlpgkaaaaDoorMgP
import Derived.Deep.CutBlock
import Derived.Test.YtidjkhmlpgkaaaaDoorMgA
namespace Go.Proofs.YtidjkhmlpgkaaaaDoor
open Go.RowKit
set_option linter.unusedVariables false
set_option linter.unusedSimpArgs false

/-- the bits asked for, below c -/
def maskTo (p : Nat → Bool) : Nat → Nat
  | 0 => 0
  | c + 1 => maskTo p c ||| (if p c then 2 ^ c else 0)
theorem maskTo_lt_pow (p : Nat → Bool) (c : Nat) : maskTo p c < 2 ^ c := by
  induction c with
  | zero => simp [maskTo]
  | succ c ih =>
    have h2 : 2 ^ c < 2 ^ (c + 1) := Nat.pow_lt_pow_right (by decide) (by omega)
    have : maskTo p c < 2 ^ (c + 1) := by omega
    unfold maskTo
    apply Nat.or_lt_two_pow this
    split
    · exact h2
    · omega
theorem maskTo_lt (p : Nat → Bool) (c : Nat) (h : c ≤ 8) : maskTo p c < 256 := by
  have h1 := maskTo_lt_pow p c
  have : 2 ^ c ≤ 2 ^ 8 := Nat.pow_le_pow_right (by decide) h
  omega
theorem maskTo_bit (p : Nat → Bool) (c i : Nat) : (maskTo p c).testBit i = (decide (i < c) && p i) := by
  induction c with
  | zero => simp [maskTo]
  | succ c ih =>
    unfold maskTo
    rw [Nat.testBit_or, ih]
    by_cases hp : p c
    · simp only [hp, if_true, Nat.testBit_two_pow]
      by_cases hi : i = c
      · subst hi; simp [hp]
      · by_cases h2 : i < c
        · simp [h2, show i < c + 1 by omega]; intro h; omega
        · simp [h2, show ¬ i < c + 1 by omega]; omega
    · by_cases hi : i = c
      · subst hi; simp [hp]
      · by_cases h2 : i < c
        · simp [hp, h2, show i < c + 1 by omega]
        · simp [hp, h2, show ¬ i < c + 1 by omega]

theorem maskTo_le (p : Nat → Bool) (c : Nat) : maskTo p (c + 1) = maskTo p c + (if p c then 2 ^ c else 0) := by
  have h := maskTo_lt_pow p c
  show maskTo p c ||| (if p c then 2 ^ c else 0) = _
  split
  · rw [Nat.or_comm]
    have := Nat.two_pow_add_eq_or_of_lt h 1
    rw [Nat.mul_one] at this
    rw [← this, Nat.add_comm]
  · simp

theorem bit_any (a : Int) (h0 : 0 ≤ a) (h1 : a < 8) (w : World) :
    Calls Tryd.prog 81 #[.int .i64 a] w fun e w' => e = .returned (.int .u8 ((2 ^ a.toNat : Nat) : Int)) ∧ w = w' := by
  obtain ⟨n, rfl⟩ := Int.eq_ofNat_of_zero_le h0
  have : n = 0 ∨ n = 1 ∨ n = 2 ∨ n = 3 ∨ n = 4 ∨ n = 5 ∨ n = 6 ∨ n = 7 := by omega
  rcases this with rfl | rfl | rfl | rfl | rfl | rfl | rfl | rfl
  all_goals
    go_enter Tryd.func81, Tryd.ntmps81
    go_wp2
    go_ret
    exact ⟨ret_int (by decide), rfl⟩

theorem where_any (n : Int) (hn : n ≤ 9223372036854775807) (g : FuncId) (caps : Array Value) (hg : ∀ args w, (callFunc g args).run Tryd.prog w = .ok (.enter g args) w) (p : Nat → Bool) (J : Nat → World → Prop)
    (hf : ∀ c : Nat, c < 8 → (c : Int) < n → ∀ w, J c w → Calls Tryd.prog g (#[.int .i64 c] ++ caps) w fun e w' => e = .returned (.bool (p c)) ∧ J (c + 1) w') (w : World) (hJ : J 0 w) :
    Calls Tryd.prog 62 #[.int .i64 n, .func (.func g) #[] caps] w fun e w' => e = .returned (.int .u8 (maskTo p (min n.toNat 8))) ∧ J (min n.toNat 8) w' := by
  go_enter Tryd.func62, Tryd.ntmps62
  go_wp2_with fail
  go_loopw [5, 6] (fun s c wr => ∃ k : Nat, k ≤ 8 ∧ k ≤ n.toNat ∧ c = .int .i64 k ∧ s = .int .u8 (maskTo p k) ∧ J k wr) (fun _ c _ => 8 - (intOf c).toNat)
  case atStart => exact ⟨0, by omega, by omega, rfl, rfl, hJ⟩
  case round =>
    obtain ⟨k, hk8, hkn, rfl, rfl, hJk⟩ := hrel
    by_cases h1 : (k : Int) < n
    · by_cases h2 : k < 8
      · have hfk := hf k h2 h1 wr hJk
        clear hf
        rcases hp : p k with _ | _
        · rw [hp] at hfk
          have Hp := Aside.mk hp
          clear hp
          go_wp2_with fail
          refine hfk.mono ?_
          rintro e w1 ⟨rfl, hJ1⟩
          clear hfk
          go_wp2_with fail
          go_roundw
          case rel => exact ⟨k + 1, by omega, by omega, by go_num, by simp [maskTo, Hp.out], hJ1⟩
          case measure => simp [intOf]; omega
        · rw [hp] at hfk
          have Hp := Aside.mk hp
          clear hp
          go_wp2_with fail
          refine hfk.mono ?_
          rintro e w1 ⟨rfl, hJ1⟩
          clear hfk
          go_wp2_with (go_at_call 81; refine (bit_any k (by omega) (by omega) _).mono ?_; rintro e w' ⟨rfl, rfl⟩)
          go_roundw
          case rel =>
            refine ⟨k + 1, by omega, by omega, by go_num, ?_, hJ1⟩
            have hl := maskTo_lt p k hk8
            have h3 : 2 ^ k < 256 := Nat.lt_of_le_of_lt (Nat.pow_le_pow_right (by decide) (show k ≤ 7 by omega)) (by decide)
            rw [show ((2 : Int) ^ k) = ((2 ^ k : Nat) : Int) by simp, bits_or8 _ _ hl h3]
            simp [maskTo, Hp.out]
          case measure => simp [intOf]; omega
      · go_wp2_with fail
        go_ret
        have : k = 8 := by omega
        subst this
        rw [show min n.toNat 8 = 8 by omega]
        exact ⟨rfl, hJk⟩
    · go_wp2_with fail
      go_ret
      rw [show min n.toNat 8 = k by omega]
      exact ⟨rfl, hJk⟩

end Go.Proofs.YtidjkhmlpgkaaaaDoor

namespace Go.Proofs.YtidjkhmlpgkaaaaDoor
open Go.RowKit
set_option linter.unusedVariables false
set_option linter.unusedSimpArgs false

def hasG (L : List Win) (g : Int) : Bool := L.any fun x => decide (Win.g x = g)
def noWinT : Win := (0, 0, 0, 0, ())
def firstG (L : List Win) (g : Int) (d : Win) : Win := (L.find? fun x => decide (Win.g x = g)).getD d
/-- What a gang's windows are: the last core's first one. -/
def lastW (C : List (List Win)) (g : Int) : Nat → Win
  | 0 => noWinT
  | k + 1 => firstG (C.getD k []) g (lastW C g k)
theorem noWinT_ok : Win.Ok noWinT := ⟨by decide, by decide, by decide, by decide⟩
def gangObj (g m : Int) (W : Win) : Obj := .cells #[.int .u8 g, .int .u8 m, .int .u16 (Win.s W), .int .u16 (Win.l W), .int .u8 (Win.p W), .int .u8 (Win.g W)] 102 (0, 0)
structure GnSt (wb : World) (B X : Nat) (box : Obj) (g m : Int) (W : Win) (a : World) : Prop where
  below : Below wb.heap.size wb a
  box : a.heap[B]? = some box
  x : a.heap[X]? = some (gangObj g m W)
  hX : wb.heap.size ≤ X
  ne : B ≠ X
theorem GnSt.old {wb a b : World} {B X : Nat} {box : Obj} {g m : Int} {W : Win} (s : GnSt wb B X box g m W a) (k : Below a.heap.size a b) : GnSt wb B X box g m W b :=
  ⟨bel_then s.below k, (k.block _ (lt_of_block s.box)).trans s.box, (k.block _ (lt_of_block s.x)).trans s.x, s.hX, s.ne⟩
theorem callFunc_gangs1 (args : Array Value) (w : World) : (callFunc 63 args).run Tryd.prog w = .ok (.enter 63 args) w := by kernel_rfl
theorem GnSt.putW {wb a : World} {B X : Nat} {box : Obj} {g m : Int} {W : Win} (s : GnSt wb B X box g m W a) (V : Win) :
    GnSt wb B X box g m V ((((a.setCell ⟨X, 2, none⟩ (.int .u16 (Win.s V))).setCell ⟨X, 3, none⟩ (.int .u16 (Win.l V))).setCell ⟨X, 4, none⟩ (.int .u8 (Win.p V))).setCell ⟨X, 5, none⟩ (.int .u8 (Win.g V))) := by
  have hk : Kept (fun k => k = X) a ((((a.setCell ⟨X, 2, none⟩ (.int .u16 (Win.s V))).setCell ⟨X, 3, none⟩ (.int .u16 (Win.l V))).setCell ⟨X, 4, none⟩ (.int .u8 (Win.p V))).setCell ⟨X, 5, none⟩ (.int .u8 (Win.g V))) :=
    ((((Kept.refl (fun k => k = X) a).setCell (p := ⟨X, 2, none⟩) (.inl rfl) _).setCell (p := ⟨X, 3, none⟩) (.inl rfl) _).setCell (p := ⟨X, 4, none⟩) (.inl rfl) _).setCell (p := ⟨X, 5, none⟩) (.inl rfl) _
  refine ⟨s.below.trans (hk.below s.below.size (fun k e => by subst e; exact s.hX)), hk.heap s.box s.ne, ?_, s.hX, s.ne⟩
  have := heap_setCell_at (off := 5) (heap_setCell_at (off := 4) (heap_setCell_at (off := 3) (heap_setCell_at (off := 2) s.x (.int .u16 (Win.s V))) (.int .u16 (Win.l V))) (.int .u8 (Win.p V))) (.int .u8 (Win.g V))
  simpa [gangObj] using this
theorem GnSt.putM {wb a : World} {B X : Nat} {box : Obj} {g m : Int} {W : Win} (s : GnSt wb B X box g m W a) (n : Int) : GnSt wb B X box g n W (a.setCell ⟨X, 1, none⟩ (.int .u8 n)) := by
  have hk : Kept (fun k => k = X) a (a.setCell ⟨X, 1, none⟩ (.int .u8 n)) := (Kept.refl (fun k => k = X) a).setCell (p := ⟨X, 1, none⟩) (.inl rfl) _
  refine ⟨s.below.trans (hk.below s.below.size (fun k e => by subst e; exact s.hX)), hk.heap s.box s.ne, ?_, s.hX, s.ne⟩
  have := heap_setCell_at (off := 1) s.x (.int .u8 n)
  simpa [gangObj] using this

set_option maxHeartbeats 1600000 in
theorem gangs1_any (wb : World) (B X : Nat) (fr a0 c0 : _) (rest : Value × Value × Value) (g : Int) (W : Win) (C : List (List Win)) (hC : Cores wb (.slice a0 C.length c0) C) (k : Nat) (hk : k < C.length) (hlen : C.length ≤ 9223372036854775807) (a : World)
    (S : GnSt wb B X (.cells #[.int .u16 fr, .slice a0 C.length c0, rest.1, rest.2.1, rest.2.2] 28 (0, 0)) g 0 W a) :
    Calls Tryd.prog 63 #[.int .i64 (k : Int), .pointer (some ⟨B, 0, none⟩), .pointer (some ⟨X, 0, none⟩)] a fun e b => e = .returned (.bool (hasG (C.getD k []) g)) ∧ GnSt wb B X (.cells #[.int .u16 fr, .slice a0 C.length c0, rest.1, rest.2.1, rest.2.2] 28 (0, 0)) g 0 (firstG (C.getD k []) g W) b ∧ Kept (fun k => k = X) a b := by
  have hl := List.getElem?_eq_getElem hk
  obtain ⟨L, hL⟩ : ∃ L, C[k] = L := ⟨_, rfl⟩
  rw [hL] at hl
  obtain ⟨ad, lv, rfl, hlv0, hwins⟩ := hC.at_ k L hl
  obtain ⟨la, lc, rfl, hlL⟩ := hwins.len
  have e1 : C.getD k [] = L := by rw [List.getD_eq_getElem?_getD, hl]; rfl
  rw [e1]
  have HW := Aside.mk hwins
  have S0 := Aside.mk S
  have hbx := S.box
  have g1 : a.cell? ⟨B, 1, none⟩ = some (.slice (some ad) C.length c0) := by simp [World.cell?, hbx]
  have hlv := (Kept.of_below (S := fun _ => False) S.below).cell hlv0 id
  clear hl hL hwins hbx S hlv0 e1 hC
  go_enter Tryd.func63, Tryd.ntmps63
  go_wp2_with fail
  clear g1 hlv
  go_loopw [4, 13] (fun q i wr => ∃ j : Nat, q = .bool false ∧ j ≤ L.length ∧ i = .int .i64 j ∧ Aside (GnSt wb B X (.cells #[.int .u16 fr, .slice (some ad) C.length c0, rest.1, rest.2.1, rest.2.2] 28 (0, 0)) g 0 W wr ∧ (∀ x ∈ L.take j, ¬ Win.g x = g) ∧ Kept (fun k => k = X) a wr)) (fun _ i _ => L.length - (intOf i).toNat)
  case atStart => exact ⟨0, rfl, by omega, rfl, ⟨S0.out, by simp, Kept.refl _ _⟩⟩
  case round =>
    obtain ⟨j, rfl, hj, rfl, T⟩ := hrel
    by_cases hjl : j < L.length
    · have hx := List.getElem?_eq_getElem hjl
      obtain ⟨x, hX⟩ : ∃ x, L[j] = x := ⟨_, rfl⟩
      rw [hX] at hx
      obtain ⟨ad3, rfl, d0, d1, d2, d3, ok⟩ := (HW.out.below T.out.1.below).at_ j x hx
      have hgx := T.out.1.x
      have x0 : wr.cell? ⟨X, 0, none⟩ = some (.int .u8 g) := by simp [World.cell?, hgx, gangObj]
      have x2 : wr.cell? ⟨X, 2, none⟩ = some (.int .u16 (Win.s W)) := by simp [World.cell?, hgx, gangObj]
      have x3 : wr.cell? ⟨X, 3, none⟩ = some (.int .u16 (Win.l W)) := by simp [World.cell?, hgx, gangObj]
      have x4 : wr.cell? ⟨X, 4, none⟩ = some (.int .u8 (Win.p W)) := by simp [World.cell?, hgx, gangObj]
      have x5 : wr.cell? ⟨X, 5, none⟩ = some (.int .u8 (Win.g W)) := by simp [World.cell?, hgx, gangObj]
      have f2 : wr.frozen? ⟨X, 2, none⟩ = false := by simp [World.frozen?, hgx, gangObj]
      have f3 : wr.frozen? ⟨X, 3, none⟩ = false := by simp [World.frozen?, hgx, gangObj]
      have f4 : wr.frozen? ⟨X, 4, none⟩ = false := by simp [World.frozen?, hgx, gangObj]
      have f5 : wr.frozen? ⟨X, 5, none⟩ = false := by simp [World.frozen?, hgx, gangObj]
      have hXl : X < wr.heap.size := lt_of_block hgx
      have HX := Aside.mk hx
      clear hx hX hgx ok
      by_cases hg : Win.g x = g
      · have HG := Aside.mk hg
        have hg2 : (Win.g x == g) = true := by simp [hg]
        have HR : Aside (hasG L g = true ∧ firstG L g W = x) := ⟨by
          have hl2 : L = L.take j ++ x :: L.drop (j + 1) := by
            have h := List.take_append_drop (j + 1) L
            rw [take_snoc HX.out, List.append_assoc] at h
            exact h.symm
          have hn : ∀ y ∈ L.take j, decide (Win.g y = g) = false := fun y hy => by simpa using T.out.2.1 y hy
          constructor
          · rw [hasG, List.any_eq_true]; exact ⟨x, List.mem_of_getElem? HX.out, by simp [HG.out]⟩
          · rw [firstG, hl2, List.find?_append, List.find?_eq_none.2 (fun y hy => by simpa using T.out.2.1 y hy)]
            simp [HG.out]⟩
        clear hg
        go_wp2_with fail
        go_ret
        refine ⟨by rw [HR.out.1]; rfl, ?_⟩
        rw [HR.out.2]
        exact ⟨(T.out.1.putW x).old (bel_one _ _), T.out.2.2.trans ((((((Kept.refl (fun k => k = X) wr).setCell (p := ⟨X, 2, none⟩) (.inl rfl) _).setCell (p := ⟨X, 3, none⟩) (.inl rfl) _).setCell (p := ⟨X, 4, none⟩) (.inl rfl) _).setCell (p := ⟨X, 5, none⟩) (.inl rfl) _).alloc _)⟩
      · have HG := Aside.mk hg
        have hg2 : (Win.g x == g) = false := by simp [hg]
        clear hg
        go_wp2_with fail
        go_roundw
        case rel =>
          refine ⟨j + 1, rfl, by omega, by go_num, ⟨T.out.1.old (bel_one _ _), ?_, T.out.2.2.alloc _⟩⟩
          rw [take_snoc HX.out]
          intro y hy
          rcases List.mem_append.1 hy with h | h
          · exact T.out.2.1 y h
          · obtain rfl := List.mem_singleton.1 h; exact HG.out
        case measure => simp [intOf]; omega
    · obtain rfl : j = L.length := by omega
      have HR : Aside (hasG L g = false ∧ firstG L g W = W) := ⟨by
        have h := T.out.2.1
        rw [List.take_length] at h
        constructor
        · rw [hasG, List.any_eq_false]; intro y hy; simpa using h y hy
        · rw [firstG, List.find?_eq_none.2 (fun y hy => by simpa using h y hy)]; rfl⟩
      go_wp2_with fail
      go_ret
      exact ⟨by rw [HR.out.1]; rfl, by rw [HR.out.2]; exact T.out.1, T.out.2.2⟩
end Go.Proofs.YtidjkhmlpgkaaaaDoor

namespace Go.Proofs.YtidjkhmlpgkaaaaDoor
open Go.RowKit
set_option linter.unusedVariables false
set_option linter.unusedSimpArgs false

abbrev GangR : Type := Int × Int × Win
def GangR.cells (x : GangR) : List Value := [.int .u8 x.1, .int .u8 x.2.1, .int .u16 (Win.s x.2.2), .int .u16 (Win.l x.2.2), .int .u8 (Win.p x.2.2), .int .u8 (Win.g x.2.2)]
def gangM (C : List (List Win)) (g : Int) : Nat := maskTo (fun c => hasG (C.getD c []) g) C.length
def gangAt (C : List (List Win)) (g : Nat) : List GangR := if gangM C g = 0 then [] else [((g : Int), (gangM C g : Int), lastW C g C.length)]
def gangsTo (C : List (List Win)) (k : Nat) : List GangR := (List.range k).flatMap fun i => gangAt C (i + 1)
theorem gangsTo_succ (C : List (List Win)) (k : Nat) : gangsTo C (k + 1) = gangsTo C k ++ gangAt C (k + 1) := by
  simp [gangsTo, List.range_succ, List.flatMap_append]
theorem gangsTo_len (C : List (List Win)) (k : Nat) : (gangsTo C k).length ≤ k := by
  induction k with
  | zero => simp [gangsTo]
  | succ k ih =>
    rw [gangsTo_succ, List.length_append]
    have : (gangAt C (k + 1)).length ≤ 1 := by unfold gangAt; split <;> simp
    omega
theorem A_info_gang : (Tryd.prog.info? 102).map (fun i => (i.zero, i.size, i.bytes)) = some (some (.agg #[.int .u8 0, .int .u8 0, .int .u16 0, .int .u16 0, .int .u8 0, .int .u8 0]), 6, 8) := by kernel_rfl

set_option maxHeartbeats 3200000 in
theorem gangs_any (w : World) (v : Value) (P : Plan) (hv : PlanV w v P) (hC : (Plan.cores P).length ≤ 8) :
    Calls Tryd.prog 38 #[v] w fun e w' => ∃ r, e = .returned r ∧ w'.ownsRow w.heap.size 102 6 r (gangsTo (Plan.cores P) 255).length ((gangsTo (Plan.cores P) 255).flatMap GangR.cells) ∧ Below w.heap.size w w' := by
  obtain ⟨a0, c0, a1, c1, a2, c2, a3, c3, rfl, hp, hlen⟩ := hv.open_
  have HC := Aside.mk hp.cores
  clear hp hv
  generalize Plan.cores P = C at *
  obtain ⟨box, hbx⟩ : ∃ box, Aside (box = Obj.cells #[.int .u16 (Plan.frame P), .slice a0 C.length c0, .slice a1 (Plan.parts P).length c1, .slice a2 (Plan.chans P).length c2, .slice a3 (Plan.pairs P).length c3] 28 (0, 0)) := ⟨_, ⟨rfl⟩⟩
  obtain ⟨W1, HW⟩ : ∃ W1, Aside (W1 = w.alloc (.cells #[.int .u16 (Plan.frame P), .slice a0 C.length c0, .slice a1 (Plan.parts P).length c1, .slice a2 (Plan.chans P).length c2, .slice a3 (Plan.pairs P).length c3] 28)) := ⟨_, ⟨rfl⟩⟩
  have hb1 : Aside (Below w.heap.size w W1 ∧ W1.heap[w.heap.size]? = some box) := ⟨by rw [HW.out, hbx.out]; exact ⟨bel_one _ _, heap_alloc_new _ _⟩⟩
  go_enter Tryd.func38, Tryd.ntmps38
  go_wp2_with fail
  rw [← HW.out]
  go_loopw [3, 4] (fun q i wr => ∃ (k : Nat) (v : Value), k ≤ 255 ∧ i = .int .i64 ((k : Int) + 1) ∧ v = q ∧ Aside (wr.ownsRow (w.heap.size + 1) 102 6 v (gangsTo C k).length ((gangsTo C k).flatMap GangR.cells) ∧ Below w.heap.size w wr ∧ wr.heap[w.heap.size]? = some box)) (fun _ i _ => (257 - intOf i).toNat)
  case atStart =>
    refine ⟨0, _, by omega, rfl, rfl, ⟨?_, hb1.out⟩⟩
    have := own_nil W1 (w.heap.size + 1) 102 6
    simpa [gangsTo] using this
  case round =>
    obtain ⟨k, v, hk, rfl, rfl, T⟩ := hrel
    by_cases hk2 : k < 255
    · obtain ⟨g, hg⟩ : ∃ g : Int, Aside ((k : Int) + 1 = g) := ⟨_, ⟨rfl⟩⟩
      have g1 : 1 ≤ g := by have := hg.out; omega
      have g2 : g ≤ 255 := by have := hg.out; omega
      obtain ⟨W2, HW2⟩ : ∃ W2, Aside (W2 = wr.alloc (.cells #[.int .u8 g, .int .u8 0, .int .u16 0, .int .u16 0, .int .u8 0, .int .u8 0] 102)) := ⟨_, ⟨rfl⟩⟩
      have hX : Aside (GnSt w w.heap.size wr.heap.size box g 0 (lastW C g 0) W2 ∧ W2.ownsRow (w.heap.size + 1) 102 6 v (gangsTo C k).length ((gangsTo C k).flatMap GangR.cells)) := ⟨by
        rw [HW2.out]
        refine ⟨⟨bel_alloc T.out.2.1 _, ?_, heap_alloc_new _ _, T.out.2.1.size, ?_⟩, T.out.1.alloc _⟩
        · exact ((bel_one wr _).block _ (lt_of_block T.out.2.2)).trans T.out.2.2
        · have := lt_of_block T.out.2.2; omega⟩
      have hbx2 := T.out.2.2
      rw [hbx.out] at hbx2
      have cc1 : wr.cell? ⟨w.heap.size, 1, none⟩ = some (.slice a0 C.length c0) := by simp [World.cell?, hbx2]
      have hbl : w.heap.size < wr.heap.size := lt_of_block hbx2
      have K := Aside.mk (where_any (C.length : Int) (by omega) 63 #[.pointer (some ⟨w.heap.size, 0, none⟩), .pointer (some ⟨wr.heap.size, 0, none⟩)] callFunc_gangs1 (fun c => hasG (C.getD c []) g)
        (fun c a => GnSt w w.heap.size wr.heap.size box g 0 (lastW C g c) a ∧ a.ownsRow (w.heap.size + 1) 102 6 v (gangsTo C k).length ((gangsTo C k).flatMap GangR.cells))
        (fun c hc8 hcn a J => by
          have h := gangs1_any w w.heap.size wr.heap.size (Plan.frame P) a0 c0 (.slice a1 (Plan.parts P).length c1, .slice a2 (Plan.chans P).length c2, .slice a3 (Plan.pairs P).length c3) g (lastW C g c) C HC.out c (by omega) hlen a (by rw [← hbx.out]; exact J.1)
          rw [← hbx.out] at h
          refine h.mono ?_
          rintro e b ⟨rfl, s, k2⟩
          exact ⟨rfl, s, own_kept J.2 k2 (fun r hr => by have := own_lt T.out.1 r hr; omega)⟩) W2 hX.out)
      rw [show min (C.length : Int).toNat 8 = C.length by omega] at K
      clear hbx2
      obtain ⟨m, hm⟩ : ∃ m : Nat, Aside (gangM C g = m ∧ m < 256) := ⟨_, ⟨rfl, maskTo_lt _ _ hC⟩⟩
      have K : Aside (Calls Tryd.prog 62 #[.int .i64 (C.length : Int), .func (.func 63) #[] #[.pointer (some ⟨w.heap.size, 0, none⟩), .pointer (some ⟨wr.heap.size, 0, none⟩)]] W2 fun e w' => e = .returned (.int .u8 (m : Int)) ∧ GnSt w w.heap.size wr.heap.size box g 0 (lastW C g C.length) w' ∧ w'.ownsRow (w.heap.size + 1) 102 6 v (gangsTo C k).length ((gangsTo C k).flatMap GangR.cells)) := ⟨by
        have h := K.out
        rw [show maskTo (fun c => hasG (C.getD c []) g) C.length = m from hm.out.1] at h
        exact h⟩
      have hm2 := hm.out.2
      have HGA : Aside (gangsTo C (k + 1) = gangsTo C k ++ if m = 0 then [] else [(g, (m : Int), lastW C g C.length)]) := ⟨by
        rw [gangsTo_succ, gangAt, show (((k + 1 : Nat)) : Int) = g by have := hg.out; omega, hm.out.1]⟩
      rw [hg.out]
      go_wp2_with fail
      rw [← HW2.out]
      refine K.out.mono ?_
      rintro e w3 ⟨rfl, s3, own3⟩
      have S3 := Aside.mk (And.intro (s3.putM (m : Int)) (own_kept (S := fun k => k = wr.heap.size) own3 ((Kept.refl (fun k => k = wr.heap.size) w3).setCell (p := ⟨wr.heap.size, 1, none⟩) (.inl rfl) (.int .u8 (m : Int))) (fun r hr => by have := own_lt T.out.1 r hr; omega)))
      have hx3 := s3.x
      have x0 : w3.cell? ⟨wr.heap.size, 0, none⟩ = some (.int .u8 g) := by simp [World.cell?, hx3, gangObj]
      have x1 : w3.cell? ⟨wr.heap.size, 1, none⟩ = some (.int .u8 0) := by simp [World.cell?, hx3, gangObj]
      have x2 : w3.cell? ⟨wr.heap.size, 2, none⟩ = some (.int .u16 (Win.s (lastW C g C.length))) := by simp [World.cell?, hx3, gangObj]
      have x3 : w3.cell? ⟨wr.heap.size, 3, none⟩ = some (.int .u16 (Win.l (lastW C g C.length))) := by simp [World.cell?, hx3, gangObj]
      have x4 : w3.cell? ⟨wr.heap.size, 4, none⟩ = some (.int .u8 (Win.p (lastW C g C.length))) := by simp [World.cell?, hx3, gangObj]
      have x5 : w3.cell? ⟨wr.heap.size, 5, none⟩ = some (.int .u8 (Win.g (lastW C g C.length))) := by simp [World.cell?, hx3, gangObj]
      have f1 : w3.frozen? ⟨wr.heap.size, 1, none⟩ = false := by simp [World.frozen?, hx3, gangObj]
      have hl3 := lt_of_block hx3
      have hk1 : Aside ((k : Int) + 1 = g) := hg
      have hlen2 : Aside ((gangsTo C k).length ≤ 255) := ⟨by have := gangsTo_len C k; omega⟩
      generalize lastW C g C.length = V at *
      clear s3 own3 hx3 cc1 hX
      by_cases hm0 : m = 0
      · have HG := Aside.mk (HGA.out.trans (by rw [if_pos hm0, List.append_nil]))
        subst hm0
        go_wp2_with fail
        go_roundw
        case rel => exact ⟨k + 1, _, by omega, by have := hk1.out; show Value.int .i64 _ = Value.int .i64 _; congr 1; omega, rfl, by rw [HG.out]; exact ⟨by simpa using S3.out.2, by simpa using S3.out.1.below, by simpa using S3.out.1.box⟩⟩
        case measure => simp [intOf]; omega
      · have HG := Aside.mk (HGA.out.trans (by rw [if_neg hm0]))
        have hm1 : ((m : Int) != 0) = true := by simp; omega
        go_upto_region 7 with fail
        obtain ⟨W4, HW4⟩ : ∃ W4, Aside (W4 = w3.setCell ⟨wr.heap.size, 1, none⟩ (.int .u8 (m : Int))) := ⟨_, ⟨rfl⟩⟩
        rw [← HW4.out] at S3 ⊢
        have hx4 := S3.out.1.x
        clear x0 x1 x2 x3 x4 x5 f1
        have x0 : W4.cell? ⟨wr.heap.size, 0, none⟩ = some (.int .u8 g) := by simp [World.cell?, hx4, gangObj]
        have x1 : W4.cell? ⟨wr.heap.size, 1, none⟩ = some (.int .u8 (m : Int)) := by simp [World.cell?, hx4, gangObj]
        have x2 : W4.cell? ⟨wr.heap.size, 2, none⟩ = some (.int .u16 (Win.s V)) := by simp [World.cell?, hx4, gangObj]
        have x3 : W4.cell? ⟨wr.heap.size, 3, none⟩ = some (.int .u16 (Win.l V)) := by simp [World.cell?, hx4, gangObj]
        have x4 : W4.cell? ⟨wr.heap.size, 4, none⟩ = some (.int .u8 (Win.p V)) := by simp [World.cell?, hx4, gangObj]
        have x5 : W4.cell? ⟨wr.heap.size, 5, none⟩ = some (.int .u8 (Win.g V)) := by simp [World.cell?, hx4, gangObj]
        have hsz : Aside (w.heap.size + 1 ≤ W4.heap.size) := ⟨by have := lt_of_block hx4; omega⟩
        clear hx4
        go_wp2_with (at_builtin; go_loud (refine append_elem (w.heap.size + 1) rfl _ _ 96 102 (.agg #[.int .u8 0, .int .u8 0, .int .u16 0, .int .u16 0, .int .u8 0, .int .u8 0]) 6 8 rfl Tryd.underlying96 A_info_gang rfl (by decide) (by decide) v _ _ [.int .u8 g, .int .u8 (m : Int), .int .u16 (Win.s V), .int .u16 (Win.l V), .int .u8 (Win.p V), .int .u8 (Win.g V)] rfl rfl rfl (by simp [Value.oneCell']) S3.out.2 hsz.out (by have := hlen2.out; omega) ?_))
        intro v1 w1 hown1 hgr hat
        have X := Aside.mk (And.intro hown1 (And.intro hgr hat))
        clear hown1 hgr hat x0 x1 x2 x3 x4 x5
        go_wp2_with fail
        go_roundw
        case rel =>
          obtain ⟨hown1, hgr, hat⟩ := X.out
          have hB : Below (w.heap.size + 1) W4 w1 := grown_below hgr hsz.out (fun r hr => own_base S3.out.2 r hr)
          refine ⟨k + 1, _, by omega, by have := hk1.out; show Value.int .i64 _ = Value.int .i64 _; congr 1; omega, rfl, ?_, ?_, ?_⟩
          · rw [HG.out]
            simpa [GangR.cells] using hown1
          · exact S3.out.1.below.trans (hB.mono (by omega))
          · exact (hB.block _ (by omega)).trans S3.out.1.box
        case measure => simp [intOf]; omega
    · obtain rfl : k = 255 := by omega
      go_wp2_with fail
      go_ret
      exact ⟨_, rfl, own_mono T.out.1 (by omega), T.out.2.1⟩
end Go.Proofs.YtidjkhmlpgkaaaaDoor

namespace Go.Proofs.YtidjkhmlpgkaaaaDoor
open Go.RowKit
set_option linter.unusedVariables false
set_option linter.unusedSimpArgs false

theorem thas_any (x : Win) (hx : Win.Ok x) (t : Int) (w : World) :
    Calls Tryd.prog 64 #[Win.val x, .int .i64 t] w fun e w' => e = .returned (.bool (hasS x t)) ∧ Below w.heap.size w w' := by
  obtain ⟨⟨s0, s1⟩, ⟨l0, l1⟩, ⟨p0, p1⟩, ⟨g0, g1⟩⟩ := hx
  unfold Win.val hasS
  generalize Win.s x = s at *
  generalize Win.l x = l at *
  by_cases h1 : s ≤ t
  · by_cases h2 : t < s + l
    all_goals
      go_enter Tryd.func64, Tryd.ntmps64
      go_wp2
      go_ret
      exact ⟨ret_bool (by simp; omega), bel_one _ _⟩
  · go_enter Tryd.func64, Tryd.ntmps64
    go_wp2
    go_ret
    exact ⟨ret_bool (by simp; omega), bel_one _ _⟩

/-- At's answer. -/
def atV : Option Nat → Value
  | some i => .tuple #[.int .i64 (i : Int), .bool true]
  | none => .tuple #[.int .i64 0, .bool false]
set_option maxHeartbeats 800000 in
theorem at_any (w : World) (v : Value) (L : List Win) (t : Int) (hv : Wins w v L) :
    Calls Tryd.prog 44 #[v, .int .i64 t] w fun e w' => e = .returned (atV (atS L t)) ∧ Below w.heap.size w w' := by
  have HV := Aside.mk hv
  obtain ⟨a, cap, rfl, hlen⟩ := hv.len
  clear hv
  go_enter Tryd.func44, Tryd.ntmps44
  go_wp2_with fail
  go_loopw [4, 5, 10] (fun p q i wr => ∃ k : Nat, p = .int .i64 0 ∧ q = .bool false ∧ k ≤ L.length ∧ i = .int .i64 k ∧ Aside (scan (atF L t) k = none ∧ Below w.heap.size w wr)) (fun _ _ i _ => L.length - (intOf i).toNat)
  case atStart => exact ⟨0, rfl, rfl, by omega, rfl, ⟨rfl, Below.refl _ _⟩⟩
  case round =>
    obtain ⟨k, rfl, rfl, hk, rfl, S⟩ := hrel
    by_cases hkl : k < L.length
    · have hl := List.getElem?_eq_getElem hkl
      obtain ⟨X, hX⟩ : ∃ X, L[k] = X := ⟨_, rfl⟩
      rw [hX] at hl
      obtain ⟨ad, rfl, e0, e1, e2, e3, ok⟩ := (HV.out.below S.out.2).at_ k X hl
      have KT := Aside.mk (fun w => thas_any X ok t w)
      unfold Win.val at KT
      have HF : Aside (atF L t k = if hasS X t = true then some k else none) := ⟨by rw [atF, wAt_some hl]⟩
      obtain ⟨b, hb⟩ : ∃ b, hasS X t = b := ⟨_, rfl⟩
      rw [hb] at KT HF
      clear hl hX hb ok
      go_wp2_with fail
      refine (KT.out _).mono ?_
      rintro e w' ⟨rfl, b1⟩
      have S1 := Aside.mk (bel_then (bel_alloc S.out.2 _) b1)
      clear b1 e0 e1 e2 e3
      cases b
      · go_wp2_with fail
        go_roundw
        case rel => exact ⟨k + 1, rfl, rfl, by omega, by go_num, ⟨by rw [scan_succ S.out.1, HF.out]; rfl, S1.out⟩⟩
        case measure => simp [intOf]; omega
      · have HR : Aside (atS L t = some k) := ⟨scan_some S.out.1 HF.out hkl⟩
        go_wp2_with fail
        rw [HR.out]
        go_ret2
        exact ⟨rfl, S1.out⟩
    · obtain rfl : k = L.length := by omega
      have HR : Aside (atS L t = none) := ⟨S.out.1⟩
      go_wp2_with fail
      rw [HR.out]
      go_ret2
      exact ⟨rfl, S.out.2⟩

end Go.Proofs.YtidjkhmlpgkaaaaDoor
