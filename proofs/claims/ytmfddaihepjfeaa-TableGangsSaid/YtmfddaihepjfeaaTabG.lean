/- The table: the gangs: what a core has of a gang. -/
import Derived.Test.YtmfddaihepjfeaaTabF
import Derived.Test.YtmfddaihepjfeaaWhere
namespace Go.Proofs.Ytmfddaihepjfeaa
open Go.RowKit
set_option linter.unusedVariables false
set_option linter.unusedSimpArgs false

def hasG (L : List Win) (g : Int) : Bool := L.any fun x => decide (Win.g x = g)
def noWin : Win := (0, 0, 0, 0, ())
def firstG (L : List Win) (g : Int) (d : Win) : Win := (L.find? fun x => decide (Win.g x = g)).getD d
/-- What a gang's windows are: the last core's first one. -/
def lastW (C : List (List Win)) (g : Int) : Nat → Win
  | 0 => noWin
  | k + 1 => firstG (C.getD k []) g (lastW C g k)
theorem noWin_ok : Win.Ok noWin := ⟨by decide, by decide, by decide, by decide⟩
def gangObj (g m : Int) (W : Win) : Obj := .cells #[.int .u8 g, .int .u8 m, .int .u16 (Win.s W), .int .u16 (Win.l W), .int .u8 (Win.p W), .int .u8 (Win.g W)] 54 (0, 0)
structure GnSt (wb : World) (B X : Nat) (box : Obj) (g m : Int) (W : Win) (a : World) : Prop where
  below : Below wb.heap.size wb a
  box : a.heap[B]? = some box
  x : a.heap[X]? = some (gangObj g m W)
  hX : wb.heap.size ≤ X
  ne : B ≠ X
theorem GnSt.old {wb a b : World} {B X : Nat} {box : Obj} {g m : Int} {W : Win} (s : GnSt wb B X box g m W a) (k : Below a.heap.size a b) : GnSt wb B X box g m W b :=
  ⟨bel_then s.below k, (k.block _ (lt_of_block s.box)).trans s.box, (k.block _ (lt_of_block s.x)).trans s.x, s.hX, s.ne⟩
theorem callFunc_gangs1 (args : Array Value) (w : World) : (callFunc 37 args).run Try.prog w = .ok (.enter 37 args) w := by kernel_rfl
theorem GnSt.putW {wb a : World} {B X : Nat} {box : Obj} {g m : Int} {W : Win} (s : GnSt wb B X box g m W a) (V : Win) :
    GnSt wb B X box g m V ((((a.setCell ⟨X, 2, none⟩ (.int .u16 (Win.s V))).setCell ⟨X, 3, none⟩ (.int .u16 (Win.l V))).setCell ⟨X, 4, none⟩ (.int .u8 (Win.p V))).setCell ⟨X, 5, none⟩ (.int .u8 (Win.g V))) := by
  have hk : Kept (fun k => k = X) a ((((a.setCell ⟨X, 2, none⟩ (.int .u16 (Win.s V))).setCell ⟨X, 3, none⟩ (.int .u16 (Win.l V))).setCell ⟨X, 4, none⟩ (.int .u8 (Win.p V))).setCell ⟨X, 5, none⟩ (.int .u8 (Win.g V))) :=
    ((((Kept.refl (fun k => k = X) a).setCell (p := ⟨X, 2, none⟩) (.inl rfl) _).setCell (p := ⟨X, 3, none⟩) (.inl rfl) _).setCell (p := ⟨X, 4, none⟩) (.inl rfl) _).setCell (p := ⟨X, 5, none⟩) (.inl rfl) _
  refine ⟨s.below.trans (hk.below s.below.size (fun k e => by subst e; exact s.hX)), hk.heap s.box s.ne, ?_, s.hX, s.ne⟩
  have := heap_setCell_at (off := 5) (heap_setCell_at (off := 4) (heap_setCell_at (off := 3) (heap_setCell_at (off := 2) s.x (.int .u16 (Win.s V))) (.int .u16 (Win.l V))) (.int .u8 (Win.p V))) (.int .u8 (Win.g V))
  simpa [gangObj] using this
theorem GnSt.putM {wb a : World} {B X : Nat} {box : Obj} {g m : Int} {W : Win} (s : GnSt wb B X box g m W a) (n : Int) : GnSt wb B X box g n W (a.setCell ⟨X, 1, none⟩ (.int .u8 n)) := by
  have hk : Kept (fun k => k = X) a (a.setCell ⟨X, 1, none⟩ (.int .u8 n)) := (Kept.refl (fun k => k = X) a).setCell (p := ⟨X, 1, none⟩) (.inl rfl) _
  refine ⟨s.below.trans (hk.below s.below.size (fun k e => by subst e; exact s.hX)), hk.heap s.box s.ne, ?_, s.hX, s.ne⟩
  have := heap_setCell_at (off := 1) s.x (.int .u8 n)
  simpa [gangObj] using this

set_option maxHeartbeats 1600000 in
theorem gangs1_any (wb : World) (B X : Nat) (fr a0 c0 : _) (rest : Value × Value × Value) (g : Int) (W : Win) (C : List (List Win)) (hC : Cores wb (.slice a0 C.length c0) C) (k : Nat) (hk : k < C.length) (hlen : C.length ≤ 9223372036854775807) (a : World)
    (S : GnSt wb B X (.cells #[.int .u16 fr, .slice a0 C.length c0, rest.1, rest.2.1, rest.2.2] 28 (0, 0)) g 0 W a) :
    Calls Try.prog 37 #[.int .i64 (k : Int), .pointer (some ⟨B, 0, none⟩), .pointer (some ⟨X, 0, none⟩)] a fun e b => e = .returned (.bool (hasG (C.getD k []) g)) ∧ GnSt wb B X (.cells #[.int .u16 fr, .slice a0 C.length c0, rest.1, rest.2.1, rest.2.2] 28 (0, 0)) g 0 (firstG (C.getD k []) g W) b ∧ Kept (fun k => k = X) a b := by
  have hl := List.getElem?_eq_getElem hk
  obtain ⟨L, hL⟩ : ∃ L, C[k] = L := ⟨_, rfl⟩
  rw [hL] at hl
  obtain ⟨ad, lv, rfl, hlv0, hwins⟩ := hC.at_ k L hl
  obtain ⟨la, lc, rfl, hlL⟩ := hwins.len
  have e1 : C.getD k [] = L := by rw [List.getD_eq_getElem?_getD, hl]; rfl
  rw [e1]
  have HW := Aside.mk hwins
  have S0 := Aside.mk S
  have hbx := S.box
  have g1 : a.cell? ⟨B, 1, none⟩ = some (.slice (some ad) C.length c0) := by simp [World.cell?, hbx]
  have hlv := (Kept.of_below (S := fun _ => False) S.below).cell hlv0 id
  clear hl hL hwins hbx S hlv0 e1 hC
  go_enter Try.func37, Try.ntmps37
  go_wp2_with fail
  clear g1 hlv
  go_loopw [4, 13] (fun q i wr => ∃ j : Nat, q = .bool false ∧ j ≤ L.length ∧ i = .int .i64 j ∧ Aside (GnSt wb B X (.cells #[.int .u16 fr, .slice (some ad) C.length c0, rest.1, rest.2.1, rest.2.2] 28 (0, 0)) g 0 W wr ∧ (∀ x ∈ L.take j, ¬ Win.g x = g) ∧ Kept (fun k => k = X) a wr)) (fun _ i _ => L.length - (intOf i).toNat)
  case atStart => exact ⟨0, rfl, by omega, rfl, ⟨S0.out, by simp, Kept.refl _ _⟩⟩
  case round =>
    obtain ⟨j, rfl, hj, rfl, T⟩ := hrel
    by_cases hjl : j < L.length
    · have hx := List.getElem?_eq_getElem hjl
      obtain ⟨x, hX⟩ : ∃ x, L[j] = x := ⟨_, rfl⟩
      rw [hX] at hx
      obtain ⟨ad3, rfl, d0, d1, d2, d3, ok⟩ := (HW.out.below T.out.1.below).at_ j x hx
      have hgx := T.out.1.x
      have x0 : wr.cell? ⟨X, 0, none⟩ = some (.int .u8 g) := by simp [World.cell?, hgx, gangObj]
      have x2 : wr.cell? ⟨X, 2, none⟩ = some (.int .u16 (Win.s W)) := by simp [World.cell?, hgx, gangObj]
      have x3 : wr.cell? ⟨X, 3, none⟩ = some (.int .u16 (Win.l W)) := by simp [World.cell?, hgx, gangObj]
      have x4 : wr.cell? ⟨X, 4, none⟩ = some (.int .u8 (Win.p W)) := by simp [World.cell?, hgx, gangObj]
      have x5 : wr.cell? ⟨X, 5, none⟩ = some (.int .u8 (Win.g W)) := by simp [World.cell?, hgx, gangObj]
      have f2 : wr.frozen? ⟨X, 2, none⟩ = false := by simp [World.frozen?, hgx, gangObj]
      have f3 : wr.frozen? ⟨X, 3, none⟩ = false := by simp [World.frozen?, hgx, gangObj]
      have f4 : wr.frozen? ⟨X, 4, none⟩ = false := by simp [World.frozen?, hgx, gangObj]
      have f5 : wr.frozen? ⟨X, 5, none⟩ = false := by simp [World.frozen?, hgx, gangObj]
      have hXl : X < wr.heap.size := lt_of_block hgx
      have HX := Aside.mk hx
      clear hx hX hgx ok
      by_cases hg : Win.g x = g
      · have HG := Aside.mk hg
        have hg2 : (Win.g x == g) = true := by simp [hg]
        have HR : Aside (hasG L g = true ∧ firstG L g W = x) := ⟨by
          have hl2 : L = L.take j ++ x :: L.drop (j + 1) := by
            have h := List.take_append_drop (j + 1) L
            rw [take_snoc HX.out, List.append_assoc] at h
            exact h.symm
          have hn : ∀ y ∈ L.take j, decide (Win.g y = g) = false := fun y hy => by simpa using T.out.2.1 y hy
          constructor
          · rw [hasG, List.any_eq_true]; exact ⟨x, List.mem_of_getElem? HX.out, by simp [HG.out]⟩
          · rw [firstG, hl2, List.find?_append, List.find?_eq_none.2 (fun y hy => by simpa using T.out.2.1 y hy)]
            simp [HG.out]⟩
        clear hg
        go_wp2_with fail
        go_ret
        refine ⟨by rw [HR.out.1]; rfl, ?_⟩
        rw [HR.out.2]
        exact ⟨(T.out.1.putW x).old (bel_one _ _), T.out.2.2.trans ((((((Kept.refl (fun k => k = X) wr).setCell (p := ⟨X, 2, none⟩) (.inl rfl) _).setCell (p := ⟨X, 3, none⟩) (.inl rfl) _).setCell (p := ⟨X, 4, none⟩) (.inl rfl) _).setCell (p := ⟨X, 5, none⟩) (.inl rfl) _).alloc _)⟩
      · have HG := Aside.mk hg
        have hg2 : (Win.g x == g) = false := by simp [hg]
        clear hg
        go_wp2_with fail
        go_roundw
        case rel =>
          refine ⟨j + 1, rfl, by omega, by go_num, ⟨T.out.1.old (bel_one _ _), ?_, T.out.2.2.alloc _⟩⟩
          rw [take_snoc HX.out]
          intro y hy
          rcases List.mem_append.1 hy with h | h
          · exact T.out.2.1 y h
          · obtain rfl := List.mem_singleton.1 h; exact HG.out
        case measure => simp [intOf]; omega
    · obtain rfl : j = L.length := by omega
      have HR : Aside (hasG L g = false ∧ firstG L g W = W) := ⟨by
        have h := T.out.2.1
        rw [List.take_length] at h
        constructor
        · rw [hasG, List.any_eq_false]; intro y hy; simpa using h y hy
        · rw [firstG, List.find?_eq_none.2 (fun y hy => by simpa using h y hy)]; rfl⟩
      go_wp2_with fail
      go_ret
      exact ⟨by rw [HR.out.1]; rfl, by rw [HR.out.2]; exact T.out.1, T.out.2.2⟩
end Go.Proofs.Ytmfddaihepjfeaa
