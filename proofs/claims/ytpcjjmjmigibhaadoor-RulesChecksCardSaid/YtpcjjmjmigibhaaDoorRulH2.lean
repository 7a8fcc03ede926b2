/- The rules' reference: the check's loop over gangs: windows of two cores. -/
import Derived.Test.YtpcjjmjmigibhaaDoorRulH
namespace Go.Proofs.YtpcjjmjmigibhaaDoor
open Go.RowKit
set_option linter.unusedVariables false
set_option linter.unusedSimpArgs false

/-- Two windows in boxes X and Y, and a frame. -/
def CkV2 (c : Ck) (X Y : Nat) (x y : Win) (nm : List (Nat × Value)) (W : World) (a : Act) (wr : World) : Prop :=
  CkFr c nm a ∧ wr.heap[X]? = some (winCells x) ∧ wr.heap[Y]? = some (winCells y) ∧ Below W.heap.size W wr
theorem win_box {w : World} {X : Nat} {x : Win} (h : w.heap[X]? = some (winCells x)) : w.cell? ⟨X, 0, none⟩ = some (.int .u16 (Win.s x)) ∧ w.cell? ⟨X, 1, none⟩ = some (.int .u16 (Win.l x)) ∧ w.cell? ⟨X, 2, none⟩ = some (.int .u8 (Win.p x)) ∧ w.cell? ⟨X, 3, none⟩ = some (.int .u8 (Win.g x)) := by
  simp [World.cell?, h, winCells]

set_option maxRecDepth 100000 in
set_option maxHeartbeats 3200000 in
theorem ck7_36 (c : Ck) (a : Act) (w0 wr : World) (i k X Y : Nat) (x y : Place) (hx : c.l[k]? = some x) (hy : c.l[i]? = some y) (S : CkSt c wr) (V : CkV2 c X Y (Place.w x) (Place.w y) [(9, num_ i), (11, num_ k), (12, ptr_ X), (13, ptr_ Y)] w0 a wr) (b : Bool) (hb : Aside (b = (decide (Place.c x = Place.c y) || togetherS (Place.w x) (Place.w y)))) (Q : Exit → Act → World → Prop) :
    (pathC [0, 1, 2, 2, 1, 0, 2, 1, 1, 2, 2, 1, 0, 2, 1, 0, 0] (ckTail 7)).wp Tryd.prog (Exit.then (CkV2 c X Y (Place.w x) (Place.w y) [(9, num_ i), (11, num_ k), (12, ptr_ X), (13, ptr_ Y), (238, .bool b)] w0) Q) a wr := by
  obtain ⟨⟨u, rfl, h9, h11, h12, h13, _⟩, hX, hY, hB⟩ := V
  obtain ⟨_, lcap, q, hlen⟩ := Elems.len S.places
  have hP := S.places
  rw [q] at hP
  obtain ⟨ad, rfl, e0, e1, e2, e3, e4, e5, ok, okc, _⟩ := Places.at_ hP k x hx
  obtain ⟨ad', q', d0, d1, d2, d3, d4, d5, ok', okc', _⟩ := Places.at_ hP i y hy
  obtain rfl : ad = ad' := by injection q'
  have hk := (List.getElem?_eq_some_iff.1 hx).1
  have hi := (List.getElem?_eq_some_iff.1 hy).1
  have Hq := Aside.mk q
  have HX := Aside.mk hX
  have HY := Aside.mk hY
  have HB := Aside.mk hB
  obtain ⟨x0, x1, x2, x3⟩ := win_box hX
  obtain ⟨y0, y1, y2, y3⟩ := win_box hY
  have KT := Aside.mk (fun w => together_any (Place.w x) (Place.w y) ok ok' w)
  unfold Win.val at KT
  obtain ⟨tb, htb⟩ : ∃ tb, togetherS (Place.w x) (Place.w y) = tb := ⟨_, rfl⟩
  rw [htb] at hb KT
  unfold ckF
  rw [h9, h11, h12, h13, q]
  clear h9 h11 h12 h13 q' q hP S hx hy e1 e2 e3 e4 e5 d1 d2 d3 d4 d5 hX hY hB ok ok' htb
  generalize Place.c x = cx at *
  generalize Place.c y = cy at *
  conv => arg 2; whnf
  by_cases p1 : cx = cy
  · have HN : Aside (b = true) := ⟨by rw [hb.out, p1]; simp⟩
    subst p1
    clear hb
    go_wp2_with fail
    go_quiet (fail)
    refine ⟨CkFr.mk rfl rfl rfl rfl rfl Hq.out.symm ⟨rfl, rfl, rfl, rfl, ?_, trivial⟩, HX.out, HY.out, bel_drewN HB.out _⟩
    show Value.bool _ = Value.bool b
    rw [HN.out]
  · have HN : Aside (b = tb) := ⟨by rw [hb.out]; simp [p1]⟩
    have P1 : (cx == cy) = false := by simp [p1]
    clear hb
    go_wp2_with fail
    go_region_held3 (fun w' => w'.cell? (ad.add (k * 6)) = some (.int .i64 cx) ∧ w'.cell? (ad.add (i * 6)) = some (.int .i64 cy) ∧ w'.cell? ⟨X, 0, none⟩ = some (.int .u16 (Win.s (Place.w x))) ∧ w'.cell? ⟨X, 1, none⟩ = some (.int .u16 (Win.l (Place.w x))) ∧ w'.cell? ⟨X, 2, none⟩ = some (.int .u8 (Win.p (Place.w x))) ∧ w'.cell? ⟨X, 3, none⟩ = some (.int .u8 (Win.g (Place.w x))) ∧ w'.cell? ⟨Y, 0, none⟩ = some (.int .u16 (Win.s (Place.w y))) ∧ w'.cell? ⟨Y, 1, none⟩ = some (.int .u16 (Win.l (Place.w y))) ∧ w'.cell? ⟨Y, 2, none⟩ = some (.int .u8 (Win.p (Place.w y))) ∧ w'.cell? ⟨Y, 3, none⟩ = some (.int .u8 (Win.g (Place.w y)))) (first | go_keep | (exact ⟨c1 _ _ (by assumption), c1 _ _ (by assumption), c1 _ _ (by assumption), c1 _ _ (by assumption), c1 _ _ (by assumption), c1 _ _ (by assumption), c1 _ _ (by assumption), c1 _ _ (by assumption), c1 _ _ (by assumption), c1 _ _ (by assumption)⟩)) (first | (go_at_call 17; refine (KT.out _).mono ?_; rintro e w' ⟨rfl, b1⟩; have c1 := fun (a : Addr) (v : Value) (h : World.cell? _ a = some v) => (Kept.of_below (S := fun _ => False) b1).cell h id))
    refine ⟨CkFr.mk rfl rfl rfl rfl rfl Hq.out.symm ⟨rfl, rfl, rfl, rfl, ?_, trivial⟩, (b1.block _ (lt_of_block HX.out)).trans HX.out, (b1.block _ (lt_of_block HY.out)).trans HY.out, bel_then (bel_drew HB.out) b1⟩
    show Value.bool _ = Value.bool b
    rw [HN.out]
end Go.Proofs.YtpcjjmjmigibhaaDoor
