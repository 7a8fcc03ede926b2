/- The rules' reference: the check's loop over gangs: two windows in their boxes. -/
import Derived.Test.YtpcjjmjmigibhaaDoorRulC
import Derived.Deep.RegionHeld3
namespace Go.Proofs.YtpcjjmjmigibhaaDoor
open Go.RowKit
set_option linter.unusedVariables false
set_option linter.unusedSimpArgs false

def winCells (x : Win) : Obj := .cells #[.int .u16 (Win.s x), .int .u16 (Win.l x), .int .u8 (Win.p x), .int .u8 (Win.g x)] 39 (0, 0)
/-- Two windows in boxes of their own. -/
def CkVW (c : Ck) (i k : Nat) (x y : Win) (W : World) (a : Act) (wr : World) : Prop :=
  ∃ X Y, CkFr c [(9, num_ i), (11, num_ k), (12, ptr_ X), (13, ptr_ Y)] a ∧ wr.heap[X]? = some (winCells x) ∧ wr.heap[Y]? = some (winCells y) ∧ Below W.heap.size W wr

theorem two_boxes (w : World) (o1 o2 : Obj) : ((w.alloc o1).alloc o2).drew.heap[w.heap.size]? = some o1 ∧ ((w.alloc o1).alloc o2).drew.heap[w.heap.size + 1]? = some o2 ∧ Below w.heap.size w ((w.alloc o1).alloc o2).drew := by
  have h1 : (w.alloc o1).heap[w.heap.size]? = some o1 := heap_alloc_new _ _
  have h2 : ((w.alloc o1).alloc o2).heap[(w.alloc o1).heap.size]? = some o2 := heap_alloc_new _ _
  refine ⟨((bel_one (w.alloc o1) o2).block _ (lt_of_block h1)).trans h1, ?_, bel_drew (bel_two _ _ _)⟩
  have e : (w.alloc o1).heap.size = w.heap.size + 1 := by simp
  rw [e] at h2
  exact h2

set_option maxRecDepth 100000 in
set_option maxHeartbeats 3200000 in
theorem ck7_vw (c : Ck) (a : Act) (wr : World) (i k : Nat) (x y : Place) (hx : c.l[k]? = some x) (hy : c.l[i]? = some y) (S : CkS c [(9, num_ i), (11, num_ k)] a wr) (Q : Exit → Act → World → Prop) :
    (pathC [0, 1, 2, 2, 1, 0, 2, 1, 1, 2, 2, 1, 0, 2, 0] (ckTail 7)).wp Tryd.prog (Exit.then (CkVW c i k (Place.w x) (Place.w y) wr) Q) a wr := by
  obtain ⟨⟨u, rfl, h9, h11, _⟩, S⟩ := S
  obtain ⟨_, _, q, hlen⟩ := Elems.len S.places
  have hP := S.places
  rw [q] at hP
  have Hq := Aside.mk q
  obtain ⟨ad, rfl, e0, e1, e2, e3, e4, e5, ok, _, _⟩ := Places.at_ hP k x hx
  obtain ⟨ad', q', d0, d1, d2, d3, d4, d5, ok', _, _⟩ := Places.at_ hP i y hy
  obtain rfl : ad = ad' := by injection q'
  have hk := (List.getElem?_eq_some_iff.1 hx).1
  have hi := (List.getElem?_eq_some_iff.1 hy).1
  have n0 := World.new_ne wr _ e2
  have n1 := World.new_ne wr _ d2
  unfold ckF
  rw [h9, h11, q]
  clear h9 h11 q' q hP S hx hy
  conv => arg 2; whnf
  go_wp2_with fail
  go_region_held3 (fun w' => w'.cell? ⟨(ad.add (k * 6)).block, (ad.add (k * 6)).off + 2, none⟩ = some (.int .u16 (Win.s (Place.w x))) ∧ w'.cell? ⟨(ad.add (k * 6)).block, (ad.add (k * 6)).off + 2 + 1, none⟩ = some (.int .u16 (Win.l (Place.w x))) ∧ w'.cell? ⟨(ad.add (k * 6)).block, (ad.add (k * 6)).off + 2 + 2, none⟩ = some (.int .u8 (Win.p (Place.w x))) ∧ w'.cell? ⟨(ad.add (k * 6)).block, (ad.add (k * 6)).off + 2 + 3, none⟩ = some (.int .u8 (Win.g (Place.w x))) ∧ w'.cell? ⟨(ad.add (i * 6)).block, (ad.add (i * 6)).off + 2, none⟩ = some (.int .u16 (Win.s (Place.w y))) ∧ w'.cell? ⟨(ad.add (i * 6)).block, (ad.add (i * 6)).off + 2 + 1, none⟩ = some (.int .u16 (Win.l (Place.w y))) ∧ w'.cell? ⟨(ad.add (i * 6)).block, (ad.add (i * 6)).off + 2 + 2, none⟩ = some (.int .u8 (Win.p (Place.w y))) ∧ w'.cell? ⟨(ad.add (i * 6)).block, (ad.add (i * 6)).off + 2 + 3, none⟩ = some (.int .u8 (Win.g (Place.w y)))) (go_keep) (fail)
  · obtain ⟨h1, h2, h3⟩ := two_boxes wr (winCells (Place.w x)) (winCells (Place.w y))
    exact ⟨_, _, CkFr.mk rfl rfl rfl rfl rfl Hq.out.symm ⟨rfl, rfl, rfl, rfl, trivial⟩, h1, h2, h3⟩
  · obtain ⟨h1, h2, h3⟩ := two_boxes wr (winCells (Place.w y)) (winCells (Place.w x))
    exact ⟨_, _, CkFr.mk rfl rfl rfl rfl rfl Hq.out.symm ⟨rfl, rfl, rfl, rfl, trivial⟩, h2, h1, h3⟩
end Go.Proofs.YtpcjjmjmigibhaaDoor
