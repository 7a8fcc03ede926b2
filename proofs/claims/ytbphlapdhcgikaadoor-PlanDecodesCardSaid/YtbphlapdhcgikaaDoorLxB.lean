/- Layer 3's laws: the chapter's example. -/
import Derived.Test.YtbphlapdhcgikaaDoorLxA
import Derived.Test.YtbphlapdhcgikaaDoorDecF
import Derived.Test.YtbphlapdhcgikaaDoorEncB
namespace Go.Proofs.YtbphlapdhcgikaaDoor
open Go.RowKit
set_option linter.unusedVariables false
set_option linter.unusedSimpArgs false

def winOb (x : Win) : Obj := .cells #[.int .u16 (Win.s x), .int .u16 (Win.l x), .int .u8 (Win.p x), .int .u8 (Win.g x)] 51 (0, 0)
/-- A block whose cells are written out reads as a slice. -/
theorem elems_pairs {α : Type} {w : World} {n : Nat} {R : World → List Value → α → Prop} {e : TypeId} {fr : Nat × Nat} (b : Nat) (ps : List (List Value × α)) (hn : ∀ p ∈ ps, p.1.length = n) (hb : w.heap[b]? = some (.cells (ps.flatMap (·.1)).toArray e fr)) (hR : ∀ p ∈ ps, R w p.1 p.2) (hl : ps.length ≤ 9223372036854775807) :
    Elems w n R (.slice (some ⟨b, 0, none⟩) (ps.map (·.2)).length ps.length) (ps.map (·.2)) := by
  refine ⟨some ⟨b, 0, none⟩, ps.length, rfl, by simp, hl, fun _ => ⟨_, rfl, fun i hi => ?_⟩⟩
  have hi' : i < ps.length := by simpa using hi
  refine ⟨(ps[i]).1, hn _ (List.getElem_mem _), fun j hj => ?_, by simpa using hR _ (List.getElem_mem hi')⟩
  rw [Addr.add_lit, Nat.zero_add]
  have := flatMap_get' (·.1) ps hn i hi' j hj
  simp [World.cell?, hb, this]
theorem exR {w : World} (s l p g : Int) (h1 : (Lit.int .u16 s).wf = true) (h2 : (Lit.int .u16 l).wf = true) (h3 : (Lit.int .u8 p).wf = true) (h4 : (Lit.int .u8 g).wf = true) : rd51.R w [.int .u16 s, .int .u16 l, .int .u8 p, .int .u8 g] (s, l, p, g, ()) :=
  ⟨_, _, rfl, ⟨rfl, h1⟩, _, _, rfl, ⟨rfl, h2⟩, _, _, rfl, ⟨rfl, h3⟩, _, _, rfl, ⟨rfl, h4⟩, rfl⟩
def WfW (x : Win) : Prop := (Lit.int .u16 (Win.s x)).wf = true ∧ (Lit.int .u16 (Win.l x)).wf = true ∧ (Lit.int .u8 (Win.p x)).wf = true ∧ (Lit.int .u8 (Win.g x)).wf = true
/-- A row of one window. -/
theorem wins_one {W : World} {b : Nat} (x : Win) (hx : WfW x) (h : W.heap[b]? = some (winOb x)) : Elems W rd51.n rd51.R (.slice (some ⟨b, 0, none⟩) 1 1) [x] := by
  obtain ⟨s, l, p, g, _⟩ := x
  exact elems_pairs (n := rd51.n) (R := rd51.R) b [([.int .u16 s, .int .u16 l, .int .u8 p, .int .u8 g], (s, l, p, g, ()))] (by intro p hp; simp at hp; subst hp; rfl) h
    (by intro p hp; simp at hp; subst hp; exact exR _ _ _ _ hx.1 hx.2.1 hx.2.2.1 hx.2.2.2) (by simp)
theorem cores_one {W : World} {b : Nat} (A : Value) (L : List Win) (h : W.heap[b]? = some (.cells #[A] 49 (0, 0))) (hA : Wins W A L) : Cores W (.slice (some ⟨b, 0, none⟩) 1 1) [L] :=
  elems_pairs (n := rd49.n) (R := rd49.R) b [([A], L)] (by intro p hp; simp at hp; subst hp; rfl) h (by intro p hp; simp at hp; subst hp; exact ⟨_, rfl, hA⟩) (by simp)
def lPart : PartR := ([], 0, [], [0, 0, 0], ())
def leastP : Plan := (10, [[(0, 10, 0, 0, ())]], [lPart], [], [], ())
theorem parts_one {W : World} {c : Nat} (h5 : W.heap[c]? = some (.cells #[.slice none 0 0, .int .u8 0, .slice none 0 0, .int .u8 0, .int .u8 0, .int .u8 0] 56 (0, 0))) : Parts W (.slice (some ⟨c, 0, none⟩) 1 1) [lPart] := by
  have es : Elems W rd58.n rd58.R (.slice none 0 0) [] := ⟨none, 0, rfl, by simp, by simp, by simp⟩
  have ep : Elems W rd5.n rd5.R (.slice none 0 0) [] := ⟨none, 0, rfl, by simp, by simp, by simp⟩
  have eq : rd56.R W [.slice none 0 0, .int .u8 0, .slice none 0 0, .int .u8 0, .int .u8 0, .int .u8 0] lPart :=
    ⟨_, _, rfl, ⟨_, rfl, es⟩, _, _, rfl, ⟨rfl, by decide⟩, _, _, rfl, ⟨_, rfl, ep⟩, [.int .u8 0, .int .u8 0, .int .u8 0], [], rfl, ⟨rfl, rfl, fun i h => by
      have : i = 0 ∨ i = 1 ∨ i = 2 := by have : i < 3 := h; omega
      rcases this with rfl | rfl | rfl <;> exact ⟨rfl, (by decide : (Lit.int .u8 0).wf = true)⟩⟩, rfl⟩
  exact elems_pairs (n := rd56.n) (R := rd56.R) c [([.slice none 0 0, .int .u8 0, .slice none 0 0, .int .u8 0, .int .u8 0, .int .u8 0], lPart)] (by intro p hp; simp at hp; subst hp; rfl) h5 (by intro p hp; simp at hp; subst hp; exact eq) (by simp)
set_option maxHeartbeats 1600000 in
theorem least_any (w : World) : Calls Tryd.prog 20 #[] w fun e w' => ∃ v, e = .returned v ∧ PlanV w' v leastP ∧ Below w.heap.size w w' := by
  go_enter Tryd.func20, Tryd.ntmps20
  go_wp2_with fail
  obtain ⟨W, HW⟩ : ∃ W, Aside (W = (((w.alloc (.cells #[.int .u16 10, .slice (some ⟨w.heap.size + 1 + 1, 0, none⟩) 1 1, .slice (some ⟨w.heap.size + 1 + 1 + 1, 0, none⟩) 1 1, .slice none 0 0, .slice none 0 0] 28)).alloc (winOb (0, 10, 0, 0, ()))).alloc (.cells #[.slice (some ⟨w.heap.size + 1, 0, none⟩) 1 1] 49)).alloc (.cells #[.slice none 0 0, .int .u8 0, .slice none 0 0, .int .u8 0, .int .u8 0, .int .u8 0] 56)) := ⟨_, ⟨rfl⟩⟩
  have h0 : W.heap[w.heap.size]? = some (.cells #[.int .u16 10, .slice (some ⟨w.heap.size + 1 + 1, 0, none⟩) 1 1, .slice (some ⟨w.heap.size + 1 + 1 + 1, 0, none⟩) 1 1, .slice none 0 0, .slice none 0 0] 28 (0, 0)) := by rw [HW.out]; exact heap_up (heap_up (heap_up (heap_alloc_new _ _)))
  have h1 : W.heap[w.heap.size + 1]? = some (winOb (0, 10, 0, 0, ())) := by rw [HW.out]; exact heap_up (heap_up (heap_top _ _ _ (by simp)))
  have h2 : W.heap[w.heap.size + 1 + 1]? = some (.cells #[.slice (some ⟨w.heap.size + 1, 0, none⟩) 1 1] 49 (0, 0)) := by rw [HW.out]; exact heap_up (heap_top _ _ _ (by simp))
  have h3 : W.heap[w.heap.size + 1 + 1 + 1]? = some (.cells #[.slice none 0 0, .int .u8 0, .slice none 0 0, .int .u8 0, .int .u8 0, .int .u8 0] 56 (0, 0)) := by rw [HW.out]; exact heap_top _ _ _ (by simp)
  have hb : Below w.heap.size w W := by rw [HW.out]; exact bel_then (bel_then (bel_two _ _ _) (bel_one _ _)) (bel_one _ _)
  have hw : WfW (0, 10, 0, 0, ()) := ⟨by decide, by decide, by decide, by decide⟩
  have hp : PlanV W (.agg #[.int .u16 10, .slice (some ⟨w.heap.size + 1 + 1, 0, none⟩) 1 1, .slice (some ⟨w.heap.size + 1 + 1 + 1, 0, none⟩) 1 1, .slice none 0 0, .slice none 0 0]) leastP :=
    ⟨_, _, _, _, _, _, _, _, _, _, _, _, rfl, ⟨by decide, cores_one _ _ h2 (wins_one _ hw h1), parts_one h3, ⟨none, 0, rfl, Nat.le_refl 0, by decide, fun h => absurd h (Nat.lt_irrefl 0)⟩, ⟨none, 0, rfl, Nat.le_refl 0, by decide, fun h => absurd h (Nat.lt_irrefl 0)⟩⟩⟩
  obtain ⟨g0, g1, g2, g3, g4⟩ := box5 h0
  have HWr := HW.out
  unfold winOb at HWr
  simp only [Win.s, Win.l, Win.p, Win.g] at HWr
  rw [← HWr]
  exact bodyPost_ret (v := .agg #[.int .u16 10, .slice (some ⟨w.heap.size + 1 + 1, 0, none⟩) 1 1, .slice (some ⟨w.heap.size + 1 + 1 + 1, 0, none⟩) 1 1, .slice none 0 0, .slice none 0 0]) (by simp [results, Tryd.results20, go_sem, g0, g1, g2, g3, g4]) rfl ⟨_, rfl, hp, hb⟩
end Go.Proofs.YtbphlapdhcgikaaDoor
