/- The table: the chapter's example. -/
import Derived.Test.YtmfddaihepjfeaaTabH
namespace Go.Proofs.Ytmfddaihepjfeaa
open Go.RowKit
set_option linter.unusedVariables false
set_option linter.unusedSimpArgs false

theorem flatMap_get' {α β : Type} {n : Nat} (f : α → List β) (L : List α) (hf : ∀ x ∈ L, (f x).length = n) (i : Nat) (hi : i < L.length) (j : Nat) (hj : j < n) : (L.flatMap f)[i * n + j]? = (f L[i])[j]? := by
  induction L generalizing i with
  | nil => simp at hi
  | cons x L ih =>
    rw [List.flatMap_cons]
    have hx := hf x (List.mem_cons_self ..)
    rcases i with _ | i
    · simp only [Nat.zero_mul, Nat.zero_add, List.getElem_cons_zero]
      rw [List.getElem?_append_left (by rw [hx]; exact hj)]
    · have e : (i + 1) * n + j = n + (i * n + j) := by rw [Nat.add_mul]; omega
      rw [e, List.getElem?_append_right (by rw [hx]; omega), hx, Nat.add_sub_cancel_left]
      simp only [List.getElem_cons_succ]
      exact ih (fun y hy => hf y (List.mem_cons_of_mem _ hy)) i (by simpa using hi)
/-- A block whose cells are written out reads as a slice. -/
theorem elems_pairs {α : Type} {w : World} {n : Nat} {R : World → List Value → α → Prop} {e : TypeId} {fr : Nat × Nat} (b : Nat) (ps : List (List Value × α)) (hn : ∀ p ∈ ps, p.1.length = n) (hb : w.heap[b]? = some (.cells (ps.flatMap (·.1)).toArray e fr)) (hR : ∀ p ∈ ps, R w p.1 p.2) (hl : ps.length ≤ 9223372036854775807) :
    Elems w n R (.slice (some ⟨b, 0, none⟩) (ps.map (·.2)).length ps.length) (ps.map (·.2)) := by
  refine ⟨some ⟨b, 0, none⟩, ps.length, rfl, by simp, hl, fun _ => ⟨_, rfl, fun i hi => ?_⟩⟩
  have hi' : i < ps.length := by simpa using hi
  refine ⟨(ps[i]).1, hn _ (List.getElem_mem _), fun j hj => ?_, by simpa using hR _ (List.getElem_mem hi')⟩
  rw [Addr.add_lit, Nat.zero_add]
  have := flatMap_get' (·.1) ps hn i hi' j hj
  simp [World.cell?, hb, this]
def exC : List (List Win) := [[(0, 5, 0, 0, ()), (5, 5, 1, 1, ())], [(5, 5, 1, 1, ()), (12, 8, 2, 0, ())]]
def exPart : PartR := ([], 0, [1], [0, 0, 0], ())
def exP : Plan := (20, exC, [exPart, exPart, exPart], [], [], ())
theorem heap_up {w : World} {o : Obj} {k : Nat} {x : Obj} (h : w.heap[k]? = some x) : (w.alloc o).heap[k]? = some x := ((bel_one w o).block _ (lt_of_block h)).trans h
theorem heap_top (w : World) (o : Obj) (n : Nat) (hn : w.heap.size = n) : (w.alloc o).heap[n]? = some o := by subst hn; exact heap_alloc_new _ _
theorem exR {w : World} (s l p g : Int) (h1 : (Lit.int .u16 s).wf = true) (h2 : (Lit.int .u16 l).wf = true) (h3 : (Lit.int .u8 p).wf = true) (h4 : (Lit.int .u8 g).wf = true) : rd41.R w [.int .u16 s, .int .u16 l, .int .u8 p, .int .u8 g] (s, l, p, g, ()) :=
  ⟨_, _, rfl, ⟨rfl, h1⟩, _, _, rfl, ⟨rfl, h2⟩, _, _, rfl, ⟨rfl, h3⟩, _, _, rfl, ⟨rfl, h4⟩, rfl⟩
theorem example_at (w W : World) (b : Nat) (h1 : W.heap[b]? = some (.cells #[.int .u8 1] 5 (0, 0)))
    (h2 : W.heap[b + 1]? = some (.cells #[.int .u16 0, .int .u16 5, .int .u8 0, .int .u8 0, .int .u16 5, .int .u16 5, .int .u8 1, .int .u8 1] 41 (0, 0))) (h3 : W.heap[b + 1 + 1]? = some (.cells #[.int .u16 5, .int .u16 5, .int .u8 1, .int .u8 1, .int .u16 12, .int .u16 8, .int .u8 2, .int .u8 0] 41 (0, 0)))
    (h4 : W.heap[b + 1 + 1 + 1]? = some (.cells #[.slice (some ⟨b + 1, 0, none⟩) 2 2, .slice (some ⟨b + 1 + 1, 0, none⟩) 2 2] 37 (0, 0)))
    (h5 : W.heap[b + 1 + 1 + 1 + 1]? = some (.cells #[.slice none 0 0, .int .u8 0, .slice (some ⟨b, 0, none⟩) 1 1, .int .u8 0, .int .u8 0, .int .u8 0, .slice none 0 0, .int .u8 0, .slice (some ⟨b, 0, none⟩) 1 1, .int .u8 0, .int .u8 0, .int .u8 0, .slice none 0 0, .int .u8 0, .slice (some ⟨b, 0, none⟩) 1 1, .int .u8 0, .int .u8 0, .int .u8 0] 81 (0, 0))) :
    PlanAt W (.slice (some ⟨b + 1 + 1 + 1, 0, none⟩) 2 2) (.slice (some ⟨b + 1 + 1 + 1 + 1, 0, none⟩) 3 3) (.slice none 0 0) (.slice none 0 0) exP := by
  have e0 : Elems W rd41.n rd41.R (.slice (some ⟨b + 1, 0, none⟩) 2 2) [(0, 5, 0, 0, ()), (5, 5, 1, 1, ())] :=
    elems_pairs (n := rd41.n) (R := rd41.R) (b + 1) [([.int .u16 0, .int .u16 5, .int .u8 0, .int .u8 0], (0, 5, 0, 0, ())), ([.int .u16 5, .int .u16 5, .int .u8 1, .int .u8 1], (5, 5, 1, 1, ()))] (by intro p hp; simp at hp; rcases hp with rfl | rfl <;> rfl) h2
      (by intro p hp; simp at hp; rcases hp with rfl | rfl <;> exact exR _ _ _ _ (by decide) (by decide) (by decide) (by decide)) (by decide)
  have e1 : Elems W rd41.n rd41.R (.slice (some ⟨b + 1 + 1, 0, none⟩) 2 2) [(5, 5, 1, 1, ()), (12, 8, 2, 0, ())] :=
    elems_pairs (n := rd41.n) (R := rd41.R) (b + 1 + 1) [([.int .u16 5, .int .u16 5, .int .u8 1, .int .u8 1], (5, 5, 1, 1, ())), ([.int .u16 12, .int .u16 8, .int .u8 2, .int .u8 0], (12, 8, 2, 0, ()))] (by intro p hp; simp at hp; rcases hp with rfl | rfl <;> rfl) h3
      (by intro p hp; simp at hp; rcases hp with rfl | rfl <;> exact exR _ _ _ _ (by decide) (by decide) (by decide) (by decide)) (by decide)
  have ep : Elems W rd5.n rd5.R (.slice (some ⟨b, 0, none⟩) 1 1) [1] :=
    elems_pairs (n := rd5.n) (R := rd5.R) b [([.int .u8 1], (1 : Int))] (by intro p hp; simp at hp; subst hp; rfl) h1 (by intro p hp; simp at hp; subst hp; exact ⟨rfl, by decide⟩) (by decide)
  have es : Elems W rd84.n rd84.R (.slice none 0 0) [] := ⟨none, 0, rfl, by simp, by simp, by simp⟩
  have eq : rd81.R W [.slice none 0 0, .int .u8 0, .slice (some ⟨b, 0, none⟩) 1 1, .int .u8 0, .int .u8 0, .int .u8 0] exPart :=
    ⟨_, _, rfl, ⟨_, rfl, es⟩, _, _, rfl, ⟨rfl, by decide⟩, _, _, rfl, ⟨_, rfl, ep⟩, [.int .u8 0, .int .u8 0, .int .u8 0], [], rfl, ⟨rfl, rfl, fun i h => by
      have : i = 0 ∨ i = 1 ∨ i = 2 := by have : i < 3 := h; omega
      rcases this with rfl | rfl | rfl <;> exact ⟨rfl, (by decide : (Lit.int .u8 0).wf = true)⟩⟩, rfl⟩
  refine ⟨by decide, ?_, ?_, ⟨none, 0, rfl, by decide, by decide, by simp [exP, Plan.chans]⟩, ⟨none, 0, rfl, by decide, by decide, by simp [exP, Plan.pairs]⟩⟩
  · exact elems_pairs (n := rd37.n) (R := rd37.R) (b + 1 + 1 + 1) [([.slice (some ⟨b + 1, 0, none⟩) 2 2], [(0, 5, 0, 0, ()), (5, 5, 1, 1, ())]), ([.slice (some ⟨b + 1 + 1, 0, none⟩) 2 2], [(5, 5, 1, 1, ()), (12, 8, 2, 0, ())])] (by intro p hp; simp at hp; rcases hp with rfl | rfl <;> rfl) h4
      (by intro p hp; simp at hp; rcases hp with rfl | rfl; exact ⟨_, rfl, e0⟩; exact ⟨_, rfl, e1⟩) (by simp)
  · exact elems_pairs (n := rd81.n) (R := rd81.R) (b + 1 + 1 + 1 + 1) [([.slice none 0 0, .int .u8 0, .slice (some ⟨b, 0, none⟩) 1 1, .int .u8 0, .int .u8 0, .int .u8 0], exPart), ([.slice none 0 0, .int .u8 0, .slice (some ⟨b, 0, none⟩) 1 1, .int .u8 0, .int .u8 0, .int .u8 0], exPart), ([.slice none 0 0, .int .u8 0, .slice (some ⟨b, 0, none⟩) 1 1, .int .u8 0, .int .u8 0, .int .u8 0], exPart)] (by intro p hp; simp at hp; rcases hp with rfl | rfl | rfl <;> rfl) h5
      (by intro p hp; simp at hp; rcases hp with rfl | rfl | rfl <;> exact eq) (by simp)
set_option maxHeartbeats 800000 in
theorem example_any (w : World) : Calls Try.prog 27 #[] w fun e w' => ∃ v, e = .returned v ∧ PlanV w' v exP ∧ Below w.heap.size w w' := by
  obtain ⟨W, HW⟩ : ∃ W, Aside (W = ((((((w.alloc (.cells #[.int .u16 20, .slice (some ⟨w.heap.size + 1 + 1 + 1 + 1, 0, none⟩) 2 2, .slice (some ⟨w.heap.size + 1 + 1 + 1 + 1 + 1, 0, none⟩) 3 3, .slice none 0 0, .slice none 0 0] 28)).alloc (.cells #[.int .u8 1] 5)).alloc (.cells #[.int .u16 0, .int .u16 5, .int .u8 0, .int .u8 0, .int .u16 5, .int .u16 5, .int .u8 1, .int .u8 1] 41)).alloc (.cells #[.int .u16 5, .int .u16 5, .int .u8 1, .int .u8 1, .int .u16 12, .int .u16 8, .int .u8 2, .int .u8 0] 41)).alloc (.cells #[.slice (some ⟨w.heap.size + 1 + 1, 0, none⟩) 2 2, .slice (some ⟨w.heap.size + 1 + 1 + 1, 0, none⟩) 2 2] 37)).alloc (.cells #[.slice none 0 0, .int .u8 0, .slice (some ⟨w.heap.size + 1, 0, none⟩) 1 1, .int .u8 0, .int .u8 0, .int .u8 0, .slice none 0 0, .int .u8 0, .slice (some ⟨w.heap.size + 1, 0, none⟩) 1 1, .int .u8 0, .int .u8 0, .int .u8 0, .slice none 0 0, .int .u8 0, .slice (some ⟨w.heap.size + 1, 0, none⟩) 1 1, .int .u8 0, .int .u8 0, .int .u8 0] 81))) := ⟨_, ⟨rfl⟩⟩
  have h0 : W.heap[w.heap.size]? = some (.cells #[.int .u16 20, .slice (some ⟨w.heap.size + 1 + 1 + 1 + 1, 0, none⟩) 2 2, .slice (some ⟨w.heap.size + 1 + 1 + 1 + 1 + 1, 0, none⟩) 3 3, .slice none 0 0, .slice none 0 0] 28 (0, 0)) := by rw [HW.out]; exact heap_up (heap_up (heap_up (heap_up (heap_up (heap_top _ _ _ (by simp))))))
  have h1 : W.heap[w.heap.size + 1]? = some (.cells #[.int .u8 1] 5 (0, 0)) := by rw [HW.out]; exact heap_up (heap_up (heap_up (heap_up (heap_top _ _ _ (by simp)))))
  have h2 : W.heap[w.heap.size + 1 + 1]? = some (.cells #[.int .u16 0, .int .u16 5, .int .u8 0, .int .u8 0, .int .u16 5, .int .u16 5, .int .u8 1, .int .u8 1] 41 (0, 0)) := by rw [HW.out]; exact heap_up (heap_up (heap_up (heap_top _ _ _ (by simp))))
  have h3 : W.heap[w.heap.size + 1 + 1 + 1]? = some (.cells #[.int .u16 5, .int .u16 5, .int .u8 1, .int .u8 1, .int .u16 12, .int .u16 8, .int .u8 2, .int .u8 0] 41 (0, 0)) := by rw [HW.out]; exact heap_up (heap_up (heap_top _ _ _ (by simp)))
  have h4 : W.heap[w.heap.size + 1 + 1 + 1 + 1]? = some (.cells #[.slice (some ⟨w.heap.size + 1 + 1, 0, none⟩) 2 2, .slice (some ⟨w.heap.size + 1 + 1 + 1, 0, none⟩) 2 2] 37 (0, 0)) := by rw [HW.out]; exact heap_up (heap_top _ _ _ (by simp))
  have h5 : W.heap[w.heap.size + 1 + 1 + 1 + 1 + 1]? = some (.cells #[.slice none 0 0, .int .u8 0, .slice (some ⟨w.heap.size + 1, 0, none⟩) 1 1, .int .u8 0, .int .u8 0, .int .u8 0, .slice none 0 0, .int .u8 0, .slice (some ⟨w.heap.size + 1, 0, none⟩) 1 1, .int .u8 0, .int .u8 0, .int .u8 0, .slice none 0 0, .int .u8 0, .slice (some ⟨w.heap.size + 1, 0, none⟩) 1 1, .int .u8 0, .int .u8 0, .int .u8 0] 81 (0, 0)) := by rw [HW.out]; exact heap_top _ _ _ (by simp)
  have hp := example_at w W (w.heap.size + 1) h1 h2 h3 h4 h5
  have hb : Below w.heap.size w W := by rw [HW.out]; exact bel_alloc (bel_alloc (bel_alloc (bel_alloc (bel_two _ _ _) _) _) _) _
  have H := Aside.mk (And.intro hp (And.intro hb h0))
  clear h0 h1 h2 h3 h4 h5 hp hb
  go_enter Try.func27, Try.ntmps27
  go_wp2_with fail
  rw [← HW.out]
  obtain ⟨hp, hb, h0⟩ := H.out
  have g0 : W.cell? ⟨w.heap.size, 0, none⟩ = some (.int .u16 20) := by simp [World.cell?, h0]
  have g1 : W.cell? ⟨w.heap.size, 1, none⟩ = some (.slice (some ⟨w.heap.size + 1 + 1 + 1 + 1, 0, none⟩) 2 2) := by simp [World.cell?, h0]
  have g2 : W.cell? ⟨w.heap.size, 2, none⟩ = some (.slice (some ⟨w.heap.size + 1 + 1 + 1 + 1 + 1, 0, none⟩) 3 3) := by simp [World.cell?, h0]
  have g3 : W.cell? ⟨w.heap.size, 3, none⟩ = some (.slice none 0 0) := by simp [World.cell?, h0]
  have g4 : W.cell? ⟨w.heap.size, 4, none⟩ = some (.slice none 0 0) := by simp [World.cell?, h0]
  refine bodyPost_ret (v := .agg #[.int .u16 20, .slice (some ⟨w.heap.size + 1 + 1 + 1 + 1, 0, none⟩) 2 2, .slice (some ⟨w.heap.size + 1 + 1 + 1 + 1 + 1, 0, none⟩) 3 3, .slice none 0 0, .slice none 0 0]) (by simp [results, Try.results27, go_sem, g0, g1, g2, g3, g4]) rfl ⟨_, rfl, ⟨_, _, _, _, _, _, _, _, _, _, _, _, rfl, hp⟩, hb⟩
end Go.Proofs.Ytmfddaihepjfeaa
