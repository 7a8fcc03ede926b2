/- Paths: the chapter's example. -/
import Derived.Test.YtflkfjjfhhapkaaPthI
namespace Go.Proofs.Ytflkfjjfhhapkaa
open Go.RowKit
set_option linter.unusedVariables false
set_option linter.unusedSimpArgs false

theorem flatMap_get6 {α β : Type} {n : Nat} (f : α → List β) (L : List α) (hf : ∀ x ∈ L, (f x).length = n) (i : Nat) (hi : i < L.length) (j : Nat) (hj : j < n) : (L.flatMap f)[i * n + j]? = (f L[i])[j]? := by
  induction L generalizing i with
  | nil => simp at hi
  | cons x L ih =>
    rw [List.flatMap_cons]
    have hx := hf x (List.mem_cons_self ..)
    rcases i with _ | i
    · simp only [Nat.zero_mul, Nat.zero_add, List.getElem_cons_zero]
      rw [List.getElem?_append_left (by rw [hx]; exact hj)]
    · have e : (i + 1) * n + j = n + (i * n + j) := by rw [Nat.add_mul]; omega
      rw [e, List.getElem?_append_right (by rw [hx]; omega), hx, Nat.add_sub_cancel_left]
      simp only [List.getElem_cons_succ]
      exact ih (fun y hy => hf y (List.mem_cons_of_mem _ hy)) i (by simpa using hi)
/-- A block whose cells are written out reads as a slice. -/
theorem elems_pairs {α : Type} {w : World} {n : Nat} {R : World → List Value → α → Prop} {e : TypeId} {fr : Nat × Nat} (b : Nat) (ps : List (List Value × α)) (hn : ∀ p ∈ ps, p.1.length = n) (hb : w.heap[b]? = some (.cells (ps.flatMap (·.1)).toArray e fr)) (hR : ∀ p ∈ ps, R w p.1 p.2) (hl : ps.length ≤ 9223372036854775807) :
    Elems w n R (.slice (some ⟨b, 0, none⟩) (ps.map (·.2)).length ps.length) (ps.map (·.2)) := by
  refine ⟨some ⟨b, 0, none⟩, ps.length, rfl, by simp, hl, fun _ => ⟨_, rfl, fun i hi => ?_⟩⟩
  have hi' : i < ps.length := by simpa using hi
  refine ⟨(ps[i]).1, hn _ (List.getElem_mem _), fun j hj => ?_, by simpa using hR _ (List.getElem_mem hi')⟩
  rw [Addr.add_lit, Nat.zero_add]
  have := flatMap_get6 (·.1) ps hn i hi' j hj
  simp [World.cell?, hb, this]
def exPart : PartR := ([], 0, [], [0, 0, 0], ())
def exH : List ChanR := [(1, 0, 1, 0, 0, 0, ()), (1, 1, 2, 0, 0, 0, ())]
def exP : Plan := (0, [], [exPart, exPart, exPart, exPart], exH, [(0, 3, ())], ())
def exVals : List Value := [.slice none 0 0, .int .u8 0, .slice none 0 0, .int .u8 0, .int .u8 0, .int .u8 0]
theorem ex_part (W : World) : rd60.R W exVals exPart :=
  have es : Elems W rd74.n rd74.R (.slice none 0 0) [] := ⟨none, 0, rfl, by simp, by simp, by simp⟩
  have ep : Elems W rd5.n rd5.R (.slice none 0 0) [] := ⟨none, 0, rfl, by simp, by simp, by simp⟩
  ⟨_, _, rfl, ⟨_, rfl, es⟩, _, _, rfl, ⟨rfl, by decide⟩, _, _, rfl, ⟨_, rfl, ep⟩, [.int .u8 0, .int .u8 0, .int .u8 0], [], rfl, ⟨rfl, rfl, fun i h => by
      have : i = 0 ∨ i = 1 ∨ i = 2 := by have : i < 3 := h; omega
      rcases this with rfl | rfl | rfl <;> exact ⟨rfl, (by decide : (Lit.int .u8 0).wf = true)⟩⟩, rfl⟩
theorem made_parts (W : World) : (Instr.makeSlice 24 (.int .i64 4) (.int .i64 4)).run Try.prog W = .ok (.slice (some ⟨W.heap.size, 0, none⟩) 4 4) (W.alloc (.cells #[.slice none 0 0, .int .u8 0, .slice none 0 0, .int .u8 0, .int .u8 0, .int .u8 0, .slice none 0 0, .int .u8 0, .slice none 0 0, .int .u8 0, .int .u8 0, .int .u8 0, .slice none 0 0, .int .u8 0, .slice none 0 0, .int .u8 0, .int .u8 0, .int .u8 0, .slice none 0 0, .int .u8 0, .slice none 0 0, .int .u8 0, .int .u8 0, .int .u8 0] 60)) := by kernel_rfl
theorem ex_at (W : World) (b : Nat) (h1 : W.heap[b]? = some (.cells #[.slice none 0 0, .int .u8 0, .slice none 0 0, .int .u8 0, .int .u8 0, .int .u8 0, .slice none 0 0, .int .u8 0, .slice none 0 0, .int .u8 0, .int .u8 0, .int .u8 0, .slice none 0 0, .int .u8 0, .slice none 0 0, .int .u8 0, .int .u8 0, .int .u8 0, .slice none 0 0, .int .u8 0, .slice none 0 0, .int .u8 0, .int .u8 0, .int .u8 0] 60 (0, 0)))
    (h2 : W.heap[b + 1]? = some (.cells #[.int .u8 1, .int .u8 0, .int .u8 1, .int .u8 0, .int .u8 0, .int .u16 0, .int .u8 1, .int .u8 1, .int .u8 2, .int .u8 0, .int .u8 0, .int .u16 0] 44 (0, 0)))
    (h3 : W.heap[b + 1 + 1]? = some (.cells #[.int .u8 0, .int .u8 3] 66 (0, 0))) :
    PlanAt W (.slice none 0 0) (.slice (some ⟨b, 0, none⟩) 4 4) (.slice (some ⟨b + 1, 0, none⟩) 2 2) (.slice (some ⟨b + 1 + 1, 0, none⟩) 1 1) exP := by
  refine ⟨by decide, ⟨none, 0, rfl, by decide, by decide, by simp [exP, Plan.cores]⟩, ?_, ?_, ?_⟩
  · exact elems_pairs (n := rd60.n) (R := rd60.R) b [(exVals, exPart), (exVals, exPart), (exVals, exPart), (exVals, exPart)] (by intro p hp; simp at hp; rcases hp with rfl | rfl | rfl | rfl <;> rfl) h1 (by intro p hp; simp at hp; rcases hp with rfl | rfl | rfl | rfl <;> exact ex_part W) (by simp)
  · exact elems_pairs (n := rd44.n) (R := rd44.R) (b + 1) [([.int .u8 1, .int .u8 0, .int .u8 1, .int .u8 0, .int .u8 0, .int .u16 0], ((1, 0, 1, 0, 0, 0, ()) : ChanR)), ([.int .u8 1, .int .u8 1, .int .u8 2, .int .u8 0, .int .u8 0, .int .u16 0], ((1, 1, 2, 0, 0, 0, ()) : ChanR))] (by intro p hp; simp at hp; rcases hp with rfl | rfl <;> rfl) h2
      (by intro p hp; simp at hp; rcases hp with rfl | rfl <;> exact ⟨_, _, rfl, ⟨rfl, by decide⟩, _, _, rfl, ⟨rfl, by decide⟩, _, _, rfl, ⟨rfl, by decide⟩, _, _, rfl, ⟨rfl, by decide⟩, _, _, rfl, ⟨rfl, by decide⟩, _, _, rfl, ⟨rfl, by decide⟩, rfl⟩) (by simp)
  · exact elems_pairs (n := rd66.n) (R := rd66.R) (b + 1 + 1) [([.int .u8 0, .int .u8 3], ((0, 3, ()) : PairR))] (by intro p hp; simp at hp; subst hp; rfl) h3 (by intro p hp; simp at hp; subst hp; exact ⟨_, _, rfl, ⟨rfl, by decide⟩, _, _, rfl, ⟨rfl, by decide⟩, rfl⟩) (by simp)
set_option maxHeartbeats 800000 in
theorem example_any (w : World) : Calls Try.prog 26 #[] w fun e w' => ∃ v, e = .returned v ∧ PlanV w' v exP ∧ Below w.heap.size w w' := by
  have hmk := made_parts
  obtain ⟨W, HW⟩ : ∃ W, Aside (W = ((((w.alloc (.cells #[.int .u16 0, .slice none 0 0, .slice (some ⟨w.heap.size + 1, 0, none⟩) 4 4, .slice (some ⟨w.heap.size + 1 + 1, 0, none⟩) 2 2, .slice (some ⟨w.heap.size + 1 + 1 + 1, 0, none⟩) 1 1] 28)).alloc (.cells #[.slice none 0 0, .int .u8 0, .slice none 0 0, .int .u8 0, .int .u8 0, .int .u8 0, .slice none 0 0, .int .u8 0, .slice none 0 0, .int .u8 0, .int .u8 0, .int .u8 0, .slice none 0 0, .int .u8 0, .slice none 0 0, .int .u8 0, .int .u8 0, .int .u8 0, .slice none 0 0, .int .u8 0, .slice none 0 0, .int .u8 0, .int .u8 0, .int .u8 0] 60)).alloc (.cells #[.int .u8 1, .int .u8 0, .int .u8 1, .int .u8 0, .int .u8 0, .int .u16 0, .int .u8 1, .int .u8 1, .int .u8 2, .int .u8 0, .int .u8 0, .int .u16 0] 44)).alloc (.cells #[.int .u8 0, .int .u8 3] 66))) := ⟨_, ⟨rfl⟩⟩
  have h0 : W.heap[w.heap.size]? = some (.cells #[.int .u16 0, .slice none 0 0, .slice (some ⟨w.heap.size + 1, 0, none⟩) 4 4, .slice (some ⟨w.heap.size + 1 + 1, 0, none⟩) 2 2, .slice (some ⟨w.heap.size + 1 + 1 + 1, 0, none⟩) 1 1] 28 (0, 0)) := by rw [HW.out]; exact heap_up (heap_up (heap_up (heap_top _ _ _ (by simp))))
  have hp := ex_at W (w.heap.size + 1) (by rw [HW.out]; exact heap_up (heap_up (heap_top _ _ _ (by simp)))) (by rw [HW.out]; exact heap_up (heap_top _ _ _ (by simp))) (by rw [HW.out]; exact heap_top _ _ _ (by simp))
  have hb : Below w.heap.size w W := by rw [HW.out]; exact bel_alloc (bel_alloc (bel_two _ _ _) _) _
  have H := Aside.mk (And.intro hp (And.intro hb h0))
  clear h0 hp hb
  go_enter Try.func26, Try.ntmps26
  go_wp2_with fail
  rw [← HW.out]
  obtain ⟨hp, hb, h0⟩ := H.out
  obtain ⟨g0, g1, g2, g3, g4⟩ := box5 h0
  refine bodyPost_ret (v := .agg #[.int .u16 0, .slice none 0 0, .slice (some ⟨w.heap.size + 1, 0, none⟩) 4 4, .slice (some ⟨w.heap.size + 1 + 1, 0, none⟩) 2 2, .slice (some ⟨w.heap.size + 1 + 1 + 1, 0, none⟩) 1 1]) (by simp [results, Try.results26, go_sem, g0, g1, g2, g3, g4]) rfl ⟨_, rfl, ⟨_, _, _, _, _, _, _, _, _, _, _, _, rfl, hp⟩, hb⟩
end Go.Proofs.Ytflkfjjfhhapkaa
