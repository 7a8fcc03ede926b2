/- Layer 4's laws: few, the chapter's example. -/
import Derived.Test.YtpcjjmjmigibhaaDoorChkK
namespace Go.Proofs.YtpcjjmjmigibhaaDoor
open Go.RowKit
set_option linter.unusedVariables false
set_option linter.unusedSimpArgs false

theorem flatMap_get' {α β : Type} {n : Nat} (f : α → List β) (L : List α) (hf : ∀ x ∈ L, (f x).length = n) (i : Nat) (hi : i < L.length) (j : Nat) (hj : j < n) : (L.flatMap f)[i * n + j]? = (f L[i])[j]? := by
  induction L generalizing i with
  | nil => simp at hi
  | cons x L ih =>
    rw [List.flatMap_cons]
    have hx := hf x (List.mem_cons_self ..)
    rcases i with _ | i
    · rw [List.getElem?_append_left (by rw [hx]; omega)]
      simp
    · rw [List.getElem?_append_right (by rw [hx, Nat.succ_mul]; omega), hx, show (i + 1) * n + j - n = i * n + j by rw [Nat.succ_mul]; omega]
      exact ih (fun y hy => hf y (List.mem_cons_of_mem _ hy)) i (by simpa using hi)
/-- A block whose cells are written out reads as a slice. -/
theorem elems_pairs {α : Type} {w : World} {n : Nat} {R : World → List Value → α → Prop} {e : TypeId} {fr : Nat × Nat} (b : Nat) (ps : List (List Value × α)) (hn : ∀ p ∈ ps, p.1.length = n) (hb : w.heap[b]? = some (.cells (ps.flatMap (·.1)).toArray e fr)) (hR : ∀ p ∈ ps, R w p.1 p.2) (hl : ps.length ≤ 9223372036854775807) :
    Elems w n R (.slice (some ⟨b, 0, none⟩) (ps.map (·.2)).length ps.length) (ps.map (·.2)) := by
  refine ⟨some ⟨b, 0, none⟩, ps.length, rfl, by simp, hl, fun _ => ⟨_, rfl, fun i hi => ?_⟩⟩
  have hi' : i < ps.length := by simpa using hi
  refine ⟨(ps[i]).1, hn _ (List.getElem_mem _), fun j hj => ?_, by simpa using hR _ (List.getElem_mem hi')⟩
  rw [Addr.add_lit, Nat.zero_add]
  have := flatMap_get' (·.1) ps hn i hi' j hj
  simp [World.cell?, hb, this]
theorem exR {w : World} (s l p g : Int) (h1 : (Lit.int .u16 s).wf = true) (h2 : (Lit.int .u16 l).wf = true) (h3 : (Lit.int .u8 p).wf = true) (h4 : (Lit.int .u8 g).wf = true) : rd39.R w [.int .u16 s, .int .u16 l, .int .u8 p, .int .u8 g] (s, l, p, g, ()) :=
  ⟨_, _, rfl, ⟨rfl, h1⟩, _, _, rfl, ⟨rfl, h2⟩, _, _, rfl, ⟨rfl, h3⟩, _, _, rfl, ⟨rfl, h4⟩, rfl⟩
def WfW (x : Win) : Prop := (Lit.int .u16 (Win.s x)).wf = true ∧ (Lit.int .u16 (Win.l x)).wf = true ∧ (Lit.int .u8 (Win.p x)).wf = true ∧ (Lit.int .u8 (Win.g x)).wf = true
def exPart : PartR := ([], 0, [1], [0, 0, 0], ())
def exQ (x y : Win) : Plan := (10, [[x], [y]], [exPart], [], [], ())
/-- A row of one window. -/
theorem wins_one {W : World} {b : Nat} (x : Win) (hx : WfW x) (h : W.heap[b]? = some (winOb x)) : Elems W rd39.n rd39.R (.slice (some ⟨b, 0, none⟩) 1 1) [x] := by
  obtain ⟨s, l, p, g, _⟩ := x
  exact elems_pairs (n := rd39.n) (R := rd39.R) b [([.int .u16 s, .int .u16 l, .int .u8 p, .int .u8 g], (s, l, p, g, ()))] (by intro p hp; simp at hp; subst hp; rfl) h
    (by intro p hp; simp at hp; subst hp; exact exR _ _ _ _ hx.1 hx.2.1 hx.2.2.1 hx.2.2.2) (by simp)
theorem cores_one {W : World} {b : Nat} (A : Value) (L : List Win) (h : W.heap[b]? = some (.cells #[A] 43 (0, 0))) (hA : Wins W A L) : Cores W (.slice (some ⟨b, 0, none⟩) 1 1) [L] :=
  elems_pairs (n := rd43.n) (R := rd43.R) b [([A], L)] (by intro p hp; simp at hp; subst hp; rfl) h (by intro p hp; simp at hp; subst hp; exact ⟨_, rfl, hA⟩) (by simp)
theorem cores_two {W : World} {b : Nat} (A B : Value) (L M : List Win) (h : W.heap[b]? = some (.cells #[A, B] 43 (0, 0))) (hA : Wins W A L) (hB : Wins W B M) : Cores W (.slice (some ⟨b, 0, none⟩) 2 2) [L, M] :=
  elems_pairs (n := rd43.n) (R := rd43.R) b [([A], L), ([B], M)] (by intro p hp; simp at hp; rcases hp with rfl | rfl <;> rfl) h (by intro p hp; simp at hp; rcases hp with rfl | rfl; exact ⟨_, rfl, hA⟩; exact ⟨_, rfl, hB⟩) (by simp)
theorem parts_one {W : World} {b c : Nat} (h4 : W.heap[b]? = some (.cells #[.int .u8 1] 5 (0, 0))) (h5 : W.heap[c]? = some (.cells #[.slice none 0 0, .int .u8 0, .slice (some ⟨b, 0, none⟩) 1 1, .int .u8 0, .int .u8 0, .int .u8 0] 54 (0, 0))) : Parts W (.slice (some ⟨c, 0, none⟩) 1 1) [exPart] := by
  have ep : Elems W rd5.n rd5.R (.slice (some ⟨b, 0, none⟩) 1 1) [1] :=
    elems_pairs (n := rd5.n) (R := rd5.R) b [([.int .u8 1], (1 : Int))] (by intro p hp; simp at hp; subst hp; rfl) h4 (by intro p hp; simp at hp; subst hp; exact ⟨rfl, by decide⟩) (by decide)
  have es : Elems W rd91.n rd91.R (.slice none 0 0) [] := ⟨none, 0, rfl, by simp, by simp, by simp⟩
  have eq : rd54.R W [.slice none 0 0, .int .u8 0, .slice (some ⟨b, 0, none⟩) 1 1, .int .u8 0, .int .u8 0, .int .u8 0] exPart :=
    ⟨_, _, rfl, ⟨_, rfl, es⟩, _, _, rfl, ⟨rfl, by decide⟩, _, _, rfl, ⟨_, rfl, ep⟩, [.int .u8 0, .int .u8 0, .int .u8 0], [], rfl, ⟨rfl, rfl, fun i h => by
      have : i = 0 ∨ i = 1 ∨ i = 2 := by have : i < 3 := h; omega
      rcases this with rfl | rfl | rfl <;> exact ⟨rfl, (by decide : (Lit.int .u8 0).wf = true)⟩⟩, rfl⟩
  exact elems_pairs (n := rd54.n) (R := rd54.R) c [([.slice none 0 0, .int .u8 0, .slice (some ⟨b, 0, none⟩) 1 1, .int .u8 0, .int .u8 0, .int .u8 0], exPart)] (by intro p hp; simp at hp; subst hp; rfl) h5
      (by intro p hp; simp at hp; subst hp; exact eq) (by simp)
theorem example_at (W : World) (b : Nat) (x y : Win) (hx : WfW x) (hy : WfW y) (h1 : W.heap[b]? = some (winOb x)) (h2 : W.heap[b + 1]? = some (winOb y))
    (h3 : W.heap[b + 1 + 1]? = some (.cells #[.slice (some ⟨b, 0, none⟩) 1 1, .slice (some ⟨b + 1, 0, none⟩) 1 1] 43 (0, 0)))
    (h4 : W.heap[b + 1 + 1 + 1]? = some (.cells #[.int .u8 1] 5 (0, 0)))
    (h5 : W.heap[b + 1 + 1 + 1 + 1]? = some (.cells #[.slice none 0 0, .int .u8 0, .slice (some ⟨b + 1 + 1 + 1, 0, none⟩) 1 1, .int .u8 0, .int .u8 0, .int .u8 0] 54 (0, 0))) :
    PlanAt W (.slice (some ⟨b + 1 + 1, 0, none⟩) 2 2) (.slice (some ⟨b + 1 + 1 + 1 + 1, 0, none⟩) 1 1) (.slice none 0 0) (.slice none 0 0) (exQ x y) :=
  ⟨by show (0 : Int) ≤ 10 ∧ (10 : Int) ≤ 65535; decide, cores_two _ _ [x] [y] h3 (wins_one x hx h1) (wins_one y hy h2), parts_one h4 h5, ⟨none, 0, rfl, by simp [exQ, Plan.chans], by simp, by simp [exQ, Plan.chans]⟩, ⟨none, 0, rfl, by simp [exQ, Plan.pairs], by simp, by simp [exQ, Plan.pairs]⟩⟩
def exX (g : Int) : Win := (0, 4, 0, g, ())
def exY (g : Int) : Win := if g = 0 then (2, 4, 0, 0, ()) else (0, 4, 0, g, ())
/-- How an example is answered: the plan, in cells of its own. -/
def ExR (w : World) (P : Plan) (e : Ending) (w' : World) : Prop := ∃ v, e = .returned v ∧ PlanV w' v P ∧ Below w.heap.size w w'
set_option maxHeartbeats 1600000 in
theorem example_any (w : World) (g : Int) (hg : g = 0 ∨ g = 1) : Calls Tryd.prog 19 #[.int .u8 g] w (ExR w (exQ (exX g) (exY g))) := by
  have hx : WfW (exX g) := by rcases hg with rfl | rfl <;> exact ⟨by decide, by decide, by decide, by decide⟩
  have hy : WfW (exY g) := by rcases hg with rfl | rfl <;> exact ⟨by decide, by decide, by decide, by decide⟩
  obtain ⟨W, HW⟩ : ∃ W, Aside (W = (((((((w.alloc (.cells #[.int .u16 10, .slice (some ⟨w.heap.size + 1 + 1 + 1 + 1 + 1, 0, none⟩) 2 2, .slice (some ⟨w.heap.size + 1 + 1 + 1 + 1 + 1 + 1 + 1, 0, none⟩) 1 1, .slice none 0 0, .slice none 0 0] 28)).alloc (winOb (exX g))).alloc (winOb (exY g))).alloc (winOb (exX g))).alloc (winOb (exY g))).alloc (.cells #[.slice (some ⟨w.heap.size + 1 + 1 + 1, 0, none⟩) 1 1, .slice (some ⟨w.heap.size + 1 + 1 + 1 + 1, 0, none⟩) 1 1] 43)).alloc (.cells #[.int .u8 1] 5)).alloc (.cells #[.slice none 0 0, .int .u8 0, .slice (some ⟨w.heap.size + 1 + 1 + 1 + 1 + 1 + 1, 0, none⟩) 1 1, .int .u8 0, .int .u8 0, .int .u8 0] 54)) := ⟨_, ⟨rfl⟩⟩
  have h0 : W.heap[w.heap.size]? = some (.cells #[.int .u16 10, .slice (some ⟨w.heap.size + 1 + 1 + 1 + 1 + 1, 0, none⟩) 2 2, .slice (some ⟨w.heap.size + 1 + 1 + 1 + 1 + 1 + 1 + 1, 0, none⟩) 1 1, .slice none 0 0, .slice none 0 0] 28 (0, 0)) := by rw [HW.out]; exact lheap_up (lheap_up (lheap_up (lheap_up (lheap_up (lheap_up (lheap_up (lheap_top _ _ _ rfl)))))))
  have h1 : W.heap[w.heap.size + 1 + 1 + 1]? = some (winOb (exX g)) := by rw [HW.out]; exact lheap_up (lheap_up (lheap_up (lheap_up (lheap_top _ _ _ (by simp)))))
  have h2 : W.heap[w.heap.size + 1 + 1 + 1 + 1]? = some (winOb (exY g)) := by rw [HW.out]; exact lheap_up (lheap_up (lheap_up (lheap_top _ _ _ (by simp))))
  have h3 : W.heap[w.heap.size + 1 + 1 + 1 + 1 + 1]? = some (.cells #[.slice (some ⟨w.heap.size + 1 + 1 + 1, 0, none⟩) 1 1, .slice (some ⟨w.heap.size + 1 + 1 + 1 + 1, 0, none⟩) 1 1] 43 (0, 0)) := by rw [HW.out]; exact lheap_up (lheap_up (lheap_top _ _ _ (by simp)))
  have h4 : W.heap[w.heap.size + 1 + 1 + 1 + 1 + 1 + 1]? = some (.cells #[.int .u8 1] 5 (0, 0)) := by rw [HW.out]; exact lheap_up (lheap_top _ _ _ (by simp))
  have h5 : W.heap[w.heap.size + 1 + 1 + 1 + 1 + 1 + 1 + 1]? = some (.cells #[.slice none 0 0, .int .u8 0, .slice (some ⟨w.heap.size + 1 + 1 + 1 + 1 + 1 + 1, 0, none⟩) 1 1, .int .u8 0, .int .u8 0, .int .u8 0] 54 (0, 0)) := by rw [HW.out]; exact lheap_top _ _ _ (by simp)
  have hp := example_at W (w.heap.size + 1 + 1 + 1) (exX g) (exY g) hx hy h1 h2 h3 h4 h5
  have hb : Below w.heap.size w W := by rw [HW.out]; exact lthen (lthen (lthen (lthen (lthen (lthen (lthen (lone _ _) (lone _ _)) (lone _ _)) (lone _ _)) (lone _ _)) (lone _ _)) (lone _ _)) (lone _ _)
  have H := Aside.mk (And.intro hp (And.intro hb h0))
  clear h0 h1 h2 h3 h4 h5 hp hb hx hy
  rcases hg with rfl | rfl
  all_goals
    simp only [winOb, exX, exY, Win.s, Win.l, Win.p, Win.g, if_true, if_false, Int.one_ne_zero] at HW
    go_enter Tryd.func19, Tryd.ntmps19
    go_wp2_with fail
    rw [← HW.out]
    obtain ⟨hp, hb, h0⟩ := H.out
    obtain ⟨g0, g1, g2, g3, g4⟩ := lbox5 h0
    refine bodyPost_ret (v := .agg #[.int .u16 10, .slice (some ⟨w.heap.size + 1 + 1 + 1 + 1 + 1, 0, none⟩) 2 2, .slice (some ⟨w.heap.size + 1 + 1 + 1 + 1 + 1 + 1 + 1, 0, none⟩) 1 1, .slice none 0 0, .slice none 0 0]) (by simp [results, Tryd.results19, go_sem, g0, g1, g2, g3, g4]) rfl ⟨_, rfl, ⟨_, _, _, _, _, _, _, _, _, _, _, _, rfl, hp⟩, hb⟩
/-- few: some bool. -/
def BoR (w : World) (e : Ending) (w' : World) : Prop := ∃ b, e = .returned (.bool b) ∧ Below w.heap.size w w'
set_option maxHeartbeats 3200000 in
set_option maxRecDepth 100000 in
theorem few_any (w : World) (v : Value) (P : Plan) (hv : PlanV w v P) : Calls Tryd.prog 9 #[v] w (BoR w) := by
  obtain ⟨a0, n0, c0, a1, n1, c1, a2, n2, c2, a3, n3, c3, rfl, hp⟩ := hv
  obtain ⟨_, _, q, hlen⟩ := hp.cores.len
  obtain ⟨rfl, rfl, rfl⟩ : a0 = _ ∧ n0 = _ ∧ c0 = _ := by injection q with q1 q2 q3; exact ⟨q1, q2, q3⟩
  clear q
  have HC := Aside.mk hp.cores
  generalize Plan.frame P = fr at *
  generalize Plan.cores P = C at *
  obtain ⟨W1, HW⟩ : ∃ W1, Aside (W1 = w.alloc (.cells #[.int .u16 fr, .slice a0 C.length c0, .slice a1 n1 c1, .slice a2 n2 c2, .slice a3 n3 c3] 28)) := ⟨_, ⟨rfl⟩⟩
  have hb1 : Aside (Below w.heap.size w W1 ∧ W1.heap[w.heap.size]? = some (.cells #[.int .u16 fr, .slice a0 C.length c0, .slice a1 n1 c1, .slice a2 n2 c2, .slice a3 n3 c3] 28 (0, 0))) := ⟨by rw [HW.out]; exact ⟨lone _ _, heap_alloc_new _ _⟩⟩
  obtain ⟨p0, p1, p2, p3, p4⟩ := lbox5 hb1.out.2
  clear hp
  go_enter Tryd.func9, Tryd.ntmps9
  go_upto_region 1 with (fail)
  rw [← HW.out]
  go_wp2_with fail
  go_loopg [3, 4] C.length (fun q s3 i wr => ∃ (k n : Nat), k ≤ C.length ∧ k ≤ 100 ∧ n ≤ 300 * k ∧ q = C.length - k ∧ i = .int .i64 k ∧ s3 = .int .i64 n ∧ W1 = wr)
  case atStart => exact ⟨0, 0, by omega, by omega, by omega, rfl, rfl, rfl, rfl⟩
  case round =>
    obtain ⟨k, n, hk, hk1, hn, rfl, rfl, rfl, rfl⟩ := hrel
    by_cases hkl : k < C.length
    · by_cases hk2 : k < 100
      · have hl := List.getElem?_eq_getElem hkl
        obtain ⟨L, hL⟩ : ∃ L, C[k] = L := ⟨_, rfl⟩
        rw [hL] at hl
        obtain ⟨ad, lv, rfl, hlv, hwins⟩ := (HC.out.below hb1.out.1).at_ k L hl
        obtain ⟨la, lc, rfl, hlL⟩ := hwins.len
        clear hl hL hwins
        by_cases h300 : 300 < L.length
        · have h1 : (300 : Int) < (L.length : Int) := by omega
          go_wp2_with fail
          go_ret
          exact ⟨_, rfl, hb1.out.1⟩
        · have h1 : ¬ (300 : Int) < (L.length : Int) := by omega
          have hs : IntKind.i64.wrap ((n : Int) + (L.length : Int)) = ((n + L.length : Nat) : Int) := by rw [← Int.natCast_add]; exact IntWalk.i64_in _ (by omega)
          go_wp2_with fail
          go_roundg (C.length - (k + 1))
          case measure => omega
          case rel => exact ⟨k + 1, n + L.length, by omega, by omega, by omega, rfl, by go_num, rfl, rfl⟩
      · obtain rfl : k = 100 := by omega
        go_upto_region 8 with (fail)
        go_wp2_with fail
        all_goals
          go_ret
          exact ⟨_, rfl, hb1.out.1⟩
    · obtain rfl : k = C.length := by omega
      go_upto_region 8 with (fail)
      go_wp2_with fail
      all_goals
        go_ret
        exact ⟨_, rfl, hb1.out.1⟩
end Go.Proofs.YtpcjjmjmigibhaaDoor
