/- Paths: a plan with a channel more: append(append([]api.Channel{}, p.Channels...), c). -/
import Derived.Test.YtflkfjjfhhapkaaWot
namespace Go.Proofs.Ytflkfjjfhhapkaa
open Go.RowKit
set_option linter.unusedVariables false
set_option linter.unusedSimpArgs false

theorem own_zero (W : World) (e : TypeId) (size : Nat) : (W.alloc (.cells #[] e)).ownsRow W.heap.size e size (.slice (some ⟨W.heap.size, 0, none⟩) 0 0) 0 [] := ⟨by simp, .inr ⟨_, 0, #[], rfl, Nat.le_refl _, heap_alloc_new _ _, Nat.le_refl _, by decide, by simp, by simp⟩⟩
/-- What the first append reads. -/
theorem chans_news {w : World} {A : Option Addr} {m c : Nat} {L : List ChanR} (h : Chans w (.slice A m c) L) : L.length = m ∧ (L.flatMap ChanR.vals).length = m * 6 ∧ (0 < m → ∃ ad, A = some ad ∧ ∀ j u, (L.flatMap ChanR.vals)[j]? = some u → w.cell? (ad.add j) = some u) ∧ ∀ x ∈ L, ChanR.Ok x := by
  obtain ⟨h1, h2, h3, h4⟩ := elems_news (R := rd44.R) ChanR.vals (fun _ _ _ q => (chan_cells q).1) h
  exact ⟨h1, h2, h3, fun x q => (chan_cells (h4 x q).1).2⟩
theorem more_of {W w1 w2 : World} {L : List ChanR} {c : ChanR} {v1 v2 : Value} (hL : ∀ x ∈ L, ChanR.Ok x) (ok : ChanR.Ok c) (h1 : w1.ownsRow W.heap.size 44 6 v1 (0 + L.length) ([] ++ L.flatMap ChanR.vals))
    (g1 : (W.alloc (.cells #[] 44)).grownBy w1 (some W.heap.size)) (h2 : w2.ownsRow W.heap.size 44 6 v2 (0 + L.length + 1) ([] ++ L.flatMap ChanR.vals ++ ChanR.vals c)) (g2 : w1.grownBy w2 v1.ownBlock) :
    Below W.heap.size W w2 ∧ Chans w2 v2 (L ++ [c]) ∧ w2.ownsRow W.heap.size 44 6 v2 (L ++ [c]).length ((L ++ [c]).flatMap ChanR.vals) ∧ ∃ A k, v2 = .slice A (L.length + 1) k := by
  have B1 := bel_one W (.cells #[] 44)
  have B2 := B1.grown g1 B1.size (fun j hj => own_base (own_zero W 44 6) j hj)
  have B3 := B2.grown g2 B2.size (fun j hj => own_base h1 j hj)
  obtain ⟨A, k, e⟩ := own_len h2
  rw [Nat.zero_add] at e
  have q : w2.ownsRow W.heap.size 44 6 v2 (L ++ [c]).length ((L ++ [c]).flatMap ChanR.vals) := by
    rw [List.length_append, List.length_singleton, List.flatMap_append]
    simpa using h2
  refine ⟨B3, elems_own ChanR.vals (by decide) (base := W.heap.size) (e := 44) q (fun x hx => ⟨chan_of_vals ?_, rfl⟩), q, A, k, e⟩
  · rcases List.mem_append.1 hx with q | q
    · exact hL x q
    · rw [List.mem_singleton.1 q]; exact ok
theorem planV_withC {w : World} {fr : Int} {s0 s1 s2 s3 s2' : Value} {P : Plan} {H : List ChanR} (h : PlanV w (.agg #[.int .u16 fr, s0, s1, s2, s3]) P) (hc : Chans w s2' H) (hs : ∃ A n k, s2' = .slice A n k) : PlanV w (.agg #[.int .u16 fr, s0, s1, s2', s3]) (Plan.withC P H) := by
  obtain ⟨A, n, k, rfl⟩ := hs
  obtain ⟨_, _, _, _, _, _, _, _, _, _, _, _, e, hp⟩ := h
  injection e with e
  have e := congrArg Array.toList e
  simp at e
  obtain ⟨rfl, rfl, rfl, rfl, rfl⟩ := e
  exact ⟨_, _, _, _, _, _, _, _, _, _, _, _, rfl, hp.frame, hp.cores, hp.parts, hc, hp.pairs⟩
theorem set3_box {w : World} {Z : Nat} {x0 x1 x2 x3 x4 y : Value} {t : TypeId} (h : w.heap[Z]? = some (.cells #[x0, x1, x2, x3, x4] t (0, 0))) : (w.setCell ⟨Z, 3, none⟩ y).heap[Z]? = some (.cells #[x0, x1, x2, y, x4] t (0, 0)) := by
  have := heap_setCell_at (off := 3) h y
  simpa using this
end Go.Proofs.Ytflkfjjfhhapkaa
