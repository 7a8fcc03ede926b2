/- Plans of bytes: Decode. -/
import Derived.Test.YtbphlapdhcgikaaDoorDecD
import Derived.Test.YtbphlapdhcgikaaDoorErrB
namespace Go.Proofs.YtbphlapdhcgikaaDoor
open Go.RowKit
set_option linter.unusedVariables false
set_option linter.unusedSimpArgs false

theorem RowsR.elems {α : Type} {lo : Nat} {e : TypeId} {size : Nat} {E R : World → List Value → α → Prop} {w : World} {v : Value} {xs : List α} {css : List (List Value)} (h : RowsR lo e size E w v xs css) (hs : 0 < size) (hR : ∀ cs x, E w cs x → R w cs x) : Elems w size R v xs := by
  have hl : ∀ cs ∈ css, cs.length = size := fun cs hc => by
    obtain ⟨i, hi, rfl⟩ := List.getElem_of_mem hc
    exact (h.el i _ _ (List.getElem?_eq_getElem hi) (List.getElem?_eq_getElem (by rw [← h.len]; exact hi))).2
  have hf : css.flatten = css.flatMap id := by simp [List.flatMap]
  rcases h.own.2 with ⟨rfl, h0⟩ | ⟨g, cap, cur, rfl, _, _, h3, h4, _⟩
  · refine ⟨none, 0, ?_, by omega, by omega, fun hp => by omega⟩
    rw [h0]
  · refine ⟨_, cap, rfl, h3, by simpa [maxLen] using h4, fun hp => ⟨_, rfl, fun i hi => ?_⟩⟩
    have hi' : i < css.length := by rw [h.len]; exact hi
    have he := h.el i _ _ (List.getElem?_eq_getElem hi') (List.getElem?_eq_getElem hi)
    refine ⟨css[i], he.2, fun j hj => ?_, hR _ _ he.1⟩
    have hjl : j < css[i].length := by rw [he.2]; exact hj
    rw [List.getElem?_eq_getElem hjl]
    refine h.own.cells (g := g) rfl _ _ ?_
    rw [hf, flatMap_get' (n := size) id css hl i hi' j hj, id, List.getElem?_eq_getElem hjl]
theorem wf_u8' {z : Int} (h : 0 ≤ z ∧ z ≤ 255) : (Lit.int .u8 z).wf = true := by simp [Lit.wf, IntKind.min, IntKind.max, IntKind.signed, IntKind.bits]; omega
theorem wf_u16' {z : Int} (h : 0 ≤ z ∧ z ≤ 65535) : (Lit.int .u16 z).wf = true := by simp [Lit.wf, IntKind.min, IntKind.max, IntKind.signed, IntKind.bits]; omega
theorem win_of_E {w : World} {cs : List Value} {x : Win} (h : E_win w cs x) : rd51.R w cs x := by
  obtain ⟨rfl, ok⟩ := h
  obtain ⟨s, l, p, g, u⟩ := x
  obtain ⟨h1, h2, h3, h4⟩ := ok
  exact ⟨[.int .u16 s], _, rfl, ⟨rfl, wf_u16' h1⟩, [.int .u16 l], _, rfl, ⟨rfl, wf_u16' h2⟩, [.int .u8 p], _, rfl, ⟨rfl, wf_u8' h3⟩, [.int .u8 g], _, rfl, ⟨rfl, wf_u8' h4⟩, rfl⟩
theorem sem_of_E {w : World} {cs : List Value} {x : SemR} (h : E_sem w cs x) : rd58.R w cs x := by
  obtain ⟨rfl, ok⟩ := h
  obtain ⟨s, l, u⟩ := x
  obtain ⟨h1, h2⟩ := ok
  exact ⟨[.int .u8 s], _, rfl, ⟨rfl, wf_u8' h1⟩, [.int .u8 l], _, rfl, ⟨rfl, wf_u8' h2⟩, rfl⟩
theorem pair_of_E {w : World} {cs : List Value} {x : PairR} (h : E_pair w cs x) : rd62.R w cs x := by
  obtain ⟨rfl, ok⟩ := h
  obtain ⟨s, l, u⟩ := x
  obtain ⟨h1, h2⟩ := ok
  exact ⟨[.int .u8 s], _, rfl, ⟨rfl, wf_u8' h1⟩, [.int .u8 l], _, rfl, ⟨rfl, wf_u8' h2⟩, rfl⟩
theorem chan_of_E {w : World} {cs : List Value} {x : ChanR} (h : E_chan w cs x) : rd60.R w cs x := by
  obtain ⟨rfl, ok⟩ := h
  obtain ⟨k, f, t, z, d, y, u⟩ := x
  obtain ⟨h1, h2, h3, h4, h5, h6⟩ := ok
  exact ⟨[.int .u8 k], _, rfl, ⟨rfl, wf_u8' h1⟩, [.int .u8 f], _, rfl, ⟨rfl, wf_u8' h2⟩, [.int .u8 t], _, rfl, ⟨rfl, wf_u8' h3⟩, [.int .u8 z], _, rfl, ⟨rfl, wf_u8' h4⟩, [.int .u8 d], _, rfl, ⟨rfl, wf_u8' h5⟩, [.int .u16 y], _, rfl, ⟨rfl, wf_u16' h6⟩, rfl⟩
theorem core_of_E {Z : Nat} {w : World} {cs : List Value} {L : List Win} (h : E_core Z w cs L) : rd49.R w cs L := by
  obtain ⟨u, css, lo, rfl, _, hr⟩ := h
  exact ⟨u, rfl, hr.elems (by decide) (fun _ _ q => win_of_E q)⟩
theorem part_of_E {Z : Nat} {w : World} {cs : List Value} {x : PartR} (h : E_part Z w cs x) : rd56.R w cs x := by
  obtain ⟨sv, pv, css, dss, lo, rfl, _, h1, h2, h3, h4, h5, h6, h7⟩ := h
  exact part_of_cells ⟨h1.elems (by decide) (fun _ _ q => sem_of_E q), h2.elems (by decide) (fun _ _ q => ⟨q.1, wf_u8' q.2⟩), h3, h4, h5, h6, h7⟩
end Go.Proofs.YtbphlapdhcgikaaDoor
