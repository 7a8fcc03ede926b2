/- A plan that lies in memory has numbers in their ranges; how long its bytes are. -/
import Derived.Test.YtbphlapdhcgikaaDoorRtQ
import Derived.Test.YtbphlapdhcgikaaDoorLxC
namespace Go.Proofs.YtbphlapdhcgikaaDoor
open Go.RowKit
set_option linter.unusedVariables false
set_option linter.unusedSimpArgs false

theorem mem_at {α : Type} {L : List α} {x : α} (h : x ∈ L) : ∃ i : Nat, L[i]? = some x := by
  obtain ⟨i, hi, e⟩ := List.getElem_of_mem h
  exact ⟨i, by rw [List.getElem?_eq_getElem hi, e]⟩
theorem planD_of {w : World} {v : Value} {P : Plan} (hv : PlanV w v P) (hs : Short P) : PlanD P := by
  obtain ⟨a0, c0, a1, c1, a2, c2, a3, c3, rfl, hp, hlen⟩ := hv.open_
  refine ⟨hp.frame, ⟨hs.c, fun L hL => ⟨hs.cs L hL, fun x hx => ?_⟩⟩, ⟨hs.a, fun x hx => ?_⟩, ⟨hs.h, fun x hx => ?_⟩, ⟨hs.q, fun x hx => ?_⟩⟩
  · obtain ⟨i, hi⟩ := mem_at hL
    obtain ⟨ad, v, _, _, hw⟩ := hp.cores.at_ i L hi
    obtain ⟨a, cap, rfl, _⟩ := hw.len
    obtain ⟨k, hk⟩ := mem_at hx
    obtain ⟨_, _, _, _, _, _, ok⟩ := hw.at_ k x hk
    exact ok
  · obtain ⟨i, hi⟩ := mem_at hx
    obtain ⟨ad, sv, pv, _, _, _, _, _, _, _, hq⟩ := Parts.at_ hp.parts i x hi
    refine ⟨⟨hs.ss x hx, fun y hy => ?_⟩, hq.ev, ⟨hs.ps x hx, fun y hy => ?_⟩, hq.len, hq.a0, hq.a1, hq.a2⟩
    · obtain ⟨a, cap, e, _⟩ := Elems.len hq.sems
      have hs' := hq.sems
      rw [e] at hs'
      obtain ⟨k, hk⟩ := mem_at hy
      obtain ⟨_, _, _, _, ok⟩ := Sems.at_ hs' k y hk
      exact ⟨ok.i, ok.m⟩
    · obtain ⟨a, cap, e, _⟩ := Elems.len hq.procs
      have hs' := hq.procs
      rw [e] at hs'
      obtain ⟨k, hk⟩ := mem_at hy
      obtain ⟨_, _, _, ok⟩ := Bytes8.at_ hs' k y hk
      exact ok
  · obtain ⟨i, hi⟩ := mem_at hx
    obtain ⟨_, _, _, _, _, _, _, _, ok⟩ := Chans.at_ hp.chans i x hi
    exact ⟨ok.k, ok.f, ok.t, ok.z, ok.d, ok.y⟩
  · obtain ⟨i, hi⟩ := mem_at hx
    obtain ⟨_, _, _, _, ok⟩ := Pairs.at_ hp.pairs i x hi
    exact ⟨ok.a, ok.b⟩
theorem flat_len {α : Type} (f : α → List Int) (m : Nat) (L : List α) (h : ∀ x ∈ L, (f x).length ≤ m) : (L.flatMap f).length ≤ L.length * m := by
  induction L with
  | nil => simp
  | cons a L ih =>
    rw [List.flatMap_cons, List.length_append, List.length_cons, Nat.add_mul]
    have := h a (by simp)
    have := ih fun x hx => h x (by simp [hx])
    omega
theorem enc_len {P : Plan} (h : PlanD P) : (encL P).length ≤ 200000000 ∧ 10 ≤ (encL P).length := by
  have h1 := flat_len coreB 393212 (Plan.cores P) fun L hL => by
    have := flat_len winB 6 L fun x hx => by simp [winB]
    have := (h.c.2 L hL).len
    simp only [coreB, twoB, List.length_append, List.length_cons, List.length_nil]
    omega
  have h2 := flat_len partB 1000 (Plan.parts P) fun x hx => by
    have := flat_len semB 2 (PartR.sems x) fun x hx => by simp [semB]
    have := (h.a.2 x hx).sems.1
    have := (h.a.2 x hx).procs.1
    simp only [partB, List.length_append, List.length_cons, List.length_nil]
    omega
  have h3 := flat_len chanB 7 (Plan.chans P) fun x hx => by simp [chanB]
  have h4 := flat_len pairB 2 (Plan.pairs P) fun x hx => by simp [pairB]
  have := h.c.1
  have := h.a.1
  have := h.h.1
  have := h.q.1
  have e : (encL P).length = 10 + ((Plan.cores P).flatMap coreB).length + ((Plan.parts P).flatMap partB).length + ((Plan.chans P).flatMap chanB).length + ((Plan.pairs P).flatMap pairB).length := by
    simp only [encL, hdrB, twoB, List.length_append, List.length_cons, List.length_nil]
  rw [e]
  omega
def isByte (x : Int) : Prop := 0 ≤ x ∧ x ≤ 255
theorem two_byte {n : Int} (h : D2 n) : ∀ x ∈ twoB n, isByte x := by
  obtain ⟨h1, h2⟩ := h
  intro x hx
  simp only [twoB, List.mem_cons, List.not_mem_nil, or_false] at hx
  rcases hx with rfl | rfl <;> unfold isByte <;> omega
theorem flat_byte {α : Type} (f : α → List Int) (L : List α) (h : ∀ x ∈ L, ∀ y ∈ f x, isByte y) : ∀ y ∈ L.flatMap f, isByte y := fun y hy => by
  obtain ⟨x, hx, q⟩ := List.mem_flatMap.1 hy
  exact h x hx y q
theorem enc_byte {P : Plan} (h : PlanD P) : ∀ x ∈ encL P, 0 ≤ x ∧ x ≤ 255 := by
  have w2 : ∀ n : Int, 0 ≤ n → n ≤ 65535 → isByte (n / 256) ∧ isByte (n % 256) := fun n h0 h1 => by unfold isByte; omega
  have h1 := flat_byte coreB (Plan.cores P) fun L hL y hy => by
    rcases List.mem_append.1 hy with q | q
    · exact two_byte ⟨by omega, by have := (h.c.2 L hL).len; omega⟩ y q
    · refine flat_byte winB L (fun x hx z hz => ?_) y q
      have ok := (h.c.2 L hL).all x hx
      obtain ⟨a1, a2⟩ := w2 _ ok.s.1 ok.s.2
      obtain ⟨b1, b2⟩ := w2 _ ok.l.1 ok.l.2
      simp only [winB, List.mem_cons, List.not_mem_nil, or_false] at hz
      rcases hz with rfl | rfl | rfl | rfl | rfl | rfl
      all_goals first | exact a1 | exact a2 | exact b1 | exact b2 | exact ok.p | exact ok.g
  have h2 := flat_byte partB (Plan.parts P) fun x hx y hy => by
    have ok := h.a.2 x hx
    have l1 := ok.sems.1
    have l2 := ok.procs.1
    rcases List.mem_append.1 hy with q | q
    · rcases List.mem_append.1 q with q | q
      · rcases List.mem_append.1 q with q | q
        · rcases List.mem_append.1 q with q | q
          · rw [List.mem_singleton.1 q]; unfold isByte; omega
          · refine flat_byte semB _ (fun z hz u hu => ?_) y q
            have := ok.sems.2 z hz
            simp only [semB, List.mem_cons, List.not_mem_nil, or_false] at hu
            rcases hu with rfl | rfl
            all_goals first | exact this.i | exact this.m
        · simp only [List.mem_cons, List.not_mem_nil, or_false] at q
          rcases q with rfl | rfl
          · exact ok.ev
          · unfold isByte; omega
      · exact ok.procs.2 y q
    · simp only [List.mem_cons, List.not_mem_nil, or_false] at q
      rcases q with rfl | rfl | rfl
      all_goals first | exact ok.a0 | exact ok.a1 | exact ok.a2
  have h3 := flat_byte chanB (Plan.chans P) fun x hx y hy => by
    have ok := h.h.2 x hx
    obtain ⟨a1, a2⟩ := w2 _ ok.y.1 ok.y.2
    simp only [chanB, List.mem_cons, List.not_mem_nil, or_false] at hy
    rcases hy with rfl | rfl | rfl | rfl | rfl | rfl | rfl
    all_goals first | exact ok.k | exact ok.f | exact ok.t | exact ok.z | exact ok.d | exact a1 | exact a2
  have h4 := flat_byte pairB (Plan.pairs P) fun x hx y hy => by
    have ok := h.q.2 x hx
    simp only [pairB, List.mem_cons, List.not_mem_nil, or_false] at hy
    rcases hy with rfl | rfl
    all_goals first | exact ok.a | exact ok.b
  have h0 : ∀ y ∈ hdrB P, isByte y := fun y hy => by
    obtain ⟨c1, c2⟩ := w2 _ h.fr.1 h.fr.2
    have := h.c.1
    have := h.a.1
    have := h.h.1
    have := h.q.1
    simp only [hdrB, twoB, List.mem_append, List.mem_cons, List.not_mem_nil, or_false] at hy
    rcases hy with ((rfl | rfl | rfl | rfl) | rfl | rfl) | rfl | rfl | rfl | rfl
    all_goals first | exact c1 | exact c2 | (unfold isByte; omega)
  intro x hx
  rcases List.mem_append.1 hx with q | q
  · rcases List.mem_append.1 q with q | q
    · rcases List.mem_append.1 q with q | q
      · rcases List.mem_append.1 q with q | q
        · exact h0 x q
        · exact h1 x q
      · exact h2 x q
    · exact h3 x q
  · exact h4 x q
end Go.Proofs.YtbphlapdhcgikaaDoor
