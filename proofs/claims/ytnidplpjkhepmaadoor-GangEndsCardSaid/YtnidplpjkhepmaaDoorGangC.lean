/- Layer 23: members of one gang, and its word. -/
import Derived.Test.YtnidplpjkhepmaaDoorGangB
namespace Go.Proofs.YtnidplpjkhepmaaDoor
open Go.RowKit
set_option linter.unusedVariables false
set_option linter.unusedSimpArgs false

theorem beginS_ok {x : Mb} (h : x.Ok) (r : Int) (r0 : 0 ≤ r) : (beginS x r).Ok := by
  unfold beginS
  split
  · rename_i hb
    exact ⟨h.a, h.n, by simp, ⟨r0, Int.lt_of_le_of_lt hb.1 (by decide)⟩, by simp⟩
  · exact h
theorem lookS_ok {x : Mb} (h : x.Ok) (W : Int) (W0 : 0 ≤ W) (W1 : W < 4294967296) : (lookS x W).Ok := by
  have hp := h.ph
  unfold lookS
  split
  · exact ⟨h.a, h.n, by simp, h.rd, h.wd⟩
  · split
    · exact ⟨h.a, h.n, by simp, h.rd, ⟨W0, W1⟩⟩
    · split
      · exact ⟨h.a, h.n, by simp, h.rd, h.wd⟩
      · exact h
theorem stepX_ok {x : Mb} (h : x.Ok) (W : Int) (W0 : 0 ≤ W) (W1 : W < 4294967296) : (stepX x W).Ok := by
  unfold stepX
  split
  · split
    · exact ⟨h.a, h.n, by simp, h.rd, h.wd⟩
    · exact ⟨h.a, h.n, by simp, h.rd, h.wd⟩
  · split
    · exact lookS_ok h W W0 W1
    · exact h

/-- Members in blocks of the call's own, and their word. -/
structure CSt (w0 w : World) (B G : Nat) (bs : List Nat) (ms : List Mb) (W c : Int) : Prop where
  m : MSt w0 w B G [W] c
  c0 : 0 ≤ c
  len : ms.length = bs.length
  mb : ∀ (i : Nat) (b : Nat) (x : Mb), bs[i]? = some b → ms[i]? = some x → MbAt w b x
  ok : ∀ x ∈ ms, x.Ok
  bOk : ∀ b ∈ bs, w0.heap.size ≤ b ∧ b ≠ B ∧ b ≠ G
  nodup : bs.Nodup
theorem CSt.W0 {w0 w : World} {B G : Nat} {bs : List Nat} {ms : List Mb} {W c : Int} (s : CSt w0 w B G bs ms W c) : 0 ≤ W ∧ W < 4294967296 := s.m.mem.range W (by simp)
theorem CSt.old {w0 w w' : World} {B G : Nat} {bs : List Nat} {ms : List Mb} {W c : Int} (s : CSt w0 w B G bs ms W c) (k : Below w.heap.size w w') : CSt w0 w' B G bs ms W c :=
  ⟨s.m.old k, s.c0, s.len, fun i b x h1 h2 => (s.mb i b x h1 h2).below k, s.ok, s.bOk, s.nodup⟩
theorem CSt.upd {w0 w w' : World} {B G : Nat} {bs : List Nat} {ms : List Mb} {W c W' c' : Int} (s : CSt w0 w B G bs ms W c) {i b : Nat} {x' : Mb} (hb : bs[i]? = some b) (ok' : x'.Ok) (m' : MSt w0 w' B G [W'] c') (c0' : 0 ≤ c') (hx : MbAt w' b x')
    (k : Kept (fun k => k = b ∨ k = B ∨ k = G) w w') : CSt w0 w' B G bs (ms.set i x') W' c' := by
  refine ⟨m', c0', by simp [s.len], fun j b2 x2 h1 h2 => ?_, fun y hy => ?_, s.bOk, s.nodup⟩
  · have hil : i < bs.length := (List.getElem?_eq_some_iff.1 hb).1
    by_cases e : i = j
    · subst e
      rw [hb] at h1
      cases h1
      rw [List.getElem?_set_self (by rw [s.len]; exact hil)] at h2
      cases h2
      exact hx
    · rw [List.getElem?_set_ne e] at h2
      have hne : b2 ≠ b := by
        intro q
        subst q
        exact e ((List.getElem?_inj hil s.nodup).1 (hb.trans h1.symm))
      have := s.bOk b2 (List.mem_of_getElem? h1)
      exact (s.mb j b2 x2 h1 h2).kept k (by omega)
  · rcases List.mem_or_eq_of_mem_set hy with h | rfl
    · exact s.ok y h
    · exact ok'

section
variable {w0 w : World} {B G : Nat} {bs : List Nat} {ms : List Mb} {W c : Int} (s : CSt w0 w B G bs ms W c) (i b : Nat) (x : Mb) (hb : bs[i]? = some b) (hx : ms[i]? = some x)
include s hb hx
theorem step_c (c1 : c < 4611686018427387904) : Calls Tryd.prog 9 #[.pointer (some ⟨b, 0, none⟩), .pointer (some ⟨B, 0, none⟩)] w fun e w' => e = .returned (.bool ((stepX x W).ph == 0)) ∧ ∃ c', c' ≤ c + 1 ∧ CSt w0 w' B G bs (ms.set i (stepX x W)) (stepW x W) c' ∧ Kept (fun k => k = b ∨ k = B ∨ k = G) w w' := by
  have h1 := s.bOk b (List.mem_of_getElem? hb)
  have h2 := s.ok x (List.mem_of_getElem? hx)
  refine (step_any w0 w B G b W c x s.m (s.mb i b x hb hx) h2 h1.2 h1.1 s.c0 c1).mono ?_
  rintro e w' ⟨rfl, ⟨c', a1, a2, m⟩, mb, k⟩
  exact ⟨rfl, c', a2, s.upd hb (stepX_ok h2 W s.W0.1 s.W0.2) m (by have := s.c0; omega) mb k, k⟩
theorem begin_c (r : Int) (r0 : 0 ≤ r) (r1 : r < 4294967296) : Calls Tryd.prog 8 #[.pointer (some ⟨b, 0, none⟩), .int .u32 r] w fun e w' => e = .returned (.int .i64 (beginE x r)) ∧ CSt w0 w' B G bs (ms.set i (beginS x r)) W c ∧ Kept (fun k => k = b ∨ k = B ∨ k = G) w w' := by
  have h1 := s.bOk b (List.mem_of_getElem? hb)
  have h2 := s.ok x (List.mem_of_getElem? hx)
  refine (begin_any w b x (s.mb i b x hb hx) r r0 r1).mono ?_
  rintro e w' ⟨rfl, mb, k⟩
  have k' := k.mono (T := fun k => k = b ∨ k = B ∨ k = G) (fun k e => .inl e)
  exact ⟨rfl, s.upd hb (beginS_ok h2 r r0) (s.m.kept_ k (fun e => h1.2.1 e.symm) (fun e => h1.2.2 e.symm) (fun k e => by subst e; exact h1.1)) s.c0 mb k', k'⟩
theorem came_c : Calls Tryd.prog 10 #[.pointer (some ⟨b, 0, none⟩)] w fun e w' => e = .returned (.bool x.came) ∧ w = w' := came_any w b x (s.mb i b x hb hx)
theorem entered_c : Calls Tryd.prog 11 #[.pointer (some ⟨b, 0, none⟩)] w fun e w' => e = .returned (.bool x.entered) ∧ w = w' := entered_any w b x (s.mb i b x hb hx)
theorem missed_c : Calls Tryd.prog 12 #[.pointer (some ⟨b, 0, none⟩)] w fun e w' => e = .returned (.bool x.missed) ∧ w = w' := missed_any w b x (s.mb i b x hb hx)
end
/-- One member more. -/
theorem CSt.push {w0 w : World} {B G : Nat} {bs : List Nat} {ms : List Mb} {W c : Int} (s : CSt w0 w B G bs ms W c) (x : Mb) (ok : x.Ok) : CSt w0 (w.alloc (.cells x.cells 46)) B G (bs ++ [w.heap.size]) (ms ++ [x]) W c := by
  have hB := lt_of_block s.m.mem.obj
  have hG := lt_of_block s.m.mem.words
  have hlt : ∀ b ∈ bs, b < w.heap.size := fun b hb => by
    obtain ⟨i, hi, rfl⟩ := List.getElem_of_mem hb
    exact lt_of_block (s.mb i bs[i] (ms[i]'(by rw [s.len]; exact hi)) (List.getElem?_eq_getElem hi) (List.getElem?_eq_getElem _))
  have h := s.old ((Below.refl _ _).alloc (Nat.le_refl _) (.cells x.cells 46))
  refine ⟨h.m, h.c0, by simp [s.len], fun i b y h1 h2 => ?_, fun y hy => ?_, fun b hb => ?_, ?_⟩
  · by_cases hi : i < bs.length
    · rw [List.getElem?_append_left hi] at h1
      rw [List.getElem?_append_left (by rw [s.len]; exact hi)] at h2
      exact h.mb i b y h1 h2
    · rw [List.getElem?_append_right (by omega)] at h1
      rw [List.getElem?_append_right (by rw [s.len]; omega), s.len] at h2
      rcases hk : i - bs.length with _ | k
      · rw [hk] at h1 h2
        simp at h1 h2
        subst h1 h2
        exact heap_alloc_new _ _
      · rw [hk] at h1
        simp at h1
  · rcases List.mem_append.1 hy with h' | h'
    · exact s.ok y h'
    · simp at h'; subst h'; exact ok
  · rcases List.mem_append.1 hb with h' | h'
    · exact s.bOk b h'
    · simp at h'
      subst h'
      exact ⟨s.m.below.size, by omega, by omega⟩
  · rw [List.nodup_append]
    refine ⟨s.nodup, by simp, fun a ha b hb => ?_⟩
    simp at hb
    subst hb
    have := hlt a ha
    omega
end Go.Proofs.YtnidplpjkhepmaaDoor
