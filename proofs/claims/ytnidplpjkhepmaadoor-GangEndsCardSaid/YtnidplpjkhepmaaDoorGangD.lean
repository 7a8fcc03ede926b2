/- Layer 23: the members of a gang that is new; what the chapter's example fixes. -/
import Derived.Test.YtnidplpjkhepmaaDoorGangC
namespace Go.Proofs.YtnidplpjkhepmaaDoor
open Go.RowKit
set_option linter.unusedVariables false
set_option linter.unusedSimpArgs false

theorem own_kept {S : Nat → Prop} {w w' : World} {base n size : Nat} {e : TypeId} {v : Value} {xs : List Value} (h : w.ownsRow base e size v n xs) (k : Kept S w w') (hv : ∀ r, v.ownBlock = some r → ¬ S r) : w'.ownsRow base e size v n xs := by
  refine ⟨h.1, ?_⟩
  rcases h.2 with h0 | ⟨g, cap, cur, rfl, h1, h2, h3⟩
  · exact .inl h0
  · exact .inr ⟨g, cap, cur, rfl, h1, k.heap h2 (hv g rfl), h3⟩
theorem own_at {w : World} {base n : Nat} {e : TypeId} {v : Value} {xs : List Value} (h : w.ownsRow base e 1 v n xs) (j : Nat) (u : Value) (hu : xs[j]? = some u) : ∃ ad cap, v = .slice (some ad) n cap ∧ w.cell? (ad.add j) = some u := by
  rcases h.2 with ⟨_, h0⟩ | ⟨g, cap, cur, rfl, _⟩
  · have := (List.getElem?_eq_some_iff.1 hu).1
    have := h.1
    omega
  · exact ⟨_, cap, rfl, h.cells (g := g) rfl j _ hu⟩
theorem CSt.kept_ {S : Nat → Prop} {w0 w w' : World} {B G : Nat} {bs : List Nat} {ms : List Mb} {W c : Int} (s : CSt w0 w B G bs ms W c) (k : Kept S w w') (hB : ¬ S B) (hG : ¬ S G) (hbs : ∀ b ∈ bs, ¬ S b) (hS : ∀ k, S k → w0.heap.size ≤ k) : CSt w0 w' B G bs ms W c :=
  ⟨s.m.kept_ k hB hG hS, s.c0, s.len, fun i b x h1 h2 => (s.mb i b x h1 h2).kept k (hbs b (List.mem_of_getElem? h1)), s.ok, s.bOk, s.nodup⟩
def ptr (b : Nat) : Value := .pointer (some ⟨b, 0, none⟩)
/-- Members, their word, and the slice that leads to them. -/
structure GSt (w0 w : World) (B G : Nat) (v : Value) (bs : List Nat) (ms : List Mb) (W c : Int) : Prop where
  s : CSt w0 w B G bs ms W c
  row : w.ownsRow w0.heap.size 33 1 v bs.length (bs.map ptr)
  rowAt : ∀ r, v.ownBlock = some r → r ≠ B ∧ r ≠ G ∧ r ∉ bs
theorem GSt.old {w0 w w' : World} {B G : Nat} {v : Value} {bs : List Nat} {ms : List Mb} {W c : Int} (g : GSt w0 w B G v bs ms W c) (k : Below w.heap.size w w') : GSt w0 w' B G v bs ms W c :=
  ⟨g.s.old k, own_kept g.row (Kept.of_below (S := fun _ => False) k) (fun _ _ => id), g.rowAt⟩
theorem GSt.step {w0 w w' : World} {B G : Nat} {v : Value} {bs : List Nat} {ms ms' : List Mb} {W c W' c' : Int} (g : GSt w0 w B G v bs ms W c) {i b : Nat} (hb : bs[i]? = some b) (s' : CSt w0 w' B G bs ms' W' c') (k : Kept (fun k => k = b ∨ k = B ∨ k = G) w w') : GSt w0 w' B G v bs ms' W' c' := by
  refine ⟨s', own_kept g.row k (fun r hr => ?_), g.rowAt⟩
  have := g.rowAt r hr
  rintro (rfl | rfl | rfl)
  · exact this.2.2 (List.mem_of_getElem? hb)
  · exact this.1 rfl
  · exact this.2.1 rfl
theorem A_info_mp : (Tryd.prog.info? 33).map (fun i => (i.zero, i.size, i.bytes)) = some (some (.pointer none), 1, 8) := by kernel_rfl
def newMb (n : Int) : Mb := ⟨0, n, 0, 0, 0, false, false, false⟩
theorem newMb_ok (n : Int) (h : 1 ≤ n ∧ n ≤ 8) : (newMb n).Ok := ⟨rfl, h, by simp [newMb], by simp [newMb], by simp [newMb]⟩

set_option maxHeartbeats 1600000 in
theorem members_any (w : World) (hl : Look w) (n : Nat) (n1 : 1 ≤ n) (n8 : n ≤ 8) :
    Calls Tryd.prog 6 #[.int .i64 (n : Int)] w fun e w' => ∃ B G v bs, e = .returned (.tuple #[.pointer (some ⟨B, 0, none⟩), v]) ∧ GSt w w' B G v bs (List.replicate n (newMb n)) 0 0 ∧ bs.length = n := by
  have K0 := Aside.mk (new_st w w 1 (by decide) (by decide) (Below.refl _ _) hl)
  have K1 := Aside.mk (fun W => gnew_any W 0 (n : Int) (by omega) (by omega))
  have K2 := Aside.mk (newMb_ok (n : Int) ⟨by omega, by omega⟩)
  clear hl
  go_enter Tryd.func6, Tryd.ntmps6
  go_wp2_with fail
  refine K0.out.mono ?_
  rintro e w1 ⟨B, G, rfl, m1, k1, hB, hG⟩
  have m1' := Aside.mk m1
  have hB1 := lt_of_block m1.mem.obj
  have hG1 := lt_of_block m1.mem.words
  have S1 : Aside (GSt w (w1.alloc (.cells #[] 33)) B G (.slice (some ⟨w1.heap.size, 0, none⟩) 0 0) [] [] 0 0) := ⟨⟨⟨m1.old ((Below.refl _ _).alloc (Nat.le_refl _) _), by decide, rfl, by simp, by simp, by simp, by simp⟩,
    World.ownsRow_lit w1 #[] 0 m1.below.size (by decide) rfl, by simp [Value.ownBlock]; omega⟩⟩
  clear m1 k1 hB hG hB1 hG1
  go_wp2_with fail
  go_loopw [6, 7] (fun u i wr => ∃ (k : Nat) (v : Value) (bs : List Nat), k ≤ n ∧ i = .int .i64 k ∧ v = u ∧ bs.length = k ∧ Aside (GSt w wr B G v bs (List.replicate k (newMb n)) 0 0)) (fun _ i _ => n - (intOf i).toNat)
  case atStart => exact ⟨0, _, _, by omega, rfl, rfl, rfl, S1⟩
  case round =>
    obtain ⟨k, v, bs, hk, rfl, rfl, hbl, S⟩ := hrel
    by_cases hlt : k < n
    · go_wp2_with fail
      refine (K1.out wr).mono ?_
      rintro e w' ⟨rfl, rfl⟩
      have P : Aside (CSt w (wr.alloc (.cells (Mb.cells (newMb n)) 46)) B G (bs ++ [wr.heap.size]) (List.replicate k (newMb n) ++ [newMb n]) 0 0) := ⟨S.out.s.push (newMb n) K2.out⟩
      have R : Aside ((wr.alloc (.cells (Mb.cells (newMb n)) 46)).ownsRow w.heap.size 33 1 v bs.length (bs.map ptr)) := ⟨(S.out.old ((Below.refl _ _).alloc (Nat.le_refl _) _)).row⟩
      obtain ⟨W2, H2⟩ : ∃ W2, Aside (W2 = wr.alloc (.cells (Mb.cells (newMb n)) 46)) := ⟨_, ⟨rfl⟩⟩
      obtain ⟨X, HX⟩ : ∃ X, Aside (X = wr.heap.size) := ⟨_, ⟨rfl⟩⟩
      have hW2 : Aside (wr.heap.size + 1 = W2.heap.size) := ⟨by rw [H2.out]; simp⟩
      have hwr : Aside (w.heap.size ≤ W2.heap.size) := ⟨by have := S.out.s.m.below.size; have := hW2.out; omega⟩
      have e2 : wr.alloc (.cells (Mb.cells ⟨0, n, 0, 0, 0, false, false, false⟩) 46) = W2 := H2.out.symm
      rw [e2, ← HX.out]
      rw [← H2.out] at P R
      rw [← HX.out] at P
      have hb7 : bs.length + 1 ≤ 8 := by omega
      clear e2
      go_wp2_with (at_builtin; go_loud (refine append_elem w.heap.size rfl _ _ 24 33 (.pointer none) 1 8 rfl Tryd.underlying24 A_info_mp rfl (by decide) (by decide) v _ _ [.pointer (some ⟨X, 0, none⟩)] rfl rfl rfl (by simp [Value.oneCell']) R.out hwr.out (by omega) ?_))
      intro v1 w1 hown1 hg hat
      have hG1 : Aside (GSt w w1 B G v1 (bs ++ [X]) (List.replicate (k + 1) (newMb n)) 0 0) := ⟨by
        have hk : Kept (fun k => some k = v.ownBlock) W2 w1 := ⟨hg.os, hg.tape, hg.output, hg.size, fun k h1 h2 => hg.block k h1 h2⟩
        have hX := HX.out
        have hXr : ∀ r, v.ownBlock = some r → r < X := fun r hr => by rw [hX]; exact own_lt S.out.row r hr
        have hXlt : X < W2.heap.size := by have := hW2.out; omega
        have hBlt := lt_of_block P.out.m.mem.obj
        have hGlt := lt_of_block P.out.m.mem.words
        have hbl' : ∀ b ∈ bs, b < X := fun b hb => by
          rw [hX]
          obtain ⟨i, hi, rfl⟩ := List.getElem_of_mem hb
          exact lt_of_block (S.out.s.mb i bs[i] ((List.replicate k (newMb n))[i]'(by rw [S.out.s.len]; exact hi)) (List.getElem?_eq_getElem hi) (List.getElem?_eq_getElem _))
        refine ⟨?_, ?_, fun r hr => ?_⟩
        · rw [List.replicate_succ']
          exact P.out.kept_ hk (fun e => (S.out.rowAt B e.symm).1 rfl) (fun e => (S.out.rowAt G e.symm).2.1 rfl) (fun b hb e => by
            rcases List.mem_append.1 hb with h' | h'
            · exact (S.out.rowAt b e.symm).2.2 h'
            · simp at h'; subst h'; have := hXr _ e.symm; omega) (fun k e => own_base S.out.row k e.symm)
        · rw [List.map_append]
          rw [← hbl] at hown1
          simpa [ptr] using hown1
        · rcases hat with h | h
          · rw [h] at hr
            have h3 := S.out.rowAt r hr
            have := hXr r hr
            refine ⟨h3.1, h3.2.1, fun hm => ?_⟩
            rcases List.mem_append.1 hm with h' | h'
            · exact h3.2.2 h'
            · simp at h'; omega
          · rw [h] at hr
            cases hr
            refine ⟨by omega, by omega, fun hm => ?_⟩
            rcases List.mem_append.1 hm with h' | h'
            · have := hbl' _ h'; omega
            · simp at h'; omega⟩
      clear hown1 hg hat
      go_wp2_with fail
      go_roundw
      case rel => exact ⟨k + 1, v1, bs ++ [X], by omega, by go_num, rfl, by simp [hbl], hG1⟩
      case measure => simp [intOf]; omega
    · have hkn : k = n := by omega
      subst hkn
      go_wp2_with fail
      go_ret2
      exact ⟨B, G, v, bs, rfl, S.out, hbl⟩
end Go.Proofs.YtnidplpjkhepmaaDoor
