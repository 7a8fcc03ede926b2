/- The rules' reference: the check's loop over channels: joined. -/
import Derived.Test.YtpcjjmjmigibhaaDoorRulE2
namespace Go.Proofs.YtpcjjmjmigibhaaDoor
open Go.RowKit
set_option linter.unusedVariables false
set_option linter.unusedSimpArgs false

theorem ckE_of_T {c : Ck} {o : Option Flt} {nm : List (Nat × Value)} {W wr : World} {e : Exit} {a : Act} (h : CkT c o nm W e a wr) (s : CkSt c W) : CkE c o nm e a wr := by
  obtain ⟨⟨m, rfl⟩, h⟩ := h
  rcases h with ⟨rfl, ho, h⟩ | ⟨rfl, r, ho, h⟩
  · exact .inl ⟨rfl, ho, h, s.drewN m⟩
  · exact .inr ⟨rfl, r, ho, h, (s.drewN m).below⟩

set_option maxRecDepth 100000 in
set_option maxHeartbeats 3200000 in
theorem ck9_body (c : Ck) (a : Act) (wr : World) (k : Nat) (hkl : k < (Plan.chans c.P).length) (hnp : (Plan.parts c.P).length ≤ 64) (S : CkS c [(19, num_ k)] a wr) :
    (pathC [0, 1, 2, 2, 1, 0, 2] (ckTail 9)).wp Tryd.prog (CkE c (chanF ((Plan.parts c.P).length : Int) (Plan.chans c.P) k) [(19, num_ k)]) a wr := by
  obtain ⟨⟨u, rfl, h19, _⟩, S⟩ := S
  have hlen : (Plan.chans c.P).length ≤ 9223372036854775807 := by
    obtain ⟨_, _, q, h⟩ := Elems.len S.plan.chans
    exact h
  have hl := List.getElem?_eq_getElem hkl
  obtain ⟨X, hX⟩ : ∃ X, (Plan.chans c.P)[k] = X := ⟨_, rfl⟩
  rw [hX] at hl
  obtain ⟨ad, had, e0, e1, e2, e3, e4, e5, ok⟩ := Chans.at_ S.plan.chans k X hl
  have hb := S.box
  have hcell : wr.cell? ⟨c.w.heap.size, 3, none⟩ = some (.slice c.v.a2 (Plan.chans c.P).length c.v.c2) := by simp [World.cell?, hb]
  have hcell2 : wr.cell? ⟨c.w.heap.size, 2, none⟩ = some (.slice c.v.a1 (Plan.parts c.P).length c.v.c1) := by simp [World.cell?, hb]
  have hbl : c.w.heap.size < wr.heap.size := lt_of_block hb
  rw [had] at hcell
  have HF : chanF ((Plan.parts c.P).length : Int) (Plan.chans c.P) k = if chanOk ((Plan.parts c.P).length : Int) X k = true then none else some (50, (k : Int)) := by unfold chanF; rw [chAt_some hl]
  rw [HF]
  clear hb had hX hl HF
  obtain ⟨W1, HW⟩ : ∃ W1, W1 = wr.alloc (.cells #[.int .u8 (ChanR.k X), .int .u8 (ChanR.f X), .int .u8 (ChanR.t X), .int .u8 (ChanR.z X), .int .u8 (ChanR.d X), .int .u16 (ChanR.y X)] 48) := ⟨_, rfl⟩
  have S1 : CkSt c W1 := by rw [HW]; exact S.old (bel_one _ _)
  have hc : ChanAt W1 wr.heap.size (ChanR.k X) (ChanR.f X) (ChanR.t X) (ChanR.z X) (ChanR.d X) (ChanR.y X) := by
    rw [HW]
    exact ⟨by simp, by simp, by simp, by simp, by simp, by simp, ok.k, ok.f, ok.t, ok.z, ok.d, ok.y⟩
  have hb2 : W1.cell? ⟨c.w.heap.size, 2, none⟩ = some (.slice c.v.a1 (Plan.parts c.P).length c.v.c1) := by rw [HW, World.cell?_alloc_past _ _ _ hbl]; exact hcell2
  refine wp_seq (x := pathC [0, 1, 2, 2, 1, 0, 2, 0] (ckTail 9)) (y := pathC [0, 1, 2, 2, 1, 0, 2, 1] (ckTail 9)) (wp_then (CkC c [(19, num_ k), (20, ptr_ wr.heap.size)] W1) ?_ ?_)
  · rw [HW]
    clear HW S1 hc hb2 S ok
    unfold ckF
    rw [h19]
    clear h19
    conv => arg 2; whnf
    go_wp2_with fail
    exact CkC.mk (CkFr.mk rfl rfl rfl rfl rfl rfl ⟨rfl, rfl, trivial⟩)
  · intro a1 w1 h1
    refine wp_seq (x := pathC [0, 1, 2, 2, 1, 0, 2, 1, 0] (ckTail 9)) (y := pathC [0, 1, 2, 2, 1, 0, 2, 1, 1] (ckTail 9)) (wp_then _ (ck9_q c a1 W1 w1 wr.heap.size k _ _ _ _ _ _ hc _ h1 (queueB X) rfl) ?_)
    intro a2 w2 h2
    refine wp_seq (x := pathC [0, 1, 2, 2, 1, 0, 2, 1, 1, 0] (ckTail 9)) (y := pathC [0, 1, 2, 2, 1, 0, 2, 1, 1, 1] (ckTail 9)) (wp_then _ (ck9_s c a2 W1 w2 wr.heap.size k _ _ _ _ _ _ hc _ (queueB X) h2 (sampleB X) rfl) ?_)
    intro a3 w3 h3
    exact wp_mono (ck9_t c a3 W1 w3 wr.heap.size k (Plan.parts c.P).length _ _ hb2 hnp (by omega) _ _ _ _ _ _ hc (queueB X) (sampleB X) h3 (chanOk ((Plan.parts c.P).length : Int) X k) rfl _ ⟨rfl⟩) fun e a' w' q => ckE_of_T q S1

set_option maxRecDepth 100000 in
set_option maxHeartbeats 3200000 in
theorem ck_9 (c : Ck) (a : Act) (wi : World) (hnp : (Plan.parts c.P).length ≤ 64) (S : CkS c [] a wi) : (pathC [0] (ckTail 9)).wp Tryd.prog (CkE c (scan (chanF ((Plan.parts c.P).length : Int) (Plan.chans c.P)) (Plan.chans c.P).length) []) a wi := by
  obtain ⟨⟨u, rfl, _⟩, S⟩ := S
  unfold ckF
  conv => arg 2; whnf
  have hlen : (Plan.chans c.P).length ≤ 9223372036854775807 := by
    obtain ⟨_, _, q, h⟩ := Elems.len S.plan.chans
    exact h
  have HS := Aside.mk S
  clear S
  go_wp2_with fail
  refine wp_loop_fuel (CkI c (fun k => [(19, num_ k)]) (Plan.chans c.P).length (chanF ((Plan.parts c.P).length : Int) (Plan.chans c.P))) (Plan.chans c.P).length (CkI.start (CkFr.mk rfl rfl rfl rfl rfl rfl ⟨rfl, trivial⟩) HS.out) ?_
  clear HS
  rintro m a wr ⟨k, hk, rfl, hF, ⟨u, rfl, h19, _⟩, S⟩
  unfold ckF
  rw [h19]
  have hb := S.box
  have hcell : wr.cell? ⟨c.w.heap.size, 3, none⟩ = some (.slice c.v.a2 (Plan.chans c.P).length c.v.c2) := by simp [World.cell?, hb]
  clear hb h19
  have S0 := Aside.mk S
  have F0 := Aside.mk hF
  clear S hF
  by_cases hkl : k < (Plan.chans c.P).length
  · go_upto_block 19 with fail
    refine wp_block (wp_mono (ck9_body c _ wr k hkl hnp ⟨CkFr.mk rfl rfl rfl rfl rfl rfl ⟨rfl, trivial⟩, S0.out⟩) fun e a' w' q => ?_)
    rcases CkE.of (nm' := []) q (fun r hr => scan_some F0.out hr hkl) with ⟨rfl, q2⟩ | ⟨rfl, hf, ⟨u', rfl, h19, _⟩, S⟩
    · exact q2
    · unfold ckF
      rw [h19]
      have Hf := Aside.mk hf
      have S1 := Aside.mk S
      clear hf S q h19
      go_wp2_with fail
      exact CkI.lower hkl F0.out Hf.out (CkFr.mk rfl rfl rfl rfl rfl rfl ⟨rfl, trivial⟩) S1.out
  · obtain rfl : k = (Plan.chans c.P).length := by omega
    go_wp2_with fail
    exact CkE.go F0.out (CkFr.mk rfl rfl rfl rfl rfl rfl trivial) S0.out
end Go.Proofs.YtpcjjmjmigibhaaDoor
