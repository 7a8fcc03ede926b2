/- The program's rules: pairs, and whether windows of two partitions clash. -/
import Derived.Test.YtpcjjmjmigibhaaDoorChkD
import Derived.Test.YtpcjjmjmigibhaaDoorChkQ
namespace Go.Proofs.YtpcjjmjmigibhaaDoor
open Go.RowKit
set_option linter.unusedVariables false
set_option linter.unusedSimpArgs false

set_option maxHeartbeats 1600000 in
theorem pairs_any (w : World) (v : Value) (P : Plan) (hv : PlanV w v P) (hC8 : (Plan.cores P).length ≤ 8) (hC256 : ∀ L ∈ Plan.cores P, L.length ≤ 256) :
    Calls Tryd.prog 23 #[v] w (ErrR w (eachF (pairsN (Plan.cores P)) (Plan.cores P))) := by
  have hv0 := hv
  obtain ⟨a0, n0, c0, a1, n1, c1, a2, n2, c2, a3, n3, c3, rfl, hp⟩ := hv
  obtain ⟨_, _, q, hlen⟩ := hp.cores.len
  obtain ⟨rfl, rfl, rfl⟩ : a0 = _ ∧ n0 = _ ∧ c0 = _ := by injection q with q1 q2 q3; exact ⟨q1, q2, q3⟩
  clear q
  obtain ⟨W1, HW⟩ : ∃ W1, Aside (W1 = w.alloc (.cells #[.int .u16 (Plan.frame P), .slice a0 (Plan.cores P).length c0, .slice a1 n1 c1, .slice a2 n2 c2, .slice a3 n3 c3] 28)) := ⟨_, ⟨rfl⟩⟩
  have hb1 : Below w.heap.size w W1 ∧ W1.heap[w.heap.size]? = some (.cells #[.int .u16 (Plan.frame P), .slice a0 (Plan.cores P).length c0, .slice a1 n1 c1, .slice a2 n2 c2, .slice a3 n3 c3] 28 (0, 0)) := by rw [HW.out]; exact ⟨lone _ _, heap_alloc_new _ _⟩
  have K := Aside.mk (each_any W1 _ P (hv0.below hb1.1) hC8 hC256 39 #[.pointer (some ⟨w.heap.size, 0, none⟩)] callFunc_f2 (pairsN (Plan.cores P))
    (fun c i L x W hc hi ok hB => pair1_any W1 P a0 c0 _ _ _ _ hC8 hC256 (hp.cores.below hb1.1) w.heap.size c i L x W hc hi ok hB (lup hB hb1.2)))
  obtain ⟨p0, p1, p2, p3, p4⟩ := lbox5 hb1.2
  have HB := Aside.mk hb1.1
  clear hp hv0 hb1 hC8 hC256
  go_enter Tryd.func23, Tryd.ntmps23
  go_upto_region 1 with (fail)
  rw [← HW.out]
  go_wp2_with fail
  refine K.out.mono ?_
  rintro e w2 ⟨r, rfl, hr, b2⟩
  have HR := Aside.mk (And.intro hr (lthen HB.out b2))
  clear hr b2
  go_wp2_with fail
  go_ret
  exact ⟨_, rfl, HR.out.1, HR.out.2⟩
/-! ### Clashes -/
theorem callFunc_f3 (args : Array Value) (w : World) : (callFunc 48 args).run Tryd.prog w = .ok (.enter 48 args) w := by kernel_rfl
theorem callFunc_f4 (args : Array Value) (w : World) : (callFunc 49 args).run Tryd.prog w = .ok (.enter 49 args) w := by kernel_rfl
theorem callFunc_f5 (args : Array Value) (w : World) : (callFunc 47 args).run Tryd.prog w = .ok (.enter 47 args) w := by kernel_rfl
def winOb (x : Win) : Obj := .cells #[.int .u16 (Win.s x), .int .u16 (Win.l x), .int .u8 (Win.p x), .int .u8 (Win.g x)] 39 (0, 0)
def pairOb (x : PairR) : Obj := .cells #[.int .u8 (PairR.a x), .int .u8 (PairR.b x)] 45 (0, 0)
set_option maxHeartbeats 1600000 in
theorem clash3_any (q : PairR) (v x : Win) (okv : Win.Ok v) (ok : Win.Ok x) (c i : Int) (PB VB : Nat) (W : World) (hq : W.heap[PB]? = some (pairOb q)) (hv : W.heap[VB]? = some (winOb v)) :
    Calls Tryd.prog 48 #[.int .i64 c, .int .i64 i, Win.val x, .pointer (some ⟨PB, 0, none⟩), .pointer (some ⟨VB, 0, none⟩)] W fun e W' => e = .returned (.int .i64 (meetN (PairR.b q) v x)) ∧ Below W.heap.size W W' := by
  have hx := lkeep (lone W (winOb x))
  obtain ⟨q0, q1⟩ := lbox2 (lup (lone W (winOb x)) hq)
  obtain ⟨v0, v1, v2, v3⟩ := lbox4 (lup (lone W (winOb x)) hv)
  have KO := Aside.mk (poverlap_any v x okv ok (W.alloc (winOb x)))
  obtain ⟨ob, hob⟩ : ∃ ob, overlapS v x = ob := ⟨_, rfl⟩
  obtain ⟨b, hb⟩ : ∃ b, PairR.b q = b := ⟨_, rfl⟩
  rw [hob] at KO
  rw [hb] at q1 ⊢
  have HM : Aside (meetN b v x = if Win.p x = b ∧ ob = true then 49 else 0) := ⟨by rw [meetN, hob]⟩
  clear hx hq hv hob hb
  unfold Win.val winOb at *
  generalize Win.p x = xp at *
  by_cases h : xp = b
  · cases ob
    · have HV := Aside.mk (HM.out.trans (if_neg (by simp)))
      subst h
      go_enter Tryd.func48, Tryd.ntmps48
      go_wp2_with fail
      refine KO.out.mono ?_
      rintro e w2 ⟨rfl, b2⟩
      have B2 := Aside.mk (lthen (lone _ _) b2)
      clear b2
      go_wp2_with fail
      go_ret
      exact ⟨by rw [HV.out]; rfl, B2.out⟩
    · have HV := Aside.mk (HM.out.trans (if_pos ⟨h, rfl⟩))
      subst h
      go_enter Tryd.func48, Tryd.ntmps48
      go_wp2_with fail
      refine KO.out.mono ?_
      rintro e w2 ⟨rfl, b2⟩
      have B2 := Aside.mk (lthen (lone _ _) b2)
      clear b2
      go_wp2_with fail
      go_ret
      exact ⟨by rw [HV.out]; rfl, B2.out⟩
  · have HV := Aside.mk (HM.out.trans (if_neg (fun q => h q.1)))
    have e1 : (xp == b) = false := beq_eq_false_iff_ne.2 h
    go_enter Tryd.func48, Tryd.ntmps48
    go_wp2_with fail
    go_ret
    exact ⟨by rw [HV.out]; rfl, lone _ _⟩
end Go.Proofs.YtpcjjmjmigibhaaDoor
