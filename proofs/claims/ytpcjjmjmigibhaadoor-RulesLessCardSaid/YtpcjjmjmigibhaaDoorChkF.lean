/- The program's rules: do windows of two partitions clash? -/
import Derived.Test.YtpcjjmjmigibhaaDoorChkE
namespace Go.Proofs.YtpcjjmjmigibhaaDoor
open Go.RowKit
set_option linter.unusedVariables false
set_option linter.unusedSimpArgs false

theorem is_q (w : World) (q : Option Flt) (v : Value) (hv : ErrF w q v) (hn : ∀ n a, q = some (n, a) → n = 49) : Calls Tryd.prog 50 #[v, .int .i64 49] w fun e w' => e = .returned (.bool q.isSome) ∧ Below w.heap.size w w' := by
  cases q with
  | none =>
    obtain rfl : v = .nilIface := hv
    exact (is_nil w 49).mono (by rintro e w' ⟨rfl, rfl⟩; exact ⟨rfl, Below.refl _ _⟩)
  | some x =>
    obtain ⟨n, a⟩ := x
    obtain rfl := hn n a rfl
    exact (is_any w 49 a 49 v hv).mono (by rintro e w' ⟨rfl, b⟩; exact ⟨by simp, b⟩)
theorem store_new (w0 : World) (n : Nat) (hn : n = w0.heap.size) (o : Value) (t : TypeId) (v : Value) (hv : v.oneCell' = true) : (store ⟨n, 0, none⟩ v).run Tryd.prog (w0.alloc (.cells #[o] t)) = .ok () (w0.alloc (.cells #[v] t)) := by
  have c : (w0.alloc (.cells #[o] t)).cell? ⟨n, 0, none⟩ = some o := by subst hn; simp
  have f : (w0.alloc (.cells #[o] t)).frozen? ⟨n, 0, none⟩ = false := by subst hn; simp
  rw [run_store _ _ _ _ _ hv, c]
  simp [f, World.setCell_alloc_at _ _ _ _ _ hn]
set_option maxHeartbeats 1600000 in
theorem meets_any (w0 : World) (P : Plan) (x0 x1 x2 x3 x4 : Value) (hP : PlanV w0 (.agg #[x0, x1, x2, x3, x4]) P) (hx : x0.oneCell' = true ∧ x1.oneCell' = true ∧ x2.oneCell' = true ∧ x3.oneCell' = true ∧ x4.oneCell' = true) (hC8 : (Plan.cores P).length ≤ 8) (hC256 : ∀ L ∈ Plan.cores P, L.length ≤ 256) (q : PairR) (v : Win) (okv : Win.Ok v) (B PB : Nat) (W : World) (hB : Below w0.heap.size w0 W)
    (hb : W.heap[B]? = some (.cells #[x0, x1, x2, x3, x4] 28 (0, 0))) (hq : W.heap[PB]? = some (pairOb q)) :
    Calls Tryd.prog 47 #[Win.val v, .pointer (some ⟨B, 0, none⟩), .pointer (some ⟨PB, 0, none⟩)] W (ErrR W (meetQ (Plan.cores P) (PairR.b q) v)) := by
  have b1 := lone W (winOb v)
  have hvb : (W.alloc (winOb v)).heap[W.heap.size]? = some (winOb v) := heap_alloc_new _ _
  have K := Aside.mk (each_any (W.alloc (winOb v)) _ P ((hP.below hB).below b1) hC8 hC256 48 #[.pointer (some ⟨PB, 0, none⟩), .pointer (some ⟨W.heap.size, 0, none⟩)] callFunc_f3 (fun _ _ w => meetN (PairR.b q) v w)
    (fun c i L x W' hc hi ok hB' => clash3_any q v x okv ok c i PB W.heap.size W' (lup hB' (lup b1 hq)) (lup hB' hvb)))
  obtain ⟨p0, p1, p2, p3, p4⟩ := lbox5 (lup b1 hb)
  obtain ⟨y0, y1, y2, y3, y4⟩ := hx
  have BB := Aside.mk b1
  clear b1 hvb hP hB hb hq hC8 hC256 okv
  unfold winOb at *
  unfold Win.val
  go_enter Tryd.func47, Tryd.ntmps47
  go_wp2_with fail
  refine K.out.mono ?_
  rintro e w2 ⟨r, rfl, hr, b2⟩
  have HR := Aside.mk (And.intro hr (lthen BB.out b2))
  clear hr b2
  go_wp2_with fail
  go_ret
  exact ⟨_, rfl, HR.out.1, HR.out.2⟩
set_option maxHeartbeats 1600000 in
theorem clash4_any (w0 : World) (P : Plan) (x0 x1 x2 x3 x4 : Value) (hP : PlanV w0 (.agg #[x0, x1, x2, x3, x4]) P) (hx : x0.oneCell' = true ∧ x1.oneCell' = true ∧ x2.oneCell' = true ∧ x3.oneCell' = true ∧ x4.oneCell' = true) (hC8 : (Plan.cores P).length ≤ 8) (hC256 : ∀ L ∈ Plan.cores P, L.length ≤ 256) (q : PairR) (v : Win) (okv : Win.Ok v) (c i : Int) (B PB MB : Nat) (t : TypeId) (W : World) (hB : Below w0.heap.size w0 W)
    (hb : W.heap[B]? = some (.cells #[x0, x1, x2, x3, x4] 28 (0, 0))) (hq : W.heap[PB]? = some (pairOb q)) (hm : W.heap[MB]? = some (.cells #[.func (.func 47) #[] #[.pointer (some ⟨B, 0, none⟩), .pointer (some ⟨PB, 0, none⟩)]] t (0, 0))) :
    Calls Tryd.prog 49 #[.int .i64 c, .int .i64 i, Win.val v, .pointer (some ⟨PB, 0, none⟩), .pointer (some ⟨MB, 0, none⟩)] W fun e W' => e = .returned (.int .i64 (clashN (Plan.cores P) q v)) ∧ Below W.heap.size W W' := by
  have b1 := lone W (winOb v)
  have KM := Aside.mk (meets_any w0 P x0 x1 x2 x3 x4 hP hx hC8 hC256 q v okv B PB (W.alloc (winOb v)) (lthen hB b1) (lup b1 hb) (lup b1 hq))
  have hg5 := callFunc_f5
  obtain ⟨q0, q1⟩ := lbox2 (lup b1 hq)
  have m0 := lbox1 (lup b1 hm)
  have BB := Aside.mk b1
  obtain ⟨qq, hqq⟩ : ∃ qq, meetQ (Plan.cores P) (PairR.b q) v = qq := ⟨_, rfl⟩
  have h49 : Aside (∀ n a, qq = some (n, a) → n = 49) := ⟨fun n a h => meet_val (hqq.trans h)⟩
  have HM : Aside (clashN (Plan.cores P) q v = if Win.p v = PairR.a q ∧ qq.isSome = true then 49 else 0) := ⟨by rw [clashN, hqq]⟩
  rw [hqq] at KM
  obtain ⟨a, ha⟩ : ∃ a, PairR.a q = a := ⟨_, rfl⟩
  rw [ha] at q0 HM
  clear b1 hP hB hb hq hm hqq ha hC8 hC256 okv hx
  unfold Win.val winOb at *
  generalize Win.p v = vp at *
  by_cases h : vp = a
  · have H := Aside.mk h
    subst h
    go_enter Tryd.func49, Tryd.ntmps49
    go_wp2_with fail
    refine KM.out.mono ?_
    rintro e w2 ⟨r, rfl, hr, b2⟩
    have KI := Aside.mk (is_q w2 qq r hr h49.out)
    have B2 := Aside.mk (lthen BB.out b2)
    clear hr b2
    obtain ⟨s, hs⟩ : ∃ s, qq.isSome = s := ⟨_, rfl⟩
    rw [hs] at KI HM
    clear hs
    go_wp2_with fail
    refine KI.out.mono ?_
    rintro e w3 ⟨rfl, b3⟩
    have B3 := Aside.mk (lthen B2.out b3)
    clear b3
    cases s
    · have HV := Aside.mk (HM.out.trans (if_neg (by simp)))
      go_wp2_with fail
      go_ret
      exact ⟨by rw [HV.out]; rfl, B3.out⟩
    · have HV := Aside.mk (HM.out.trans (if_pos (by simp)))
      go_wp2_with fail
      go_ret
      exact ⟨by rw [HV.out]; rfl, B3.out⟩
  · have HV := Aside.mk (HM.out.trans (if_neg (fun q => h q.1)))
    have e1 : (vp == a) = false := beq_eq_false_iff_ne.2 h
    go_enter Tryd.func49, Tryd.ntmps49
    go_wp2_with fail
    go_ret
    exact ⟨by rw [HV.out]; rfl, BB.out⟩
set_option maxHeartbeats 1600000 in
theorem clash_any (w : World) (v : Value) (P : Plan) (hv : PlanV w v P) (hC8 : (Plan.cores P).length ≤ 8) (hC256 : ∀ L ∈ Plan.cores P, L.length ≤ 256) (q : PairR) :
    Calls Tryd.prog 41 #[v, PairR.val q] w fun e w' => e = .returned (.bool (clashQ (Plan.cores P) q).isSome) ∧ Below w.heap.size w w' := by
  have hv0 := hv
  obtain ⟨a0, n0, c0, a1, n1, c1, a2, n2, c2, a3, n3, c3, rfl, hp⟩ := hv
  obtain ⟨W1, HW⟩ : ∃ W1, Aside (W1 = ((w.alloc (.cells #[.int .u16 (Plan.frame P), .slice a0 n0 c0, .slice a1 n1 c1, .slice a2 n2 c2, .slice a3 n3 c3] 28)).alloc (pairOb q)).alloc (.cells #[.func (.func 47) #[] #[.pointer (some ⟨w.heap.size, 0, none⟩), .pointer (some ⟨w.heap.size + 1, 0, none⟩)]] 106)) := ⟨_, ⟨rfl⟩⟩
  have b1 : Below w.heap.size w W1 := by rw [HW.out]; exact lthen (lthen (lone _ _) (lone _ _)) (lone _ _)
  have h0 : W1.heap[w.heap.size]? = some (.cells #[.int .u16 (Plan.frame P), .slice a0 n0 c0, .slice a1 n1 c1, .slice a2 n2 c2, .slice a3 n3 c3] 28 (0, 0)) := by rw [HW.out]; exact lheap_up (lheap_up (heap_alloc_new _ _))
  have h1 : W1.heap[w.heap.size + 1]? = some (pairOb q) := by rw [HW.out]; exact lheap_up (lheap_top _ _ _ (by simp))
  have h2 : W1.heap[w.heap.size + 2]? = some (.cells #[.func (.func 47) #[] #[.pointer (some ⟨w.heap.size, 0, none⟩), .pointer (some ⟨w.heap.size + 1, 0, none⟩)]] 106 (0, 0)) := by rw [HW.out]; exact lheap_top _ _ _ (by simp)
  have K := Aside.mk (each_any W1 _ P (hv0.below b1) hC8 hC256 49 #[.pointer (some ⟨w.heap.size + 1, 0, none⟩), .pointer (some ⟨w.heap.size + 2, 0, none⟩)] callFunc_f4 (fun _ _ v => clashN (Plan.cores P) q v)
    (fun c i L x W hc hi ok hB => clash4_any W1 P _ _ _ _ _ (hv0.below b1) (by simp [Value.oneCell']) hC8 hC256 q x ok c i w.heap.size (w.heap.size + 1) (w.heap.size + 2) _ W hB (lup hB h0) (lup hB h1) (lup hB h2)))
  obtain ⟨p0, p1, p2, p3, p4⟩ := lbox5 h0
  have BB := Aside.mk b1
  have h49 : Aside (∀ n a, clashQ (Plan.cores P) q = some (n, a) → n = 49) := ⟨fun n a h => clash_val h⟩
  clear b1 h0 h1 h2 hv0 hp hC8 hC256
  unfold PairR.val
  unfold pairOb at HW
  have hst : (store ⟨w.heap.size + 1 + 1, 0, none⟩ (.func (.func 47) #[] #[.pointer (some ⟨w.heap.size, 0, none⟩), .pointer (some ⟨w.heap.size + 1, 0, none⟩)])).run Tryd.prog (((w.alloc (.cells #[.int .u16 (Plan.frame P), .slice a0 n0 c0, .slice a1 n1 c1, .slice a2 n2 c2, .slice a3 n3 c3] 28)).alloc (.cells #[.int .u8 (PairR.a q), .int .u8 (PairR.b q)] 45)).alloc (.cells #[.nilFunc] 106)) = .ok () W1 := by
    rw [HW.out]
    exact store_new _ _ (by simp) _ _ _ rfl
  go_enter Tryd.func41, Tryd.ntmps41
  go_wp2_with fail
  refine K.out.mono ?_
  rintro e w2 ⟨r, rfl, hr, b2⟩
  have KI := Aside.mk (is_q w2 _ r hr h49.out)
  have B2 := Aside.mk (lthen BB.out b2)
  clear hr b2
  go_wp2_with fail
  refine KI.out.mono ?_
  rintro e w3 ⟨rfl, b3⟩
  have B3 := Aside.mk (lthen B2.out b3)
  clear b3
  go_wp2_with fail
  go_ret
  exact ⟨rfl, B3.out⟩
end Go.Proofs.YtpcjjmjmigibhaaDoor
