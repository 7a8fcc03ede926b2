/- The program's rules: pairs, and whether windows of two partitions clash. The program's rules: do windows of two partitions clash? The program's rules: pairs that exclude each other. The program's rules: may a channel be? (written by wip/chkH.py) -/
import Derived.Test.YtidjkhmlpgkaaaaDoorMgCb
import Derived.Test.YtidjkhmlpgkaaaaDoorMgP
namespace Go.Proofs.YtidjkhmlpgkaaaaDoor
open Go.RowKit
set_option linter.unusedVariables false
set_option linter.unusedSimpArgs false

set_option maxHeartbeats 1600000 in
theorem pairs_any (w : World) (v : Value) (P : Plan) (hv : PlanV w v P) (hC8 : (Plan.cores P).length ≤ 8) (hC256 : ∀ L ∈ Plan.cores P, L.length ≤ 256) :
    Calls Tryd.prog 58 #[v] w (ErrR w (eachF (pairsN (Plan.cores P)) (Plan.cores P))) := by
  have hv0 := hv
  obtain ⟨a0, n0, c0, a1, n1, c1, a2, n2, c2, a3, n3, c3, rfl, hp⟩ := hv
  obtain ⟨_, _, q, hlen⟩ := hp.cores.len
  obtain ⟨rfl, rfl, rfl⟩ : a0 = _ ∧ n0 = _ ∧ c0 = _ := by injection q with q1 q2 q3; exact ⟨q1, q2, q3⟩
  clear q
  obtain ⟨W1, HW⟩ : ∃ W1, Aside (W1 = w.alloc (.cells #[.int .u16 (Plan.frame P), .slice a0 (Plan.cores P).length c0, .slice a1 n1 c1, .slice a2 n2 c2, .slice a3 n3 c3] 28)) := ⟨_, ⟨rfl⟩⟩
  have hb1 : Below w.heap.size w W1 ∧ W1.heap[w.heap.size]? = some (.cells #[.int .u16 (Plan.frame P), .slice a0 (Plan.cores P).length c0, .slice a1 n1 c1, .slice a2 n2 c2, .slice a3 n3 c3] 28 (0, 0)) := by rw [HW.out]; exact ⟨lone _ _, heap_alloc_new _ _⟩
  have K := Aside.mk (each_any W1 _ P (hv0.below hb1.1) hC8 hC256 74 #[.pointer (some ⟨w.heap.size, 0, none⟩)] callFunc_f2 (pairsN (Plan.cores P))
    (fun c i L x W hc hi ok hB => pair1_any W1 P a0 c0 _ _ _ _ hC8 hC256 (hp.cores.below hb1.1) w.heap.size c i L x W hc hi ok hB (lup hB hb1.2)))
  obtain ⟨p0, p1, p2, p3, p4⟩ := lbox5 hb1.2
  have HB := Aside.mk hb1.1
  clear hp hv0 hb1 hC8 hC256
  go_enter Tryd.func58, Tryd.ntmps58
  go_upto_region 1 with (fail)
  rw [← HW.out]
  go_wp2_with fail
  refine K.out.mono ?_
  rintro e w2 ⟨r, rfl, hr, b2⟩
  have HR := Aside.mk (And.intro hr (lthen HB.out b2))
  clear hr b2
  go_wp2_with fail
  go_ret
  exact ⟨_, rfl, HR.out.1, HR.out.2⟩
/-! ### Clashes -/
theorem callFunc_f3 (args : Array Value) (w : World) : (callFunc 88 args).run Tryd.prog w = .ok (.enter 88 args) w := by kernel_rfl
theorem callFunc_f4 (args : Array Value) (w : World) : (callFunc 89 args).run Tryd.prog w = .ok (.enter 89 args) w := by kernel_rfl
theorem callFunc_f5 (args : Array Value) (w : World) : (callFunc 87 args).run Tryd.prog w = .ok (.enter 87 args) w := by kernel_rfl
def winOb (x : Win) : Obj := .cells #[.int .u16 (Win.s x), .int .u16 (Win.l x), .int .u8 (Win.p x), .int .u8 (Win.g x)] 87 (0, 0)
def pairOb (x : PairR) : Obj := .cells #[.int .u8 (PairR.a x), .int .u8 (PairR.b x)] 90 (0, 0)
set_option maxHeartbeats 1600000 in
theorem clash3_any (q : PairR) (v x : Win) (okv : Win.Ok v) (ok : Win.Ok x) (c i : Int) (PB VB : Nat) (W : World) (hq : W.heap[PB]? = some (pairOb q)) (hv : W.heap[VB]? = some (winOb v)) :
    Calls Tryd.prog 88 #[.int .i64 c, .int .i64 i, Win.val x, .pointer (some ⟨PB, 0, none⟩), .pointer (some ⟨VB, 0, none⟩)] W fun e W' => e = .returned (.int .i64 (meetN (PairR.b q) v x)) ∧ Below W.heap.size W W' := by
  have hx := lkeep (lone W (winOb x))
  obtain ⟨q0, q1⟩ := lbox2 (lup (lone W (winOb x)) hq)
  obtain ⟨v0, v1, v2, v3⟩ := lbox4 (lup (lone W (winOb x)) hv)
  have KO := Aside.mk (poverlap_any v x okv ok (W.alloc (winOb x)))
  obtain ⟨ob, hob⟩ : ∃ ob, overlapS v x = ob := ⟨_, rfl⟩
  obtain ⟨b, hb⟩ : ∃ b, PairR.b q = b := ⟨_, rfl⟩
  rw [hob] at KO
  rw [hb] at q1 ⊢
  have HM : Aside (meetN b v x = if Win.p x = b ∧ ob = true then 49 else 0) := ⟨by rw [meetN, hob]⟩
  clear hx hq hv hob hb
  unfold Win.val winOb at *
  generalize Win.p x = xp at *
  by_cases h : xp = b
  · cases ob
    · have HV := Aside.mk (HM.out.trans (if_neg (by simp)))
      subst h
      go_enter Tryd.func88, Tryd.ntmps88
      go_wp2_with fail
      refine KO.out.mono ?_
      rintro e w2 ⟨rfl, b2⟩
      have B2 := Aside.mk (lthen (lone _ _) b2)
      clear b2
      go_wp2_with fail
      go_ret
      exact ⟨by rw [HV.out]; rfl, B2.out⟩
    · have HV := Aside.mk (HM.out.trans (if_pos ⟨h, rfl⟩))
      subst h
      go_enter Tryd.func88, Tryd.ntmps88
      go_wp2_with fail
      refine KO.out.mono ?_
      rintro e w2 ⟨rfl, b2⟩
      have B2 := Aside.mk (lthen (lone _ _) b2)
      clear b2
      go_wp2_with fail
      go_ret
      exact ⟨by rw [HV.out]; rfl, B2.out⟩
  · have HV := Aside.mk (HM.out.trans (if_neg (fun q => h q.1)))
    have e1 : (xp == b) = false := beq_eq_false_iff_ne.2 h
    go_enter Tryd.func88, Tryd.ntmps88
    go_wp2_with fail
    go_ret
    exact ⟨by rw [HV.out]; rfl, lone _ _⟩
end Go.Proofs.YtidjkhmlpgkaaaaDoor

namespace Go.Proofs.YtidjkhmlpgkaaaaDoor
open Go.RowKit
set_option linter.unusedVariables false
set_option linter.unusedSimpArgs false

theorem is_q (w : World) (q : Option Flt) (v : Value) (hv : ErrF w q v) (hn : ∀ n a, q = some (n, a) → n = 49) : Calls Tryd.prog 90 #[v, .int .i64 49] w fun e w' => e = .returned (.bool q.isSome) ∧ Below w.heap.size w w' := by
  cases q with
  | none =>
    obtain rfl : v = .nilIface := hv
    exact (is_nil w 49).mono (by rintro e w' ⟨rfl, rfl⟩; exact ⟨rfl, Below.refl _ _⟩)
  | some x =>
    obtain ⟨n, a⟩ := x
    obtain rfl := hn n a rfl
    exact (is_any w 49 a 49 v hv).mono (by rintro e w' ⟨rfl, b⟩; exact ⟨by simp, b⟩)
theorem store_new (w0 : World) (n : Nat) (hn : n = w0.heap.size) (o : Value) (t : TypeId) (v : Value) (hv : v.oneCell' = true) : (store ⟨n, 0, none⟩ v).run Tryd.prog (w0.alloc (.cells #[o] t)) = .ok () (w0.alloc (.cells #[v] t)) := by
  have c : (w0.alloc (.cells #[o] t)).cell? ⟨n, 0, none⟩ = some o := by subst hn; simp
  have f : (w0.alloc (.cells #[o] t)).frozen? ⟨n, 0, none⟩ = false := by subst hn; simp
  rw [run_store _ _ _ _ _ hv, c]
  simp [f, World.setCell_alloc_at _ _ _ _ _ hn]
set_option maxHeartbeats 1600000 in
theorem meets_any (w0 : World) (P : Plan) (x0 x1 x2 x3 x4 : Value) (hP : PlanV w0 (.agg #[x0, x1, x2, x3, x4]) P) (hx : x0.oneCell' = true ∧ x1.oneCell' = true ∧ x2.oneCell' = true ∧ x3.oneCell' = true ∧ x4.oneCell' = true) (hC8 : (Plan.cores P).length ≤ 8) (hC256 : ∀ L ∈ Plan.cores P, L.length ≤ 256) (q : PairR) (v : Win) (okv : Win.Ok v) (B PB : Nat) (W : World) (hB : Below w0.heap.size w0 W)
    (hb : W.heap[B]? = some (.cells #[x0, x1, x2, x3, x4] 28 (0, 0))) (hq : W.heap[PB]? = some (pairOb q)) :
    Calls Tryd.prog 87 #[Win.val v, .pointer (some ⟨B, 0, none⟩), .pointer (some ⟨PB, 0, none⟩)] W (ErrR W (meetQ (Plan.cores P) (PairR.b q) v)) := by
  have b1 := lone W (winOb v)
  have hvb : (W.alloc (winOb v)).heap[W.heap.size]? = some (winOb v) := heap_alloc_new _ _
  have K := Aside.mk (each_any (W.alloc (winOb v)) _ P ((hP.below hB).below b1) hC8 hC256 88 #[.pointer (some ⟨PB, 0, none⟩), .pointer (some ⟨W.heap.size, 0, none⟩)] callFunc_f3 (fun _ _ w => meetN (PairR.b q) v w)
    (fun c i L x W' hc hi ok hB' => clash3_any q v x okv ok c i PB W.heap.size W' (lup hB' (lup b1 hq)) (lup hB' hvb)))
  obtain ⟨p0, p1, p2, p3, p4⟩ := lbox5 (lup b1 hb)
  obtain ⟨y0, y1, y2, y3, y4⟩ := hx
  have BB := Aside.mk b1
  clear b1 hvb hP hB hb hq hC8 hC256 okv
  unfold winOb at *
  unfold Win.val
  go_enter Tryd.func87, Tryd.ntmps87
  go_wp2_with fail
  refine K.out.mono ?_
  rintro e w2 ⟨r, rfl, hr, b2⟩
  have HR := Aside.mk (And.intro hr (lthen BB.out b2))
  clear hr b2
  go_wp2_with fail
  go_ret
  exact ⟨_, rfl, HR.out.1, HR.out.2⟩
set_option maxHeartbeats 1600000 in
theorem clash4_any (w0 : World) (P : Plan) (x0 x1 x2 x3 x4 : Value) (hP : PlanV w0 (.agg #[x0, x1, x2, x3, x4]) P) (hx : x0.oneCell' = true ∧ x1.oneCell' = true ∧ x2.oneCell' = true ∧ x3.oneCell' = true ∧ x4.oneCell' = true) (hC8 : (Plan.cores P).length ≤ 8) (hC256 : ∀ L ∈ Plan.cores P, L.length ≤ 256) (q : PairR) (v : Win) (okv : Win.Ok v) (c i : Int) (B PB MB : Nat) (t : TypeId) (W : World) (hB : Below w0.heap.size w0 W)
    (hb : W.heap[B]? = some (.cells #[x0, x1, x2, x3, x4] 28 (0, 0))) (hq : W.heap[PB]? = some (pairOb q)) (hm : W.heap[MB]? = some (.cells #[.func (.func 87) #[] #[.pointer (some ⟨B, 0, none⟩), .pointer (some ⟨PB, 0, none⟩)]] t (0, 0))) :
    Calls Tryd.prog 89 #[.int .i64 c, .int .i64 i, Win.val v, .pointer (some ⟨PB, 0, none⟩), .pointer (some ⟨MB, 0, none⟩)] W fun e W' => e = .returned (.int .i64 (clashN (Plan.cores P) q v)) ∧ Below W.heap.size W W' := by
  have b1 := lone W (winOb v)
  have KM := Aside.mk (meets_any w0 P x0 x1 x2 x3 x4 hP hx hC8 hC256 q v okv B PB (W.alloc (winOb v)) (lthen hB b1) (lup b1 hb) (lup b1 hq))
  have hg5 := callFunc_f5
  obtain ⟨q0, q1⟩ := lbox2 (lup b1 hq)
  have m0 := lbox1 (lup b1 hm)
  have BB := Aside.mk b1
  obtain ⟨qq, hqq⟩ : ∃ qq, meetQ (Plan.cores P) (PairR.b q) v = qq := ⟨_, rfl⟩
  have h49 : Aside (∀ n a, qq = some (n, a) → n = 49) := ⟨fun n a h => meet_val (hqq.trans h)⟩
  have HM : Aside (clashN (Plan.cores P) q v = if Win.p v = PairR.a q ∧ qq.isSome = true then 49 else 0) := ⟨by rw [clashN, hqq]⟩
  rw [hqq] at KM
  obtain ⟨a, ha⟩ : ∃ a, PairR.a q = a := ⟨_, rfl⟩
  rw [ha] at q0 HM
  clear b1 hP hB hb hq hm hqq ha hC8 hC256 okv hx
  unfold Win.val winOb at *
  generalize Win.p v = vp at *
  by_cases h : vp = a
  · have H := Aside.mk h
    subst h
    go_enter Tryd.func89, Tryd.ntmps89
    go_wp2_with fail
    refine KM.out.mono ?_
    rintro e w2 ⟨r, rfl, hr, b2⟩
    have KI := Aside.mk (is_q w2 qq r hr h49.out)
    have B2 := Aside.mk (lthen BB.out b2)
    clear hr b2
    obtain ⟨s, hs⟩ : ∃ s, qq.isSome = s := ⟨_, rfl⟩
    rw [hs] at KI HM
    clear hs
    go_wp2_with fail
    refine KI.out.mono ?_
    rintro e w3 ⟨rfl, b3⟩
    have B3 := Aside.mk (lthen B2.out b3)
    clear b3
    cases s
    · have HV := Aside.mk (HM.out.trans (if_neg (by simp)))
      go_wp2_with fail
      go_ret
      exact ⟨by rw [HV.out]; rfl, B3.out⟩
    · have HV := Aside.mk (HM.out.trans (if_pos (by simp)))
      go_wp2_with fail
      go_ret
      exact ⟨by rw [HV.out]; rfl, B3.out⟩
  · have HV := Aside.mk (HM.out.trans (if_neg (fun q => h q.1)))
    have e1 : (vp == a) = false := beq_eq_false_iff_ne.2 h
    go_enter Tryd.func89, Tryd.ntmps89
    go_wp2_with fail
    go_ret
    exact ⟨by rw [HV.out]; rfl, BB.out⟩
set_option maxHeartbeats 1600000 in
theorem clash_any (w : World) (v : Value) (P : Plan) (hv : PlanV w v P) (hC8 : (Plan.cores P).length ≤ 8) (hC256 : ∀ L ∈ Plan.cores P, L.length ≤ 256) (q : PairR) :
    Calls Tryd.prog 78 #[v, PairR.val q] w fun e w' => e = .returned (.bool (clashQ (Plan.cores P) q).isSome) ∧ Below w.heap.size w w' := by
  have hv0 := hv
  obtain ⟨a0, n0, c0, a1, n1, c1, a2, n2, c2, a3, n3, c3, rfl, hp⟩ := hv
  obtain ⟨W1, HW⟩ : ∃ W1, Aside (W1 = ((w.alloc (.cells #[.int .u16 (Plan.frame P), .slice a0 n0 c0, .slice a1 n1 c1, .slice a2 n2 c2, .slice a3 n3 c3] 28)).alloc (pairOb q)).alloc (.cells #[.func (.func 87) #[] #[.pointer (some ⟨w.heap.size, 0, none⟩), .pointer (some ⟨w.heap.size + 1, 0, none⟩)]] 160)) := ⟨_, ⟨rfl⟩⟩
  have b1 : Below w.heap.size w W1 := by rw [HW.out]; exact lthen (lthen (lone _ _) (lone _ _)) (lone _ _)
  have h0 : W1.heap[w.heap.size]? = some (.cells #[.int .u16 (Plan.frame P), .slice a0 n0 c0, .slice a1 n1 c1, .slice a2 n2 c2, .slice a3 n3 c3] 28 (0, 0)) := by rw [HW.out]; exact lheap_up (lheap_up (heap_alloc_new _ _))
  have h1 : W1.heap[w.heap.size + 1]? = some (pairOb q) := by rw [HW.out]; exact lheap_up (lheap_top _ _ _ (by simp))
  have h2 : W1.heap[w.heap.size + 2]? = some (.cells #[.func (.func 87) #[] #[.pointer (some ⟨w.heap.size, 0, none⟩), .pointer (some ⟨w.heap.size + 1, 0, none⟩)]] 160 (0, 0)) := by rw [HW.out]; exact lheap_top _ _ _ (by simp)
  have K := Aside.mk (each_any W1 _ P (hv0.below b1) hC8 hC256 89 #[.pointer (some ⟨w.heap.size + 1, 0, none⟩), .pointer (some ⟨w.heap.size + 2, 0, none⟩)] callFunc_f4 (fun _ _ v => clashN (Plan.cores P) q v)
    (fun c i L x W hc hi ok hB => clash4_any W1 P _ _ _ _ _ (hv0.below b1) (by simp [Value.oneCell']) hC8 hC256 q x ok c i w.heap.size (w.heap.size + 1) (w.heap.size + 2) _ W hB (lup hB h0) (lup hB h1) (lup hB h2)))
  obtain ⟨p0, p1, p2, p3, p4⟩ := lbox5 h0
  have BB := Aside.mk b1
  have h49 : Aside (∀ n a, clashQ (Plan.cores P) q = some (n, a) → n = 49) := ⟨fun n a h => clash_val h⟩
  clear b1 h0 h1 h2 hv0 hp hC8 hC256
  unfold PairR.val
  unfold pairOb at HW
  have hst : (store ⟨w.heap.size + 1 + 1, 0, none⟩ (.func (.func 87) #[] #[.pointer (some ⟨w.heap.size, 0, none⟩), .pointer (some ⟨w.heap.size + 1, 0, none⟩)])).run Tryd.prog (((w.alloc (.cells #[.int .u16 (Plan.frame P), .slice a0 n0 c0, .slice a1 n1 c1, .slice a2 n2 c2, .slice a3 n3 c3] 28)).alloc (.cells #[.int .u8 (PairR.a q), .int .u8 (PairR.b q)] 90)).alloc (.cells #[.nilFunc] 160)) = .ok () W1 := by
    rw [HW.out]
    exact store_new _ _ (by simp) _ _ _ rfl
  go_enter Tryd.func78, Tryd.ntmps78
  go_wp2_with fail
  refine K.out.mono ?_
  rintro e w2 ⟨r, rfl, hr, b2⟩
  have KI := Aside.mk (is_q w2 _ r hr h49.out)
  have B2 := Aside.mk (lthen BB.out b2)
  clear hr b2
  go_wp2_with fail
  refine KI.out.mono ?_
  rintro e w3 ⟨rfl, b3⟩
  have B3 := Aside.mk (lthen B2.out b3)
  clear b3
  go_wp2_with fail
  go_ret
  exact ⟨rfl, B3.out⟩
end Go.Proofs.YtidjkhmlpgkaaaaDoor

namespace Go.Proofs.YtidjkhmlpgkaaaaDoor
open Go.RowKit
set_option linter.unusedVariables false
set_option linter.unusedSimpArgs false

theorem Elems.take_ {α : Type} {w : World} {n : Nat} {R : World → List Value → α → Prop} {a : Option Addr} {m cap : Nat} {L : List α} (h : Elems w n R (.slice a m cap) L) (i : Nat) (hi : i ≤ L.length) : Elems w n R (.slice a i cap) (L.take i) := by
  obtain ⟨a', cap', e, h1, h2, h3⟩ := h
  cases e
  have hl : (L.take i).length = i := by rw [List.length_take]; omega
  refine ⟨a, cap, by rw [hl], by omega, h2, fun hp => ?_⟩
  rw [hl] at hp
  obtain ⟨ad, rfl, h4⟩ := h3 (by omega)
  refine ⟨ad, rfl, fun j hj => ?_⟩
  rw [hl] at hj
  obtain ⟨cs, e, hc, hr⟩ := h4 j (by omega)
  exact ⟨cs, e, hc, by rw [List.getElem_take]; exact hr⟩
theorem Elems.cap_ {α : Type} {w : World} {m : Nat} {R : World → List Value → α → Prop} {a : Option Addr} {n cap : Nat} {L : List α} (h : Elems w m R (.slice a n cap) L) : n = L.length ∧ L.length ≤ cap ∧ cap ≤ 9223372036854775807 := by
  obtain ⟨a', cap', e, h1, h2, h3⟩ := h
  cases e
  exact ⟨rfl, h1, h2⟩
set_option maxHeartbeats 6400000 in
set_option maxRecDepth 100000 in
theorem excluded_any (w : World) (v : Value) (P : Plan) (hv : PlanV w v P) (hC8 : (Plan.cores P).length ≤ 8) (hC256 : ∀ L ∈ Plan.cores P, L.length ≤ 256) :
    Calls Tryd.prog 59 #[v] w (ErrR w (scan (pairF ((Plan.parts P).length : Int) (allS (Plan.cores P)) (Plan.pairs P)) (Plan.pairs P).length)) := by
  have hv0 := hv
  obtain ⟨a0, n0, c0, a1, n1, c1, a2, n2, c2, a3, n3, c3, rfl, hp⟩ := hv
  obtain ⟨_, _, q, hlen1⟩ := Elems.len hp.parts
  obtain ⟨rfl, rfl, rfl⟩ : a1 = _ ∧ n1 = _ ∧ c1 = _ := by injection q with q1 q2 q3; exact ⟨q1, q2, q3⟩
  clear q
  obtain ⟨_, _, q, hlen3⟩ := Elems.len hp.pairs
  obtain ⟨rfl, rfl, rfl⟩ : a3 = _ ∧ n3 = _ ∧ c3 = _ := by injection q with q1 q2 q3; exact ⟨q1, q2, q3⟩
  clear q
  have HQ := Aside.mk hp.pairs
  have KC := Aside.mk (fun W (h : Below w.heap.size w W) x => clash_any W _ P (hv0.below h) hC8 hC256 x)
  have HE : Aside (∀ i x, (Plan.pairs P)[i]? = some x → pairF ((Plan.parts P).length : Int) (allS (Plan.cores P)) (Plan.pairs P) i = if badB ((Plan.parts P).length : Int) (Plan.pairs P) i x = true then some (48, (i : Int)) else if (clashQ (Plan.cores P) x).isSome = true then some (49, (i : Int)) else none) := ⟨fun i x h => pair_eq _ _ _ _ _ h⟩
  generalize pairF ((Plan.parts P).length : Int) (allS (Plan.cores P)) (Plan.pairs P) = F at *
  generalize Plan.frame P = fr at *
  generalize Plan.pairs P = Q at *
  obtain ⟨np, hnp⟩ : ∃ np, (Plan.parts P).length = np := ⟨_, rfl⟩
  rw [hnp] at KC HE hlen1 ⊢
  obtain ⟨W1, HW⟩ : ∃ W1, Aside (W1 = w.alloc (.cells #[.int .u16 fr, .slice a0 n0 c0, .slice a1 np c1, .slice a2 n2 c2, .slice a3 Q.length c3] 28)) := ⟨_, ⟨rfl⟩⟩
  have hb1 : Aside (Below w.heap.size w W1 ∧ W1.heap[w.heap.size]? = some (.cells #[.int .u16 fr, .slice a0 n0 c0, .slice a1 np c1, .slice a2 n2 c2, .slice a3 Q.length c3] 28 (0, 0))) := ⟨by rw [HW.out]; exact ⟨lone _ _, heap_alloc_new _ _⟩⟩
  obtain ⟨p0, p1, p2, p3, p4⟩ := lbox5 hb1.out.2
  have hcap := HQ.out.cap_
  obtain ⟨_, hcap1, hcap2⟩ := hcap
  clear hp hv0 hC8 hC256 hnp
  go_enter Tryd.func59, Tryd.ntmps59
  go_upto_region 1 with (fail)
  rw [← HW.out]
  go_wp2_with fail
  clear p0 p1 p2 p3 p4
  go_loopg [11] Q.length (fun q i wr => ∃ k : Nat, k ≤ Q.length ∧ q = Q.length - k ∧ i = .int .i64 k ∧ Aside (scan F k = none ∧ Below W1.heap.size W1 wr))
  case atStart => exact ⟨0, by omega, rfl, rfl, ⟨rfl, Below.refl _ _⟩⟩
  case round =>
    obtain ⟨k, hk, rfl, rfl, S⟩ := hrel
    by_cases hkl : k < Q.length
    · have hl := List.getElem?_eq_getElem hkl
      obtain ⟨x, hx⟩ : ∃ x, Q[k] = x := ⟨_, rfl⟩
      rw [hx] at hl
      have B0 := Aside.mk (lthen hb1.out.1 S.out.2)
      obtain ⟨ad, rfl, d0, d1, ok⟩ := Pairs.at_ (elems_below HQ.out B0.out) k x hl
      obtain ⟨A1, A2⟩ := ok.a
      obtain ⟨A3, A4⟩ := ok.b
      have HL := Aside.mk hl
      have HEk := Aside.mk (HE.out k x hl)
      obtain ⟨W2, HW2⟩ : ∃ W2, Aside (W2 = wr.alloc (.cells #[.int .u8 (PairR.a x), .int .u8 (PairR.b x)] 90)) := ⟨_, ⟨rfl⟩⟩
      have B2 : Aside (Below W1.heap.size W1 W2) := ⟨by rw [HW2.out]; exact lthen S.out.2 (lone _ _)⟩
      have HX : Aside (W2.heap[wr.heap.size]? = some (.cells #[.int .u8 (PairR.a x), .int .u8 (PairR.b x)] 90 (0, 0))) := ⟨by rw [HW2.out]; exact heap_alloc_new _ _⟩
      obtain ⟨e0, e1⟩ := lbox2 HX.out
      obtain ⟨p0, p1, p2, p3, p4⟩ := lbox5 (lup B2.out hb1.out.2)
      obtain ⟨a, ha⟩ : ∃ a, PairR.a x = a := ⟨_, rfl⟩
      obtain ⟨b, hb⟩ : ∃ b, PairR.b x = b := ⟨_, rfl⟩
      have HBad : Aside (∀ j, dupB x (Q.take j) = dupB x (Q.take j) ∧ badB np Q k x = (decide ((np : Int) ≤ b) || decide (b ≤ a) || dupB x (Q.take k))) := ⟨fun j => ⟨rfl, by rw [badB, ha, hb]⟩⟩
      have HAB := Aside.mk (And.intro ha hb)
      have KC2 := Aside.mk (fun W (h : Below W1.heap.size W1 W) => KC.out W (lthen hb1.out.1 h) x)
      unfold PairR.val at KC2
      rw [ha] at d0 e0 HW2 HX A1 A2 KC2
      rw [hb] at d1 e1 HW2 HX A3 A4 KC2
      have w1 : IntKind.i64.wrap b = b := IntWalk.i64_in _ (by omega)
      have i1 : (0 : Int) ≤ (k : Int) := by omega
      have i2 : (k : Int) ≤ (c3 : Int) := by omega
      clear hl hx ok ha hb
      obtain ⟨b0, hb0⟩ : ∃ b0, (decide ((np : Int) ≤ b) || decide (b ≤ a)) = b0 := ⟨_, rfl⟩
      have HB0 := Aside.mk hb0
      clear hb0
      go_upto_region 4 with (fail)
      rw [← HW2.out]
      go_cut [5] (fun y wc => y = .bool b0 ∧ W2 = wc)
      case first =>
        by_cases h1 : (np : Int) ≤ b
        · have H1 : Aside (b0 = true) := ⟨by rw [← HB0.out]; simp [h1]⟩
          go_wp2_with fail
          go_meet
          case rel => exact ⟨by rw [H1.out], rfl⟩
        · by_cases h2 : b ≤ a
          · have H1 : Aside (b0 = true) := ⟨by rw [← HB0.out]; simp [h2]⟩
            go_wp2_with fail
            go_meet
            case rel => exact ⟨by rw [H1.out], rfl⟩
          · have H1 : Aside (b0 = false) := ⟨by rw [← HB0.out]; simp [h1, h2]⟩
            go_wp2_with fail
            go_meet
            case rel => exact ⟨by rw [H1.out], rfl⟩
      case rest =>
        obtain ⟨rfl, rfl⟩ := hcut
        clear e0 e1 d0 d1 p0 p1 p2 p3
        go_wp2_with fail
        clear p4
        go_loopg [5, 35] k (fun q s5 i wr => ∃ j : Nat, j ≤ k ∧ q = k - j ∧ i = .int .i64 j ∧ s5 = .bool (b0 || dupB x (Q.take j)) ∧ Aside (Below W2.heap.size W2 wr))
        case atStart => exact ⟨0, by omega, rfl, rfl, by simp [dupB], ⟨Below.refl _ _⟩⟩
        case round =>
          obtain ⟨j, hj, rfl, rfl, rfl, T⟩ := hrel
          have B3 := Aside.mk (lthen hb1.out.1 (lthen B2.out T.out))
          have HX3 := Aside.mk (lup T.out HX.out)
          obtain ⟨e0, e1⟩ := lbox2 HX3.out
          by_cases hjl : j < k
          · have hl := List.getElem?_eq_getElem (show j < Q.length by omega)
            obtain ⟨y, hy⟩ : ∃ y, Q[j]'(by omega) = y := ⟨_, rfl⟩
            rw [hy] at hl
            obtain ⟨ad2, ead, d0, d1, ok⟩ := Pairs.at_ (elems_below HQ.out B3.out) j y hl
            obtain rfl : ad = ad2 := Option.some.inj ead
            have HD := Aside.mk (dupB_snoc hl x)
            obtain ⟨ya, hya⟩ : ∃ ya, PairR.a y = ya := ⟨_, rfl⟩
            obtain ⟨yb, hyb⟩ : ∃ yb, PairR.b y = yb := ⟨_, rfl⟩
            rw [hya] at d0 HD
            rw [hyb] at d1 HD
            rw [HAB.out.1, HAB.out.2] at HD
            obtain ⟨db, hdb⟩ : ∃ db, (b0 || dupB x (Q.take j)) = db := ⟨_, rfl⟩
            rw [hdb]
            have HDB := Aside.mk hdb
            clear hl hy ok ead hya hyb hdb
            have fin : Aside (∀ r : Bool, r = (decide (ya = a) && decide (yb = b)) → (db || r) = (b0 || dupB x (Q.take (j + 1)))) := ⟨by
              rintro r rfl
              rw [HD.out, ← HDB.out, Bool.or_assoc]⟩
            obtain ⟨W3, HW3⟩ : ∃ W3, Aside (W3 = wr.alloc (.cells #[.int .u8 ya, .int .u8 yb] 90)) := ⟨_, ⟨rfl⟩⟩
            have B4 : Aside (Below W2.heap.size W2 W3) := ⟨by rw [HW3.out]; exact lthen T.out (lone _ _)⟩
            have HX4 := Aside.mk (lup B4.out HX.out)
            have HY4 : Aside (W3.heap[wr.heap.size]? = some (.cells #[.int .u8 ya, .int .u8 yb] 90 (0, 0))) := ⟨by rw [HW3.out]; exact heap_alloc_new _ _⟩
            clear e0 e1
            obtain ⟨e0, e1⟩ := lbox2 HX4.out
            obtain ⟨g0, g1⟩ := lbox2 HY4.out
            go_upto_region 8 with (fail)
            rw [← HW3.out]
            cases db
            · by_cases h1 : ya = a
              · by_cases h2 : yb = b
                · have HF := Aside.mk (fin.out true (by simp [h1, h2]))
                  subst h1 h2
                  go_wp2_with fail
                  go_roundg (k - (j + 1))
                  case measure => omega
                  case rel => exact ⟨j + 1, by omega, rfl, by go_num, by rw [← HF.out] <;> simp, B4⟩
                · have HF := Aside.mk (fin.out false (by simp [h2]))
                  have n2 : (b == yb) = false := by simp; exact fun h => h2 h.symm
                  subst h1
                  go_wp2_with fail
                  go_roundg (k - (j + 1))
                  case measure => omega
                  case rel => exact ⟨j + 1, by omega, rfl, by go_num, by rw [← HF.out] <;> simp, B4⟩
              · have HF := Aside.mk (fin.out false (by simp [h1]))
                have n1 : (a == ya) = false := by simp; exact fun h => h1 h.symm
                go_wp2_with fail
                go_roundg (k - (j + 1))
                case measure => omega
                case rel => exact ⟨j + 1, by omega, rfl, by go_num, by rw [← HF.out] <;> simp, B4⟩
            · have HF := Aside.mk (fin.out _ rfl)
              go_wp2_with fail
              go_roundg (k - (j + 1))
              case measure => omega
              case rel => exact ⟨j + 1, by omega, rfl, by go_num, by rw [← HF.out] <;> simp, B4⟩
          · obtain rfl : j = k := by omega
            have hbad := (HBad.out j).2
            rw [HB0.out] at hbad
            obtain ⟨bad, hb⟩ : ∃ bad, (b0 || dupB x (Q.take j)) = bad := ⟨_, rfl⟩
            rw [hb] at hbad ⊢
            rw [hbad] at HEk
            clear hjl hj hb hbad HBad
            cases bad
            · obtain ⟨p0, p1, p2, p3, p4⟩ := lbox5 (lup (lthen B2.out T.out) hb1.out.2)
              have KD := Aside.mk (KC2.out wr (lthen B2.out T.out))
              have HE2 := Aside.mk (HEk.out.trans (if_neg (by decide)))
              obtain ⟨cl, hcl⟩ : ∃ cl, (clashQ (Plan.cores P) x).isSome = cl := ⟨_, rfl⟩
              rw [hcl] at KD HE2
              clear hcl
              go_wp2_with fail
              refine KD.out.mono ?_
              rintro e w5 ⟨rfl, b5⟩
              have B5 := Aside.mk (lthen (lthen B2.out T.out) b5)
              clear b5 p0 p1 p2 p3 p4 e0 e1
              cases cl
              · have HN : Aside (scan F (j + 1) = none) := ⟨by rw [scan_succ S.out.1, HE2.out]; rfl⟩
                go_wp2_with fail
                go_roundg (Q.length - (j + 1))
                case measure => omega
                case rel => exact ⟨j + 1, by omega, rfl, by go_num, ⟨HN.out, B5.out⟩⟩
              · have HN : Aside (scan F Q.length = some (49, (j : Int))) := ⟨scan_some S.out.1 (by rw [HE2.out]; rfl) hkl⟩
                go_wp2_with fail
                refine (fault_any 49 (j : Int) w5).mono ?_
                rintro e w6 ⟨r, rfl, hr, b6⟩
                have HR := Aside.mk (And.intro hr (lthen (lthen hb1.out.1 B5.out) b6))
                clear hr b6
                go_wp2_with fail
                go_ret
                exact ⟨_, rfl, by rw [HN.out]; exact HR.out.1, HR.out.2⟩
            · have HN : Aside (scan F Q.length = some (48, (j : Int))) := ⟨scan_some S.out.1 (by rw [HEk.out]; rfl) hkl⟩
              clear e0 e1
              go_wp2_with fail
              refine (fault_any 48 (j : Int) wr).mono ?_
              rintro e w6 ⟨r, rfl, hr, b6⟩
              have HR := Aside.mk (And.intro hr (lthen B3.out b6))
              clear hr b6
              go_wp2_with fail
              go_ret
              exact ⟨_, rfl, by rw [HN.out]; exact HR.out.1, HR.out.2⟩
    · obtain rfl : k = Q.length := by omega
      clear hkl hk
      go_wp2_with fail
      go_ret
      exact ⟨_, rfl, by rw [S.out.1]; rfl, lthen hb1.out.1 S.out.2⟩
end Go.Proofs.YtidjkhmlpgkaaaaDoor

namespace Go.Proofs.YtidjkhmlpgkaaaaDoor
open Go.RowKit
set_option linter.unusedVariables false
set_option linter.unusedSimpArgs false

/-- May a channel be? -/
def chB (np : Int) (c : ChanR) : Bool := (queueB c || sampleB c) && decide (ChanR.f c < np) && decide (ChanR.t c < np) && decide (ChanR.f c ≠ ChanR.t c) && decide (1 ≤ ChanR.z c) && decide (ChanR.z c ≤ 32)
theorem chanOk_eq (np : Int) (c : ChanR) (i : Nat) : chanOk np c i = (decide (i ≤ 63) && chB np c) := by
  simp only [chanOk, chB, Bool.and_assoc]
theorem pow_bits (d : Int) (h1 : 1 ≤ d) (h2 : d ≤ 16) : Go.bits .and .u8 d (d - 1) = 0 ↔ (d = 1 ∨ d = 2 ∨ d = 4 ∨ d = 8 ∨ d = 16) := by
  have h : d = 1 ∨ d = 2 ∨ d = 3 ∨ d = 4 ∨ d = 5 ∨ d = 6 ∨ d = 7 ∨ d = 8 ∨ d = 9 ∨ d = 10 ∨ d = 11 ∨ d = 12 ∨ d = 13 ∨ d = 14 ∨ d = 15 ∨ d = 16 := by omega
  rcases h with rfl | rfl | rfl | rfl | rfl | rfl | rfl | rfl | rfl | rfl | rfl | rfl | rfl | rfl | rfl | rfl <;> decide
set_option maxHeartbeats 6400000 in
set_option maxRecDepth 100000 in
theorem channel_any (w : World) (c : ChanR) (ok : ChanR.Ok c) (np : Int) :
    Calls Tryd.prog 79 #[ChanR.val c, .int .i64 np] w fun e w' => e = .returned (.bool (chB np c)) ∧ Below w.heap.size w w' := by
  obtain ⟨⟨k0, k1⟩, ⟨f0, f1⟩, ⟨t0, t1⟩, ⟨z0, z1⟩, ⟨d0, d1⟩, ⟨y0, y1⟩⟩ := ok
  unfold ChanR.val chB queueB sampleB
  generalize ChanR.k c = k at *
  generalize ChanR.f c = f at *
  generalize ChanR.t c = t at *
  generalize ChanR.z c = z at *
  generalize ChanR.d c = d at *
  generalize ChanR.y c = y at *
  have w1 : IntKind.i64.wrap f = f := IntWalk.i64_in _ (by omega)
  have w2 : IntKind.i64.wrap t = t := IntWalk.i64_in _ (by omega)
  have w3 : IntKind.i64.wrap z = z := IntWalk.i64_in _ (by omega)
  have w4 : IntKind.i64.wrap d = d := IntWalk.i64_in _ (by omega)
  by_cases hk1 : k = 1
  · have n1 : (k == 1) = true := beq_iff_eq.2 hk1
    subst hk1
    by_cases hd : d = 0
    · have n2 : (d == 0) = true := beq_iff_eq.2 hd
      have n3 : (d != 0) = false := by simp [hd]
      by_cases hy : y = 0
      · have n4 : (y == 0) = true := beq_iff_eq.2 hy
        subst hy hd
        go_enter Tryd.func79, Tryd.ntmps79
        go_wp2_with fail
        go_ret
        exact ⟨ret_bool (by first | (simp []; done) | (simp []; omega) | (rw [Bool.eq_iff_iff]; simp []; omega)), lone _ _⟩
      · have n4 : (y == 0) = false := beq_eq_false_iff_ne.2 hy
        have n5 : 0 < y := by omega
        have HY := Aside.mk hy
        clear hy
        subst hd
        by_cases h5 : f < np
        · by_cases h6 : t < np
          · by_cases h7 : f = t
            · have h7b : (f == t) = true := beq_iff_eq.2 h7
              subst h7
              go_enter Tryd.func79, Tryd.ntmps79
              go_wp2_with fail
              refine (within_any 1 1 16 _).mono ?_
              rintro e w9 ⟨rfl, rfl⟩
              go_wp2_with fail
              go_ret
              exact ⟨ret_bool (by first | (simp [n5, h5]; done) | (simp [n5, h5]; omega) | (rw [Bool.eq_iff_iff]; simp [n5, h5]; omega)), lone _ _⟩
            · have h7b : (f == t) = false := beq_eq_false_iff_ne.2 h7
              have h7c : (f != t) = true := by simp [h7]
              by_cases h8 : 1 ≤ z
              · by_cases h9 : z ≤ 32
                · have H := Aside.mk h7; clear h7
                  go_enter Tryd.func79, Tryd.ntmps79
                  go_wp2_with fail
                  refine (within_any 1 1 16 _).mono ?_
                  rintro e w9 ⟨rfl, rfl⟩
                  go_wp2_with fail
                  refine (within_any z 1 32 _).mono ?_
                  rintro e w9 ⟨rfl, rfl⟩
                  go_wp2_with fail
                  go_ret
                  exact ⟨ret_bool (by first | (simp [n5, h5, h6, H.out, h8, h9]; done) | (simp [n5, h5, h6, H.out, h8, h9]; omega) | (rw [Bool.eq_iff_iff]; simp [n5, h5, h6, H.out, h8, h9]; omega)), lone _ _⟩
                · have H := Aside.mk h7; clear h7
                  go_enter Tryd.func79, Tryd.ntmps79
                  go_wp2_with fail
                  refine (within_any 1 1 16 _).mono ?_
                  rintro e w9 ⟨rfl, rfl⟩
                  go_wp2_with fail
                  refine (within_any z 1 32 _).mono ?_
                  rintro e w9 ⟨rfl, rfl⟩
                  go_wp2_with fail
                  go_ret
                  exact ⟨ret_bool (by first | (simp [n5, h5, h6, H.out, h8, h9]; done) | (simp [n5, h5, h6, H.out, h8, h9]; omega) | (rw [Bool.eq_iff_iff]; simp [n5, h5, h6, H.out, h8, h9]; omega)), lone _ _⟩
              · have H := Aside.mk h7; clear h7
                go_enter Tryd.func79, Tryd.ntmps79
                go_wp2_with fail
                refine (within_any 1 1 16 _).mono ?_
                rintro e w9 ⟨rfl, rfl⟩
                go_wp2_with fail
                refine (within_any z 1 32 _).mono ?_
                rintro e w9 ⟨rfl, rfl⟩
                go_wp2_with fail
                go_ret
                exact ⟨ret_bool (by first | (simp [n5, h5, h6, H.out, h8]; done) | (simp [n5, h5, h6, H.out, h8]; omega) | (rw [Bool.eq_iff_iff]; simp [n5, h5, h6, H.out, h8]; omega)), lone _ _⟩
          · skip
            go_enter Tryd.func79, Tryd.ntmps79
            go_wp2_with fail
            refine (within_any 1 1 16 _).mono ?_
            rintro e w9 ⟨rfl, rfl⟩
            go_wp2_with fail
            go_ret
            exact ⟨ret_bool (by first | (simp [n5, h5, h6]; done) | (simp [n5, h5, h6]; omega) | (rw [Bool.eq_iff_iff]; simp [n5, h5, h6]; omega)), lone _ _⟩
        · skip
          go_enter Tryd.func79, Tryd.ntmps79
          go_wp2_with fail
          refine (within_any 1 1 16 _).mono ?_
          rintro e w9 ⟨rfl, rfl⟩
          go_wp2_with fail
          go_ret
          exact ⟨ret_bool (by first | (simp [n5, h5]; done) | (simp [n5, h5]; omega) | (rw [Bool.eq_iff_iff]; simp [n5, h5]; omega)), lone _ _⟩
    · have n2 : (d == 0) = false := beq_eq_false_iff_ne.2 hd
      have n3 : (d != 0) = true := by simp [hd]
      have HD := Aside.mk hd; clear hd
      go_enter Tryd.func79, Tryd.ntmps79
      go_wp2_with fail
      go_ret
      exact ⟨ret_bool (by first | (simp [HD.out]; done) | (simp [HD.out]; omega) | (rw [Bool.eq_iff_iff]; simp [HD.out]; omega)), lone _ _⟩
  · have n1 : (k == 1) = false := beq_eq_false_iff_ne.2 hk1
    by_cases hk0 : k = 0
    · have n0 : (k == 0) = true := beq_iff_eq.2 hk0
      subst hk0
      clear hk1
      by_cases hy : y = 0
      · have n4 : (y == 0) = true := beq_iff_eq.2 hy
        subst hy
        by_cases h1 : 1 ≤ d
        · by_cases h2 : d ≤ 16
          · have hp := pow_bits d h1 h2
            have w5 : IntKind.u8.wrap (d - 1) = d - 1 := IntWalk.u8_in _ (by omega)
            obtain ⟨r, hr⟩ : ∃ r, Go.bits .and .u8 d (d - 1) = r := ⟨_, rfl⟩
            rw [hr] at hp
            by_cases h3 : r = 0
            · have H3 := Aside.mk (hp.1 h3)
              have n5 : (r == 0) = true := beq_iff_eq.2 h3
              clear hp
              subst h3
              by_cases h5 : f < np
              · by_cases h6 : t < np
                · by_cases h7 : f = t
                  · have h7b : (f == t) = true := beq_iff_eq.2 h7
                    subst h7
                    go_enter Tryd.func79, Tryd.ntmps79
                    go_wp2_with fail
                    refine (within_any d 1 16 _).mono ?_
                    rintro e w9 ⟨rfl, rfl⟩
                    go_wp2_with fail
                    go_ret
                    exact ⟨ret_bool (by have H4 := H3.out; first | (simp [h5]; done) | (simp [h5]; omega) | (rw [Bool.eq_iff_iff]; simp [h5]; omega)), lone _ _⟩
                  · have h7b : (f == t) = false := beq_eq_false_iff_ne.2 h7
                    have h7c : (f != t) = true := by simp [h7]
                    by_cases h8 : 1 ≤ z
                    · by_cases h9 : z ≤ 32
                      · have H := Aside.mk h7; clear h7
                        go_enter Tryd.func79, Tryd.ntmps79
                        go_wp2_with fail
                        refine (within_any d 1 16 _).mono ?_
                        rintro e w9 ⟨rfl, rfl⟩
                        go_wp2_with fail
                        refine (within_any z 1 32 _).mono ?_
                        rintro e w9 ⟨rfl, rfl⟩
                        go_wp2_with fail
                        go_ret
                        exact ⟨ret_bool (by have H4 := H3.out; first | (simp [h5, h6, H.out, h8, h9]; done) | (simp [h5, h6, H.out, h8, h9]; omega) | (rw [Bool.eq_iff_iff]; simp [h5, h6, H.out, h8, h9]; omega)), lone _ _⟩
                      · have H := Aside.mk h7; clear h7
                        go_enter Tryd.func79, Tryd.ntmps79
                        go_wp2_with fail
                        refine (within_any d 1 16 _).mono ?_
                        rintro e w9 ⟨rfl, rfl⟩
                        go_wp2_with fail
                        refine (within_any z 1 32 _).mono ?_
                        rintro e w9 ⟨rfl, rfl⟩
                        go_wp2_with fail
                        go_ret
                        exact ⟨ret_bool (by have H4 := H3.out; first | (simp [h5, h6, H.out, h8, h9]; done) | (simp [h5, h6, H.out, h8, h9]; omega) | (rw [Bool.eq_iff_iff]; simp [h5, h6, H.out, h8, h9]; omega)), lone _ _⟩
                    · have H := Aside.mk h7; clear h7
                      go_enter Tryd.func79, Tryd.ntmps79
                      go_wp2_with fail
                      refine (within_any d 1 16 _).mono ?_
                      rintro e w9 ⟨rfl, rfl⟩
                      go_wp2_with fail
                      refine (within_any z 1 32 _).mono ?_
                      rintro e w9 ⟨rfl, rfl⟩
                      go_wp2_with fail
                      go_ret
                      exact ⟨ret_bool (by have H4 := H3.out; first | (simp [h5, h6, H.out, h8]; done) | (simp [h5, h6, H.out, h8]; omega) | (rw [Bool.eq_iff_iff]; simp [h5, h6, H.out, h8]; omega)), lone _ _⟩
                · skip
                  go_enter Tryd.func79, Tryd.ntmps79
                  go_wp2_with fail
                  refine (within_any d 1 16 _).mono ?_
                  rintro e w9 ⟨rfl, rfl⟩
                  go_wp2_with fail
                  go_ret
                  exact ⟨ret_bool (by have H4 := H3.out; first | (simp [h5, h6]; done) | (simp [h5, h6]; omega) | (rw [Bool.eq_iff_iff]; simp [h5, h6]; omega)), lone _ _⟩
              · skip
                go_enter Tryd.func79, Tryd.ntmps79
                go_wp2_with fail
                refine (within_any d 1 16 _).mono ?_
                rintro e w9 ⟨rfl, rfl⟩
                go_wp2_with fail
                go_ret
                exact ⟨ret_bool (by have H4 := H3.out; first | (simp [h5]; done) | (simp [h5]; omega) | (rw [Bool.eq_iff_iff]; simp [h5]; omega)), lone _ _⟩
            · have H3 : Aside (¬ (d = 1 ∨ d = 2 ∨ d = 4 ∨ d = 8 ∨ d = 16)) := ⟨fun q => h3 (hp.2 q)⟩
              have n5 : (r == 0) = false := beq_eq_false_iff_ne.2 h3
              clear hp h3
              go_enter Tryd.func79, Tryd.ntmps79
              go_wp2_with fail
              refine (within_any d 1 16 _).mono ?_
              rintro e w9 ⟨rfl, rfl⟩
              go_wp2_with fail
              go_ret
              exact ⟨ret_bool (by have H4 := H3.out; first | (simp []; done) | (simp []; omega) | (rw [Bool.eq_iff_iff]; simp []; omega)), lone _ _⟩
          · skip
            go_enter Tryd.func79, Tryd.ntmps79
            go_wp2_with fail
            refine (within_any d 1 16 _).mono ?_
            rintro e w9 ⟨rfl, rfl⟩
            go_wp2_with fail
            go_ret
            exact ⟨ret_bool (by first | (simp [show ¬ (d = 1 ∨ d = 2 ∨ d = 4 ∨ d = 8 ∨ d = 16) by omega]; done) | (simp [show ¬ (d = 1 ∨ d = 2 ∨ d = 4 ∨ d = 8 ∨ d = 16) by omega]; omega) | (rw [Bool.eq_iff_iff]; simp [show ¬ (d = 1 ∨ d = 2 ∨ d = 4 ∨ d = 8 ∨ d = 16) by omega]; omega)), lone _ _⟩
        · skip
          go_enter Tryd.func79, Tryd.ntmps79
          go_wp2_with fail
          refine (within_any d 1 16 _).mono ?_
          rintro e w9 ⟨rfl, rfl⟩
          go_wp2_with fail
          go_ret
          exact ⟨ret_bool (by first | (simp [show ¬ (d = 1 ∨ d = 2 ∨ d = 4 ∨ d = 8 ∨ d = 16) by omega]; done) | (simp [show ¬ (d = 1 ∨ d = 2 ∨ d = 4 ∨ d = 8 ∨ d = 16) by omega]; omega) | (rw [Bool.eq_iff_iff]; simp [show ¬ (d = 1 ∨ d = 2 ∨ d = 4 ∨ d = 8 ∨ d = 16) by omega]; omega)), lone _ _⟩
      · have n4 : (y == 0) = false := beq_eq_false_iff_ne.2 hy
        have HY := Aside.mk hy; clear hy
        go_enter Tryd.func79, Tryd.ntmps79
        go_wp2_with fail
        go_ret
        exact ⟨ret_bool (by first | (simp [HY.out]; done) | (simp [HY.out]; omega) | (rw [Bool.eq_iff_iff]; simp [HY.out]; omega)), lone _ _⟩
    · have n0 : (k == 0) = false := beq_eq_false_iff_ne.2 hk0
      have H0 := Aside.mk (And.intro hk0 hk1); clear hk0 hk1
      go_enter Tryd.func79, Tryd.ntmps79
      go_wp2_with fail
      go_ret
      exact ⟨ret_bool (by first | (simp [H0.out.1, H0.out.2]; done) | (simp [H0.out.1, H0.out.2]; omega) | (rw [Bool.eq_iff_iff]; simp [H0.out.1, H0.out.2]; omega)), lone _ _⟩
end Go.Proofs.YtidjkhmlpgkaaaaDoor
