/- The program's rules: Check. -/
import Derived.Test.YtpcjjmjmigibhaaDoorChkJ
namespace Go.Proofs.YtpcjjmjmigibhaaDoor
open Go.RowKit
set_option linter.unusedVariables false
set_option linter.unusedSimpArgs false

theorem wins_ok {w : World} {v : Value} {L : List Win} (h : Wins w v L) : ∀ x ∈ L, Win.Ok x := by
  intro x hx
  obtain ⟨i, hi, rfl⟩ := List.getElem_of_mem hx
  obtain ⟨a, c, rfl, _⟩ := h.len
  exact (h.at_ i _ (List.getElem?_eq_getElem hi)).choose_spec.2.2.2.2.2
theorem plan_ok {w : World} {v : Value} {P : Plan} (h : PlanV w v P) : ∀ L ∈ Plan.cores P, ∀ x ∈ L, Win.Ok x := by
  intro L hL
  obtain ⟨c, hc, rfl⟩ := List.getElem_of_mem hL
  obtain ⟨a0, n0, c0, a1, n1, c1, a2, n2, c2, a3, n3, c3, rfl, hp⟩ := h
  obtain ⟨_, lv, _, _, hw⟩ := hp.cores.at_ c _ (List.getElem?_eq_getElem hc)
  exact wins_ok hw
theorem errF_cases {w : World} {q : Option Flt} {v : Value} (h : ErrF w q v) : (q = none ∧ v = .nilIface) ∨ (q ≠ none ∧ ∃ f, v = .iface 57 (.pointer (some ⟨f, 0, none⟩))) := by
  cases q with
  | none => exact .inl ⟨rfl, h⟩
  | some x => obtain ⟨f, hf, _⟩ := h; exact .inr ⟨by simp, f, hf⟩
theorem callFunc_s1 (args : Array Value) (w : World) : (callFunc 21 args).run Tryd.prog w = .ok (.enter 21 args) w := by kernel_rfl
theorem callFunc_s2 (args : Array Value) (w : World) : (callFunc 22 args).run Tryd.prog w = .ok (.enter 22 args) w := by kernel_rfl
theorem callFunc_s3 (args : Array Value) (w : World) : (callFunc 23 args).run Tryd.prog w = .ok (.enter 23 args) w := by kernel_rfl
theorem callFunc_s4 (args : Array Value) (w : World) : (callFunc 24 args).run Tryd.prog w = .ok (.enter 24 args) w := by kernel_rfl
theorem callFunc_s5 (args : Array Value) (w : World) : (callFunc 25 args).run Tryd.prog w = .ok (.enter 25 args) w := by kernel_rfl
theorem callFunc_s6 (args : Array Value) (w : World) : (callFunc 26 args).run Tryd.prog w = .ok (.enter 26 args) w := by kernel_rfl
theorem look0 (W : World) : (Instr.index 63 (.agg #[.func (.func 21) #[] #[], .func (.func 22) #[] #[], .func (.func 23) #[] #[], .func (.func 24) #[] #[], .func (.func 25) #[] #[], .func (.func 26) #[] #[]]) (.int .i64 0)).run Tryd.prog W = .ok (.func (.func 21) #[] #[]) W := by kernel_rfl
theorem look1 (W : World) : (Instr.index 63 (.agg #[.func (.func 21) #[] #[], .func (.func 22) #[] #[], .func (.func 23) #[] #[], .func (.func 24) #[] #[], .func (.func 25) #[] #[], .func (.func 26) #[] #[]]) (.int .i64 1)).run Tryd.prog W = .ok (.func (.func 22) #[] #[]) W := by kernel_rfl
theorem look2 (W : World) : (Instr.index 63 (.agg #[.func (.func 21) #[] #[], .func (.func 22) #[] #[], .func (.func 23) #[] #[], .func (.func 24) #[] #[], .func (.func 25) #[] #[], .func (.func 26) #[] #[]]) (.int .i64 2)).run Tryd.prog W = .ok (.func (.func 23) #[] #[]) W := by kernel_rfl
theorem look3 (W : World) : (Instr.index 63 (.agg #[.func (.func 21) #[] #[], .func (.func 22) #[] #[], .func (.func 23) #[] #[], .func (.func 24) #[] #[], .func (.func 25) #[] #[], .func (.func 26) #[] #[]]) (.int .i64 3)).run Tryd.prog W = .ok (.func (.func 24) #[] #[]) W := by kernel_rfl
theorem look4 (W : World) : (Instr.index 63 (.agg #[.func (.func 21) #[] #[], .func (.func 22) #[] #[], .func (.func 23) #[] #[], .func (.func 24) #[] #[], .func (.func 25) #[] #[], .func (.func 26) #[] #[]]) (.int .i64 4)).run Tryd.prog W = .ok (.func (.func 25) #[] #[]) W := by kernel_rfl
theorem look5 (W : World) : (Instr.index 63 (.agg #[.func (.func 21) #[] #[], .func (.func 22) #[] #[], .func (.func 23) #[] #[], .func (.func 24) #[] #[], .func (.func 25) #[] #[], .func (.func 26) #[] #[]]) (.int .i64 5)).run Tryd.prog W = .ok (.func (.func 26) #[] #[]) W := by kernel_rfl
theorem orElse_pos {a : Option Flt} (h : a ≠ none) (b : Option Flt) : orElseF a b = a := by
  cases a with
  | none => exact absurd rfl h
  | some x => rfl
set_option maxHeartbeats 6400000 in
set_option maxRecDepth 100000 in
theorem pcheck_any (w : World) (v : Value) (P : Plan) (hv : PlanV w v P) : Calls Tryd.prog 12 #[v] w (ErrR w (checkO P)) := by
  have hv0 := hv
  have hok := plan_ok hv
  have CS := Aside.mk (check_split P (fun L hL x hx => (hok L hL x hx).s.1))
  obtain ⟨a0, n0, c0, a1, n1, c1, a2, n2, c2, a3, n3, c3, rfl, hp⟩ := hv
  have K1 := Aside.mk (fun W (h : Below w.heap.size w W) => sizes_any W _ P (hv0.below h))
  have K2 := Aside.mk (fun W (h : Below w.heap.size w W) (hs : sizesO P = none) => windows_any W _ P (hv0.below h) (sizes_none hs).1 (sizes_none hs).2.2)
  have K3 := Aside.mk (fun W (h : Below w.heap.size w W) (hs : sizesO P = none) => pairs_any W _ P (hv0.below h) (sizes_none hs).1 (sizes_none hs).2.2)
  have K4 := Aside.mk (fun W (h : Below w.heap.size w W) (hs : sizesO P = none) => excluded_any W _ P (hv0.below h) (sizes_none hs).1 (sizes_none hs).2.2)
  have K5 := Aside.mk (fun W (h : Below w.heap.size w W) => channels_any W _ P (hv0.below h))
  have K6 := Aside.mk (fun W (h : Below w.heap.size w W) => objects_any W _ P (hv0.below h))
  generalize checkO P = co at *
  generalize sizesO P = q1 at *
  generalize eachF (windowsN (Plan.frame P) ((Plan.parts P).length : Int) (Plan.cores P)) (Plan.cores P) = q2 at *
  generalize eachF (pairsN (Plan.cores P)) (Plan.cores P) = q3 at *
  generalize scan (pairF ((Plan.parts P).length : Int) (allS (Plan.cores P)) (Plan.pairs P)) (Plan.pairs P).length = q4 at *
  generalize scan (chanF ((Plan.parts P).length : Int) (Plan.chans P)) (Plan.chans P).length = q5 at *
  generalize scan (partF (Plan.parts P)) (Plan.parts P).length = q6 at *
  generalize Plan.frame P = fr at *
  obtain ⟨W1, HW⟩ : ∃ W1, Aside (W1 = w.alloc (.cells #[.int .u16 fr, .slice a0 n0 c0, .slice a1 n1 c1, .slice a2 n2 c2, .slice a3 n3 c3] 28)) := ⟨_, ⟨rfl⟩⟩
  have hb1 : Aside (Below w.heap.size w W1 ∧ W1.heap[w.heap.size]? = some (.cells #[.int .u16 fr, .slice a0 n0 c0, .slice a1 n1 c1, .slice a2 n2 c2, .slice a3 n3 c3] 28 (0, 0))) := ⟨by rw [HW.out]; exact ⟨lone _ _, heap_alloc_new _ _⟩⟩
  obtain ⟨p0, p1, p2, p3, p4⟩ := lbox5 hb1.out.2
  have h1 := callFunc_s1
  have h2 := callFunc_s2
  have h3 := callFunc_s3
  have h4 := callFunc_s4
  have h5 := callFunc_s5
  have h6 := callFunc_s6
  have l0 := look0
  have l1 := look1
  have l2 := look2
  have l3 := look3
  have l4 := look4
  have l5 := look5
  clear hp hv0 hok
  go_enter Tryd.func12, Tryd.ntmps12
  go_upto_region 1 with (fail)
  rw [← HW.out]
  go_wp2_with fail
  refine wp_loop_rounds 7 ?_
  rw [rounds_succ]
  go_wp2_with fail
  refine (K1.out _ hb1.out.1).mono ?_
  rintro e w2 ⟨r, rfl, hr, b⟩
  have B2 := Aside.mk b
  clear b p0 p1 p2 p3 p4
  rcases errF_cases hr with ⟨e1, rfl⟩ | ⟨e1, f, rfl⟩
  rotate_left
  · have HV : Aside (co = q1) := ⟨by rw [CS.out, orElse_pos e1]⟩
    have HR := Aside.mk hr
    clear hr e1
    go_wp2_with fail
    go_ret
    exact ⟨_, rfl, by rw [HV.out]; exact HR.out, lthen hb1.out.1 B2.out⟩
  have CS2 : Aside (co = orElseF q2 (orElseF q3 (orElseF q4 (orElseF q5 q6)))) := ⟨by rw [CS.out, e1]; rfl⟩
  have hs1 := Aside.mk e1
  clear hr e1
  obtain ⟨p0, p1, p2, p3, p4⟩ := lbox5 (lup B2.out hb1.out.2)
  go_wp2_with fail
  rw [rounds_succ]
  go_wp2_with fail
  refine (K2.out _ (lthen hb1.out.1 B2.out) (hs1.out)).mono ?_
  rintro e w3 ⟨r, rfl, hr, b⟩
  have B3 := Aside.mk (lthen B2.out b)
  clear b p0 p1 p2 p3 p4
  rcases errF_cases hr with ⟨e1, rfl⟩ | ⟨e1, f, rfl⟩
  rotate_left
  · have HV : Aside (co = q2) := ⟨by rw [CS2.out, orElse_pos e1]⟩
    have HR := Aside.mk hr
    clear hr e1
    go_wp2_with fail
    go_ret
    exact ⟨_, rfl, by rw [HV.out]; exact HR.out, lthen hb1.out.1 B3.out⟩
  have CS3 : Aside (co = orElseF q3 (orElseF q4 (orElseF q5 q6))) := ⟨by rw [CS2.out, e1]; rfl⟩
  clear hr e1
  obtain ⟨p0, p1, p2, p3, p4⟩ := lbox5 (lup B3.out hb1.out.2)
  go_wp2_with fail
  rw [rounds_succ]
  go_wp2_with fail
  refine (K3.out _ (lthen hb1.out.1 B3.out) (hs1.out)).mono ?_
  rintro e w4 ⟨r, rfl, hr, b⟩
  have B4 := Aside.mk (lthen B3.out b)
  clear b p0 p1 p2 p3 p4
  rcases errF_cases hr with ⟨e1, rfl⟩ | ⟨e1, f, rfl⟩
  rotate_left
  · have HV : Aside (co = q3) := ⟨by rw [CS3.out, orElse_pos e1]⟩
    have HR := Aside.mk hr
    clear hr e1
    go_wp2_with fail
    go_ret
    exact ⟨_, rfl, by rw [HV.out]; exact HR.out, lthen hb1.out.1 B4.out⟩
  have CS4 : Aside (co = orElseF q4 (orElseF q5 q6)) := ⟨by rw [CS3.out, e1]; rfl⟩
  clear hr e1
  obtain ⟨p0, p1, p2, p3, p4⟩ := lbox5 (lup B4.out hb1.out.2)
  go_wp2_with fail
  rw [rounds_succ]
  go_wp2_with fail
  refine (K4.out _ (lthen hb1.out.1 B4.out) (hs1.out)).mono ?_
  rintro e w5 ⟨r, rfl, hr, b⟩
  have B5 := Aside.mk (lthen B4.out b)
  clear b p0 p1 p2 p3 p4
  rcases errF_cases hr with ⟨e1, rfl⟩ | ⟨e1, f, rfl⟩
  rotate_left
  · have HV : Aside (co = q4) := ⟨by rw [CS4.out, orElse_pos e1]⟩
    have HR := Aside.mk hr
    clear hr e1
    go_wp2_with fail
    go_ret
    exact ⟨_, rfl, by rw [HV.out]; exact HR.out, lthen hb1.out.1 B5.out⟩
  have CS5 : Aside (co = orElseF q5 q6) := ⟨by rw [CS4.out, e1]; rfl⟩
  clear hr e1
  obtain ⟨p0, p1, p2, p3, p4⟩ := lbox5 (lup B5.out hb1.out.2)
  go_wp2_with fail
  rw [rounds_succ]
  go_wp2_with fail
  refine (K5.out _ (lthen hb1.out.1 B5.out)).mono ?_
  rintro e w6 ⟨r, rfl, hr, b⟩
  have B6 := Aside.mk (lthen B5.out b)
  clear b p0 p1 p2 p3 p4
  rcases errF_cases hr with ⟨e1, rfl⟩ | ⟨e1, f, rfl⟩
  rotate_left
  · have HV : Aside (co = q5) := ⟨by rw [CS5.out, orElse_pos e1]⟩
    have HR := Aside.mk hr
    clear hr e1
    go_wp2_with fail
    go_ret
    exact ⟨_, rfl, by rw [HV.out]; exact HR.out, lthen hb1.out.1 B6.out⟩
  have CS6 : Aside (co = q6) := ⟨by rw [CS5.out, e1]; rfl⟩
  clear hr e1
  obtain ⟨p0, p1, p2, p3, p4⟩ := lbox5 (lup B6.out hb1.out.2)
  go_wp2_with fail
  rw [rounds_succ]
  go_wp2_with fail
  refine (K6.out _ (lthen hb1.out.1 B6.out)).mono ?_
  rintro e w7 ⟨r, rfl, hr, b⟩
  have B7 := Aside.mk (lthen B6.out b)
  clear b p0 p1 p2 p3 p4
  rcases errF_cases hr with ⟨e1, rfl⟩ | ⟨e1, f, rfl⟩
  rotate_left
  · have HR := Aside.mk hr
    clear hr e1
    go_wp2_with fail
    go_ret
    exact ⟨_, rfl, by rw [CS6.out]; exact HR.out, lthen hb1.out.1 B7.out⟩
  have HV : Aside (co = none) := ⟨by rw [CS6.out, e1]⟩
  clear hr e1
  go_wp2_with fail
  rw [rounds_succ]
  go_wp2_with fail
  go_ret
  exact ⟨_, rfl, by rw [HV.out]; rfl, lthen hb1.out.1 B7.out⟩
end Go.Proofs.YtpcjjmjmigibhaaDoor
