/- Layer 24's laws: small. Layer 24's laws: is. Layer 24's laws: the chapter's example. Layer 24's laws: awake. -/
import Derived.Test.YtidjkhmlpgkaaaaDoorMgSd
import Derived.IntWalk
namespace Go.Proofs.YtidjkhmlpgkaaaaDoor
open Go.RowKit
set_option linter.unusedVariables false
set_option linter.unusedSimpArgs false

/-- No slice of a plan weighs more than the reach. -/
structure Sz (P : Plan) : Prop where
  c : (Plan.cores P).length ≤ 140737488351232
  a : (Plan.parts P).length ≤ 140737488351232
  h : (Plan.chans P).length ≤ 140737488351232
  q : (Plan.pairs P).length ≤ 140737488351232
  cs : ∀ L ∈ Plan.cores P, L.length ≤ 140737488351232
  s : ∀ x ∈ Plan.parts P, (PartR.sems x).length ≤ 140737488351232 ∧ (PartR.procs x).length ≤ 140737488351232
theorem sz_of {P : Plan} (h : rd28.S P) : Sz P := by
  obtain ⟨f, C, A, H, Q, u⟩ := P
  obtain ⟨_, hC, hA, hH, hQ, _⟩ := h
  have b1 : Tryd.prog.bytesOf 87 = 6 := by kernel_rfl
  have b2 : Tryd.prog.bytesOf 143 = 2 := by kernel_rfl
  have b3 : Tryd.prog.bytesOf 5 = 1 := by kernel_rfl
  have b4 : Tryd.prog.bytesOf 45 = 24 := by kernel_rfl
  have b5 : Tryd.prog.bytesOf 77 = 64 := by kernel_rfl
  have b6 : Tryd.prog.bytesOf 129 = 8 := by kernel_rfl
  have b7 : Tryd.prog.bytesOf 90 = 2 := by kernel_rfl
  have k1 : C.length * Tryd.prog.bytesOf 45 ≤ reachBytes := hC.1
  have k2 : A.length * Tryd.prog.bytesOf 77 ≤ reachBytes := hA.1
  have k3 : H.length * Tryd.prog.bytesOf 129 ≤ reachBytes := hH.1
  have k4 : Q.length * Tryd.prog.bytesOf 90 ≤ reachBytes := hQ.1
  rw [b4] at k1
  rw [b5] at k2
  rw [b6] at k3
  rw [b7] at k4
  simp only [reachBytes] at k1 k2 k3 k4
  refine ⟨by show C.length ≤ _; omega, by show A.length ≤ _; omega, by show H.length ≤ _; omega, by show Q.length ≤ _; omega, fun L hL => ?_, fun x hx => ?_⟩
  · have h1 : L.length * Tryd.prog.bytesOf 87 ≤ reachBytes := (hC.2 L hL).1
    rw [b1] at h1
    simp only [reachBytes] at h1
    omega
  · obtain ⟨S, e, p, acts, u⟩ := x
    obtain ⟨h1, _, h2, _⟩ := hA.2 _ hx
    have h1 : S.length * Tryd.prog.bytesOf 143 ≤ reachBytes := h1.1
    have h2 : p.length * Tryd.prog.bytesOf 5 ≤ reachBytes := h2.1
    rw [b2] at h1
    rw [b3] at h2
    simp only [reachBytes] at h1 h2
    show S.length ≤ _ ∧ p.length ≤ _
    omega
def lsum {α : Type} (f : α → Nat) (l : List α) : Nat := (l.map f).sum
theorem lsum_snoc {α : Type} (f : α → Nat) (l : List α) (x : α) : lsum f (l ++ [x]) = lsum f l + f x := by simp [lsum]
theorem lsum_mem {α : Type} (f : α → Nat) (l : List α) (x : α) (h : x ∈ l) : f x ≤ lsum f l := by
  induction l with
  | nil => cases h
  | cons y l ih =>
    have e : lsum f (y :: l) = f y + lsum f l := by simp [lsum]
    rcases List.mem_cons.1 h with rfl | h
    · omega
    · have := ih h; omega

theorem lsum_le8 (C : List (List Win)) (h : ∀ L ∈ C, L.length ≤ 140737488351232) (k : Nat) (hk : k ≤ C.length) : lsum List.length (C.take k) ≤ k * 140737488351232 := by
  induction k with
  | zero => simp [lsum]
  | succ k ih =>
    have hl := List.getElem?_eq_getElem (show k < C.length by omega)
    rw [take_snoc hl, lsum_snoc]
    have := h _ (List.getElem_mem (show k < C.length by omega))
    have := ih (by omega)
    omega
/-- small: some bool; true only of a plan that isn't too great. -/
def SmR (w : World) (P : Plan) (e : Ending) (w' : World) : Prop := ∃ b, e = .returned (.bool b) ∧ (b = true → Few P) ∧ Below w.heap.size w w'
set_option maxHeartbeats 3200000 in
theorem small_any (w : World) (v : Value) (P : Plan) (hv : PlanV w v P) (hz : Sz P) : Calls Tryd.prog 9 #[v] w (SmR w P) := by
  have HZ := Aside.mk hz
  obtain ⟨a0, c0, a1, c1, a2, c2, a3, c3, rfl, hp, hlen⟩ := hv.open_
  have HC := Aside.mk hp.cores
  have HA := Aside.mk hp.parts
  obtain ⟨zc, za, zh, zq, _, _⟩ := hz
  have HF : Aside ((Plan.cores P).length ≤ 8 → (Plan.parts P).length ≤ 20 → (Plan.chans P).length ≤ 20 → (Plan.pairs P).length ≤ 20 → lsum List.length (Plan.cores P) ≤ 80 → (∀ k x, (Plan.parts P)[k]? = some x → (PartR.sems x).length ≤ 40 ∧ (PartR.procs x).length ≤ 40) → Few P) := ⟨fun a b c d e f => ⟨a, b, c, d, fun L hL => by have := lsum_mem List.length _ L hL; omega, fun x hx => by obtain ⟨k, hk, q⟩ := List.mem_iff_getElem.1 hx; exact f k x (by rw [List.getElem?_eq_getElem hk, q])⟩⟩
  have HCs : Aside (∀ L ∈ Plan.cores P, L.length ≤ 140737488351232) := ⟨HZ.out.cs⟩
  clear hp hv
  obtain ⟨fr, hfr⟩ : ∃ fr, Plan.frame P = fr := ⟨_, rfl⟩
  rw [hfr]
  clear hfr
  generalize Plan.cores P = C at *
  generalize Plan.parts P = A at *
  generalize (Plan.chans P).length = nh at *
  generalize (Plan.pairs P).length = nq at *
  obtain ⟨W1, HW⟩ : ∃ W1, Aside (W1 = w.alloc (.cells #[.int .u16 fr, .slice a0 C.length c0, .slice a1 A.length c1, .slice a2 nh c2, .slice a3 nq c3] 28)) := ⟨_, ⟨rfl⟩⟩
  have hb1 : Aside (Below w.heap.size w W1 ∧ W1.heap[w.heap.size]? = some (.cells #[.int .u16 fr, .slice a0 C.length c0, .slice a1 A.length c1, .slice a2 nh c2, .slice a3 nq c3] 28 (0, 0))) := ⟨by rw [HW.out]; exact ⟨bel_one _ _, heap_alloc_new _ _⟩⟩
  obtain ⟨p0, p1, p2, p3, p4⟩ := lbox5 hb1.out.2
  by_cases q1 : 8 < C.length
  · go_enter Tryd.func9, Tryd.ntmps9
    go_upto_region 1 with (fail)
    rw [← HW.out]
    go_wp2_with fail
    go_ret
    exact ⟨_, rfl, (fun h => by cases h), hb1.out.1⟩
  by_cases q2 : 20 < A.length
  · go_enter Tryd.func9, Tryd.ntmps9
    go_upto_region 1 with (fail)
    rw [← HW.out]
    go_wp2_with fail
    go_ret
    exact ⟨_, rfl, (fun h => by cases h), hb1.out.1⟩
  by_cases q3 : 20 < nh
  · go_enter Tryd.func9, Tryd.ntmps9
    go_upto_region 1 with (fail)
    rw [← HW.out]
    go_wp2_with fail
    go_ret
    exact ⟨_, rfl, (fun h => by cases h), hb1.out.1⟩
  by_cases q4 : 20 < nq
  · go_enter Tryd.func9, Tryd.ntmps9
    go_upto_region 1 with (fail)
    rw [← HW.out]
    go_wp2_with fail
    go_ret
    exact ⟨_, rfl, (fun h => by cases h), hb1.out.1⟩
  have HG := Aside.mk (HF.out (by omega) (by omega) (by omega) (by omega))
  go_enter Tryd.func9, Tryd.ntmps9
  go_upto_region 1 with (fail)
  rw [← HW.out]
  go_wp2_with fail
  go_loop [3, 4] (fun s i => ∃ (k m : Nat), k ≤ C.length ∧ s = .int .i64 m ∧ i = .int .i64 k ∧ m ≤ k * 140737488351232 ∧ Aside (m = lsum List.length (C.take k))) (fun _ i => C.length - (intOf i).toNat)
  case atStart => exact ⟨0, 0, by omega, rfl, rfl, by omega, ⟨by simp [lsum]⟩⟩
  case round =>
    obtain ⟨k, m, hk, rfl, rfl, hm, S⟩ := hrel
    by_cases hkl : k < C.length
    · have hl := List.getElem?_eq_getElem hkl
      obtain ⟨L, hL⟩ : ∃ L, C[k] = L := ⟨_, rfl⟩
      rw [hL] at hl
      have hLs := HCs.out L (List.mem_of_getElem? hl)
      have HT : Aside (lsum List.length (C.take (k + 1)) = lsum List.length (C.take k) + L.length) := ⟨by rw [take_snoc hl, lsum_snoc]⟩
      obtain ⟨ad, lv, rfl, hlv, hwins⟩ := (HC.out.below hb1.out.1).at_ k L hl
      obtain ⟨la, lc, rfl, hlL⟩ := hwins.len
      have hs : IntKind.i64.wrap ((m : Int) + (L.length : Int)) = ((m + L.length : Nat) : Int) := by rw [← Int.natCast_add]; exact IntWalk.i64_in _ (by omega)
      clear hl hL hwins
      go_wp2_with fail
      go_round
      case rel => exact ⟨k + 1, m + L.length, by omega, by go_num, by go_num, by omega, ⟨by rw [HT.out, S.out]⟩⟩
      case measure => simp [intOf]; omega
    · obtain rfl : k = C.length := by omega
      have HM : Aside (m = lsum List.length C) := ⟨by have := S.out; rwa [List.take_length] at this⟩
      clear S
      go_wp2_with fail
      go_loop [5] (fun i => ∃ k : Nat, k ≤ A.length ∧ i = .int .i64 k ∧ Aside (∀ j x, j < k → A[j]? = some x → (PartR.sems x).length ≤ 40 ∧ (PartR.procs x).length ≤ 40)) (fun i => A.length - (intOf i).toNat)
      case atStart => exact ⟨0, by omega, rfl, ⟨fun j x hj => by omega⟩⟩
      case round =>
        obtain ⟨k, hk, rfl, S⟩ := hrel
        by_cases hkl2 : k < A.length
        · have hl := List.getElem?_eq_getElem hkl2
          obtain ⟨X, hX⟩ : ∃ X, A[k] = X := ⟨_, rfl⟩
          rw [hX] at hl
          have HLX := Aside.mk hl
          obtain ⟨ad, sv, pv, rfl, e0, e1, e2, e3, e4, e5, pa⟩ := (show Parts W1 (.slice a1 A.length c1) A from elems_below HA.out hb1.out.1).at_ k X hl
          obtain ⟨sa, sc, pa', pc, rfl, rfl, hsl, hpl⟩ := pa.lens
          clear hl hX pa
          by_cases h40 : 40 < (PartR.sems X).length
          · go_wp2_with fail
            go_ret
            exact ⟨_, rfl, (fun h => by cases h), hb1.out.1⟩
          · by_cases h41 : 40 < (PartR.procs X).length
            · go_wp2_with fail
              go_ret
              exact ⟨_, rfl, (fun h => by cases h), hb1.out.1⟩
            · have SN : Aside (∀ j x, j < k + 1 → A[j]? = some x → (PartR.sems x).length ≤ 40 ∧ (PartR.procs x).length ≤ 40) := ⟨fun j x hj hx => by
                rcases Nat.lt_succ_iff_lt_or_eq.1 hj with q | rfl
                · exact S.out j x q hx
                · rw [HLX.out] at hx; injection hx with hx; subst hx; omega⟩
              go_wp2_with fail
              go_round
              case rel => exact ⟨k + 1, by omega, by go_num, SN⟩
              case measure => simp [intOf]; omega
        · obtain rfl : k = A.length := by omega
          by_cases h80 : m ≤ 80
          · have h80' : (m : Int) ≤ 80 := by omega
            go_wp2_with fail
            go_ret
            exact ⟨_, rfl, fun _ => HG.out (by rw [← HM.out]; exact h80) (fun j x hx => S.out j x (List.getElem?_eq_some_iff.1 hx).1 hx), hb1.out.1⟩
          · have h80' : ¬ (m : Int) ≤ 80 := by omega
            go_wp2_with fail
            go_ret
            exact ⟨_, rfl, (fun h => absurd h (by first | (simp; done) | (simp; omega))), hb1.out.1⟩
end Go.Proofs.YtidjkhmlpgkaaaaDoor

namespace Go.Proofs.YtidjkhmlpgkaaaaDoor
open Go.RowKit
set_option linter.unusedVariables false
set_option linter.unusedSimpArgs false

def isS (C : List (List Win)) (s : Sq) (c st p : Int) : Bool := decide (coreE C c = 0) && decide ((coreA C s c).1 = st) && decide ((coreA C s c).2.1 = p)
set_option maxHeartbeats 1600000 in
theorem is_seq {w0 w : World} {l : Loc} {P : Plan} {s : Sq} {n : Nat} (h : SqSt w0 w l P s n) (c st p : Int) : Calls Tryd.prog 32 #[.pointer (some ⟨l.S, 0, none⟩), .int .i64 c, .int .i64 st, .int .i64 p] w fun e w' => e = .returned (.bool (isS (Plan.cores P) s c st p)) ∧ Below w.heap.size w w' := by
  have K := Aside.mk (core_any h c)
  unfold coreV at K
  unfold isS
  obtain ⟨⟨a, b, g⟩, hx⟩ : ∃ x, coreA (Plan.cores P) s c = x := ⟨_, rfl⟩
  obtain ⟨ee, he⟩ : ∃ ee, coreE (Plan.cores P) c = ee := ⟨_, rfl⟩
  rw [hx, he] at K ⊢
  clear h hx he
  by_cases e1 : ee = 0
  · subst e1
    by_cases e2 : a = st
    · subst e2
      by_cases e3 : b = p
      · subst e3
        go_enter Tryd.func32, Tryd.ntmps32
        go_wp2_with fail
        refine K.out.mono ?_
        rintro e w1 ⟨rfl, b1⟩
        go_wp2_with fail
        go_ret
        exact ⟨ret_bool (by simp), bel_alloc b1 _⟩
      · have e3b : (b == p) = false := beq_eq_false_iff_ne.2 e3
        go_enter Tryd.func32, Tryd.ntmps32
        go_wp2_with fail
        refine K.out.mono ?_
        rintro e w1 ⟨rfl, b1⟩
        go_wp2_with fail
        go_ret
        exact ⟨ret_bool (by simp [e3]), bel_alloc b1 _⟩
    · have e2b : (a == st) = false := beq_eq_false_iff_ne.2 e2
      go_enter Tryd.func32, Tryd.ntmps32
      go_wp2_with fail
      refine K.out.mono ?_
      rintro e w1 ⟨rfl, b1⟩
      go_wp2_with fail
      go_ret
      exact ⟨ret_bool (by simp [e2]), bel_alloc b1 _⟩
  · have e1b : (ee == 0) = false := beq_eq_false_iff_ne.2 e1
    go_enter Tryd.func32, Tryd.ntmps32
    go_wp2_with fail
    refine K.out.mono ?_
    rintro e w1 ⟨rfl, b1⟩
    go_wp2_with fail
    go_ret
    exact ⟨ret_bool (by simp [e1]), bel_alloc b1 _⟩
end Go.Proofs.YtidjkhmlpgkaaaaDoor

namespace Go.Proofs.YtidjkhmlpgkaaaaDoor
open Go.RowKit
set_option linter.unusedVariables false
set_option linter.unusedSimpArgs false

/-- A block whose cells are written out reads as a slice. -/
theorem elems_lit {α : Type} {w : World} {n : Nat} {R : World → List Value → α → Prop} {e : TypeId} {fr : Nat × Nat} (b : Nat) (ps : List (List Value × α)) (hn : ∀ p ∈ ps, p.1.length = n) (hb : w.heap[b]? = some (.cells (ps.flatMap (·.1)).toArray e fr)) (hR : ∀ p ∈ ps, R w p.1 p.2) (hl : ps.length ≤ 9223372036854775807) :
    Elems w n R (.slice (some ⟨b, 0, none⟩) (ps.map (·.2)).length ps.length) (ps.map (·.2)) := by
  refine ⟨some ⟨b, 0, none⟩, ps.length, rfl, by simp, hl, fun _ => ⟨_, rfl, fun i hi => ?_⟩⟩
  have hi' : i < ps.length := by simpa using hi
  refine ⟨(ps[i]).1, hn _ (List.getElem_mem _), fun j hj => ?_, by simpa using hR _ (List.getElem_mem hi')⟩
  rw [Addr.add_lit, Nat.zero_add]
  have := flatMap_getG (·.1) ps hn i hi' j hj
  simp [World.cell?, hb, this]
theorem winR {w : World} (s l p g : Int) (h1 : (Lit.int .u16 s).wf = true) (h2 : (Lit.int .u16 l).wf = true) (h3 : (Lit.int .u8 p).wf = true) (h4 : (Lit.int .u8 g).wf = true) : rd87.R w [.int .u16 s, .int .u16 l, .int .u8 p, .int .u8 g] (s, l, p, g, ()) :=
  ⟨_, _, rfl, ⟨rfl, h1⟩, _, _, rfl, ⟨rfl, h2⟩, _, _, rfl, ⟨rfl, h3⟩, _, _, rfl, ⟨rfl, h4⟩, rfl⟩
def exPartW : PartR := ([], 0, [1], [0, 0, 0], ())
def exW : Plan := (10, [[(0, 5, 0, 0, ()), (5, 5, 1, 0, ())]], [exPartW, exPartW], [], [], ())
theorem exW_check : checkO exW = none := by kernel_rfl
theorem exW_few : Few exW := ⟨by decide, by decide, by decide, by decide, by decide, by decide⟩
def ExR (w : World) (P : Plan) (e : Ending) (w' : World) : Prop := ∃ v, e = .returned v ∧ PlanV w' v P ∧ Below w.heap.size w w'
theorem example_at (W : World) (b : Nat) (h1 : W.heap[b]? = some (.cells #[.int .u8 1] 5 (0, 0)))
    (h2 : W.heap[b + 1]? = some (.cells #[.int .u16 0, .int .u16 5, .int .u8 0, .int .u8 0, .int .u16 5, .int .u16 5, .int .u8 1, .int .u8 0] 87 (0, 0)))
    (h3 : W.heap[b + 1 + 1]? = some (.cells #[.slice (some ⟨b + 1, 0, none⟩) 2 2] 45 (0, 0)))
    (h4 : W.heap[b + 1 + 1 + 1]? = some (.cells #[.slice none 0 0, .int .u8 0, .slice (some ⟨b, 0, none⟩) 1 1, .int .u8 0, .int .u8 0, .int .u8 0, .slice none 0 0, .int .u8 0, .slice (some ⟨b, 0, none⟩) 1 1, .int .u8 0, .int .u8 0, .int .u8 0] 77 (0, 0))) :
    PlanAt W (.slice (some ⟨b + 1 + 1, 0, none⟩) 1 1) (.slice (some ⟨b + 1 + 1 + 1, 0, none⟩) 2 2) (.slice none 0 0) (.slice none 0 0) exW := by
  have ep : Elems W rd5.n rd5.R (.slice (some ⟨b, 0, none⟩) 1 1) [1] :=
    elems_lit (n := rd5.n) (R := rd5.R) b [([.int .u8 1], (1 : Int))] (by intro p hp; simp at hp; subst hp; rfl) h1 (by intro p hp; simp at hp; subst hp; exact ⟨rfl, by decide⟩) (by decide)
  have es : Elems W rd143.n rd143.R (.slice none 0 0) [] := ⟨none, 0, rfl, by simp, by simp, by simp⟩
  have eq : rd77.R W [.slice none 0 0, .int .u8 0, .slice (some ⟨b, 0, none⟩) 1 1, .int .u8 0, .int .u8 0, .int .u8 0] exPartW :=
    ⟨_, _, rfl, ⟨_, rfl, es⟩, _, _, rfl, ⟨rfl, by decide⟩, _, _, rfl, ⟨_, rfl, ep⟩, [.int .u8 0, .int .u8 0, .int .u8 0], [], rfl, ⟨rfl, rfl, fun i h => by
      have : i = 0 ∨ i = 1 ∨ i = 2 := by have : i < 3 := h; omega
      rcases this with rfl | rfl | rfl <;> exact ⟨rfl, (by decide : (Lit.int .u8 0).wf = true)⟩⟩, rfl⟩
  have eps := elems_lit (n := rd77.n) (R := rd77.R) (b + 1 + 1 + 1) [([.slice none 0 0, .int .u8 0, .slice (some ⟨b, 0, none⟩) 1 1, .int .u8 0, .int .u8 0, .int .u8 0], exPartW), ([.slice none 0 0, .int .u8 0, .slice (some ⟨b, 0, none⟩) 1 1, .int .u8 0, .int .u8 0, .int .u8 0], exPartW)] (by intro p hp; simp at hp; subst hp; rfl) h4
      (by intro p hp; simp at hp; subst hp; exact eq) (by simp)
  have ews := elems_lit (n := rd87.n) (R := rd87.R) (b + 1) [([.int .u16 0, .int .u16 5, .int .u8 0, .int .u8 0], (0, 5, 0, 0, ())), ([.int .u16 5, .int .u16 5, .int .u8 1, .int .u8 0], (5, 5, 1, 0, ()))] (by intro p hp; simp at hp; rcases hp with rfl | rfl <;> rfl) h2
      (by intro p hp; simp at hp; rcases hp with rfl | rfl <;> exact winR _ _ _ _ (by decide) (by decide) (by decide) (by decide)) (by simp)
  have ecs := elems_lit (n := rd45.n) (R := rd45.R) (b + 1 + 1) [([.slice (some ⟨b + 1, 0, none⟩) 2 2], [(0, 5, 0, 0, ()), (5, 5, 1, 0, ())])] (by intro p hp; simp at hp; subst hp; rfl) h3 (by intro p hp; simp at hp; subst hp; exact ⟨_, rfl, ews⟩) (by simp)
  exact ⟨by show (0 : Int) ≤ 10 ∧ (10 : Int) ≤ 65535; decide, ecs, eps, ⟨none, 0, rfl, by simp [exW, Plan.chans], by simp, by simp [exW, Plan.chans]⟩, ⟨none, 0, rfl, by simp [exW, Plan.pairs], by simp, by simp [exW, Plan.pairs]⟩⟩
set_option maxHeartbeats 1600000 in
theorem example_any (w : World) : Calls Tryd.prog 33 #[] w (ExR w exW) := by
  obtain ⟨W, HW⟩ : ∃ W, Aside (W = ((((w.alloc (.cells #[.int .u16 10, .slice (some ⟨w.heap.size + 1 + 1 + 1, 0, none⟩) 1 1, .slice (some ⟨w.heap.size + 1 + 1 + 1 + 1, 0, none⟩) 2 2, .slice none 0 0, .slice none 0 0] 28)).alloc (.cells #[.int .u8 1] 5)).alloc
    (.cells #[.int .u16 0, .int .u16 5, .int .u8 0, .int .u8 0, .int .u16 5, .int .u16 5, .int .u8 1, .int .u8 0] 87)).alloc (.cells #[.slice (some ⟨w.heap.size + 1 + 1, 0, none⟩) 2 2] 45)).alloc
    (.cells #[.slice none 0 0, .int .u8 0, .slice (some ⟨w.heap.size + 1, 0, none⟩) 1 1, .int .u8 0, .int .u8 0, .int .u8 0, .slice none 0 0, .int .u8 0, .slice (some ⟨w.heap.size + 1, 0, none⟩) 1 1, .int .u8 0, .int .u8 0, .int .u8 0] 77)) := ⟨_, ⟨rfl⟩⟩
  have h0 : W.heap[w.heap.size]? = some (.cells #[.int .u16 10, .slice (some ⟨w.heap.size + 1 + 1 + 1, 0, none⟩) 1 1, .slice (some ⟨w.heap.size + 1 + 1 + 1 + 1, 0, none⟩) 2 2, .slice none 0 0, .slice none 0 0] 28 (0, 0)) := by rw [HW.out]; exact lheap_up (lheap_up (lheap_up (lheap_up (lheap_top _ _ _ rfl))))
  have hp := example_at W (w.heap.size + 1) (by rw [HW.out]; exact lheap_up (lheap_up (lheap_up (lheap_top _ _ _ (by simp))))) (by rw [HW.out]; exact lheap_up (lheap_up (lheap_top _ _ _ (by simp)))) (by rw [HW.out]; exact lheap_up (lheap_top _ _ _ (by simp))) (by rw [HW.out]; exact lheap_top _ _ _ (by simp))
  have hb : Below w.heap.size w W := by rw [HW.out]; exact lthen (lthen (lthen (lthen (lone _ _) (lone _ _)) (lone _ _)) (lone _ _)) (lone _ _)
  have H := Aside.mk (And.intro hp (And.intro hb h0))
  clear h0 hp hb
  go_enter Tryd.func33, Tryd.ntmps33
  go_wp2_with fail
  rw [← HW.out]
  obtain ⟨hp, hb, h0⟩ := H.out
  obtain ⟨g0, g1, g2, g3, g4⟩ := lbox5 h0
  refine bodyPost_ret (v := .agg #[.int .u16 10, .slice (some ⟨w.heap.size + 1 + 1 + 1, 0, none⟩) 1 1, .slice (some ⟨w.heap.size + 1 + 1 + 1 + 1, 0, none⟩) 2 2, .slice none 0 0, .slice none 0 0]) (by simp [results, Tryd.results33, go_sem, g0, g1, g2, g3, g4]) rfl ⟨_, rfl, ⟨_, _, _, _, _, _, _, _, _, _, _, _, rfl, hp⟩, hb⟩
end Go.Proofs.YtidjkhmlpgkaaaaDoor

namespace Go.Proofs.YtidjkhmlpgkaaaaDoor
open Go.RowKit
set_option linter.unusedVariables false
set_option linter.unusedSimpArgs false

/-- A call's world: the sequencer's state, all that is older than w as it was. -/
structure Run (w w0 wi : World) (l : Loc) (P : Plan) (s : Sq) (n : Nat) : Prop where
  st : SqSt w0 wi l P s n
  bel : Below w.heap.size w wi
  old : w.heap.size ≤ w0.heap.size
  hi : l.hi ≤ wi.heap.size
theorem Run.act {w w0 wi wj : World} {l : Loc} {P : Plan} {s s' : Sq} {n n' : Nat} (h : Run w w0 wi l P s n) (t : SqSt w0 wj l P s' n') (k : Kept (l.own w0) wi wj) : Run w w0 wj l P s' n' :=
  ⟨t, h.bel.trans (k.below h.bel.size (fun j hj => by have := hj.1; have := h.old; omega)), h.old, Nat.le_trans h.hi k.size⟩
theorem Run.below {w w0 wi wj : World} {l : Loc} {P : Plan} {s : Sq} {n : Nat} (h : Run w w0 wi l P s n) (k : Below wi.heap.size wi wj) : Run w w0 wj l P s n :=
  ⟨h.st.below k, bel_then h.bel k, h.old, Nat.le_trans h.hi k.size⟩
def aw0 : Sq := initS (Plan.cores exW)
def awP (s : Sq) (c : Int) : Sq := pickT (Plan.cores exW) (Plan.frame exW) s c
def awT (s : Sq) : Nat → Sq
  | 0 => s
  | k + 1 => passS (Plan.cores exW) (Plan.frame exW) (awT s k)
def aw3 : Sq := awP (awP (awP aw0 0) 0) 0
def aw4 : Sq := awT aw3 5
def aw7 : Sq := awP (awP (awP aw4 0) 0) 0
theorem awf0 : isS (Plan.cores exW) aw0 0 0 (-1) = true := by kernel_rfl
theorem awf1 : pickB (Plan.cores exW) aw0 0 = false := by kernel_rfl
theorem awf2 : isS (Plan.cores exW) (awP aw0 0) 0 2 0 = true := by kernel_rfl
theorem awf3 : pickB (Plan.cores exW) (awP (awP aw0 0) 0) 0 = true := by kernel_rfl
theorem awf4 : isS (Plan.cores exW) aw3 0 3 0 = true := by kernel_rfl
theorem awf5 : isS (Plan.cores exW) aw4 0 1 0 = true := by kernel_rfl
theorem awf6 : isS (Plan.cores exW) (awP aw4 0) 0 0 (-1) = true := by kernel_rfl
theorem awf7 : isS (Plan.cores exW) (awP aw7 1) 0 3 1 = true := by kernel_rfl
theorem awf8 : pickE (Plan.cores exW) 1 = 251 := by kernel_rfl
theorem awf9 : pickE (Plan.cores exW) 0 = 0 := by kernel_rfl
theorem awfA : (awP aw7 1).now = 5 := by kernel_rfl
theorem awfB : frS (Plan.frame exW) (awP aw7 1) = 1 := by kernel_rfl
theorem wnew_ex (w : World) (v : Value) (P : Plan) (hv : PlanV w v P) (hl : Look w) (hf : Few P) (hc : checkO P = none) : Calls Tryd.prog 21 #[v] w fun e w' => ∃ w0 l, e = .returned (.tuple #[.pointer (some ⟨Loc.S l, 0, none⟩), .int .i64 0]) ∧ Run w w0 w' l P (initS (Plan.cores P)) 0 := by
  refine (wnew_any w v P hv hl hf).mono ?_
  intro e w' h
  unfold NewP at h
  rw [hc] at h
  obtain ⟨w0, l, rfl, a, b, c, d, _⟩ := h
  exact ⟨w0, l, rfl, a, b, c, d⟩
set_option maxHeartbeats 6400000 in
theorem awake_any (w : World) (hl : Look w) : Calls Tryd.prog 10 #[] w fun e w' => e = .returned (.bool true) ∧ Below w.heap.size w w' := by
  have HL := Aside.mk hl
  clear hl
  go_enter Tryd.func10, Tryd.ntmps10
  go_wp2_with fail
  refine (example_any w).mono ?_
  rintro e w1 ⟨v, rfl, hp, b1⟩
  have KN := Aside.mk (wnew_ex w1 v exW hp (HL.out.below b1) exW_few exW_check)
  have B1 := Aside.mk b1
  clear hp b1
  go_wp2_with fail
  refine KN.out.mono ?_
  rintro e w2 ⟨w0, l, rfl, r⟩
  have R : Aside (Run w1 w0 w2 l exW aw0 0) := ⟨r⟩
  clear r KN
  have K := Aside.mk (is_seq R.out.st 0 0 (-1))
  rw [awf0] at K
  go_wp2_with fail
  refine K.out.mono ?_
  rintro e w3 ⟨rfl, b3⟩
  have R := Aside.mk (R.out.below b3)
  clear b3 K
  have K := Aside.mk (pick_any R.out.st 0 (by omega))
  rw [awf1, awf9] at K
  go_wp2_with fail
  refine K.out.mono ?_
  rintro e w4 ⟨rfl, t4, k4⟩
  have R : Aside (Run w1 w0 w4 l exW (awP aw0 0) 1) := ⟨R.out.act t4 k4⟩
  clear t4 k4 K
  have K := Aside.mk (is_seq R.out.st 0 2 0)
  rw [awf2] at K
  go_wp2_with fail
  refine K.out.mono ?_
  rintro e w5 ⟨rfl, b5⟩
  have R := Aside.mk (R.out.below b5)
  clear b5 K
  have K := Aside.mk (pick_any R.out.st 0 (by omega))
  go_wp2_with fail
  refine K.out.mono ?_
  rintro e w6 ⟨rfl, t6, k6⟩
  have R : Aside (Run w1 w0 w6 l exW (awP (awP aw0 0) 0) 2) := ⟨R.out.act t6 k6⟩
  clear t6 k6 K
  have K := Aside.mk (pick_any R.out.st 0 (by omega))
  rw [awf3, awf9] at K
  go_wp2_with fail
  refine K.out.mono ?_
  rintro e w7 ⟨rfl, t7, k7⟩
  have R : Aside (Run w1 w0 w7 l exW aw3 3) := ⟨R.out.act t7 k7⟩
  clear t7 k7 K
  have K := Aside.mk (is_seq R.out.st 0 3 0)
  rw [awf4] at K
  go_wp2_with fail
  refine K.out.mono ?_
  rintro e w8 ⟨rfl, b8⟩
  have R := Aside.mk (R.out.below b8)
  clear b8 K
  go_wp2_with fail
  go_loopw [7] (fun i wr => ∃ k : Nat, k ≤ 5 ∧ i = .int .i64 k ∧ Aside (Run w1 w0 wr l exW (awT aw3 k) 3)) (fun i _ => 5 - (intOf i).toNat)
  case atStart => exact ⟨0, by omega, rfl, R⟩
  case round =>
    obtain ⟨k, hk, rfl, R⟩ := hrel
    by_cases hk5 : k < 5
    · have K := Aside.mk (Tick_any R.out.st)
      go_wp2_with fail
      refine K.out.mono ?_
      rintro e w9 ⟨rfl, t9, k9⟩
      have R : Aside (Run w1 w0 w9 l exW (awT aw3 (k + 1)) 3) := ⟨R.out.act t9 k9⟩
      clear t9 k9 K
      go_wp2_with fail
      go_roundw
      case rel => exact ⟨k + 1, by omega, by go_num, R⟩
      case measure => simp [intOf]; omega
    · obtain rfl : k = 5 := by omega
      have K : Aside (Calls Tryd.prog 32 #[.pointer (some ⟨l.S, 0, none⟩), .int .i64 0, .int .i64 1, .int .i64 0] wr fun e w' => e = .returned (.bool (isS (Plan.cores exW) aw4 0 1 0)) ∧ Below wr.heap.size wr w') := ⟨is_seq R.out.st 0 1 0⟩
      rw [awf5] at K
      go_wp2_with fail
      refine K.out.mono ?_
      rintro e wa ⟨rfl, ba⟩
      have R : Aside (Run w1 w0 wa l exW aw4 3) := ⟨R.out.below ba⟩
      clear ba K
      have K := Aside.mk (pick_any R.out.st 0 (by omega))
      go_wp2_with fail
      refine K.out.mono ?_
      rintro e wb ⟨rfl, tb, kb⟩
      have R : Aside (Run w1 w0 wb l exW (awP aw4 0) 4) := ⟨R.out.act tb kb⟩
      clear tb kb K
      have K := Aside.mk (is_seq R.out.st 0 0 (-1))
      rw [awf6] at K
      go_wp2_with fail
      refine K.out.mono ?_
      rintro e wc ⟨rfl, bc⟩
      have R := Aside.mk (R.out.below bc)
      clear bc K
      have K := Aside.mk (pick_any R.out.st 0 (by omega))
      go_wp2_with fail
      refine K.out.mono ?_
      rintro e wd ⟨rfl, td, kd⟩
      have R : Aside (Run w1 w0 wd l exW (awP (awP aw4 0) 0) 5) := ⟨R.out.act td kd⟩
      clear td kd K
      have K := Aside.mk (pick_any R.out.st 0 (by omega))
      go_wp2_with fail
      refine K.out.mono ?_
      rintro e we ⟨rfl, te, ke⟩
      have R : Aside (Run w1 w0 we l exW aw7 6) := ⟨R.out.act te ke⟩
      clear te ke K
      have K := Aside.mk (pick_any R.out.st 1 (by omega))
      rw [awf8] at K
      go_wp2_with fail
      refine K.out.mono ?_
      rintro e wf ⟨rfl, tf, kf⟩
      have R : Aside (Run w1 w0 wf l exW (awP aw7 1) 7) := ⟨R.out.act tf kf⟩
      clear tf kf K
      have K := Aside.mk (is_seq R.out.st 0 3 1)
      rw [awf7] at K
      go_wp2_with fail
      refine K.out.mono ?_
      rintro e wg ⟨rfl, bg⟩
      have R := Aside.mk (R.out.below bg)
      clear bg K
      have K := Aside.mk (now_any R.out.st)
      rw [awfA] at K
      go_wp2_with fail
      refine K.out.mono ?_
      rintro e wh ⟨rfl, rfl⟩
      have K := Aside.mk (frame_any R.out.st)
      rw [awfB] at K
      go_wp2_with fail
      refine K.out.mono ?_
      rintro e wh ⟨rfl, mm, rfl⟩
      go_wp2_with fail
      go_ret
      exact ⟨rfl, bel_drewN (B1.out.trans (R.out.bel.mono B1.out.size)) _⟩
end Go.Proofs.YtidjkhmlpgkaaaaDoor
