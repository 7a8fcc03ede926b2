/- The sequencer's making: a gang's members. The gangs of a plan: their order, their numbers. Plain. -/
import Derived.Test.YtidjkhmlpgkaaaaDoorMgSb
import Derived.Deep.RegionHeld3
namespace Go.Proofs.YtidjkhmlpgkaaaaDoor
open Go.RowKit
set_option linter.unusedVariables false
set_option linter.unusedSimpArgs false


/-! ### A map is written -/
theorem MapAt.put {w : World} {b n : Nat} {f : Int → Option Nat} (h : MapAt w b n f) (hn : n < 1000) (g : Int) (h0 : 0 ≤ g) (h1 : g ≤ 255) (k : Nat) :
    ∃ w', (Instr.mapUpdate 80 (.map (some b)) (.int .u8 g) (.pointer (some ⟨k, 0, none⟩))).run Tryd.prog w = .ok () w' ∧ MapAt w' b (n + 1) (fun x => if x = g then some k else f x) ∧ w.grownBy w' (some b) := by
  obtain ⟨D, hD, hf⟩ := h
  obtain ⟨w', hr, hD', hg⟩ := hD.update u8_keyed Tryd.underlying80 (by simp only [maxLen]; omega) (u8_key g h0 h1) (ptrElem_mk k)
  have hm := hD.isMap
  refine ⟨w', hr, ⟨_, hD', fun x x0 x1 => ?_⟩, hg⟩
  by_cases e : x = g
  · subst e
    simp only [if_true]
    have hk : WideAt.IsKeyLit (Lit.int .u8 x) := trivial
    exact ⟨Go.Maps.has_put_same hm hk _, fun j hj z => by cases hj; exact Go.Maps.atKey_put_same hm hk _ z⟩
  · have hne : Lit.int .u8 x ≠ Lit.int .u8 g := fun q => e (by injection q)
    simp only [e, if_false]
    obtain ⟨f1, f2⟩ := hf x x0 x1
    exact ⟨(Go.Maps.has_put_other hne _).trans f1, fun j hj z => (Go.Maps.atKey_put_other hne _ z).trans (f2 j hj z)⟩
theorem MapAt.mono {w : World} {b n m : Nat} {f : Int → Option Nat} (h : MapAt w b n f) (hm : n ≤ m) : MapAt w b m f := by
  obtain ⟨D, hD, hf⟩ := h
  exact ⟨D, hD.mono hm, hf⟩
theorem MapAt.congr {w : World} {b n : Nat} {f f' : Int → Option Nat} (h : MapAt w b n f) (e : ∀ g, f g = f' g) : MapAt w b n f' := by
  have : f = f' := funext e
  rw [← this]; exact h
theorem MapAt.made (w : World) : MapAt (w.alloc (.map #[] 0)) w.heap.size 0 (fun _ => none) :=
  ⟨.map [], World.ownsMap_made w _ _ _, fun g _ _ => ⟨rfl, fun k hk => by cases hk⟩⟩
section
variable {P : Program} {ops : Array Oper} {o : Oper} {a : Act} {Q : Exit → Act → World → Prop}
theorem step_mapPut {E : Prop} {K : Act → World → Prop} {W : World} (hgd : o.guard = none) (m x v : Operand)
    (ho : o.op = Op.mapUpdate 80 m x v) {b n : Nat} {f : Int → Option Nat} (hM : MapAt W b n f) (hn : n < 1000) (g : Int) (h0 : 0 ≤ g) (h1 : g ≤ 255) (k : Nat)
    (hm : a.eval m = .map (some b)) (hx : a.eval x = .int .u8 g) (hv : a.eval v = .pointer (some ⟨k, 0, none⟩))
    (h : ∀ w1, MapAt w1 b (n + 1) (fun x => if x = g then some k else f x) → W.grownBy w1 (some b) → K (a.put o.dst undef) w1) :
    if Region.wanted o (yielded ops a.tmps) = true then Oper.wp Tryd.prog o a W K Q else E := by
  obtain ⟨w1, hr, h2, h3⟩ := hM.put hn g h0 h1 k
  have hw : Region.wanted o (yielded ops a.tmps) = true := by simp [Region.wanted, hgd]
  rw [if_pos hw]
  unfold Oper.wp
  simp [execOp, ho, hm, hx, hv, hr, Result.andThen]
  exact h _ h2 h3
end

/-! ### How many cores a gang has -/
def manyTo (m : Nat) : Nat → Nat
  | 0 => 0
  | k + 1 => manyTo m k + if m.testBit k = true then 1 else 0
theorem manyTo_le (m k : Nat) : manyTo m k ≤ k := by
  induction k with
  | zero => exact Nat.le_refl _
  | succ k ih => unfold manyTo; split <;> omega
theorem manyTo_one (m k i : Nat) (hi : i < k) (h : m.testBit i = true) : 1 ≤ manyTo m k := by
  induction k with
  | zero => omega
  | succ k ih =>
    unfold manyTo
    rcases Nat.lt_succ_iff_lt_or_eq.1 hi with q | rfl
    · have := ih q; omega
    · rw [if_pos h]; omega
def manyG (C : List (List Win)) (g : Int) : Nat := manyTo (gangM C g) 8
theorem gangM_bit (C : List (List Win)) (g : Int) (i : Nat) : (gangM C g).testBit i = (decide (i < C.length) && hasG (coreW C i) g) := maskTo_bit _ _ _
theorem gangM_ne (C : List (List Win)) (g : Int) (i : Nat) (hi : i < C.length) (h : hasG (coreW C i) g = true) : gangM C g ≠ 0 := by
  intro e
  have := gangM_bit C g i
  rw [e, h] at this
  simp [hi] at this
theorem manyG_range (C : List (List Win)) (g : Int) (hC : C.length ≤ 8) (i : Nat) (hi : i < C.length) (h : hasG (coreW C i) g = true) : 1 ≤ manyG C g ∧ manyG C g ≤ 8 :=
  ⟨manyTo_one _ _ i (by omega) (by rw [gangM_bit, h]; simp [hi]), manyTo_le _ _⟩

/-! ### The state while the members are made -/
/-- A member that has done nothing. -/
def mb0 (C : List (List Win)) (g : Int) : Mb := ⟨(posG C g : Int), (manyG C g : Int), 0, 0, 0, false, false, false⟩
/-- Since wA: the maps M were written, members made: those of D, in the blocks K; the map of core d at most n d times. -/
structure NwSt (wA w : World) (M : Nat → Nat) (K : Nat → Int → Nat) (C : List (List Win)) (D : Nat → Int → Bool) (n : Nat → Nat) : Prop where
  kept : Kept (fun k => ∃ d, d < 8 ∧ k = M d) wA w
  maps : ∀ d, d < 8 → MapAt w (M d) (n d) (fun g => if D d g = true then some (K d g) else none)
  mbs : ∀ d g, D d g = true → MbAt w (K d g) (mb0 C g)
  k : ∀ d g, D d g = true → wA.heap.size ≤ K d g ∧ K d g < w.heap.size ∧ ∀ e h, D e h = true → K d g = K e h → d = e ∧ g = h
  m : ∀ d, d < 8 → M d < wA.heap.size
  inj : ∀ d e, d < 8 → e < 8 → M d = M e → d = e
def putK (K : Nat → Int → Nat) (c : Nat) (g : Int) (b : Nat) : Nat → Int → Nat := fun d h => if d = c ∧ h = g then b else K d h
section
variable {wA w : World} {M : Nat → Nat} {K : Nat → Int → Nat} {C : List (List Win)} {D : Nat → Int → Bool} {n : Nat → Nat} (h : NwSt wA w M K C D n)
include h
theorem NwSt.below {w' : World} (k : Below w.heap.size w w') : NwSt wA w' M K C D n :=
  ⟨h.kept.trans (Kept.of_below k), fun d hd => (h.maps d hd).below k, fun d g hg => (h.mbs d g hg).below k, fun d g hg => by
    obtain ⟨a, b, c⟩ := h.k d g hg
    exact ⟨a, Nat.lt_of_lt_of_le b k.size, c⟩, h.m, h.inj⟩
/-- Blocks that are older than the state, and no map: written at will. -/
theorem NwSt.mapSize (d : Nat) (hd : d < 8) : M d < w.heap.size := (h.maps d hd).lt
theorem NwSt.put {c : Nat} (hc : c < 8) (g : Int) {x : Obj} {w1 : World} (hD : D c g = false)
    (hx : MbAt (w.alloc x) w.heap.size (mb0 C g)) (hm : MapAt w1 (M c) (n c + 1) (fun y => if y = g then some w.heap.size else if D c y = true then some (K c y) else none)) (hg : (w.alloc x).grownBy w1 (some (M c))) :
    NwSt wA w1 M (putK K c g w.heap.size) C (fun d y => D d y || (decide (d = c) && decide (y = g))) (fun d => if d = c then n c + 1 else n d) := by
  have kA : Kept (fun k => k = M c) (w.alloc x) w1 := ⟨hg.os, hg.tape, hg.output, hg.size, fun i hi hn => hg.block i hi (fun e => hn (by injection e))⟩
  have hA : wA.heap.size ≤ w.heap.size := h.kept.size
  have hs : w.heap.size + 1 ≤ w1.heap.size := by have := hg.size; simpa using this
  have hmc := h.m c hc
  have hold : ∀ d y, (D d y || (decide (d = c) && decide (y = g))) = true → ¬ (d = c ∧ y = g) → D d y = true := by
    intro d y hd hn
    rcases Bool.or_eq_true_iff.1 hd with q | q
    · exact q
    · simp at q; exact absurd q hn
  refine ⟨(h.kept.alloc x).then_ kA (fun j e => .inl ⟨c, hc, e⟩), fun d hd => ?_, fun d y hd => ?_, fun d y hd => ?_, h.m, h.inj⟩
  · by_cases e : d = c
    · subst e
      simp only [if_true]
      refine hm.congr (fun y => ?_)
      by_cases e2 : y = g
      · subst e2; simp [putK]
      · simp [putK, e2]
    · simp only [e, if_false]
      have := ((h.maps d hd).below (bel_one w x)).kept kA (fun q => e (h.inj d c hd hc q))
      refine this.congr (fun y => ?_)
      simp [putK, e]
  · by_cases e : d = c ∧ y = g
    · obtain ⟨rfl, rfl⟩ := e
      simp only [putK, and_self, if_true]
      exact hx.kept kA (by omega)
    · have hd0 := hold d y hd e
      have := h.k d y hd0
      simp only [putK, e, if_false]
      exact ((h.mbs d y hd0).below (bel_one w x)).kept kA (by omega)
  · by_cases e : d = c ∧ y = g
    · obtain ⟨rfl, rfl⟩ := e
      simp only [putK, and_self, if_true]
      refine ⟨hA, by omega, fun e i he hq => ?_⟩
      by_cases e2 : e = d ∧ i = y
      · exact ⟨e2.1.symm, e2.2.symm⟩
      · rw [if_neg e2] at hq
        have := h.k e i (hold e i he e2)
        omega
    · have hd0 := hold d y hd e
      obtain ⟨k1, k2, k3⟩ := h.k d y hd0
      simp only [putK, e, if_false]
      refine ⟨k1, by omega, fun e' i he hq => ?_⟩
      by_cases e2 : e' = c ∧ i = g
      · rw [if_pos e2] at hq; omega
      · rw [if_neg e2] at hq
        exact k3 e' i (hold e' i he e2) hq
end
theorem callFunc_new1 (args : Array Value) (w : World) : (callFunc 41 args).run Tryd.prog w = .ok (.enter 41 args) w := by kernel_rfl
theorem callFunc_new2 (args : Array Value) (w : World) : (callFunc 42 args).run Tryd.prog w = .ok (.enter 42 args) w := by kernel_rfl
theorem new1_any (w : World) (N : Nat) (k c : Int) (hN : w.heap[N]? = some (.cells #[.int .i64 k] 3 (0, 0))) (k0 : 0 ≤ k) (k1 : k ≤ 100) :
    Calls Tryd.prog 41 #[.int .i64 c, .pointer (some ⟨N, 0, none⟩)] w fun e w' => e = .returned (.tuple #[]) ∧ w'.heap[N]? = some (.cells #[.int .i64 (k + 1)] 3 (0, 0)) ∧ Kept (fun j => j = N) w w' := by
  have c0 : w.cell? ⟨N, 0, none⟩ = some (.int .i64 k) := by simp [World.cell?, hN]
  have f0 : w.frozen? ⟨N, 0, none⟩ = false := by simp [World.frozen?, hN]
  have H := Aside.mk hN
  clear hN
  go_enter Tryd.func41, Tryd.ntmps41
  go_wp2_with fail
  refine bodyPost_end (v := .tuple #[]) (by simp [results, Tryd.results41, go_sem]) rfl ⟨rfl, ?_, ?_⟩
  · have := heap_setCell_at (off := 0) H.out (.int .i64 (k + 1))
    simpa using this
  · exact (Kept.refl (fun j => j = N) w).setCell (p := ⟨N, 0, none⟩) (.inl rfl) _
theorem lone_d (w : World) (x : Obj) : Below w.heap.size w (w.drew.alloc x) := (Below.refl _ _).drew.alloc (Nat.le_refl _) x
theorem hm_to {w w1 : World} {x : Obj} {b n : Nat} {f : Int → Option Nat} (h : MapAt w b n f) (e : w.drew.alloc x = w1) : MapAt w1 b n f := by
  subst e; exact h.below (lone_d _ _)
theorem grown_d {w w2 : World} {x : Obj} {r : Option Nat} (h : (w.drew.alloc x).grownBy w2 r) : (w.alloc x).grownBy w2 r := ⟨h.os, h.tape, h.output, h.size, h.block⟩
theorem grown_e {w w1 w2 : World} {x : Obj} {r : Option Nat} (e : w.drew.alloc x = w1) (h : w1.grownBy w2 r) : (w.alloc x).grownBy w2 r := by
  subst e; exact grown_d h
set_option maxHeartbeats 3200000 in
set_option maxRecDepth 100000 in
theorem new2_any {wA w : World} {M : Nat → Nat} {K : Nat → Int → Nat} {C : List (List Win)} {D : Nat → Int → Bool} {n : Nat → Nat} (h : NwSt wA w M K C D n) (hC : C.length ≤ 8) (c : Nat) (hc : c < C.length) (g : Int) (g0 : 0 ≤ g) (g1 : g ≤ 255) (hg : hasG (coreW C c) g = true) (hD : D c g = false) (hn : n c < 1000)
    (S Wd N SP GP : Nat) (c1 : w.cell? ⟨SP, 0, none⟩ = some (.pointer (some ⟨S, 0, none⟩))) (c2 : w.cell? ⟨S, 6 + c * 5 + 4, none⟩ = some (.map (some (M c)))) (c3 : w.cell? ⟨GP, 0, none⟩ = some (.int .u8 g)) (c4 : w.cell? ⟨Wd, 0, none⟩ = some (.int .i64 (posG C g : Int))) (c5 : w.cell? ⟨N, 0, none⟩ = some (.int .i64 (manyG C g : Int)))
    (hne : SP ≠ M c ∧ S ≠ M c ∧ GP ≠ M c ∧ Wd ≠ M c ∧ N ≠ M c) :
    Calls Tryd.prog 42 #[.int .i64 (c : Int), .pointer (some ⟨Wd, 0, none⟩), .pointer (some ⟨N, 0, none⟩), .pointer (some ⟨SP, 0, none⟩), .pointer (some ⟨GP, 0, none⟩)] w fun e w' => e = .returned (.tuple #[]) ∧ NwSt wA w' M (putK K c g w.heap.size) C (fun d y => D d y || (decide (d = c) && decide (y = g))) (fun d => if d = c then n c + 1 else n d) ∧ Kept (fun k => k = M c) w w' := by
  have H := Aside.mk h
  have hc8 : c < 8 := by omega
  have hmr := manyG_range C g hC c hc hg
  have l1 := World.block_lt_of_cell? _ _ c1
  have l2 := World.block_lt_of_cell? _ _ c2
  have l3 := World.block_lt_of_cell? _ _ c3
  have l4 := World.block_lt_of_cell? _ _ c4
  have l5 := World.block_lt_of_cell? _ _ c5
  have HM := Aside.mk (h.maps c hc8)
  have HD := Aside.mk hD
  have PRE : Aside (w.cell? ⟨SP, 0, none⟩ = some (.pointer (some ⟨S, 0, none⟩)) ∧ w.cell? ⟨S, 6 + c * 5 + 4, none⟩ = some (.map (some (M c))) ∧ w.cell? ⟨GP, 0, none⟩ = some (.int .u8 g) ∧ w.cell? ⟨Wd, 0, none⟩ = some (.int .i64 (posG C g : Int)) ∧ w.cell? ⟨N, 0, none⟩ = some (.int .i64 (manyG C g : Int))) := ⟨⟨c1, c2, c3, c4, c5⟩⟩
  have NE := Aside.mk hne
  have mh := (h.maps c hc8).lt
  obtain ⟨pw, hpw⟩ : ∃ pw, Aside (((posG C g : Nat) : Int) = pw) := ⟨_, ⟨rfl⟩⟩
  obtain ⟨mg, hmg⟩ : ∃ mg, Aside (((manyG C g : Nat) : Int) = mg) := ⟨_, ⟨rfl⟩⟩
  have hm1 : 1 ≤ mg ∧ mg ≤ 8 := by rw [← hmg.out]; omega
  have MB : Aside (mb0 C g = ⟨pw, mg, 0, 0, 0, false, false, false⟩) := ⟨by rw [mb0, hpw.out, hmg.out]⟩
  rw [hpw.out, hmg.out] at PRE
  rw [hpw.out] at c4
  rw [hmg.out] at c5
  have UP : Aside (∀ x : Obj, (w.alloc x).cell? ⟨SP, 0, none⟩ = some (.pointer (some ⟨S, 0, none⟩)) ∧ (w.alloc x).cell? ⟨S, 6 + c * 5 + 4, none⟩ = some (.map (some (M c))) ∧ (w.alloc x).cell? ⟨GP, 0, none⟩ = some (.int .u8 g) ∧ (w.alloc x).cell? ⟨Wd, 0, none⟩ = some (.int .i64 pw) ∧ (w.alloc x).cell? ⟨N, 0, none⟩ = some (.int .i64 mg)) := ⟨fun x => by
    obtain ⟨p1, p2, p3, p4, p5⟩ := PRE.out
    exact ⟨cell_up (bel_one w x) p1, cell_up (bel_one w x) p2, cell_up (bel_one w x) p3, cell_up (bel_one w x) p4, cell_up (bel_one w x) p5⟩⟩
  have UQ : Aside (∀ (x : Obj), Aside ((w.drew.alloc x).cell? ⟨SP, 0, none⟩ = some (.pointer (some ⟨S, 0, none⟩)) ∧ (w.drew.alloc x).cell? ⟨S, 6 + c * 5 + 4, none⟩ = some (.map (some (M c))) ∧ (w.drew.alloc x).cell? ⟨GP, 0, none⟩ = some (.int .u8 g) ∧ (w.drew.alloc x).cell? ⟨Wd, 0, none⟩ = some (.int .i64 pw) ∧ (w.drew.alloc x).cell? ⟨N, 0, none⟩ = some (.int .i64 mg))) := ⟨fun x => ⟨UP.out x⟩⟩
  have UM : Aside (∀ (x : Obj) (w1 : World), (w.alloc x).grownBy w1 (some (M c)) → w1.cell? ⟨SP, 0, none⟩ = some (.pointer (some ⟨S, 0, none⟩)) ∧ w1.cell? ⟨S, 6 + c * 5 + 4, none⟩ = some (.map (some (M c))) ∧ w1.cell? ⟨GP, 0, none⟩ = some (.int .u8 g) ∧ w1.cell? ⟨Wd, 0, none⟩ = some (.int .i64 pw) ∧ w1.cell? ⟨N, 0, none⟩ = some (.int .i64 mg)) := ⟨fun x w1 hg => by
    have kA : Kept (fun k => k = M c) (w.alloc x) w1 := ⟨hg.os, hg.tape, hg.output, hg.size, fun i hi hn => hg.block i hi (fun e => hn (by injection e))⟩
    obtain ⟨p1, p2, p3, p4, p5⟩ := UP.out x
    obtain ⟨n1, n2, n3, n4, n5⟩ := NE.out
    exact ⟨kA.cell p1 n1, kA.cell p2 n2, kA.cell p3 n3, kA.cell p4 n4, kA.cell p5 n5⟩⟩
  have i0 : (0 : Int) ≤ (c : Int) := by omega
  have i1 : (c : Int) < 8 := by omega
  have i2 : ((c : Nat) : Int).toNat = c := rfl
  clear h hD hne hmr
  go_enter Tryd.func42, Tryd.ntmps42
  go_wp2_with fail
  go_region_held3 (fun W => W.cell? ⟨SP, 0, none⟩ = some (.pointer (some ⟨S, 0, none⟩)) ∧ W.cell? ⟨S, 6 + c * 5 + 4, none⟩ = some (.map (some (M c))) ∧ W.cell? ⟨GP, 0, none⟩ = some (.int .u8 g) ∧ W.cell? ⟨Wd, 0, none⟩ = some (.int .i64 pw) ∧ W.cell? ⟨N, 0, none⟩ = some (.int .i64 mg))
    (first | (with_reducible exact Q2.out) | (with_reducible exact Q1.out) | (exact Q1.out) | (with_reducible exact PRE.out) | go_keep)
    (first
      | (go_at_call 43; with_reducible refine (gnew_any _ pw mg hm1.1 hm1.2).mono ?_; rintro e w1 ⟨rfl, hw1⟩; have Q1 := (hw1 ▸ UQ.out _); have HM1 := Aside.mk (hm_to HM.out hw1); have HW1 := Aside.mk hw1; clear hw1; obtain ⟨w2, hr2, hm2, hg2⟩ := HM1.out.put hn g g0 g1 w.heap.size; have Q2 := Aside.mk (UM.out _ _ (grown_e HW1.out hg2)); have HM2 := Aside.mk (And.intro hm2 hg2); clear hm2 hg2))
  go_wp2_with fail
  have MBX : Aside (MbAt (w.alloc (.cells (Mb.cells ⟨pw, mg, 0, 0, 0, false, false, false⟩) 138)) w.heap.size (mb0 C g)) := ⟨by rw [MB.out]; exact heap_alloc_new _ _⟩
  have G2 := grown_e HW1.out HM2.out.2
  refine bodyPost_end (v := .tuple #[]) (by simp [results, Tryd.results42, go_sem]) rfl ⟨rfl, H.out.put hc8 g HD.out MBX.out HM2.out.1 G2, ?_⟩
  exact ((Kept.refl (fun k => k = M c) w).alloc _).trans ⟨G2.os, G2.tape, G2.output, G2.size, fun i hi hn => G2.block i hi (fun e => hn (by injection e))⟩
end Go.Proofs.YtidjkhmlpgkaaaaDoor

namespace Go.Proofs.YtidjkhmlpgkaaaaDoor
open Go.RowKit
set_option linter.unusedVariables false
set_option linter.unusedSimpArgs false


theorem gangsTo_get (C : List (List Win)) (n k : Nat) (x : GangR) (h : (gangsTo C n)[k]? = some x) :
    ∃ g : Nat, 1 ≤ g ∧ g ≤ n ∧ x = ((g : Int), (gangM C g : Int), lastW C g C.length) ∧ gangM C g ≠ 0 ∧ (gangsTo C (g - 1)).length = k := by
  induction n with
  | zero => simp [gangsTo] at h
  | succ n ih =>
    rw [gangsTo_succ] at h
    rcases Nat.lt_or_ge k (gangsTo C n).length with q | q
    · rw [List.getElem?_append_left q] at h
      obtain ⟨g, a, b, c⟩ := ih h
      exact ⟨g, a, by omega, c⟩
    · rw [List.getElem?_append_right q] at h
      unfold gangAt at h
      by_cases e : gangM C ((n + 1 : Nat) : Int) = 0
      · rw [if_pos e] at h; simp at h
      · rw [if_neg e] at h
        have hk : k - (gangsTo C n).length = 0 := by
          rcases Nat.eq_zero_or_pos (k - (gangsTo C n).length) with z | z
          · exact z
          · rw [List.getElem?_eq_none (by simp; omega)] at h; cases h
        rw [hk] at h
        simp only [List.getElem?_cons_zero, Option.some.injEq] at h
        exact ⟨n + 1, by omega, by omega, h.symm, e, by rw [Nat.add_sub_cancel]; omega⟩
theorem gangsTo_mem (C : List (List Win)) (n g : Nat) (h1 : 1 ≤ g) (h2 : g ≤ n) (hm : gangM C g ≠ 0) : ((g : Int), (gangM C g : Int), lastW C g C.length) ∈ gangsTo C n := by
  rw [gangsTo, List.mem_flatMap]
  refine ⟨g - 1, by simp; omega, ?_⟩
  rw [show g - 1 + 1 = g by omega, gangAt, if_neg hm]
  exact List.mem_singleton.2 rfl
/-- The gangs' numbers, in order. -/
def numsG (C : List (List Win)) : List Int := (gangsTo C 255).map (·.1)
theorem numsG_len (C : List (List Win)) : (numsG C).length = (gangsTo C 255).length := by simp [numsG]
theorem gang_at (C : List (List Win)) (k : Nat) (x : GangR) (h : (gangsTo C 255)[k]? = some x) :
    1 ≤ x.1 ∧ x.1 ≤ 255 ∧ x.2.1 = (gangM C x.1 : Int) ∧ gangM C x.1 ≠ 0 ∧ posG C x.1 = k := by
  obtain ⟨g, a, b, rfl, c, d⟩ := gangsTo_get C 255 k x h
  refine ⟨by show (1 : Int) ≤ (g : Int); omega, by show (g : Int) ≤ 255; omega, rfl, c, ?_⟩
  unfold posG
  exact d
theorem gang_fresh (C : List (List Win)) (k : Nat) (x : GangR) (h : (gangsTo C 255)[k]? = some x) : x.1 ∉ (numsG C).take k := by
  intro hm
  obtain ⟨j, hj, e⟩ := List.mem_iff_getElem.1 hm
  have hj1 : j < k := by rw [List.length_take] at hj; omega
  have hj2 : j < (gangsTo C 255).length := by rw [List.length_take, numsG_len] at hj; omega
  rw [List.getElem_take] at e
  have e2 : (numsG C)[j]'(by rw [numsG_len]; exact hj2) = ((gangsTo C 255)[j]).1 := by simp [numsG]
  have p1 := (gang_at C j _ (List.getElem?_eq_getElem hj2)).2.2.2.2
  have p2 := (gang_at C k x h).2.2.2.2
  rw [← e2, e, p2] at p1
  omega
theorem numsG_take (C : List (List Win)) (k : Nat) (x : GangR) (h : (gangsTo C 255)[k]? = some x) : (numsG C).take (k + 1) = (numsG C).take k ++ [x.1] := by
  refine take_snoc ?_
  rw [numsG, List.getElem?_map, h]
  rfl
/-- The members that are made when k gangs are done. -/
def dnG (C : List (List Win)) (k : Nat) (d : Nat) (g : Int) : Bool := decide (d < C.length) && hasG (coreW C d) g && decide (g ∈ (numsG C).take k)
theorem dnG_all (C : List (List Win)) (d : Nat) (g : Int) : dnG C (gangsTo C 255).length d g = true ↔ memG C d g := by
  unfold dnG memG
  rw [List.take_of_length_le (by rw [numsG_len]; exact Nat.le_refl _)]
  simp only [Bool.and_eq_true, decide_eq_true_eq]
  constructor
  · rintro ⟨⟨a, b⟩, c⟩
    obtain ⟨x, hx, rfl⟩ := List.mem_map.1 c
    obtain ⟨k, hk, e⟩ := List.mem_iff_getElem.1 hx
    have := gang_at C k x (by rw [List.getElem?_eq_getElem hk, e])
    exact ⟨a, this.1, this.2.1, b⟩
  · rintro ⟨a, b, c, e⟩
    refine ⟨⟨a, e⟩, ?_⟩
    have hm := gangM_ne C g d a e
    obtain ⟨n, rfl⟩ := Int.eq_ofNat_of_zero_le (show 0 ≤ g by omega)
    exact List.mem_map.2 ⟨_, gangsTo_mem C 255 n (by omega) (by omega) hm, rfl⟩
theorem dnG_zero (C : List (List Win)) : dnG C 0 = fun _ _ => false := by
  funext d g; simp [dnG]
/-- .. and, of the next gang, the cores below c. -/
def dcG (C : List (List Win)) (k : Nat) (g : Int) (c d : Nat) (y : Int) : Bool := dnG C k d y || (decide (d < c) && (gangM C g).testBit d && decide (y = g))
theorem dcG_zero (C : List (List Win)) (k : Nat) (g : Int) : dcG C k g 0 = dnG C k := by
  funext d y; simp [dcG]
theorem dcG_yes (C : List (List Win)) (k : Nat) (g : Int) (c : Nat) (h : (gangM C g).testBit c = true) : (fun d y => dcG C k g c d y || (decide (d = c) && decide (y = g))) = dcG C k g (c + 1) := by
  funext d y
  unfold dcG
  by_cases e : d = c
  · subst e; simp [h]
  · by_cases e2 : d < c
    · simp [e, e2, show d < c + 1 by omega]
    · simp [e, e2, show ¬ d < c + 1 by omega]
theorem dcG_no (C : List (List Win)) (k : Nat) (g : Int) (c : Nat) (h : (gangM C g).testBit c = false) : dcG C k g c = dcG C k g (c + 1) := by
  funext d y
  unfold dcG
  by_cases e : d = c
  · subst e; simp [h]
  · by_cases e2 : d < c
    · simp [e2, show d < c + 1 by omega]
    · simp [e2, show ¬ d < c + 1 by omega]
theorem dcG_all (C : List (List Win)) (hC : C.length ≤ 8) (k : Nat) (x : GangR) (h : (gangsTo C 255)[k]? = some x) : dcG C k x.1 8 = dnG C (k + 1) := by
  funext d y
  unfold dcG dnG
  rw [numsG_take C k x h, gangM_bit]
  by_cases e : y = x.1
  · subst e
    by_cases hd : d < C.length
    · have hd8 : d < 8 := by omega
      simp only [hd, hd8, decide_true, Bool.true_and, Bool.and_true]
      cases hasG (coreW C d) x.1 <;> simp
    · simp [hd]
  · simp [e]
theorem dcG_fresh (C : List (List Win)) (k : Nat) (x : GangR) (h : (gangsTo C 255)[k]? = some x) (c : Nat) : dcG C k x.1 c c x.1 = false := by
  have := gang_fresh C k x h
  unfold dcG dnG
  simp [this]
end Go.Proofs.YtidjkhmlpgkaaaaDoor
