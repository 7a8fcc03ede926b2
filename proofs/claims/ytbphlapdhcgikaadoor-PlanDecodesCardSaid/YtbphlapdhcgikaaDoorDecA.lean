/- Plans of bytes: the numbers' reads, as they are asked; windows, semaphores, channels, pairs. -/
import Derived.Test.YtbphlapdhcgikaaDoorDecP
import Derived.Test.YtbphlapdhcgikaaDoorCpy3
import Derived.Deep.RegionHeld3
namespace Go.Proofs.YtbphlapdhcgikaaDoor
open Go.RowKit
set_option linter.unusedVariables false
set_option linter.unusedSimpArgs false

/-- What a read leaves: the reader behind it; all else is kept. -/
structure Rk (base : Nat) (Z : Nat) (A : Option Addr) (c : Nat) (S : List Int) (w : World) (s : St) (w' : World) : Prop where
  rd : Bl.RD base w' Z A c S s.1 s.2
  kept : Kept (fun j => j = Z) w w'
theorem Rk.below {base Z c : Nat} {A : Option Addr} {S : List Int} {w w1 w2 : World} {s : St} (h : Rk base Z A c S w s w1) (k : Below w1.heap.size w1 w2) : Rk base Z A c S w s w2 :=
  ⟨h.rd.below k, h.kept.then_ (Kept.of_below (S := fun _ => False) k) (fun _ q => q.elim)⟩
theorem Rk.then_ {base Z c : Nat} {A : Option Addr} {S : List Int} {w w1 w2 : World} {s t : St} (h : Rk base Z A c S w s w1) (k : Rk base Z A c S w1 t w2) : Rk base Z A c S w t w2 :=
  ⟨k.rd, h.kept.trans k.kept⟩
theorem Rk.size {base Z c : Nat} {A : Option Addr} {S : List Int} {w w1 : World} {s : St} (h : Rk base Z A c S w s w1) : w.heap.size ≤ w1.heap.size := h.kept.size
theorem Rk.cell {base Z c : Nat} {A : Option Addr} {S : List Int} {w w1 : World} {s : St} (h : Rk base Z A c S w s w1) {b o : Nat} {v : Value} (hne : b ≠ Z) (hc : w.cell? ⟨b, o, none⟩ = some v) : w1.cell? ⟨b, o, none⟩ = some v := h.kept.cell hc hne
theorem Rk.box {base Z c : Nat} {A : Option Addr} {S : List Int} {w w1 : World} {s : St} (h : Rk base Z A c S w s w1) {b : Nat} {o : Obj} (hne : b ≠ Z) (hc : w.heap[b]? = some o) : w1.heap[b]? = some o := h.kept.heap hc hne
theorem rd_lt {base Z c : Nat} {A : Option Addr} {S : List Int} {w : World} {a : Nat} {b : Bool} (h : Bl.RD base w Z A c S a b) : Z < w.heap.size := by
  obtain ⟨F, R, _⟩ := h
  exact lt_of_block R.box
theorem rd_news {T : Nat → Prop} {base : Nat} {w w' w2 : World} {Z : Nat} {A : Option Addr} {c : Nat} {S : List Int} {at_ at' : Nat} {bad bad' : Bool} (h : Bl.RD base w Z A c S at_ bad) (h' : Bl.RD base w' Z A c S at' bad') (k : Kept T w' w2) {t : TypeId} (ht : 74 ≠ t)
    (hT : ∀ j, T j → w.heap.size ≤ j ∧ ∃ cs fr, w'.heap[j]? = some (.cells cs t fr)) : Bl.RD base w2 Z A c S at' bad' := by
  obtain ⟨F, h, _⟩ := h
  obtain ⟨F', h', e⟩ := h'
  refine ⟨F', ⟨k.heap h'.box (fun q => ?_), own_kept h'.row k (fun r hr q => ?_), h'.hZ, h'.le, h'.big, fun f hf => ⟨(h'.bad f hf).1, k.heap (h'.bad f hf).2 (fun q => ?_)⟩⟩, e⟩
  · have := lt_of_block h.box
    have := (hT _ q).1
    omega
  · have := own_lt h.row r hr
    have := (hT _ q).1
    omega
  · obtain ⟨cs, fr, q2⟩ := (hT _ q).2
    rw [(h'.bad f hf).2] at q2
    injection q2 with q2
    injection q2 with _ q2 _
    exact absurd q2 ht
/-- A number that is read. -/
def ReadP (base : Nat) (Z : Nat) (A : Option Addr) (c : Nat) (S : List Int) (w : World) (v : Value) (s : St) (e : Ending) (w' : World) : Prop := e = .returned v ∧ Rk base Z A c S w s w'
theorem e8_any {base Z c : Nat} {A : Option Addr} {S : List Int} (hS : ∀ x ∈ S, 0 ≤ x ∧ x ≤ 255) (w : World) (s : St) (h : Bl.RD base w Z A c S s.1 s.2) :
    Calls Tryd.prog 31 #[.pointer (some ⟨Z, 0, none⟩)] w (ReadP base Z A c S w (.int .u8 (rdN S 1 s).1) (rdN S 1 s).2) :=
  (Bl.eight_any base w Z A c S s.1 s.2 hS h).mono fun _ _ q => ⟨q.1, q.2.1, q.2.2⟩
theorem e16_any {base Z c : Nat} {A : Option Addr} {S : List Int} (hS : ∀ x ∈ S, 0 ≤ x ∧ x ≤ 255) (w : World) (s : St) (h : Bl.RD base w Z A c S s.1 s.2) :
    Calls Tryd.prog 30 #[.pointer (some ⟨Z, 0, none⟩)] w (ReadP base Z A c S w (.int .u16 (rdN S 2 s).1) (rdN S 2 s).2) :=
  (Bl.sixteen_any base w Z A c S s.1 s.2 hS h).mono fun _ _ q => ⟨q.1, q.2.1, q.2.2⟩
/-- A thing that is read, a value by itself. -/
def ThingP {α : Type} (base : Nat) (Z : Nat) (A : Option Addr) (c : Nat) (S : List Int) (w : World) (val : α → Value) (r : α × St) (e : Ending) (w' : World) : Prop := e = .returned (val r.1) ∧ Rk base Z A c S w r.2 w'
theorem set2_box {a : World} {X : Nat} {x0 x1 v0 v1 : Value} {t : TypeId} (h : a.heap[X]? = some (.cells #[x0, x1] t (0, 0))) : ((a.setCell ⟨X, 0, none⟩ v0).setCell ⟨X, 1, none⟩ v1).heap[X]? = some (.cells #[v0, v1] t (0, 0)) ∧ Kept (fun k => k = X) a ((a.setCell ⟨X, 0, none⟩ v0).setCell ⟨X, 1, none⟩ v1) := by
  refine ⟨?_, (((Kept.refl (fun k => k = X) a).setCell (p := ⟨X, 0, none⟩) (.inl rfl) v0).setCell (p := ⟨X, 1, none⟩) (.inl rfl) v1)⟩
  have := (heap_setCell_at (off := 1) (heap_setCell_at (off := 0) h v0) v1)
  simpa using this
theorem marks2 {a : World} {X : Nat} {x0 x1 : Value} {t : TypeId} (h : a.heap[X]? = some (.cells #[x0, x1] t (0, 0))) : a.frozen? ⟨X, 0, none⟩ = false ∧ a.frozen? ⟨X, 1, none⟩ = false := by
  refine ⟨?_, ?_⟩ <;> simp [World.frozen?, h]
theorem boxc2 {w : World} {B : Nat} {x0 x1 : Value} {t : TypeId} {fr : Nat × Nat} (h : w.heap[B]? = some (.cells #[x0, x1] t fr)) : w.cell? ⟨B, 0, none⟩ = some x0 ∧ w.cell? ⟨B, 1, none⟩ = some x1 := by
  simp [World.cell?, h]
theorem set4_box {a : World} {X : Nat} {x0 x1 x2 x3 v0 v1 v2 v3 : Value} {t : TypeId} (h : a.heap[X]? = some (.cells #[x0, x1, x2, x3] t (0, 0))) : ((((a.setCell ⟨X, 0, none⟩ v0).setCell ⟨X, 1, none⟩ v1).setCell ⟨X, 2, none⟩ v2).setCell ⟨X, 3, none⟩ v3).heap[X]? = some (.cells #[v0, v1, v2, v3] t (0, 0)) ∧ Kept (fun k => k = X) a ((((a.setCell ⟨X, 0, none⟩ v0).setCell ⟨X, 1, none⟩ v1).setCell ⟨X, 2, none⟩ v2).setCell ⟨X, 3, none⟩ v3) := by
  refine ⟨?_, (((((Kept.refl (fun k => k = X) a).setCell (p := ⟨X, 0, none⟩) (.inl rfl) v0).setCell (p := ⟨X, 1, none⟩) (.inl rfl) v1).setCell (p := ⟨X, 2, none⟩) (.inl rfl) v2).setCell (p := ⟨X, 3, none⟩) (.inl rfl) v3)⟩
  have := (heap_setCell_at (off := 3) (heap_setCell_at (off := 2) (heap_setCell_at (off := 1) (heap_setCell_at (off := 0) h v0) v1) v2) v3)
  simpa using this
theorem marks4 {a : World} {X : Nat} {x0 x1 x2 x3 : Value} {t : TypeId} (h : a.heap[X]? = some (.cells #[x0, x1, x2, x3] t (0, 0))) : a.frozen? ⟨X, 0, none⟩ = false ∧ a.frozen? ⟨X, 1, none⟩ = false ∧ a.frozen? ⟨X, 2, none⟩ = false ∧ a.frozen? ⟨X, 3, none⟩ = false := by
  refine ⟨?_, ?_, ?_, ?_⟩ <;> simp [World.frozen?, h]
theorem boxc4 {w : World} {B : Nat} {x0 x1 x2 x3 : Value} {t : TypeId} {fr : Nat × Nat} (h : w.heap[B]? = some (.cells #[x0, x1, x2, x3] t fr)) : w.cell? ⟨B, 0, none⟩ = some x0 ∧ w.cell? ⟨B, 1, none⟩ = some x1 ∧ w.cell? ⟨B, 2, none⟩ = some x2 ∧ w.cell? ⟨B, 3, none⟩ = some x3 := by
  simp [World.cell?, h]
theorem set6_box {a : World} {X : Nat} {x0 x1 x2 x3 x4 x5 v0 v1 v2 v3 v4 v5 : Value} {t : TypeId} (h : a.heap[X]? = some (.cells #[x0, x1, x2, x3, x4, x5] t (0, 0))) : ((((((a.setCell ⟨X, 0, none⟩ v0).setCell ⟨X, 1, none⟩ v1).setCell ⟨X, 2, none⟩ v2).setCell ⟨X, 3, none⟩ v3).setCell ⟨X, 4, none⟩ v4).setCell ⟨X, 5, none⟩ v5).heap[X]? = some (.cells #[v0, v1, v2, v3, v4, v5] t (0, 0)) ∧ Kept (fun k => k = X) a ((((((a.setCell ⟨X, 0, none⟩ v0).setCell ⟨X, 1, none⟩ v1).setCell ⟨X, 2, none⟩ v2).setCell ⟨X, 3, none⟩ v3).setCell ⟨X, 4, none⟩ v4).setCell ⟨X, 5, none⟩ v5) := by
  refine ⟨?_, (((((((Kept.refl (fun k => k = X) a).setCell (p := ⟨X, 0, none⟩) (.inl rfl) v0).setCell (p := ⟨X, 1, none⟩) (.inl rfl) v1).setCell (p := ⟨X, 2, none⟩) (.inl rfl) v2).setCell (p := ⟨X, 3, none⟩) (.inl rfl) v3).setCell (p := ⟨X, 4, none⟩) (.inl rfl) v4).setCell (p := ⟨X, 5, none⟩) (.inl rfl) v5)⟩
  have := (heap_setCell_at (off := 5) (heap_setCell_at (off := 4) (heap_setCell_at (off := 3) (heap_setCell_at (off := 2) (heap_setCell_at (off := 1) (heap_setCell_at (off := 0) h v0) v1) v2) v3) v4) v5)
  simpa using this
theorem marks6 {a : World} {X : Nat} {x0 x1 x2 x3 x4 x5 : Value} {t : TypeId} (h : a.heap[X]? = some (.cells #[x0, x1, x2, x3, x4, x5] t (0, 0))) : a.frozen? ⟨X, 0, none⟩ = false ∧ a.frozen? ⟨X, 1, none⟩ = false ∧ a.frozen? ⟨X, 2, none⟩ = false ∧ a.frozen? ⟨X, 3, none⟩ = false ∧ a.frozen? ⟨X, 4, none⟩ = false ∧ a.frozen? ⟨X, 5, none⟩ = false := by
  refine ⟨?_, ?_, ?_, ?_, ?_, ?_⟩ <;> simp [World.frozen?, h]
theorem boxc6 {w : World} {B : Nat} {x0 x1 x2 x3 x4 x5 : Value} {t : TypeId} {fr : Nat × Nat} (h : w.heap[B]? = some (.cells #[x0, x1, x2, x3, x4, x5] t fr)) : w.cell? ⟨B, 0, none⟩ = some x0 ∧ w.cell? ⟨B, 1, none⟩ = some x1 ∧ w.cell? ⟨B, 2, none⟩ = some x2 ∧ w.cell? ⟨B, 3, none⟩ = some x3 ∧ w.cell? ⟨B, 4, none⟩ = some x4 ∧ w.cell? ⟨B, 5, none⟩ = some x5 := by
  simp [World.cell?, h]
set_option maxHeartbeats 6400000 in
theorem sem_any {base Z c : Nat} {A : Option Addr} {S : List Int} (hS : ∀ x ∈ S, 0 ≤ x ∧ x ≤ 255) (w : World) (s : St) (h : Bl.RD base w Z A c S s.1 s.2) :
    Calls Tryd.prog 64 #[.agg #[.pointer (some ⟨Z, 0, none⟩)]] w (ThingP base Z A c S w SemR.val (semS S s)) := by
  have K8 := Aside.mk (fun W t (q : Bl.RD base W Z A c S t.1 t.2) => e8_any hS W t q)
  have K16 := Aside.mk (fun W t (q : Bl.RD base W Z A c S t.1 t.2) => e16_any hS W t q)
  have HV : Aside (SemR.val (semS S s).1 = .agg #[.int .u8 (rdN S 1 s).1, .int .u8 (rdN S 1 (rdN S 1 s).2).1] ∧ (semS S s).2 = (rdN S 1 (rdN S 1 s).2).2) := ⟨rfl, rfl⟩
  obtain ⟨W1, HW⟩ : ∃ W1, Aside (W1 = (w.alloc (.cells #[.pointer (some ⟨Z, 0, none⟩)] 79)).alloc (.cells #[.int .u8 0, .int .u8 0] 58)) := ⟨_, ⟨rfl⟩⟩
  have hZ := rd_lt h
  have R0 := Aside.mk h
  have B1 : Aside (Below w.heap.size w W1 ∧ W1.heap[w.heap.size]? = some (.cells #[.pointer (some ⟨Z, 0, none⟩)] 79 (0, 0)) ∧ W1.heap[w.heap.size + 1]? = some (.cells #[.int .u8 0, .int .u8 0] 58 (0, 0))) := ⟨by
    rw [HW.out]; exact ⟨bel_two _ _ _, heap_up (heap_alloc_new _ _), heap_top _ _ _ (by simp)⟩⟩
  have R1 : Aside (Bl.RD base W1.drew Z A c S s.1 s.2) := ⟨h.below (bel_then B1.out.1 (below_drewN W1 1))⟩
  have p0 : W1.cell? ⟨w.heap.size, 0, none⟩ = some (.pointer (some ⟨Z, 0, none⟩)) := by simp [World.cell?, B1.out.2.1]
  have hne : w.heap.size ≠ Z := by omega
  have hne1 : w.heap.size + 1 ≠ Z := by omega
  have KD0 := Aside.mk (K8.out W1.drew s R1.out)
  obtain ⟨r0, hr0⟩ : ∃ r0, r0 = rdN S 1 s := ⟨_, rfl⟩
  obtain ⟨r1, hr1⟩ : ∃ r1, r1 = rdN S 1 r0.2 := ⟨_, rfl⟩
  have HV : Aside (SemR.val (semS S s).1 = .agg #[.int .u8 r0.1, .int .u8 r1.1] ∧ (semS S s).2 = r1.2) := ⟨by subst hr1 hr0; exact HV.out⟩
  rw [← hr0] at KD0
  have KN1 : Aside (∀ W, Bl.RD base W Z A c S r0.2.1 r0.2.2 → Calls Tryd.prog 31 #[.pointer (some ⟨Z, 0, none⟩)] W (ReadP base Z A c S W (.int .u8 r1.1) r1.2)) := ⟨fun W q => by rw [hr1]; exact K8.out W r0.2 q⟩
  clear h hr1 hr0
  go_enter Tryd.func64, Tryd.ntmps64
  go_upto_region 1 with (fail)
  rw [← HW.out]
  go_region_held3 (fun w' => w'.cell? ⟨w.heap.size, 0, none⟩ = some (.pointer (some ⟨Z, 0, none⟩))) (first | go_keep | (exact k1))
    (first
      | ((with_reducible refine KD0.out.mono ?_); rintro e w0 ⟨rfl, q0⟩; have Q0 : Aside (Rk base Z A c S W1.drew r0.2 w0) := ⟨q0⟩; have k1 : w0.cell? ⟨w.heap.size, 0, none⟩ = some (.pointer (some ⟨Z, 0, none⟩)) := Q0.out.cell hne p0; have BX := Q0.out.box hne1 B1.out.2.2; obtain ⟨f0, f1⟩ := marks2 BX; obtain ⟨b0, b1⟩ := boxc2 BX; have KD1 := Aside.mk (KN1.out w0 Q0.out.rd); clear q0 BX)
      | ((with_reducible refine KD1.out.mono ?_); rintro e w1 ⟨rfl, q1⟩; have Q1 : Aside (Rk base Z A c S W1.drew r1.2 w1) := ⟨Q0.out.then_ q1⟩; have k1 : w1.cell? ⟨w.heap.size, 0, none⟩ = some (.pointer (some ⟨Z, 0, none⟩)) := Q1.out.cell hne p0; have BX := Q1.out.box hne1 B1.out.2.2; obtain ⟨f0, f1⟩ := marks2 BX; obtain ⟨b0, b1⟩ := boxc2 BX; clear q1 BX))
  go_wp2_with fail
  have FB := set2_box (v0 := .int .u8 r0.1) (v1 := .int .u8 r1.1) (Q1.out.box hne1 B1.out.2.2)
  obtain ⟨g0, g1⟩ := boxc2 FB.1
  have HK : Rk base Z A c S w r1.2 _ := ⟨rd_news R0.out Q1.out.rd FB.2 (t := 58) (by decide) (fun j e => by subst e; exact ⟨by omega, _, _, Q1.out.box hne1 B1.out.2.2⟩), (((Kept.of_below B1.out.1).drew).trans Q1.out.kept).then_ FB.2 (fun k e => .inr (by omega))⟩
  refine bodyPost_ret (v := .agg #[.int .u8 r0.1, .int .u8 r1.1]) (by simp [results, Tryd.results64, go_sem, g0, g1]) rfl ⟨by rw [HV.out.1], by rw [HV.out.2]; exact HK⟩
set_option maxHeartbeats 6400000 in
theorem pair_any {base Z c : Nat} {A : Option Addr} {S : List Int} (hS : ∀ x ∈ S, 0 ≤ x ∧ x ≤ 255) (w : World) (s : St) (h : Bl.RD base w Z A c S s.1 s.2) :
    Calls Tryd.prog 39 #[.agg #[.pointer (some ⟨Z, 0, none⟩)]] w (ThingP base Z A c S w PairR.val (pairS S s)) := by
  have K8 := Aside.mk (fun W t (q : Bl.RD base W Z A c S t.1 t.2) => e8_any hS W t q)
  have K16 := Aside.mk (fun W t (q : Bl.RD base W Z A c S t.1 t.2) => e16_any hS W t q)
  have HV : Aside (PairR.val (pairS S s).1 = .agg #[.int .u8 (rdN S 1 s).1, .int .u8 (rdN S 1 (rdN S 1 s).2).1] ∧ (pairS S s).2 = (rdN S 1 (rdN S 1 s).2).2) := ⟨rfl, rfl⟩
  obtain ⟨W1, HW⟩ : ∃ W1, Aside (W1 = (w.alloc (.cells #[.pointer (some ⟨Z, 0, none⟩)] 79)).alloc (.cells #[.int .u8 0, .int .u8 0] 62)) := ⟨_, ⟨rfl⟩⟩
  have hZ := rd_lt h
  have R0 := Aside.mk h
  have B1 : Aside (Below w.heap.size w W1 ∧ W1.heap[w.heap.size]? = some (.cells #[.pointer (some ⟨Z, 0, none⟩)] 79 (0, 0)) ∧ W1.heap[w.heap.size + 1]? = some (.cells #[.int .u8 0, .int .u8 0] 62 (0, 0))) := ⟨by
    rw [HW.out]; exact ⟨bel_two _ _ _, heap_up (heap_alloc_new _ _), heap_top _ _ _ (by simp)⟩⟩
  have R1 : Aside (Bl.RD base W1.drew Z A c S s.1 s.2) := ⟨h.below (bel_then B1.out.1 (below_drewN W1 1))⟩
  have p0 : W1.cell? ⟨w.heap.size, 0, none⟩ = some (.pointer (some ⟨Z, 0, none⟩)) := by simp [World.cell?, B1.out.2.1]
  have hne : w.heap.size ≠ Z := by omega
  have hne1 : w.heap.size + 1 ≠ Z := by omega
  have KD0 := Aside.mk (K8.out W1.drew s R1.out)
  obtain ⟨r0, hr0⟩ : ∃ r0, r0 = rdN S 1 s := ⟨_, rfl⟩
  obtain ⟨r1, hr1⟩ : ∃ r1, r1 = rdN S 1 r0.2 := ⟨_, rfl⟩
  have HV : Aside (PairR.val (pairS S s).1 = .agg #[.int .u8 r0.1, .int .u8 r1.1] ∧ (pairS S s).2 = r1.2) := ⟨by subst hr1 hr0; exact HV.out⟩
  rw [← hr0] at KD0
  have KN1 : Aside (∀ W, Bl.RD base W Z A c S r0.2.1 r0.2.2 → Calls Tryd.prog 31 #[.pointer (some ⟨Z, 0, none⟩)] W (ReadP base Z A c S W (.int .u8 r1.1) r1.2)) := ⟨fun W q => by rw [hr1]; exact K8.out W r0.2 q⟩
  clear h hr1 hr0
  go_enter Tryd.func39, Tryd.ntmps39
  go_upto_region 1 with (fail)
  rw [← HW.out]
  go_region_held3 (fun w' => w'.cell? ⟨w.heap.size, 0, none⟩ = some (.pointer (some ⟨Z, 0, none⟩))) (first | go_keep | (exact k1))
    (first
      | ((with_reducible refine KD0.out.mono ?_); rintro e w0 ⟨rfl, q0⟩; have Q0 : Aside (Rk base Z A c S W1.drew r0.2 w0) := ⟨q0⟩; have k1 : w0.cell? ⟨w.heap.size, 0, none⟩ = some (.pointer (some ⟨Z, 0, none⟩)) := Q0.out.cell hne p0; have BX := Q0.out.box hne1 B1.out.2.2; obtain ⟨f0, f1⟩ := marks2 BX; obtain ⟨b0, b1⟩ := boxc2 BX; have KD1 := Aside.mk (KN1.out w0 Q0.out.rd); clear q0 BX)
      | ((with_reducible refine KD1.out.mono ?_); rintro e w1 ⟨rfl, q1⟩; have Q1 : Aside (Rk base Z A c S W1.drew r1.2 w1) := ⟨Q0.out.then_ q1⟩; have k1 : w1.cell? ⟨w.heap.size, 0, none⟩ = some (.pointer (some ⟨Z, 0, none⟩)) := Q1.out.cell hne p0; have BX := Q1.out.box hne1 B1.out.2.2; obtain ⟨f0, f1⟩ := marks2 BX; obtain ⟨b0, b1⟩ := boxc2 BX; clear q1 BX))
  go_wp2_with fail
  have FB := set2_box (v0 := .int .u8 r0.1) (v1 := .int .u8 r1.1) (Q1.out.box hne1 B1.out.2.2)
  obtain ⟨g0, g1⟩ := boxc2 FB.1
  have HK : Rk base Z A c S w r1.2 _ := ⟨rd_news R0.out Q1.out.rd FB.2 (t := 62) (by decide) (fun j e => by subst e; exact ⟨by omega, _, _, Q1.out.box hne1 B1.out.2.2⟩), (((Kept.of_below B1.out.1).drew).trans Q1.out.kept).then_ FB.2 (fun k e => .inr (by omega))⟩
  refine bodyPost_ret (v := .agg #[.int .u8 r0.1, .int .u8 r1.1]) (by simp [results, Tryd.results39, go_sem, g0, g1]) rfl ⟨by rw [HV.out.1], by rw [HV.out.2]; exact HK⟩
set_option maxHeartbeats 6400000 in
theorem window_any {base Z c : Nat} {A : Option Addr} {S : List Int} (hS : ∀ x ∈ S, 0 ≤ x ∧ x ≤ 255) (w : World) (s : St) (h : Bl.RD base w Z A c S s.1 s.2) :
    Calls Tryd.prog 62 #[.agg #[.pointer (some ⟨Z, 0, none⟩)]] w (ThingP base Z A c S w Win.val (winS S s)) := by
  have K8 := Aside.mk (fun W t (q : Bl.RD base W Z A c S t.1 t.2) => e8_any hS W t q)
  have K16 := Aside.mk (fun W t (q : Bl.RD base W Z A c S t.1 t.2) => e16_any hS W t q)
  have HV : Aside (Win.val (winS S s).1 = .agg #[.int .u16 (rdN S 2 s).1, .int .u16 (rdN S 2 (rdN S 2 s).2).1, .int .u8 (rdN S 1 (rdN S 2 (rdN S 2 s).2).2).1, .int .u8 (rdN S 1 (rdN S 1 (rdN S 2 (rdN S 2 s).2).2).2).1] ∧ (winS S s).2 = (rdN S 1 (rdN S 1 (rdN S 2 (rdN S 2 s).2).2).2).2) := ⟨rfl, rfl⟩
  obtain ⟨W1, HW⟩ : ∃ W1, Aside (W1 = (w.alloc (.cells #[.pointer (some ⟨Z, 0, none⟩)] 79)).alloc (.cells #[.int .u16 0, .int .u16 0, .int .u8 0, .int .u8 0] 51)) := ⟨_, ⟨rfl⟩⟩
  have hZ := rd_lt h
  have R0 := Aside.mk h
  have B1 : Aside (Below w.heap.size w W1 ∧ W1.heap[w.heap.size]? = some (.cells #[.pointer (some ⟨Z, 0, none⟩)] 79 (0, 0)) ∧ W1.heap[w.heap.size + 1]? = some (.cells #[.int .u16 0, .int .u16 0, .int .u8 0, .int .u8 0] 51 (0, 0))) := ⟨by
    rw [HW.out]; exact ⟨bel_two _ _ _, heap_up (heap_alloc_new _ _), heap_top _ _ _ (by simp)⟩⟩
  have R1 : Aside (Bl.RD base W1.drew Z A c S s.1 s.2) := ⟨h.below (bel_then B1.out.1 (below_drewN W1 1))⟩
  have p0 : W1.cell? ⟨w.heap.size, 0, none⟩ = some (.pointer (some ⟨Z, 0, none⟩)) := by simp [World.cell?, B1.out.2.1]
  have hne : w.heap.size ≠ Z := by omega
  have hne1 : w.heap.size + 1 ≠ Z := by omega
  have KD0 := Aside.mk (K16.out W1.drew s R1.out)
  obtain ⟨r0, hr0⟩ : ∃ r0, r0 = rdN S 2 s := ⟨_, rfl⟩
  obtain ⟨r1, hr1⟩ : ∃ r1, r1 = rdN S 2 r0.2 := ⟨_, rfl⟩
  obtain ⟨r2, hr2⟩ : ∃ r2, r2 = rdN S 1 r1.2 := ⟨_, rfl⟩
  obtain ⟨r3, hr3⟩ : ∃ r3, r3 = rdN S 1 r2.2 := ⟨_, rfl⟩
  have HV : Aside (Win.val (winS S s).1 = .agg #[.int .u16 r0.1, .int .u16 r1.1, .int .u8 r2.1, .int .u8 r3.1] ∧ (winS S s).2 = r3.2) := ⟨by subst hr3 hr2 hr1 hr0; exact HV.out⟩
  rw [← hr0] at KD0
  have KN1 : Aside (∀ W, Bl.RD base W Z A c S r0.2.1 r0.2.2 → Calls Tryd.prog 30 #[.pointer (some ⟨Z, 0, none⟩)] W (ReadP base Z A c S W (.int .u16 r1.1) r1.2)) := ⟨fun W q => by rw [hr1]; exact K16.out W r0.2 q⟩
  have KN2 : Aside (∀ W, Bl.RD base W Z A c S r1.2.1 r1.2.2 → Calls Tryd.prog 31 #[.pointer (some ⟨Z, 0, none⟩)] W (ReadP base Z A c S W (.int .u8 r2.1) r2.2)) := ⟨fun W q => by rw [hr2]; exact K8.out W r1.2 q⟩
  have KN3 : Aside (∀ W, Bl.RD base W Z A c S r2.2.1 r2.2.2 → Calls Tryd.prog 31 #[.pointer (some ⟨Z, 0, none⟩)] W (ReadP base Z A c S W (.int .u8 r3.1) r3.2)) := ⟨fun W q => by rw [hr3]; exact K8.out W r2.2 q⟩
  clear h hr3 hr2 hr1 hr0
  go_enter Tryd.func62, Tryd.ntmps62
  go_upto_region 1 with (fail)
  rw [← HW.out]
  go_region_held3 (fun w' => w'.cell? ⟨w.heap.size, 0, none⟩ = some (.pointer (some ⟨Z, 0, none⟩))) (first | go_keep | (exact k1))
    (first
      | ((with_reducible refine KD0.out.mono ?_); rintro e w0 ⟨rfl, q0⟩; have Q0 : Aside (Rk base Z A c S W1.drew r0.2 w0) := ⟨q0⟩; have k1 : w0.cell? ⟨w.heap.size, 0, none⟩ = some (.pointer (some ⟨Z, 0, none⟩)) := Q0.out.cell hne p0; have BX := Q0.out.box hne1 B1.out.2.2; obtain ⟨f0, f1, f2, f3⟩ := marks4 BX; obtain ⟨b0, b1, b2, b3⟩ := boxc4 BX; have KD1 := Aside.mk (KN1.out w0 Q0.out.rd); clear q0 BX)
      | ((with_reducible refine KD1.out.mono ?_); rintro e w1 ⟨rfl, q1⟩; have Q1 : Aside (Rk base Z A c S W1.drew r1.2 w1) := ⟨Q0.out.then_ q1⟩; have k1 : w1.cell? ⟨w.heap.size, 0, none⟩ = some (.pointer (some ⟨Z, 0, none⟩)) := Q1.out.cell hne p0; have BX := Q1.out.box hne1 B1.out.2.2; obtain ⟨f0, f1, f2, f3⟩ := marks4 BX; obtain ⟨b0, b1, b2, b3⟩ := boxc4 BX; have KD2 := Aside.mk (KN2.out w1 Q1.out.rd); clear q1 BX)
      | ((with_reducible refine KD2.out.mono ?_); rintro e w2 ⟨rfl, q2⟩; have Q2 : Aside (Rk base Z A c S W1.drew r2.2 w2) := ⟨Q1.out.then_ q2⟩; have k1 : w2.cell? ⟨w.heap.size, 0, none⟩ = some (.pointer (some ⟨Z, 0, none⟩)) := Q2.out.cell hne p0; have BX := Q2.out.box hne1 B1.out.2.2; obtain ⟨f0, f1, f2, f3⟩ := marks4 BX; obtain ⟨b0, b1, b2, b3⟩ := boxc4 BX; have KD3 := Aside.mk (KN3.out w2 Q2.out.rd); clear q2 BX)
      | ((with_reducible refine KD3.out.mono ?_); rintro e w3 ⟨rfl, q3⟩; have Q3 : Aside (Rk base Z A c S W1.drew r3.2 w3) := ⟨Q2.out.then_ q3⟩; have k1 : w3.cell? ⟨w.heap.size, 0, none⟩ = some (.pointer (some ⟨Z, 0, none⟩)) := Q3.out.cell hne p0; have BX := Q3.out.box hne1 B1.out.2.2; obtain ⟨f0, f1, f2, f3⟩ := marks4 BX; obtain ⟨b0, b1, b2, b3⟩ := boxc4 BX; clear q3 BX))
  go_wp2_with fail
  have FB := set4_box (v0 := .int .u16 r0.1) (v1 := .int .u16 r1.1) (v2 := .int .u8 r2.1) (v3 := .int .u8 r3.1) (Q3.out.box hne1 B1.out.2.2)
  obtain ⟨g0, g1, g2, g3⟩ := boxc4 FB.1
  have HK : Rk base Z A c S w r3.2 _ := ⟨rd_news R0.out Q3.out.rd FB.2 (t := 51) (by decide) (fun j e => by subst e; exact ⟨by omega, _, _, Q3.out.box hne1 B1.out.2.2⟩), (((Kept.of_below B1.out.1).drew).trans Q3.out.kept).then_ FB.2 (fun k e => .inr (by omega))⟩
  refine bodyPost_ret (v := .agg #[.int .u16 r0.1, .int .u16 r1.1, .int .u8 r2.1, .int .u8 r3.1]) (by simp [results, Tryd.results62, go_sem, g0, g1, g2, g3]) rfl ⟨by rw [HV.out.1], by rw [HV.out.2]; exact HK⟩
set_option maxHeartbeats 6400000 in
theorem channel_any {base Z c : Nat} {A : Option Addr} {S : List Int} (hS : ∀ x ∈ S, 0 ≤ x ∧ x ≤ 255) (w : World) (s : St) (h : Bl.RD base w Z A c S s.1 s.2) :
    Calls Tryd.prog 37 #[.agg #[.pointer (some ⟨Z, 0, none⟩)]] w (ThingP base Z A c S w ChanR.val (chanS S s)) := by
  have K8 := Aside.mk (fun W t (q : Bl.RD base W Z A c S t.1 t.2) => e8_any hS W t q)
  have K16 := Aside.mk (fun W t (q : Bl.RD base W Z A c S t.1 t.2) => e16_any hS W t q)
  have HV : Aside (ChanR.val (chanS S s).1 = .agg #[.int .u8 (rdN S 1 s).1, .int .u8 (rdN S 1 (rdN S 1 s).2).1, .int .u8 (rdN S 1 (rdN S 1 (rdN S 1 s).2).2).1, .int .u8 (rdN S 1 (rdN S 1 (rdN S 1 (rdN S 1 s).2).2).2).1, .int .u8 (rdN S 1 (rdN S 1 (rdN S 1 (rdN S 1 (rdN S 1 s).2).2).2).2).1, .int .u16 (rdN S 2 (rdN S 1 (rdN S 1 (rdN S 1 (rdN S 1 (rdN S 1 s).2).2).2).2).2).1] ∧ (chanS S s).2 = (rdN S 2 (rdN S 1 (rdN S 1 (rdN S 1 (rdN S 1 (rdN S 1 s).2).2).2).2).2).2) := ⟨rfl, rfl⟩
  obtain ⟨W1, HW⟩ : ∃ W1, Aside (W1 = (w.alloc (.cells #[.pointer (some ⟨Z, 0, none⟩)] 79)).alloc (.cells #[.int .u8 0, .int .u8 0, .int .u8 0, .int .u8 0, .int .u8 0, .int .u16 0] 60)) := ⟨_, ⟨rfl⟩⟩
  have hZ := rd_lt h
  have R0 := Aside.mk h
  have B1 : Aside (Below w.heap.size w W1 ∧ W1.heap[w.heap.size]? = some (.cells #[.pointer (some ⟨Z, 0, none⟩)] 79 (0, 0)) ∧ W1.heap[w.heap.size + 1]? = some (.cells #[.int .u8 0, .int .u8 0, .int .u8 0, .int .u8 0, .int .u8 0, .int .u16 0] 60 (0, 0))) := ⟨by
    rw [HW.out]; exact ⟨bel_two _ _ _, heap_up (heap_alloc_new _ _), heap_top _ _ _ (by simp)⟩⟩
  have R1 : Aside (Bl.RD base W1.drew Z A c S s.1 s.2) := ⟨h.below (bel_then B1.out.1 (below_drewN W1 1))⟩
  have p0 : W1.cell? ⟨w.heap.size, 0, none⟩ = some (.pointer (some ⟨Z, 0, none⟩)) := by simp [World.cell?, B1.out.2.1]
  have hne : w.heap.size ≠ Z := by omega
  have hne1 : w.heap.size + 1 ≠ Z := by omega
  have KD0 := Aside.mk (K8.out W1.drew s R1.out)
  obtain ⟨r0, hr0⟩ : ∃ r0, r0 = rdN S 1 s := ⟨_, rfl⟩
  obtain ⟨r1, hr1⟩ : ∃ r1, r1 = rdN S 1 r0.2 := ⟨_, rfl⟩
  obtain ⟨r2, hr2⟩ : ∃ r2, r2 = rdN S 1 r1.2 := ⟨_, rfl⟩
  obtain ⟨r3, hr3⟩ : ∃ r3, r3 = rdN S 1 r2.2 := ⟨_, rfl⟩
  obtain ⟨r4, hr4⟩ : ∃ r4, r4 = rdN S 1 r3.2 := ⟨_, rfl⟩
  obtain ⟨r5, hr5⟩ : ∃ r5, r5 = rdN S 2 r4.2 := ⟨_, rfl⟩
  have HV : Aside (ChanR.val (chanS S s).1 = .agg #[.int .u8 r0.1, .int .u8 r1.1, .int .u8 r2.1, .int .u8 r3.1, .int .u8 r4.1, .int .u16 r5.1] ∧ (chanS S s).2 = r5.2) := ⟨by subst hr5 hr4 hr3 hr2 hr1 hr0; exact HV.out⟩
  rw [← hr0] at KD0
  have KN1 : Aside (∀ W, Bl.RD base W Z A c S r0.2.1 r0.2.2 → Calls Tryd.prog 31 #[.pointer (some ⟨Z, 0, none⟩)] W (ReadP base Z A c S W (.int .u8 r1.1) r1.2)) := ⟨fun W q => by rw [hr1]; exact K8.out W r0.2 q⟩
  have KN2 : Aside (∀ W, Bl.RD base W Z A c S r1.2.1 r1.2.2 → Calls Tryd.prog 31 #[.pointer (some ⟨Z, 0, none⟩)] W (ReadP base Z A c S W (.int .u8 r2.1) r2.2)) := ⟨fun W q => by rw [hr2]; exact K8.out W r1.2 q⟩
  have KN3 : Aside (∀ W, Bl.RD base W Z A c S r2.2.1 r2.2.2 → Calls Tryd.prog 31 #[.pointer (some ⟨Z, 0, none⟩)] W (ReadP base Z A c S W (.int .u8 r3.1) r3.2)) := ⟨fun W q => by rw [hr3]; exact K8.out W r2.2 q⟩
  have KN4 : Aside (∀ W, Bl.RD base W Z A c S r3.2.1 r3.2.2 → Calls Tryd.prog 31 #[.pointer (some ⟨Z, 0, none⟩)] W (ReadP base Z A c S W (.int .u8 r4.1) r4.2)) := ⟨fun W q => by rw [hr4]; exact K8.out W r3.2 q⟩
  have KN5 : Aside (∀ W, Bl.RD base W Z A c S r4.2.1 r4.2.2 → Calls Tryd.prog 30 #[.pointer (some ⟨Z, 0, none⟩)] W (ReadP base Z A c S W (.int .u16 r5.1) r5.2)) := ⟨fun W q => by rw [hr5]; exact K16.out W r4.2 q⟩
  clear h hr5 hr4 hr3 hr2 hr1 hr0
  go_enter Tryd.func37, Tryd.ntmps37
  go_upto_region 1 with (fail)
  rw [← HW.out]
  go_region_held3 (fun w' => w'.cell? ⟨w.heap.size, 0, none⟩ = some (.pointer (some ⟨Z, 0, none⟩))) (first | go_keep | (exact k1))
    (first
      | ((with_reducible refine KD0.out.mono ?_); rintro e w0 ⟨rfl, q0⟩; have Q0 : Aside (Rk base Z A c S W1.drew r0.2 w0) := ⟨q0⟩; have k1 : w0.cell? ⟨w.heap.size, 0, none⟩ = some (.pointer (some ⟨Z, 0, none⟩)) := Q0.out.cell hne p0; have BX := Q0.out.box hne1 B1.out.2.2; obtain ⟨f0, f1, f2, f3, f4, f5⟩ := marks6 BX; obtain ⟨b0, b1, b2, b3, b4, b5⟩ := boxc6 BX; have KD1 := Aside.mk (KN1.out w0 Q0.out.rd); clear q0 BX)
      | ((with_reducible refine KD1.out.mono ?_); rintro e w1 ⟨rfl, q1⟩; have Q1 : Aside (Rk base Z A c S W1.drew r1.2 w1) := ⟨Q0.out.then_ q1⟩; have k1 : w1.cell? ⟨w.heap.size, 0, none⟩ = some (.pointer (some ⟨Z, 0, none⟩)) := Q1.out.cell hne p0; have BX := Q1.out.box hne1 B1.out.2.2; obtain ⟨f0, f1, f2, f3, f4, f5⟩ := marks6 BX; obtain ⟨b0, b1, b2, b3, b4, b5⟩ := boxc6 BX; have KD2 := Aside.mk (KN2.out w1 Q1.out.rd); clear q1 BX)
      | ((with_reducible refine KD2.out.mono ?_); rintro e w2 ⟨rfl, q2⟩; have Q2 : Aside (Rk base Z A c S W1.drew r2.2 w2) := ⟨Q1.out.then_ q2⟩; have k1 : w2.cell? ⟨w.heap.size, 0, none⟩ = some (.pointer (some ⟨Z, 0, none⟩)) := Q2.out.cell hne p0; have BX := Q2.out.box hne1 B1.out.2.2; obtain ⟨f0, f1, f2, f3, f4, f5⟩ := marks6 BX; obtain ⟨b0, b1, b2, b3, b4, b5⟩ := boxc6 BX; have KD3 := Aside.mk (KN3.out w2 Q2.out.rd); clear q2 BX)
      | ((with_reducible refine KD3.out.mono ?_); rintro e w3 ⟨rfl, q3⟩; have Q3 : Aside (Rk base Z A c S W1.drew r3.2 w3) := ⟨Q2.out.then_ q3⟩; have k1 : w3.cell? ⟨w.heap.size, 0, none⟩ = some (.pointer (some ⟨Z, 0, none⟩)) := Q3.out.cell hne p0; have BX := Q3.out.box hne1 B1.out.2.2; obtain ⟨f0, f1, f2, f3, f4, f5⟩ := marks6 BX; obtain ⟨b0, b1, b2, b3, b4, b5⟩ := boxc6 BX; have KD4 := Aside.mk (KN4.out w3 Q3.out.rd); clear q3 BX)
      | ((with_reducible refine KD4.out.mono ?_); rintro e w4 ⟨rfl, q4⟩; have Q4 : Aside (Rk base Z A c S W1.drew r4.2 w4) := ⟨Q3.out.then_ q4⟩; have k1 : w4.cell? ⟨w.heap.size, 0, none⟩ = some (.pointer (some ⟨Z, 0, none⟩)) := Q4.out.cell hne p0; have BX := Q4.out.box hne1 B1.out.2.2; obtain ⟨f0, f1, f2, f3, f4, f5⟩ := marks6 BX; obtain ⟨b0, b1, b2, b3, b4, b5⟩ := boxc6 BX; have KD5 := Aside.mk (KN5.out w4 Q4.out.rd); clear q4 BX)
      | ((with_reducible refine KD5.out.mono ?_); rintro e w5 ⟨rfl, q5⟩; have Q5 : Aside (Rk base Z A c S W1.drew r5.2 w5) := ⟨Q4.out.then_ q5⟩; have k1 : w5.cell? ⟨w.heap.size, 0, none⟩ = some (.pointer (some ⟨Z, 0, none⟩)) := Q5.out.cell hne p0; have BX := Q5.out.box hne1 B1.out.2.2; obtain ⟨f0, f1, f2, f3, f4, f5⟩ := marks6 BX; obtain ⟨b0, b1, b2, b3, b4, b5⟩ := boxc6 BX; clear q5 BX))
  go_wp2_with fail
  have FB := set6_box (v0 := .int .u8 r0.1) (v1 := .int .u8 r1.1) (v2 := .int .u8 r2.1) (v3 := .int .u8 r3.1) (v4 := .int .u8 r4.1) (v5 := .int .u16 r5.1) (Q5.out.box hne1 B1.out.2.2)
  obtain ⟨g0, g1, g2, g3, g4, g5⟩ := boxc6 FB.1
  have HK : Rk base Z A c S w r5.2 _ := ⟨rd_news R0.out Q5.out.rd FB.2 (t := 60) (by decide) (fun j e => by subst e; exact ⟨by omega, _, _, Q5.out.box hne1 B1.out.2.2⟩), (((Kept.of_below B1.out.1).drew).trans Q5.out.kept).then_ FB.2 (fun k e => .inr (by omega))⟩
  refine bodyPost_ret (v := .agg #[.int .u8 r0.1, .int .u8 r1.1, .int .u8 r2.1, .int .u8 r3.1, .int .u8 r4.1, .int .u16 r5.1]) (by simp [results, Tryd.results37, go_sem, g0, g1, g2, g3, g4, g5]) rfl ⟨by rw [HV.out.1], by rw [HV.out.2]; exact HK⟩
end Go.Proofs.YtbphlapdhcgikaaDoor
