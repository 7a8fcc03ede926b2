/- Layer 7's laws: uses of a memory in a row. -/
import Derived.Test.YtbllkbcaapeajaaDoorMemF
import Derived.Test.YtbllkbcaapeajaaDoorRds
namespace Go.Proofs.YtbllkbcaapeajaaDoor
open Go.RowKit
set_option linter.unusedVariables false
set_option linter.unusedSimpArgs false

def okAt (L : List Int) (a : Int) : Prop := 0 ≤ a ∧ a < (L.length : Int)
instance (L : List Int) (a : Int) : Decidable (okAt L a) := inferInstanceAs (Decidable (_ ∧ _))
def stepL (L : List Int) (k a o v : Int) : List Int := if okAt L a then L.set a.toNat (newS k o v (L.getD a.toNat 0)) else L
def stepC (L : List Int) (c a : Int) : Int := if okAt L a then c + 1 else c
def stepA (L : List Int) (k a o : Int) : Int := if okAt L a then ansS k o (L.getD a.toNat 0) else 0
def stepE (L : List Int) (a : Int) : Int := if okAt L a then 0 else 81
theorem stepL_length (L : List Int) (k a o v : Int) : (stepL L k a o v).length = L.length := by unfold stepL; split <;> simp
theorem stepC_le (L : List Int) (c a : Int) : c ≤ stepC L c a ∧ stepC L c a ≤ c + 1 := by unfold stepC; split <;> omega
theorem kindS_range (k : Int) : 0 ≤ kindS k ∧ kindS k ≤ 5 := by unfold kindS; split <;> omega

theorem does_any {w0 w : World} {B G : Nat} {L : List Int} {c : Int} (s : MSt w0 w B G L c) (hc0 : 0 ≤ c) (hc1 : c < 4611686018427387904) (k a o v : Int) (hk : 0 ≤ k ∧ k ≤ 5) (v0 : 0 ≤ v) (v1 : v < 4294967296) (o0 : 0 ≤ o) (o1 : o < 4294967296) :
    Calls Tryd.prog 12 #[.pointer (some ⟨B, 0, none⟩), .agg #[.int .i64 k, .int .i64 a, .int .u32 o, .int .u32 v]] w fun e w' => e = .returned (.tuple #[.int .u32 (stepA L k a o), .int .i64 (stepE L a)]) ∧ MSt w0 w' B G (stepL L k a o v) (stepC L c a) ∧ Kept (fun k => k = B ∨ k = G) w w' := by
  by_cases h : okAt L a
  · obtain ⟨n, rfl⟩ := Int.eq_ofNat_of_zero_le h.1
    have hn : n < L.length := by have := h.2; omega
    refine (does_yes w B G L c n s.mem s.look hn _ ⟨rfl⟩ hc0 hc1 s.nB s.nG k v o hk v0 v1 o0 o1).mono ?_
    rintro e w' ⟨rfl, m, q⟩
    simp only [stepL, stepC, stepA, stepE, if_pos h, Int.toNat_natCast]
    exact ⟨trivial, s.step m q, q⟩
  · refine (does_no w B G L c a s.mem s.look (by unfold okAt at h; omega) k v o hk).mono ?_
    rintro e w' ⟨rfl, q⟩
    simp only [stepL, stepC, stepA, stepE, if_neg h]
    exact ⟨trivial, s.old q, Kept.of_below q⟩
theorem right_any (w : World) (v : Value) (L : List Int) (c : Int) (hv : Ints w .u32 v L) (hL : L.length ≤ 4096) (hr : ∀ x ∈ L, 0 ≤ x ∧ x < 4294967296) (hc0 : 0 ≤ c) (hc1 : c < 4611686018427387904) (k a o d : Int) (hk : 0 ≤ k ∧ k ≤ 5) (d0 : 0 ≤ d) (d1 : d < 4294967296) (o0 : 0 ≤ o) (o1 : o < 4294967296) :
    Calls Tryd.prog 13 #[.agg #[v, .int .i64 c], .agg #[.int .i64 k, .int .i64 a, .int .u32 o, .int .u32 d]] w fun e w' => ∃ v', e = .returned (.tuple #[.agg #[v', .int .i64 (stepC L c a)], .int .u32 (stepA L k a o), .int .i64 (stepE L a)]) ∧ Ints w' .u32 v' (stepL L k a o d) ∧ (v' = v ∨ Fresh w.heap.size v') ∧ Below w.heap.size w w' := by
  by_cases h : okAt L a
  · obtain ⟨n, rfl⟩ := Int.eq_ofNat_of_zero_le h.1
    have hn : n < L.length := by have := h.2; omega
    have hy := hr (L.getD n 0) (by rw [List.getD_eq_getElem?_getD, List.getElem?_eq_getElem hn]; simp)
    refine (right_yes w v L c n hv hL hn _ ⟨rfl⟩ hc0 hc1 k o d hk d0 d1 o0 o1 hy.1 hy.2).mono ?_
    rintro e w' ⟨v', rfl, i, f, q⟩
    simp only [stepL, stepC, stepA, stepE, if_pos h, Int.toNat_natCast]
    exact ⟨v', rfl, i, .inr f, q⟩
  · refine (right_no w v L c k a o d hv (by unfold okAt at h; omega) hk).mono ?_
    rintro e w' ⟨rfl, q⟩
    simp only [stepL, stepC, stepA, stepE, if_neg h]
    exact ⟨v, rfl, hv.below q, .inl rfl, q⟩
theorem rnew_fresh (n : Nat) (w : World) (h1 : 1 ≤ n) (h2 : n ≤ 4096) :
    Calls Tryd.prog 9 #[.int .i64 (n : Int)] w fun e w' => ∃ v, e = .returned (.tuple #[.agg #[v, .int .i64 0], .int .i64 0]) ∧ Ints w' .u32 v (List.replicate n 0) ∧ Fresh w.heap.size v ∧ Below w.heap.size w w' := by
  have hmk : ∀ W : World, (Instr.makeSlice 27 (.int .i64 (n : Int)) (.int .i64 (n : Int))).run Tryd.prog W = .ok (.slice (some ⟨W.heap.size, 0, none⟩) n n) (W.alloc (.cells (madeCells #[.int .u32 0] n) 33)) := fun W =>
    run_make_row' 27 33 (.int .u32 0) 4 Tryd.underlying27 A_info_u32 rfl .i64 .i64 n (by omega) (by omega) W
  go_enter Tryd.func9, Tryd.ntmps9
  go_wp2_with fail
  refine bodyPost_ret (v := .tuple #[.agg #[.slice (some ⟨w.heap.size + 1, 0, none⟩) n n, .int .i64 0], .int .i64 0]) (by simp [results, Tryd.results9, go_sem]) rfl ⟨_, rfl, ?_, ?_, below_two _ _ _⟩
  · have := ints_lit (w.alloc (.cells #[.slice (some ⟨w.heap.size + 1, 0, none⟩) n n, .int .i64 0] 29)) .u32 33 (List.replicate n 0) (by simp; omega)
    rw [← made_u32] at this
    simpa using this
  · intro b hb
    simp [Value.ownBlock] at hb
    omega

theorem use_cells {w : World} {cs : List Value} {u : rdA35} (h : rd35.R w cs u) :
    cs = [.int .i64 u.1, .int .i64 u.2.1, .int .u32 u.2.2.1, .int .u32 u.2.2.2.1] ∧ (0 ≤ u.2.2.1 ∧ u.2.2.1 ≤ 4294967295) ∧ 0 ≤ u.2.2.2.1 ∧ u.2.2.2.1 ≤ 4294967295 := by
  obtain ⟨k, a, o, d, _⟩ := u
  obtain ⟨c1, _, rfl, ⟨rfl, _⟩, c2, _, rfl, ⟨rfl, _⟩, c3, _, rfl, ⟨rfl, w3⟩, c4, _, rfl, ⟨rfl, w4⟩, rfl⟩ := h
  exact ⟨rfl, bounds_u32 w3, bounds_u32 w4⟩
/-- The uses that a slice holds. -/
abbrev Uses (w : World) (v : Value) (l : List rdA35) : Prop := Elems w 4 rd35.R v l
theorem uses_below {w w' : World} {v : Value} {l : List rdA35} (h : Uses w v l) (k : Below w.heap.size w w') : Uses w' v l :=
  Elems.below (R := rd35.R) (fun h k => rd35.below h k) h k
theorem uses_at {w : World} {a : Option Addr} {n cap : Nat} {l : List rdA35} (h : Uses w (.slice a n cap) l) (i : Nat) (hi : i < l.length) : ∃ ad k p o d, a = some ad ∧ w.cell? (ad.add (i * 4)) = some (.int .i64 k) ∧ w.cell? ⟨(ad.add (i * 4)).block, (ad.add (i * 4)).off + 1, none⟩ = some (.int .i64 p) ∧ w.cell? ⟨(ad.add (i * 4)).block, (ad.add (i * 4)).off + 2, none⟩ = some (.int .u32 o) ∧ w.cell? ⟨(ad.add (i * 4)).block, (ad.add (i * 4)).off + 3, none⟩ = some (.int .u32 d) ∧ (0 ≤ o ∧ o < 4294967296) ∧ 0 ≤ d ∧ d < 4294967296 := by
  obtain ⟨a', cap', e, h1, h2, h3⟩ := h
  obtain ⟨ad, rfl, h4⟩ := h3 (by omega)
  obtain ⟨cs, hl, hc, hr⟩ := h4 i hi
  obtain ⟨rfl, b1, b2⟩ := use_cells hr
  cases e
  exact ⟨ad, _, _, _, _, rfl, by simpa using hc 0 (by omega), by rw [cell_add _ _ _ _ (by omega)]; simpa using hc 1 (by omega), by rw [cell_add _ _ _ _ (by omega)]; simpa using hc 2 (by omega), by rw [cell_add _ _ _ _ (by omega)]; simpa using hc 3 (by omega), ⟨b1.1, Int.lt_of_le_of_lt b1.2 (by decide)⟩, b2.1, Int.lt_of_le_of_lt b2.2 (by decide)⟩

theorem bel_alloc {a w : World} (h : Below a.heap.size a w) (x : Obj) : Below a.heap.size a (w.alloc x) := h.alloc h.size x
theorem bel_drew {a w : World} (h : Below a.heap.size a w) : Below a.heap.size a w.drew := h.drew
theorem bel_drewN {a w : World} (h : Below a.heap.size a w) (n : Nat) : Below a.heap.size a (w.drewN n) := below_then h (below_drewN _ _)
structure PSt (w0 w : World) (B G K : Nat) (L : List Int) (c : Int) (v : Value) : Prop where
  m : MSt w0 w B G L c
  ints : Ints w .u32 v L
  apart : ∀ b, v.ownBlock = some b → b ≠ B ∧ b ≠ G ∧ b ≠ K
  box : w.heap[K]? = some (.cells #[v, .int .i64 c] 29 (0, 0))
  kB : K ≠ B
  kG : K ≠ G
  hK : w0.heap.size ≤ K
theorem Ints.own_lt {w : World} {v : Value} {k : IntKind} {L : List Int} (h : Ints w k v L) (hp : 0 < L.length) (b : Nat) (hb : v.ownBlock = some b) : b < w.heap.size := by
  obtain ⟨A, c, rfl, _, h⟩ := h
  obtain ⟨ad, rfl, hc⟩ := h hp
  simp [Value.ownBlock] at hb
  subst hb
  have := World.block_lt_of_cell? w _ (hc 0 hp)
  simpa [Addr.add] using this
theorem PSt.start {w w1 w2 : World} {B G : Nat} {L : List Int} {c : Int} {v : Value} (s : MSt w w1 B G L c) (i : Ints w2 .u32 v L) (f : Fresh w1.heap.size v) (k : Below w1.heap.size w1 w2) : PSt w (w2.alloc (.cells #[v, .int .i64 c] 29)) B G w2.heap.size L c v := by
  have hB := lt_of_block s.mem.obj
  have hG := lt_of_block s.mem.words
  have hs := k.size
  have h1 := s.below.size
  refine ⟨(s.old k).old ((Below.refl _ _).alloc (Nat.le_refl _) _), i.below ((Below.refl _ _).alloc (Nat.le_refl _) _), fun b hb => ?_, heap_alloc_new _ _, by omega, by omega, by omega⟩
  have := f b hb
  have := i.own_lt s.mem.pos b hb
  omega
theorem PSt.below {w0 w w' : World} {B G K : Nat} {L : List Int} {c : Int} {v : Value} (p : PSt w0 w B G K L c v) (k : Below w.heap.size w w') : PSt w0 w' B G K L c v :=
  ⟨p.m.old k, p.ints.below k, p.apart, (k.block _ (lt_of_block p.box)).trans p.box, p.kB, p.kG, p.hK⟩
theorem PSt.next {w0 w w4 w5 w6 : World} {B G K : Nat} {L L' : List Int} {c c' : Int} {v v' : Value} (p : PSt w0 w B G K L c v) (s4 : MSt w0 w4 B G L' c') (k4 : Kept (fun k => k = B ∨ k = G) w w4)
    (i5 : Ints w5 .u32 v' L') (f : v' = v ∨ Fresh w4.heap.size v') (k5 : Below w4.heap.size w4 w5) (k6 : Below w5.heap.size w5 w6) : PSt w0 ((w6.setCell ⟨K, 0, none⟩ v').setCell ⟨K, 1, none⟩ (.int .i64 c')) B G K L' c' v' := by
  have kb : ¬ (K = B ∨ K = G) := by have := p.kB; have := p.kG; omega
  have b4 := k4.heap p.box kb
  have b5 := (k5.block _ (lt_of_block b4)).trans b4
  have b6 := (k6.block _ (lt_of_block b5)).trans b5
  have s6 := (s4.old k5).old k6
  have hap : ∀ b, v'.ownBlock = some b → b ≠ B ∧ b ≠ G ∧ b ≠ K := by
    rcases f with rfl | f
    · exact p.apart
    · intro b hb
      have h1 := f b hb
      have h2 := lt_of_block b4
      have h3 := lt_of_block s4.mem.obj
      have h4 := lt_of_block s4.mem.words
      omega
  have hk : Kept (fun k => k = K) w6 ((w6.setCell ⟨K, 0, none⟩ v').setCell ⟨K, 1, none⟩ (.int .i64 c')) := ((Kept.refl (fun k => k = K) w6).setCell (p := ⟨K, 0, none⟩) (.inl rfl) _).setCell (p := ⟨K, 1, none⟩) (.inl rfl) _
  have hb : Below w0.heap.size w6 ((w6.setCell ⟨K, 0, none⟩ v').setCell ⟨K, 1, none⟩ (.int .i64 c')) := hk.below s6.below.size (fun k e => by subst e; exact p.hK)
  refine ⟨⟨s6.mem.kept hk (fun e => kb (.inl e.symm)) (fun e => kb (.inr e.symm)), s6.below.trans hb, s6.look.kept hk (by have := p.hK; have := p.m.h0; omega), s6.hB, s6.hG, s6.h0⟩, (i5.below k6).kept hk (fun b e => (hap b e).2.2), hap, ?_, p.kB, p.kG, p.hK⟩
  have := heap_setCell_at (off := 1) (heap_setCell_at (off := 0) b6 v') (.int .i64 c')
  simpa using this

set_option maxHeartbeats 3200000 in
set_option maxRecDepth 100000 in
theorem plays_any (w : World) (hl : Look w) (n : Int) (v : Value) (l : List rdA35) (hu : Uses w v l) :
    Calls Tryd.prog 3 #[.int .i64 n, v] w fun e w' => e = .returned (.bool true) ∧ Below w.heap.size w w' := by
  have Hl := Aside.mk hl
  have Hu := Aside.mk hu
  obtain ⟨a, cap, rfl, h1, h2, _⟩ := hu
  have hlen : l.length ≤ 9223372036854775807 := by omega
  clear h1 h2 hl
  by_cases hn : n < 1 ∨ 4096 < n
  · have K1 := Aside.mk (fun w => new_no n w hn)
    have K2 := Aside.mk (fun w => rnew_no n w hn)
    have hb0 : ∀ (w' : World) (x : Obj), Below w.heap.size w w' → Below w.heap.size w (w'.alloc x) := fun w' x h => h.alloc h.size x
    clear hn
    go_enter Tryd.func3, Tryd.ntmps3
    go_wp2_with fail
    refine (K1.out _).mono ?_
    rintro e w1 ⟨rfl, rfl⟩
    go_wp2_with fail
    refine (K2.out _).mono ?_
    rintro e w1 ⟨rfl, b1⟩
    go_wp2_with fail
    refine (awake_any _ (Hl.out.below (hb0 _ _ b1))).mono ?_
    rintro e w2 ⟨rfl, b2⟩
    go_wp2_with fail
    go_ret
    exact ⟨rfl, (hb0 _ _ b1).trans (b2.mono (by have := (hb0 _ (.cells #[.slice none 0 0, .int .i64 0] 29) b1).size; simpa using this))⟩
  · obtain ⟨N, rfl⟩ := Int.eq_ofNat_of_zero_le (show 0 ≤ n by omega)
    have N1 : 1 ≤ N := by omega
    have N2 : N ≤ 4096 := by omega
    have K1 := Aside.mk (new_st w w N N1 N2 (Below.refl _ _) Hl.out)
    have K2 := Aside.mk (fun w => rnew_fresh N w N1 N2)
    clear hn N1 N2
    go_enter Tryd.func3, Tryd.ntmps3
    go_wp2_with fail
    refine K1.out.mono ?_
    rintro e w1 ⟨B, G, rfl, s1, k1, gB, gG⟩
    have S1 := Aside.mk s1
    clear s1 k1 gB gG
    go_wp2_with fail
    refine (K2.out _).mono ?_
    rintro e w2 ⟨v, rfl, i2, f2, k2⟩
    have I2 := Aside.mk (And.intro i2 (And.intro f2 k2))
    obtain ⟨A2, c2, rfl, _, _⟩ := i2
    clear f2 k2
    have S2 : Aside (PSt w (w2.alloc (.cells #[.slice A2 N c2, .int .i64 0] 29)) B G w2.heap.size (List.replicate N 0) 0 (.slice A2 N c2)) :=
      ⟨by have := PSt.start S1.out I2.out.1 I2.out.2.1 I2.out.2.2; rwa [List.length_replicate] at this⟩
    clear I2
    go_wp2_with fail
    refine (awake_any _ S2.out.m.look).mono ?_
    rintro e w3 ⟨rfl, b3⟩
    obtain ⟨K, HK⟩ : ∃ K, Aside (w2.heap.size = K) := ⟨_, ⟨rfl⟩⟩
    rw [HK.out] at S2
    have S3 := Aside.mk (S2.out.below b3)
    clear b3 S2
    go_wp2_with fail
    rw [HK.out]
    go_loopw [9] (fun i wr => ∃ (k : Nat) (L : List Int) (c : Int) (A : Option Addr) (m cp : Nat), k ≤ 60 ∧ k ≤ l.length ∧ i = .int .i64 k ∧ Aside (PSt w wr B G K L c (.slice A m cp) ∧ 0 ≤ c ∧ c ≤ k)) (fun i _ => 60 - (intOf i).toNat)
    case atStart => exact ⟨0, _, _, _, _, _, by omega, by omega, rfl, ⟨S3.out, by omega, by omega⟩⟩
    case round =>
      obtain ⟨k, L, c, A, m, cp, hk, hkl, rfl, S⟩ := hrel
      by_cases hlt : k < l.length ∧ k < 60
      · obtain ⟨hlt, hlt'⟩ := hlt
        obtain ⟨ad, kd, p, o, d, rfl, e0, e1, e2, e3, bo, bd⟩ := uses_at (uses_below Hu.out S.out.1.m.below) k hlt
        go_wp2_with fail
        refine (use_any kd p o d wr).mono ?_
        rintro e w4 ⟨rfl, b4⟩
        obtain ⟨kk, Hkk⟩ : ∃ kk, Aside (kindS kd = kk) := ⟨_, ⟨rfl⟩⟩
        have kk01 : 0 ≤ kk ∧ kk ≤ 5 := by rw [← Hkk.out]; exact kindS_range _
        rw [Hkk.out]
        have p4 := S.out.1.below b4
        have S4 : Aside (PSt w (w4.alloc (.cells #[.int .i64 kk, .int .i64 p, .int .u32 o, .int .u32 d] 35)) B G K L c (.slice A m cp)) := ⟨p4.below ((Below.refl _ _).alloc (Nat.le_refl _) _)⟩
        have D4 := Aside.mk (does_any S4.out.m S.out.2.1 (by have := S.out.2; omega) kk p o d kk01 bd.1 bd.2 bo.1 bo.2)
        have hB4 := Aside.mk (lt_of_block p4.m.mem.obj)
        have hG4 := Aside.mk (lt_of_block p4.m.mem.words)
        have hK4 := Aside.mk (lt_of_block p4.box)
        clear b4 e0 e1 e2 e3 p4
        go_wp2_with fail
        refine D4.out.mono ?_
        rintro e w5 ⟨rfl, s5, k5⟩
        have X5 := k5.heap (heap_alloc_new w4 (.cells #[.int .i64 kk, .int .i64 p, .int .u32 o, .int .u32 d] 35)) (by have := hB4.out; have := hG4.out; omega)
        have x0 : w5.cell? ⟨w4.heap.size, 0, none⟩ = some (.int .i64 kk) := by simp [World.cell?, X5]
        have x1 : w5.cell? ⟨w4.heap.size, 1, none⟩ = some (.int .i64 p) := by simp [World.cell?, X5]
        have x2 : w5.cell? ⟨w4.heap.size, 2, none⟩ = some (.int .u32 o) := by simp [World.cell?, X5]
        have x3 : w5.cell? ⟨w4.heap.size, 3, none⟩ = some (.int .u32 d) := by simp [World.cell?, X5]
        have Y5 := k5.heap S4.out.box (by have := S4.out.kB; have := S4.out.kG; omega)
        have y0 : w5.cell? ⟨K, 0, none⟩ = some (.slice A m cp) := by simp [World.cell?, Y5]
        have y1 : w5.cell? ⟨K, 1, none⟩ = some (.int .i64 c) := by simp [World.cell?, Y5]
        have R5 := Aside.mk (right_any w5 (.slice A m cp) L c (S4.out.ints.kept k5 (fun b hb => by have := S4.out.apart b hb; omega)) S4.out.m.mem.le S4.out.m.mem.range S.out.2.1 (by have := S.out.2; omega) kk p o d kk01 bd.1 bd.2 bo.1 bo.2)
        have S5 := Aside.mk (And.intro s5 k5)
        have Y5' := Aside.mk Y5
        clear s5 k5 X5 Y5
        go_wp2_with fail
        refine R5.out.mono ?_
        rintro e w6 ⟨v', rfl, i6, f6, b6⟩
        have I6 := Aside.mk (And.intro i6 (And.intro f6 b6))
        obtain ⟨A', c', rfl, _, _⟩ := i6
        have Y6 := (b6.block _ (lt_of_block Y5'.out)).trans Y5'.out
        have z0 : w6.cell? ⟨K, 0, none⟩ = some (.slice A m cp) := by simp [World.cell?, Y6]
        have z1 : w6.cell? ⟨K, 1, none⟩ = some (.int .i64 c) := by simp [World.cell?, Y6]
        have f0 : w6.frozen? ⟨K, 0, none⟩ = false := by simp [World.frozen?, Y6]
        have f1 : w6.frozen? ⟨K, 1, none⟩ = false := by simp [World.frozen?, Y6]
        have hK6 := lt_of_block Y6
        clear Y6 f6 b6 x0 x1 x2 x3 y0 y1
        go_wp2_with fail
        obtain ⟨W7, HW⟩ : ∃ W7, Aside (W7 = ((w6.setCell ⟨K, 0, none⟩ (.slice A' (stepL L kk p o d).length c')).setCell ⟨K, 1, none⟩ (.int .i64 (stepC L c p))).alloc (.cells #[.slice A' (stepL L kk p o d).length c', .int .i64 (stepC L c p)] 29)) := ⟨_, ⟨rfl⟩⟩
        rw [← HW.out]
        have S7 : Aside (PSt w W7 B G K (stepL L kk p o d) (stepC L c p) (.slice A' (stepL L kk p o d).length c') ∧ 0 ≤ stepC L c p ∧ stepC L c p ≤ (k + 1 : Nat)) := ⟨by
          rw [HW.out]
          refine ⟨(PSt.next S4.out S5.out.1 S5.out.2 I6.out.1 I6.out.2.1 I6.out.2.2 (Below.refl _ _)).below ((Below.refl _ _).alloc (Nat.le_refl _) _), ?_⟩
          have := stepC_le L c p
          have := S.out.2
          omega⟩
        have y1 : W7.cell? ⟨K, 1, none⟩ = some (.int .i64 (stepC L c p)) := by simp [World.cell?, S7.out.1.box]
        have C7 := Aside.mk (fun W (h : Below W7.heap.size W7 W) => (count_any W B G _ _ (S7.out.1.m.mem.below h)).mono fun e w' (q : _ ∧ W = w') => (⟨q.1, q.2.symm⟩ : _ ∧ w' = W))
        clear z0 z1 f0 f1 hK6
        go_quiet ((go_at_call 14; exact Calls.quiet_of_same (C7.out _ (below_drewN _ _))))
        go_wp2_with fail
        go_roundw
        case rel => exact ⟨k + 1, _, _, _, _, _, by omega, by omega, by go_num, ⟨(S7.out.1.below (below_drewN _ _)), S7.out.2⟩⟩
        case measure => simp [intOf]; omega
      · have c1 := Aside.mk (fun W (h : Below wr.heap.size wr W) => words_any W B G L c (S.out.1.m.mem.below h))
        have y0 : wr.cell? ⟨K, 0, none⟩ = some (.slice A m cp) := by simp [World.cell?, S.out.1.box]
        have hK := lt_of_block S.out.1.box
        have c2 := Aside.mk (fun W W' (h : Below wr.heap.size wr W) (h' : Below (W.alloc (.cells (L.map (Value.int .u32)).toArray 33)).heap.size (W.alloc (.cells (L.map (Value.int .u32)).toArray 33)) W') =>
          rsame7_yes W' (.slice (some ⟨W.heap.size, 0, none⟩) L.length L.length) (.slice A m cp) L ((ints_lit W .u32 33 L (by have := S.out.1.m.mem.le; omega)).below h') (S.out.1.ints.below (below_then (h.trans ((Below.refl _ _).alloc h.size _)) h')))
        have hS := S.out.1.m.below
        rcases (show (k = 60 ∧ 60 < l.length) ∨ k = l.length by omega) with ⟨rfl, hkk⟩ | rfl
        all_goals
          go_wp2_with fail
          go_region_with (first | (go_at_call 16; refine (c1.out _ (by repeat (first | exact Below.refl _ _ | refine Below.drew ?_))).mono ?_; rintro e w' ⟨rfl, rfl⟩) | (go_at_call 15; refine (c2.out _ _ (by repeat (first | exact Below.refl _ _ | refine Below.drew ?_)) (by repeat (first | exact Below.refl _ _ | refine Below.drew ?_))).mono ?_; rintro e w' ⟨rfl, nn, rfl⟩))
          all_goals
            go_wp2_with fail
            go_ret
            exact ⟨rfl, by repeat (first | exact hS | refine bel_drew ?_ | refine bel_drewN ?_ _ | refine bel_alloc ?_ _)⟩
end Go.Proofs.YtbllkbcaapeajaaDoor
