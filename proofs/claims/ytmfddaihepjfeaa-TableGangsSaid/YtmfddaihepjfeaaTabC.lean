/- The table: the next beginning or end. -/
import Derived.Test.YtmfddaihepjfeaaTabB
namespace Go.Proofs.Ytmfddaihepjfeaa
open Go.RowKit
set_option linter.unusedVariables false
set_option linter.unusedSimpArgs false

/-- The state of Next: the plan's box, the tick, the next edge found. -/
structure NxSt (w : World) (box : Obj) (t n : Int) (wr : World) : Prop where
  below : Below w.heap.size w wr
  box : wr.heap[w.heap.size]? = some box
  tick : wr.heap[w.heap.size + 1]? = some (.cells #[.int .i64 t] 3 (0, 0))
  next : wr.heap[w.heap.size + 1 + 1]? = some (.cells #[.int .i64 n] 3 (0, 0))
theorem NxSt.old {w wr wr' : World} {box : Obj} {t n : Int} (s : NxSt w box t n wr) (k : Below wr.heap.size wr wr') : NxSt w box t n wr' :=
  ⟨bel_then s.below k, (k.block _ (lt_of_block s.box)).trans s.box, (k.block _ (lt_of_block s.tick)).trans s.tick, (k.block _ (lt_of_block s.next)).trans s.next⟩
theorem NxSt.put {w wr : World} {box : Obj} {t n : Int} (s : NxSt w box t n wr) (m : Int) : NxSt w box t m (wr.setCell ⟨w.heap.size + 1 + 1, 0, none⟩ (.int .i64 m)) := by
  have hk : Kept (fun k => k = w.heap.size + 1 + 1) wr (wr.setCell ⟨w.heap.size + 1 + 1, 0, none⟩ (.int .i64 m)) := (Kept.refl (fun k => k = w.heap.size + 1 + 1) wr).setCell (p := ⟨w.heap.size + 1 + 1, 0, none⟩) (.inl rfl) _
  refine ⟨s.below.trans (hk.below s.below.size (fun k e => by subst e; omega)), hk.heap s.box (by omega), hk.heap s.tick (by omega), ?_⟩
  simpa using heap_setCell_at (off := 0) s.next (.int .i64 m)
theorem nearer_any (w wr : World) (box : Obj) (t n e : Int) (S : NxSt w box t n wr) :
    Calls Try.prog 30 #[.int .i64 e, .pointer (some ⟨w.heap.size + 1, 0, none⟩), .pointer (some ⟨w.heap.size + 1 + 1, 0, none⟩)] wr fun x w' => x = .returned (.tuple #[]) ∧ NxSt w box t (nearS t n e) w' ∧ Kept (fun k => k = w.heap.size + 1 + 1) wr w' := by
  have c1 := cell_of_one S.tick
  have c2 := cell_of_one S.next
  have f2 := free_of_one S.next
  have S0 := Aside.mk S
  clear S
  by_cases h : t < e
  · rw [nearS, if_pos h]
    go_enter Try.func30, Try.ntmps30
    go_wp2_with fail
    all_goals
      refine bodyPost_end (v := .tuple #[]) (by simp [results, Try.results30, go_sem]) rfl ⟨rfl, ?_⟩
      first
      | (have hm : min n e = e := by omega
         rw [hm]
         exact ⟨S0.out.put e, (Kept.refl (fun k => k = w.heap.size + 1 + 1) wr).setCell (p := ⟨w.heap.size + 1 + 1, 0, none⟩) (.inl rfl) _⟩)
      | (have hm : min n e = n := by omega
         rw [hm]
         exact ⟨S0.out.put n, (Kept.refl (fun k => k = w.heap.size + 1 + 1) wr).setCell (p := ⟨w.heap.size + 1 + 1, 0, none⟩) (.inl rfl) _⟩)
  · rw [nearS, if_neg h]
    go_enter Try.func30, Try.ntmps30
    go_wp2_with fail
    exact bodyPost_end (v := .tuple #[]) (by simp [results, Try.results30, go_sem]) rfl ⟨rfl, S0.out, Kept.refl _ _⟩

theorem edgesS_snoc {L : List Win} {j : Nat} {x : Win} (h : L[j]? = some x) : edgesS (L.take (j + 1)) = edgesS (L.take j) ++ [Win.s x, Win.s x + Win.l x] := by
  rw [take_snoc h, edgesS, List.flatMap_append]; rfl
theorem edgesOf_snoc {C : List (List Win)} {cs : List Int} {k : Nat} {c : Nat} {L : List Win} (h : cs[k]? = some (c : Int)) (hL : C[c]? = some L) : edgesOf C (cs.take (k + 1)) = edgesOf C (cs.take k) ++ edgesS L := by
  rw [take_snoc h, edgesOf, List.flatMap_append]
  simp [edgesOf, List.getD_eq_getElem?_getD, hL]
def nxP (w : World) (r : Int × Int) (e : Ending) (w' : World) : Prop := e = .returned (.tuple #[.int .i64 r.1, .int .i64 r.2]) ∧ Below w.heap.size w w'
def nextS (fr : Int) (C : List (List Win)) (t : Int) (cs : List Int) : Int × Int :=
  if t < 0 ∨ fr ≤ t then (0, 60) else if ∃ c ∈ cs, c < 0 ∨ (C.length : Int) ≤ c then (0, 61) else (nearAll t fr (edgesOf C cs) - t, 0)

set_option maxHeartbeats 1600000 in
theorem next_out (w : World) (v u : Value) (P : Plan) (t : Int) (cs : List Int) (hv : PlanV w v P) (hu : Ints w .i64 u cs) (ht : t < 0 ∨ Plan.frame P ≤ t) :
    Calls Try.prog 18 #[v, .int .i64 t, u] w (nxP w (0, 60)) := by
  obtain ⟨a0, c0, a1, c1, a2, c2, a3, c3, rfl, hp, hlen⟩ := hv.open_
  obtain ⟨A, cc, rfl, hm, _⟩ := hu
  obtain ⟨f0, f1⟩ := hp.frame
  clear hp hv
  generalize Plan.frame P = fr at *
  have hX : Aside (∀ x y : Obj, Below w.heap.size w ((w.alloc x).alloc y)) := ⟨fun x y => bel_two _ _ _⟩
  by_cases h1 : t < 0
  · go_enter Try.func18, Try.ntmps18
    go_wp2_with fail
    go_ret2
    exact ⟨rfl, hX.out _ _⟩
  · have h2 : fr ≤ t := by omega
    go_enter Try.func18, Try.ntmps18
    go_wp2_with fail
    go_ret2
    exact ⟨rfl, hX.out _ _⟩
theorem three_boxes (w : World) (o1 o2 o3 : Obj) : (((w.alloc o1).alloc o2).alloc o3).heap[w.heap.size]? = some o1 ∧ (((w.alloc o1).alloc o2).alloc o3).heap[w.heap.size + 1]? = some o2 ∧ (((w.alloc o1).alloc o2).alloc o3).heap[w.heap.size + 1 + 1]? = some o3 ∧ Below w.heap.size w (((w.alloc o1).alloc o2).alloc o3) := by
  have h1 : (w.alloc o1).heap[w.heap.size]? = some o1 := heap_alloc_new _ _
  have h2 : ((w.alloc o1).alloc o2).heap[w.heap.size + 1]? = some o2 := by have := heap_alloc_new (w.alloc o1) o2; simpa using this
  have h3 : (((w.alloc o1).alloc o2).alloc o3).heap[w.heap.size + 1 + 1]? = some o3 := by have := heap_alloc_new ((w.alloc o1).alloc o2) o3; simpa using this
  exact ⟨((bel_two (w.alloc o1) o2 o3).block _ (lt_of_block h1)).trans h1, ((bel_one _ o3).block _ (lt_of_block h2)).trans h2, h3, bel_alloc (bel_two _ _ _) _⟩

set_option maxHeartbeats 3200000 in
set_option maxRecDepth 100000 in
theorem next_in (w : World) (v u : Value) (P : Plan) (t : Int) (cs : List Int) (hv : PlanV w v P) (hu : Ints w .i64 u cs) (h1 : 0 ≤ t) (h2 : t < Plan.frame P) :
    Calls Try.prog 18 #[v, .int .i64 t, u] w (nxP w (nextS (Plan.frame P) (Plan.cores P) t cs)) := by
  obtain ⟨a0, c0, a1, c1, a2, c2, a3, c3, rfl, hp, hlen⟩ := hv.open_
  have HU := Aside.mk hu
  obtain ⟨A, cc, rfl, hm, _⟩ := hu
  obtain ⟨f0, f1⟩ := hp.frame
  have HC := Aside.mk hp.cores
  clear hp hv
  have HN : Aside (∀ fr C, fr = Plan.frame P → C = Plan.cores P → nextS (Plan.frame P) (Plan.cores P) t cs = if ∃ c ∈ cs, c < 0 ∨ (C.length : Int) ≤ c then (0, 61) else (nearAll t fr (edgesOf C cs) - t, 0)) := ⟨fun fr C e1 e2 => by subst e1 e2; rw [nextS, if_neg (by omega)]⟩
  have HN := Aside.mk (HN.out _ _ rfl rfl)
  generalize nextS (Plan.frame P) (Plan.cores P) t cs = r at *
  generalize Plan.frame P = fr at *
  generalize Plan.cores P = C at *
  obtain ⟨b1, b2, b3, b4⟩ := three_boxes w (.cells #[.int .u16 fr, .slice a0 C.length c0, .slice a1 (Plan.parts P).length c1, .slice a2 (Plan.chans P).length c2, .slice a3 (Plan.pairs P).length c3] 28) (.cells #[.int .i64 t] 3) (.cells #[.int .i64 fr] 3)
  obtain ⟨box, hbox⟩ : ∃ box, Aside (box = Obj.cells #[.int .u16 fr, .slice a0 C.length c0, .slice a1 (Plan.parts P).length c1, .slice a2 (Plan.chans P).length c2, .slice a3 (Plan.pairs P).length c3] 28 (0, 0)) := ⟨_, ⟨rfl⟩⟩
  obtain ⟨W1, HW⟩ : ∃ W1, Aside (W1 = ((w.alloc (.cells #[.int .u16 fr, .slice a0 C.length c0, .slice a1 (Plan.parts P).length c1, .slice a2 (Plan.chans P).length c2, .slice a3 (Plan.pairs P).length c3] 28)).alloc (.cells #[.int .i64 t] 3)).alloc (.cells #[.int .i64 fr] 3)) := ⟨_, ⟨rfl⟩⟩
  have S0 : Aside (NxSt w box t fr W1) := ⟨by rw [HW.out, hbox.out]; exact ⟨b4, b1, b2, b3⟩⟩
  clear b1 b2 b3 b4
  go_enter Try.func18, Try.ntmps18
  go_wp2_with fail
  rw [← HW.out]
  go_loopw [6, 7, 29] (fun x y i wr => ∃ k : Nat, x = .int .i64 0 ∧ y = .int .i64 0 ∧ k ≤ cs.length ∧ i = .int .i64 k ∧ Aside (NxSt w box t (nearAll t fr (edgesOf C (cs.take k))) wr ∧ ∀ c ∈ cs.take k, ¬ (c < 0 ∨ (C.length : Int) ≤ c))) (fun _ _ i _ => cs.length - (intOf i).toNat)
  case atStart => exact ⟨0, rfl, rfl, by omega, rfl, ⟨S0.out, by simp⟩⟩
  case round =>
    obtain ⟨k, rfl, rfl, hk, rfl, S⟩ := hrel
    have hbx := S.out.1.box
    rw [hbox.out] at hbx
    have hcell : wr.cell? ⟨w.heap.size, 1, none⟩ = some (.slice a0 C.length c0) := by simp [World.cell?, hbx]
    clear hbx
    by_cases hkl : k < cs.length
    · obtain ⟨A', cc', q, _, hA⟩ := HU.out.below S.out.1.below
      obtain ⟨rfl, rfl⟩ : A = A' ∧ cc = cc' := by injection q with q1 q2 q3; exact ⟨q1, q3⟩
      obtain ⟨ad, rfl, hce⟩ := hA (by omega)
      have e0 := hce k hkl
      obtain ⟨cv, hcv⟩ : ∃ cv, cs.getD k 0 = cv := ⟨_, rfl⟩
      rw [hcv] at e0
      have hg : Aside (cs[k]? = some cv) := ⟨by rw [← hcv, List.getD_eq_getElem?_getD, List.getElem?_eq_getElem hkl]; rfl⟩
      clear hA hce hcv q
      by_cases t1 : cv < 0
      · have HR : Aside (r = (0, 61)) := ⟨by rw [HN.out, if_pos ⟨cv, List.mem_of_getElem? hg.out, .inl t1⟩]⟩
        go_wp2_with fail
        go_ret2
        exact ⟨by rw [HR.out]; rfl, S.out.1.below⟩
      by_cases t2 : (C.length : Int) ≤ cv
      · have HR : Aside (r = (0, 61)) := ⟨by rw [HN.out, if_pos ⟨cv, List.mem_of_getElem? hg.out, .inr t2⟩]⟩
        go_wp2_with fail
        go_ret2
        exact ⟨by rw [HR.out]; rfl, S.out.1.below⟩
      obtain ⟨c, rfl⟩ := Int.eq_ofNat_of_zero_le (show 0 ≤ cv by omega)
      have hcl : c < C.length := by omega
      have hl := List.getElem?_eq_getElem hcl
      obtain ⟨L, hL⟩ : ∃ L, C[c] = L := ⟨_, rfl⟩
      rw [hL] at hl
      obtain ⟨ad2, lv, rfl, hlv0, hwins⟩ := HC.out.at_ c L hl
      obtain ⟨la, lc, rfl, hlL⟩ := hwins.len
      have HL := Aside.mk hl
      have HW2 := Aside.mk hwins
      have hlv := (Kept.of_below (S := fun _ => False) S.out.1.below).cell hlv0 id
      have hgood : Aside (∀ x ∈ cs.take (k + 1), ¬ (x < 0 ∨ (C.length : Int) ≤ x)) := ⟨by
        rw [take_snoc hg.out]
        intro x hx
        rcases List.mem_append.1 hx with h | h
        · exact S.out.2 x h
        · obtain rfl := List.mem_singleton.1 h; omega⟩
      clear hl hL hwins hlv0
      go_wp2_with fail
      go_loopw [48] (fun i wq => ∃ j : Nat, j ≤ L.length ∧ i = .int .i64 j ∧ Aside (NxSt w box t (nearAll t (nearAll t fr (edgesOf C (cs.take k))) (edgesS (L.take j))) wq)) (fun i _ => L.length - (intOf i).toNat)
      case atStart => exact ⟨0, by omega, rfl, ⟨S.out.1⟩⟩
      case round =>
        clear e0 hcell hlv
        obtain ⟨j, hj, rfl, S2⟩ := hrel
        by_cases hjl : j < L.length
        · have hx := List.getElem?_eq_getElem hjl
          obtain ⟨X, hX⟩ : ∃ X, L[j] = X := ⟨_, rfl⟩
          rw [hX] at hx
          obtain ⟨ad3, rfl, d0, d1, d2, d3, ok⟩ := (HW2.out.below S2.out.below).at_ j X hx
          obtain ⟨⟨s0, s1⟩, ⟨l0, l1⟩, _, _⟩ := ok
          have HE : Aside (edgesS (L.take (j + 1)) = edgesS (L.take j) ++ [Win.s X, Win.s X + Win.l X]) := ⟨edgesS_snoc hx⟩
          generalize Win.s X = sx at *
          generalize Win.l X = lx at *
          have hz : Aside (w.heap.size + 1 + 1 < wr.heap.size) := ⟨lt_of_block S2.out.next⟩
          clear hx hX
          go_wp2_with fail
          have S3 := Aside.mk (S2.out.old (bel_one wr (.cells #[.int .u16 sx, .int .u16 lx, .int .u8 (Win.p X), .int .u8 (Win.g X)] 41)))
          refine (nearer_any w _ box t _ sx S3.out).mono ?_
          rintro e w2 ⟨rfl, s4, k4⟩
          have hX4 := k4.heap (heap_alloc_new wr (.cells #[.int .u16 sx, .int .u16 lx, .int .u8 (Win.p X), .int .u8 (Win.g X)] 41)) (by have := hz.out; omega)
          have x0 : w2.cell? ⟨wr.heap.size, 0, none⟩ = some (.int .u16 sx) := by simp [World.cell?, hX4]
          have x1 : w2.cell? ⟨wr.heap.size, 1, none⟩ = some (.int .u16 lx) := by simp [World.cell?, hX4]
          have S4 := Aside.mk s4
          clear s4 k4 hX4 d0 d1 d2 d3
          go_wp2_with fail
          refine (nearer_any w _ box t _ (sx + lx) S4.out).mono ?_
          rintro e w3 ⟨rfl, s5, _⟩
          have S5 := Aside.mk s5
          clear s5 x0 x1
          go_wp2_with fail
          go_roundw
          case rel => exact ⟨j + 1, by omega, by go_num, ⟨by rw [HE.out, nearAll_append]; exact S5.out⟩⟩
          case measure => simp [intOf]; omega
        · obtain rfl : j = L.length := by omega
          go_wp2_with fail
          go_roundw
          case rel => exact ⟨k + 1, rfl, rfl, by omega, by go_num, ⟨by rw [edgesOf_snoc hg.out HL.out, nearAll_append]; have := S2.out; rwa [List.take_length] at this, hgood.out⟩⟩
          case measure => simp [intOf]; omega
    · obtain rfl : k = cs.length := by omega
      have hn := S.out.1.next
      have ht := S.out.1.tick
      have e1 : wr.cell? ⟨w.heap.size + 1 + 1, 0, none⟩ = some (.int .i64 (nearAll t fr (edgesOf C (cs.take cs.length)))) := cell_of_one hn
      have e2 : wr.cell? ⟨w.heap.size + 1, 0, none⟩ = some (.int .i64 t) := cell_of_one ht
      have hgt := nearAll_gt t fr (edgesOf C (cs.take cs.length)) h2
      have hle := nearAll_le t fr (edgesOf C (cs.take cs.length))
      have HR : Aside (r = (nearAll t fr (edgesOf C (cs.take cs.length)) - t, 0)) := ⟨by
        rw [HN.out, if_neg]
        · rw [List.take_length]
        · rintro ⟨c, hc, h⟩
          exact S.out.2 c (by rw [List.take_length]; exact hc) h⟩
      generalize nearAll t fr (edgesOf C (cs.take cs.length)) = nv at *
      clear hn ht
      go_wp2_with fail
      go_ret2
      exact ⟨by rw [HR.out]; rfl, S.out.1.below⟩
end Go.Proofs.Ytmfddaihepjfeaa
