/- Layer 3's laws: few. -/
import Derived.Test.YtbphlapdhcgikaaDoorSamC
import Derived.IntWalk
namespace Go.Proofs.YtbphlapdhcgikaaDoor
open Go.RowKit
set_option linter.unusedVariables false
set_option linter.unusedSimpArgs false

/-- No slice of a plan weighs more than the reach. -/
structure Sz3 (P : Plan) : Prop where
  c : (Plan.cores P).length ≤ 140737488351232
  a : (Plan.parts P).length ≤ 140737488351232
  h : (Plan.chans P).length ≤ 140737488351232
  q : (Plan.pairs P).length ≤ 140737488351232
  cs : ∀ L ∈ Plan.cores P, L.length ≤ 140737488351232
  s : ∀ x ∈ Plan.parts P, (PartR.sems x).length ≤ 140737488351232 ∧ (PartR.procs x).length ≤ 140737488351232
theorem sz3_of {P : Plan} (h : rd28.S P) : Sz3 P := by
  obtain ⟨f, C, A, H, Q, u⟩ := P
  obtain ⟨_, hC, hA, hH, hQ, _⟩ := h
  have b1 : Tryd.prog.bytesOf 51 = 6 := by kernel_rfl
  have b2 : Tryd.prog.bytesOf 58 = 2 := by kernel_rfl
  have b3 : Tryd.prog.bytesOf 5 = 1 := by kernel_rfl
  have b4 : Tryd.prog.bytesOf 49 = 24 := by kernel_rfl
  have b5 : Tryd.prog.bytesOf 56 = 64 := by kernel_rfl
  have b6 : Tryd.prog.bytesOf 60 = 8 := by kernel_rfl
  have b7 : Tryd.prog.bytesOf 62 = 2 := by kernel_rfl
  have k1 : C.length * Tryd.prog.bytesOf 49 ≤ reachBytes := hC.1
  have k2 : A.length * Tryd.prog.bytesOf 56 ≤ reachBytes := hA.1
  have k3 : H.length * Tryd.prog.bytesOf 60 ≤ reachBytes := hH.1
  have k4 : Q.length * Tryd.prog.bytesOf 62 ≤ reachBytes := hQ.1
  rw [b4] at k1
  rw [b5] at k2
  rw [b6] at k3
  rw [b7] at k4
  simp only [reachBytes] at k1 k2 k3 k4
  refine ⟨by show C.length ≤ _; omega, by show A.length ≤ _; omega, by show H.length ≤ _; omega, by show Q.length ≤ _; omega, fun L hL => ?_, fun x hx => ?_⟩
  · have h1 : L.length * Tryd.prog.bytesOf 51 ≤ reachBytes := (hC.2 L hL).1
    rw [b1] at h1
    simp only [reachBytes] at h1
    omega
  · obtain ⟨S, e, p, acts, u⟩ := x
    obtain ⟨h1, _, h2, _⟩ := hA.2 _ hx
    have h1 : S.length * Tryd.prog.bytesOf 58 ≤ reachBytes := h1.1
    have h2 : p.length * Tryd.prog.bytesOf 5 ≤ reachBytes := h2.1
    rw [b2] at h1
    rw [b3] at h2
    simp only [reachBytes] at h1 h2
    show S.length ≤ _ ∧ p.length ≤ _
    omega
def lsum {α : Type} (f : α → Nat) (l : List α) : Nat := (l.map f).sum
theorem lsum_snoc {α : Type} (f : α → Nat) (l : List α) (x : α) : lsum f (l ++ [x]) = lsum f l + f x := by simp [lsum]
theorem lsum_mem {α : Type} (f : α → Nat) (l : List α) (x : α) (h : x ∈ l) : f x ≤ lsum f l := by
  induction l with
  | nil => cases h
  | cons y l ih =>
    have e : lsum f (y :: l) = f y + lsum f l := by simp [lsum]
    rcases List.mem_cons.1 h with rfl | h
    · omega
    · have := ih h; omega
theorem lsum_le {α : Type} (f : α → Nat) (l : List α) (b : Nat) (h : ∀ x ∈ l, f x ≤ b) : lsum f l ≤ l.length * b := by
  induction l with
  | nil => simp [lsum]
  | cons y l ih =>
    have e : lsum f (y :: l) = f y + lsum f l := by simp [lsum]
    have h1 := h y (List.mem_cons_self ..)
    have h2 := ih (fun x hx => h x (List.mem_cons_of_mem _ hx))
    rw [e, List.length_cons, Nat.add_mul]; omega
def partN (x : PartR) : Nat := (PartR.sems x).length + (PartR.procs x).length
structure Few3 (P : Plan) : Prop where
  sum : (Plan.cores P).length + (Plan.parts P).length + (Plan.chans P).length + (Plan.pairs P).length + lsum List.length (Plan.cores P) + lsum partN (Plan.parts P) ≤ 2000
theorem Few3.cores {P : Plan} (h : Few3 P) : ∀ L ∈ Plan.cores P, L.length ≤ 2000 := fun L hL => by
  have := lsum_mem List.length _ L hL
  have := h.sum
  omega
theorem Few3.objs {P : Plan} (h : Few3 P) : ∀ x ∈ Plan.parts P, (PartR.sems x).length ≤ 2000 ∧ (PartR.procs x).length ≤ 2000 := fun x hx => by
  have q := lsum_mem partN _ x hx
  have := h.sum
  have e : partN x = (PartR.sems x).length + (PartR.procs x).length := rfl
  constructor <;> omega
def FewP3 (w : World) (P : Plan) (e : Ending) (w' : World) : Prop := ∃ b, e = .returned (.bool b) ∧ (b = true → Few3 P) ∧ Below w.heap.size w w'
set_option maxHeartbeats 3200000 in
set_option maxRecDepth 100000 in
theorem few3_any (w : World) (v : Value) (P : Plan) (hv : PlanV w v P) (hz : Sz3 P) : Calls Tryd.prog 10 #[v] w (FewP3 w P) := by
  have HZ := Aside.mk hz
  obtain ⟨a0, c0, a1, c1, a2, c2, a3, c3, rfl, hp, hlen⟩ := hv.open_
  have HC := Aside.mk hp.cores
  have HA := Aside.mk hp.parts
  have HF : Aside ((Plan.cores P).length + (Plan.parts P).length + (Plan.chans P).length + (Plan.pairs P).length + lsum List.length (Plan.cores P) + lsum partN (Plan.parts P) ≤ 2000 → Few3 P) := ⟨fun h => ⟨h⟩⟩
  obtain ⟨s1, s2, s3, s4, _, _⟩ := hz
  have HCs : Aside (∀ L ∈ Plan.cores P, L.length ≤ 140737488351232) := ⟨HZ.out.cs⟩
  have HAs : Aside (∀ x ∈ Plan.parts P, (PartR.sems x).length ≤ 140737488351232 ∧ (PartR.procs x).length ≤ 140737488351232) := ⟨HZ.out.s⟩
  clear hp hv
  obtain ⟨fr, hfr⟩ : ∃ fr, Plan.frame P = fr := ⟨_, rfl⟩
  rw [hfr]
  generalize Plan.cores P = C at *
  generalize Plan.parts P = A at *
  generalize (Plan.chans P).length = nh at *
  generalize (Plan.pairs P).length = nq at *
  obtain ⟨W1, HW⟩ : ∃ W1, Aside (W1 = w.alloc (.cells #[.int .u16 fr, .slice a0 C.length c0, .slice a1 A.length c1, .slice a2 nh c2, .slice a3 nq c3] 28)) := ⟨_, ⟨rfl⟩⟩
  have hb1 : Aside (Below w.heap.size w W1 ∧ W1.heap[w.heap.size]? = some (.cells #[.int .u16 fr, .slice a0 C.length c0, .slice a1 A.length c1, .slice a2 nh c2, .slice a3 nq c3] 28 (0, 0))) := ⟨by rw [HW.out]; exact ⟨bel_one _ _, heap_alloc_new _ _⟩⟩
  obtain ⟨p0, p1, p2, p3, p4⟩ := box5 hb1.out.2
  have w1 : IntKind.i64.wrap ((C.length : Int) + (A.length : Int)) = (C.length : Int) + (A.length : Int) := IntWalk.i64_in _ (by omega)
  have w2 : IntKind.i64.wrap ((C.length : Int) + (A.length : Int) + (nh : Int)) = (C.length : Int) + (A.length : Int) + (nh : Int) := IntWalk.i64_in _ (by omega)
  obtain ⟨B, hB⟩ : ∃ B : Nat, C.length + A.length + nh + nq = B := ⟨_, rfl⟩
  have HB := Aside.mk hB
  have hBl : B ≤ 600000000000000 := by omega
  have w3 : IntKind.i64.wrap ((C.length : Int) + (A.length : Int) + (nh : Int) + (nq : Int)) = (B : Int) := by
    have e : (C.length : Int) + (A.length : Int) + (nh : Int) + (nq : Int) = (B : Int) := by omega
    rw [e]; exact IntWalk.i64_in _ (by omega)
  clear hB
  clear hfr
  go_enter Tryd.func10, Tryd.ntmps10
  go_upto_region 1 with (fail)
  rw [← HW.out]
  go_upto_block 0 with (fail)
  clear w1 w2 w3
  go_cut [3] (fun s wc => ∃ m : Nat, s = .int .i64 m ∧ m ≤ 800000000000000 ∧ Aside (m ≤ 2000 → m = B + lsum List.length C) ∧ W1 = wc)
  case first =>
    go_wp2_with fail
    go_loopg [3, 4] C.length (fun q s i wr => ∃ (k m : Nat), k ≤ C.length ∧ q = C.length - k ∧ s = .int .i64 m ∧ i = .int .i64 k ∧ m ≤ 800000000000000 ∧ Aside (m = B + lsum List.length (C.take k)) ∧ W1 = wr)
    case atStart => exact ⟨0, B, by omega, rfl, rfl, rfl, by omega, ⟨by simp [lsum]⟩, rfl⟩
    case round =>
      obtain ⟨k, m, hk, rfl, rfl, rfl, hm, S, rfl⟩ := hrel
      by_cases hkl : k < C.length
      · by_cases hm2 : m ≤ 2000
        · have hm2' : (m : Int) ≤ 2000 := by omega
          have hl := List.getElem?_eq_getElem hkl
          obtain ⟨L, hL⟩ : ∃ L, C[k] = L := ⟨_, rfl⟩
          rw [hL] at hl
          have hLs := HCs.out L (List.mem_of_getElem? hl)
          have HT : Aside (lsum List.length (C.take (k + 1)) = lsum List.length (C.take k) + L.length) := ⟨by rw [take_snoc hl, lsum_snoc]⟩
          obtain ⟨ad, lv, rfl, hlv, hwins⟩ := (HC.out.below hb1.out.1).at_ k L hl
          obtain ⟨la, lc, rfl, hlL⟩ := hwins.len
          have hs : IntKind.i64.wrap ((m : Int) + (L.length : Int)) = ((m + L.length : Nat) : Int) := by rw [← Int.natCast_add]; exact IntWalk.i64_in _ (by omega)
          clear hl hL hwins
          go_wp2_with fail
          go_roundg (C.length - (k + 1))
          case measure => omega
          case rel => exact ⟨k + 1, m + L.length, by omega, rfl, rfl, by go_num, by omega, ⟨by rw [HT.out, S.out]; omega⟩, rfl⟩
        · have hm2' : ¬ (m : Int) ≤ 2000 := by omega
          go_wp2_with fail
          go_meet
          case rel => exact ⟨m, rfl, hm, ⟨fun h => absurd h hm2⟩, rfl⟩
      · obtain rfl : k = C.length := by omega
        rw [List.take_length] at S
        clear hkl hk
        go_wp2_with fail
        go_meet
        case rel => exact ⟨m, rfl, hm, ⟨fun _ => S.out⟩, rfl⟩
  case rest =>
    obtain ⟨m0, rfl, hm0, S0, rfl⟩ := hcut
    go_upto_block 2 with (fail)
    go_wp2_with fail
    go_loopg [3, 5] A.length (fun q s i wr => ∃ (k m : Nat), k ≤ A.length ∧ q = A.length - k ∧ s = .int .i64 m ∧ i = .int .i64 k ∧ m ≤ 1200000000000000 ∧ Aside (m = m0 + lsum partN (A.take k) ∧ Below W1.heap.size W1 wr))
    case atStart => exact ⟨0, m0, by omega, rfl, rfl, rfl, by omega, ⟨by simp [lsum], Below.refl _ _⟩⟩
    case round =>
      obtain ⟨k, m, hk, rfl, rfl, rfl, hm, S⟩ := hrel
      obtain ⟨p0, p1, p2, p3, p4⟩ := box5 (hupS S.out.2 hb1.out.2)
      by_cases hkl : k < A.length
      · by_cases hm2 : m ≤ 2000
        · have hm2' : (m : Int) ≤ 2000 := by omega
          have hl := List.getElem?_eq_getElem hkl
          obtain ⟨x, hx⟩ : ∃ x, A[k] = x := ⟨_, rfl⟩
          rw [hx] at hl
          have hxs := HAs.out x (List.mem_of_getElem? hl)
          have HT : Aside (lsum partN (A.take (k + 1)) = lsum partN (A.take k) + ((PartR.sems x).length + (PartR.procs x).length)) := ⟨by rw [take_snoc hl, lsum_snoc]; rfl⟩
          obtain ⟨ad, sv, pv, rfl, d0, d1, d2, d3, d4, d5, ok⟩ := Parts.at_ (elems_below HA.out (bel_then hb1.out.1 S.out.2)) k x hl
          obtain ⟨sa, sc', pa, pc', rfl, rfl, hls, hlp⟩ := ok.lens
          obtain ⟨hx1, hx2⟩ := hxs
          generalize (PartR.sems x).length = ns at *
          generalize (PartR.procs x).length = np at *
          have hs1 : IntKind.i64.wrap ((ns : Int) + (np : Int)) = ((ns + np : Nat) : Int) := by rw [← Int.natCast_add]; exact IntWalk.i64_in _ (by omega)
          have hs2 : IntKind.i64.wrap ((m : Int) + ((ns + np : Nat) : Int)) = ((m + (ns + np) : Nat) : Int) := by rw [← Int.natCast_add]; exact IntWalk.i64_in _ (by omega)
          have hs3 : IntKind.i64.wrap ((m : Int) + ((ns : Int) + (np : Int))) = ((m + (ns + np) : Nat) : Int) := by
            rw [show (m : Int) + ((ns : Int) + (np : Int)) = ((m + (ns + np) : Nat) : Int) by omega]; exact IntWalk.i64_in _ (by omega)
          clear hl hx ok
          go_upto_region 9 with (fail)
          go_quiet (fail)
          have B2 := Aside.mk (bel_then S.out.2 (below_drewN wr nq))
          clear p0 p1 p2 p3 p4 d0 d1 d2 d3 d4 d5
          go_wp2_with fail
          go_roundg (A.length - (k + 1))
          case measure => omega
          case rel => exact ⟨k + 1, m + (ns + np), by omega, rfl, by go_num, by go_num, by omega, ⟨by rw [HT.out, S.out.1]; omega, B2.out⟩⟩
        · have hm2' : ¬ (m : Int) ≤ 2000 := by omega
          go_wp2_with fail
          go_ret
          exact ⟨_, rfl, (fun h => (by simp at h <;> omega)), bel_then hb1.out.1 S.out.2⟩
      · obtain rfl : k = A.length := by omega
        rw [List.take_length] at S
        clear hkl hk
        go_wp2_with fail
        go_ret
        refine ⟨_, rfl, (fun h => ?_), bel_then hb1.out.1 S.out.2⟩
        have h' : m ≤ 2000 := by simp at h; omega
        have e1 := S.out.1
        have e2 := S0.out (by omega)
        have e3 := HB.out
        exact HF.out (by omega)
end Go.Proofs.YtbphlapdhcgikaaDoor
