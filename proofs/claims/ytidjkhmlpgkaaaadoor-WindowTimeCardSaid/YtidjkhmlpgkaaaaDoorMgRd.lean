/- The rules' reference: the check's loop over pairs. The rules' reference: the check's loop over pairs: windows that clash, and the whole. The rules' reference: the check's loop over pairs: the outer loop. -/
import Derived.Test.YtidjkhmlpgkaaaaDoorMgRb
import Derived.Deep.RegionHeld3
import Derived.Deep.CutBlock
namespace Go.Proofs.YtidjkhmlpgkaaaaDoor
open Go.RowKit
set_option linter.unusedVariables false
set_option linter.unusedSimpArgs false

def pairObj (p : PairR) : Obj := .cells #[.int .u8 (PairR.a p), .int .u8 (PairR.b p)] 90 (0, 0)
theorem pair_box {w : World} {X : Nat} {p : PairR} (h : w.heap[X]? = some (pairObj p)) : w.cell? ⟨X, 0, none⟩ = some (.int .u8 (PairR.a p)) ∧ w.cell? ⟨X, 1, none⟩ = some (.int .u8 (PairR.b p)) := by
  simp [World.cell?, h, pairObj]
/-- The check at a pair: its box. -/
abbrev Ck.pr (c : Ck) (X : Nat) (p : PairR) : Ck := c.with_ [(X, pairObj p)]
theorem CkSt.pr {c : Ck} {X : Nat} {p : PairR} {wr : World} (s : CkSt (c.pr X p) wr) : wr.heap[X]? = some (pairObj p) := s.boxes (X, pairObj p) (List.mem_singleton.2 rfl)

set_option maxRecDepth 100000 in
set_option maxHeartbeats 3200000 in
theorem ck8_test (c : Ck) (a : Act) (wr : World) (i X : Nat) (p : PairR) (hp : PairR.Ok p) (S : CkS (c.pr X p) [(14, num_ i), (15, ptr_ X)] a wr) (o : Option Flt) (ho : Aside (o = if ((Plan.parts c.P).length : Int) ≤ PairR.a p ∨ ((Plan.parts c.P).length : Int) ≤ PairR.b p ∨ PairR.b p ≤ PairR.a p then some (48, (i : Int)) else none)) :
    (pathC [0, 1, 2, 2, 1, 0, 2, 1, 0] (ckTail 8)).wp Tryd.prog (CkE (c.pr X p) o [(14, num_ i), (15, ptr_ X)]) a wr := by
  obtain ⟨⟨u, rfl, h14, h15, _⟩, S⟩ := S
  obtain ⟨x0, x1⟩ := pair_box S.pr
  have hb := S.box
  have hcell : wr.cell? ⟨c.w.heap.size, 2, none⟩ = some (.slice c.v.a1 (Plan.parts c.P).length c.v.c1) := by
    have hb : wr.heap[c.w.heap.size]? = some (.cells #[.int .u16 (Plan.frame c.P), .slice c.v.a0 (Plan.cores c.P).length c.v.c0, .slice c.v.a1 (Plan.parts c.P).length c.v.c1, .slice c.v.a2 (Plan.chans c.P).length c.v.c2, .slice c.v.a3 (Plan.pairs c.P).length c.v.c3] 28 (0, 0)) := hb
    simp [World.cell?, hb]
  have hlen : (Plan.parts c.P).length ≤ 9223372036854775807 := by
    obtain ⟨_, _, q, h⟩ := Elems.len S.plan.parts
    exact h
  have S0 := Aside.mk S
  obtain ⟨⟨a0, a1⟩, ⟨b0, b1⟩⟩ := hp
  show (pathC [0, 1, 2, 2, 1, 0, 2, 1, 0] (ckTail 8)).wp Tryd.prog (CkE (c.pr X p) o [(14, num_ i), (15, ptr_ X)]) (ckF u c.w.heap.size c.lv) wr
  unfold ckF
  rw [h14, h15]
  clear h14 h15 hb S
  generalize PairR.a p = pa at *
  generalize PairR.b p = pb at *
  conv => arg 2; whnf
  by_cases t1 : ((Plan.parts c.P).length : Int) ≤ pa
  · have HN := Aside.mk (ho.out.trans (by rw [if_pos (.inl t1)]))
    clear ho
    go_wp2_with fail
    exact CkE.stop HN.out rfl rfl rfl S0.out.below
  by_cases t2 : ((Plan.parts c.P).length : Int) ≤ pb
  · have HN := Aside.mk (ho.out.trans (by rw [if_pos (.inr (.inl t2))]))
    clear ho
    go_wp2_with fail
    exact CkE.stop HN.out rfl rfl rfl S0.out.below
  by_cases t3 : pb ≤ pa
  · have HN := Aside.mk (ho.out.trans (by rw [if_pos (.inr (.inr t3))]))
    clear ho
    go_wp2_with fail
    exact CkE.stop HN.out rfl rfl rfl S0.out.below
  · have HN := Aside.mk (ho.out.trans (by rw [if_neg (by omega)]))
    clear ho
    go_wp2_with fail
    exact CkE.go HN.out (CkFr.mk rfl rfl rfl rfl rfl rfl ⟨rfl, rfl, trivial⟩) S0.out

set_option maxRecDepth 100000 in
set_option maxHeartbeats 3200000 in
theorem ck8_same (c : Ck) (a : Act) (wr : World) (i k X : Nat) (p q : PairR) (hp : PairR.Ok p) (hi : (Plan.pairs c.P)[i]? = some p) (hq : (Plan.pairs c.P)[k]? = some q) (S : CkS (c.pr X p) [(14, num_ i), (15, ptr_ X), (16, num_ k)] a wr) (o : Option Flt) (ho : Aside (o = samePairF (Plan.pairs c.P) i k)) :
    (pathC [0, 1, 2, 2, 1, 0, 2, 1, 1, 0, 1, 2, 2, 1, 0, 2] (ckTail 8)).wp Tryd.prog (CkE (c.pr X p) o [(14, num_ i), (15, ptr_ X), (16, num_ k)]) a wr := by
  obtain ⟨⟨u, rfl, h14, h15, h16, _⟩, S⟩ := S
  obtain ⟨x0, x1⟩ := pair_box S.pr
  have hP : Pairs wr (.slice c.v.a3 (Plan.pairs c.P).length c.v.c3) (Plan.pairs c.P) := S.plan.pairs
  obtain ⟨_, _, q', hlen⟩ := Elems.len hP
  obtain ⟨ad, had, e0, e1, ok⟩ := Pairs.at_ hP k q hq
  have hb : wr.heap[c.w.heap.size]? = some (.cells #[.int .u16 (Plan.frame c.P), .slice c.v.a0 (Plan.cores c.P).length c.v.c0, .slice c.v.a1 (Plan.parts c.P).length c.v.c1, .slice c.v.a2 (Plan.chans c.P).length c.v.c2, .slice c.v.a3 (Plan.pairs c.P).length c.v.c3] 28 (0, 0)) := S.box
  have hcell : wr.cell? ⟨c.w.heap.size, 4, none⟩ = some (.slice c.v.a3 (Plan.pairs c.P).length c.v.c3) := by simp [World.cell?, hb]
  rw [had] at hcell
  have hk := (List.getElem?_eq_some_iff.1 hq).1
  have S0 := Aside.mk S
  have HO : Aside (o = if PairR.a q = PairR.a p ∧ PairR.b q = PairR.b p then some (48, (i : Int)) else none) := ⟨by rw [ho.out, samePairF, prAt_some hi, prAt_some hq]⟩
  obtain ⟨⟨a0, a1⟩, ⟨b0, b1⟩⟩ := hp
  obtain ⟨⟨a2, a3⟩, ⟨b2, b3⟩⟩ := ok
  show (pathC [0, 1, 2, 2, 1, 0, 2, 1, 1, 0, 1, 2, 2, 1, 0, 2] (ckTail 8)).wp Tryd.prog (CkE (c.pr X p) o [(14, num_ i), (15, ptr_ X), (16, num_ k)]) (ckF u c.w.heap.size c.lv) wr
  unfold ckF
  rw [h14, h15, h16]
  clear h14 h15 h16 hb S ho hP q' had hi hq
  generalize PairR.a p = pa at *
  generalize PairR.b p = pb at *
  generalize PairR.a q = qa at *
  generalize PairR.b q = qb at *
  conv => arg 2; whnf
  by_cases t1 : qa = pa
  · by_cases t2 : qb = pb
    · have HN := Aside.mk (HO.out.trans (by rw [if_pos ⟨t1, t2⟩]))
      subst t1 t2
      clear HO
      go_wp2_with fail
      go_quiet (fail)
      go_wp2_with fail
      exact CkE.stop HN.out rfl rfl rfl (S0.out.drewN _).below
    · have HN := Aside.mk (HO.out.trans (by rw [if_neg (by simp [t2])]))
      have T2 : (qb == pb) = false := by simp [t2]
      subst t1
      clear HO
      go_wp2_with fail
      go_quiet (fail)
      go_wp2_with fail
      exact CkE.go HN.out (CkFr.mk rfl rfl rfl rfl rfl rfl ⟨rfl, rfl, rfl, trivial⟩) (S0.out.drewN _)
  · have HN := Aside.mk (HO.out.trans (by rw [if_neg (by simp [t1])]))
    have T1 : (qa == pa) = false := by simp [t1]
    clear HO
    go_wp2_with fail
    go_quiet (fail)
    go_wp2_with fail
    exact CkE.go HN.out (CkFr.mk rfl rfl rfl rfl rfl rfl ⟨rfl, rfl, rfl, trivial⟩) (S0.out.drewN _)
end Go.Proofs.YtidjkhmlpgkaaaaDoor

namespace Go.Proofs.YtidjkhmlpgkaaaaDoor
open Go.RowKit
set_option linter.unusedVariables false
set_option linter.unusedSimpArgs false

set_option maxRecDepth 100000 in
set_option maxHeartbeats 6400000 in
theorem ck8_clash (c : Ck) (a : Act) (wr : World) (i ka kb X : Nat) (p : PairR) (hp : PairR.Ok p) (x y : Place) (hx : c.l[ka]? = some x) (hy : c.l[kb]? = some y) (S : CkS (c.pr X p) [(14, num_ i), (15, ptr_ X), (17, num_ ka), (18, num_ kb)] a wr) (o : Option Flt) (ho : Aside (o = clashF c.l p i ka kb)) :
    (pathC [0, 1, 2, 2, 1, 0, 2, 1, 1, 1, 1, 2, 2, 1, 0, 2, 1, 2, 2, 1, 0, 2] (ckTail 8)).wp Tryd.prog (CkE (c.pr X p) o [(14, num_ i), (15, ptr_ X), (17, num_ ka), (18, num_ kb)]) a wr := by
  obtain ⟨⟨u, rfl, h14, h15, h17, h18, _⟩, S⟩ := S
  obtain ⟨x0, x1⟩ := pair_box S.pr
  have hP : Places wr c.lv c.l := S.places
  obtain ⟨_, lcap, q, hlen⟩ := Elems.len hP
  rw [q] at hP
  obtain ⟨ad, rfl, e0, e1, e2, e3, e4, e5, ok, okc, _⟩ := Places.at_ hP ka x hx
  obtain ⟨ad', q', d0, d1, d2, d3, d4, d5, ok', okc', _⟩ := Places.at_ hP kb y hy
  obtain rfl : ad = ad' := by injection q'
  have hk := (List.getElem?_eq_some_iff.1 hx).1
  have hi := (List.getElem?_eq_some_iff.1 hy).1
  have Hq := Aside.mk q
  have S0 := Aside.mk S
  have HO : Aside (o = if Win.p (Place.w x) = PairR.a p ∧ Win.p (Place.w y) = PairR.b p ∧ overlapS (Place.w x) (Place.w y) = true then some (49, (i : Int)) else none) := ⟨by rw [ho.out, clashF, plAt_some hx, plAt_some hy]⟩
  have KT := Aside.mk (fun w => overlap_any (Place.w x) (Place.w y) ok ok' w)
  unfold Win.val at KT
  obtain ⟨tb, htb⟩ : ∃ tb, overlapS (Place.w x) (Place.w y) = tb := ⟨_, rfl⟩
  rw [htb] at HO KT
  obtain ⟨⟨a0, a1⟩, ⟨b0, b1⟩⟩ := hp
  obtain ⟨_, _, ⟨p0, p1⟩, _⟩ := ok
  obtain ⟨_, _, ⟨p2, p3⟩, _⟩ := ok'
  show (pathC [0, 1, 2, 2, 1, 0, 2, 1, 1, 1, 1, 2, 2, 1, 0, 2, 1, 2, 2, 1, 0, 2] (ckTail 8)).wp Tryd.prog (CkE (c.pr X p) o [(14, num_ i), (15, ptr_ X), (17, num_ ka), (18, num_ kb)]) (ckF u c.w.heap.size c.lv) wr
  unfold ckF
  rw [h14, h15, h17, h18, q]
  clear h14 h15 h17 h18 S ho hP q' q hx hy htb e0 e1 d0 d1
  generalize PairR.a p = pa at *
  generalize PairR.b p = pb at *
  generalize Win.s (Place.w x) = sx at *
  generalize Win.l (Place.w x) = lx at *
  generalize Win.s (Place.w y) = sy at *
  generalize Win.l (Place.w y) = ly at *
  generalize Win.g (Place.w x) = gx at *
  generalize Win.g (Place.w y) = gy at *
  generalize Win.p (Place.w x) = px at *
  generalize Win.p (Place.w y) = py at *
  conv => arg 2; whnf
  by_cases t1 : px = pa
  · by_cases t2 : py = pb
    · subst t1 t2
      cases tb
      · have HN := Aside.mk (HO.out.trans (by rw [if_neg (by simp)]))
        clear HO
        go_wp2_with fail
        go_region_held3 (fun w' => w'.cell? ⟨X, 0, none⟩ = some (.int .u8 px) ∧ w'.cell? ⟨X, 1, none⟩ = some (.int .u8 py) ∧ w'.cell? ⟨(ad.add (ka * 6)).block, (ad.add (ka * 6)).off + 2, none⟩ = some (.int .u16 sx) ∧ w'.cell? ⟨(ad.add (ka * 6)).block, (ad.add (ka * 6)).off + 2 + 1, none⟩ = some (.int .u16 lx) ∧ w'.cell? ⟨(ad.add (ka * 6)).block, (ad.add (ka * 6)).off + 2 + 2, none⟩ = some (.int .u8 px) ∧ w'.cell? ⟨(ad.add (ka * 6)).block, (ad.add (ka * 6)).off + 2 + 3, none⟩ = some (.int .u8 gx) ∧ w'.cell? ⟨(ad.add (kb * 6)).block, (ad.add (kb * 6)).off + 2, none⟩ = some (.int .u16 sy) ∧ w'.cell? ⟨(ad.add (kb * 6)).block, (ad.add (kb * 6)).off + 2 + 1, none⟩ = some (.int .u16 ly) ∧ w'.cell? ⟨(ad.add (kb * 6)).block, (ad.add (kb * 6)).off + 2 + 2, none⟩ = some (.int .u8 py) ∧ w'.cell? ⟨(ad.add (kb * 6)).block, (ad.add (kb * 6)).off + 2 + 3, none⟩ = some (.int .u8 gy)) (first | go_keep | (exact ⟨c1 _ _ (by assumption), c1 _ _ (by assumption), c1 _ _ (by assumption), c1 _ _ (by assumption), c1 _ _ (by assumption), c1 _ _ (by assumption), c1 _ _ (by assumption), c1 _ _ (by assumption), c1 _ _ (by assumption), c1 _ _ (by assumption)⟩)) (first | (go_at_call 54; refine (KT.out _).mono ?_; rintro e w' ⟨rfl, b9⟩; have c1 := fun (a : Addr) (v : Value) (h : World.cell? _ a = some v) => (Kept.of_below (S := fun _ => False) b9).cell h id))
        have S1 := Aside.mk ((S0.out.old (bel_drew (below_refl wr))).old b9)
        clear b9 c1
        go_wp2_with fail
        exact CkE.go HN.out (CkFr.mk rfl rfl rfl rfl rfl Hq.out.symm ⟨rfl, rfl, rfl, rfl, trivial⟩) S1.out
      · have HN := Aside.mk (HO.out.trans (by rw [if_pos ⟨rfl, rfl, rfl⟩]))
        clear HO
        go_wp2_with fail
        go_region_held3 (fun w' => w'.cell? ⟨X, 0, none⟩ = some (.int .u8 px) ∧ w'.cell? ⟨X, 1, none⟩ = some (.int .u8 py) ∧ w'.cell? ⟨(ad.add (ka * 6)).block, (ad.add (ka * 6)).off + 2, none⟩ = some (.int .u16 sx) ∧ w'.cell? ⟨(ad.add (ka * 6)).block, (ad.add (ka * 6)).off + 2 + 1, none⟩ = some (.int .u16 lx) ∧ w'.cell? ⟨(ad.add (ka * 6)).block, (ad.add (ka * 6)).off + 2 + 2, none⟩ = some (.int .u8 px) ∧ w'.cell? ⟨(ad.add (ka * 6)).block, (ad.add (ka * 6)).off + 2 + 3, none⟩ = some (.int .u8 gx) ∧ w'.cell? ⟨(ad.add (kb * 6)).block, (ad.add (kb * 6)).off + 2, none⟩ = some (.int .u16 sy) ∧ w'.cell? ⟨(ad.add (kb * 6)).block, (ad.add (kb * 6)).off + 2 + 1, none⟩ = some (.int .u16 ly) ∧ w'.cell? ⟨(ad.add (kb * 6)).block, (ad.add (kb * 6)).off + 2 + 2, none⟩ = some (.int .u8 py) ∧ w'.cell? ⟨(ad.add (kb * 6)).block, (ad.add (kb * 6)).off + 2 + 3, none⟩ = some (.int .u8 gy)) (first | go_keep | (exact ⟨c1 _ _ (by assumption), c1 _ _ (by assumption), c1 _ _ (by assumption), c1 _ _ (by assumption), c1 _ _ (by assumption), c1 _ _ (by assumption), c1 _ _ (by assumption), c1 _ _ (by assumption), c1 _ _ (by assumption), c1 _ _ (by assumption)⟩)) (first | (go_at_call 54; refine (KT.out _).mono ?_; rintro e w' ⟨rfl, b9⟩; have c1 := fun (a : Addr) (v : Value) (h : World.cell? _ a = some v) => (Kept.of_below (S := fun _ => False) b9).cell h id))
        have S1 := Aside.mk ((S0.out.old (bel_drew (below_refl wr))).old b9)
        clear b9 c1
        go_wp2_with fail
        exact CkE.stop HN.out rfl rfl rfl S1.out.below
    · have HN := Aside.mk (HO.out.trans (by rw [if_neg (by simp [t2])]))
      have T2 : (py == pb) = false := by simp [t2]
      subst t1
      clear HO
      go_wp2_with fail
      go_quiet (fail)
      go_wp2_with fail
      exact CkE.go HN.out (CkFr.mk rfl rfl rfl rfl rfl Hq.out.symm ⟨rfl, rfl, rfl, rfl, trivial⟩) (S0.out.drewN _)
  · have HN := Aside.mk (HO.out.trans (by rw [if_neg (by simp [t1])]))
    have T1 : (px == pa) = false := by simp [t1]
    clear HO
    go_wp2_with fail
    go_quiet (fail)
    go_wp2_with fail
    exact CkE.go HN.out (CkFr.mk rfl rfl rfl rfl rfl Hq.out.symm ⟨rfl, rfl, rfl, rfl, trivial⟩) (S0.out.drewN _)

set_option maxRecDepth 100000 in
set_option maxHeartbeats 3200000 in
theorem ck8_l1 (c : Ck) (a : Act) (wi : World) (i X : Nat) (p : PairR) (hp : PairR.Ok p) (hi : (Plan.pairs c.P)[i]? = some p) (hlen : (Plan.pairs c.P).length ≤ 9223372036854775807) (S : CkS (c.pr X p) [(14, num_ i), (15, ptr_ X)] a wi) (o : Option Flt) (ho : Aside (o = scan (samePairF (Plan.pairs c.P) i) i)) :
    (pathC [0, 1, 2, 2, 1, 0, 2, 1, 1, 0] (ckTail 8)).wp Tryd.prog (CkE (c.pr X p) o [(14, num_ i), (15, ptr_ X)]) a wi := by
  obtain ⟨⟨u, rfl, h14, h15, _⟩, S⟩ := S
  have HS := Aside.mk S
  have hil := (List.getElem?_eq_some_iff.1 hi).1
  unfold ckF
  rw [h14, h15]
  conv => arg 2; whnf
  clear S h14 h15
  go_wp2_with fail
  refine wp_loop_fuel (CkI (c.pr X p) (fun k => [(14, num_ i), (15, ptr_ X), (16, num_ k)]) i (samePairF (Plan.pairs c.P) i)) i ?_ ?_
  · exact CkI.start (CkFr.mk rfl rfl rfl rfl rfl rfl ⟨rfl, rfl, rfl, trivial⟩) HS.out
  clear HS
  rintro m a wr ⟨k, hk, rfl, hF, ⟨u, rfl, h14, h15, h16, _⟩, S⟩
  have S0 := Aside.mk S
  have F0 := Aside.mk hF
  have HI := Aside.mk hi
  unfold ckF
  rw [h14, h15, h16]
  clear S hF h14 h15 h16 hi
  by_cases hkl : k < i
  · go_upto_block 13 with fail
    refine wp_block (wp_mono (ck8_same c _ wr i k X p _ hp HI.out (List.getElem?_eq_getElem (by omega)) ⟨CkFr.mk rfl rfl rfl rfl rfl rfl ⟨rfl, rfl, rfl, trivial⟩, S0.out⟩ _ ⟨rfl⟩) fun e a' w' q => ?_)
    rcases CkE.of (nm' := [(14, num_ i), (15, ptr_ X)]) (o' := o) q (fun r hr => by rw [ho.out]; exact scan_some F0.out hr hkl) with ⟨rfl, q2⟩ | ⟨rfl, hf, ⟨u', rfl, h14, h15, h16, _⟩, S⟩
    · exact q2
    · unfold ckF
      rw [h14, h15, h16]
      have Hf := Aside.mk hf
      have S1 := Aside.mk S
      clear hf S q h14 h15 h16
      go_wp2_with fail
      exact CkI.lower hkl F0.out Hf.out (CkFr.mk rfl rfl rfl rfl rfl rfl ⟨rfl, rfl, rfl, trivial⟩) S1.out
  · obtain rfl : k = i := by omega
    go_wp2_with fail
    exact CkE.go (by rw [ho.out]; exact F0.out) (CkFr.mk rfl rfl rfl rfl rfl rfl ⟨rfl, rfl, trivial⟩) S0.out

set_option maxRecDepth 100000 in
set_option maxHeartbeats 3200000 in
theorem ck8_l3 (c : Ck) (a : Act) (wi : World) (i ka X : Nat) (p : PairR) (hp : PairR.Ok p) (hka : ka < c.l.length) (S : CkS (c.pr X p) [(14, num_ i), (15, ptr_ X), (17, num_ ka)] a wi) (o : Option Flt) (ho : Aside (o = scan (clashF c.l p i ka) c.l.length)) :
    (pathC [0, 1, 2, 2, 1, 0, 2, 1, 1, 1, 1, 2, 2, 1, 0, 2] (ckTail 8)).wp Tryd.prog (CkE (c.pr X p) o [(14, num_ i), (15, ptr_ X), (17, num_ ka)]) a wi := by
  obtain ⟨⟨u, rfl, h14, h15, h17, _⟩, S⟩ := S
  have hP : Places wi c.lv c.l := S.places
  obtain ⟨la, lcap, q, hlen⟩ := Elems.len hP
  have Hq := Aside.mk q
  have HS := Aside.mk S
  show (pathC [0, 1, 2, 2, 1, 0, 2, 1, 1, 1, 1, 2, 2, 1, 0, 2] (ckTail 8)).wp Tryd.prog (CkE (c.pr X p) o [(14, num_ i), (15, ptr_ X), (17, num_ ka)]) (ckF u c.w.heap.size c.lv) wi
  unfold ckF
  rw [h14, h15, h17, q]
  conv => arg 2; whnf
  clear S h14 h15 h17 q hP
  go_wp2_with fail
  refine wp_loop_fuel (CkI (c.pr X p) (fun k => [(14, num_ i), (15, ptr_ X), (17, num_ ka), (18, num_ k)]) c.l.length (clashF c.l p i ka)) c.l.length ?_ ?_
  · exact CkI.start (CkFr.mk rfl rfl rfl rfl rfl Hq.out.symm ⟨rfl, rfl, rfl, rfl, trivial⟩) HS.out
  clear HS
  rintro m a wr ⟨k, hk, rfl, hF, ⟨u, rfl, h14, h15, h17, h18, _⟩, S⟩
  have S0 := Aside.mk S
  have F0 := Aside.mk hF
  show Code.wp Tryd.prog _ _ (ckF u c.w.heap.size c.lv) wr
  unfold ckF
  rw [h14, h15, h17, h18, Hq.out]
  clear S hF h14 h15 h17 h18
  by_cases hkl : k < c.l.length
  · have hkl' : (k : Int) < (c.l.length : Int) := by omega
    go_upto_block 17 with fail
    refine wp_block (wp_mono (ck8_clash c _ wr i ka k X p hp _ _ (List.getElem?_eq_getElem hka) (List.getElem?_eq_getElem hkl) ⟨CkFr.mk rfl rfl rfl rfl rfl (by exact Hq.out.symm) ⟨rfl, rfl, rfl, rfl, trivial⟩, S0.out⟩ _ ⟨rfl⟩) fun e a' w' q => ?_)
    rcases CkE.of (nm' := [(14, num_ i), (15, ptr_ X), (17, num_ ka)]) (o' := o) q (fun r hr => by rw [ho.out]; exact scan_some F0.out hr hkl) with ⟨rfl, q2⟩ | ⟨rfl, hf, ⟨u', rfl, h14, h15, h17, h18, _⟩, S⟩
    · exact q2
    · unfold ckF
      rw [h14, h15, h17, h18]
      have Hf := Aside.mk hf
      have S1 := Aside.mk S
      clear hf S q h14 h15 h17 h18
      go_wp2_with fail
      exact CkI.lower hkl F0.out Hf.out (CkFr.mk rfl rfl rfl rfl rfl rfl ⟨rfl, rfl, rfl, rfl, trivial⟩) S1.out
  · obtain rfl : k = c.l.length := by omega
    go_wp2_with fail
    exact CkE.go (by rw [ho.out]; exact F0.out) (CkFr.mk rfl rfl rfl rfl rfl Hq.out.symm ⟨rfl, rfl, rfl, trivial⟩) S0.out

set_option maxRecDepth 100000 in
set_option maxHeartbeats 3200000 in
theorem ck8_l2 (c : Ck) (a : Act) (wi : World) (i X : Nat) (p : PairR) (hp : PairR.Ok p) (S : CkS (c.pr X p) [(14, num_ i), (15, ptr_ X)] a wi) (o : Option Flt) (ho : Aside (o = scan (fun k => scan (clashF c.l p i k) c.l.length) c.l.length)) :
    (pathC [0, 1, 2, 2, 1, 0, 2, 1, 1, 1] (ckTail 8)).wp Tryd.prog (CkE (c.pr X p) o [(14, num_ i), (15, ptr_ X)]) a wi := by
  obtain ⟨⟨u, rfl, h14, h15, _⟩, S⟩ := S
  have hP : Places wi c.lv c.l := S.places
  obtain ⟨la, lcap, q, hlen⟩ := Elems.len hP
  have Hq := Aside.mk q
  have HS := Aside.mk S
  show (pathC [0, 1, 2, 2, 1, 0, 2, 1, 1, 1] (ckTail 8)).wp Tryd.prog (CkE (c.pr X p) o [(14, num_ i), (15, ptr_ X)]) (ckF u c.w.heap.size c.lv) wi
  unfold ckF
  rw [h14, h15, q]
  conv => arg 2; whnf
  clear S h14 h15 q hP
  go_wp2_with fail
  refine wp_loop_fuel (CkI (c.pr X p) (fun k => [(14, num_ i), (15, ptr_ X), (17, num_ k)]) c.l.length (fun k => scan (clashF c.l p i k) c.l.length)) c.l.length ?_ ?_
  · exact CkI.start (CkFr.mk rfl rfl rfl rfl rfl Hq.out.symm ⟨rfl, rfl, rfl, trivial⟩) HS.out
  clear HS
  rintro m a wr ⟨k, hk, rfl, hF, ⟨u, rfl, h14, h15, h17, _⟩, S⟩
  have S0 := Aside.mk S
  have F0 := Aside.mk hF
  show Code.wp Tryd.prog _ _ (ckF u c.w.heap.size c.lv) wr
  unfold ckF
  rw [h14, h15, h17, Hq.out]
  clear S hF h14 h15 h17
  by_cases hkl : k < c.l.length
  · have hkl' : (k : Int) < (c.l.length : Int) := by omega
    go_upto_block 15 with fail
    refine wp_block (wp_mono (ck8_l3 c _ wr i k X p hp hkl ⟨CkFr.mk rfl rfl rfl rfl rfl (by exact Hq.out.symm) ⟨rfl, rfl, rfl, trivial⟩, S0.out⟩ _ ⟨rfl⟩) fun e a' w' q => ?_)
    rcases CkE.of (nm' := [(14, num_ i), (15, ptr_ X)]) (o' := o) q (fun r hr => by rw [ho.out]; exact scan_some F0.out hr hkl) with ⟨rfl, q2⟩ | ⟨rfl, hf, ⟨u', rfl, h14, h15, h17, _⟩, S⟩
    · exact q2
    · unfold ckF
      rw [h14, h15, h17]
      have Hf := Aside.mk hf
      have S1 := Aside.mk S
      clear hf S q h14 h15 h17
      go_wp2_with fail
      exact CkI.lower hkl F0.out Hf.out (CkFr.mk rfl rfl rfl rfl rfl rfl ⟨rfl, rfl, rfl, trivial⟩) S1.out
  · obtain rfl : k = c.l.length := by omega
    go_wp2_with fail
    exact CkE.go (by rw [ho.out]; exact F0.out) (CkFr.mk rfl rfl rfl rfl rfl Hq.out.symm ⟨rfl, rfl, trivial⟩) S0.out
end Go.Proofs.YtidjkhmlpgkaaaaDoor

namespace Go.Proofs.YtidjkhmlpgkaaaaDoor
open Go.RowKit
set_option linter.unusedVariables false
set_option linter.unusedSimpArgs false

set_option maxRecDepth 100000 in
set_option maxHeartbeats 3200000 in
theorem ck8_body (c : Ck) (h0 : c.ex = []) (a : Act) (wr : World) (k : Nat) (hkl : k < (Plan.pairs c.P).length) (S : CkS c [(14, num_ k)] a wr) :
    (pathC [0, 1, 2, 2, 1, 0, 2] (ckTail 8)).wp Tryd.prog (CkE c (pairF ((Plan.parts c.P).length : Int) c.l (Plan.pairs c.P) k) [(14, num_ k)]) a wr := by
  obtain ⟨⟨u, rfl, h14, _⟩, S⟩ := S
  have hlen : (Plan.pairs c.P).length ≤ 9223372036854775807 := by
    obtain ⟨_, _, q, h⟩ := Elems.len S.plan.pairs
    exact h
  have hl := List.getElem?_eq_getElem hkl
  obtain ⟨p, hX⟩ : ∃ p, (Plan.pairs c.P)[k] = p := ⟨_, rfl⟩
  rw [hX] at hl
  obtain ⟨ad, had, e0, e1, ok⟩ := Pairs.at_ S.plan.pairs k p hl
  have hb := S.box
  have hcell : wr.cell? ⟨c.w.heap.size, 4, none⟩ = some (.slice c.v.a3 (Plan.pairs c.P).length c.v.c3) := by simp [World.cell?, hb]
  rw [had] at hcell
  obtain ⟨W1, HW⟩ : ∃ W1, W1 = wr.alloc (pairObj p) := ⟨_, rfl⟩
  have S1 : CkSt (c.pr wr.heap.size p) W1 := by
    rw [HW]
    refine (S.old (bel_one _ _)).with_ _ ?_
    intro q hq
    obtain rfl := List.mem_singleton.1 hq
    exact heap_alloc_new _ _
  have HF : pairF ((Plan.parts c.P).length : Int) c.l (Plan.pairs c.P) k = orElseF (if ((Plan.parts c.P).length : Int) ≤ PairR.a p ∨ ((Plan.parts c.P).length : Int) ≤ PairR.b p ∨ PairR.b p ≤ PairR.a p then some (48, (k : Int)) else none) (orElseF (scan (samePairF (Plan.pairs c.P) k) k) (scan (fun a => scan (clashF c.l p k a) c.l.length) c.l.length)) := by
    rw [pairF, prAt_some hl]
    by_cases h : ((Plan.parts c.P).length : Int) ≤ PairR.a p ∨ ((Plan.parts c.P).length : Int) ≤ PairR.b p ∨ PairR.b p ≤ PairR.a p
    · rw [if_pos h, if_pos h]; rfl
    · rw [if_neg h, if_neg h]; rfl
  rw [HF]
  refine wp_seq (x := pathC [0, 1, 2, 2, 1, 0, 2, 0] (ckTail 8)) (y := pathC [0, 1, 2, 2, 1, 0, 2, 1] (ckTail 8)) (wp_then (CkS (c.pr wr.heap.size p) [(14, num_ k), (15, ptr_ wr.heap.size)]) ?_ ?_)
  · have HS1 := Aside.mk S1
    have HHW := Aside.mk HW
    unfold pairObj at HHW
    unfold ckF
    rw [h14]
    clear h14 S1 HW S hb hl hX HF had
    conv => arg 2; whnf
    go_wp2_with fail
    rw [← HHW.out]
    exact ⟨CkFr.mk rfl rfl rfl rfl rfl rfl ⟨rfl, rfl, trivial⟩, HS1.out⟩
  · intro a1 w1 h1
    have H := ckE_seq (x := pathC [0, 1, 2, 2, 1, 0, 2, 1, 0] (ckTail 8)) (y := pathC [0, 1, 2, 2, 1, 0, 2, 1, 1] (ckTail 8)) (ck8_test c a1 w1 k wr.heap.size p ok h1 _ ⟨rfl⟩) (fun _ a2 w2 h2 =>
      ckE_seq (x := pathC [0, 1, 2, 2, 1, 0, 2, 1, 1, 0] (ckTail 8)) (y := pathC [0, 1, 2, 2, 1, 0, 2, 1, 1, 1] (ckTail 8)) (ck8_l1 c a2 w2 k wr.heap.size p ok hl hlen h2 _ ⟨rfl⟩) (fun _ a3 w3 h3 => ck8_l2 c a3 w3 k wr.heap.size p ok h3 _ ⟨rfl⟩))
    refine wp_mono H fun e a' w' q => ?_
    have q2 := CkE.drop h0 q
    rcases q2 with ⟨rfl, ho, ⟨u2, e2, g14, _⟩, hs⟩ | q2
    · exact .inl ⟨rfl, ho, ⟨u2, e2, g14, trivial⟩, hs⟩
    · exact .inr q2

set_option maxRecDepth 100000 in
set_option maxHeartbeats 3200000 in
theorem ck_8 (c : Ck) (h0 : c.ex = []) (a : Act) (wi : World) (S : CkS c [] a wi) : (pathC [0] (ckTail 8)).wp Tryd.prog (CkE c (scan (pairF ((Plan.parts c.P).length : Int) c.l (Plan.pairs c.P)) (Plan.pairs c.P).length) []) a wi := by
  obtain ⟨⟨u, rfl, _⟩, S⟩ := S
  unfold ckF
  conv => arg 2; whnf
  have hlen : (Plan.pairs c.P).length ≤ 9223372036854775807 := by
    obtain ⟨_, _, q, h⟩ := Elems.len S.plan.pairs
    exact h
  have HS := Aside.mk S
  have H0 := Aside.mk h0
  clear S h0
  go_wp2_with fail
  refine wp_loop_fuel (CkI c (fun k => [(14, num_ k)]) (Plan.pairs c.P).length (pairF ((Plan.parts c.P).length : Int) c.l (Plan.pairs c.P))) (Plan.pairs c.P).length (CkI.start (CkFr.mk rfl rfl rfl rfl rfl rfl ⟨rfl, trivial⟩) HS.out) ?_
  clear HS
  rintro m a wr ⟨k, hk, rfl, hF, ⟨u, rfl, h14, _⟩, S⟩
  unfold ckF
  rw [h14]
  have hb := S.box
  have hcell : wr.cell? ⟨c.w.heap.size, 4, none⟩ = some (.slice c.v.a3 (Plan.pairs c.P).length c.v.c3) := by simp [World.cell?, hb]
  clear hb h14
  have S0 := Aside.mk S
  have F0 := Aside.mk hF
  clear S hF
  by_cases hkl : k < (Plan.pairs c.P).length
  · go_upto_block 11 with fail
    refine wp_block (wp_mono (ck8_body c H0.out _ wr k hkl ⟨CkFr.mk rfl rfl rfl rfl rfl rfl ⟨rfl, trivial⟩, S0.out⟩) fun e a' w' q => ?_)
    rcases CkE.of (nm' := []) q (fun r hr => scan_some F0.out hr hkl) with ⟨rfl, q2⟩ | ⟨rfl, hf, ⟨u', rfl, h14, _⟩, S⟩
    · exact q2
    · unfold ckF
      rw [h14]
      have Hf := Aside.mk hf
      have S1 := Aside.mk S
      clear hf S q h14
      go_wp2_with fail
      exact CkI.lower hkl F0.out Hf.out (CkFr.mk rfl rfl rfl rfl rfl rfl ⟨rfl, trivial⟩) S1.out
  · obtain rfl : k = (Plan.pairs c.P).length := by omega
    go_wp2_with fail
    exact CkE.go F0.out (CkFr.mk rfl rfl rfl rfl rfl rfl trivial) S0.out
end Go.Proofs.YtidjkhmlpgkaaaaDoor
