/- The rules' reference: the check's loop over gangs. -/
import Derived.Test.YtpcjjmjmigibhaaDoorRulG
import Derived.Deep.CutBlock
namespace Go.Proofs.YtpcjjmjmigibhaaDoor
open Go.RowKit
set_option linter.unusedVariables false
set_option linter.unusedSimpArgs false

set_option maxRecDepth 100000 in
set_option maxHeartbeats 3200000 in
theorem ck7_twice (c : Ck) (a : Act) (wr : World) (i k : Nat) (x y : Place) (hx : c.l[k]? = some x) (hy : c.l[i]? = some y) (S : CkS c [(9, num_ i), (10, num_ k)] a wr) (o : Option Flt) (ho : Aside (o = twiceF c.l i k)) :
    (pathC [0, 1, 2, 2, 1, 0, 2, 0, 1, 2, 2, 1, 0, 2] (ckTail 7)).wp Tryd.prog (CkE c o [(9, num_ i), (10, num_ k)]) a wr := by
  obtain ⟨⟨u, rfl, h9, h10, _⟩, S⟩ := S
  obtain ⟨_, lcap, q, hlen⟩ := Elems.len S.places
  have hP := S.places
  rw [q] at hP
  obtain ⟨ad, rfl, e0, e1, e2, e3, e4, e5, ok, okc, _⟩ := Places.at_ hP k x hx
  obtain ⟨ad', q', d0, d1, d2, d3, d4, d5, ok', okc', _⟩ := Places.at_ hP i y hy
  obtain rfl : ad = ad' := by injection q'
  have hk := (List.getElem?_eq_some_iff.1 hx).1
  have hi := (List.getElem?_eq_some_iff.1 hy).1
  have S0 := Aside.mk S
  have Hq := Aside.mk q
  have HO : Aside (o = if Place.c x = Place.c y ∧ Win.g (Place.w x) = Win.g (Place.w y) ∧ Win.g (Place.w y) ≠ 0 then some (46, Place.a y) else none) := ⟨by rw [ho.out, twiceF, plAt_some hx, plAt_some hy]⟩
  obtain ⟨_, _, _, ⟨g0, g1⟩⟩ := ok
  obtain ⟨_, _, _, ⟨g2, g3⟩⟩ := ok'
  unfold ckF
  rw [h9, h10, q]
  clear h9 h10 q' q hP S hx hy ho e1 e2 e3 e4 d2 d3 d4
  generalize Place.c x = cx at *
  generalize Place.c y = cy at *
  generalize Win.g (Place.w x) = gx at *
  generalize Win.g (Place.w y) = gy at *
  generalize Place.a y = ay at *
  conv => arg 2; whnf
  by_cases p1 : cx = cy
  · by_cases p2 : gx = gy
    · by_cases p3 : gy = 0
      · have P3 : (gy != 0) = false := by simp [p3]
        have HN := Aside.mk (HO.out.trans (by rw [if_neg (by simp [p3])]))
        subst p1 p2
        clear HO
        have p3' := Aside.mk p3
        clear p3
        go_wp2_with fail
        go_quiet (fail)
        go_wp2_with fail
        exact CkE.go HN.out (CkFr.mk rfl rfl rfl rfl rfl Hq.out.symm ⟨rfl, rfl, trivial⟩) (S0.out.drewN _)
      · have HN := Aside.mk (HO.out.trans (by rw [if_pos ⟨p1, p2, p3⟩]))
        have P3 : (gy != 0) = true := by simp [p3]
        subst p1 p2
        clear HO
        go_wp2_with fail
        go_quiet (fail)
        go_wp2_with fail
        go_quiet (fail)
        go_wp2_with fail
        exact CkE.stop HN.out rfl rfl rfl ((S0.out.drewN _).drewN _).below
    · have HN := Aside.mk (HO.out.trans (by rw [if_neg (by simp [p2])]))
      have P2 : (gx == gy) = false := by simp [p2]
      subst p1
      clear HO
      go_wp2_with fail
      go_quiet (fail)
      go_wp2_with fail
      exact CkE.go HN.out (CkFr.mk rfl rfl rfl rfl rfl Hq.out.symm ⟨rfl, rfl, trivial⟩) (S0.out.drewN _)
  · have HN := Aside.mk (HO.out.trans (by rw [if_neg (by simp [p1])]))
    have P1 : (cx == cy) = false := by simp [p1]
    clear HO
    go_wp2_with fail
    go_quiet (fail)
    go_wp2_with fail
    exact CkE.go HN.out (CkFr.mk rfl rfl rfl rfl rfl Hq.out.symm ⟨rfl, rfl, trivial⟩) (S0.out.drewN _)

set_option maxRecDepth 100000 in
set_option maxHeartbeats 3200000 in
theorem ck7_l1 (c : Ck) (a : Act) (wi : World) (i : Nat) (hi : i < c.l.length) (hlen : c.l.length ≤ 9223372036854775807) (S : CkS c [(9, num_ i)] a wi) (o : Option Flt) (ho : Aside (o = scan (twiceF c.l i) i)) :
    (pathC [0, 1, 2, 2, 1, 0, 2, 0] (ckTail 7)).wp Tryd.prog (CkE c o [(9, num_ i)]) a wi := by
  obtain ⟨⟨u, rfl, h9, _⟩, S⟩ := S
  have HS := Aside.mk S
  unfold ckF
  rw [h9]
  conv => arg 2; whnf
  clear S h9
  go_wp2_with fail
  refine wp_loop_fuel (CkI c (fun k => [(9, num_ i), (10, num_ k)]) i (twiceF c.l i)) i (CkI.start (CkFr.mk rfl rfl rfl rfl rfl rfl ⟨rfl, rfl, trivial⟩) HS.out) ?_
  clear HS
  rintro m a wr ⟨k, hk, rfl, hF, ⟨u, rfl, h9, h10, _⟩, S⟩
  have S0 := Aside.mk S
  have F0 := Aside.mk hF
  unfold ckF
  rw [h9, h10]
  clear S hF h9 h10
  by_cases hkl : k < i
  · go_upto_block 7 with fail
    refine wp_block (wp_mono (ck7_twice c _ wr i k _ _ (List.getElem?_eq_getElem (by omega)) (List.getElem?_eq_getElem hi) ⟨CkFr.mk rfl rfl rfl rfl rfl rfl ⟨rfl, rfl, trivial⟩, S0.out⟩ _ ⟨rfl⟩) fun e a' w' q => ?_)
    rcases CkE.of (nm' := [(9, num_ i)]) (o' := o) q (fun r hr => by rw [ho.out]; exact scan_some F0.out hr hkl) with ⟨rfl, q2⟩ | ⟨rfl, hf, ⟨u', rfl, h9, h10, _⟩, S⟩
    · exact q2
    · unfold ckF
      rw [h9, h10]
      have Hf := Aside.mk hf
      have S1 := Aside.mk S
      clear hf S q h9 h10
      go_wp2_with fail
      exact CkI.lower hkl F0.out Hf.out (CkFr.mk rfl rfl rfl rfl rfl rfl ⟨rfl, rfl, trivial⟩) S1.out
  · obtain rfl : k = i := by omega
    go_wp2_with fail
    exact CkE.go (by rw [ho.out]; exact F0.out) (CkFr.mk rfl rfl rfl rfl rfl rfl ⟨rfl, trivial⟩) S0.out
end Go.Proofs.YtpcjjmjmigibhaaDoor
