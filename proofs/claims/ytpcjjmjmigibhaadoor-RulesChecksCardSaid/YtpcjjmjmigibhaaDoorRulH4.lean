/- The rules' reference: the check's loop over gangs: the whole. -/
import Derived.Test.YtpcjjmjmigibhaaDoorRulH3
import Derived.Deep.CutBlock
namespace Go.Proofs.YtpcjjmjmigibhaaDoor
open Go.RowKit
set_option linter.unusedVariables false
set_option linter.unusedSimpArgs false

theorem scan_shift {f : Nat → Option Flt} {a : Nat} (h : ∀ k, k < a → f k = none) (m : Nat) : scan f (a + m) = scan (fun j => f (a + j)) m := by
  induction m with
  | zero => exact scan_none_of h
  | succ m ih =>
    show scan f ((a + m) + 1) = _
    simp only [scan, ih]

set_option maxRecDepth 100000 in
set_option maxHeartbeats 3200000 in
theorem ck7_l2 (c : Ck) (a : Act) (wi : World) (i : Nat) (hi : i < c.l.length) (S : CkS c [(9, num_ i)] a wi) (o : Option Flt) (ho : Aside (o = scan (crossF c.l i) c.l.length)) :
    (pathC [0, 1, 2, 2, 1, 0, 2, 1] (ckTail 7)).wp Tryd.prog (CkE c o [(9, num_ i)]) a wi := by
  obtain ⟨⟨u, rfl, h9, _⟩, S⟩ := S
  obtain ⟨la, lcap, q, hlen⟩ := Elems.len S.places
  have Hq := Aside.mk q
  have HS := Aside.mk S
  obtain ⟨n, hn⟩ : ∃ n, n = c.l.length - (i + 1) := ⟨_, rfl⟩
  have hn' : c.l.length = i + 1 + n := by omega
  have ho : Aside (o = scan (fun j => crossF c.l i (i + 1 + j)) n) := ⟨by
    rw [ho.out, hn']
    exact scan_shift (fun k hk => by rw [crossF, if_pos (.inl (by omega))]) n⟩
  have Hn := Aside.mk hn'
  unfold ckF
  rw [h9, q]
  conv => arg 2; whnf
  clear S h9 q hn hn'
  go_wp2_with fail
  refine wp_loop_fuel (CkI c (fun j => [(9, num_ i), (11, .int .i64 ((i : Int) + 1 + (j : Int)))]) n (fun j => crossF c.l i (i + 1 + j))) n ?_ ?_
  · exact CkI.start (CkFr.mk rfl rfl rfl rfl rfl Hq.out.symm ⟨rfl, by show Value.int .i64 _ = Value.int .i64 _; simp, trivial⟩) HS.out
  clear HS
  rintro m a wr ⟨k, hk, rfl, hF, ⟨u, rfl, h9, h11, _⟩, S⟩
  have S0 := Aside.mk S
  have F0 := Aside.mk hF
  unfold ckF
  rw [h9, h11, Hq.out]
  clear S hF h9 h11
  by_cases hkl : k < n
  · have hkl2 : (i : Int) + 1 + (k : Int) < (c.l.length : Int) := by have := Hn.out; omega
    go_upto_block 9 with fail
    refine wp_mono (ck7_cross c _ wr i (i + 1 + k) _ _ (by omega) (List.getElem?_eq_getElem (by have := Hn.out; omega)) (List.getElem?_eq_getElem hi) ⟨CkFr.mk rfl rfl rfl rfl rfl (by exact Hq.out.symm) ⟨rfl, by show Value.int .i64 _ = Value.int .i64 _; simp [Int.natCast_add], trivial⟩, S0.out⟩ _ ⟨rfl⟩) fun e a' w' q => ?_
    rcases CkE.of (nm' := [(9, num_ i)]) (o' := o) q (fun r hr => by rw [ho.out]; exact scan_some F0.out hr hkl) with ⟨rfl, q2⟩ | ⟨rfl, hf, ⟨u', rfl, h9, h11, _⟩, S⟩
    · exact q2
    · have h11 : u' 11 = .int .i64 ((i : Int) + 1 + (k : Int)) := h11.trans (by show Value.int .i64 _ = Value.int .i64 _; simp [Int.natCast_add])
      unfold ckF
      rw [h9, h11]
      have Hf := Aside.mk hf
      have S1 := Aside.mk S
      clear hf S q h9 h11
      go_wp2_with fail
      exact CkI.lower hkl F0.out Hf.out (CkFr.mk rfl rfl rfl rfl rfl rfl ⟨rfl, by show Value.int .i64 _ = Value.int .i64 _; simp [Int.natCast_add, Int.add_assoc], trivial⟩) S1.out
  · obtain rfl : k = n := by omega
    have hkl2 : ¬ ((i : Int) + 1 + (k : Int) < (c.l.length : Int)) := by have := Hn.out; omega
    go_wp2_with fail
    exact CkE.go (by rw [ho.out]; exact F0.out) (CkFr.mk rfl rfl rfl rfl rfl Hq.out.symm ⟨rfl, trivial⟩) S0.out

set_option maxRecDepth 100000 in
set_option maxHeartbeats 3200000 in
theorem ck_7 (c : Ck) (a : Act) (wi : World) (S : CkS c [] a wi) (o : Option Flt) (ho : Aside (o = scan (gangF c.l) c.l.length)) : (pathC [0] (ckTail 7)).wp Tryd.prog (CkE c o []) a wi := by
  obtain ⟨⟨u, rfl, _⟩, S⟩ := S
  obtain ⟨la, lcap, q, hlen⟩ := Elems.len S.places
  have Hq := Aside.mk q
  unfold ckF
  rw [q]
  conv => arg 2; whnf
  have HS := Aside.mk S
  clear S q
  go_wp2_with fail
  refine wp_loop_fuel (CkI c (fun k => [(9, num_ k)]) c.l.length (gangF c.l)) c.l.length ?_ ?_
  · exact CkI.start (CkFr.mk rfl rfl rfl rfl rfl Hq.out.symm ⟨rfl, trivial⟩) HS.out
  clear HS
  rintro m a wr ⟨k, hk, rfl, hF, ⟨u, rfl, h9, _⟩, S⟩
  unfold ckF
  rw [h9, Hq.out]
  have S0 := Aside.mk S
  have F0 := Aside.mk hF
  clear S hF h9
  by_cases hkl : k < c.l.length
  · have hkl' : (k : Int) < (c.l.length : Int) := by omega
    go_upto_block 5 with fail
    have body : ∀ a wr, CkS c [(9, num_ k)] a wr → (pathC [0, 1, 2, 2, 1, 0, 2] (ckTail 7)).wp Tryd.prog (CkE c (gangF c.l k) [(9, num_ k)]) a wr := fun a wr S =>
      ckE_seq (x := pathC [0, 1, 2, 2, 1, 0, 2, 0] (ckTail 7)) (y := pathC [0, 1, 2, 2, 1, 0, 2, 1] (ckTail 7)) (ck7_l1 c a wr k hkl hlen S _ ⟨rfl⟩) (fun _ a w S => ck7_l2 c a w k hkl S _ ⟨rfl⟩)
    refine wp_block (wp_mono (body _ wr ⟨CkFr.mk rfl rfl rfl rfl rfl (by exact Hq.out.symm) ⟨rfl, trivial⟩, S0.out⟩) fun e a' w' q => ?_)
    rcases CkE.of (nm' := []) (o' := o) q (fun r hr => by rw [ho.out]; exact scan_some F0.out hr hkl) with ⟨rfl, q2⟩ | ⟨rfl, hf, ⟨u', rfl, h9, _⟩, S⟩
    · exact q2
    · unfold ckF
      rw [h9]
      have Hf := Aside.mk hf
      have S1 := Aside.mk S
      clear hf S q h9 body
      go_wp2_with fail
      exact CkI.lower hkl F0.out Hf.out (CkFr.mk rfl rfl rfl rfl rfl rfl ⟨rfl, trivial⟩) S1.out
  · obtain rfl : k = c.l.length := by omega
    go_wp2_with fail
    exact CkE.go (by rw [ho.out]; exact F0.out) (CkFr.mk rfl rfl rfl rfl rfl Hq.out.symm trivial) S0.out
end Go.Proofs.YtpcjjmjmigibhaaDoor
