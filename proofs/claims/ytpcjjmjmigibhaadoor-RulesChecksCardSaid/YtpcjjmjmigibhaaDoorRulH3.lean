/- The rules' reference: the check's loop over gangs: joined. -/
import Derived.Test.YtpcjjmjmigibhaaDoorRulH2
import Derived.Deep.CutBlock
namespace Go.Proofs.YtpcjjmjmigibhaaDoor
open Go.RowKit
set_option linter.unusedVariables false
set_option linter.unusedSimpArgs false

theorem wp_seq3 {P : Program} {Q : Exit → Act → World → Prop} {a : Act} {w : World} {x y z : Code} (h : x.wp P (Exit.then (y.wp P (Exit.then (z.wp P Q) Q)) Q) a w) : (Code.seq (Code.seq x y) z).wp P Q a w := by
  refine wp_seq (wp_seq (wp_mono h fun e a' w' q => ?_))
  cases e <;> exact q

set_option maxRecDepth 100000 in
set_option maxHeartbeats 6400000 in
theorem ck7_rest (c : Ck) (a : Act) (w0 wr : World) (i k X Y : Nat) (x y : Place) (hx : c.l[k]? = some x) (hy : c.l[i]? = some y) (S : CkSt c wr) (V : CkV2 c X Y (Place.w x) (Place.w y) [(9, num_ i), (11, num_ k), (12, ptr_ X), (13, ptr_ Y)] w0 a wr) (o : Option Flt)
    (ho : Aside (o = if Win.g (Place.w x) = Win.g (Place.w y) ∧ Win.g (Place.w y) ≠ 0 then some (46, Place.a y) else if Win.p (Place.w x) = Win.p (Place.w y) ∧ overlapS (Place.w x) (Place.w y) = true then some (47, Place.a y) else none)) :
    (pathC [0, 1, 2, 2, 1, 0, 2, 1, 1, 2, 2, 1, 0, 2, 1, 1] (ckTail 7)).wp Tryd.prog (Exit.inBlock 9 (CkE c o [(9, num_ i), (11, num_ k)])) a wr := by
  obtain ⟨⟨u, rfl, h9, h11, h12, h13, _⟩, hX, hY, hB⟩ := V
  obtain ⟨_, lcap, q, hlen⟩ := Elems.len S.places
  have hP := S.places
  rw [q] at hP
  obtain ⟨ad, rfl, e0, e1, e2, e3, e4, e5, ok, okc, _⟩ := Places.at_ hP k x hx
  obtain ⟨ad', q', d0, d1, d2, d3, d4, d5, ok', okc', _⟩ := Places.at_ hP i y hy
  obtain rfl : ad = ad' := by injection q'
  have hi := (List.getElem?_eq_some_iff.1 hy).1
  have Hq := Aside.mk q
  have Hy := Aside.mk hy
  have S0 := Aside.mk S
  obtain ⟨x0, x1, x2, x3⟩ := win_box hX
  obtain ⟨y0, y1, y2, y3⟩ := win_box hY
  have KT := Aside.mk (fun w => overlap_any (Place.w x) (Place.w y) ok ok' w)
  unfold Win.val at KT
  obtain ⟨tb, htb⟩ : ∃ tb, overlapS (Place.w x) (Place.w y) = tb := ⟨_, rfl⟩
  rw [htb] at ho KT
  obtain ⟨_, _, ⟨p0, p1⟩, ⟨g0, g1⟩⟩ := ok
  obtain ⟨_, _, ⟨p2, p3⟩, ⟨g2, g3⟩⟩ := ok'
  unfold ckF
  rw [h9, h11, h12, h13, q]
  clear h9 h11 h12 h13 q' q S hx hy e0 e1 e2 e3 e4 e5 d0 d2 d3 d4 d5 hX hY hB htb
  generalize Win.s (Place.w x) = sx at *
  generalize Win.l (Place.w x) = lx at *
  generalize Win.s (Place.w y) = sy at *
  generalize Win.l (Place.w y) = ly at *
  generalize Win.g (Place.w x) = gx at *
  generalize Win.g (Place.w y) = gy at *
  generalize Win.p (Place.w x) = px at *
  generalize Win.p (Place.w y) = py at *
  have HD : Aside (∀ W : World, Below wr.heap.size wr W → W.cell? ⟨(ad.add (i * 6)).block, (ad.add (i * 6)).off + 1, none⟩ = some (.int .i64 (Place.a y))) := ⟨fun W b => by
    obtain ⟨ad2, q2, _, z, _⟩ := Places.at_ (hP.below b) i y Hy.out
    obtain rfl : ad = ad2 := by injection q2
    exact z⟩
  clear hP
  conv => arg 2; whnf
  by_cases r1 : gx = gy ∧ gy ≠ 0
  · have HN := Aside.mk (ho.out.trans (by rw [if_pos r1]))
    obtain ⟨r1, r2⟩ := r1
    subst r1
    clear ho
    go_wp2_with fail
    go_quiet (fail)
    go_wp2_with fail
    exact CkE.stop HN.out rfl rfl rfl (S0.out.drewN _).below
  · have HN := Aside.mk (ho.out.trans (by rw [if_neg r1]))
    clear ho
    have hz : (gx ≠ gy) ∨ (gx = gy ∧ gy = 0) := by
      by_cases e : gx = gy
      · exact .inr ⟨e, by by_cases e2 : gy = 0; exact e2; exact absurd ⟨e, e2⟩ r1⟩
      · exact .inl e
    clear r1
    rcases hz with hz | ⟨rfl, rfl⟩
    all_goals
      by_cases r3 : px = py
      · cases tb
        · have HN := Aside.mk (HN.out.trans (by rw [if_neg (by simp)]))
          subst r3
          go_wp2_with fail
          refine (KT.out _).mono ?_
          rintro e w' ⟨rfl, b1⟩
          have S1 := Aside.mk (S0.out.old b1)
          clear b1 x0 x1 x2 x3 y0 y1 y2 y3 d1
          go_wp2_with fail
          exact CkE.go HN.out (CkFr.mk rfl rfl rfl rfl rfl Hq.out.symm ⟨rfl, rfl, trivial⟩) S1.out
        · have HN := Aside.mk (HN.out.trans (by rw [if_pos ⟨r3, rfl⟩]))
          subst r3
          go_wp2_with fail
          refine (KT.out _).mono ?_
          rintro e w' ⟨rfl, b1⟩
          have S1 := Aside.mk (S0.out.old b1)
          have d9 := HD.out w' b1
          clear b1 x0 x1 x2 x3 y0 y1 y2 y3 d1
          go_wp2_with fail
          go_quiet (fail)
          go_wp2_with fail
          exact CkE.stop HN.out rfl rfl rfl (S1.out.drewN _).below
      · have HN := Aside.mk (HN.out.trans (by rw [if_neg (by simp [r3])]))
        go_wp2_with fail
        exact CkE.go HN.out (CkFr.mk rfl rfl rfl rfl rfl Hq.out.symm ⟨rfl, rfl, trivial⟩) S0.out

set_option maxRecDepth 100000 in
set_option maxHeartbeats 6400000 in
theorem ck7_cross (c : Ck) (a : Act) (wr : World) (i k : Nat) (x y : Place) (hik : i < k) (hx : c.l[k]? = some x) (hy : c.l[i]? = some y) (S : CkS c [(9, num_ i), (11, num_ k)] a wr) (o : Option Flt) (ho : Aside (o = crossF c.l i k)) :
    (pathC [0, 1, 2, 2, 1, 0, 2, 1, 1, 2, 2, 1, 0] (ckTail 7)).wp Tryd.prog (CkE c o [(9, num_ i), (11, num_ k)]) a wr := by
  have HO : o = if decide (Place.c x = Place.c y) || togetherS (Place.w x) (Place.w y) then none else if Win.g (Place.w x) = Win.g (Place.w y) ∧ Win.g (Place.w y) ≠ 0 then some (46, Place.a y) else if Win.p (Place.w x) = Win.p (Place.w y) ∧ overlapS (Place.w x) (Place.w y) = true then some (47, Place.a y) else none := by
    rw [ho.out, crossF, plAt_some hx, plAt_some hy]
    have e : (k ≤ i ∨ Place.c x = Place.c y ∨ togetherS (Place.w x) (Place.w y) = true) ↔ (decide (Place.c x = Place.c y) || togetherS (Place.w x) (Place.w y)) = true := by
      simp; omega
    by_cases h : (decide (Place.c x = Place.c y) || togetherS (Place.w x) (Place.w y)) = true
    · rw [if_pos h, if_pos (e.2 h)]
    · rw [if_neg h, if_neg (fun q => h (e.1 q))]
  refine wp_block (id := 9) (c := pathC [0, 1, 2, 2, 1, 0, 2, 1, 1, 2, 2, 1, 0, 2] (ckTail 7)) ?_
  refine wp_seq (x := pathC [0, 1, 2, 2, 1, 0, 2, 1, 1, 2, 2, 1, 0, 2, 0] (ckTail 7)) (y := pathC [0, 1, 2, 2, 1, 0, 2, 1, 1, 2, 2, 1, 0, 2, 1] (ckTail 7)) (wp_then _ (ck7_vw c a wr i k x y hx hy S _) ?_)
  rintro a1 w1 ⟨X, Y, fr, hX, hY, b1⟩
  have S1 : CkSt c w1 := S.2.old b1
  refine wp_seq3 (x := pathC [0, 1, 2, 2, 1, 0, 2, 1, 1, 2, 2, 1, 0, 2, 1, 0, 0] (ckTail 7)) (y := pathC [0, 1, 2, 2, 1, 0, 2, 1, 1, 2, 2, 1, 0, 2, 1, 0, 1] (ckTail 7)) (z := pathC [0, 1, 2, 2, 1, 0, 2, 1, 1, 2, 2, 1, 0, 2, 1, 1] (ckTail 7)) (wp_then _ (ck7_36 c a1 w1 w1 i k X Y x y hx hy S1 ⟨fr, hX, hY, Below.refl _ _⟩ _ ⟨rfl⟩ _) ?_)
  obtain ⟨b, hb⟩ : ∃ b, (decide (Place.c x = Place.c y) || togetherS (Place.w x) (Place.w y)) = b := ⟨_, rfl⟩
  rw [hb] at HO ⊢
  rintro a2 w2 ⟨⟨u, rfl, h9, h11, h12, h13, hq, _⟩, hX2, hY2, b2⟩
  have S2 : CkSt c w2 := S1.old b2
  cases b
  · rw [if_neg (by simp)] at HO
    refine wp_cond_false (c := .tmp 238) (x := .exit 9) (y := .skip) (by show u 238 = _; exact hq) (wp_skip ?_)
    exact ck7_rest c _ w1 w2 i k X Y x y hx hy S2 ⟨⟨u, rfl, h9, h11, h12, h13, trivial⟩, hX2, hY2, b2⟩ o ⟨HO⟩
  · rw [if_pos rfl] at HO
    refine wp_cond_true (c := .tmp 238) (x := .exit 9) (y := .skip) (by show u 238 = _; exact hq) (wp_exit ?_)
    exact CkE.go HO ⟨u, rfl, h9, h11, trivial⟩ S2
end Go.Proofs.YtpcjjmjmigibhaaDoor
