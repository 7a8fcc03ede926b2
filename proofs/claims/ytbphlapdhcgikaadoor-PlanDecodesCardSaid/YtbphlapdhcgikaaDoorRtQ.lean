/- Plans and their bytes: there and back, cut off, with something behind. Plain: no function of the program is named here. -/
import Derived.Test.YtbphlapdhcgikaaDoorRtP
namespace Go.Proofs.YtbphlapdhcgikaaDoor
set_option linter.unusedVariables false
set_option linter.unusedSimpArgs false

theorem flat_by (L : List Int) : L.flatMap byB = L := by
  induction L with
  | nil => rfl
  | cons a L ih => rw [List.flatMap_cons, ih]; rfl
structure SemD (x : SemR) : Prop where
  i : D1 (SemR.i x)
  m : D1 (SemR.m x)
structure PairD (x : PairR) : Prop where
  a : D1 (PairR.a x)
  b : D1 (PairR.b x)
structure ChanD (x : ChanR) : Prop where
  k : D1 (ChanR.k x)
  f : D1 (ChanR.f x)
  t : D1 (ChanR.t x)
  z : D1 (ChanR.z x)
  d : D1 (ChanR.d x)
  y : D2 (ChanR.y x)
structure PartD (x : PartR) : Prop where
  sems : (PartR.sems x).length ≤ 255 ∧ ∀ y ∈ PartR.sems x, SemD y
  ev : D1 (PartR.events x)
  procs : (PartR.procs x).length ≤ 255 ∧ ∀ y ∈ PartR.procs x, D1 y
  len : (PartR.acts x).length = 3
  a0 : D1 ((PartR.acts x).getD 0 0)
  a1 : D1 ((PartR.acts x).getD 1 0)
  a2 : D1 ((PartR.acts x).getD 2 0)
structure CoreD (L : List Win) : Prop where
  len : L.length ≤ 65535
  all : ∀ x ∈ L, Win.Ok x
structure PlanD (P : Plan) : Prop where
  fr : D2 (Plan.frame P)
  c : (Plan.cores P).length ≤ 255 ∧ ∀ L ∈ Plan.cores P, CoreD L
  a : (Plan.parts P).length ≤ 255 ∧ ∀ x ∈ Plan.parts P, PartD x
  h : (Plan.chans P).length ≤ 255 ∧ ∀ x ∈ Plan.chans P, ChanD x
  q : (Plan.pairs P).length ≤ 255 ∧ ∀ x ∈ Plan.pairs P, PairD x
theorem rdb_win : Rdb winS winB Win.Ok :=
  (rdb_two.and fun _ => rdb_two.and fun _ => rdb_one.and fun _ => rdb_one).map (fun p : Int × Int × Int × Int => ((p.1, p.2.1, p.2.2.1, p.2.2.2, ()) : Win)) (fun x => (Win.s x, Win.l x, Win.p x, Win.g x))
    (fun p h => ⟨rfl, ⟨h.1, h.2.1, h.2.2.1, h.2.2.2⟩⟩) (fun x h => ⟨⟨h.s, h.l, h.p, h.g⟩, rfl, rfl⟩)
theorem rdb_sem : Rdb semS semB SemD :=
  (rdb_one.and fun _ => rdb_one).map (fun p : Int × Int => ((p.1, p.2, ()) : SemR)) (fun x => (SemR.i x, SemR.m x)) (fun p h => ⟨rfl, ⟨h.1, h.2⟩⟩) (fun x h => ⟨⟨h.i, h.m⟩, rfl, rfl⟩)
theorem rdb_pair : Rdb pairS pairB PairD :=
  (rdb_one.and fun _ => rdb_one).map (fun p : Int × Int => ((p.1, p.2, ()) : PairR)) (fun x => (PairR.a x, PairR.b x)) (fun p h => ⟨rfl, ⟨h.1, h.2⟩⟩) (fun x h => ⟨⟨h.a, h.b⟩, rfl, rfl⟩)
theorem rdb_chan : Rdb chanS chanB ChanD :=
  (rdb_one.and fun _ => rdb_one.and fun _ => rdb_one.and fun _ => rdb_one.and fun _ => rdb_one.and fun _ => rdb_two).map (fun p : Int × Int × Int × Int × Int × Int => ((p.1, p.2.1, p.2.2.1, p.2.2.2.1, p.2.2.2.2.1, p.2.2.2.2.2, ()) : ChanR)) (fun x => (ChanR.k x, ChanR.f x, ChanR.t x, ChanR.z x, ChanR.d x, ChanR.y x))
    (fun p h => ⟨rfl, ⟨h.1, h.2.1, h.2.2.1, h.2.2.2.1, h.2.2.2.2.1, h.2.2.2.2.2⟩⟩) (fun x h => ⟨⟨h.k, h.f, h.t, h.z, h.d, h.y⟩, rfl, rfl⟩)
theorem rdb_core : Rdb coreS coreB CoreD := by
  have h := rdb_win.list rdb_two (m := 65535) (fun n => Iff.rfl)
  have k := h.map (fun L : List Win => L) (fun L => L) (C := coreB) (E := CoreD) (fun L h => ⟨rfl, ⟨h.1, h.2⟩⟩) (fun L h => ⟨⟨h.len, h.all⟩, rfl, rfl⟩)
  exact k
theorem rdb_sems : Rdb semsS (fun L => byB (L.length : Int) ++ L.flatMap semB) (fun L => L.length ≤ 255 ∧ ∀ x ∈ L, SemD x) := rdb_sem.list rdb_one (fun n => Iff.rfl)
theorem rdb_procs : Rdb procsS (fun L => byB (L.length : Int) ++ L.flatMap byB) (fun L => L.length ≤ 255 ∧ ∀ x ∈ L, D1 x) := rdb_one.list rdb_one (fun n => Iff.rfl)
def actsB (A : List Int) : List Int := [A.getD 0 0, A.getD 1 0, A.getD 2 0]
theorem rdb_acts : Rdb actsS actsB (fun A => A.length = 3 ∧ D1 (A.getD 0 0) ∧ D1 (A.getD 1 0) ∧ D1 (A.getD 2 0)) :=
  (rdb_one.and fun _ => rdb_one.and fun _ => rdb_one).map (fun p : Int × Int × Int => [p.1, p.2.1, p.2.2]) (fun A => (A.getD 0 0, A.getD 1 0, A.getD 2 0))
    (fun p h => ⟨rfl, rfl, h.1, h.2.1, h.2.2⟩) (fun A h => ⟨h.2, by
      obtain ⟨h, _⟩ := h
      match A, h with
      | [a, b, c], _ => rfl, rfl⟩)
theorem rdb_part : Rdb partS partB PartD :=
  (rdb_sems.and fun _ => rdb_one.and fun _ => rdb_procs.and fun _ => rdb_acts).map (fun p : List SemR × Int × List Int × List Int => ((p.1, p.2.1, p.2.2.1, p.2.2.2, ()) : PartR)) (fun x => (PartR.sems x, PartR.events x, PartR.procs x, PartR.acts x))
    (fun p h => ⟨by
      obtain ⟨a, b, c, d⟩ := p
      simp [partB, PartR.sems, PartR.events, PartR.procs, PartR.acts, byB, actsB]
      exact (flat_by c).symm, ⟨h.1, h.2.1, h.2.2.1, h.2.2.2.1, h.2.2.2.2.1, h.2.2.2.2.2.1, h.2.2.2.2.2.2⟩⟩) (fun x h => ⟨⟨h.sems, h.ev, h.procs, h.len, h.a0, h.a1, h.a2⟩, rfl, by
      obtain ⟨a, b, c, d, _⟩ := x
      simp [partB, PartR.sems, PartR.events, PartR.procs, PartR.acts, byB, actsB]
      exact (flat_by c).symm⟩)
def planS (S : List Int) (s : St) : Plan × St :=
  (((rdN S 2 s).1, (manyS (coreS S) (rdN S 1 (rdN S 2 s).2).1.toNat (rdN S 1 (rdN S 1 (rdN S 1 (rdN S 1 (rdN S 2 s).2).2).2).2).2 []).1,
    (manyS (partS S) (rdN S 1 (rdN S 1 (rdN S 2 s).2).2).1.toNat (manyS (coreS S) (rdN S 1 (rdN S 2 s).2).1.toNat (rdN S 1 (rdN S 1 (rdN S 1 (rdN S 1 (rdN S 2 s).2).2).2).2).2 []).2 []).1,
    (manyS (chanS S) (rdN S 1 (rdN S 1 (rdN S 1 (rdN S 2 s).2).2).2).1.toNat (manyS (partS S) (rdN S 1 (rdN S 1 (rdN S 2 s).2).2).1.toNat (manyS (coreS S) (rdN S 1 (rdN S 2 s).2).1.toNat (rdN S 1 (rdN S 1 (rdN S 1 (rdN S 1 (rdN S 2 s).2).2).2).2).2 []).2 []).2 []).1,
    (manyS (pairS S) (rdN S 1 (rdN S 1 (rdN S 1 (rdN S 1 (rdN S 2 s).2).2).2).2).1.toNat (manyS (chanS S) (rdN S 1 (rdN S 1 (rdN S 1 (rdN S 2 s).2).2).2).1.toNat (manyS (partS S) (rdN S 1 (rdN S 1 (rdN S 2 s).2).2).1.toNat (manyS (coreS S) (rdN S 1 (rdN S 2 s).2).1.toNat (rdN S 1 (rdN S 1 (rdN S 1 (rdN S 1 (rdN S 2 s).2).2).2).2).2 []).2 []).2 []).2 []).1, ()),
    (manyS (pairS S) (rdN S 1 (rdN S 1 (rdN S 1 (rdN S 1 (rdN S 2 s).2).2).2).2).1.toNat (manyS (chanS S) (rdN S 1 (rdN S 1 (rdN S 1 (rdN S 2 s).2).2).2).1.toNat (manyS (partS S) (rdN S 1 (rdN S 1 (rdN S 2 s).2).2).1.toNat (manyS (coreS S) (rdN S 1 (rdN S 2 s).2).1.toNat (rdN S 1 (rdN S 1 (rdN S 1 (rdN S 1 (rdN S 2 s).2).2).2).2).2 []).2 []).2 []).2 []).2)
theorem dec_plan (S : List Int) : planS S (st0 S) = (decV S, (pairsS S).2) := rfl
def bodyB (P : Plan) : List Int := twoB (Plan.frame P) ++ [((Plan.cores P).length : Int), ((Plan.parts P).length : Int), ((Plan.chans P).length : Int), ((Plan.pairs P).length : Int)] ++ (Plan.cores P).flatMap coreB ++ (Plan.parts P).flatMap partB ++ (Plan.chans P).flatMap chanB ++ (Plan.pairs P).flatMap pairB
abbrev Hdr : Type := Int × Int × Int × Int × Int
theorem rdb_hdr : Rdb (fun S s => (((rdN S 2 s).1, (rdN S 1 (rdN S 2 s).2).1, (rdN S 1 (rdN S 1 (rdN S 2 s).2).2).1, (rdN S 1 (rdN S 1 (rdN S 1 (rdN S 2 s).2).2).2).1, (rdN S 1 (rdN S 1 (rdN S 1 (rdN S 1 (rdN S 2 s).2).2).2).2).1), (rdN S 1 (rdN S 1 (rdN S 1 (rdN S 1 (rdN S 2 s).2).2).2).2).2))
    (fun p : Hdr => twoB p.1 ++ (byB p.2.1 ++ (byB p.2.2.1 ++ (byB p.2.2.2.1 ++ byB p.2.2.2.2)))) (fun p => D2 p.1 ∧ D1 p.2.1 ∧ D1 p.2.2.1 ∧ D1 p.2.2.2.1 ∧ D1 p.2.2.2.2) :=
  rdb_two.and fun _ => rdb_one.and fun _ => rdb_one.and fun _ => rdb_one.and fun _ => rdb_one
theorem nat_len {α : Type} {n : Int} {L : List α} (h : D1 n) (hl : L.length = n.toNat) : (L.length : Int) = n ∧ L.length ≤ 255 := by
  obtain ⟨h1, h2⟩ := h
  omega
theorem len_nat {α : Type} {L : List α} (h : L.length ≤ 255) : D1 (L.length : Int) ∧ L.length = ((L.length : Int)).toNat := by
  refine ⟨⟨?_, ?_⟩, ?_⟩ <;> omega
theorem rdb_plan : Rdb planS bodyB PlanD :=
  (rdb_hdr.and (fun p => (rdb_core.many p.2.1.toNat).and fun _ => (rdb_part.many p.2.2.1.toNat).and fun _ => (rdb_chan.many p.2.2.2.1.toNat).and fun _ => rdb_pair.many p.2.2.2.2.toNat)).map
    (fun x : Hdr × List (List Win) × List PartR × List ChanR × List PairR => ((x.1.1, x.2.1, x.2.2.1, x.2.2.2.1, x.2.2.2.2, ()) : Plan))
    (fun P => ((Plan.frame P, ((Plan.cores P).length : Int), ((Plan.parts P).length : Int), ((Plan.chans P).length : Int), ((Plan.pairs P).length : Int)), Plan.cores P, Plan.parts P, Plan.chans P, Plan.pairs P))
    (fun x h => by
      obtain ⟨⟨f, n0, n1, n2, n3⟩, C, A, H, Q⟩ := x
      obtain ⟨⟨h0, h1, h2, h3, h4⟩, ⟨k0, l0⟩, ⟨k1, l1⟩, ⟨k2, l2⟩, k3, l3⟩ := h
      obtain ⟨e0, u0⟩ := nat_len h1 k0
      obtain ⟨e1, u1⟩ := nat_len h2 k1
      obtain ⟨e2, u2⟩ := nat_len h3 k2
      obtain ⟨e3, u3⟩ := nat_len h4 k3
      refine ⟨?_, ⟨h0, ⟨u0, l0⟩, ⟨u1, l1⟩, ⟨u2, l2⟩, ⟨u3, l3⟩⟩⟩
      simp only at e0 e1 e2 e3
      simp [bodyB, Plan.frame, Plan.cores, Plan.parts, Plan.chans, Plan.pairs, byB, e0, e1, e2, e3])
    (fun P h => by
      obtain ⟨m0, z0⟩ := len_nat h.c.1
      obtain ⟨m1, z1⟩ := len_nat h.a.1
      obtain ⟨m2, z2⟩ := len_nat h.h.1
      obtain ⟨m3, z3⟩ := len_nat h.q.1
      refine ⟨⟨⟨h.fr, m0, m1, m2, m3⟩, ⟨z0, h.c.2⟩, ⟨z1, h.a.2⟩, ⟨z2, h.h.2⟩, z3, h.q.2⟩, rfl, ?_⟩
      simp [bodyB, byB])
theorem enc_body (P : Plan) : encL P = [80, 85, 82, 49] ++ bodyB P := by simp [encL, hdrB, bodyB]
theorem st0_short {S : List Int} (h : S.length < 4) : st0 S = (0, true) := by
  have := take_no (S := S) (a := 0) (n := 4) (by omega) (by omega)
  exact (congrArg Prod.snd this)
theorem st0_long {S : List Int} (h : 4 ≤ S.length) : st0 S = (4, false) ∧ headS S = S.take 4 := by
  have := take_yes (S := S) (a := 0) (n := 4) (by omega) (by omega)
  refine ⟨(congrArg Prod.snd this).trans (by simp), ?_⟩
  have e : ¬(false = true ∨ (4 : Int) < 1 ∨ (S.length : Int) - ((0 : Nat) : Int) < 4) := by simp; omega
  unfold headS Bl.takeL
  rw [if_neg e]
  simp
/-- What was encoded is decoded again. -/
theorem back_plan {P : Plan} (h : PlanD P) : decF (encL P) = none ∧ decV (encL P) = P := by
  have hl : 4 ≤ (encL P).length := by rw [enc_body]; simp
  obtain ⟨e1, e2⟩ := st0_long hl
  have e3 : headS (encL P) = [80, 85, 82, 49] := by rw [e2, enc_body]; rfl
  have hs : Sd (encL P) 4 (bodyB P) := ⟨[], by rw [enc_body]; simp⟩
  have hb := rdb_plan.back (encL P) 4 P h hs
  rw [← e1, dec_plan] at hb
  have hv : decV (encL P) = P := congrArg Prod.fst hb
  have hq : (pairsS (encL P)).2 = (4 + (bodyB P).length, false) := congrArg Prod.snd hb
  refine ⟨?_, hv⟩
  unfold decF
  rw [e1, e3, if_neg (by simp), if_neg (by simp), hq]
  unfold Bl.endQ
  rw [if_neg (by simp), if_neg (by rw [enc_body]; simp; omega)]
  rfl
/-- What is decoded has just these bytes. -/
theorem one_plan {S : List Int} (hS : ∀ x ∈ S, 0 ≤ x ∧ x ≤ 255) (h : decF S = none) : encL (decV S) = S ∧ PlanD (decV S) := by
  unfold decF at h
  split at h
  · cases h
  · rename_i h0
    have hl : 4 ≤ S.length := by
      rcases Nat.lt_or_ge S.length 4 with q | q
      · rw [st0_short q] at h0; simp at h0
      · exact q
    obtain ⟨e1, e2⟩ := st0_long hl
    split at h
    · cases h
    · rename_i hm
      have hm' : headS S = [80, 85, 82, 49] := Decidable.not_not.1 hm
      rw [e2] at hm'
      rw [Option.map_eq_none_iff] at h
      unfold Bl.endQ at h
      split at h
      · cases h
      · rename_i hb
        split at h
        · cases h
        · rename_i ha
          have hb' : (planS S (4, false)).2.2 = false := by
            rw [← e1, dec_plan]
            simpa using hb
          have ha' : S.length ≤ (planS S (4, false)).2.1 := by
            rw [← e1, dec_plan]
            exact Nat.le_of_not_lt ha
          obtain ⟨k1, k2, k3⟩ := rdb_plan.enc S (4, false) hS rfl hl hb'
          obtain ⟨n1, n2, n3⟩ := rdb_plan.near S (4, false) rfl hl
          have hv : (planS S (4, false)).1 = decV S := by rw [← e1, dec_plan]
          rw [hv] at k1 k2 k3
          refine ⟨?_, k3⟩
          obtain ⟨r, hr⟩ := k1
          have hr' : S.drop 4 = bodyB (decV S) ++ r := hr
          have hlen := congrArg List.length hr'
          simp only [List.length_drop, List.length_append] at hlen
          have k2' : (planS S (4, false)).2.1 = 4 + (bodyB (decV S)).length := k2
          have : r = [] := List.length_eq_zero_iff.1 (by omega)
          rw [this, List.append_nil] at hr'
          rw [enc_body, ← hm', ← hr', List.take_append_drop]
/-- Bytes that are cut off. -/
theorem cut_plan {P : Plan} (h : PlanD P) (n : Nat) (hn : n < (encL P).length) : ∃ p : Nat, decF ((encL P).take n) = some (20, (p : Int)) ∧ p ≤ n ∧ n < p + 4 := by
  have hl : 4 ≤ (encL P).length := by rw [enc_body]; simp
  have hlen : ((encL P).take n).length = n := by simp; omega
  rcases Nat.lt_or_ge n 4 with q | q
  · refine ⟨0, ?_, by omega, by omega⟩
    unfold decF
    rw [st0_short (by omega), if_pos rfl]
  · obtain ⟨e1, e2⟩ := st0_long (S := (encL P).take n) (by omega)
    have e3 : headS ((encL P).take n) = [80, 85, 82, 49] := by
      rw [e2, List.take_take, Nat.min_eq_left q, enc_body]; rfl
    obtain ⟨n1, n2, n3⟩ := rdb_plan.near ((encL P).take n) (4, false) rfl (by rw [hlen]; exact q)
    rw [hlen] at n2 n3
    have hb : (planS ((encL P).take n) (4, false)).2.2 = true := by
      cases hb : (planS ((encL P).take n) (4, false)).2.2 with
      | true => rfl
      | false =>
        have hx := rdb_plan.ext _ ((encL P).drop n) (4, false) rfl (by rw [hlen]; exact q) hb
        rw [List.take_append_drop] at hx
        have hs : Sd (encL P) 4 (bodyB P) := ⟨[], by rw [enc_body]; simp⟩
        have hk := rdb_plan.back (encL P) 4 P h hs
        rw [hk] at hx
        rw [← hx] at n2
        have n2 : 4 + (bodyB P).length ≤ n := n2
        have e : (encL P).length = 4 + (bodyB P).length := by rw [enc_body]; simp; omega
        omega
    refine ⟨(planS ((encL P).take n) (4, false)).2.1, ?_, n2, n3 hb⟩
    unfold decF
    rw [e1, e3, if_neg (by simp), if_neg (by simp)]
    rw [← e1, dec_plan] at hb ⊢
    have hb : (pairsS ((encL P).take n)).2.2 = true := hb
    unfold Bl.endQ
    rw [if_pos hb]
    rfl
/-- Bytes with something behind them. -/
theorem more_plan {P : Plan} (h : PlanD P) {T : List Int} (hT : T ≠ []) : decF (encL P ++ T) = some (21, ((encL P).length : Int)) := by
  have hl : 4 ≤ (encL P).length := by rw [enc_body]; simp
  obtain ⟨e1, e2⟩ := st0_long (S := encL P ++ T) (by simp; omega)
  have e3 : headS (encL P ++ T) = [80, 85, 82, 49] := by
    rw [e2, List.take_append_of_le_length hl, enc_body]; rfl
  have hs : Sd (encL P ++ T) 4 (bodyB P) := ⟨T, by rw [enc_body]; simp⟩
  have hk := rdb_plan.back (encL P ++ T) 4 P h hs
  have hq : (pairsS (encL P ++ T)).2 = (4 + (bodyB P).length, false) := by
    rw [← e1, dec_plan] at hk
    exact congrArg Prod.snd hk
  have e : (encL P).length = 4 + (bodyB P).length := by rw [enc_body]; simp; omega
  have hT' : 0 < T.length := List.length_pos_iff.2 hT
  unfold decF
  rw [e1, e3, if_neg (by simp), if_neg (by simp), hq]
  unfold Bl.endQ
  rw [if_neg (by simp), if_pos (by rw [List.length_append, e]; omega), e]
  rfl
/-- A plan that is not too long has bytes. -/
theorem why_short {P : Plan} (h : Short P) : whyF P = none := by
  have c : ∀ {n m : Nat} {a : Int}, n ≤ m → cntF n m a = none := fun {n m a} h => by
    unfold cntF
    rw [if_neg (by omega)]
  unfold whyF
  rw [c h.c, c h.a, c h.h, c h.q]
  have k1 : coresF (Plan.cores P) = none := scan_none_of fun i hi => by
    refine c ?_
    rw [List.getD_eq_getElem?_getD, List.getElem?_eq_getElem hi]
    exact h.cs _ (List.getElem_mem hi)
  have k2 : partsF (Plan.parts P) = none := scan_none_of fun i hi => by
    have e := ptAt_some (List.getElem?_eq_getElem (l := Plan.parts P) hi)
    rw [e, c (h.ss _ (List.getElem_mem hi)), c (h.ps _ (List.getElem_mem hi))]
    rfl
  rw [k1, k2]
  rfl
theorem PlanD.short {P : Plan} (h : PlanD P) : Short P := ⟨h.c.1, h.a.1, h.h.1, h.q.1, fun L hL => (h.c.2 L hL).len, fun x hx => (h.a.2 x hx).sems.1, fun x hx => (h.a.2 x hx).procs.1⟩
end Go.Proofs.YtbphlapdhcgikaaDoor
