/- Paths: the channels that come into a partition, and that leave it. -/
import Derived.Test.YtflkfjjfhhapkaaPthF
namespace Go.Proofs.Ytflkfjjfhhapkaa
open Go.RowKit
set_option linter.unusedVariables false
set_option linter.unusedSimpArgs false

def numsF (f : ChanR → Bool) (H : List ChanR) : List Int := (H.zipIdx.filter fun x => f x.1).map fun x => (x.2 : Int)
theorem numsF_snoc (f : ChanR → Bool) (H : List ChanR) (c : ChanR) : numsF f (H ++ [c]) = numsF f H ++ if f c = true then [(H.length : Int)] else [] := by
  rw [numsF, List.zipIdx_append, List.filter_append, List.map_append]
  congr 1
  cases h : f c <;> simp [List.zipIdx_cons, h]
theorem numsF_len (f : ChanR → Bool) (H : List ChanR) : (numsF f H).length ≤ H.length := by
  rw [numsF, List.length_map]
  exact Nat.le_trans (List.length_filter_le _ _) (by simp)
def inF (n : Nat) (p : Int) (c : ChanR) : Bool := rightB n c && decide (ChanR.t c = p)
def outF (n : Nat) (p : Int) (c : ChanR) : Bool := rightB n c && decide (ChanR.f c = p)
/-- Two rows of the call's own, apart. -/
structure EndSt (w0 : World) (v u : Value) (xs ys : List Int) (a : World) : Prop where
  below : Below w0.heap.size w0 a
  r1 : a.ownsRow w0.heap.size 3 1 v xs.length (xs.map (Value.int .i64))
  r2 : a.ownsRow w0.heap.size 3 1 u ys.length (ys.map (Value.int .i64))
  ne : ∀ b, v.ownBlock = some b → u.ownBlock = some b → False
theorem EndSt.old {w0 a b : World} {v u : Value} {xs ys : List Int} (s : EndSt w0 v u xs ys a) (k : Below a.heap.size a b) : EndSt w0 v u xs ys b :=
  ⟨bel_then s.below k, own_below s.r1 k, own_below s.r2 k, s.ne⟩
theorem EndSt.swap {w0 a : World} {v u : Value} {xs ys : List Int} (s : EndSt w0 v u xs ys a) : EndSt w0 u v ys xs a := ⟨s.below, s.r2, s.r1, fun b h k => s.ne b k h⟩
theorem EndSt.push {w0 a b : World} {v u v1 : Value} {xs ys : List Int} {x : Int} (s : EndSt w0 v u xs ys a) (hown : b.ownsRow w0.heap.size 3 1 v1 (xs.length + 1) (xs.map (Value.int .i64) ++ [.int .i64 x])) (hg : a.grownBy b v.ownBlock)
    (hat : v1.ownBlock = v.ownBlock ∨ v1.ownBlock = some (a.heap.size + 1)) : EndSt w0 v1 u (xs ++ [x]) ys b := by
  refine ⟨s.below.grown hg s.below.size (fun j hj => own_base s.r1 j hj), by simpa using hown, s.r2.kept hg ?_, fun k h1 h2 => ?_⟩
  · cases hu : u.ownBlock with
    | none => exact .inl rfl
    | some k => right; intro e; exact s.ne k e.symm hu
  · rcases hat with e | e
    · exact s.ne k (by rw [← e]; exact h1) h2
    · rw [e] at h1
      injection h1 with h1
      have := own_lt s.r2 k h2
      omega

set_option maxHeartbeats 3200000 in
set_option maxRecDepth 100000 in
theorem ends_any (w : World) (v : Value) (P : Plan) (p : Int) (hv : PlanV w v P) (hlenH : (Plan.chans P).length ≤ 100000) :
    Calls Try.prog 19 #[v, .int .i64 p] w fun e w' => ∃ r1 r2, e = .returned (.tuple #[r1, r2]) ∧ Ints w' .i64 r1 (numsF (inF (Plan.parts P).length p) (Plan.chans P)) ∧ Ints w' .i64 r2 (numsF (outF (Plan.parts P).length p) (Plan.chans P)) ∧ Below w.heap.size w w' := by
  have HV := Aside.mk hv
  obtain ⟨a0, c0, a1, c1, a2, c2, a3, c3, rfl, hp, hlen⟩ := hv.open_
  have HC := Aside.mk hp.chans
  obtain ⟨i0, i1⟩ := hp.frame
  have KR : Aside (∀ W c, ChanR.Ok c → Below w.heap.size w W → Calls Try.prog 31 #[.agg #[.int .u16 (Plan.frame P), .slice a0 (Plan.cores P).length c0, .slice a1 (Plan.parts P).length c1, .slice a2 (Plan.chans P).length c2, .slice a3 (Plan.pairs P).length c3], ChanR.val c] W fun e w' => e = .returned (.bool (rightB (Plan.parts P).length c)) ∧ Below W.heap.size W w') := ⟨fun W c hc h => right_any W _ P c hc (HV.out.below h)⟩
  obtain ⟨W1, HW⟩ : ∃ W1, Aside (W1 = w.alloc (.cells #[.int .u16 (Plan.frame P), .slice a0 (Plan.cores P).length c0, .slice a1 (Plan.parts P).length c1, .slice a2 (Plan.chans P).length c2, .slice a3 (Plan.pairs P).length c3] 28)) := ⟨_, ⟨rfl⟩⟩
  have hb1 : Aside (Below w.heap.size w W1 ∧ W1.heap[w.heap.size]? = some (.cells #[.int .u16 (Plan.frame P), .slice a0 (Plan.cores P).length c0, .slice a1 (Plan.parts P).length c1, .slice a2 (Plan.chans P).length c2, .slice a3 (Plan.pairs P).length c3] 28 (0, 0))) := ⟨by rw [HW.out]; exact ⟨bel_one _ _, heap_alloc_new _ _⟩⟩
  obtain ⟨n, hn⟩ : ∃ n, (Plan.parts P).length = n := ⟨_, rfl⟩
  obtain ⟨H, hH⟩ : ∃ H, Plan.chans P = H := ⟨_, rfl⟩
  obtain ⟨fr, hfr⟩ : ∃ fr, Plan.frame P = fr := ⟨_, rfl⟩
  rw [hn] at KR HW hb1
  rw [hH] at HC hlenH KR HW hb1
  rw [hfr] at i0 i1 KR HW hb1
  rw [hn, hH, hfr]
  clear hp hv hn hH HV hfr
  go_enter Try.func19, Try.ntmps19
  go_wp2_with fail
  rw [← HW.out]
  go_loopg [6, 7, 13] H.length (fun g s6 s7 i wr => ∃ (k : Nat) (v u : Value), k ≤ H.length ∧ g = H.length - k ∧ i = .int .i64 k ∧ v = s6 ∧ u = s7 ∧ Aside (EndSt W1 v u (numsF (inF n p) (H.take k)) (numsF (outF n p) (H.take k)) wr))
  case atStart => exact ⟨0, _, _, by omega, rfl, rfl, rfl, rfl, ⟨⟨Below.refl _ _, own_nil _ _ _ _, own_nil _ _ _ _, fun b h => by cases h⟩⟩⟩
  case round =>
    obtain ⟨k, v, u, hk, rfl, rfl, rfl, rfl, S⟩ := hrel
    have X := Aside.mk ((S.out.below.block _ (lt_of_block hb1.out.2)).trans hb1.out.2)
    obtain ⟨g0, g1, g2, g3, g4⟩ := box5 X.out
    by_cases hkl : k < H.length
    · have hl := List.getElem?_eq_getElem hkl
      obtain ⟨c, hc⟩ : ∃ c, H[k] = c := ⟨_, rfl⟩
      rw [hc] at hl
      obtain ⟨ad, rfl, d0, d1, d2, d3, d4, d5, ok⟩ := (HC.out.below (bel_then hb1.out.1 S.out.below)).at_ k c hl
      have KC := Aside.mk (fun W h => KR.out W c ok h)
      have hX5 : w.heap.size < wr.heap.size := lt_of_block X.out
      have N1 : Aside (numsF (inF n p) (H.take (k + 1)) = numsF (inF n p) (H.take k) ++ if inF n p c = true then [(k : Int)] else []) := ⟨by rw [take_snoc hl, numsF_snoc, List.length_take, Nat.min_eq_left (by omega)]⟩
      have N2 : Aside (numsF (outF n p) (H.take (k + 1)) = numsF (outF n p) (H.take k) ++ if outF n p c = true then [(k : Int)] else []) := ⟨by rw [take_snoc hl, numsF_snoc, List.length_take, Nat.min_eq_left (by omega)]⟩
      have L1 : Aside ((numsF (inF n p) (H.take k)).length ≤ 100000 ∧ (numsF (outF n p) (H.take k)).length ≤ 100000) := ⟨by
        have h1 := numsF_len (inF n p) (H.take k)
        have h2 := numsF_len (outF n p) (H.take k)
        rw [List.length_take] at h1 h2
        omega⟩
      have E1 : Aside (inF n p c = (rightB n c && decide (ChanR.t c = p)) ∧ outF n p c = (rightB n c && decide (ChanR.f c = p))) := ⟨rfl, rfl⟩
      obtain ⟨br, hbr⟩ : ∃ br, rightB n c = br := ⟨_, rfl⟩
      rw [hbr] at KC E1
      obtain ⟨⟨t0, t1⟩, ⟨f0, f1⟩⟩ := And.intro ok.t ok.f
      generalize inF n p c = y1 at *
      generalize outF n p c = y2 at *
      generalize numsF (inF n p) (H.take k) = xs at *
      generalize numsF (outF n p) (H.take k) = ys at *
      unfold ChanR.val at KC
      clear hl hc ok hbr
      obtain ⟨W4, HW4⟩ : ∃ W4, Aside (W4 = wr.alloc (.cells #[.int .u8 (ChanR.k c), .int .u8 (ChanR.f c), .int .u8 (ChanR.t c), .int .u8 (ChanR.z c), .int .u8 (ChanR.d c), .int .u16 (ChanR.y c)] 44)) := ⟨_, ⟨rfl⟩⟩
      have S4 : Aside (EndSt W1 v u xs ys W4 ∧ W4.heap[wr.heap.size]? = some (.cells #[.int .u8 (ChanR.k c), .int .u8 (ChanR.f c), .int .u8 (ChanR.t c), .int .u8 (ChanR.z c), .int .u8 (ChanR.d c), .int .u16 (ChanR.y c)] 44 (0, 0))) := ⟨by
        rw [HW4.out]; exact ⟨S.out.old (bel_one _ _), heap_alloc_new _ _⟩⟩
      go_wp2_with fail
      rw [← HW4.out]
      refine (KC.out _ (bel_then hb1.out.1 S4.out.1.below)).mono ?_
      rintro e w5 ⟨rfl, b5⟩
      have S5 := Aside.mk (And.intro (S4.out.1.old b5) ((b5.block _ (lt_of_block S4.out.2)).trans S4.out.2))
      have hX6 : wr.heap.size < w5.heap.size := lt_of_block S5.out.2
      clear b5 g0 g1 g2 g3 g4 d0 d1 d2 d3 d4 d5
      cases br
      · have Z : Aside (y1 = false ∧ y2 = false) := ⟨by rw [E1.out.1, E1.out.2]; simp⟩
        go_wp2_with fail
        go_roundg (H.length - (k + 1))
        case measure => omega
        case rel => exact ⟨k + 1, _, _, by omega, rfl, by go_num, rfl, rfl, ⟨by rw [N1.out, N2.out, Z.out.1, Z.out.2]; simpa using S5.out.1⟩⟩
      · have q1 : w5.cell? ⟨wr.heap.size, 1, none⟩ = some (.int .u8 (ChanR.f c)) := by have := S5.out.2; simp [World.cell?, this]
        have q2 : w5.cell? ⟨wr.heap.size, 2, none⟩ = some (.int .u8 (ChanR.t c)) := by have := S5.out.2; simp [World.cell?, this]
        generalize ChanR.f c = f at *
        generalize ChanR.t c = t at *
        obtain ⟨z1, e1⟩ : ∃ z, decide (t = p) = z := ⟨_, rfl⟩
        obtain ⟨z2, e2⟩ : ∃ z, decide (f = p) = z := ⟨_, rfl⟩
        have h1 : (t == p) = z1 := by rw [← e1]; rfl
        have h2 : (f == p) = z2 := by rw [← e2]; rfl
        have Z : Aside (y1 = z1 ∧ y2 = z2) := ⟨by rw [E1.out.1, E1.out.2, e1, e2]; simp⟩
        clear e1 e2
        cases z1
        · cases z2
          · go_wp2_with fail
            go_roundg (H.length - (k + 1))
            case measure => omega
            case rel => exact ⟨k + 1, _, _, by omega, rfl, by go_num, rfl, rfl, ⟨by rw [N1.out, N2.out, Z.out.1, Z.out.2]; simpa using S5.out.1⟩⟩
          · go_wp2_with (at_builtin; go_loud (refine append_elem W1.heap.size rfl _ _ 40 3 (.int .i64 0) 1 8 rfl Try.underlying40 A_info_int rfl (by decide) (by decide) u _ _ [.int .i64 (k : Int)] rfl rfl rfl (by simp [Value.oneCell']) S5.out.1.r2 S5.out.1.below.size (by have := L1.out.2; omega) ?_))
            intro v1 w1 hown1 hg hat
            have X := Aside.mk (S5.out.1.swap.push hown1 hg hat)
            clear hown1 hg hat q1 q2
            go_wp2_with fail
            go_roundg (H.length - (k + 1))
            case measure => omega
            case rel => exact ⟨k + 1, _, _, by omega, rfl, by go_num, rfl, rfl, ⟨by rw [N1.out, N2.out, Z.out.1, Z.out.2]; simpa using X.out.swap⟩⟩
        · go_wp2_with (at_builtin; go_loud (refine append_elem W1.heap.size rfl _ _ 40 3 (.int .i64 0) 1 8 rfl Try.underlying40 A_info_int rfl (by decide) (by decide) v _ _ [.int .i64 (k : Int)] rfl rfl rfl (by simp [Value.oneCell']) S5.out.1.r1 S5.out.1.below.size (by have := L1.out.1; omega) ?_))
          intro v1 w1 hown1 hg hat
          have X := Aside.mk (S5.out.1.push hown1 hg hat)
          have q1' : w1.cell? ⟨wr.heap.size, 1, none⟩ = some (.int .u8 f) := hg.cell q1 (fun e => by have := own_lt S.out.r1 _ e.symm; simp at this)
          clear hown1 hg hat q1 q2
          cases z2
          · go_wp2_with fail
            go_roundg (H.length - (k + 1))
            case measure => omega
            case rel => exact ⟨k + 1, _, _, by omega, rfl, by go_num, rfl, rfl, ⟨by rw [N1.out, N2.out, Z.out.1, Z.out.2]; simpa using X.out⟩⟩
          · go_wp2_with (at_builtin; go_loud (refine append_elem W1.heap.size rfl _ _ 40 3 (.int .i64 0) 1 8 rfl Try.underlying40 A_info_int rfl (by decide) (by decide) u _ _ [.int .i64 (k : Int)] rfl rfl rfl (by simp [Value.oneCell']) X.out.r2 X.out.below.size (by have := L1.out.2; omega) ?_))
            intro v2 w2 hown2 hg2 hat2
            have X2 := Aside.mk (X.out.swap.push hown2 hg2 hat2)
            clear hown2 hg2 hat2 q1'
            go_wp2_with fail
            go_roundg (H.length - (k + 1))
            case measure => omega
            case rel => exact ⟨k + 1, _, _, by omega, rfl, by go_num, rfl, rfl, ⟨by rw [N1.out, N2.out, Z.out.1, Z.out.2]; simpa using X2.out.swap⟩⟩
    · obtain rfl : k = H.length := by omega
      go_wp2_with fail
      go_ret2
      have h := S.out
      rw [List.take_length] at h
      exact ⟨_, _, rfl, own_ints h.r1, own_ints h.r2, bel_then hb1.out.1 h.below⟩
end Go.Proofs.Ytflkfjjfhhapkaa
