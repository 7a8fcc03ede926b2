/- Table: the law TableGangs. -/
import Derived.Test.YtmfddaihepjfeaaGngA
import Derived.Test.YtmfddaihepjfeaaTabL
namespace Go.Proofs.Ytmfddaihepjfeaa
open Go.RowKit
set_option linter.unusedVariables false
set_option linter.unusedSimpArgs false

theorem gang_cells {w : World} {base : Nat} {e : TypeId} {A : Option Addr} {c : Nat} {L : List GangR} (h : w.ownsRow base e 6 (.slice A L.length c) L.length (L.flatMap GangR.cells)) {i : Nat} {g m s l p q : Int} (hx : L[i]? = some (g, m, (s, l, p, q, ()))) :
    ∃ ad, A = some ad ∧ ∀ W, Below w.heap.size w W → W.cell? (ad.add (i * 6)) = some (.int .u8 g) ∧ W.cell? ⟨(ad.add (i * 6)).block, (ad.add (i * 6)).off + 1, none⟩ = some (.int .u8 m) ∧ W.cell? ⟨(ad.add (i * 6)).block, (ad.add (i * 6)).off + 2, none⟩ = some (.int .u16 s) ∧ W.cell? ⟨(ad.add (i * 6)).block, (ad.add (i * 6)).off + 3, none⟩ = some (.int .u16 l) ∧ W.cell? ⟨(ad.add (i * 6)).block, (ad.add (i * 6)).off + 4, none⟩ = some (.int .u8 p) ∧ W.cell? ⟨(ad.add (i * 6)).block, (ad.add (i * 6)).off + 5, none⟩ = some (.int .u8 q) := by
  obtain ⟨hi, hx'⟩ := List.getElem?_eq_some_iff.1 hx
  rcases h.2 with ⟨_, h0⟩ | ⟨b, cap, cur, hv, _, hb, _, _, hs, ht⟩
  · omega
  · cases hv
    refine ⟨_, rfl, fun W hB => ?_⟩
    have hW := (hB.block b (lt_of_block hb)).trans hb
    have key : ∀ j, j < 6 → W.cell? ⟨b, i * 6 + j, none⟩ = (GangR.cells L[i])[j]? := fun j hj => by
      have h1 := flatMap_get' (n := 6) GangR.cells L (fun x _ => rfl) i hi j hj
      rw [← ht, List.getElem?_take_of_lt (by omega)] at h1
      simpa [World.cell?, hW] using h1
    rw [hx'] at key
    have e0 : (⟨b, 0, none⟩ : Addr).add (i * 6) = ⟨b, i * 6, none⟩ := by simp [Addr.add]; exact fun h => h.symm
    rw [e0]
    exact ⟨key 0 (by decide), key 1 (by decide), key 2 (by decide), key 3 (by decide), key 4 (by decide), key 5 (by decide)⟩
def GG (w2 : World) (L : List GangR) (x y : Value) (wc : World) : Prop := ∃ wa, Below wa.heap.size wa wc ∧ wa.ownsRow 0 54 6 x L.length (L.flatMap GangR.cells) ∧ wc.ownsRow 0 54 6 y L.length (L.flatMap GangR.cells) ∧ Below w2.heap.size w2 wc
set_option maxHeartbeats 6400000 in
set_option maxRecDepth 100000 in
theorem lgangs_any (w : World) (v : Value) (P : Plan) (hv : PlanV w v P) :
    Calls Try.prog 7 #[v] w fun e w' => e = .returned (.bool true) ∧ Below w.heap.size w w' := by
  have hv0 := hv
  obtain ⟨a0, c0, a1, c1, a2, c2, a3, c3, rfl, hp, hlen⟩ := hv.open_
  obtain ⟨W1, HW⟩ : ∃ W1, Aside (W1 = w.alloc (.cells #[.int .u16 (Plan.frame P), .slice a0 (Plan.cores P).length c0, .slice a1 (Plan.parts P).length c1, .slice a2 (Plan.chans P).length c2, .slice a3 (Plan.pairs P).length c3] 28)) := ⟨_, ⟨rfl⟩⟩
  have hb1 : Aside (Below w.heap.size w W1 ∧ W1.heap[w.heap.size]? = some (.cells #[.int .u16 (Plan.frame P), .slice a0 (Plan.cores P).length c0, .slice a1 (Plan.parts P).length c1, .slice a2 (Plan.chans P).length c2, .slice a3 (Plan.pairs P).length c3] 28 (0, 0))) := ⟨by rw [HW.out]; exact ⟨bel_one _ _, heap_alloc_new _ _⟩⟩
  have K1 := Aside.mk (taken_any W1 _ P (hv0.below hb1.out.1))
  have KP0 : Aside (Tk P → ∀ W, Below w.heap.size w W → Calls Try.prog 24 #[.agg #[.int .u16 (Plan.frame P), .slice a0 (Plan.cores P).length c0, .slice a1 (Plan.parts P).length c1, .slice a2 (Plan.chans P).length c2, .slice a3 (Plan.pairs P).length c3]] W fun e w' => ∃ r, e = .returned r ∧ w'.ownsRow W.heap.size 54 6 r (gangsTo (Plan.cores P) 255).length ((gangsTo (Plan.cores P) 255).flatMap GangR.cells) ∧ Below W.heap.size W w') := ⟨fun tk W h => gangs_any W _ P (hv0.below h) tk.cores⟩
  have KR0 : Aside (Tk P → ∀ W, Below w.heap.size w W → Calls Try.prog 25 #[.agg #[.int .u16 (Plan.frame P), .slice a0 (Plan.cores P).length c0, .slice a1 (Plan.parts P).length c1, .slice a2 (Plan.chans P).length c2, .slice a3 (Plan.pairs P).length c3]] W fun e w' => ∃ r, e = .returned r ∧ w'.ownsRow W.heap.size 54 6 r (gangsTo (Plan.cores P) 255).length ((gangsTo (Plan.cores P) 255).flatMap GangR.cells) ∧ Below W.heap.size W w') := ⟨fun tk W h => rgangs_any W _ P (hv0.below h) tk.cores (once_of (rules_of tk.check))⟩
  have hL255 := gangsTo_len (Plan.cores P) 255
  obtain ⟨L, hL⟩ : ∃ L, gangsTo (Plan.cores P) 255 = L := ⟨_, rfl⟩
  rw [hL] at KP0 KR0 hL255
  generalize Plan.frame P = fr at *
  obtain ⟨g0, g1, g2, g3, g4⟩ := box5 hb1.out.2
  clear hp hv hv0 hL
  go_enter Try.func7, Try.ntmps7
  go_wp2_with fail
  rw [← HW.out]
  refine K1.out.mono ?_
  rintro e w2 ⟨b, rfl, htk, b2⟩
  have B2 := Aside.mk (bel_then hb1.out.1 b2)
  have X2 := Aside.mk ((b2.block _ (lt_of_block hb1.out.2)).trans hb1.out.2)
  clear b2 g0 g1 g2 g3 g4
  obtain ⟨g0, g1, g2, g3, g4⟩ := box5 X2.out
  cases b
  · clear htk
    go_wp2_with fail
    refine (awake_any w2).mono ?_
    rintro e w3 ⟨rfl, b3⟩
    have B3 := Aside.mk (bel_then B2.out b3)
    clear b3 g0 g1 g2 g3 g4
    go_wp2_with fail
    go_ret
    exact ⟨rfl, B3.out⟩
  · have KP := Aside.mk (KP0.out (htk rfl))
    have KR := Aside.mk (KR0.out (htk rfl))
    clear htk KP0 KR0
    have KD1 := Aside.mk (KP.out w2.drew (bel_then B2.out (below_drewN w2 1)))
    go_upto_region 3 with (fail)
    go_cut [3, 4] (fun x y wc => ∃ x0 y0, x0 = x ∧ y0 = y ∧ Aside (GG w2 L x0 y0 wc))
    case first =>
      go_region_held3 (fun w' => w'.cell? ⟨w.heap.size, 0, none⟩ = some (.int .u16 fr) ∧ w'.cell? ⟨w.heap.size, 1, none⟩ = some (.slice a0 (Plan.cores P).length c0) ∧ w'.cell? ⟨w.heap.size, 2, none⟩ = some (.slice a1 (Plan.parts P).length c1) ∧ w'.cell? ⟨w.heap.size, 3, none⟩ = some (.slice a2 (Plan.chans P).length c2) ∧ w'.cell? ⟨w.heap.size, 4, none⟩ = some (.slice a3 (Plan.pairs P).length c3)) (first | go_keep | (exact ⟨k1 _ _ g0, k1 _ _ g1, k1 _ _ g2, k1 _ _ g3, k1 _ _ g4⟩))
        (first
          | ((with_reducible refine KD1.out.mono ?_); rintro e w5 ⟨r1, rfl, o5, b5⟩; have O5 := Aside.mk o5; have Y5 : Aside (Below w2.heap.size w2 w5) := ⟨bel_then (below_drewN w2 1) b5⟩; have KD2 := Aside.mk (KR.out w5 (bel_then B2.out Y5.out)); clear o5 b5; have k1 := (fun (a : Addr) (v : Value) (h : World.cell? w2 a = some v) => (Kept.of_below (S := fun _ => False) Y5.out).cell h id))
          | ((with_reducible refine KD2.out.mono ?_); rintro e w6 ⟨r2, rfl, o6, b6⟩; have O6 := Aside.mk o6; have B6 := Aside.mk b6; clear o6 b6; have k1 := (fun (a : Addr) (v : Value) (h : World.cell? w2 a = some v) => (Kept.of_below (S := fun _ => False) (bel_then Y5.out B6.out)).cell h id)))
      all_goals
        go_wp2_with fail
        go_meet
        case rel => exact ⟨_, _, rfl, rfl, ⟨w5, B6.out, own_mono O5.out (Nat.zero_le _), own_mono O6.out (Nat.zero_le _), bel_then Y5.out B6.out⟩⟩
    case rest =>

      obtain ⟨x0, y0, rfl, rfl, HG⟩ := hcut
      obtain ⟨⟨wa, ba, oa, ob, bb⟩⟩ := HG
      obtain ⟨A1, d1, rfl⟩ := own_len oa
      obtain ⟨A2, d2, rfl⟩ := own_len ob
      have OA := Aside.mk oa
      have OB := Aside.mk ob
      have BA := Aside.mk ba
      have B6 := Aside.mk (bel_then B2.out bb)
      clear oa ob ba bb g0 g1 g2 g3 g4 KD1
      go_wp2_with fail
      refine (awake_any _).mono ?_
      rintro e w7 ⟨rfl, b7⟩
      have C7 := Aside.mk (bel_then BA.out b7)
      have D7 := Aside.mk b7
      have B7 := Aside.mk (bel_then B6.out b7)
      clear b7
      go_wp2_with fail
      go_loopg [5] L.length (fun q s5 wr => ∃ k : Nat, k ≤ L.length ∧ q = L.length - k ∧ s5 = .int .i64 k ∧ Aside (Below w7.heap.size w7 wr))
      case atStart => exact ⟨0, by omega, rfl, rfl, ⟨Below.refl _ _⟩⟩
      case round =>
        obtain ⟨k, hk, rfl, rfl, hst⟩ := hrel
        by_cases hlt : k < L.length
        · have hl := List.getElem?_eq_getElem hlt
          obtain ⟨x, hx⟩ : ∃ x, L[k] = x := ⟨_, rfl⟩
          obtain ⟨g, m, s, l, p, q, ⟨⟩⟩ := x
          rw [hx] at hl
          obtain ⟨ad, rfl, h1⟩ := gang_cells OA.out hl
          obtain ⟨be, rfl, h2⟩ := gang_cells OB.out hl
          obtain ⟨p0, p1, p2, p3, p4, p5⟩ := h1 wr (bel_then C7.out hst.out)
          obtain ⟨q0, q1, q2, q3, q4, q5⟩ := h2 wr (bel_then D7.out hst.out)
          clear hl hx h1 h2
          go_upto_region 9 with (fail)
          go_quiet (fail)
          go_wp2_with fail
          go_roundg (L.length - (k + 1))
          case measure => omega
          case rel => exact ⟨k + 1, by omega, rfl, by go_num, ⟨bel_then hst.out (below_drewN wr _)⟩⟩
        · obtain rfl : k = L.length := by omega
          clear hk hlt
          go_wp2_with fail
          go_ret
          exact ⟨rfl, bel_then B7.out hst.out⟩
end Go.Proofs.Ytmfddaihepjfeaa
