/- The table's laws: the shares: the law's walk. -/
import Derived.Test.YtmfddaihepjfeaaTabO
namespace Go.Proofs.Ytmfddaihepjfeaa
open Go.RowKit
set_option linter.unusedVariables false
set_option linter.unusedSimpArgs false

set_option maxHeartbeats 3200000 in
set_option maxRecDepth 100000 in
theorem shares_walk (w : World) (v : Value) (P : Plan) (part : Int) (hv : PlanV w v P) (heq : Tk P → ∀ n : Nat, Plan.frame P = (n : Int) → sumL (matchS (Plan.cores P) part) = (sumN (cntS (Plan.cores P) part) n : Nat)) (h256 : Tk P → ∀ L ∈ Plan.cores P, L.length ≤ 256) :
    Calls Try.prog 5 #[v, .int .i64 part] w fun e w' => e = .returned (.bool true) ∧ Below w.heap.size w w' := by
  have hv0 := hv
  obtain ⟨a0, c0, a1, c1, a2, c2, a3, c3, rfl, hp, hlen⟩ := hv.open_
  obtain ⟨f0, f1⟩ := hp.frame
  obtain ⟨W1, HW⟩ : ∃ W1, Aside (W1 = w.alloc (.cells #[.int .u16 (Plan.frame P), .slice a0 (Plan.cores P).length c0, .slice a1 (Plan.parts P).length c1, .slice a2 (Plan.chans P).length c2, .slice a3 (Plan.pairs P).length c3] 28)) := ⟨_, ⟨rfl⟩⟩
  have hb1 : Aside (Below w.heap.size w W1 ∧ W1.heap[w.heap.size]? = some (.cells #[.int .u16 (Plan.frame P), .slice a0 (Plan.cores P).length c0, .slice a1 (Plan.parts P).length c1, .slice a2 (Plan.chans P).length c2, .slice a3 (Plan.pairs P).length c3] 28 (0, 0))) := ⟨by rw [HW.out]; exact ⟨bel_one _ _, heap_alloc_new _ _⟩⟩
  have K1 := Aside.mk (taken_any W1 _ P (hv0.below hb1.out.1))
  have HV := Aside.mk hv0
  have HE := Aside.mk (And.intro heq h256)
  obtain ⟨g0, g1, g2, g3, g4⟩ := box5 hb1.out.2
  clear hp hv hv0 heq h256
  go_enter Try.func5, Try.ntmps5
  go_wp2_with fail
  rw [← HW.out]
  refine K1.out.mono ?_
  rintro e w2 ⟨b, rfl, htk, b2⟩
  have B2 := Aside.mk (bel_then hb1.out.1 b2)
  have X2 := Aside.mk ((b2.block _ (lt_of_block hb1.out.2)).trans hb1.out.2)
  clear b2 g0 g1 g2 g3 g4
  obtain ⟨g0, g1, g2, g3, g4⟩ := box5 X2.out
  cases b
  · clear htk
    go_wp2_with fail
    refine (awake_any w2).mono ?_
    rintro e w3 ⟨rfl, b3⟩
    have B3 := Aside.mk (bel_then B2.out b3)
    clear b3 g0 g1 g2 g3 g4
    go_wp2_with fail
    go_ret
    exact ⟨rfl, B3.out⟩
  · have tk := htk rfl
    obtain ⟨n, hn⟩ : ∃ n : Nat, Plan.frame P = (n : Int) := ⟨(Plan.frame P).toNat, (Int.toNat_of_nonneg f0).symm⟩
    obtain ⟨r, hr⟩ : ∃ r : Int, Aside (sumL (matchS (Plan.cores P) part) = r) := ⟨_, ⟨rfl⟩⟩
    have KS : Aside (∀ W, Below w.heap.size w W → Calls Try.prog 20 #[.agg #[.int .u16 (Plan.frame P), .slice a0 (Plan.cores P).length c0, .slice a1 (Plan.parts P).length c1, .slice a2 (Plan.chans P).length c2, .slice a3 (Plan.pairs P).length c3], .int .i64 part] W fun e w' => e = .returned (.int .i64 r) ∧ Below W.heap.size W w') := ⟨fun W h => by
      rw [← hr.out]; exact share_any W _ P part (HV.out.below h) (HE.out.2 tk) tk.cores⟩
    have KR : Aside (∀ W, Below w.heap.size w W → Calls Try.prog 21 #[.agg #[.int .u16 (Plan.frame P), .slice a0 (Plan.cores P).length c0, .slice a1 (Plan.parts P).length c1, .slice a2 (Plan.chans P).length c2, .slice a3 (Plan.pairs P).length c3], .int .i64 part] W fun e w' => e = .returned (.int .i64 r) ∧ Below W.heap.size W w') := ⟨fun W h => by
      rw [← hr.out, HE.out.1 tk n hn]; exact rshare_any W _ P part n hn (HV.out.below h) tk.cores⟩
    clear htk tk hn
    go_wp2_with fail
    go_region_held3 (fun w' => w'.cell? ⟨w.heap.size, 0, none⟩ = some (.int .u16 (Plan.frame P)) ∧ w'.cell? ⟨w.heap.size, 1, none⟩ = some (.slice a0 (Plan.cores P).length c0) ∧ w'.cell? ⟨w.heap.size, 2, none⟩ = some (.slice a1 (Plan.parts P).length c1) ∧ w'.cell? ⟨w.heap.size, 3, none⟩ = some (.slice a2 (Plan.chans P).length c2) ∧ w'.cell? ⟨w.heap.size, 4, none⟩ = some (.slice a3 (Plan.pairs P).length c3)) (first | go_keep | (exact ⟨k1 _ _ (by assumption), k1 _ _ (by assumption), k1 _ _ (by assumption), k1 _ _ (by assumption), k1 _ _ (by assumption)⟩))
      (first
        | (go_at_call 11; refine (awake_any _).mono ?_; rintro e w3 ⟨rfl, b3⟩; have B3 := (bel_then (bel_drew B2.out) b3); have k1 := (fun (a : Addr) (v : Value) (h : World.cell? _ a = some v) => (Kept.of_below (S := fun _ => False) b3).cell h id))
        | (go_at_call 20; refine (KS.out _ (by first | exact B4 | exact B3)).mono ?_; rintro e w4 ⟨rfl, b4⟩; have B4 := (by first | exact bel_then B4 b4 | exact bel_then B3 b4 : Below w.heap.size w w4); have k1 := (fun (a : Addr) (v : Value) (h : World.cell? _ a = some v) => (Kept.of_below (S := fun _ => False) b4).cell h id))
        | (go_at_call 21; refine (KR.out _ (by first | exact B4 | exact B3)).mono ?_; rintro e w4 ⟨rfl, b4⟩; have B4 := (by first | exact bel_then B4 b4 | exact bel_then B3 b4 : Below w.heap.size w w4); have k1 := (fun (a : Addr) (v : Value) (h : World.cell? _ a = some v) => (Kept.of_below (S := fun _ => False) b4).cell h id)))
    all_goals
      clear k1 g0 g1 g2 g3 g4
      have BB := Aside.mk B4
      clear B3 B4
      go_wp2_with fail
      go_ret
      exact ⟨ret_bool (by simp), BB.out⟩
end Go.Proofs.Ytmfddaihepjfeaa
