/- RulesOverlaps: two windows overlap just where they have a tick both.
   For every input. -/
import Derived.Test.YtpcjjmjmigibhaaDoorRows
import Derived.Test.YtpcjjmjmigibhaaDoorLwE
import Derived.Test.YtpcjjmjmigibhaaDoorErrR
import Derived.Test.YtpcjjmjmigibhaaDoorKitR
import Derived.Test.YtpcjjmjmigibhaaDoorRds
import Derived.WalkKit
import Derived.ProofKit
import Derived.OpenShut
import Derived.ShutString
import Derived.ChangeOld
import Derived.Below
import Derived.SizedLaws
import Derived.Test.YtpcjjmjmigibhaaDoorTie
import Derived.Test.YtpcjjmjmigibhaaDoorCards
import Derived.LaidMore
import Derived.Lay
import Derived.SevenTiedAt
import Derived.Stop.Joined
import Derived.WalkSmall
namespace Go.Proofs.YtpcjjmjmigibhaaDoor.rulesOverlaps
open Go.ChangeShapes Go.WideShapes Go.ChangeAt Go.RowKit
open Go.ChangeMaps (open_string shut_string)
set_option linter.unusedVariables false
theorem own : ownKnob Tryd.prog.godebug = none := by kernel_rfl
theorem laidOut : laidOutB Tryd.prog = true := by kernel_rfl
set_option maxRecDepth 100000 in
theorem lifted (os : Os) (started : os.Started) (H : Type) (enc : TypeId × Value → H) :
    ReturnsInHanded {} Tryd.checked os 5 .any (fun w args => (Rows.rulesOverlapsSpec.pre enc Tryd.prog Tryd.f5 Rows.rulesOverlapsRow.domain false w args ∧ laidMetH Tryd.prog [("errors.errorType", Rows.laid_errors_errorType)] w) ∧ sizedMet enc Tryd.prog Tryd.f5 (OpenSpec.ofChange Rows.rulesOverlapsSpec) false w args) (Rows.rulesOverlapsSpec.post enc Tryd.prog Tryd.f5 false true false false) := by
  refine returnsInHanded_of_change_and (C := Tryd.checked) (X := fun w _ => laidMetH Tryd.prog [("errors.errorType", Rows.laid_errors_errorType)] w) (fun _ _ _ hh h => h.of_heap hh) own started (by kernel_rfl) Tryd.func5
    (ChangeSpec.witness_at (enc := enc) (C := Tryd.checked) (os := os) (X := fun w _ => laidMetH Tryd.prog [("errors.errorType", Rows.laid_errors_errorType)] w) false (laidWorld os) #[.agg #[.int .u16 0, .int .u16 0, .int .u8 0, .int .u8 0], .agg #[.int .u16 0, .int .u16 0, .int .u8 0, .int .u8 0]] 8 rfl (by kernel_rfl) (by kernel_rfl) (by kernel_rfl) (by kernel_rfl) (by kernel_rfl) (laidWorld_met os _)) ?_
  intro W base args ds gs before hval0 hW hcnd hsz0 hL _
  have hsz : (DataW.weightsEach Tryd.prog (Tryd.f5.params.toList ++ Rows.rulesOverlapsSpec.plain.varTypes Tryd.prog) (ds ++ gs)).all (· ≤ reachBytes) = true := hsz0
  have hval : ∀ (j : Nat) t v, Tryd.f5.params[j]? = some t → args[j]? = some v → Value.okWide Tryd.prog W .any base t v := hval0
  have hW' := hW
  obtain ⟨p, q, hA0, hV, rfl, hfz, hnd⟩ := hW
  have hA : DataW.TrodAll enc Tryd.prog W 0 (fun _ => true) true Tryd.f5.params.toList args.toList ds p := hA0
  rw [Tryd.params5] at hA hval hsz
  obtain ⟨v0, vs0, d0, ds0, p0, q0, hargs, rfl, rfl, h0, r0⟩ := trodAll_cons hA
  obtain ⟨v1, vs1, d1, ds1, p1, q1, rfl, rfl, rfl, h1, r1⟩ := trodAll_cons r0
  obtain ⟨rfl, rfl, rfl⟩ := trodAll_nil r1
  obtain rfl : args = #[v0, v1] := by cases args; simp_all
  obtain ⟨rfl, rfl⟩ := trodVars_none hV
  have hlook := look_of_laid hL
  have k0 := h0
  have lt0 : ∀ x ∈ p0, x.block < W.heap.size := by obtain ⟨m, hm⟩ := k0; exact DataW.trod_lt m _ _ _ hm
  have ok0 := hval 0 39 v0 rfl rfl
  have wt0 : ∀ n ∈ d0.weights Tryd.prog 39, n ≤ reachBytes := fun n hn => of_decide_eq_true (List.all_eq_true.1 hsz _ (DataW.weights_mem_each (j := 0) (t := 39) (d := d0) (by rfl) (by rfl) n hn))
  obtain ⟨c0, y0, rfl, g0, s0⟩ := agg_of_struct rd39 Tryd.underlying39 ok0 k0 wt0
  have k1 := h1
  have lt1 : ∀ x ∈ p1, x.block < W.heap.size := by obtain ⟨m, hm⟩ := k1; exact DataW.trod_lt m _ _ _ hm
  have ok1 := hval 1 39 v1 rfl rfl
  have wt1 : ∀ n ∈ d1.weights Tryd.prog 39, n ≤ reachBytes := fun n hn => of_decide_eq_true (List.all_eq_true.1 hsz _ (DataW.weights_mem_each (j := 1) (t := 39) (d := d1) (by rfl) (by rfl) n hn))
  obtain ⟨c1, y1, rfl, g1, s1⟩ := agg_of_struct rd39 Tryd.underlying39 ok1 k1 wt1
  obtain ⟨rfl, okq0⟩ := win_arr g0
  obtain ⟨rfl, okq1⟩ := win_arr g1
  refine (roverlaps_any W y0 y1 okq0 okq1 hlook).mono fun e W' ⟨he, bel⟩ => ?_
  subst he
  exact ⟨_, rfl, _, _, _, [], _, _, hW', trodAll_mk1 (shut_bool Tryd.underlying4 _), (trodAll_cons_mk (Below.trod laidOut (by kernel_rfl) (of_decide_eq_true (by kernel_rfl)) k0 bel lt0) (trodAll_cons_mk (Below.trod laidOut (by kernel_rfl) (of_decide_eq_true (by kernel_rfl)) k1 bel lt1) trodAll_mk0)), rfl, bel.frame _, fun h => by cases h⟩
theorem over : Rows.rulesOverlapsRow.holds Tryd.pinned (OpenSpec.ofChange Rows.rulesOverlapsSpec) :=
  OpenClaim.holds_of_wide 5 Tryd.f5 rfl rfl rfl rfl rfl rfl rfl ⟨rfl, rfl, rfl, rfl, rfl⟩ rfl rfl rfl rfl rfl (by kernel_rfl) Tryd.func5 (by kernel_rfl)
    (of_decide_eq_true (by kernel_rfl)) (by unfold Func.isWrapper; first | (rw [if_pos (by decide +kernel)]; kernel_rfl) | (rw [if_neg (by decide +kernel)]; exact ⟨rfl, rfl⟩))
    (fun os started H enc _ => lifted os started H enc)
theorem proved : Rows.RulesOverlapsSaid := over
set_option maxRecDepth 100000 in
theorem cardProved : Rows.RulesOverlapsCardSaid :=
  Claim7.holds_tied_plain_at .later [] [.handle] true (true, "3c6423839f4f7906fe3e56859885f07af0230fd5267825ec24030f97840b4592") true
    proved (fun _ h => by cases h) (by kernel_rfl) (fun _ h => by cases h) rulesOverlaps_row_tie rfl ⟨rfl, rfl⟩ (by kernel_rfl) rfl
    (fun f fn hf hfn => by
      obtain rfl : f = 5 := Option.some.inj ((show Tryd.prog.funcNamed "purlin/purlinlaw04.RulesOverlaps" = some 5 by kernel_rfl).symm.trans hf) |>.symm
      obtain rfl : fn = Tryd.f5 := (Option.some.inj (Tryd.func5.symm.trans hfn)).symm
      exact ⟨by kernel_rfl, fun j t ht => by
        rw [Tryd.params5] at ht
        have hm : t ∈ [39, 39] := List.mem_of_getElem? (l := [39, 39]) (i := j) (by simpa using ht)
        simp only [List.mem_cons, List.not_mem_nil, or_false] at hm
        rcases hm with rfl | rfl
        · exact (by kernel_rfl : Tryd.prog.wantsStandIn 39 = false)
        · exact (by kernel_rfl : Tryd.prog.wantsStandIn 39 = false)⟩)
    (by kernel_rfl)
#print axioms proved
end Go.Proofs.YtpcjjmjmigibhaaDoor.rulesOverlaps
namespace Go.Proofs.YtpcjjmjmigibhaaDoor
/-- The row, under a short name, for the claim. -/
theorem rulesOverlaps_holds : Rows.RulesOverlapsSaid := rulesOverlaps.proved
theorem rulesOverlaps_card_holds : Rows.RulesOverlapsCardSaid := rulesOverlaps.cardProved
end Go.Proofs.YtpcjjmjmigibhaaDoor
