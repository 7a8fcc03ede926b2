/- WindowPlans: just the plans that are taken are played, and all cores are off at first.
   For every input. -/
import Derived.Test.YtidjkhmlpgkaaaaDoorRows
import Derived.Test.YtidjkhmlpgkaaaaDoorMgLP
import Derived.Test.YtidjkhmlpgkaaaaDoorMgK
import Derived.Test.YtidjkhmlpgkaaaaDoorKitR
import Derived.Test.YtidjkhmlpgkaaaaDoorRds
import Derived.WalkKit
import Derived.ProofKit
import Derived.OpenShut
import Derived.ShutString
import Derived.ChangeOld
import Derived.Below
import Derived.SizedLaws
import Derived.Test.YtidjkhmlpgkaaaaDoorTie
import Derived.Test.YtidjkhmlpgkaaaaDoorCards
import Derived.LaidMore
import Derived.Lay
import Derived.SevenTiedAt
import Derived.Stop.Joined
import Derived.WalkSmall
namespace Go.Proofs.YtidjkhmlpgkaaaaDoor.windowPlans
open Go.ChangeShapes Go.WideShapes Go.ChangeAt Go.RowKit
open Go.ChangeMaps (open_string shut_string)
set_option linter.unusedVariables false
theorem own : ownKnob Tryd.prog.godebug = none := by kernel_rfl
theorem laidOut : laidOutB Tryd.prog = true := by kernel_rfl
set_option maxRecDepth 100000 in
theorem lifted (os : Os) (started : os.Started) (H : Type) (enc : TypeId × Value → H) :
    ReturnsInHanded {} Tryd.checked os 8 .any (fun w args => (Rows.windowPlansSpec.pre enc Tryd.prog Tryd.f8 Rows.windowPlansRow.domain false w args ∧ laidMetH Tryd.prog [("purlin/mem.look", Rows.laid_purlin_mem_look)] w) ∧ sizedMet enc Tryd.prog Tryd.f8 (OpenSpec.ofChange Rows.windowPlansSpec) false w args) (Rows.windowPlansSpec.post enc Tryd.prog Tryd.f8 false true false false) := by
  refine returnsInHanded_of_change_and (C := Tryd.checked) (X := fun w _ => laidMetH Tryd.prog [("purlin/mem.look", Rows.laid_purlin_mem_look)] w) (fun _ _ _ hh h => h.of_heap hh) own started (by kernel_rfl) Tryd.func8
    (ChangeSpec.witness_shaped (enc := enc) (C := Tryd.checked) (os := os) (X := fun w _ => laidMetH Tryd.prog [("purlin/mem.look", Rows.laid_purlin_mem_look)] w) false (World.laidAll Tryd.prog os [("purlin/mem.look", Rows.laid_purlin_mem_look)]) #[.agg #[.int .u16 0, .slice none 0 0, .slice none 0 0, .slice none 0 0, .slice none 0 0]] 8 (World.laidAll_os _ _ _)
      (World.shaped_of_ZipB (by kernel_rfl) (by kernel_rfl)) (by kernel_rfl) (by kernel_rfl) (by kernel_rfl)
      (by rw [MakeChecks.laidMetH_plain _ _ _ (by kernel_rfl)]; exact laidMet_laidAll _ (by kernel_rfl) (by kernel_rfl))) ?_
  intro W base args ds gs before hval0 hW hcnd hsz0 hL _
  have hsz : (DataW.weightsEach Tryd.prog (Tryd.f8.params.toList ++ Rows.windowPlansSpec.plain.varTypes Tryd.prog) (ds ++ gs)).all (· ≤ reachBytes) = true := hsz0
  have hval : ∀ (j : Nat) t v, Tryd.f8.params[j]? = some t → args[j]? = some v → Value.okWide Tryd.prog W .any base t v := hval0
  have hW' := hW
  obtain ⟨p, q, hA0, hV, rfl, hfz, hnd⟩ := hW
  have hA : DataW.TrodAll enc Tryd.prog W 0 (fun _ => true) true Tryd.f8.params.toList args.toList ds p := hA0
  rw [Tryd.params8] at hA hval hsz
  obtain ⟨v0, vs0, d0, ds0, p0, q0, hargs, rfl, rfl, h0, r0⟩ := trodAll_cons hA
  obtain ⟨rfl, rfl, rfl⟩ := trodAll_nil r0
  obtain rfl : args = #[v0] := by cases args; simp_all
  obtain ⟨rfl, rfl⟩ := trodVars_none hV
  have hlook := look_of_laid hL
  have k0 := h0
  have lt0 : ∀ x ∈ p0, x.block < W.heap.size := by obtain ⟨m, hm⟩ := k0; exact DataW.trod_lt m _ _ _ hm
  have ok0 := hval 0 28 v0 rfl rfl
  have wt0 : ∀ n ∈ d0.weights Tryd.prog 28, n ≤ reachBytes := fun n hn => of_decide_eq_true (List.all_eq_true.1 hsz _ (DataW.weights_mem_each (j := 0) (t := 28) (d := d0) (by rfl) (by rfl) n hn))
  obtain ⟨c0, y0, rfl, g0, s0⟩ := agg_of_struct rd28 Tryd.underlying28 ok0 k0 wt0
  refine (wplans_any W _ y0 hlook (planV_of g0) (sz_of s0)).mono fun e W' ⟨he, bel⟩ => ?_
  subst he
  exact ⟨_, rfl, _, _, _, [], _, _, hW', trodAll_mk1 (shut_bool Tryd.underlying4 _), (trodAll_cons_mk (Below.trod laidOut (by kernel_rfl) (of_decide_eq_true (by kernel_rfl)) k0 bel lt0) trodAll_mk0), rfl, bel.frame _, fun h => by cases h⟩
theorem over : Rows.windowPlansRow.holds Tryd.pinned (OpenSpec.ofChange Rows.windowPlansSpec) :=
  OpenClaim.holds_of_wide 8 Tryd.f8 rfl rfl rfl rfl rfl rfl rfl ⟨rfl, rfl, rfl, rfl, rfl⟩ rfl rfl rfl rfl rfl (by kernel_rfl) Tryd.func8 (by kernel_rfl)
    (of_decide_eq_true (by kernel_rfl)) (by unfold Func.isWrapper; first | (rw [if_pos (by decide +kernel)]; kernel_rfl) | (rw [if_neg (by decide +kernel)]; exact ⟨rfl, rfl⟩))
    (fun os started H enc _ => lifted os started H enc)
theorem proved : Rows.WindowPlansSaid := over
set_option maxRecDepth 100000 in
theorem cardProved : Rows.WindowPlansCardSaid :=
  Claim7.holds_tied_plain_at .later [] [.data] true (true, "c9db816847e399c6884c11739e1de6dfc7c5a0f1140451e23d00b182854e71d3") true
    proved (fun _ h => by cases h) (by kernel_rfl) (fun _ h => by cases h) windowPlans_row_tie rfl ⟨rfl, rfl⟩ (by kernel_rfl) rfl
    (fun f fn hf hfn => by
      obtain rfl : f = 8 := Option.some.inj ((show Tryd.prog.funcNamed "purlin/purlinlaw24.WindowPlans" = some 8 by kernel_rfl).symm.trans hf) |>.symm
      obtain rfl : fn = Tryd.f8 := (Option.some.inj (Tryd.func8.symm.trans hfn)).symm
      exact ⟨by kernel_rfl, fun j t ht => by
        rw [Tryd.params8] at ht
        have hm : t ∈ [28] := List.mem_of_getElem? (l := [28]) (i := j) (by simpa using ht)
        simp only [List.mem_cons, List.not_mem_nil, or_false] at hm
        rcases hm with rfl
        · exact (by kernel_rfl : Tryd.prog.wantsStandIn 28 = false)⟩)
    (by kernel_rfl)
#print axioms proved
end Go.Proofs.YtidjkhmlpgkaaaaDoor.windowPlans
namespace Go.Proofs.YtidjkhmlpgkaaaaDoor
/-- The row, under a short name, for the claim. -/
theorem windowPlans_holds : Rows.WindowPlansSaid := windowPlans.proved
theorem windowPlans_card_holds : Rows.WindowPlansCardSaid := windowPlans.cardProved
end Go.Proofs.YtidjkhmlpgkaaaaDoor
