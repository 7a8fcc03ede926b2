/- BlobWhys: an error's number and place are told, however often it is wrapped.
   For every input. -/
import Derived.Test.YtdfbiofmfjmkaaaDoorRows
import Derived.Test.YtdfbiofmfjmkaaaDoorBlbU
import Derived.Test.YtdfbiofmfjmkaaaDoorBlbR
import Derived.Test.YtdfbiofmfjmkaaaDoorKitR
import Derived.Test.YtdfbiofmfjmkaaaDoorRds
import Derived.WalkKit
import Derived.ProofKit
import Derived.OpenShut
import Derived.ShutString
import Derived.ChangeOld
import Derived.Below
import Derived.SizedLaws
import Derived.Test.YtdfbiofmfjmkaaaDoorTie
import Derived.Test.YtdfbiofmfjmkaaaDoorCards
import Derived.LaidMore
import Derived.Lay
import Derived.SevenTiedAt
import Derived.Stop.Joined
import Derived.WalkSmall
namespace Go.Proofs.YtdfbiofmfjmkaaaDoor.blobWhys
open Go.ChangeShapes Go.WideShapes Go.ChangeAt Go.RowKit
open Go.ChangeMaps (open_string shut_string)
set_option linter.unusedVariables false
theorem own : ownKnob Tryd.prog.godebug = none := by kernel_rfl
theorem laidOut : laidOutB Tryd.prog = true := by kernel_rfl
set_option maxRecDepth 100000 in
theorem lifted (os : Os) (started : os.Started) (H : Type) (enc : TypeId × Value → H) :
    ReturnsInHanded {} Tryd.checked os 7 .any (fun w args => (Rows.blobWhysSpec.pre enc Tryd.prog Tryd.f7 Rows.blobWhysRow.domain false w args ∧ laidMetH Tryd.prog [("errors.errorType", Rows.laid_errors_errorType)] w) ∧ sizedMet enc Tryd.prog Tryd.f7 (OpenSpec.ofChange Rows.blobWhysSpec) false w args) (Rows.blobWhysSpec.post enc Tryd.prog Tryd.f7 false true false false) := by
  refine returnsInHanded_of_change_and (C := Tryd.checked) (X := fun w _ => laidMetH Tryd.prog [("errors.errorType", Rows.laid_errors_errorType)] w) (fun _ _ _ hh h => h.of_heap hh) own started (by kernel_rfl) Tryd.func7
    (ChangeSpec.witness_at (enc := enc) (C := Tryd.checked) (os := os) (X := fun w _ => laidMetH Tryd.prog [("errors.errorType", Rows.laid_errors_errorType)] w) false (laidWorld os) #[.int .i64 0, .int .i64 0, .agg #[.int .u8 0, .bool false]] 8 rfl (by kernel_rfl) (by kernel_rfl) (by kernel_rfl) (by kernel_rfl) (by kernel_rfl) (laidWorld_met os _)) ?_
  intro W base args ds gs before hval0 hW hcnd hsz0 hL _
  have hsz : (DataW.weightsEach Tryd.prog (Tryd.f7.params.toList ++ Rows.blobWhysSpec.plain.varTypes Tryd.prog) (ds ++ gs)).all (· ≤ reachBytes) = true := hsz0
  have hval : ∀ (j : Nat) t v, Tryd.f7.params[j]? = some t → args[j]? = some v → Value.okWide Tryd.prog W .any base t v := hval0
  have hW' := hW
  obtain ⟨p, q, hA0, hV, rfl, hfz, hnd⟩ := hW
  have hA : DataW.TrodAll enc Tryd.prog W 0 (fun _ => true) true Tryd.f7.params.toList args.toList ds p := hA0
  rw [Tryd.params7] at hA hval hsz
  obtain ⟨v0, vs0, d0, ds0, p0, q0, hargs, rfl, rfl, h0, r0⟩ := trodAll_cons hA
  obtain ⟨v1, vs1, d1, ds1, p1, q1, rfl, rfl, rfl, h1, r1⟩ := trodAll_cons r0
  obtain ⟨v2, vs2, d2, ds2, p2, q2, rfl, rfl, rfl, h2, r2⟩ := trodAll_cons r1
  obtain ⟨rfl, rfl, rfl⟩ := trodAll_nil r2
  obtain rfl : args = #[v0, v1, v2] := by cases args; simp_all
  obtain ⟨rfl, rfl⟩ := trodVars_none hV
  have hlook := look_of_laid hL
  have k0 := h0
  have lt0 : ∀ x ∈ p0, x.block < W.heap.size := by obtain ⟨m, hm⟩ := k0; exact DataW.trod_lt m _ _ _ hm
  have ok0 := hval 0 3 v0 rfl rfl
  obtain ⟨x0, hv0, _, _, wf0⟩ := open_int Tryd.underlying3 ok0 h0
  subst hv0
  have b0 := bounds_i64 wf0
  have k1 := h1
  have lt1 : ∀ x ∈ p1, x.block < W.heap.size := by obtain ⟨m, hm⟩ := k1; exact DataW.trod_lt m _ _ _ hm
  have ok1 := hval 1 3 v1 rfl rfl
  obtain ⟨x1, hv1, _, _, wf1⟩ := open_int Tryd.underlying3 ok1 h1
  subst hv1
  have b1 := bounds_i64 wf1
  have k2 := h2
  have lt2 : ∀ x ∈ p2, x.block < W.heap.size := by obtain ⟨m, hm⟩ := k2; exact DataW.trod_lt m _ _ _ hm
  have ok2 := hval 2 53 v2 rfl rfl
  have wt2 : ∀ n ∈ d2.weights Tryd.prog 53, n ≤ reachBytes := fun n hn => of_decide_eq_true (List.all_eq_true.1 hsz _ (DataW.weights_mem_each (j := 2) (t := 53) (d := d2) (by rfl) (by rfl) n hn))
  obtain ⟨c2, y2, rfl, g2, s2⟩ := agg_of_struct rd53 Tryd.underlying53 ok2 k2 wt2
  obtain ⟨dd, bb, rfl, hd⟩ := deep_arr g2
  refine (whys_any W x0 x1 dd bb hlook hd.1 hd.2).mono fun e W' ⟨he, bel⟩ => ?_
  subst he
  exact ⟨_, rfl, _, _, _, [], _, _, hW', trodAll_mk1 (shut_bool Tryd.underlying4 _), (trodAll_cons_mk (Below.trod laidOut (by kernel_rfl) (of_decide_eq_true (by kernel_rfl)) k0 bel lt0) (trodAll_cons_mk (Below.trod laidOut (by kernel_rfl) (of_decide_eq_true (by kernel_rfl)) k1 bel lt1) (trodAll_cons_mk (Below.trod laidOut (by kernel_rfl) (of_decide_eq_true (by kernel_rfl)) k2 bel lt2) trodAll_mk0))), rfl, bel.frame _, fun h => by cases h⟩
theorem over : Rows.blobWhysRow.holds Tryd.pinned (OpenSpec.ofChange Rows.blobWhysSpec) :=
  OpenClaim.holds_of_wide 7 Tryd.f7 rfl rfl rfl rfl rfl rfl rfl ⟨rfl, rfl, rfl, rfl, rfl⟩ rfl rfl rfl rfl rfl (by kernel_rfl) Tryd.func7 (by kernel_rfl)
    (of_decide_eq_true (by kernel_rfl)) (by unfold Func.isWrapper; first | (rw [if_pos (by decide +kernel)]; kernel_rfl) | (rw [if_neg (by decide +kernel)]; exact ⟨rfl, rfl⟩))
    (fun os started H enc _ => lifted os started H enc)
theorem proved : Rows.BlobWhysSaid := over
set_option maxRecDepth 100000 in
theorem cardProved : Rows.BlobWhysCardSaid :=
  Claim7.holds_tied_plain_at .later [] [.handle] true (true, "a784ada496325d311839da3e81b83879d031a7ec71d016ec285725f05979154d") true
    proved (fun _ h => by cases h) (by kernel_rfl) (fun _ h => by cases h) blobWhys_row_tie rfl ⟨rfl, rfl⟩ (by kernel_rfl) rfl
    (fun f fn hf hfn => by
      obtain rfl : f = 7 := Option.some.inj ((show Tryd.prog.funcNamed "purlin/purlinlaw02.BlobWhys" = some 7 by kernel_rfl).symm.trans hf) |>.symm
      obtain rfl : fn = Tryd.f7 := (Option.some.inj (Tryd.func7.symm.trans hfn)).symm
      exact ⟨by kernel_rfl, fun j t ht => by
        rw [Tryd.params7] at ht
        have hm : t ∈ [3, 3, 53] := List.mem_of_getElem? (l := [3, 3, 53]) (i := j) (by simpa using ht)
        simp only [List.mem_cons, List.not_mem_nil, or_false] at hm
        rcases hm with rfl | rfl | rfl
        · exact (by kernel_rfl : Tryd.prog.wantsStandIn 3 = false)
        · exact (by kernel_rfl : Tryd.prog.wantsStandIn 3 = false)
        · exact (by kernel_rfl : Tryd.prog.wantsStandIn 53 = false)⟩)
    (by kernel_rfl)
#print axioms proved
end Go.Proofs.YtdfbiofmfjmkaaaDoor.blobWhys
namespace Go.Proofs.YtdfbiofmfjmkaaaDoor
/-- The row, under a short name, for the claim. -/
theorem blobWhys_holds : Rows.BlobWhysSaid := blobWhys.proved
theorem blobWhys_card_holds : Rows.BlobWhysCardSaid := blobWhys.cardProved
end Go.Proofs.YtdfbiofmfjmkaaaDoor
