/- GangMissed: who has missed a round came too late: another one had come to a later one.
   For every input. -/
import Derived.Test.YtnidplpjkhepmaaDoorRows
import Derived.Test.YtnidplpjkhepmaaDoorGangH
import Derived.Test.YtnidplpjkhepmaaDoorLookR
import Derived.Test.YtnidplpjkhepmaaDoorKitR
import Derived.Test.YtnidplpjkhepmaaDoorRds
import Derived.WalkKit
import Derived.ProofKit
import Derived.OpenShut
import Derived.ShutString
import Derived.ChangeOld
import Derived.Below
import Derived.SizedLaws
import Derived.Test.YtnidplpjkhepmaaDoorTie
import Derived.Test.YtnidplpjkhepmaaDoorCards
import Derived.LaidMore
import Derived.Lay
import Derived.SevenTiedAt
import Derived.Stop.Joined
import Derived.WalkSmall
namespace Go.Proofs.YtnidplpjkhepmaaDoor.gangMissed
open Go.ChangeShapes Go.WideShapes Go.ChangeAt Go.RowKit
open Go.ChangeMaps (open_string shut_string)
set_option linter.unusedVariables false
theorem own : ownKnob Tryd.prog.godebug = none := by kernel_rfl
theorem laidOut : laidOutB Tryd.prog = true := by kernel_rfl
set_option maxRecDepth 100000 in
theorem lifted (os : Os) (started : os.Started) (H : Type) (enc : TypeId × Value → H) :
    ReturnsInHanded {} Tryd.checked os 5 .any (fun w args => (Rows.gangMissedSpec.pre enc Tryd.prog Tryd.f5 Rows.gangMissedRow.domain false w args ∧ laidMetH Tryd.prog [("purlin/mem.look", Rows.laid_purlin_mem_look)] w) ∧ sizedMet enc Tryd.prog Tryd.f5 (OpenSpec.ofChange Rows.gangMissedSpec) false w args) (Rows.gangMissedSpec.post enc Tryd.prog Tryd.f5 false true false false) := by
  refine returnsInHanded_of_change_and (C := Tryd.checked) (X := fun w _ => laidMetH Tryd.prog [("purlin/mem.look", Rows.laid_purlin_mem_look)] w) (fun _ _ _ hh h => h.of_heap hh) own started (by kernel_rfl) Tryd.func5
    (ChangeSpec.witness_shaped (enc := enc) (C := Tryd.checked) (os := os) (X := fun w _ => laidMetH Tryd.prog [("purlin/mem.look", Rows.laid_purlin_mem_look)] w) false (World.laidAll Tryd.prog os [("purlin/mem.look", Rows.laid_purlin_mem_look)]) #[.int .u8 0, .slice none 0 0] 8 (World.laidAll_os _ _ _)
      (World.shaped_of_ZipB (by kernel_rfl) (by kernel_rfl)) (by kernel_rfl) (by kernel_rfl) (by kernel_rfl)
      (by rw [MakeChecks.laidMetH_plain _ _ _ (by kernel_rfl)]; exact laidMet_laidAll _ (by kernel_rfl) (by kernel_rfl))) ?_
  intro W base args ds gs before hval0 hW hcnd _ hL _
  have hval : ∀ (j : Nat) t v, Tryd.f5.params[j]? = some t → args[j]? = some v → Value.okWide Tryd.prog W .any base t v := hval0
  have hW' := hW
  obtain ⟨p, q, hA0, hV, rfl, hfz, hnd⟩ := hW
  have hA : DataW.TrodAll enc Tryd.prog W 0 (fun _ => true) true Tryd.f5.params.toList args.toList ds p := hA0
  rw [Tryd.params5] at hA hval
  obtain ⟨v0, vs0, d0, ds0, p0, q0, hargs, rfl, rfl, h0, r0⟩ := trodAll_cons hA
  obtain ⟨v1, vs1, d1, ds1, p1, q1, rfl, rfl, rfl, h1, r1⟩ := trodAll_cons r0
  obtain ⟨rfl, rfl, rfl⟩ := trodAll_nil r1
  obtain rfl : args = #[v0, v1] := by cases args; simp_all
  obtain ⟨rfl, rfl⟩ := trodVars_none hV
  have hlook := look_of_laid hL
  have k0 := h0
  have lt0 : ∀ x ∈ p0, x.block < W.heap.size := by obtain ⟨m, hm⟩ := k0; exact DataW.trod_lt m _ _ _ hm
  have ok0 := hval 0 5 v0 rfl rfl
  obtain ⟨x0, hv0, _, _, wf0⟩ := open_int Tryd.underlying5 ok0 h0
  subst hv0
  have b0 := bounds_u8 wf0
  have k1 := h1
  have lt1 : ∀ x ∈ p1, x.block < W.heap.size := by obtain ⟨m, hm⟩ := k1; exact DataW.trod_lt m _ _ _ hm
  have ok1 := hval 1 22 v1 rfl rfl
  obtain ⟨a1, len1, cap1, rfl⟩ := okWide_slice Tryd.underlying22 ok1
  obtain ⟨y1, g1'⟩ := rd22.open1 k1
  have g1 := elems_of g1'
  refine (gmissed_any W hlook x0 b0.1 (by omega) _ y1 g1).mono fun e W' ⟨he, bel⟩ => ?_
  subst he
  exact ⟨_, rfl, _, _, _, [], _, _, hW', trodAll_mk1 (shut_bool Tryd.underlying4 _), (trodAll_cons_mk (Below.trod laidOut (by kernel_rfl) (of_decide_eq_true (by kernel_rfl)) k0 bel lt0) (trodAll_cons_mk (Below.trod laidOut (by kernel_rfl) (of_decide_eq_true (by kernel_rfl)) k1 bel lt1) trodAll_mk0)), rfl, bel.frame _, fun h => by cases h⟩
theorem over : Rows.gangMissedRow.holds Tryd.pinned (OpenSpec.ofChange Rows.gangMissedSpec) :=
  OpenClaim.holds_of_wide 5 Tryd.f5 rfl rfl rfl rfl rfl rfl rfl ⟨rfl, rfl, rfl, rfl, rfl⟩ rfl rfl rfl rfl rfl (by kernel_rfl) Tryd.func5 (by kernel_rfl)
    (of_decide_eq_true (by kernel_rfl)) (by unfold Func.isWrapper; first | (rw [if_pos (by decide +kernel)]; kernel_rfl) | (rw [if_neg (by decide +kernel)]; exact ⟨rfl, rfl⟩))
    (fun os started H enc _ => lifted os started H enc)
theorem proved : Rows.GangMissedSaid := over
theorem cardProved : Rows.GangMissedCardSaid :=
  Claim7.holds_tied_plain_at .later [] [.data] true (true, "dedb03af45e0ebe70bc4ac131bc5c32c1c86b6a2c66a9c4784964f3216c73a27") false
    proved (fun _ h => by cases h) (by kernel_rfl) (fun _ h => by cases h) gangMissed_row_tie rfl ⟨rfl, rfl⟩ (by kernel_rfl) rfl
    (fun f fn hf hfn => by
      obtain rfl : f = 5 := Option.some.inj ((show Tryd.prog.funcNamed "purlin/purlinlaw23.GangMissed" = some 5 by kernel_rfl).symm.trans hf) |>.symm
      obtain rfl : fn = Tryd.f5 := (Option.some.inj (Tryd.func5.symm.trans hfn)).symm
      exact ⟨by kernel_rfl, fun j t ht => by
        rw [Tryd.params5] at ht
        have hm : t ∈ [5, 22] := List.mem_of_getElem? (l := [5, 22]) (i := j) (by simpa using ht)
        simp only [List.mem_cons, List.not_mem_nil, or_false] at hm
        rcases hm with rfl | rfl
        · exact (by kernel_rfl : Tryd.prog.wantsStandIn 5 = false)
        · exact (by kernel_rfl : Tryd.prog.wantsStandIn 22 = false)⟩)
    (by kernel_rfl)
#print axioms proved
end Go.Proofs.YtnidplpjkhepmaaDoor.gangMissed
namespace Go.Proofs.YtnidplpjkhepmaaDoor
/-- The row, under a short name, for the claim. -/
theorem gangMissed_holds : Rows.GangMissedSaid := gangMissed.proved
theorem gangMissed_card_holds : Rows.GangMissedCardSaid := gangMissed.cardProved
end Go.Proofs.YtnidplpjkhepmaaDoor
