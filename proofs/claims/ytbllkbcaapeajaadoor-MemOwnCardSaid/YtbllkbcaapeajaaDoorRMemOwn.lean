/- MemOwn: the words that are told are their owner's: changed, they change nothing.
   For every input. -/
import Derived.Test.YtbllkbcaapeajaaDoorRows
import Derived.Test.YtbllkbcaapeajaaDoorMemI
import Derived.Test.YtbllkbcaapeajaaDoorMemR
import Derived.Test.YtbllkbcaapeajaaDoorKitR
import Derived.Test.YtbllkbcaapeajaaDoorRds
import Derived.WalkKit
import Derived.ProofKit
import Derived.OpenShut
import Derived.ShutString
import Derived.ChangeOld
import Derived.Below
import Derived.SizedLaws
import Derived.Test.YtbllkbcaapeajaaDoorTie
import Derived.Test.YtbllkbcaapeajaaDoorCards
import Derived.LaidMore
import Derived.Lay
import Derived.SevenTiedAt
import Derived.Stop.Joined
import Derived.WalkSmall
namespace Go.Proofs.YtbllkbcaapeajaaDoor.memOwn
open Go.ChangeShapes Go.WideShapes Go.ChangeAt Go.RowKit
open Go.ChangeMaps (open_string shut_string)
set_option linter.unusedVariables false
theorem own : ownKnob Tryd.prog.godebug = none := by kernel_rfl
theorem laidOut : laidOutB Tryd.prog = true := by kernel_rfl
set_option maxRecDepth 100000 in
theorem lifted (os : Os) (started : os.Started) (H : Type) (enc : TypeId × Value → H) :
    ReturnsInHanded {} Tryd.checked os 6 .any (fun w args => (Rows.memOwnSpec.pre enc Tryd.prog Tryd.f6 Rows.memOwnRow.domain false w args ∧ laidMetH Tryd.prog [("purlin/mem.look", Rows.laid_purlin_mem_look)] w) ∧ sizedMet enc Tryd.prog Tryd.f6 (OpenSpec.ofChange Rows.memOwnSpec) false w args) (Rows.memOwnSpec.post enc Tryd.prog Tryd.f6 false true false false) := by
  refine returnsInHanded_of_change_and (C := Tryd.checked) (X := fun w _ => laidMetH Tryd.prog [("purlin/mem.look", Rows.laid_purlin_mem_look)] w) (fun _ _ _ hh h => h.of_heap hh) own started (by kernel_rfl) Tryd.func6
    (ChangeSpec.witness_shaped (enc := enc) (C := Tryd.checked) (os := os) (X := fun w _ => laidMetH Tryd.prog [("purlin/mem.look", Rows.laid_purlin_mem_look)] w) false (World.laidAll Tryd.prog os [("purlin/mem.look", Rows.laid_purlin_mem_look)]) #[.int .u8 0, .slice none 0 0] 8 (World.laidAll_os _ _ _)
      (World.shaped_of_ZipB (by kernel_rfl) (by kernel_rfl)) (by kernel_rfl) (by kernel_rfl) (by kernel_rfl)
      (by rw [MakeChecks.laidMetH_plain _ _ _ (by kernel_rfl)]; exact laidMet_laidAll _ (by kernel_rfl) (by kernel_rfl))) ?_
  intro W base args ds gs before hval0 hW hcnd _ hL _
  have hval : ∀ (j : Nat) t v, Tryd.f6.params[j]? = some t → args[j]? = some v → Value.okWide Tryd.prog W .any base t v := hval0
  have hW' := hW
  obtain ⟨p, q, hA0, hV, rfl, hfz, hnd⟩ := hW
  have hA : DataW.TrodAll enc Tryd.prog W 0 (fun _ => true) true Tryd.f6.params.toList args.toList ds p := hA0
  rw [Tryd.params6] at hA hval
  obtain ⟨v0, vs0, d0, ds0, p0, q0, hargs, rfl, rfl, h0, r0⟩ := trodAll_cons hA
  obtain ⟨v1, vs1, d1, ds1, p1, q1, rfl, rfl, rfl, h1, r1⟩ := trodAll_cons r0
  obtain ⟨rfl, rfl, rfl⟩ := trodAll_nil r1
  obtain rfl : args = #[v0, v1] := by cases args; simp_all
  obtain ⟨rfl, rfl⟩ := trodVars_none hV
  have hlook := look_of_laid hL
  have k0 := h0
  have lt0 : ∀ x ∈ p0, x.block < W.heap.size := by obtain ⟨m, hm⟩ := k0; exact DataW.trod_lt m _ _ _ hm
  have ok0 := hval 0 5 v0 rfl rfl
  obtain ⟨x0, hv0, _, _, wf0⟩ := open_int Tryd.underlying5 ok0 h0
  subst hv0
  have b0 := bounds_u8 wf0
  have k1 := h1
  have lt1 : ∀ x ∈ p1, x.block < W.heap.size := by obtain ⟨m, hm⟩ := k1; exact DataW.trod_lt m _ _ _ hm
  have ok1 := hval 1 22 v1 rfl rfl
  obtain ⟨a1, len1, cap1, rfl⟩ := okWide_slice Tryd.underlying22 ok1
  obtain ⟨y1, g1'⟩ := rd22.open1 k1
  have g1 := elems_of g1'
  refine (own_any W hlook x0 b0.1 (by omega) _ y1 g1).mono fun e W' ⟨he, bel⟩ => ?_
  subst he
  exact ⟨_, rfl, _, _, _, [], _, _, hW', trodAll_mk1 (shut_bool Tryd.underlying4 _), (trodAll_cons_mk (Below.trod laidOut (by kernel_rfl) (of_decide_eq_true (by kernel_rfl)) k0 bel lt0) (trodAll_cons_mk (Below.trod laidOut (by kernel_rfl) (of_decide_eq_true (by kernel_rfl)) k1 bel lt1) trodAll_mk0)), rfl, bel.frame _, fun h => by cases h⟩
theorem over : Rows.memOwnRow.holds Tryd.pinned (OpenSpec.ofChange Rows.memOwnSpec) :=
  OpenClaim.holds_of_wide 6 Tryd.f6 rfl rfl rfl rfl rfl rfl rfl ⟨rfl, rfl, rfl, rfl, rfl⟩ rfl rfl rfl rfl rfl (by kernel_rfl) Tryd.func6 (by kernel_rfl)
    (of_decide_eq_true (by kernel_rfl)) (by unfold Func.isWrapper; first | (rw [if_pos (by decide +kernel)]; kernel_rfl) | (rw [if_neg (by decide +kernel)]; exact ⟨rfl, rfl⟩))
    (fun os started H enc _ => lifted os started H enc)
theorem proved : Rows.MemOwnSaid := over
theorem cardProved : Rows.MemOwnCardSaid :=
  Claim7.holds_tied_plain_at .later [] [.data] true (true, "3f0ab631f29a156cef0371e0e9cde298c10058b8d35d57a24a9be2869f2a509d") false
    proved (fun _ h => by cases h) (by kernel_rfl) (fun _ h => by cases h) memOwn_row_tie rfl ⟨rfl, rfl⟩ (by kernel_rfl) rfl
    (fun f fn hf hfn => by
      obtain rfl : f = 6 := Option.some.inj ((show Tryd.prog.funcNamed "purlin/purlinlaw07.MemOwn" = some 6 by kernel_rfl).symm.trans hf) |>.symm
      obtain rfl : fn = Tryd.f6 := (Option.some.inj (Tryd.func6.symm.trans hfn)).symm
      exact ⟨by kernel_rfl, fun j t ht => by
        rw [Tryd.params6] at ht
        have hm : t ∈ [5, 22] := List.mem_of_getElem? (l := [5, 22]) (i := j) (by simpa using ht)
        simp only [List.mem_cons, List.not_mem_nil, or_false] at hm
        rcases hm with rfl | rfl
        · exact (by kernel_rfl : Tryd.prog.wantsStandIn 5 = false)
        · exact (by kernel_rfl : Tryd.prog.wantsStandIn 22 = false)⟩)
    (by kernel_rfl)
#print axioms proved
end Go.Proofs.YtbllkbcaapeajaaDoor.memOwn
namespace Go.Proofs.YtbllkbcaapeajaaDoor
/-- The row, under a short name, for the claim. -/
theorem memOwn_holds : Rows.MemOwnSaid := memOwn.proved
theorem memOwn_card_holds : Rows.MemOwnCardSaid := memOwn.cardProved
end Go.Proofs.YtbllkbcaapeajaaDoor
