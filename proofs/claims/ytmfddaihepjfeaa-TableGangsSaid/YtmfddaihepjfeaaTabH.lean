/- The table: the gangs. -/
import Derived.Test.YtmfddaihepjfeaaTabG
import Derived.Deep.CutBlock
namespace Go.Proofs.Ytmfddaihepjfeaa
open Go.RowKit
set_option linter.unusedVariables false
set_option linter.unusedSimpArgs false

abbrev GangR : Type := Int × Int × Win
def GangR.cells (x : GangR) : List Value := [.int .u8 x.1, .int .u8 x.2.1, .int .u16 (Win.s x.2.2), .int .u16 (Win.l x.2.2), .int .u8 (Win.p x.2.2), .int .u8 (Win.g x.2.2)]
def gangM (C : List (List Win)) (g : Int) : Nat := maskTo (fun c => hasG (C.getD c []) g) C.length
def gangAt (C : List (List Win)) (g : Nat) : List GangR := if gangM C g = 0 then [] else [((g : Int), (gangM C g : Int), lastW C g C.length)]
def gangsTo (C : List (List Win)) (k : Nat) : List GangR := (List.range k).flatMap fun i => gangAt C (i + 1)
theorem gangsTo_succ (C : List (List Win)) (k : Nat) : gangsTo C (k + 1) = gangsTo C k ++ gangAt C (k + 1) := by
  simp [gangsTo, List.range_succ, List.flatMap_append]
theorem gangsTo_len (C : List (List Win)) (k : Nat) : (gangsTo C k).length ≤ k := by
  induction k with
  | zero => simp [gangsTo]
  | succ k ih =>
    rw [gangsTo_succ, List.length_append]
    have : (gangAt C (k + 1)).length ≤ 1 := by unfold gangAt; split <;> simp
    omega
theorem A_info_gang : (Try.prog.info? 54).map (fun i => (i.zero, i.size, i.bytes)) = some (some (.agg #[.int .u8 0, .int .u8 0, .int .u16 0, .int .u16 0, .int .u8 0, .int .u8 0]), 6, 8) := by kernel_rfl

set_option maxHeartbeats 3200000 in
theorem gangs_any (w : World) (v : Value) (P : Plan) (hv : PlanV w v P) (hC : (Plan.cores P).length ≤ 8) :
    Calls Try.prog 24 #[v] w fun e w' => ∃ r, e = .returned r ∧ w'.ownsRow w.heap.size 54 6 r (gangsTo (Plan.cores P) 255).length ((gangsTo (Plan.cores P) 255).flatMap GangR.cells) ∧ Below w.heap.size w w' := by
  obtain ⟨a0, c0, a1, c1, a2, c2, a3, c3, rfl, hp, hlen⟩ := hv.open_
  have HC := Aside.mk hp.cores
  clear hp hv
  generalize Plan.cores P = C at *
  obtain ⟨box, hbx⟩ : ∃ box, Aside (box = Obj.cells #[.int .u16 (Plan.frame P), .slice a0 C.length c0, .slice a1 (Plan.parts P).length c1, .slice a2 (Plan.chans P).length c2, .slice a3 (Plan.pairs P).length c3] 28 (0, 0)) := ⟨_, ⟨rfl⟩⟩
  obtain ⟨W1, HW⟩ : ∃ W1, Aside (W1 = w.alloc (.cells #[.int .u16 (Plan.frame P), .slice a0 C.length c0, .slice a1 (Plan.parts P).length c1, .slice a2 (Plan.chans P).length c2, .slice a3 (Plan.pairs P).length c3] 28)) := ⟨_, ⟨rfl⟩⟩
  have hb1 : Aside (Below w.heap.size w W1 ∧ W1.heap[w.heap.size]? = some box) := ⟨by rw [HW.out, hbx.out]; exact ⟨bel_one _ _, heap_alloc_new _ _⟩⟩
  go_enter Try.func24, Try.ntmps24
  go_wp2_with fail
  rw [← HW.out]
  go_loopw [3, 4] (fun q i wr => ∃ (k : Nat) (v : Value), k ≤ 255 ∧ i = .int .i64 ((k : Int) + 1) ∧ v = q ∧ Aside (wr.ownsRow (w.heap.size + 1) 54 6 v (gangsTo C k).length ((gangsTo C k).flatMap GangR.cells) ∧ Below w.heap.size w wr ∧ wr.heap[w.heap.size]? = some box)) (fun _ i _ => (257 - intOf i).toNat)
  case atStart =>
    refine ⟨0, _, by omega, rfl, rfl, ⟨?_, hb1.out⟩⟩
    have := own_nil W1 (w.heap.size + 1) 54 6
    simpa [gangsTo] using this
  case round =>
    obtain ⟨k, v, hk, rfl, rfl, T⟩ := hrel
    by_cases hk2 : k < 255
    · obtain ⟨g, hg⟩ : ∃ g : Int, Aside ((k : Int) + 1 = g) := ⟨_, ⟨rfl⟩⟩
      have g1 : 1 ≤ g := by have := hg.out; omega
      have g2 : g ≤ 255 := by have := hg.out; omega
      obtain ⟨W2, HW2⟩ : ∃ W2, Aside (W2 = wr.alloc (.cells #[.int .u8 g, .int .u8 0, .int .u16 0, .int .u16 0, .int .u8 0, .int .u8 0] 54)) := ⟨_, ⟨rfl⟩⟩
      have hX : Aside (GnSt w w.heap.size wr.heap.size box g 0 (lastW C g 0) W2 ∧ W2.ownsRow (w.heap.size + 1) 54 6 v (gangsTo C k).length ((gangsTo C k).flatMap GangR.cells)) := ⟨by
        rw [HW2.out]
        refine ⟨⟨bel_alloc T.out.2.1 _, ?_, heap_alloc_new _ _, T.out.2.1.size, ?_⟩, T.out.1.alloc _⟩
        · exact ((bel_one wr _).block _ (lt_of_block T.out.2.2)).trans T.out.2.2
        · have := lt_of_block T.out.2.2; omega⟩
      have hbx2 := T.out.2.2
      rw [hbx.out] at hbx2
      have cc1 : wr.cell? ⟨w.heap.size, 1, none⟩ = some (.slice a0 C.length c0) := by simp [World.cell?, hbx2]
      have hbl : w.heap.size < wr.heap.size := lt_of_block hbx2
      have K := Aside.mk (where_any (C.length : Int) (by omega) 37 #[.pointer (some ⟨w.heap.size, 0, none⟩), .pointer (some ⟨wr.heap.size, 0, none⟩)] callFunc_gangs1 (fun c => hasG (C.getD c []) g)
        (fun c a => GnSt w w.heap.size wr.heap.size box g 0 (lastW C g c) a ∧ a.ownsRow (w.heap.size + 1) 54 6 v (gangsTo C k).length ((gangsTo C k).flatMap GangR.cells))
        (fun c hc8 hcn a J => by
          have h := gangs1_any w w.heap.size wr.heap.size (Plan.frame P) a0 c0 (.slice a1 (Plan.parts P).length c1, .slice a2 (Plan.chans P).length c2, .slice a3 (Plan.pairs P).length c3) g (lastW C g c) C HC.out c (by omega) hlen a (by rw [← hbx.out]; exact J.1)
          rw [← hbx.out] at h
          refine h.mono ?_
          rintro e b ⟨rfl, s, k2⟩
          exact ⟨rfl, s, own_kept J.2 k2 (fun r hr => by have := own_lt T.out.1 r hr; omega)⟩) W2 hX.out)
      rw [show min (C.length : Int).toNat 8 = C.length by omega] at K
      clear hbx2
      obtain ⟨m, hm⟩ : ∃ m : Nat, Aside (gangM C g = m ∧ m < 256) := ⟨_, ⟨rfl, maskTo_lt _ _ hC⟩⟩
      have K : Aside (Calls Try.prog 36 #[.int .i64 (C.length : Int), .func (.func 37) #[] #[.pointer (some ⟨w.heap.size, 0, none⟩), .pointer (some ⟨wr.heap.size, 0, none⟩)]] W2 fun e w' => e = .returned (.int .u8 (m : Int)) ∧ GnSt w w.heap.size wr.heap.size box g 0 (lastW C g C.length) w' ∧ w'.ownsRow (w.heap.size + 1) 54 6 v (gangsTo C k).length ((gangsTo C k).flatMap GangR.cells)) := ⟨by
        have h := K.out
        rw [show maskTo (fun c => hasG (C.getD c []) g) C.length = m from hm.out.1] at h
        exact h⟩
      have hm2 := hm.out.2
      have HGA : Aside (gangsTo C (k + 1) = gangsTo C k ++ if m = 0 then [] else [(g, (m : Int), lastW C g C.length)]) := ⟨by
        rw [gangsTo_succ, gangAt, show (((k + 1 : Nat)) : Int) = g by have := hg.out; omega, hm.out.1]⟩
      rw [hg.out]
      go_wp2_with fail
      rw [← HW2.out]
      refine K.out.mono ?_
      rintro e w3 ⟨rfl, s3, own3⟩
      have S3 := Aside.mk (And.intro (s3.putM (m : Int)) (own_kept (S := fun k => k = wr.heap.size) own3 ((Kept.refl (fun k => k = wr.heap.size) w3).setCell (p := ⟨wr.heap.size, 1, none⟩) (.inl rfl) (.int .u8 (m : Int))) (fun r hr => by have := own_lt T.out.1 r hr; omega)))
      have hx3 := s3.x
      have x0 : w3.cell? ⟨wr.heap.size, 0, none⟩ = some (.int .u8 g) := by simp [World.cell?, hx3, gangObj]
      have x1 : w3.cell? ⟨wr.heap.size, 1, none⟩ = some (.int .u8 0) := by simp [World.cell?, hx3, gangObj]
      have x2 : w3.cell? ⟨wr.heap.size, 2, none⟩ = some (.int .u16 (Win.s (lastW C g C.length))) := by simp [World.cell?, hx3, gangObj]
      have x3 : w3.cell? ⟨wr.heap.size, 3, none⟩ = some (.int .u16 (Win.l (lastW C g C.length))) := by simp [World.cell?, hx3, gangObj]
      have x4 : w3.cell? ⟨wr.heap.size, 4, none⟩ = some (.int .u8 (Win.p (lastW C g C.length))) := by simp [World.cell?, hx3, gangObj]
      have x5 : w3.cell? ⟨wr.heap.size, 5, none⟩ = some (.int .u8 (Win.g (lastW C g C.length))) := by simp [World.cell?, hx3, gangObj]
      have f1 : w3.frozen? ⟨wr.heap.size, 1, none⟩ = false := by simp [World.frozen?, hx3, gangObj]
      have hl3 := lt_of_block hx3
      have hk1 : Aside ((k : Int) + 1 = g) := hg
      have hlen2 : Aside ((gangsTo C k).length ≤ 255) := ⟨by have := gangsTo_len C k; omega⟩
      generalize lastW C g C.length = V at *
      clear s3 own3 hx3 cc1 hX
      by_cases hm0 : m = 0
      · have HG := Aside.mk (HGA.out.trans (by rw [if_pos hm0, List.append_nil]))
        subst hm0
        go_wp2_with fail
        go_roundw
        case rel => exact ⟨k + 1, _, by omega, by have := hk1.out; show Value.int .i64 _ = Value.int .i64 _; congr 1; omega, rfl, by rw [HG.out]; exact ⟨by simpa using S3.out.2, by simpa using S3.out.1.below, by simpa using S3.out.1.box⟩⟩
        case measure => simp [intOf]; omega
      · have HG := Aside.mk (HGA.out.trans (by rw [if_neg hm0]))
        have hm1 : ((m : Int) != 0) = true := by simp; omega
        go_upto_region 7 with fail
        obtain ⟨W4, HW4⟩ : ∃ W4, Aside (W4 = w3.setCell ⟨wr.heap.size, 1, none⟩ (.int .u8 (m : Int))) := ⟨_, ⟨rfl⟩⟩
        rw [← HW4.out] at S3 ⊢
        have hx4 := S3.out.1.x
        clear x0 x1 x2 x3 x4 x5 f1
        have x0 : W4.cell? ⟨wr.heap.size, 0, none⟩ = some (.int .u8 g) := by simp [World.cell?, hx4, gangObj]
        have x1 : W4.cell? ⟨wr.heap.size, 1, none⟩ = some (.int .u8 (m : Int)) := by simp [World.cell?, hx4, gangObj]
        have x2 : W4.cell? ⟨wr.heap.size, 2, none⟩ = some (.int .u16 (Win.s V)) := by simp [World.cell?, hx4, gangObj]
        have x3 : W4.cell? ⟨wr.heap.size, 3, none⟩ = some (.int .u16 (Win.l V)) := by simp [World.cell?, hx4, gangObj]
        have x4 : W4.cell? ⟨wr.heap.size, 4, none⟩ = some (.int .u8 (Win.p V)) := by simp [World.cell?, hx4, gangObj]
        have x5 : W4.cell? ⟨wr.heap.size, 5, none⟩ = some (.int .u8 (Win.g V)) := by simp [World.cell?, hx4, gangObj]
        have hsz : Aside (w.heap.size + 1 ≤ W4.heap.size) := ⟨by have := lt_of_block hx4; omega⟩
        clear hx4
        go_wp2_with (at_builtin; go_loud (refine append_elem (w.heap.size + 1) rfl _ _ 50 54 (.agg #[.int .u8 0, .int .u8 0, .int .u16 0, .int .u16 0, .int .u8 0, .int .u8 0]) 6 8 rfl Try.underlying50 A_info_gang rfl (by decide) (by decide) v _ _ [.int .u8 g, .int .u8 (m : Int), .int .u16 (Win.s V), .int .u16 (Win.l V), .int .u8 (Win.p V), .int .u8 (Win.g V)] rfl rfl rfl (by simp [Value.oneCell']) S3.out.2 hsz.out (by have := hlen2.out; omega) ?_))
        intro v1 w1 hown1 hgr hat
        have X := Aside.mk (And.intro hown1 (And.intro hgr hat))
        clear hown1 hgr hat x0 x1 x2 x3 x4 x5
        go_wp2_with fail
        go_roundw
        case rel =>
          obtain ⟨hown1, hgr, hat⟩ := X.out
          have hB : Below (w.heap.size + 1) W4 w1 := grown_below hgr hsz.out (fun r hr => own_base S3.out.2 r hr)
          refine ⟨k + 1, _, by omega, by have := hk1.out; show Value.int .i64 _ = Value.int .i64 _; congr 1; omega, rfl, ?_, ?_, ?_⟩
          · rw [HG.out]
            simpa [GangR.cells] using hown1
          · exact S3.out.1.below.trans (hB.mono (by omega))
          · exact (hB.block _ (by omega)).trans S3.out.1.box
        case measure => simp [intOf]; omega
    · obtain rfl : k = 255 := by omega
      go_wp2_with fail
      go_ret
      exact ⟨_, rfl, own_mono T.out.1 (by omega), T.out.2.1⟩
end Go.Proofs.Ytmfddaihepjfeaa
