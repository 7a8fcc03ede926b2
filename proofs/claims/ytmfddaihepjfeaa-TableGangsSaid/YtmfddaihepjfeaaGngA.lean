/- Table: the reference's gangs. -/
import Derived.Test.YtmfddaihepjfeaaTabH
import Derived.Test.YtmfddaihepjfeaaTabV
namespace Go.Proofs.Ytmfddaihepjfeaa
open Go.RowKit
set_option linter.unusedVariables false
set_option linter.unusedSimpArgs false

theorem own_zero (W : World) (e : TypeId) (size : Nat) : (W.alloc (.cells #[] e)).ownsRow W.heap.size e size (.slice (some ⟨W.heap.size, 0, none⟩) 0 0) 0 [] := ⟨by simp, .inr ⟨_, 0, #[], rfl, Nat.le_refl _, heap_alloc_new _ _, Nat.le_refl _, by decide, by simp, by simp⟩⟩
/-- A gang stands once on a core. -/
def Once (C : List (List Win)) : Prop := ∀ (c i j : Nat) (L : List Win) (x y : Win), C[c]? = some L → i < j → L[i]? = some x → L[j]? = some y → Win.g x = Win.g y → Win.g y = 0
theorem once_of {P : Plan} (R : Rules P) : Once (Plan.cores P) := by
  intro c i j L x y hc hij hi hj hg
  have a := allS_get hc hi
  have b := allS_get hc hj
  have hb := (List.getElem?_eq_some_iff.1 b).1
  have h := R.twice _ hb ((allS ((Plan.cores P).take c)).length + i) (by omega)
  rw [twiceF, plAt_some a, plAt_some b] at h
  rcases Classical.em (Win.g y = 0) with q | q
  · exact q
  · rw [if_pos ⟨rfl, hg, q⟩] at h
    cases h
theorem hasG_snoc {L : List Win} {j : Nat} {x : Win} (h : L[j]? = some x) (g : Int) : hasG (L.take (j + 1)) g = (hasG (L.take j) g || decide (Win.g x = g)) := by
  rw [take_snoc h, hasG, List.any_append]
  simp [hasG]
theorem firstG_no {L : List Win} {j : Nat} {x : Win} (h : L[j]? = some x) (g : Int) (hx : ¬ Win.g x = g) (d : Win) : firstG (L.take (j + 1)) g d = firstG (L.take j) g d := by
  rw [take_snoc h, firstG, firstG, List.find?_append]
  cases (L.take j).find? (fun x => decide (Win.g x = g)) <;> simp [hx]
theorem firstG_yes {L : List Win} {j : Nat} {x : Win} (h : L[j]? = some x) (g : Int) (hx : Win.g x = g) (hn : hasG (L.take j) g = false) (d : Win) : firstG (L.take (j + 1)) g d = x := by
  have e : (L.take j).find? (fun x => decide (Win.g x = g)) = none := by
    rw [List.find?_eq_none]
    intro y hy
    have := List.any_eq_false.1 hn y hy
    simpa using this
  rw [take_snoc h, firstG, List.find?_append, e]
  simp [hx]
theorem once_no {C : List (List Win)} (hO : Once C) {c j : Nat} {L : List Win} {x : Win} (hc : C[c]? = some L) (h : L[j]? = some x) (g : Int) (hx : Win.g x = g) (hg : g ≠ 0) : hasG (L.take j) g = false := by
  rw [hasG, List.any_eq_false]
  intro y hy
  obtain ⟨i, hi, rfl⟩ := List.getElem_of_mem hy
  rw [List.length_take] at hi
  rw [List.getElem_take]
  simp only [decide_eq_true_eq]
  intro e
  exact hg (by rw [← hx]; exact hO c i j L _ x hc (by omega) (List.getElem?_eq_getElem (by omega)) h (by rw [e, hx]))
set_option maxHeartbeats 6400000 in
set_option maxRecDepth 100000 in
theorem rgangs_any (w : World) (v : Value) (P : Plan) (hv : PlanV w v P) (hC : (Plan.cores P).length ≤ 8) (hO : Once (Plan.cores P)) :
    Calls Try.prog 25 #[v] w fun e w' => ∃ r, e = .returned r ∧ w'.ownsRow w.heap.size 54 6 r (gangsTo (Plan.cores P) 255).length ((gangsTo (Plan.cores P) 255).flatMap GangR.cells) ∧ Below w.heap.size w w' := by
  obtain ⟨a0, c0, a1, c1, a2, c2, a3, c3, rfl, hp, hlen⟩ := hv.open_
  have HC := Aside.mk hp.cores
  have HO := Aside.mk hO
  clear hp hv hO
  generalize Plan.cores P = C at *
  obtain ⟨box, hbx⟩ : ∃ box, Aside (box = Obj.cells #[.int .u16 (Plan.frame P), .slice a0 C.length c0, .slice a1 (Plan.parts P).length c1, .slice a2 (Plan.chans P).length c2, .slice a3 (Plan.pairs P).length c3] 28 (0, 0)) := ⟨_, ⟨rfl⟩⟩
  obtain ⟨W1, HW⟩ : ∃ W1, Aside (W1 = w.alloc (.cells #[.int .u16 (Plan.frame P), .slice a0 C.length c0, .slice a1 (Plan.parts P).length c1, .slice a2 (Plan.chans P).length c2, .slice a3 (Plan.pairs P).length c3] 28)) := ⟨_, ⟨rfl⟩⟩
  have hb1 : Aside (Below w.heap.size w W1 ∧ W1.heap[w.heap.size]? = some box ∧ W1.heap.size = w.heap.size + 1) := ⟨by rw [HW.out, hbx.out]; exact ⟨bel_one _ _, heap_alloc_new _ _, by simp⟩⟩
  go_enter Try.func25, Try.ntmps25
  go_upto_region 1 with (fail)
  rw [← HW.out]
  go_wp2_with fail
  go_loopg [3, 4] 256 (fun q s3 s4 wr => ∃ (k : Nat) (v : Value), k ≤ 255 ∧ q = 256 - k ∧ s4 = .int .i64 ((k : Int) + 1) ∧ v = s3 ∧ Aside (wr.ownsRow (w.heap.size + 1) 54 6 v (gangsTo C k).length ((gangsTo C k).flatMap GangR.cells) ∧ Below w.heap.size w wr ∧ wr.heap[w.heap.size]? = some box))
  case atStart =>
    refine ⟨0, _, by omega, rfl, rfl, rfl, ⟨?_, bel_then hb1.out.1 (bel_one _ _), ((bel_one _ _).block _ (lt_of_block hb1.out.2.1)).trans hb1.out.2.1⟩⟩
    have := own_zero W1 54 6
    rw [hb1.out.2.2] at this ⊢
    simpa [gangsTo] using this
  case round =>
    obtain ⟨k, v, hk, rfl, rfl, rfl, T⟩ := hrel
    by_cases hk2 : k < 255
    · obtain ⟨g, hg⟩ : ∃ g : Int, Aside ((k : Int) + 1 = g) := ⟨_, ⟨rfl⟩⟩
      have g1 : 1 ≤ g := by have := hg.out; omega
      have g2 : g ≤ 255 := by have := hg.out; omega
      have hgw : IntKind.u8.wrap g = g := by rw [IntKind.wrap_u8]; omega
      obtain ⟨W2, HW2⟩ : ∃ W2, Aside (W2 = wr.alloc (.cells #[.int .u8 g, .int .u8 0, .int .u16 0, .int .u16 0, .int .u8 0, .int .u8 0] 54)) := ⟨_, ⟨rfl⟩⟩
      have hX : Aside (GnSt w w.heap.size wr.heap.size box g 0 (lastW C g 0) W2 ∧ W2.ownsRow (w.heap.size + 1) 54 6 v (gangsTo C k).length ((gangsTo C k).flatMap GangR.cells)) := ⟨by
        rw [HW2.out]
        refine ⟨⟨bel_alloc T.out.2.1 _, ?_, heap_alloc_new _ _, T.out.2.1.size, ?_⟩, T.out.1.alloc _⟩
        · exact ((bel_one wr _).block _ (lt_of_block T.out.2.2)).trans T.out.2.2
        · have := lt_of_block T.out.2.2; omega⟩
      obtain ⟨X, hXe⟩ : ∃ X, wr.heap.size = X := ⟨_, rfl⟩
      have hOL : Aside (∀ r, v.ownBlock = some r → r < X) := ⟨fun r hr => by rw [← hXe]; exact own_lt T.out.1 r hr⟩
      rw [hXe] at hX
      rw [hg.out]
      go_upto_region 6 with (fail)
      rw [← HW2.out]
      clear hXe HW2
      go_wp2_with fail
      go_loopg [6, 7] C.length (fun q s6 s7 a => ∃ c : Nat, c ≤ C.length ∧ q = C.length - c ∧ s6 = .int .i64 ((2 ^ c : Nat) : Int) ∧ s7 = .int .i64 c ∧ Aside (GnSt w w.heap.size X box g (maskTo (fun c => hasG (C.getD c []) g) c : Nat) (lastW C g c) a ∧ a.ownsRow (w.heap.size + 1) 54 6 v (gangsTo C k).length ((gangsTo C k).flatMap GangR.cells)))
      case atStart => exact ⟨0, by omega, rfl, rfl, rfl, hX⟩
      case round =>
        obtain ⟨c, hc, rfl, rfl, rfl, S⟩ := hrel
        have hbx2 := S.out.1.box
        rw [hbx.out] at hbx2
        have cc1 : wr.cell? ⟨w.heap.size, 1, none⟩ = some (.slice a0 C.length c0) := by simp [World.cell?, hbx2]
        by_cases hlt : c < C.length
        · have hl := List.getElem?_eq_getElem hlt
          obtain ⟨L, hL⟩ : ∃ L, C[c] = L := ⟨_, rfl⟩
          rw [hL] at hl
          obtain ⟨ad, lv, rfl, hlv, hwins⟩ := (HC.out.below S.out.1.below).at_ c L hl
          obtain ⟨la, lc, rfl, hlL⟩ := hwins.len
          have e1 : C.getD c [] = L := by rw [List.getD_eq_getElem?_getD, hl]; rfl
          have HWi : Aside (∀ W, Below w.heap.size w W → W.cell? (ad.add c) = some (.slice la L.length lc) ∧ Wins W (.slice la L.length lc) L) := ⟨fun W h => by
            obtain ⟨ad', lv', e, q1, q2⟩ := (HC.out.below h).at_ c L hl
            obtain rfl : ad = ad' := by injection e
            obtain ⟨ad2, lv2, e2, p1, p2⟩ := HC.out.at_ c L hl
            obtain rfl : ad = ad2 := by injection e2
            have r1 := (Kept.of_below (S := fun _ => False) h).cell p1 id
            have r2 := (Kept.of_below (S := fun _ => False) S.out.1.below).cell p1 id
            rw [hlv] at r2
            injection r2 with r2
            subst r2
            exact ⟨r1, p2.below h⟩⟩
          have HU : Aside (∀ j x, L[j]? = some x → Win.g x = g → hasG (L.take j) g = false) := ⟨fun j x h1 h2 => once_no HO.out hl h1 g h2 (by omega)⟩
          have HN : Aside ((maskTo (fun c => hasG (C.getD c []) g) (c + 1) : Nat) = maskTo (fun c => hasG (C.getD c []) g) c + (if hasG L g = true then 2 ^ c else 0) ∧ lastW C g (c + 1) = firstG L g (lastW C g c)) := ⟨by rw [maskTo_le, e1]; exact ⟨rfl, by rw [lastW, e1]⟩⟩
          have hml := maskTo_lt_pow (fun c => hasG (C.getD c []) g) c
          have hpow : 2 ^ c ≤ 128 := by have : c ≤ 7 := by omega
                                        exact Nat.pow_le_pow_right (by decide) this
          generalize maskTo (fun c => hasG (C.getD c []) g) c = m at *
          generalize lastW C g c = V at *
          obtain ⟨bit, hbit⟩ : ∃ bit : Nat, 2 ^ c = bit := ⟨_, rfl⟩
          have HPW : Aside (2 ^ (c + 1) = bit + bit) := ⟨by rw [Nat.pow_succ, hbit]; omega⟩
          rw [hbit] at hml hpow HN ⊢
          have hbw : IntKind.u8.wrap (bit : Int) = (bit : Int) := by rw [IntKind.wrap_u8]; omega
          clear hl hL hwins hbx2 e1 hbit
          go_wp2_with fail
          clear cc1 hlv
          go_loopg [8] L.length (fun q s8 a => ∃ j : Nat, j ≤ L.length ∧ q = L.length - j ∧ s8 = .int .i64 j ∧ Aside (GnSt w w.heap.size X box g ((m + (if hasG (L.take j) g = true then bit else 0) : Nat) : Int) (firstG (L.take j) g V) a ∧ a.ownsRow (w.heap.size + 1) 54 6 v (gangsTo C k).length ((gangsTo C k).flatMap GangR.cells)))
          case atStart => exact ⟨0, by omega, rfl, rfl, by simpa [hasG, firstG] using S⟩
          case round =>
            obtain ⟨j, hj, rfl, rfl, S2⟩ := hrel
            have hbx2 := S2.out.1.box
            rw [hbx.out] at hbx2
            have cc1 : wr.cell? ⟨w.heap.size, 1, none⟩ = some (.slice (some ad) C.length c0) := by simp [World.cell?, hbx2]
            obtain ⟨hlv, hwins⟩ := HWi.out wr S2.out.1.below
            by_cases hltj : j < L.length
            · have hl := List.getElem?_eq_getElem hltj
              obtain ⟨x, hx⟩ : ∃ x, L[j] = x := ⟨_, rfl⟩
              rw [hx] at hl
              obtain ⟨ad2, rfl, y0, y1, y2, y3, okx⟩ := hwins.at_ j x hl
              have hgr := okx.g
              have hgw2 : IntKind.i64.wrap (Win.g x) = Win.g x := IntWalk.i64_in _ (by omega)
              have HSN := Aside.mk (hasG_snoc hl g)
              have HL := Aside.mk hl
              by_cases hxg : Win.g x = g
              · have hno := HU.out j x hl hxg
                have S3 := S2
                rw [hno] at S3
                simp only [Bool.false_eq_true, if_false, Nat.add_zero] at S3
                have hx3 := S3.out.1.x
                have x1 : wr.cell? ⟨X, 1, none⟩ = some (.int .u8 (m : Int)) := by simp [World.cell?, hx3, gangObj]
                have f1 : wr.frozen? ⟨X, 1, none⟩ = false := by simp [World.frozen?, hx3, gangObj]
                have hmw : IntKind.u8.wrap ((m : Int) + (bit : Int)) = (m : Int) + (bit : Int) := by rw [IntKind.wrap_u8]; omega
                obtain ⟨W5, HW5⟩ : ∃ W5, Aside (W5 = wr.setCell ⟨X, 1, none⟩ (.int .u8 ((m : Int) + (bit : Int)))) := ⟨_, ⟨rfl⟩⟩
                have S5 : Aside (GnSt w w.heap.size X box g ((m : Int) + (bit : Int)) (firstG (L.take j) g V) W5 ∧ W5.ownsRow (w.heap.size + 1) 54 6 v (gangsTo C k).length ((gangsTo C k).flatMap GangR.cells)) := ⟨by
                  rw [HW5.out]
                  exact ⟨S3.out.1.putM _, own_kept (S := fun k => k = X) S3.out.2 ((Kept.refl (fun k => k = X) wr).setCell (p := ⟨X, 1, none⟩) (.inl rfl) _) (fun r hr => by have := hOL.out r hr; omega)⟩⟩
                have HF : Aside (firstG (L.take (j + 1)) g V = x ∧ hasG (L.take (j + 1)) g = true) := ⟨firstG_yes hl g hxg hno V, by rw [HSN.out]; simp [hxg]⟩
                clear hno hl hx hx3 hbx2 hwins
                go_upto_region 15 with (fail)
                rw [← HW5.out]
                clear cc1 hlv x1 f1 y0 y1 y2 y3
                have hbx2 := S5.out.1.box
                rw [hbx.out] at hbx2
                have cc1 : W5.cell? ⟨w.heap.size, 1, none⟩ = some (.slice (some ad) C.length c0) := by simp [World.cell?, hbx2]
                obtain ⟨hlv, hwins⟩ := HWi.out W5 S5.out.1.below
                obtain ⟨ad3, e3, y0, y1, y2, y3, _⟩ := hwins.at_ j x HL.out
                obtain rfl : ad2 = ad3 := by injection e3
                have hx5 := S5.out.1.x
                have x2 : W5.cell? ⟨X, 2, none⟩ = some (.int .u16 (Win.s (firstG (L.take j) g V))) := by simp [World.cell?, hx5, gangObj]
                have x3 : W5.cell? ⟨X, 3, none⟩ = some (.int .u16 (Win.l (firstG (L.take j) g V))) := by simp [World.cell?, hx5, gangObj]
                have x4 : W5.cell? ⟨X, 4, none⟩ = some (.int .u8 (Win.p (firstG (L.take j) g V))) := by simp [World.cell?, hx5, gangObj]
                have x5 : W5.cell? ⟨X, 5, none⟩ = some (.int .u8 (Win.g (firstG (L.take j) g V))) := by simp [World.cell?, hx5, gangObj]
                have f2 : W5.frozen? ⟨X, 2, none⟩ = false := by simp [World.frozen?, hx5, gangObj]
                have f3 : W5.frozen? ⟨X, 3, none⟩ = false := by simp [World.frozen?, hx5, gangObj]
                have f4 : W5.frozen? ⟨X, 4, none⟩ = false := by simp [World.frozen?, hx5, gangObj]
                have f5 : W5.frozen? ⟨X, 5, none⟩ = false := by simp [World.frozen?, hx5, gangObj]
                clear hx5 hbx2 hwins
                go_wp2_with fail
                go_roundg (L.length - (j + 1))
                case measure => omega
                case rel =>
                  refine ⟨j + 1, by omega, rfl, by go_num, ?_⟩
                  rw [HF.out.1, HF.out.2, if_pos rfl, Int.natCast_add]
                  exact ⟨by have q := S5.out.1.putW x; rw [hxg] at q; exact q, own_kept (S := fun k => k = X) S5.out.2 (((((Kept.refl (fun k => k = X) W5).setCell (p := ⟨X, 2, none⟩) (.inl rfl) _).setCell (p := ⟨X, 3, none⟩) (.inl rfl) _).setCell (p := ⟨X, 4, none⟩) (.inl rfl) _).setCell (p := ⟨X, 5, none⟩) (.inl rfl) _) (fun r hr => by have := hOL.out r hr; omega)⟩
              · have HF : Aside (firstG (L.take (j + 1)) g V = firstG (L.take j) g V ∧ hasG (L.take (j + 1)) g = hasG (L.take j) g) := ⟨firstG_no hl g hxg V, by rw [HSN.out]; simp [hxg]⟩
                clear hl hx hbx2 hwins
                go_wp2_with fail
                go_roundg (L.length - (j + 1))
                case measure => omega
                case rel => exact ⟨j + 1, by omega, rfl, by go_num, by rw [HF.out.1, HF.out.2]; exact S2⟩
            · obtain rfl : j = L.length := by omega
              rw [List.take_length] at S2
              have hb2 : IntKind.i64.wrap ((bit : Int) + (bit : Int)) = ((bit + bit : Nat) : Int) := by rw [← Int.natCast_add]; exact IntWalk.i64_in _ (by omega)
              clear hltj hj hbx2 hwins
              go_wp2_with fail
              go_roundg (C.length - (c + 1))
              case measure => omega
              case rel => exact ⟨c + 1, by omega, rfl, by rw [HPW.out] <;> simp, by go_num, by rw [HN.out.1, HN.out.2]; exact S2⟩
        · obtain rfl : c = C.length := by omega
          obtain ⟨m, hm⟩ : ∃ m : Nat, Aside (gangM C g = m ∧ m < 256) := ⟨_, ⟨rfl, maskTo_lt _ _ hC⟩⟩
          have HGA : Aside (gangsTo C (k + 1) = gangsTo C k ++ if m = 0 then [] else [(g, (m : Int), lastW C g C.length)]) := ⟨by
            rw [gangsTo_succ, gangAt, show (((k + 1 : Nat)) : Int) = g by have := hg.out; omega, hm.out.1]⟩
          rw [show maskTo (fun c => hasG (C.getD c []) g) C.length = m from hm.out.1] at S
          have hm2 := hm.out.2
          have hlen2 : Aside ((gangsTo C k).length ≤ 255) := ⟨by have := gangsTo_len C k; omega⟩
          generalize lastW C g C.length = V at *
          have hx4 := S.out.1.x
          have x0 : wr.cell? ⟨X, 0, none⟩ = some (.int .u8 g) := by simp [World.cell?, hx4, gangObj]
          have x1 : wr.cell? ⟨X, 1, none⟩ = some (.int .u8 (m : Int)) := by simp [World.cell?, hx4, gangObj]
          have x2 : wr.cell? ⟨X, 2, none⟩ = some (.int .u16 (Win.s V)) := by simp [World.cell?, hx4, gangObj]
          have x3 : wr.cell? ⟨X, 3, none⟩ = some (.int .u16 (Win.l V)) := by simp [World.cell?, hx4, gangObj]
          have x4 : wr.cell? ⟨X, 4, none⟩ = some (.int .u8 (Win.p V)) := by simp [World.cell?, hx4, gangObj]
          have x5 : wr.cell? ⟨X, 5, none⟩ = some (.int .u8 (Win.g V)) := by simp [World.cell?, hx4, gangObj]
          have hsz : Aside (w.heap.size + 1 ≤ wr.heap.size) := ⟨by have := lt_of_block hx4; have := S.out.1.hX; omega⟩
          clear hx4 hbx2 hlt hc
          by_cases hm0 : m = 0
          · have HG := Aside.mk (HGA.out.trans (by rw [if_pos hm0, List.append_nil]))
            subst hm0
            go_wp2_with fail
            go_roundg (256 - (k + 1))
            case measure => omega
            case rel => exact ⟨k + 1, _, by omega, rfl, by have := hg.out; show Value.int .i64 _ = Value.int .i64 _; congr 1; omega, rfl, by rw [HG.out]; exact ⟨S.out.2, S.out.1.below, S.out.1.box⟩⟩
          · have HG := Aside.mk (HGA.out.trans (by rw [if_neg hm0]))
            have hm1 : (0 : Int) < (m : Int) := by omega
            go_wp2_with (at_builtin; go_loud (refine append_elem (w.heap.size + 1) rfl _ _ 50 54 (.agg #[.int .u8 0, .int .u8 0, .int .u16 0, .int .u16 0, .int .u8 0, .int .u8 0]) 6 8 rfl Try.underlying50 A_info_gang rfl (by decide) (by decide) v _ _ [.int .u8 g, .int .u8 (m : Int), .int .u16 (Win.s V), .int .u16 (Win.l V), .int .u8 (Win.p V), .int .u8 (Win.g V)] rfl rfl rfl (by simp [Value.oneCell']) S.out.2 hsz.out (by have := hlen2.out; omega) ?_))
            intro v1 w1 hown1 hgr hat
            have XX := Aside.mk (And.intro hown1 (And.intro hgr hat))
            clear hown1 hgr hat x0 x1 x2 x3 x4 x5
            go_wp2_with fail
            go_roundg (256 - (k + 1))
            case measure => omega
            case rel =>
              obtain ⟨hown1, hgr, hat⟩ := XX.out
              have hB : Below (w.heap.size + 1) wr w1 := grown_below hgr hsz.out (fun r hr => own_base S.out.2 r hr)
              refine ⟨k + 1, _, by omega, rfl, by have := hg.out; show Value.int .i64 _ = Value.int .i64 _; congr 1; omega, rfl, ?_, ?_, ?_⟩
              · rw [HG.out]
                simpa [GangR.cells] using hown1
              · exact S.out.1.below.trans (hB.mono (by omega))
              · exact (hB.block _ (by omega)).trans S.out.1.box
    · obtain rfl : k = 255 := by omega
      clear hk2 hk
      go_wp2_with fail
      go_ret
      exact ⟨_, rfl, own_mono T.out.1 (by omega), T.out.2.1⟩
end Go.Proofs.Ytmfddaihepjfeaa