/- Layer 4's laws: serves. -/
import Derived.Test.YtpcjjmjmigibhaaDoorLwF
import Derived.Test.YtpcjjmjmigibhaaDoorSrvP
namespace Go.Proofs.YtpcjjmjmigibhaaDoor
open Go.RowKit
set_option linter.unusedVariables false
set_option linter.unusedSimpArgs false

def winOf (x : Win) : Array Value := #[.int .u16 (Win.s x), .int .u16 (Win.l x), .int .u8 (Win.p x), .int .u8 (Win.g x)]
/-- The window and the number behind k windows. -/
def atR (L : List Win) (t : Int) (k : Nat) : Int × Win := match scan (atF L t) k with
  | some i => (Win.p (wAt L i), wAt L i)
  | none => (-1, noWin)
theorem atR_all (L : List Win) (t : Int) : atR L t L.length = (servesS L t, wOf L t) := by
  unfold atR servesS wOf atS
  rcases scan (atF L t) L.length with _ | i <;> rfl
theorem atR_skip {L : List Win} {t : Int} {k : Nat} {x : Win} (hx : L[k]? = some x) (h : hasS x t = false) : atR L t (k + 1) = atR L t k := by
  have e : atF L t k = none := by rw [atF, wAt_some hx, if_neg (by rw [h]; simp)]
  have : scan (atF L t) (k + 1) = scan (atF L t) k := by
    rw [scan_step, e]
    rcases scan (atF L t) k with _ | y <;> rfl
  unfold atR
  rw [this]
theorem atR_hit {L : List Win} {t : Int} {k : Nat} {x : Win} (hu : Uniq L t) (hx : L[k]? = some x) (h : hasS x t = true) : atR L t k = (-1, noWin) ∧ atR L t (k + 1) = (Win.p x, x) := by
  have e : atF L t k = some k := by rw [atF, wAt_some hx, if_pos h]
  have h0 : scan (atF L t) k = none := by
    rcases q : scan (atF L t) k with _ | i
    · rfl
    · obtain ⟨j, hj, hf⟩ := scan_lt q
      unfold atF at hf
      split at hf
      · rename_i hh
        have hl := (List.getElem?_eq_some_iff.1 hx).1
        have ej := List.getElem?_eq_getElem (show j < L.length by omega)
        rw [wAt_some ej] at hh
        have := hu j k _ _ ej hx hh h
        omega
      · cases hf
  constructor
  · unfold atR; rw [h0]
  · unfold atR; rw [scan_succ h0, e]
    simp only
    rw [wAt_some hx]
theorem atR_ok {L : List Win} (hok : ∀ x ∈ L, Win.Ok x) (t : Int) (k : Nat) (hk : k ≤ L.length) : -1 ≤ (atR L t k).1 ∧ (atR L t k).1 ≤ 255 := by
  unfold atR
  split
  · rename_i i h
    obtain ⟨j, hj, hf⟩ := scan_lt h
    unfold atF at hf
    split at hf
    · injection hf with e
      subst e
      have e := List.getElem?_eq_getElem (show j < L.length by omega)
      rw [wAt_some e]
      have := (hok _ (List.getElem_mem (show j < L.length by omega))).p
      exact ⟨by show -1 ≤ Win.p L[j]; omega, by show Win.p L[j] ≤ 255; omega⟩
    · cases hf
  · exact ⟨by decide, by decide⟩
/-- A window is laid into a box. -/
def put4 (a : World) (X : Nat) (V : Win) : World := (((a.setCell ⟨X, 0, none⟩ (.int .u16 (Win.s V))).setCell ⟨X, 1, none⟩ (.int .u16 (Win.l V))).setCell ⟨X, 2, none⟩ (.int .u8 (Win.p V))).setCell ⟨X, 3, none⟩ (.int .u8 (Win.g V))
theorem put4_kept (a : World) (X : Nat) (V : Win) : Kept (fun k => k = X) a (put4 a X V) :=
  ((((Kept.refl (fun k => k = X) a).setCell (p := ⟨X, 0, none⟩) (.inl rfl) _).setCell (p := ⟨X, 1, none⟩) (.inl rfl) _).setCell (p := ⟨X, 2, none⟩) (.inl rfl) _).setCell (p := ⟨X, 3, none⟩) (.inl rfl) _
theorem put4_box {a : World} {X : Nat} {U : Win} (h : a.heap[X]? = some (.cells (winOf U) 39 (0, 0))) (V : Win) : (put4 a X V).heap[X]? = some (.cells (winOf V) 39 (0, 0)) := by
  have := heap_setCell_at (off := 3) (heap_setCell_at (off := 2) (heap_setCell_at (off := 1) (heap_setCell_at (off := 0) h (.int .u16 (Win.s V))) (.int .u16 (Win.l V))) (.int .u8 (Win.p V))) (.int .u8 (Win.g V))
  simpa [winOf, put4] using this
theorem box_marks {w : World} {X : Nat} {U : Win} (h : w.heap[X]? = some (.cells (winOf U) 39 (0, 0))) : (w.frozen? ⟨X, 0, none⟩ = false ∧ w.frozen? ⟨X, 1, none⟩ = false ∧ w.frozen? ⟨X, 2, none⟩ = false ∧ w.frozen? ⟨X, 3, none⟩ = false) := by
  refine ⟨?_, ?_, ?_, ?_⟩ <;> simp [World.frozen?, h, winOf]
theorem put4_cell {a : World} {X : Nat} {V : Win} {p : Addr} {v : Value} (hp : p.block ≠ X) (h : a.cell? p = some v) : ((((a.setCell ⟨X, 0, none⟩ (.int .u16 (Win.s V))).setCell ⟨X, 1, none⟩ (.int .u16 (Win.l V))).setCell ⟨X, 2, none⟩ (.int .u8 (Win.p V))).setCell ⟨X, 3, none⟩ (.int .u8 (Win.g V))).drew.cell? p = some v :=
  ((put4_kept a X V).drew).cell h hp
structure SvSt (wb : World) (X : Nat) (V : Win) (a : World) : Prop where
  below : Below wb.heap.size wb a
  out : a.heap[wb.heap.size]? = some (.cells (winOf noWin) 39 (0, 0))
  box : a.heap[X]? = some (.cells (winOf V) 39 (0, 0))
  hX : wb.heap.size < X
theorem SvSt.old {wb a b : World} {X : Nat} {V : Win} (s : SvSt wb X V a) (k : Below a.heap.size a b) : SvSt wb X V b := ⟨lthen s.below k, lup k s.out, lup k s.box, s.hX⟩
theorem SvSt.put {wb a : World} {X : Nat} {V : Win} (s : SvSt wb X V a) (U : Win) : SvSt wb X U (put4 a X U) :=
  ⟨s.below.trans ((put4_kept a X U).below s.below.size (fun k e => by have := s.hX; omega)), (put4_kept a X U).heap s.out (by have := s.hX; omega), put4_box s.box U, s.hX⟩
set_option maxHeartbeats 6400000 in
set_option maxRecDepth 100000 in
theorem lserves_any (w : World) (v : Value) (L : List Win) (t : Int) (hv : Wins w v L) (hu : Uniq L t) :
    Calls Tryd.prog 18 #[v, .int .i64 t] w fun e w' => e = .returned (.tuple #[.int .i64 (servesS L t), Win.val (wOf L t)]) ∧ Below w.heap.size w w' := by
  have HV := Aside.mk hv
  have hok := wins_ok hv
  have HU := Aside.mk hu
  have HO := Aside.mk hok
  have HR : Aside (∀ k, k ≤ L.length → -1 ≤ (atR L t k).1 ∧ (atR L t k).1 ≤ 255) := ⟨fun k hk => atR_ok hok t k hk⟩
  have HA : Aside ((atR L t L.length).1 = servesS L t ∧ (atR L t L.length).2 = wOf L t) := ⟨by rw [atR_all]; exact ⟨rfl, rfl⟩⟩
  obtain ⟨a, cap, rfl, hlen⟩ := hv.len
  clear hv hu hok
  go_enter Tryd.func18, Tryd.ntmps18
  go_wp2_with fail
  go_loopg [6, 8] L.length (fun q p i wr => ∃ k : Nat, k ≤ L.length ∧ q = L.length - k ∧ i = .int .i64 k ∧ p = .int .i64 (atR L t k).1 ∧ Aside (SvSt w (w.heap.size + 1) (atR L t k).2 wr))
  case atStart => exact ⟨0, by omega, rfl, rfl, rfl, ⟨by
    exact ⟨lthen (lone _ _) (lone _ _), lheap_up (heap_alloc_new _ _), lheap_top _ _ _ (by simp), by omega⟩⟩⟩
  case round =>
    obtain ⟨k, hk, rfl, rfl, rfl, S⟩ := hrel
    by_cases hkl : k < L.length
    · have hl := List.getElem?_eq_getElem hkl
      obtain ⟨x, hx⟩ : ∃ x, L[k] = x := ⟨_, rfl⟩
      rw [hx] at hl
      obtain ⟨ad, rfl, y0, y1, y2, y3, okx⟩ := (HV.out.below S.out.below).at_ k x hl
      have KH := Aside.mk (has_any x okx t)
      unfold Win.val at KH
      obtain ⟨b, hb⟩ : ∃ b, hasS x t = b := ⟨_, rfl⟩
      rw [hb] at KH
      have HL := Aside.mk hl
      cases b
      · have HS := Aside.mk (atR_skip hl hb)
        clear hl hx hb okx
        go_wp2_with fail
        refine (KH.out _).mono ?_
        rintro e w2 ⟨rfl, b2⟩
        have S2 := Aside.mk (S.out.old b2)
        clear b2 y0 y1 y2 y3
        go_wp2_with fail
        go_roundg (L.length - (k + 1))
        case measure => omega
        case rel => exact ⟨k + 1, by omega, rfl, by go_num, by rw [HS.out], by rw [HS.out]; exact S2⟩
      · obtain ⟨h0, h1⟩ := atR_hit HU.out hl hb
        have H1 := Aside.mk h1
        have ga := okx.p
        have hpw : IntKind.i64.wrap (Win.p x) = Win.p x := IntWalk.i64_in _ (by omega)
        rw [h0] at S ⊢
        have HNE : Aside ((ad.add (k * 4)).block ≠ w.heap.size + 1) := ⟨by
          obtain ⟨ad', e', z0, _⟩ := HV.out.at_ k x hl
          obtain rfl : ad = ad' := by injection e'
          have := World.block_lt_of_cell? w _ z0
          omega⟩
        clear h0 h1 hl hx hb okx
        go_wp2_with fail
        refine (KH.out _).mono ?_
        rintro e w2 ⟨rfl, b2⟩
        have S2 := Aside.mk (S.out.old b2)
        clear b2 y0 y1 y2 y3
        obtain ⟨ad', e', y0, y1, y2, y3, _⟩ := (HV.out.below S2.out.below).at_ k x HL.out
        obtain rfl : ad = ad' := by injection e'
        obtain ⟨x0, x1, x2, x3⟩ := lbox4 S2.out.box
        obtain ⟨f0, f1, f2, f3⟩ := box_marks S2.out.box
        clear e'
        go_upto_region 8 with (fail)
        rename World => w5
        have T0 := put4_cell (V := x) HNE.out y0
        have T1 := put4_cell (V := x) (p := ⟨(ad.add (k * 4)).block, (ad.add (k * 4)).off + 1, none⟩) HNE.out y1
        have T2 := put4_cell (V := x) (p := ⟨(ad.add (k * 4)).block, (ad.add (k * 4)).off + 2, none⟩) HNE.out y2
        have T3 := put4_cell (V := x) (p := ⟨(ad.add (k * 4)).block, (ad.add (k * 4)).off + 3, none⟩) HNE.out y3
        go_region_held3 (fun w' => w'.cell? (ad.add (k * 4)) = some (.int .u16 (Win.s x)) ∧ w'.cell? ⟨(ad.add (k * 4)).block, (ad.add (k * 4)).off + 1, none⟩ = some (.int .u16 (Win.l x)) ∧ w'.cell? ⟨(ad.add (k * 4)).block, (ad.add (k * 4)).off + 2, none⟩ = some (.int .u8 (Win.p x)) ∧ w'.cell? ⟨(ad.add (k * 4)).block, (ad.add (k * 4)).off + 3, none⟩ = some (.int .u8 (Win.g x))) (first | go_keep | (exact ⟨T0, T1, T2, T3⟩)) (fail)
        go_wp2_with fail
        go_roundg (L.length - (k + 1))
        case measure => omega
        case rel =>
          refine ⟨k + 1, by omega, rfl, by go_num, by rw [H1.out], ?_⟩
          rw [H1.out]
          exact ⟨(S2.out.put x).old (below_drewN _ 1)⟩
    · obtain rfl : k = L.length := by omega
      rw [HA.out.2] at S
      rw [HA.out.1]
      obtain ⟨V, hV⟩ : ∃ V, wOf L t = V := ⟨_, rfl⟩
      rw [hV] at S
      have HVe := Aside.mk hV
      clear hV
      obtain ⟨x0, x1, x2, x3⟩ := lbox4 S.out.box
      obtain ⟨f0, f1, f2, f3⟩ := box_marks S.out.out
      obtain ⟨o0, o1, o2, o3⟩ := lbox4 S.out.out
      go_upto_region 9 with (fail)
      rename World => w5
      go_region_held3 (fun w' => w'.cell? ⟨w.heap.size + 1, 0, none⟩ = some (.int .u16 (Win.s V)) ∧ w'.cell? ⟨w.heap.size + 1, 1, none⟩ = some (.int .u16 (Win.l V)) ∧ w'.cell? ⟨w.heap.size + 1, 2, none⟩ = some (.int .u8 (Win.p V)) ∧ w'.cell? ⟨w.heap.size + 1, 3, none⟩ = some (.int .u8 (Win.g V))) (go_keep) (fail)
      go_wp2_with fail
      obtain ⟨c0, c1, c2, c3⟩ := lbox4 (put4_box S.out.out V)
      have hb : Below w.heap.size w (put4 w5 w.heap.size V).drew := (S.out.below.trans ((put4_kept w5 w.heap.size V).below S.out.below.size (fun k e => by omega))).drew
      unfold put4 at c0 c1 c2 c3
      refine bodyPost_ret (v := .tuple #[.int .i64 (servesS L t), Win.val V]) (by simp [results, Tryd.results18, go_sem, c0, c1, c2, c3, Win.val]) rfl ⟨by rw [HVe.out], hb⟩
end Go.Proofs.YtpcjjmjmigibhaaDoor
