/- Plans of bytes: a core, a partition. -/
import Derived.Test.YtbphlapdhcgikaaDoorDecB
namespace Go.Proofs.YtbphlapdhcgikaaDoor
open Go.RowKit
set_option linter.unusedVariables false
set_option linter.unusedSimpArgs false

theorem RowsR.kept {α : Type} {lo : Nat} {e : TypeId} {size : Nat} {E : World → List Value → α → Prop} {w w' : World} {v : Value} {xs : List α} {css : List (List Value)} {T : Nat → Prop} (h : RowsR lo e size E w v xs css) (k : Kept T w w') (hT : ∀ b, v.ownBlock = some b → ¬ T b) (hE : ∀ cs x, E w cs x → E w' cs x) : RowsR lo e size E w' v xs css :=
  ⟨own_kept h.own k hT, h.len, fun i cs x a b => ⟨hE _ _ (h.el i cs x a b).1, (h.el i cs x a b).2⟩⟩
theorem RowsR.down {α : Type} {lo lo' : Nat} {e : TypeId} {size : Nat} {E : World → List Value → α → Prop} {w : World} {v : Value} {xs : List α} {css : List (List Value)} (h : RowsR lo e size E w v xs css) (hl : lo' ≤ lo) : RowsR lo' e size E w v xs css := ⟨own_down h.own hl, h.len, h.el⟩
/-- Rows of one kind are not touched where rows of another kind grow. -/
theorem RowsR.grown {α : Type} {lo : Nat} {e : TypeId} {size : Nat} {E : World → List Value → α → Prop} {w w' : World} {v : Value} {xs : List α} {css : List (List Value)} {lo2 n2 size2 : Nat} {e2 : TypeId} {v2 : Value} {ys : List Value} (h : RowsR lo e size E w v xs css) (o : w.ownsRow lo2 e2 size2 v2 n2 ys) (g : w.grownBy w' v2.ownBlock) (hne : e ≠ e2) (hE : ∀ cs x, E w cs x → E w' cs x) : RowsR lo e size E w' v xs css :=
  h.kept (grown_kept g) (fun b hb hb2 => by
    obtain ⟨_, cs, fr, hh⟩ := own_typ o hb2
    exact own_type h.own hh hne hb rfl) hE
theorem RowsR.off {α : Type} {lo : Nat} {e : TypeId} {size : Nat} {E : World → List Value → α → Prop} {w w' : World} {v : Value} {xs : List α} {css : List (List Value)} {Z : Nat} (h : RowsR lo e size E w v xs css) (k : Kept (fun j => j = Z) w w') (hZ : Z < lo) (hE : ∀ cs x, E w cs x → E w' cs x) : RowsR lo e size E w' v xs css :=
  h.kept k (fun b hb e => by have := own_base h.own b hb; omega) hE
def E_core (Z : Nat) (w : World) (cs : List Value) (L : List Win) : Prop := ∃ u css lo, cs = [u] ∧ Z < lo ∧ RowsR lo 51 4 E_win w u L css
theorem E1_core {Z : Nat} (w w' : World) (cs : List Value) (x : List Win) (h : E_core Z w cs x) (k : Kept (fun j => j = Z) w w') : E_core Z w' cs x := by
  obtain ⟨u, css, lo, e, hl, hr⟩ := h
  exact ⟨u, css, lo, e, hl, hr.off k hl (fun _ _ q => q)⟩
theorem E2_core {Z : Nat} {e : TypeId} {size : Nat} (he : 51 ≠ e) (w w' : World) (v : Value) (lo n : Nat) (xs : List Value) (cs : List Value) (x : List Win) (h : E_core Z w cs x) (o : w.ownsRow lo e size v n xs) (g : w.grownBy w' v.ownBlock) : E_core Z w' cs x := by
  obtain ⟨u, css, lo', e, hl, hr⟩ := h
  exact ⟨u, css, lo', e, hl, hr.grown o g he (fun _ _ q => q)⟩
set_option maxHeartbeats 6400000 in
theorem core_any {base Z c : Nat} {A : Option Addr} {S : List Int} (hS : ∀ x ∈ S, 0 ≤ x ∧ x ≤ 255) (w : World) (s : St) (h : Bl.RD base w Z A c S s.1 s.2) :
    Calls Tryd.prog 33 #[.agg #[.pointer (some ⟨Z, 0, none⟩)]] w (ManyP base Z A c S 51 4 E_win w (coreS S s)) := by
  have K16 := Aside.mk (fun W t (q : Bl.RD base W Z A c S t.1 t.2) => e16_any hS W t q)
  have KM := Aside.mk (fun W t (q : Bl.RD base W Z A c S t.1 t.2) n hn => many_win hS W t q n hn)
  have hr := rdN_range2 hS s
  obtain ⟨n, hn⟩ : ∃ n : Nat, (rdN S 2 s).1 = (n : Int) := ⟨(rdN S 2 s).1.toNat, by omega⟩
  have HV : Aside (coreS S s = manyS (winS S) n (rdN S 2 s).2 []) := ⟨by rw [coreS, hn]; simp⟩
  obtain ⟨W1, HW⟩ : ∃ W1, Aside (W1 = w.alloc (.cells #[.pointer (some ⟨Z, 0, none⟩)] 79)) := ⟨_, ⟨rfl⟩⟩
  have hZ := rd_lt h
  have B1 : Aside (Below w.heap.size w W1 ∧ W1.heap[w.heap.size]? = some (.cells #[.pointer (some ⟨Z, 0, none⟩)] 79 (0, 0))) := ⟨by
    rw [HW.out]; exact ⟨bel_one _ _, heap_alloc_new _ _⟩⟩
  have R1 : Aside (Bl.RD base W1.drew Z A c S s.1 s.2) := ⟨h.below (bel_then B1.out.1 (below_drewN W1 1))⟩
  have p0 : W1.cell? ⟨w.heap.size, 0, none⟩ = some (.pointer (some ⟨Z, 0, none⟩)) := by simp [World.cell?, B1.out.2]
  have hne : w.heap.size ≠ Z := by omega
  have KD0 := K16.out W1.drew s R1.out
  rw [hn] at KD0 hr
  have KD0 := Aside.mk KD0
  obtain ⟨t, ht⟩ : ∃ t, (rdN S 2 s).2 = t := ⟨_, rfl⟩
  rw [ht] at KD0 HV
  obtain ⟨hr0, hr1⟩ := hr
  have hwn : IntKind.i64.wrap (n : Int) = (n : Int) := IntWalk.i64_in _ (by omega)
  clear h hn ht
  go_enter Tryd.func33, Tryd.ntmps33
  go_upto_region 1 with (fail)
  rw [← HW.out]
  go_region_held3 (fun w' => w'.cell? ⟨w.heap.size, 0, none⟩ = some (.pointer (some ⟨Z, 0, none⟩))) (first | go_keep | (exact k1))
    (first
      | ((with_reducible refine KD0.out.mono ?_); rintro e w1 ⟨rfl, q0⟩; have Q0 : Aside (Rk base Z A c S W1.drew t w1) := ⟨q0⟩; have k1 : w1.cell? ⟨w.heap.size, 0, none⟩ = some (.pointer (some ⟨Z, 0, none⟩)) := Q0.out.cell hne p0; have KD1 := Aside.mk (KM.out w1 t Q0.out.rd n (by omega)); clear q0)
      | ((with_reducible refine KD1.out.mono ?_); rintro e w2 ⟨v, css, rfl, hrows, q1⟩; have Q1 := Aside.mk (And.intro hrows (Q0.out.then_ q1)); have k1 : w2.cell? ⟨w.heap.size, 0, none⟩ = some (.pointer (some ⟨Z, 0, none⟩)) := Q1.out.2.cell hne p0; clear q1 hrows))
  all_goals
    go_wp2_with fail
    go_ret
    exact ⟨_, css, rfl, by rw [HV.out]; exact Q1.out.1.down (Nat.le_trans B1.out.1.size Q0.out.size), by rw [HV.out]; exact ⟨Q1.out.2.rd, ((Kept.of_below B1.out.1).drew).trans Q1.out.2.kept⟩⟩
theorem core_next {base Z c : Nat} {A : Option Addr} {S : List Int} (W : World) (t : St) (q : Bl.RD base W Z A c S t.1 t.2) {en : Ending} {w' : World} (z : ManyP base Z A c S 51 4 E_win W (coreS S t) en w') :
    ∃ (Au : Option Addr) (nu cu : Nat), en = .returned (.slice Au nu cu) ∧ Rk base Z A c S W (coreS S t).2 w' ∧ E_core Z w' [.slice Au nu cu] (coreS S t).1 := by
  obtain ⟨v, css, rfl, hr, hk⟩ := z
  obtain ⟨A1, c1, rfl⟩ := own_len hr.own
  exact ⟨A1, _, c1, rfl, hk, _, css, _, rfl, rd_lt q, hr⟩
def E_part (Z : Nat) (w : World) (cs : List Value) (x : PartR) : Prop := ∃ sv pv css dss lo, cs = [sv, .int .u8 (PartR.events x), pv, .int .u8 (PartR.a0 x), .int .u8 (PartR.a1 x), .int .u8 (PartR.a2 x)] ∧ Z < lo ∧ RowsR lo 58 2 E_sem w sv (PartR.sems x) css ∧ RowsR lo 5 1 E_u8 w pv (PartR.procs x) dss ∧ (0 ≤ PartR.events x ∧ PartR.events x ≤ 255) ∧ (PartR.acts x).length = 3 ∧ (0 ≤ PartR.a0 x ∧ PartR.a0 x ≤ 255) ∧ (0 ≤ PartR.a1 x ∧ PartR.a1 x ≤ 255) ∧ (0 ≤ PartR.a2 x ∧ PartR.a2 x ≤ 255)
theorem E1_part {Z : Nat} (w w' : World) (cs : List Value) (x : PartR) (h : E_part Z w cs x) (k : Kept (fun j => j = Z) w w') : E_part Z w' cs x := by
  obtain ⟨sv, pv, css, dss, lo, e, hl, h1, h2, h3⟩ := h
  exact ⟨sv, pv, css, dss, lo, e, hl, h1.off k hl (fun _ _ q => q), h2.off k hl (fun _ _ q => q), h3⟩
theorem E2_part {Z : Nat} {e : TypeId} {size : Nat} (he : 58 ≠ e ∧ 5 ≠ e) (w w' : World) (v : Value) (lo n : Nat) (xs : List Value) (cs : List Value) (x : PartR) (h : E_part Z w cs x) (o : w.ownsRow lo e size v n xs) (g : w.grownBy w' v.ownBlock) : E_part Z w' cs x := by
  obtain ⟨sv, pv, css, dss, lo', e, hl, h1, h2, h3⟩ := h
  exact ⟨sv, pv, css, dss, lo', e, hl, h1.grown o g he.1 (fun _ _ q => q), h2.grown o g he.2 (fun _ _ q => q), h3⟩
/-- A partition that is being read: its box X, the readers' box, the result's box. -/
structure PtSt (base Z : Nat) (A : Option Addr) (c : Nat) (S : List Int) (w : World) (X : Nat) (sv pv : Value) (ev x0 x1 x2 : Int) (L : List SemR) (css : List (List Value)) (t : St) (a : World) : Prop where
  rk : Rk base Z A c S w t a
  rdg : a.heap[w.heap.size]? = some (.cells #[.pointer (some ⟨Z, 0, none⟩)] 79 (0, 0))
  res : a.heap[w.heap.size + 1]? = some (.cells #[.slice none 0 0, .int .u8 0, .slice none 0 0, .int .u8 0, .int .u8 0, .int .u8 0] 56 (0, 0))
  box : a.heap[X]? = some (.cells #[sv, .int .u8 ev, pv, .int .u8 x0, .int .u8 x1, .int .u8 x2] 56 (0, 0))
  hX : w.heap.size + 1 < X
  rows : RowsR w.heap.size 58 2 E_sem a sv L css
theorem set6_cell {a : World} {X b o : Nat} {v0 v1 v2 v3 v4 v5 x : Value} (h : a.cell? ⟨b, o, none⟩ = some x) (hne : b ≠ X) : ((((((a.setCell ⟨X, 0, none⟩ v0).setCell ⟨X, 1, none⟩ v1).setCell ⟨X, 2, none⟩ v2).setCell ⟨X, 3, none⟩ v3).setCell ⟨X, 4, none⟩ v4).setCell ⟨X, 5, none⟩ v5).cell? ⟨b, o, none⟩ = some x := (((((((Kept.refl (fun k => k = X) a).setCell (p := ⟨X, 0, none⟩) (.inl rfl) v0).setCell (p := ⟨X, 1, none⟩) (.inl rfl) v1).setCell (p := ⟨X, 2, none⟩) (.inl rfl) v2).setCell (p := ⟨X, 3, none⟩) (.inl rfl) v3).setCell (p := ⟨X, 4, none⟩) (.inl rfl) v4).setCell (p := ⟨X, 5, none⟩) (.inl rfl) v5).cell h hne
theorem set1_cell {w : World} {g c b o : Nat} {y v : Value} (h : w.cell? ⟨b, o, none⟩ = some v) (hne : b ≠ g) : (w.setCell ⟨g, c, none⟩ y).cell? ⟨b, o, none⟩ = some v :=
  ((Kept.refl (fun k => k = g) w).setCell (p := ⟨g, c, none⟩) (.inl rfl) y).cell h hne
theorem set3_cell' {w : World} {X b o : Nat} {v0 v1 v2 x : Value} (h : w.cell? ⟨b, o, none⟩ = some x) (hne : b ≠ X) : (((w.setCell ⟨X, 3, none⟩ v0).setCell ⟨X, 4, none⟩ v1).setCell ⟨X, 5, none⟩ v2).cell? ⟨b, o, none⟩ = some x :=
  ((((Kept.refl (fun k => k = X) w).setCell (p := ⟨X, 3, none⟩) (.inl rfl) v0).setCell (p := ⟨X, 4, none⟩) (.inl rfl) v1).setCell (p := ⟨X, 5, none⟩) (.inl rfl) v2).cell h hne
theorem cell_of {w : World} {B : Nat} {x : Value} {t : TypeId} {fr : Nat × Nat} (h : w.heap[B]? = some (.cells #[x] t fr)) : w.cell? ⟨B, 0, none⟩ = some x := by simp [World.cell?, h]
theorem PtSt.put {base Z : Nat} {A : Option Addr} {c : Nat} {S : List Int} {w : World} {X : Nat} {sv pv sv' pv' : Value} {ev x0 x1 x2 ev' y0 y1 y2 : Int} {L L' : List SemR} {css css' : List (List Value)} {t s : St} {a a' : World} (m : PtSt base Z A c S w X sv pv ev x0 x1 x2 L css t a) (h0 : Bl.RD base w Z A c S s.1 s.2) (k : Kept (fun j => j = X) a a')
    (hb : a'.heap[X]? = some (.cells #[sv', .int .u8 ev', pv', .int .u8 y0, .int .u8 y1, .int .u8 y2] 56 (0, 0))) (rows' : RowsR w.heap.size 58 2 E_sem a sv' L' css') : PtSt base Z A c S w X sv' pv' ev' y0 y1 y2 L' css' t a' := by
  have hX := m.hX
  refine ⟨⟨rd_news h0 m.rk.rd k (t := 56) (by decide) (fun j e => by subst e; exact ⟨by omega, _, _, m.box⟩), m.rk.kept.then_ k (fun j e => .inr (by omega))⟩, k.heap m.rdg (by omega), k.heap m.res (by omega), hb, hX, rows'.kept k (fun b hb' e => by
    subst e
    exact own_type rows'.own m.box (by decide) hb' rfl) (fun _ _ q => q)⟩
theorem PtSt.step {base Z : Nat} {A : Option Addr} {c : Nat} {S : List Int} {w : World} {X : Nat} {sv pv : Value} {ev x0 x1 x2 : Int} {L : List SemR} {css : List (List Value)} {t t' : St} {a a' : World} (m : PtSt base Z A c S w X sv pv ev x0 x1 x2 L css t a) (hZ : Z < w.heap.size) (q : Rk base Z A c S a t' a') : PtSt base Z A c S w X sv pv ev x0 x1 x2 L css t' a' := by
  have hX := m.hX
  exact ⟨m.rk.then_ q, q.box (by omega) m.rdg, q.box (by omega) m.res, q.box (by omega) m.box, hX, m.rows.off q.kept hZ (fun _ _ q => q)⟩
theorem PtSt.below {base Z : Nat} {A : Option Addr} {c : Nat} {S : List Int} {w : World} {X : Nat} {sv pv : Value} {ev x0 x1 x2 : Int} {L : List SemR} {css : List (List Value)} {t : St} {a a' : World} (m : PtSt base Z A c S w X sv pv ev x0 x1 x2 L css t a) (k : Below a.heap.size a a') : PtSt base Z A c S w X sv pv ev x0 x1 x2 L css t a' :=
  ⟨m.rk.below k, hup k m.rdg, hup k m.res, hup k m.box, m.hX, m.rows.kept (Kept.of_below (S := fun _ => False) k) (fun _ _ => id) (fun _ _ q => q)⟩
/-- The semaphores are read; the partition's box has just been made. -/
theorem pt_made {base Z : Nat} {A : Option Addr} {c : Nat} {S : List Int} {w : World} {X : Nat} {sv : Value} {L : List SemR} {css : List (List Value)} {t s : St} {a : World} (h0 : Bl.RD base w Z A c S s.1 s.2) (rk : Rk base Z A c S w t a)
    (rdg : a.heap[w.heap.size]? = some (.cells #[.pointer (some ⟨Z, 0, none⟩)] 79 (0, 0))) (res : a.heap[w.heap.size + 1]? = some (.cells #[.slice none 0 0, .int .u8 0, .slice none 0 0, .int .u8 0, .int .u8 0, .int .u8 0] 56 (0, 0)))
    (box : a.heap[X]? = some (.cells #[.slice none 0 0, .int .u8 0, .slice none 0 0, .int .u8 0, .int .u8 0, .int .u8 0] 56 (0, 0))) (hX : w.heap.size + 1 < X) (rows : RowsR w.heap.size 58 2 E_sem a sv L css) :
    PtSt base Z A c S w X sv (.slice none 0 0) 0 0 0 0 L css t ((((((a.setCell ⟨X, 0, none⟩ sv).setCell ⟨X, 1, none⟩ (.int .u8 0)).setCell ⟨X, 2, none⟩ (.slice none 0 0)).setCell ⟨X, 3, none⟩ (.int .u8 0)).setCell ⟨X, 4, none⟩ (.int .u8 0)).setCell ⟨X, 5, none⟩ (.int .u8 0)) := by
  have m : PtSt base Z A c S w X (.slice none 0 0) (.slice none 0 0) 0 0 0 0 ([] : List SemR) [] t a := ⟨rk, rdg, res, box, hX, RowsR.nil _ _ _ _ _⟩
  have q := set6_box (v0 := sv) (v1 := .int .u8 0) (v2 := .slice none 0 0) (v3 := .int .u8 0) (v4 := .int .u8 0) (v5 := .int .u8 0) box
  exact m.put h0 q.2 q.1 rows
theorem part_end {base Z : Nat} {A A1 A2 : Option Addr} {c n1 c1 n2 c2 : Nat} {S : List Int} {w W : World} {X : Nat} {ev y0 y1 y2 : Int} {L : List SemR} {L2 : List Int} {css dss : List (List Value)} {t s : St} (h0 : Bl.RD base w Z A c S s.1 s.2) (hZ : Z < w.heap.size) (M : PtSt base Z A c S w X (.slice A1 n1 c1) (.slice A2 n2 c2) ev y0 y1 y2 L css t W) (P : RowsR w.heap.size 5 1 E_u8 W (.slice A2 n2 c2) L2 dss)
    (h1 : 0 ≤ ev ∧ ev ≤ 255) (h2 : 0 ≤ y0 ∧ y0 ≤ 255) (h3 : 0 ≤ y1 ∧ y1 ≤ 255) (h4 : 0 ≤ y2 ∧ y2 ≤ 255) (W' : World) (hW : W' = ((((((W.setCell ⟨w.heap.size + 1, 0, none⟩ (.slice A1 n1 c1)).setCell ⟨w.heap.size + 1, 1, none⟩ (.int .u8 ev)).setCell ⟨w.heap.size + 1, 2, none⟩ (.slice A2 n2 c2)).setCell ⟨w.heap.size + 1, 3, none⟩ (.int .u8 y0)).setCell ⟨w.heap.size + 1, 4, none⟩ (.int .u8 y1)).setCell ⟨w.heap.size + 1, 5, none⟩ (.int .u8 y2))) :
    Rk base Z A c S w t W' ∧ E_part Z W' [.slice A1 n1 c1, .int .u8 ev, .slice A2 n2 c2, .int .u8 y0, .int .u8 y1, .int .u8 y2] (L, ev, L2, [y0, y1, y2], ()) ∧ W'.cell? ⟨w.heap.size + 1, 0, none⟩ = some (.slice A1 n1 c1) ∧ W'.cell? ⟨w.heap.size + 1, 1, none⟩ = some (.int .u8 ev) ∧ W'.cell? ⟨w.heap.size + 1, 2, none⟩ = some (.slice A2 n2 c2) ∧ W'.cell? ⟨w.heap.size + 1, 3, none⟩ = some (.int .u8 y0) ∧ W'.cell? ⟨w.heap.size + 1, 4, none⟩ = some (.int .u8 y1) ∧ W'.cell? ⟨w.heap.size + 1, 5, none⟩ = some (.int .u8 y2) := by
  have FB := set6_box (v0 := .slice A1 n1 c1) (v1 := .int .u8 ev) (v2 := .slice A2 n2 c2) (v3 := .int .u8 y0) (v4 := .int .u8 y1) (v5 := .int .u8 y2) M.res
  rw [← hW] at FB
  clear hW
  obtain ⟨hb, k⟩ := FB
  have r1 : RowsR w.heap.size 58 2 E_sem W' (.slice A1 n1 c1) L css := M.rows.kept k (fun b hb' e => by
    subst e
    exact own_type M.rows.own M.res (by decide) hb' rfl) (fun _ _ q => q)
  have r2 : RowsR w.heap.size 5 1 E_u8 W' (.slice A2 n2 c2) L2 dss := P.kept k (fun b hb' e => by
    subst e
    exact own_type P.own M.res (by decide) hb' rfl) (fun _ _ q => q)
  have r3 : Rk base Z A c S w t W' := ⟨rd_news h0 M.rk.rd k (t := 56) (by decide) (fun j e => by subst e; exact ⟨by omega, _, _, M.res⟩), M.rk.kept.then_ k (fun j e => .inr (by omega))⟩
  exact ⟨r3, ⟨_, _, css, dss, w.heap.size, rfl, hZ, r1, r2, h1, rfl, h2, h3, h4⟩, boxc6 hb⟩
set_option maxHeartbeats 6400000 in
theorem part_any {base Z c : Nat} {A : Option Addr} {S : List Int} (hS : ∀ x ∈ S, 0 ≤ x ∧ x ≤ 255) (w : World) (s : St) (h : Bl.RD base w Z A c S s.1 s.2) :
    Calls Tryd.prog 35 #[.agg #[.pointer (some ⟨Z, 0, none⟩)]] w fun e w' => ∃ (A1 : Option Addr) (n1 c1 : Nat) (ev : Int) (A2 : Option Addr) (n2 c2 : Nat) (x0 x1 x2 : Int), e = .returned (.agg #[.slice A1 n1 c1, .int .u8 ev, .slice A2 n2 c2, .int .u8 x0, .int .u8 x1, .int .u8 x2]) ∧ Rk base Z A c S w (partS S s).2 w' ∧ E_part Z w' [.slice A1 n1 c1, .int .u8 ev, .slice A2 n2 c2, .int .u8 x0, .int .u8 x1, .int .u8 x2] (partS S s).1 := by
  have K8 := Aside.mk (fun W t (q : Bl.RD base W Z A c S t.1 t.2) => e8_any hS W t q)
  have KM := Aside.mk (fun W t (q : Bl.RD base W Z A c S t.1 t.2) n hn => many_sem hS W t q n hn)
  have hr := rdN_range1 hS s
  obtain ⟨n, hn⟩ : ∃ n : Nat, (rdN S 1 s).1 = (n : Int) := ⟨(rdN S 1 s).1.toNat, by omega⟩
  have HV : Aside (semsS S s = manyS (semS S) n (rdN S 1 s).2 []) := ⟨by rw [semsS, hn]; simp⟩
  obtain ⟨W1, HW⟩ : ∃ W1, Aside (W1 = (w.alloc (.cells #[.pointer (some ⟨Z, 0, none⟩)] 79)).alloc (.cells #[.slice none 0 0, .int .u8 0, .slice none 0 0, .int .u8 0, .int .u8 0, .int .u8 0] 56)) := ⟨_, ⟨rfl⟩⟩
  have hZ := rd_lt h
  have R0 := Aside.mk h
  have B1 : Aside (Below w.heap.size w W1 ∧ W1.heap[w.heap.size]? = some (.cells #[.pointer (some ⟨Z, 0, none⟩)] 79 (0, 0)) ∧ W1.heap[w.heap.size + 1]? = some (.cells #[.slice none 0 0, .int .u8 0, .slice none 0 0, .int .u8 0, .int .u8 0, .int .u8 0] 56 (0, 0)) ∧ W1.heap.size = w.heap.size + 2) := ⟨by
    rw [HW.out]; exact ⟨bel_two _ _ _, heap_up (heap_alloc_new _ _), heap_top _ _ _ (by simp), by simp⟩⟩
  have R1 : Aside (Bl.RD base W1.drew Z A c S s.1 s.2) := ⟨h.below (bel_then B1.out.1 (below_drewN W1 1))⟩
  have p0 : W1.cell? ⟨w.heap.size, 0, none⟩ = some (.pointer (some ⟨Z, 0, none⟩)) := by simp [World.cell?, B1.out.2.1]
  have hne : w.heap.size ≠ Z := by omega
  obtain ⟨t, ht⟩ : ∃ t, (rdN S 1 s).2 = t := ⟨_, rfl⟩
  have KD0 : Aside (∀ W, Bl.RD base W Z A c S s.1 s.2 → Calls Tryd.prog 31 #[.pointer (some ⟨Z, 0, none⟩)] W (ReadP base Z A c S W (.int .u8 n) t)) := ⟨fun W q => by rw [← hn, ← ht]; exact K8.out W s q⟩
  rw [ht] at HV
  rw [hn] at hr
  obtain ⟨hr0, hr1⟩ := hr
  have hwn : IntKind.i64.wrap (n : Int) = (n : Int) := IntWalk.i64_in _ (by omega)
  have hn255 : n ≤ 65535 := by omega
  have hZ1 : Z < W1.heap.size := by have := B1.out.1.size; omega
  have hW1 : w.heap.size + 1 < W1.heap.size := by have := B1.out.2.2.2; omega
  have hne1 : w.heap.size + 1 ≠ Z := by omega
  clear h hn
  go_enter Tryd.func35, Tryd.ntmps35
  go_upto_region 1 with (fail)
  rw [← HW.out]
  have HWr : Aside (Rk base Z A c S w s W1.drew) := ⟨⟨R1.out, (Kept.of_below B1.out.1).drew⟩⟩
  have HWa : Aside (Rk base Z A c S w s (W1.alloc (.cells #[.slice none 0 0, .int .u8 0, .slice none 0 0, .int .u8 0, .int .u8 0, .int .u8 0] 56)).drew) := ⟨⟨R0.out.below (bel_then (bel_then B1.out.1 (bel_one _ _)) (below_drewN _ 1)), (Kept.of_below (bel_then B1.out.1 (bel_one _ _))).drew⟩⟩
  obtain ⟨⟨L, t2⟩, hLt⟩ : ∃ r, semsS S s = r := ⟨_, rfl⟩
  have HL : Aside (manyS (semS S) n t [] = (L, t2)) := ⟨by rw [← HV.out]; exact hLt⟩
  have HLt := Aside.mk hLt
  clear hLt
  go_cut [3] (fun p wc => ∃ (X : Nat), p = .pointer (some ⟨X, 0, none⟩) ∧ Aside (∃ (A1 : Option Addr) (c1 : Nat) (css : List (List Value)), PtSt base Z A c S w X (.slice A1 L.length c1) (.slice none 0 0) 0 0 0 0 L css t2 wc))
  case first =>
    go_region_held3 (fun w' => w'.cell? ⟨w.heap.size, 0, none⟩ = some (.pointer (some ⟨Z, 0, none⟩))) (first | go_keep | (with_reducible exact k1) | (refine set6_cell k1 ?_; omega))
      (first
        | ((with_reducible refine (KD0.out W1.drew R1.out).mono ?_); rintro e w1 ⟨rfl, q0⟩; have Q0 : Aside (Rk base Z A c S w t w1) := ⟨HWr.out.then_ q0⟩; have Q0c : Aside (w1.heap[w.heap.size]? = some (.cells #[.pointer (some ⟨Z, 0, none⟩)] 79 (0, 0)) ∧ w1.heap[w.heap.size + 1]? = some (.cells #[.slice none 0 0, .int .u8 0, .slice none 0 0, .int .u8 0, .int .u8 0, .int .u8 0] 56 (0, 0))) := ⟨⟨q0.box hne B1.out.2.1, q0.box hne1 B1.out.2.2.1⟩⟩; have k1 : w1.cell? ⟨w.heap.size, 0, none⟩ = some (.pointer (some ⟨Z, 0, none⟩)) := cell_of Q0c.out.1; have hs1 : W1.heap.size ≤ w1.heap.size := q0.size; clear q0)
        | ((with_reducible refine (KD0.out (W1.alloc (.cells #[.slice none 0 0, .int .u8 0, .slice none 0 0, .int .u8 0, .int .u8 0, .int .u8 0] 56)).drew HWa.out.rd).mono ?_); rintro e w1 ⟨rfl, q0⟩; have Q0 : Aside (Rk base Z A c S w t w1) := ⟨HWa.out.then_ q0⟩; have Q0c : Aside (w1.heap[w.heap.size]? = some (.cells #[.pointer (some ⟨Z, 0, none⟩)] 79 (0, 0)) ∧ w1.heap[w.heap.size + 1]? = some (.cells #[.slice none 0 0, .int .u8 0, .slice none 0 0, .int .u8 0, .int .u8 0, .int .u8 0] 56 (0, 0))) := ⟨⟨q0.box hne (heap_up B1.out.2.1), q0.box hne1 (heap_up B1.out.2.2.1)⟩⟩; have k1 : w1.cell? ⟨w.heap.size, 0, none⟩ = some (.pointer (some ⟨Z, 0, none⟩)) := cell_of Q0c.out.1; have hs1 : W1.heap.size ≤ w1.heap.size := Nat.le_trans (bel_one W1 _).size q0.size; have XA : Aside (w1.heap[W1.heap.size]? = some (.cells #[.slice none 0 0, .int .u8 0, .slice none 0 0, .int .u8 0, .int .u8 0, .int .u8 0] 56 (0, 0))) := ⟨q0.box (Nat.ne_of_gt hZ1) (heap_alloc_new W1 _)⟩; clear q0)
        | ((with_reducible refine (KM.out (w1.alloc (.cells #[.slice none 0 0, .int .u8 0, .slice none 0 0, .int .u8 0, .int .u8 0, .int .u8 0] 56)) t (Q0.out.rd.below (bel_one _ _)) n hn255).mono ?_); rintro e w2 ⟨v, css, rfl, hrows, q1⟩; rw [HL.out] at hrows q1; obtain ⟨A1, c1, rfl⟩ := own_len hrows.own; have Q1 : Aside (Rk base Z A c S w t2 w2) := ⟨(Q0.out.below (bel_one _ _)).then_ q1⟩; have Q1c : Aside (w2.heap[w.heap.size]? = some (.cells #[.pointer (some ⟨Z, 0, none⟩)] 79 (0, 0)) ∧ w2.heap[w.heap.size + 1]? = some (.cells #[.slice none 0 0, .int .u8 0, .slice none 0 0, .int .u8 0, .int .u8 0, .int .u8 0] 56 (0, 0))) := ⟨⟨q1.box hne (heap_up Q0c.out.1), q1.box hne1 (heap_up Q0c.out.2)⟩⟩; have k1 : w2.cell? ⟨w.heap.size, 0, none⟩ = some (.pointer (some ⟨Z, 0, none⟩)) := cell_of Q1c.out.1; have hs2 : w.heap.size < w2.heap.size := lt_of_block Q1c.out.1; have HR : Aside (RowsR w.heap.size 58 2 E_sem w2 (.slice A1 L.length c1) L css) := ⟨hrows.down (Nat.le_trans Q0.out.size (bel_one w1 _).size)⟩; have XB : Aside (w2.heap[w1.heap.size]? = some (.cells #[.slice none 0 0, .int .u8 0, .slice none 0 0, .int .u8 0, .int .u8 0, .int .u8 0] 56 (0, 0))) := ⟨q1.box (Nat.ne_of_gt (Nat.lt_of_lt_of_le hZ1 hs1)) (heap_alloc_new w1 _)⟩; obtain ⟨f0, f1, f2, f3, f4, f5⟩ := marks6 XB.out; obtain ⟨b0, b1, b2, b3, b4, b5⟩ := boxc6 XB.out; clear q1 hrows)
        | ((with_reducible refine (KM.out w1 t Q0.out.rd n hn255).mono ?_); rintro e w2 ⟨v, css, rfl, hrows, q1⟩; rw [HL.out] at hrows q1; obtain ⟨A1, c1, rfl⟩ := own_len hrows.own; have Q1 : Aside (Rk base Z A c S w t2 w2) := ⟨Q0.out.then_ q1⟩; have Q1c : Aside (w2.heap[w.heap.size]? = some (.cells #[.pointer (some ⟨Z, 0, none⟩)] 79 (0, 0)) ∧ w2.heap[w.heap.size + 1]? = some (.cells #[.slice none 0 0, .int .u8 0, .slice none 0 0, .int .u8 0, .int .u8 0, .int .u8 0] 56 (0, 0))) := ⟨⟨q1.box hne Q0c.out.1, q1.box hne1 Q0c.out.2⟩⟩; have k1 : w2.cell? ⟨w.heap.size, 0, none⟩ = some (.pointer (some ⟨Z, 0, none⟩)) := cell_of Q1c.out.1; have hs2 : w.heap.size < w2.heap.size := lt_of_block Q1c.out.1; have HR : Aside (RowsR w.heap.size 58 2 E_sem w2 (.slice A1 L.length c1) L css) := ⟨hrows.down Q0.out.size⟩; (first | (have XB : Aside (w2.heap[W1.heap.size]? = some (.cells #[.slice none 0 0, .int .u8 0, .slice none 0 0, .int .u8 0, .int .u8 0, .int .u8 0] 56 (0, 0))) := ⟨q1.box (Nat.ne_of_gt hZ1) XA.out⟩; obtain ⟨f0, f1, f2, f3, f4, f5⟩ := marks6 XB.out; obtain ⟨b0, b1, b2, b3, b4, b5⟩ := boxc6 XB.out) | skip); clear q1 hrows))
    all_goals
      go_wp2_with fail
      go_meet
      case rel =>
        refine ⟨_, rfl, ⟨A1, c1, css, ?_⟩⟩
        first
          | ((with_reducible refine pt_made R0.out Q1.out Q1c.out.1 Q1c.out.2 XB.out ?_ HR.out); omega)
          | (with_reducible refine pt_made R0.out (Q1.out.below (bel_one _ _)) (heap_up Q1c.out.1) (heap_up Q1c.out.2) (heap_alloc_new _ _) (lt_of_block Q1c.out.2) (HR.out.kept (Kept.of_below (S := fun _ => False) (bel_one _ _)) (fun _ _ => id) (fun _ _ q => q)))
          | (refine ⟨Q1.out.below (bel_one _ _), heap_up Q1c.out.1, heap_up Q1c.out.2, heap_alloc_new _ _, lt_of_block Q1c.out.2, HR.out.kept (Kept.of_below (S := fun _ => False) (bel_one _ _)) (fun _ _ => id) (fun _ _ q => q)⟩)
  case rest =>
    obtain ⟨X, rfl, M⟩ := hcut
    obtain ⟨A1, c1, css, M⟩ := M.out
    have M := Aside.mk M
    have hX := M.out.hX
    obtain ⟨⟨ev, t3⟩, he1⟩ : ∃ r, rdN S 1 t2 = r := ⟨_, rfl⟩
    obtain ⟨⟨m2, t4⟩, he2⟩ : ∃ r, rdN S 1 t3 = r := ⟨_, rfl⟩
    have hev := rdN_range1 hS t2
    have hm2 := rdN_range1 hS t3
    rw [he1] at hev
    rw [he2] at hm2
    obtain ⟨n2, hn2⟩ : ∃ n2 : Nat, m2 = (n2 : Int) := ⟨m2.toNat, by omega⟩
    subst hn2
    obtain ⟨⟨L2, t5⟩, he3⟩ : ∃ r, manyS (rdN S 1) n2 t4 [] = r := ⟨_, rfl⟩
    obtain ⟨⟨y0, t6⟩, he4⟩ : ∃ r, rdN S 1 t5 = r := ⟨_, rfl⟩
    obtain ⟨⟨y1, t7⟩, he5⟩ : ∃ r, rdN S 1 t6 = r := ⟨_, rfl⟩
    obtain ⟨⟨y2, t8⟩, he6⟩ : ∃ r, rdN S 1 t7 = r := ⟨_, rfl⟩
    have hy0 := rdN_range1 hS t5
    have hy1 := rdN_range1 hS t6
    have hy2 := rdN_range1 hS t7
    rw [he4] at hy0
    rw [he5] at hy1
    rw [he6] at hy2
    have HP : Aside (partS S s = ((L, ev, L2, [y0, y1, y2], ()), t8)) := ⟨by
      have h3 : procsS S t3 = (L2, t5) := by rw [procsS, he2]; simp only [Int.toNat_natCast]; exact he3
      have h4 : actsS S t5 = ([y0, y1, y2], t8) := by rw [actsS, he4, he5, he6]
      rw [partS, HLt.out, he1, h3, h4]⟩
    have HY := Aside.mk (And.intro hev (And.intro hy0 (And.intro hy1 hy2)))
    obtain ⟨hn20, hn21⟩ := hm2
    have KA : Aside (∀ W, Bl.RD base W Z A c S t2.1 t2.2 → Calls Tryd.prog 31 #[.pointer (some ⟨Z, 0, none⟩)] W (ReadP base Z A c S W (.int .u8 ev) t3)) := ⟨fun W q => by have := K8.out W t2 q; rw [he1] at this; exact this⟩
    have KB : Aside (∀ W, Bl.RD base W Z A c S t3.1 t3.2 → Calls Tryd.prog 31 #[.pointer (some ⟨Z, 0, none⟩)] W (ReadP base Z A c S W (.int .u8 n2) t4)) := ⟨fun W q => by have := K8.out W t3 q; rw [he2] at this; exact this⟩
    have KC : Aside (∀ W, Bl.RD base W Z A c S t4.1 t4.2 → Calls Tryd.prog 65 #[.pointer (some ⟨Z, 0, none⟩), .int .i64 n2, .func (.func 31) #[.pointer (some ⟨Z, 0, none⟩)] #[]] W (ManyP base Z A c S 5 1 E_u8 W (L2, t5))) := ⟨fun W q => by have := many_u8 hS W t4 q n2 (by omega); rw [he3] at this; exact this⟩
    have KD : Aside (∀ W, Bl.RD base W Z A c S t5.1 t5.2 → Calls Tryd.prog 31 #[.pointer (some ⟨Z, 0, none⟩)] W (ReadP base Z A c S W (.int .u8 y0) t6)) := ⟨fun W q => by have := K8.out W t5 q; rw [he4] at this; exact this⟩
    have KE : Aside (∀ W, Bl.RD base W Z A c S t6.1 t6.2 → Calls Tryd.prog 31 #[.pointer (some ⟨Z, 0, none⟩)] W (ReadP base Z A c S W (.int .u8 y1) t7)) := ⟨fun W q => by have := K8.out W t6 q; rw [he5] at this; exact this⟩
    have KF : Aside (∀ W, Bl.RD base W Z A c S t7.1 t7.2 → Calls Tryd.prog 31 #[.pointer (some ⟨Z, 0, none⟩)] W (ReadP base Z A c S W (.int .u8 y2) t8)) := ⟨fun W q => by have := K8.out W t7 q; rw [he6] at this; exact this⟩
    clear he1 he2 he3 he4 he5 he6 hev hy0 hy1 hy2 ht p0
    have p0 := cell_of M.out.rdg
    have hwn2 : IntKind.i64.wrap (n2 : Int) = (n2 : Int) := IntWalk.i64_in _ (by omega)
    go_wp2_with fail
    refine (KA.out _ M.out.rk.rd).mono ?_
    rintro e w3 ⟨rfl, q3⟩
    have M3 := Aside.mk (M.out.step hZ q3)
    clear q3 p0
    obtain ⟨f0, f1, f2, f3, f4, f5⟩ := marks6 M3.out.box
    obtain ⟨b0, b1, b2, b3, b4, b5⟩ := boxc6 M3.out.box
    obtain ⟨W4, HW4⟩ : ∃ W4, Aside (W4 = w3.setCell ⟨X, 1, none⟩ (.int .u8 ev)) := ⟨_, ⟨rfl⟩⟩
    have M4 : Aside (PtSt base Z A c S w X (.slice A1 L.length c1) (.slice none 0 0) ev 0 0 0 L css t3 W4) := ⟨by
      rw [HW4.out]
      exact M3.out.put R0.out ((Kept.refl (fun k => k = X) w3).setCell (p := ⟨X, 1, none⟩) (.inl rfl) _) (by have := heap_setCell_at (off := 1) M3.out.box (.int .u8 ev); simpa using this) M3.out.rows⟩
    go_upto_region 3 with (fail)
    rw [← HW4.out]
    clear f0 f1 f2 f3 f4 f5 b0 b1 b2 b3 b4 b5
    have p0 := cell_of M4.out.rdg
    have RD4 : Aside (Bl.RD base W4.drew Z A c S t3.1 t3.2) := ⟨M4.out.rk.rd.below (below_drewN W4 1)⟩
    have M4d := Aside.mk (M4.out.below (below_drewN W4 1))
    go_region_held3 (fun w' => w'.cell? ⟨w.heap.size, 0, none⟩ = some (.pointer (some ⟨Z, 0, none⟩))) (first | go_keep | (with_reducible exact k1) | (refine set1_cell k1 ?_; omega))
      (first
        | ((with_reducible refine (KB.out W4.drew RD4.out).mono ?_); rintro e w5 ⟨rfl, q5⟩; have M5 := Aside.mk (M4d.out.step hZ q5); have k1 := cell_of M5.out.rdg; clear q5)
        | ((with_reducible refine (KC.out w5 M5.out.rk.rd).mono ?_); rintro e w6 ⟨v, dss, rfl, hrows, q6⟩; obtain ⟨A2, c2, rfl⟩ := own_len hrows.own; have M6 := Aside.mk (M5.out.step hZ q6); have HR2 := Aside.mk (hrows.down M5.out.rk.size); have k1 := cell_of M6.out.rdg; obtain ⟨f0, f1, f2, f3, f4, f5⟩ := marks6 M6.out.box; obtain ⟨b0, b1, b2, b3, b4, b5⟩ := boxc6 M6.out.box; clear q6 hrows))
    all_goals
      obtain ⟨W7, HW7⟩ : ∃ W7, Aside (W7 = w6.setCell ⟨X, 2, none⟩ (.slice A2 L2.length c2)) := ⟨_, ⟨rfl⟩⟩
      go_upto_region 4 with (fail)
      rw [← HW7.out]
      have KX : Kept (fun k => k = X) w6 W7 := by rw [HW7.out]; exact (Kept.refl (fun k => k = X) w6).setCell (p := ⟨X, 2, none⟩) (.inl rfl) _
      have M7 : Aside (PtSt base Z A c S w X (.slice A1 L.length c1) (.slice A2 L2.length c2) ev 0 0 0 L css t5 W7) := ⟨by
        refine M6.out.put R0.out KX ?_ M6.out.rows
        rw [HW7.out]
        have := heap_setCell_at (off := 2) M6.out.box (.slice A2 L2.length c2)
        simpa using this⟩
      have P7 : Aside (RowsR w.heap.size 5 1 E_u8 W7 (.slice A2 L2.length c2) L2 dss) := ⟨HR2.out.kept KX (fun b hb' e => by
        subst e
        exact own_type HR2.out.own M6.out.box (by decide) hb' rfl) (fun _ _ q => q)⟩
      clear KX f0 f1 f2 f3 f4 f5 b0 b1 b2 b3 b4 b5 p0 k1
      have p0 := cell_of M7.out.rdg
      have RD7 : Aside (Bl.RD base W7.drew Z A c S t5.1 t5.2) := ⟨M7.out.rk.rd.below (below_drewN W7 1)⟩
      have M7d := Aside.mk (M7.out.below (below_drewN W7 1))
      have P7d := Aside.mk (P7.out.kept (Kept.of_below (S := fun _ => False) (below_drewN W7 1)) (fun _ _ => id) (fun _ _ q => q))
      go_region_held3 (fun w' => w'.cell? ⟨w.heap.size, 0, none⟩ = some (.pointer (some ⟨Z, 0, none⟩))) (first | go_keep | (with_reducible exact k1) | (refine set3_cell' k1 ?_; omega))
        (first
          | ((with_reducible refine (KD.out W7.drew RD7.out).mono ?_); rintro e w8 ⟨rfl, q8⟩; have M8 := Aside.mk (M7d.out.step hZ q8); have P8 := Aside.mk (P7d.out.off q8.kept hZ (fun _ _ q => q)); have k1 := cell_of M8.out.rdg; clear q8)
          | ((with_reducible refine (KE.out w8 M8.out.rk.rd).mono ?_); rintro e w9 ⟨rfl, q9⟩; have M9 := Aside.mk (M8.out.step hZ q9); have P9 := Aside.mk (P8.out.off q9.kept hZ (fun _ _ q => q)); have k1 := cell_of M9.out.rdg; clear q9)
          | ((with_reducible refine (KF.out w9 M9.out.rk.rd).mono ?_); rintro e w10 ⟨rfl, q10⟩; have M10 := Aside.mk (M9.out.step hZ q10); have P10 := Aside.mk (P9.out.off q10.kept hZ (fun _ _ q => q)); have k1 := cell_of M10.out.rdg; obtain ⟨f0, f1, f2, f3, f4, f5⟩ := marks6 M10.out.box; obtain ⟨b0, b1, b2, b3, b4, b5⟩ := boxc6 M10.out.box; clear q10))
      all_goals
        obtain ⟨W11, HW11⟩ : ∃ W11, Aside (W11 = ((w10.setCell ⟨X, 3, none⟩ (.int .u8 y0)).setCell ⟨X, 4, none⟩ (.int .u8 y1)).setCell ⟨X, 5, none⟩ (.int .u8 y2)) := ⟨_, ⟨rfl⟩⟩
        go_upto_region 5 with (fail)
        rw [← HW11.out]
        have KX : Kept (fun k => k = X) w10 W11 := by rw [HW11.out]; exact (((Kept.refl (fun k => k = X) w10).setCell (p := ⟨X, 3, none⟩) (.inl rfl) _).setCell (p := ⟨X, 4, none⟩) (.inl rfl) _).setCell (p := ⟨X, 5, none⟩) (.inl rfl) _
        have M11 : Aside (PtSt base Z A c S w X (.slice A1 L.length c1) (.slice A2 L2.length c2) ev y0 y1 y2 L css t8 W11) := ⟨by
          refine M10.out.put R0.out KX ?_ M10.out.rows
          rw [HW11.out]
          have := heap_setCell_at (off := 5) (heap_setCell_at (off := 4) (heap_setCell_at (off := 3) M10.out.box (.int .u8 y0)) (.int .u8 y1)) (.int .u8 y2)
          simpa using this⟩
        have P11 : Aside (RowsR w.heap.size 5 1 E_u8 W11 (.slice A2 L2.length c2) L2 dss) := ⟨P10.out.kept KX (fun b hb' e => by
          subst e
          exact own_type P10.out.own M10.out.box (by decide) hb' rfl) (fun _ _ q => q)⟩
        clear KX f0 f1 f2 f3 f4 f5 b0 b1 b2 b3 b4 b5 p0 k1
        obtain ⟨b0, b1, b2, b3, b4, b5⟩ := boxc6 M11.out.box
        obtain ⟨f0, f1, f2, f3, f4, f5⟩ := marks6 M11.out.res
        obtain ⟨c0', c1', c2', c3', c4', c5'⟩ := boxc6 M11.out.res
        go_wp2_with fail
        have FE := part_end R0.out hZ M11.out P11.out HY.out.1 HY.out.2.1 HY.out.2.2.1 HY.out.2.2.2 _ rfl
        obtain ⟨F1, F2, g0, g1, g2, g3, g4, g5⟩ := FE
        refine bodyPost_ret (v := .agg #[.slice A1 L.length c1, .int .u8 ev, .slice A2 L2.length c2, .int .u8 y0, .int .u8 y1, .int .u8 y2]) (by simp [results, Tryd.results35, go_sem, g0, g1, g2, g3, g4, g5]) rfl ⟨A1, _, c1, ev, A2, _, c2, y0, y1, y2, rfl, ?_, ?_⟩
        · rw [HP.out]; exact F1
        · rw [HP.out]; exact F2
end Go.Proofs.YtbphlapdhcgikaaDoor
