/- Plans of bytes: many of one kind. -/
import Derived.Test.YtbphlapdhcgikaaDoorDecA
namespace Go.Proofs.YtbphlapdhcgikaaDoor
open Go.RowKit
set_option linter.unusedVariables false
set_option linter.unusedSimpArgs false

/-- Rows of things that a call owns: each element's cells read by E. -/
structure RowsR {α : Type} (lo : Nat) (e : TypeId) (size : Nat) (E : World → List Value → α → Prop) (w : World) (v : Value) (xs : List α) (css : List (List Value)) : Prop where
  own : w.ownsRow lo e size v xs.length css.flatten
  len : css.length = xs.length
  el : ∀ (i : Nat) (cs : List Value) (x : α), css[i]? = some cs → xs[i]? = some x → E w cs x ∧ cs.length = size
theorem RowsR.nil {α : Type} (lo : Nat) (e : TypeId) (size : Nat) (E : World → List Value → α → Prop) (w : World) : RowsR lo e size E w (.slice none 0 0) [] [] :=
  ⟨own_nil _ _ _ _, rfl, fun i cs x h => by simp at h⟩
theorem own_typ {w : World} {base n size : Nat} {e : TypeId} {v : Value} {xs : List Value} {j : Nat} (h : w.ownsRow base e size v n xs) (hj : v.ownBlock = some j) : base ≤ j ∧ ∃ cs fr, w.heap[j]? = some (.cells cs e fr) := by
  refine ⟨own_base h j hj, ?_⟩
  rcases h.2 with ⟨rfl, h0⟩ | ⟨g, cap, cur, rfl, hb, hh, _⟩
  · simp [Value.ownBlock] at hj
  · have : g = j := by simpa [Value.ownBlock] using hj
    subst this
    exact ⟨_, _, hh⟩
/-- What many hands out. -/
def ManyP {α : Type} (base Z : Nat) (A : Option Addr) (c : Nat) (S : List Int) (e : TypeId) (size : Nat) (E : World → List Value → α → Prop) (w : World) (r : List α × St) (en : Ending) (w' : World) : Prop :=
  ∃ v css, en = .returned v ∧ RowsR w.heap.size e size E w' v r.1 css ∧ Rk base Z A c S w r.2 w'
/-- The state of the loop: k are read. -/
structure MSt {α : Type} (base Z : Nat) (A : Option Addr) (c : Nat) (S : List Int) (e : TypeId) (size : Nat) (E : World → List Value → α → Prop) (f : St → α × St) (w : World) (s : St) (n k : Nat) (acc : List α) (css : List (List Value)) (t : St) (v : Value) (a : World) : Prop where
  same : manyS f n s [] = manyS f (n - k) t acc
  len : acc.length = k
  rows : RowsR w.heap.size e size E a v acc css
  rk : Rk base Z A c S w t a
theorem MSt.start {α : Type} {base Z : Nat} {A : Option Addr} {c : Nat} {S : List Int} {e : TypeId} {size : Nat} {E : World → List Value → α → Prop} {f : St → α × St} {w : World} {s : St} {n : Nat} (h : Bl.RD base w Z A c S s.1 s.2) : MSt base Z A c S e size E f w s n 0 [] [] s (.slice none 0 0) w :=
  ⟨rfl, rfl, RowsR.nil _ _ _ _ _, ⟨h, Kept.refl _ _⟩⟩
/-- A thing more. w2: behind the read; w3: behind the append. -/
theorem MSt.push {α : Type} {base Z : Nat} {A : Option Addr} {c : Nat} {S : List Int} {e : TypeId} {size : Nat} {E : World → List Value → α → Prop} {f : St → α × St} {w : World} {s : St} {n k : Nat} {acc : List α} {css : List (List Value)} {t : St} {v v1 : Value} {a w2 w3 : World} (m : MSt base Z A c S e size E f w s n k acc css t v a) (hk : k < n) (ht : t.2 = false) (h0 : Bl.RD base w Z A c S s.1 s.2) (hZ : Z < w.heap.size)
    (hE1 : ∀ (w w' : World) (cs : List Value) (x : α), E w cs x → Kept (fun j => j = Z) w w' → E w' cs x) (hE2 : ∀ (w w' : World) (v : Value) (lo n : Nat) (xs : List Value) (cs : List Value) (x : α), E w cs x → w.ownsRow lo e size v n xs → w.grownBy w' v.ownBlock → E w' cs x) (he : 74 ≠ e)
    (q : Rk base Z A c S a (f t).2 w2) (cs : List Value) (hcs : E w2 cs (f t).1) (hl : cs.length = size) (o : w3.ownsRow w.heap.size e size v1 (k + 1) (css.flatten ++ cs)) (g : w2.grownBy w3 v.ownBlock) :
    MSt base Z A c S e size E f w s n (k + 1) (acc ++ [(f t).1]) (css ++ [cs]) (f t).2 v1 w3 := by
  have R2 : Rk base Z A c S w (f t).2 w2 := m.rk.then_ q
  have own2 : w2.ownsRow w.heap.size e size v acc.length css.flatten := own_kept m.rows.own q.kept (fun r hr e => by have := own_base m.rows.own r hr; omega)
  refine ⟨?_, by simp [m.len], ⟨?_, by simp [m.rows.len], fun i ds x hd hx => ?_⟩, ⟨?_, ?_⟩⟩
  · rw [m.same, show n - k = (n - (k + 1)) + 1 by omega, many_go _ _ _ _ ht]
  · rw [List.flatten_append, List.length_append, m.len]
    simpa using o
  · rw [List.getElem?_append] at hd hx
    rw [m.rows.len] at hd
    split at hd
    · rename_i hi
      rw [if_pos hi] at hx
      have z := m.rows.el i ds x hd hx
      exact ⟨hE2 _ _ _ _ _ _ _ _ (hE1 _ _ _ _ z.1 q.kept) own2 g, z.2⟩
    · rename_i hi
      rw [if_neg hi] at hx
      have h0 : i - acc.length = 0 := by
        have := (List.getElem?_eq_some_iff.1 hd).1
        simp at this
        omega
      rw [h0] at hd hx
      simp at hd hx
      subst hd hx
      exact ⟨hE2 _ _ _ _ _ _ _ _ hcs own2 g, hl⟩
  · exact rd_news h0 R2.rd (T := fun j => v.ownBlock = some j) (by
      have := grown_kept g
      exact this) he (fun j hj => own_typ own2 hj)
  · exact R2.kept.then_ (grown_kept g) (fun j hj => .inr (own_base own2 j hj))
theorem semS_ok {S : List Int} (hS : ∀ x ∈ S, 0 ≤ x ∧ x ≤ 255) (s : St) : SemR.Ok (semS S s).1 := ⟨rdN_range1 hS _, rdN_range1 hS _⟩
theorem pairS_ok {S : List Int} (hS : ∀ x ∈ S, 0 ≤ x ∧ x ≤ 255) (s : St) : PairR.Ok (pairS S s).1 := ⟨rdN_range1 hS _, rdN_range1 hS _⟩
theorem chanS_ok {S : List Int} (hS : ∀ x ∈ S, 0 ≤ x ∧ x ≤ 255) (s : St) : ChanR.Ok (chanS S s).1 := ⟨rdN_range1 hS _, rdN_range1 hS _, rdN_range1 hS _, rdN_range1 hS _, rdN_range1 hS _, rdN_range2 hS _⟩
def E_win (w : World) (cs : List Value) (x : Win) : Prop := cs = Win.vals x ∧ Win.Ok x
theorem E1_win {Z : Nat} (w w' : World) (cs : List Value) (x : Win) (h : E_win w cs x) (_ : Kept (fun j => j = Z) w w') : E_win w' cs x := h
theorem E2_win {e : TypeId} {size : Nat} (w w' : World) (v : Value) (lo n : Nat) (xs : List Value) (cs : List Value) (x : Win) (h : E_win w cs x) (_ : w.ownsRow lo e size v n xs) (_ : w.grownBy w' v.ownBlock) : E_win w' cs x := h
theorem info_win : (Tryd.prog.info? 51).map (fun i => (i.zero, i.size, i.bytes)) = some (some (.agg #[.int .u16 0, .int .u16 0, .int .u8 0, .int .u8 0]), 4, 6) := by kernel_rfl
set_option maxHeartbeats 6400000 in
theorem many_win {base Z c : Nat} {A : Option Addr} {S : List Int} (hS : ∀ x ∈ S, 0 ≤ x ∧ x ≤ 255) (w : World) (s : St) (h : Bl.RD base w Z A c S s.1 s.2) (n : Nat) (hn : n ≤ 65535) :
    Calls Tryd.prog 61 #[.pointer (some ⟨Z, 0, none⟩), .int .i64 n, .func (.func 62) #[.agg #[.pointer (some ⟨Z, 0, none⟩)]] #[]] w (ManyP base Z A c S 51 4 E_win w (manyS (winS S) n s [])) := by
  have H0 := Aside.mk h
  have HZ := Aside.mk (rd_lt h)
  have KE : Aside (∀ (W : World) (t : St), Bl.RD base W Z A c S t.1 t.2 → Calls Tryd.prog 28 #[.pointer (some ⟨Z, 0, none⟩)] W (Bl.ErrP W (Bl.errQ t.1 t.2))) := ⟨fun W t q => Bl.err_any base W Z A c S t.1 t.2 q⟩
  have KN : Aside (∀ (W : World) (t : St), Bl.RD base W Z A c S t.1 t.2 → Calls Tryd.prog 62 #[.agg #[.pointer (some ⟨Z, 0, none⟩)]] W fun e w' => e = .returned (.agg #[.int .u16 (Win.s (winS S t).1), .int .u16 (Win.l (winS S t).1), .int .u8 (Win.p (winS S t).1), .int .u8 (Win.g (winS S t).1)]) ∧ Rk base Z A c S W (winS S t).2 w' ∧ E_win w' (Win.vals (winS S t).1) (winS S t).1) := ⟨fun W t q => (window_any hS W t q).mono fun _ _ z => ⟨z.1, z.2, ⟨rfl, winS_ok hS t⟩⟩⟩
  clear h
  go_enter Tryd.func61, Tryd.ntmps61
  go_wp2_with fail
  go_loopg [7, 9] n (fun q s7 i wr => ∃ (k : Nat) (acc : List Win) (css : List (List Value)) (t : St) (v : Value), k ≤ n ∧ q = n - k ∧ v = s7 ∧ i = .int .i64 k ∧ Aside (MSt base Z A c S 51 4 E_win (winS S) w s n k acc css t v wr))
  case atStart => exact ⟨0, [], [], s, _, by omega, rfl, rfl, rfl, ⟨MSt.start H0.out⟩⟩
  case round =>
    obtain ⟨k, acc, css, t, v, hk, rfl, rfl, rfl, M⟩ := hrel
    by_cases hkn : k < n
    · have hki : (k : Int) < (n : Int) := by omega
      have KE1 := Aside.mk (KE.out wr t M.out.rk.rd)
      cases ht : t.2 with
      | true =>
        rw [ht] at KE1
        have HT := Aside.mk ht
        clear ht
        unfold Bl.ErrP Bl.errQ at KE1
        simp only [if_true] at KE1
        go_wp2_with fail
        refine KE1.out.mono ?_
        rintro e w2 ⟨b2, f, rfl, _, _⟩
        have B2 := Aside.mk b2
        clear b2
        go_wp2_with fail
        go_ret
        refine ⟨_, [], rfl, ?_, ?_⟩
        · rw [M.out.same, many_bad _ _ _ _ HT.out (by omega)]
          exact RowsR.nil _ _ _ _ _
        · rw [M.out.same, many_bad _ _ _ _ HT.out (by omega)]
          exact M.out.rk.below B2.out
      | false =>
        rw [ht] at KE1
        have HT := Aside.mk ht
        clear ht
        unfold Bl.ErrP Bl.errQ at KE1
        simp only [Bool.false_eq_true, if_false] at KE1
        go_wp2_with fail
        refine KE1.out.mono ?_
        rintro e w2 ⟨b2, rfl⟩
        have K2 := Aside.mk (KN.out w2 t (M.out.rk.rd.below b2))
        have B2 := Aside.mk b2
        clear b2
        go_wp2_with fail
        refine K2.out.mono ?_
        rintro e w3 ⟨rfl, r3, e3⟩
        have R3 : Aside (Rk base Z A c S wr (winS S t).2 w3) := ⟨(Rk.then_ (s := t) ⟨M.out.rk.rd.below B2.out, Kept.of_below B2.out⟩ r3)⟩
        have E3 := Aside.mk e3
        have O3 : Aside (w3.ownsRow w.heap.size 51 4 v k css.flatten) := ⟨by
          have := own_kept M.out.rows.own R3.out.kept (fun r hr e => by have := own_base M.out.rows.own r hr; have := HZ.out; omega)
          rw [M.out.len] at this
          exact this⟩
        have L3 : w.heap.size ≤ w3.heap.size := Nat.le_trans M.out.rk.size R3.out.size
        clear r3 e3
        go_wp2_with (at_builtin; go_loud (refine append_elem w.heap.size rfl _ _ 49 51 _ 4 6 rfl Tryd.underlying49 info_win rfl (by decide) (by decide) v k css.flatten (Win.vals (winS S t).1) rfl rfl rfl (win_one _) O3.out L3 (by omega) ?_))
        intro v1 w4 o4 g4 _
        have M4 := Aside.mk (M.out.push hkn HT.out H0.out HZ.out E1_win E2_win (by decide) R3.out _ E3.out rfl o4 g4)
        clear o4 g4
        go_wp2_with fail
        go_roundg (n - (k + 1))
        case measure => omega
        case rel => exact ⟨k + 1, _, _, _, _, by omega, rfl, rfl, by go_num, M4⟩
    · obtain rfl : k = n := by omega
      clear hkn hk
      go_wp2_with fail
      go_ret
      have hm := M.out.same
      rw [Nat.sub_self, manyS] at hm
      exact ⟨_, _, rfl, by rw [hm]; exact M.out.rows, by rw [hm]; exact M.out.rk⟩
def E_sem (w : World) (cs : List Value) (x : SemR) : Prop := cs = SemR.vals x ∧ SemR.Ok x
theorem E1_sem {Z : Nat} (w w' : World) (cs : List Value) (x : SemR) (h : E_sem w cs x) (_ : Kept (fun j => j = Z) w w') : E_sem w' cs x := h
theorem E2_sem {e : TypeId} {size : Nat} (w w' : World) (v : Value) (lo n : Nat) (xs : List Value) (cs : List Value) (x : SemR) (h : E_sem w cs x) (_ : w.ownsRow lo e size v n xs) (_ : w.grownBy w' v.ownBlock) : E_sem w' cs x := h
theorem info_sem : (Tryd.prog.info? 58).map (fun i => (i.zero, i.size, i.bytes)) = some (some (.agg #[.int .u8 0, .int .u8 0]), 2, 2) := by kernel_rfl
set_option maxHeartbeats 6400000 in
theorem many_sem {base Z c : Nat} {A : Option Addr} {S : List Int} (hS : ∀ x ∈ S, 0 ≤ x ∧ x ≤ 255) (w : World) (s : St) (h : Bl.RD base w Z A c S s.1 s.2) (n : Nat) (hn : n ≤ 65535) :
    Calls Tryd.prog 63 #[.pointer (some ⟨Z, 0, none⟩), .int .i64 n, .func (.func 64) #[.agg #[.pointer (some ⟨Z, 0, none⟩)]] #[]] w (ManyP base Z A c S 58 2 E_sem w (manyS (semS S) n s [])) := by
  have H0 := Aside.mk h
  have HZ := Aside.mk (rd_lt h)
  have KE : Aside (∀ (W : World) (t : St), Bl.RD base W Z A c S t.1 t.2 → Calls Tryd.prog 28 #[.pointer (some ⟨Z, 0, none⟩)] W (Bl.ErrP W (Bl.errQ t.1 t.2))) := ⟨fun W t q => Bl.err_any base W Z A c S t.1 t.2 q⟩
  have KN : Aside (∀ (W : World) (t : St), Bl.RD base W Z A c S t.1 t.2 → Calls Tryd.prog 64 #[.agg #[.pointer (some ⟨Z, 0, none⟩)]] W fun e w' => e = .returned (.agg #[.int .u8 (SemR.i (semS S t).1), .int .u8 (SemR.m (semS S t).1)]) ∧ Rk base Z A c S W (semS S t).2 w' ∧ E_sem w' (SemR.vals (semS S t).1) (semS S t).1) := ⟨fun W t q => (sem_any hS W t q).mono fun _ _ z => ⟨z.1, z.2, ⟨rfl, semS_ok hS t⟩⟩⟩
  clear h
  go_enter Tryd.func63, Tryd.ntmps63
  go_wp2_with fail
  go_loopg [7, 9] n (fun q s7 i wr => ∃ (k : Nat) (acc : List SemR) (css : List (List Value)) (t : St) (v : Value), k ≤ n ∧ q = n - k ∧ v = s7 ∧ i = .int .i64 k ∧ Aside (MSt base Z A c S 58 2 E_sem (semS S) w s n k acc css t v wr))
  case atStart => exact ⟨0, [], [], s, _, by omega, rfl, rfl, rfl, ⟨MSt.start H0.out⟩⟩
  case round =>
    obtain ⟨k, acc, css, t, v, hk, rfl, rfl, rfl, M⟩ := hrel
    by_cases hkn : k < n
    · have hki : (k : Int) < (n : Int) := by omega
      have KE1 := Aside.mk (KE.out wr t M.out.rk.rd)
      cases ht : t.2 with
      | true =>
        rw [ht] at KE1
        have HT := Aside.mk ht
        clear ht
        unfold Bl.ErrP Bl.errQ at KE1
        simp only [if_true] at KE1
        go_wp2_with fail
        refine KE1.out.mono ?_
        rintro e w2 ⟨b2, f, rfl, _, _⟩
        have B2 := Aside.mk b2
        clear b2
        go_wp2_with fail
        go_ret
        refine ⟨_, [], rfl, ?_, ?_⟩
        · rw [M.out.same, many_bad _ _ _ _ HT.out (by omega)]
          exact RowsR.nil _ _ _ _ _
        · rw [M.out.same, many_bad _ _ _ _ HT.out (by omega)]
          exact M.out.rk.below B2.out
      | false =>
        rw [ht] at KE1
        have HT := Aside.mk ht
        clear ht
        unfold Bl.ErrP Bl.errQ at KE1
        simp only [Bool.false_eq_true, if_false] at KE1
        go_wp2_with fail
        refine KE1.out.mono ?_
        rintro e w2 ⟨b2, rfl⟩
        have K2 := Aside.mk (KN.out w2 t (M.out.rk.rd.below b2))
        have B2 := Aside.mk b2
        clear b2
        go_wp2_with fail
        refine K2.out.mono ?_
        rintro e w3 ⟨rfl, r3, e3⟩
        have R3 : Aside (Rk base Z A c S wr (semS S t).2 w3) := ⟨(Rk.then_ (s := t) ⟨M.out.rk.rd.below B2.out, Kept.of_below B2.out⟩ r3)⟩
        have E3 := Aside.mk e3
        have O3 : Aside (w3.ownsRow w.heap.size 58 2 v k css.flatten) := ⟨by
          have := own_kept M.out.rows.own R3.out.kept (fun r hr e => by have := own_base M.out.rows.own r hr; have := HZ.out; omega)
          rw [M.out.len] at this
          exact this⟩
        have L3 : w.heap.size ≤ w3.heap.size := Nat.le_trans M.out.rk.size R3.out.size
        clear r3 e3
        go_wp2_with (at_builtin; go_loud (refine append_elem w.heap.size rfl _ _ 52 58 _ 2 2 rfl Tryd.underlying52 info_sem rfl (by decide) (by decide) v k css.flatten (SemR.vals (semS S t).1) rfl rfl rfl (sem_one _) O3.out L3 (by omega) ?_))
        intro v1 w4 o4 g4 _
        have M4 := Aside.mk (M.out.push hkn HT.out H0.out HZ.out E1_sem E2_sem (by decide) R3.out _ E3.out rfl o4 g4)
        clear o4 g4
        go_wp2_with fail
        go_roundg (n - (k + 1))
        case measure => omega
        case rel => exact ⟨k + 1, _, _, _, _, by omega, rfl, rfl, by go_num, M4⟩
    · obtain rfl : k = n := by omega
      clear hkn hk
      go_wp2_with fail
      go_ret
      have hm := M.out.same
      rw [Nat.sub_self, manyS] at hm
      exact ⟨_, _, rfl, by rw [hm]; exact M.out.rows, by rw [hm]; exact M.out.rk⟩
def E_pair (w : World) (cs : List Value) (x : PairR) : Prop := cs = PairR.vals x ∧ PairR.Ok x
theorem E1_pair {Z : Nat} (w w' : World) (cs : List Value) (x : PairR) (h : E_pair w cs x) (_ : Kept (fun j => j = Z) w w') : E_pair w' cs x := h
theorem E2_pair {e : TypeId} {size : Nat} (w w' : World) (v : Value) (lo n : Nat) (xs : List Value) (cs : List Value) (x : PairR) (h : E_pair w cs x) (_ : w.ownsRow lo e size v n xs) (_ : w.grownBy w' v.ownBlock) : E_pair w' cs x := h
theorem info_pair : (Tryd.prog.info? 62).map (fun i => (i.zero, i.size, i.bytes)) = some (some (.agg #[.int .u8 0, .int .u8 0]), 2, 2) := by kernel_rfl
set_option maxHeartbeats 6400000 in
theorem many_pair {base Z c : Nat} {A : Option Addr} {S : List Int} (hS : ∀ x ∈ S, 0 ≤ x ∧ x ≤ 255) (w : World) (s : St) (h : Bl.RD base w Z A c S s.1 s.2) (n : Nat) (hn : n ≤ 65535) :
    Calls Tryd.prog 38 #[.pointer (some ⟨Z, 0, none⟩), .int .i64 n, .func (.func 39) #[.agg #[.pointer (some ⟨Z, 0, none⟩)]] #[]] w (ManyP base Z A c S 62 2 E_pair w (manyS (pairS S) n s [])) := by
  have H0 := Aside.mk h
  have HZ := Aside.mk (rd_lt h)
  have KE : Aside (∀ (W : World) (t : St), Bl.RD base W Z A c S t.1 t.2 → Calls Tryd.prog 28 #[.pointer (some ⟨Z, 0, none⟩)] W (Bl.ErrP W (Bl.errQ t.1 t.2))) := ⟨fun W t q => Bl.err_any base W Z A c S t.1 t.2 q⟩
  have KN : Aside (∀ (W : World) (t : St), Bl.RD base W Z A c S t.1 t.2 → Calls Tryd.prog 39 #[.agg #[.pointer (some ⟨Z, 0, none⟩)]] W fun e w' => e = .returned (.agg #[.int .u8 (PairR.a (pairS S t).1), .int .u8 (PairR.b (pairS S t).1)]) ∧ Rk base Z A c S W (pairS S t).2 w' ∧ E_pair w' (PairR.vals (pairS S t).1) (pairS S t).1) := ⟨fun W t q => (pair_any hS W t q).mono fun _ _ z => ⟨z.1, z.2, ⟨rfl, pairS_ok hS t⟩⟩⟩
  clear h
  go_enter Tryd.func38, Tryd.ntmps38
  go_wp2_with fail
  go_loopg [7, 9] n (fun q s7 i wr => ∃ (k : Nat) (acc : List PairR) (css : List (List Value)) (t : St) (v : Value), k ≤ n ∧ q = n - k ∧ v = s7 ∧ i = .int .i64 k ∧ Aside (MSt base Z A c S 62 2 E_pair (pairS S) w s n k acc css t v wr))
  case atStart => exact ⟨0, [], [], s, _, by omega, rfl, rfl, rfl, ⟨MSt.start H0.out⟩⟩
  case round =>
    obtain ⟨k, acc, css, t, v, hk, rfl, rfl, rfl, M⟩ := hrel
    by_cases hkn : k < n
    · have hki : (k : Int) < (n : Int) := by omega
      have KE1 := Aside.mk (KE.out wr t M.out.rk.rd)
      cases ht : t.2 with
      | true =>
        rw [ht] at KE1
        have HT := Aside.mk ht
        clear ht
        unfold Bl.ErrP Bl.errQ at KE1
        simp only [if_true] at KE1
        go_wp2_with fail
        refine KE1.out.mono ?_
        rintro e w2 ⟨b2, f, rfl, _, _⟩
        have B2 := Aside.mk b2
        clear b2
        go_wp2_with fail
        go_ret
        refine ⟨_, [], rfl, ?_, ?_⟩
        · rw [M.out.same, many_bad _ _ _ _ HT.out (by omega)]
          exact RowsR.nil _ _ _ _ _
        · rw [M.out.same, many_bad _ _ _ _ HT.out (by omega)]
          exact M.out.rk.below B2.out
      | false =>
        rw [ht] at KE1
        have HT := Aside.mk ht
        clear ht
        unfold Bl.ErrP Bl.errQ at KE1
        simp only [Bool.false_eq_true, if_false] at KE1
        go_wp2_with fail
        refine KE1.out.mono ?_
        rintro e w2 ⟨b2, rfl⟩
        have K2 := Aside.mk (KN.out w2 t (M.out.rk.rd.below b2))
        have B2 := Aside.mk b2
        clear b2
        go_wp2_with fail
        refine K2.out.mono ?_
        rintro e w3 ⟨rfl, r3, e3⟩
        have R3 : Aside (Rk base Z A c S wr (pairS S t).2 w3) := ⟨(Rk.then_ (s := t) ⟨M.out.rk.rd.below B2.out, Kept.of_below B2.out⟩ r3)⟩
        have E3 := Aside.mk e3
        have O3 : Aside (w3.ownsRow w.heap.size 62 2 v k css.flatten) := ⟨by
          have := own_kept M.out.rows.own R3.out.kept (fun r hr e => by have := own_base M.out.rows.own r hr; have := HZ.out; omega)
          rw [M.out.len] at this
          exact this⟩
        have L3 : w.heap.size ≤ w3.heap.size := Nat.le_trans M.out.rk.size R3.out.size
        clear r3 e3
        go_wp2_with (at_builtin; go_loud (refine append_elem w.heap.size rfl _ _ 26 62 _ 2 2 rfl Tryd.underlying26 info_pair rfl (by decide) (by decide) v k css.flatten (PairR.vals (pairS S t).1) rfl rfl rfl (pair_one _) O3.out L3 (by omega) ?_))
        intro v1 w4 o4 g4 _
        have M4 := Aside.mk (M.out.push hkn HT.out H0.out HZ.out E1_pair E2_pair (by decide) R3.out _ E3.out rfl o4 g4)
        clear o4 g4
        go_wp2_with fail
        go_roundg (n - (k + 1))
        case measure => omega
        case rel => exact ⟨k + 1, _, _, _, _, by omega, rfl, rfl, by go_num, M4⟩
    · obtain rfl : k = n := by omega
      clear hkn hk
      go_wp2_with fail
      go_ret
      have hm := M.out.same
      rw [Nat.sub_self, manyS] at hm
      exact ⟨_, _, rfl, by rw [hm]; exact M.out.rows, by rw [hm]; exact M.out.rk⟩
def E_chan (w : World) (cs : List Value) (x : ChanR) : Prop := cs = ChanR.vals x ∧ ChanR.Ok x
theorem E1_chan {Z : Nat} (w w' : World) (cs : List Value) (x : ChanR) (h : E_chan w cs x) (_ : Kept (fun j => j = Z) w w') : E_chan w' cs x := h
theorem E2_chan {e : TypeId} {size : Nat} (w w' : World) (v : Value) (lo n : Nat) (xs : List Value) (cs : List Value) (x : ChanR) (h : E_chan w cs x) (_ : w.ownsRow lo e size v n xs) (_ : w.grownBy w' v.ownBlock) : E_chan w' cs x := h
theorem info_chan : (Tryd.prog.info? 60).map (fun i => (i.zero, i.size, i.bytes)) = some (some (.agg #[.int .u8 0, .int .u8 0, .int .u8 0, .int .u8 0, .int .u8 0, .int .u16 0]), 6, 8) := by kernel_rfl
set_option maxHeartbeats 6400000 in
theorem many_chan {base Z c : Nat} {A : Option Addr} {S : List Int} (hS : ∀ x ∈ S, 0 ≤ x ∧ x ≤ 255) (w : World) (s : St) (h : Bl.RD base w Z A c S s.1 s.2) (n : Nat) (hn : n ≤ 65535) :
    Calls Tryd.prog 36 #[.pointer (some ⟨Z, 0, none⟩), .int .i64 n, .func (.func 37) #[.agg #[.pointer (some ⟨Z, 0, none⟩)]] #[]] w (ManyP base Z A c S 60 6 E_chan w (manyS (chanS S) n s [])) := by
  have H0 := Aside.mk h
  have HZ := Aside.mk (rd_lt h)
  have KE : Aside (∀ (W : World) (t : St), Bl.RD base W Z A c S t.1 t.2 → Calls Tryd.prog 28 #[.pointer (some ⟨Z, 0, none⟩)] W (Bl.ErrP W (Bl.errQ t.1 t.2))) := ⟨fun W t q => Bl.err_any base W Z A c S t.1 t.2 q⟩
  have KN : Aside (∀ (W : World) (t : St), Bl.RD base W Z A c S t.1 t.2 → Calls Tryd.prog 37 #[.agg #[.pointer (some ⟨Z, 0, none⟩)]] W fun e w' => e = .returned (.agg #[.int .u8 (ChanR.k (chanS S t).1), .int .u8 (ChanR.f (chanS S t).1), .int .u8 (ChanR.t (chanS S t).1), .int .u8 (ChanR.z (chanS S t).1), .int .u8 (ChanR.d (chanS S t).1), .int .u16 (ChanR.y (chanS S t).1)]) ∧ Rk base Z A c S W (chanS S t).2 w' ∧ E_chan w' (ChanR.vals (chanS S t).1) (chanS S t).1) := ⟨fun W t q => (channel_any hS W t q).mono fun _ _ z => ⟨z.1, z.2, ⟨rfl, chanS_ok hS t⟩⟩⟩
  clear h
  go_enter Tryd.func36, Tryd.ntmps36
  go_wp2_with fail
  go_loopg [7, 9] n (fun q s7 i wr => ∃ (k : Nat) (acc : List ChanR) (css : List (List Value)) (t : St) (v : Value), k ≤ n ∧ q = n - k ∧ v = s7 ∧ i = .int .i64 k ∧ Aside (MSt base Z A c S 60 6 E_chan (chanS S) w s n k acc css t v wr))
  case atStart => exact ⟨0, [], [], s, _, by omega, rfl, rfl, rfl, ⟨MSt.start H0.out⟩⟩
  case round =>
    obtain ⟨k, acc, css, t, v, hk, rfl, rfl, rfl, M⟩ := hrel
    by_cases hkn : k < n
    · have hki : (k : Int) < (n : Int) := by omega
      have KE1 := Aside.mk (KE.out wr t M.out.rk.rd)
      cases ht : t.2 with
      | true =>
        rw [ht] at KE1
        have HT := Aside.mk ht
        clear ht
        unfold Bl.ErrP Bl.errQ at KE1
        simp only [if_true] at KE1
        go_wp2_with fail
        refine KE1.out.mono ?_
        rintro e w2 ⟨b2, f, rfl, _, _⟩
        have B2 := Aside.mk b2
        clear b2
        go_wp2_with fail
        go_ret
        refine ⟨_, [], rfl, ?_, ?_⟩
        · rw [M.out.same, many_bad _ _ _ _ HT.out (by omega)]
          exact RowsR.nil _ _ _ _ _
        · rw [M.out.same, many_bad _ _ _ _ HT.out (by omega)]
          exact M.out.rk.below B2.out
      | false =>
        rw [ht] at KE1
        have HT := Aside.mk ht
        clear ht
        unfold Bl.ErrP Bl.errQ at KE1
        simp only [Bool.false_eq_true, if_false] at KE1
        go_wp2_with fail
        refine KE1.out.mono ?_
        rintro e w2 ⟨b2, rfl⟩
        have K2 := Aside.mk (KN.out w2 t (M.out.rk.rd.below b2))
        have B2 := Aside.mk b2
        clear b2
        go_wp2_with fail
        refine K2.out.mono ?_
        rintro e w3 ⟨rfl, r3, e3⟩
        have R3 : Aside (Rk base Z A c S wr (chanS S t).2 w3) := ⟨(Rk.then_ (s := t) ⟨M.out.rk.rd.below B2.out, Kept.of_below B2.out⟩ r3)⟩
        have E3 := Aside.mk e3
        have O3 : Aside (w3.ownsRow w.heap.size 60 6 v k css.flatten) := ⟨by
          have := own_kept M.out.rows.own R3.out.kept (fun r hr e => by have := own_base M.out.rows.own r hr; have := HZ.out; omega)
          rw [M.out.len] at this
          exact this⟩
        have L3 : w.heap.size ≤ w3.heap.size := Nat.le_trans M.out.rk.size R3.out.size
        clear r3 e3
        go_wp2_with (at_builtin; go_loud (refine append_elem w.heap.size rfl _ _ 25 60 _ 6 8 rfl Tryd.underlying25 info_chan rfl (by decide) (by decide) v k css.flatten (ChanR.vals (chanS S t).1) rfl rfl rfl (chan_one _) O3.out L3 (by omega) ?_))
        intro v1 w4 o4 g4 _
        have M4 := Aside.mk (M.out.push hkn HT.out H0.out HZ.out E1_chan E2_chan (by decide) R3.out _ E3.out rfl o4 g4)
        clear o4 g4
        go_wp2_with fail
        go_roundg (n - (k + 1))
        case measure => omega
        case rel => exact ⟨k + 1, _, _, _, _, by omega, rfl, rfl, by go_num, M4⟩
    · obtain rfl : k = n := by omega
      clear hkn hk
      go_wp2_with fail
      go_ret
      have hm := M.out.same
      rw [Nat.sub_self, manyS] at hm
      exact ⟨_, _, rfl, by rw [hm]; exact M.out.rows, by rw [hm]; exact M.out.rk⟩
def E_u8 (w : World) (cs : List Value) (x : Int) : Prop := cs = [.int .u8 x] ∧ 0 ≤ x ∧ x ≤ 255
def u8vals (x : Int) : List Value := [.int .u8 x]
theorem u8_one (x : Int) : ∀ u ∈ u8vals x, u.oneCell' = true := by intro u hu; simp [u8vals] at hu; rw [hu]; rfl
theorem E1_u8 {Z : Nat} (w w' : World) (cs : List Value) (x : Int) (h : E_u8 w cs x) (_ : Kept (fun j => j = Z) w w') : E_u8 w' cs x := h
theorem E2_u8 {e : TypeId} {size : Nat} (w w' : World) (v : Value) (lo n : Nat) (xs : List Value) (cs : List Value) (x : Int) (h : E_u8 w cs x) (_ : w.ownsRow lo e size v n xs) (_ : w.grownBy w' v.ownBlock) : E_u8 w' cs x := h
theorem info_u8 : (Tryd.prog.info? 5).map (fun i => (i.zero, i.size, i.bytes)) = some (some (.int .u8 0), 1, 1) := by kernel_rfl
set_option maxHeartbeats 6400000 in
theorem many_u8 {base Z c : Nat} {A : Option Addr} {S : List Int} (hS : ∀ x ∈ S, 0 ≤ x ∧ x ≤ 255) (w : World) (s : St) (h : Bl.RD base w Z A c S s.1 s.2) (n : Nat) (hn : n ≤ 65535) :
    Calls Tryd.prog 65 #[.pointer (some ⟨Z, 0, none⟩), .int .i64 n, .func (.func 31) #[.pointer (some ⟨Z, 0, none⟩)] #[]] w (ManyP base Z A c S 5 1 E_u8 w (manyS (rdN S 1) n s [])) := by
  have H0 := Aside.mk h
  have HZ := Aside.mk (rd_lt h)
  have KE : Aside (∀ (W : World) (t : St), Bl.RD base W Z A c S t.1 t.2 → Calls Tryd.prog 28 #[.pointer (some ⟨Z, 0, none⟩)] W (Bl.ErrP W (Bl.errQ t.1 t.2))) := ⟨fun W t q => Bl.err_any base W Z A c S t.1 t.2 q⟩
  have KN : Aside (∀ (W : World) (t : St), Bl.RD base W Z A c S t.1 t.2 → Calls Tryd.prog 31 #[.pointer (some ⟨Z, 0, none⟩)] W fun e w' => e = .returned (.int .u8 (rdN S 1 t).1) ∧ Rk base Z A c S W (rdN S 1 t).2 w' ∧ E_u8 w' (u8vals (rdN S 1 t).1) (rdN S 1 t).1) := ⟨fun W t q => (e8_any hS W t q).mono fun _ _ z => ⟨z.1, z.2, ⟨rfl, rdN_range1 hS t⟩⟩⟩
  clear h
  go_enter Tryd.func65, Tryd.ntmps65
  go_wp2_with fail
  go_loopg [7, 9] n (fun q s7 i wr => ∃ (k : Nat) (acc : List Int) (css : List (List Value)) (t : St) (v : Value), k ≤ n ∧ q = n - k ∧ v = s7 ∧ i = .int .i64 k ∧ Aside (MSt base Z A c S 5 1 E_u8 (rdN S 1) w s n k acc css t v wr))
  case atStart => exact ⟨0, [], [], s, _, by omega, rfl, rfl, rfl, ⟨MSt.start H0.out⟩⟩
  case round =>
    obtain ⟨k, acc, css, t, v, hk, rfl, rfl, rfl, M⟩ := hrel
    by_cases hkn : k < n
    · have hki : (k : Int) < (n : Int) := by omega
      have KE1 := Aside.mk (KE.out wr t M.out.rk.rd)
      cases ht : t.2 with
      | true =>
        rw [ht] at KE1
        have HT := Aside.mk ht
        clear ht
        unfold Bl.ErrP Bl.errQ at KE1
        simp only [if_true] at KE1
        go_wp2_with fail
        refine KE1.out.mono ?_
        rintro e w2 ⟨b2, f, rfl, _, _⟩
        have B2 := Aside.mk b2
        clear b2
        go_wp2_with fail
        go_ret
        refine ⟨_, [], rfl, ?_, ?_⟩
        · rw [M.out.same, many_bad _ _ _ _ HT.out (by omega)]
          exact RowsR.nil _ _ _ _ _
        · rw [M.out.same, many_bad _ _ _ _ HT.out (by omega)]
          exact M.out.rk.below B2.out
      | false =>
        rw [ht] at KE1
        have HT := Aside.mk ht
        clear ht
        unfold Bl.ErrP Bl.errQ at KE1
        simp only [Bool.false_eq_true, if_false] at KE1
        go_wp2_with fail
        refine KE1.out.mono ?_
        rintro e w2 ⟨b2, rfl⟩
        have K2 := Aside.mk (KN.out w2 t (M.out.rk.rd.below b2))
        have B2 := Aside.mk b2
        clear b2
        go_wp2_with fail
        refine K2.out.mono ?_
        rintro e w3 ⟨rfl, r3, e3⟩
        have R3 : Aside (Rk base Z A c S wr (rdN S 1 t).2 w3) := ⟨(Rk.then_ (s := t) ⟨M.out.rk.rd.below B2.out, Kept.of_below B2.out⟩ r3)⟩
        have E3 := Aside.mk e3
        have O3 : Aside (w3.ownsRow w.heap.size 5 1 v k css.flatten) := ⟨by
          have := own_kept M.out.rows.own R3.out.kept (fun r hr e => by have := own_base M.out.rows.own r hr; have := HZ.out; omega)
          rw [M.out.len] at this
          exact this⟩
        have L3 : w.heap.size ≤ w3.heap.size := Nat.le_trans M.out.rk.size R3.out.size
        clear r3 e3
        go_wp2_with (at_builtin; go_loud (refine append_elem w.heap.size rfl _ _ 31 5 _ 1 1 rfl Tryd.underlying31 info_u8 rfl (by decide) (by decide) v k css.flatten (u8vals (rdN S 1 t).1) rfl rfl rfl (u8_one _) O3.out L3 (by omega) ?_))
        intro v1 w4 o4 g4 _
        have M4 := Aside.mk (M.out.push hkn HT.out H0.out HZ.out E1_u8 E2_u8 (by decide) R3.out _ E3.out rfl o4 g4)
        clear o4 g4
        go_wp2_with fail
        go_roundg (n - (k + 1))
        case measure => omega
        case rel => exact ⟨k + 1, _, _, _, _, by omega, rfl, rfl, by go_num, M4⟩
    · obtain rfl : k = n := by omega
      clear hkn hk
      go_wp2_with fail
      go_ret
      have hm := M.out.same
      rw [Nat.sub_self, manyS] at hm
      exact ⟨_, _, rfl, by rw [hm]; exact M.out.rows, by rw [hm]; exact M.out.rk⟩
end Go.Proofs.YtbphlapdhcgikaaDoor
