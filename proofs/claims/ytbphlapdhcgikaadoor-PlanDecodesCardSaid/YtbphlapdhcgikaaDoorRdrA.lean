/- Layer 2: a reader over bytes: what its methods answer. -/
import Derived.Test.YtbphlapdhcgikaaDoorProg
import Derived.Test.YtbphlapdhcgikaaDoorKit
import Derived.Deep.OwnRows
import Derived.Laws.CopyOwn
import Derived.Laws.BytesArg
import Derived.Deep.RegionHeld3
namespace Go.Proofs.YtbphlapdhcgikaaDoor
open Go.RowKit
set_option linter.unusedVariables false
set_option linter.unusedSimpArgs false

namespace Bl
theorem A_info_u8 : (Tryd.prog.info? 5).map (fun i => (i.zero, i.size, i.bytes)) = some (some (.int .u8 0), 1, 1) := by kernel_rfl
theorem bel_then {a w w' : World} (h : Below a.heap.size a w) (k : Below w.heap.size w w') : Below a.heap.size a w' := below_then h k
theorem bel_one (w : World) (x : Obj) : Below w.heap.size w (w.alloc x) := (Below.refl _ _).alloc (Nat.le_refl _) _
theorem lt_of_block {w : World} {k : Nat} {o : Obj} (h : w.heap[k]? = some o) : k < w.heap.size := (Array.getElem?_eq_some_iff.1 h).1
theorem hup {a b : World} (h : Below a.heap.size a b) {k : Nat} {o : Obj} (hk : a.heap[k]? = some o) : b.heap[k]? = some o := (h.block k (lt_of_block hk)).trans hk
theorem own_kept {S : Nat → Prop} {w w' : World} {base n size : Nat} {e : TypeId} {v : Value} {xs : List Value} (h : w.ownsRow base e size v n xs) (k : Kept S w w') (hv : ∀ r, v.ownBlock = some r → ¬ S r) : w'.ownsRow base e size v n xs := by
  refine ⟨h.1, ?_⟩
  rcases h.2 with ⟨e1, e2⟩ | ⟨r, c, cs, e, hb, hc, rest⟩
  · exact .inl ⟨e1, e2⟩
  · exact .inr ⟨r, c, cs, e, hb, k.heap hc (hv r (by rw [e]; rfl)), rest⟩
theorem own_type {w : World} {base n size : Nat} {e t : TypeId} {v : Value} {xs : List Value} {cs : Array Value} {fr : Nat × Nat} {Z b : Nat} (h : w.ownsRow base e size v n xs) (hz : w.heap[Z]? = some (.cells cs t fr)) (ht : e ≠ t) (hb : v.ownBlock = some b) : b ≠ Z := by
  rintro rfl
  rcases h.2 with ⟨e1, e2⟩ | ⟨r, c, cs', e', hb', hc, rest⟩
  · rw [e1] at hb; cases hb
  · rw [e'] at hb
    obtain rfl : r = b := by simpa [Value.ownBlock] using hb
    rw [hc] at hz
    injection hz with hz
    injection hz with _ hz _
    exact ht hz
theorem box3 {w : World} {B : Nat} {x0 x1 x2 : Value} {t : TypeId} (h : w.heap[B]? = some (.cells #[x0, x1, x2] t (0, 0))) : w.cell? ⟨B, 0, none⟩ = some x0 ∧ w.cell? ⟨B, 1, none⟩ = some x1 ∧ w.cell? ⟨B, 2, none⟩ = some x2 ∧ w.frozen? ⟨B, 0, none⟩ = false ∧ w.frozen? ⟨B, 1, none⟩ = false ∧ w.frozen? ⟨B, 2, none⟩ = false := by
  simp [World.cell?, World.frozen?, h]
theorem box2 {w : World} {B : Nat} {x0 x1 : Value} {t : TypeId} (h : w.heap[B]? = some (.cells #[x0, x1] t (0, 0))) : w.cell? ⟨B, 0, none⟩ = some x0 ∧ w.cell? ⟨B, 1, none⟩ = some x1 := by
  simp [World.cell?, h]

theorem heap_up {w : World} {k : Nat} {o x : Obj} (h : w.heap[k]? = some o) : (w.alloc x).heap[k]? = some o := by
  have hlt := lt_of_block h
  show (w.heap.push x)[k]? = some o
  rw [Array.getElem?_push_lt hlt, ← Array.getElem?_eq_getElem hlt]
  exact h
theorem add_two (a : Addr) (i j : Nat) : (a.add i).add j = a.add (i + j) := by
  unfold Addr.add
  by_cases h1 : i = 0 <;> by_cases h2 : j = 0 <;> simp [h1, h2] <;> omega
theorem _root_.Go.Proofs.YtbphlapdhcgikaaDoor.Ints.sub {w : World} {k : IntKind} {ad : Addr} {n c c' : Nat} {xs : List Int} (h : Ints w k (.slice (some ad) n c) xs) (i m : Nat) (hm : i + m ≤ n) : Ints w k (.slice (some (ad.add i)) m c') ((xs.drop i).take m) := by
  obtain ⟨A, c2, e, h1, h2⟩ := h
  injection e with e1 e2 e3
  subst e1 e2
  have hl : ((xs.drop i).take m).length = m := by rw [List.length_take, List.length_drop]; omega
  refine ⟨some (ad.add i), c', by rw [hl], by omega, fun h0 => ⟨ad.add i, rfl, fun j hj => ?_⟩⟩
  obtain ⟨ad', e, h3⟩ := h2 (by omega)
  obtain rfl : ad = ad' := by injection e
  rw [add_two, h3 (i + j) (by omega)]
  rw [hl] at hj
  simp [List.getD_eq_getElem?_getD, List.getElem?_take, List.getElem?_drop, hj]

/-- A reader at block Z, with its bytes S, how many were read, and where its failure stands. -/
structure Rdr (base : Nat) (w : World) (Z : Nat) (A : Option Addr) (c : Nat) (S : List Int) (at_ : Nat) (F : Option Nat) : Prop where
  box : w.heap[Z]? = some (.cells #[.slice A S.length c, .int .i64 at_, .pointer (F.map fun F => ⟨F, 0, none⟩)] 123 (0, 0))
  row : w.ownsRow base 5 1 (.slice A S.length c) S.length (S.map (Value.int .u8))
  hZ : base ≤ Z
  le : at_ ≤ S.length
  big : S.length ≤ 140737488355328
  bad : ∀ f, F = some f → base ≤ f ∧ w.heap[f]? = some (.cells #[.int .i64 at_, .int .i64 20] 74 (0, 0))
/-- A reader, its places not told. -/
def RD (base : Nat) (w : World) (Z : Nat) (A : Option Addr) (c : Nat) (S : List Int) (at_ : Nat) (bad : Bool) : Prop := ∃ F, Rdr base w Z A c S at_ F ∧ F.isSome = bad
theorem Rdr.kept {T : Nat → Prop} {base : Nat} {w w' : World} {Z : Nat} {A : Option Addr} {c : Nat} {S : List Int} {at_ : Nat} {F : Option Nat} (h : Rdr base w Z A c S at_ F) (k : Kept T w w') (hT : ∀ j, T j → j < base ∨ w.heap.size ≤ j) : Rdr base w' Z A c S at_ F := by
  have no : ∀ j o, base ≤ j → w.heap[j]? = some o → ¬ T j := fun j o h1 h2 h3 => by
    have := lt_of_block h2
    rcases hT j h3 with h | h <;> omega
  refine ⟨k.heap h.box (no _ _ h.hZ h.box), own_kept h.row k (fun r hr => ?_), h.hZ, h.le, h.big, fun f hf => ⟨(h.bad f hf).1, k.heap (h.bad f hf).2 (no _ _ (h.bad f hf).1 (h.bad f hf).2)⟩⟩
  intro ht
  have h1 := own_base h.row r hr
  have h2 := own_lt h.row r hr
  rcases hT r ht with h | h <;> omega
theorem RD.kept {T : Nat → Prop} {base : Nat} {w w' : World} {Z : Nat} {A : Option Addr} {c : Nat} {S : List Int} {at_ : Nat} {bad : Bool} (h : RD base w Z A c S at_ bad) (k : Kept T w w') (hT : ∀ j, T j → j < base ∨ w.heap.size ≤ j) : RD base w' Z A c S at_ bad := by
  obtain ⟨F, h, e⟩ := h
  exact ⟨F, h.kept k hT, e⟩
theorem RD.below {base : Nat} {w w' : World} {Z : Nat} {A : Option Addr} {c : Nat} {S : List Int} {at_ : Nat} {bad : Bool} (h : RD base w Z A c S at_ bad) (k : Below w.heap.size w w') : RD base w' Z A c S at_ bad :=
  h.kept (T := fun _ => False) (Kept.of_below k) (fun _ h => h.elim)
theorem RD.news {T : Nat → Prop} {base : Nat} {w w' w2 : World} {Z : Nat} {A : Option Addr} {c : Nat} {S : List Int} {at_ at' : Nat} {bad bad' : Bool} (h : RD base w Z A c S at_ bad) (h' : RD base w' Z A c S at' bad') (k : Kept T w' w2)
    (hT : ∀ j, T j → w.heap.size ≤ j ∧ ∃ cs fr, w'.heap[j]? = some (.cells cs 5 fr)) : RD base w2 Z A c S at' bad' := by
  obtain ⟨F, h, _⟩ := h
  obtain ⟨F', h', e⟩ := h'
  refine ⟨F', ⟨k.heap h'.box (fun q => ?_), own_kept h'.row k (fun r hr q => ?_), h'.hZ, h'.le, h'.big, fun f hf => ⟨(h'.bad f hf).1, k.heap (h'.bad f hf).2 (fun q => ?_)⟩⟩, e⟩
  · have := lt_of_block h.box
    have := (hT _ q).1
    omega
  · have := own_lt h.row r hr
    have := (hT _ q).1
    omega
  · obtain ⟨cs, fr, q2⟩ := (hT _ q).2
    rw [(h'.bad f hf).2] at q2
    injection q2 with q2
    injection q2 with _ q2 _
    exact absurd q2 (by decide)
theorem Rdr.lift {base : Nat} {w w' : World} {Z : Nat} {A : Option Addr} {c : Nat} {S : List Int} {at_ at' : Nat} (h : Rdr base w Z A c S at_ none) (k : Kept (fun j => j = Z) w w') (hle : at' ≤ S.length)
    (hb : w'.heap[Z]? = some (.cells #[.slice A S.length c, .int .i64 at', .pointer none] 123 (0, 0))) : Rdr base w' Z A c S at' none :=
  ⟨hb, own_kept h.row k (fun r hr => own_type h.row h.box (by decide) hr), h.hZ, hle, h.big, fun f hf => by cases hf⟩
theorem Rdr.fail {base : Nat} {w w' : World} {Z f : Nat} {A : Option Addr} {c : Nat} {S : List Int} {at_ : Nat} (h : Rdr base w Z A c S at_ none) (k : Kept (fun j => j = Z) w w')
    (hb : w'.heap[Z]? = some (.cells #[.slice A S.length c, .int .i64 at_, .pointer (some ⟨f, 0, none⟩)] 123 (0, 0))) (hf : base ≤ f) (hw : w'.heap[f]? = some (.cells #[.int .i64 at_, .int .i64 20] 74 (0, 0))) : Rdr base w' Z A c S at_ (some f) :=
  ⟨hb, own_kept h.row k (fun r hr => own_type h.row h.box (by decide) hr), h.hZ, h.le, h.big, fun f' hf' => by cases hf'; exact ⟨hf, hw⟩⟩

/-- What a take hands out, and how the reader stands behind it. -/
def takeL (S : List Int) (at_ : Nat) (bad : Bool) (n : Int) : List Int := if bad = true ∨ n < 1 ∨ (S.length : Int) - at_ < n then [] else (S.drop at_).take n.toNat
def takeA (S : List Int) (at_ : Nat) (bad : Bool) (n : Int) : Nat := if bad = true ∨ n < 1 ∨ (S.length : Int) - at_ < n then at_ else at_ + n.toNat
def takeB (S : List Int) (at_ : Nat) (bad : Bool) (n : Int) : Bool := if bad = true ∨ n < 1 then bad else decide ((S.length : Int) - at_ < n)
def TakeP (base : Nat) (w : World) (Z : Nat) (A : Option Addr) (c : Nat) (S : List Int) (at_ : Nat) (bad : Bool) (n : Int) (e : Ending) (w' : World) : Prop :=
  ∃ v, e = .returned v ∧ Ints w' .u8 v (takeL S at_ bad n) ∧ RD base w' Z A c S (takeA S at_ bad n) (takeB S at_ bad n) ∧ Kept (fun j => j = Z) w w'
set_option maxHeartbeats 1600000 in
theorem take_any (base : Nat) (w : World) (Z : Nat) (A : Option Addr) (c : Nat) (S : List Int) (at_ : Nat) (bad : Bool) (n : Int) (h : RD base w Z A c S at_ bad) (h0 : -9223372036854775808 ≤ n) (h1 : n ≤ 9223372036854775807) :
    Calls Tryd.prog 58 #[.pointer (some ⟨Z, 0, none⟩), .int .i64 n] w (TakeP base w Z A c S at_ bad n) := by
  obtain ⟨F, R, rfl⟩ := h
  have HR := Aside.mk R
  obtain ⟨x0, x1, x2, z0, z1, z2⟩ := box3 R.box
  have hle := R.le
  have hbig := R.big
  have hZl : Z < w.heap.size := lt_of_block R.box
  cases F with
  | some f =>
    simp only [Option.map_some] at x2
    clear R
    go_enter Tryd.func58, Tryd.ntmps58
    go_wp2_with fail
    go_ret
    exact ⟨_, rfl, by simpa [takeL] using Ints.nil _ _, by simpa [takeA, takeB] using ⟨some f, HR.out, rfl⟩, Kept.refl _ _⟩
  | none =>
    simp only [Option.map_none] at x2
    by_cases hn : n < 1
    · clear R
      go_enter Tryd.func58, Tryd.ntmps58
      go_wp2_with fail
      go_ret
      exact ⟨_, rfl, by simpa [takeL, hn] using Ints.nil _ _, by simpa [takeA, takeB, hn] using ⟨none, HR.out, rfl⟩, Kept.refl _ _⟩
    · have hw : IntKind.i64.wrap ((S.length : Int) - (at_ : Int)) = (S.length : Int) - at_ := IntWalk.i64_in _ (by omega)
      obtain ⟨m, rfl⟩ : ∃ m : Nat, n = m := ⟨n.toNat, by omega⟩
      by_cases hs : (S.length : Int) - at_ < m
      · have HS := Aside.mk hs
        clear R
        go_enter Tryd.func58, Tryd.ntmps58
        go_wp2_with fail
        go_quiet (fail)
        have hb : ((w.drewN nq).alloc (.cells #[.int .i64 at_, .int .i64 20] 74)).heap[Z]? = some (.cells #[.slice A S.length c, .int .i64 at_, .pointer none] 123 (0, 0)) := heap_up HR.out.box
        have hf : ((w.drewN nq).alloc (.cells #[.int .i64 at_, .int .i64 20] 74)).heap[w.heap.size]? = some (.cells #[.int .i64 at_, .int .i64 20] 74 (0, 0)) := heap_alloc_new (w.drewN nq) _
        obtain ⟨y0, y1, y2, u0, u1, u2⟩ := box3 hb
        go_wp2_with fail
        go_ret
        have KK : Kept (fun j => j = Z) w (((w.drewN nq).alloc (.cells #[.int .i64 at_, .int .i64 20] 74)).setCell ⟨Z, 2, none⟩ (.pointer (some ⟨w.heap.size, 0, none⟩))) := (((Kept.refl (fun j => j = Z) w).drewN nq).alloc _).setCell (p := ⟨Z, 2, none⟩) (.inl rfl) _
        have hs2 : (S.length : Int) - at_ < m := HS.out
        refine ⟨_, rfl, by simpa [takeL, hs2] using Ints.nil _ _, ?_, KK⟩
        have hA : takeA S at_ false m = at_ := by simp [takeA, hs2]
        have hB : takeB S at_ false m = true := by simp [takeB, hn, hs2]
        show RD base _ Z _ _ S (takeA S at_ false m) (takeB S at_ false m)
        rw [hA, hB]
        have hb2 := heap_setCell_at (off := 2) hb (.pointer (some ⟨w.heap.size, 0, none⟩))
        refine ⟨some w.heap.size, HR.out.fail KK (by simpa using hb2) (by have := HR.out.hZ; omega) ?_, rfl⟩
        exact (Below.heap_setCell _ _ _ _ (by show w.heap.size ≠ Z; omega)).trans hf
      · have hm1 : 1 ≤ m := by omega
        have hw2 : IntKind.i64.wrap ((at_ : Int) + (m : Int)) = (at_ : Int) + m := IntWalk.i64_in _ (by omega)
        have hw3 : IntKind.i64.wrap ((at_ : Int) + (m : Int) - (m : Int)) = (at_ : Int) := by rw [show (at_ : Int) + (m : Int) - (m : Int) = at_ by omega]; exact IntWalk.i64_in _ (by omega)
        have b0 : (0 : Int) ≤ (at_ : Int) := by omega
        have b1 : (at_ : Int) ≤ (at_ : Int) + m := by omega
        have b2 : (at_ : Int) + m ≤ (S.length : Int) := by omega
        have HM : Aside (at_ + m ≤ S.length) := ⟨by omega⟩
        obtain ⟨r, rfl, hc⟩ : ∃ r, A = some ⟨r, 0, none⟩ ∧ S.length ≤ c := by
          rcases R.row.2 with ⟨_, e2⟩ | ⟨r, cap, cur, e, _, _, h3, _⟩
          · omega
          · injection e with e1 e2 e3
            exact ⟨r, e1, by omega⟩
        have b3 : (at_ : Int) + m ≤ (c : Int) := by omega
        clear R
        go_enter Tryd.func58, Tryd.ntmps58
        go_wp2_with fail
        go_quiet (fail)
        go_upto_region 7 with (fail)
        obtain ⟨W2, HW2⟩ : ∃ W2, Aside (W2 = (w.drewN nq).setCell ⟨Z, 1, none⟩ (.int .i64 ((at_ : Int) + m))) := ⟨_, ⟨rfl⟩⟩
        rw [← HW2.out]
        have KK : Kept (fun j => j = Z) w W2 := by rw [HW2.out]; exact ((Kept.refl (fun j => j = Z) w).drewN nq).setCell (p := ⟨Z, 1, none⟩) (.inl rfl) _
        have hb2 : W2.heap[Z]? = some (.cells #[.slice (some ⟨r, 0, none⟩) S.length c, .int .i64 ((at_ + m : Nat) : Int), .pointer none] 123 (0, 0)) := by
          rw [HW2.out]
          have := heap_setCell_at (w := w.drewN nq) (off := 1) HR.out.box (.int .i64 ((at_ : Int) + m))
          simpa using this
        have R2 := Aside.mk (And.intro (HR.out.lift KK HM.out hb2) KK)
        obtain ⟨y0, y1, y2, _, _, _⟩ := box3 hb2
        clear KK hb2
        go_quiet (fail)
        go_wp2_with fail
        have RQ := R2.out.1.kept (T := fun _ => False) ((Kept.refl _ W2).drewN nq) (fun _ h => h.elim)
        have hI := (own_ints RQ.row).sub (c' := c - at_) at_ m HM.out
        rw [show (⟨r, 0, none⟩ : Addr).add at_ = ⟨r, at_, none⟩ from by by_cases h : at_ = 0 <;> simp [Addr.add, h]] at hI
        have hs2 : ¬ (S.length : Int) - at_ < m := by omega
        have hn2 : ¬ (m : Int) < 1 := by omega
        go_ret
        refine ⟨_, rfl, ?_, ?_, R2.out.2.drewN nq⟩
        · have hA : takeL S at_ false m = (S.drop at_).take m := by simp [takeL, hs2, hn2]
          show Ints _ _ _ (takeL S at_ false m)
          rw [hA]
          simpa using hI
        · have hA : takeA S at_ false m = at_ + m := by simp [takeA, hs2, hn2]
          have hB : takeB S at_ false m = false := by simp [takeB, hs2, hn2]
          show RD base _ Z _ _ S (takeA S at_ false m) (takeB S at_ false m)
          rw [hA, hB]
          exact ⟨none, RQ, rfl⟩
/-- What a new reader is. -/
def NewP (w : World) (S : List Int) (e : Ending) (w' : World) : Prop := ∃ Z A c, e = .returned (.pointer (some ⟨Z, 0, none⟩)) ∧ RD w.heap.size w' Z A c S 0 false ∧ Below w.heap.size w w'
set_option maxHeartbeats 1600000 in
theorem new_any (w : World) (v : Value) (S : List Int) (hv : Ints w .u8 v S) (hb : S.length ≤ 140737488355328) :
    Calls Tryd.prog 26 #[v] w (NewP w S) := by
  have HV := Aside.mk hv
  obtain ⟨A, c, rfl, hm, _⟩ := hv
  go_enter Tryd.func26, Tryd.ntmps26
  go_wp2_with (at_builtin; go_loud (refine append_row w.heap.size rfl _ _ 31 5 (.int .u8 0) 1 rfl Tryd.underlying31 A_info_u8 rfl (by decide) (.slice (some ⟨w.heap.size, 0, none⟩) 0 0) 0 [] (S.map (Value.int .u8)) A S.length c rfl rfl ⟨by simp, .inr ⟨_, 0, #[], rfl, Nat.le_refl _, heap_alloc_new _ _, Nat.le_refl _, by decide, by simp, by simp⟩⟩ (by simp) (ints_news (HV.out.below (bel_one _ _))).2 (ints_oneCell _ _) (by simp) (by omega) ?_))
  intro v1 w1 o1 g1 _
  obtain ⟨A1, c1, rfl⟩ := own_len o1
  go_wp2_with fail
  go_ret
  have B1 : Below w.heap.size w w1 := Below.grown (bel_one _ _) g1 (by simp) (fun j hj => by simp [Value.ownBlock] at hj; omega)
  have hR : Rdr w.heap.size (w1.alloc (.cells #[.slice A1 S.length c1, .int .i64 0, .pointer none] 123)) w1.heap.size A1 c1 S 0 none := by
    refine ⟨?_, ?_, B1.size, by omega, hb, fun f hf => by cases hf⟩
    · exact heap_alloc_new _ _
    · have q := own_kept (S := fun _ => False) o1 ((Kept.refl _ w1).alloc (.cells #[.slice A1 S.length c1, .int .i64 0, .pointer none] 123)) (fun _ _ h => h)
      simpa using q
  exact ⟨_, _, _, rfl, ⟨none, hR, rfl⟩, bel_then B1 (bel_one _ _)⟩
/-- What went wrong, as an error: none, or a Failure of its own. -/
def ErrP (w : World) (q : Option (Nat × Int)) (e : Ending) (w' : World) : Prop :=
  Below w.heap.size w w' ∧ match q with
    | none => e = .returned .nilIface
    | some (a, n) => ∃ f, e = .returned (.iface 70 (.pointer (some ⟨f, 0, none⟩))) ∧ w.heap.size ≤ f ∧ w'.heap[f]? = some (.cells #[.int .i64 a, .int .i64 n] 74 (0, 0))
def errQ (at_ : Nat) (bad : Bool) : Option (Nat × Int) := if bad = true then some (at_, 20) else none
def endQ (S : List Int) (at_ : Nat) (bad : Bool) : Option (Nat × Int) := if bad = true then some (at_, 20) else if at_ < S.length then some (at_, 21) else none
set_option maxHeartbeats 1600000 in
theorem err_any (base : Nat) (w : World) (Z : Nat) (A : Option Addr) (c : Nat) (S : List Int) (at_ : Nat) (bad : Bool) (h : RD base w Z A c S at_ bad) :
    Calls Tryd.prog 28 #[.pointer (some ⟨Z, 0, none⟩)] w (ErrP w (errQ at_ bad)) := by
  obtain ⟨F, R, rfl⟩ := h
  obtain ⟨x0, x1, x2, z0, z1, z2⟩ := box3 R.box
  cases F with
  | none =>
    simp only [Option.map_none] at x2
    clear R
    go_enter Tryd.func28, Tryd.ntmps28
    go_wp2_with fail
    go_ret
    exact ⟨Below.refl _ _, rfl⟩
  | some f =>
    simp only [Option.map_some] at x2
    obtain ⟨y0, y1⟩ := box2 (R.bad f rfl).2
    clear R
    go_enter Tryd.func28, Tryd.ntmps28
    go_upto_region 3 with (fail)
    go_region_held3 (fun w' => w'.cell? ⟨Z, 2, none⟩ = some (.pointer (some ⟨f, 0, none⟩)) ∧ w'.cell? ⟨f, 0, none⟩ = some (.int .i64 at_) ∧ w'.cell? ⟨f, 1, none⟩ = some (.int .i64 20)) (go_keep) (fail)
    go_wp2_with fail
    go_ret
    exact ⟨bel_then (below_drewN w 1) (bel_one _ _), w.heap.size, rfl, Nat.le_refl _, heap_alloc_new (w.drewN 1) _⟩
set_option maxHeartbeats 1600000 in
theorem end_any (base : Nat) (w : World) (Z : Nat) (A : Option Addr) (c : Nat) (S : List Int) (at_ : Nat) (bad : Bool) (h : RD base w Z A c S at_ bad) :
    Calls Tryd.prog 40 #[.pointer (some ⟨Z, 0, none⟩)] w (ErrP w (endQ S at_ bad)) := by
  have KE : Aside (∀ n, Calls Tryd.prog 28 #[.pointer (some ⟨Z, 0, none⟩)] (w.drewN n) (ErrP (w.drewN n) (errQ at_ bad))) := ⟨fun n => err_any base _ Z A c S at_ bad (h.below (below_drewN w n))⟩
  obtain ⟨F, R, rfl⟩ := h
  obtain ⟨x0, x1, x2, z0, z1, z2⟩ := box3 R.box
  cases F with
  | none =>
    simp only [Option.map_none] at x2
    simp only [Option.isSome_none] at KE ⊢
    by_cases hl : at_ < S.length
    · have hl' : (at_ : Int) < (S.length : Int) := by omega
      have HL := Aside.mk hl
      clear R hl
      go_enter Tryd.func40, Tryd.ntmps40
      go_upto_region 1 with (fail)
      go_quiet (fail)
      go_wp2_with fail
      go_ret
      refine ⟨bel_then (below_drewN w nq) (bel_one _ _), ?_⟩
      simp only [endQ, HL.out, if_true]
      exact ⟨w.heap.size, rfl, Nat.le_refl _, heap_alloc_new (w.drewN nq) _⟩
    · have hl' : ¬ (at_ : Int) < (S.length : Int) := by omega
      have HL := Aside.mk hl
      clear R hl
      go_enter Tryd.func40, Tryd.ntmps40
      go_upto_region 1 with (fail)
      go_quiet (fail)
      go_wp2_with fail
      refine (KE.out nq).mono ?_
      rintro e w2 ⟨b2, h2⟩
      simp only [errQ] at h2
      subst h2
      go_wp2_with fail
      go_ret
      exact ⟨bel_then (below_drewN w nq) b2, by simp [endQ, HL.out]⟩
  | some f =>
    simp only [Option.map_some] at x2
    simp only [Option.isSome_some] at KE ⊢
    clear R
    go_enter Tryd.func40, Tryd.ntmps40
    go_upto_region 1 with (fail)
    go_quiet (fail)
    go_wp2_with fail
    refine (KE.out nq).mono ?_
    rintro e w2 ⟨b2, h2⟩
    simp only [errQ, if_true] at h2
    obtain ⟨f2, rfl, h3, h4⟩ := h2
    go_wp2_with fail
    go_ret
    exact ⟨bel_then (below_drewN w nq) b2, by simp only [endQ, if_true]; exact ⟨f2, rfl, by simpa using h3, h4⟩⟩
end Bl
end Go.Proofs.YtbphlapdhcgikaaDoor