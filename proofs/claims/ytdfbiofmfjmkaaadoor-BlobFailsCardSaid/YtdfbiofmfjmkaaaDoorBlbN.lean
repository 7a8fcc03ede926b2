/- Layer 2: does: a list. -/
import Derived.Test.YtdfbiofmfjmkaaaDoorBlbM
namespace Go.Proofs.YtdfbiofmfjmkaaaDoor
open Go.RowKit
set_option linter.unusedVariables false
set_option linter.unusedSimpArgs false

theorem str_nums (L : List Int) (hL : ∀ x ∈ L, 0 ≤ x ∧ x ≤ 255) : strL (strOfNums L) = L := by
  unfold strL strOfNums
  rw [List.toList_toArray, List.map_map]
  conv => rhs; rw [← List.map_id L]
  refine List.map_congr_left fun x hx => ?_
  have := hL x hx
  simp
  omega
/-- The state behind the list's call. -/
structure DoSt (base : Nat) (w : World) (Z : Nat) (A : Option Addr) (c : Nat) (s : ByteArray) (a : Nat) (b : Bool) (W : World) : Prop where
  rd : RD base W Z A c (strL s) a b
  kept : Kept (fun j => j = Z) w W
  m : W.heap[w.heap.size]? = some (.cells #[.string s, .int .i64 a, .bool b] 43 (0, 0))
  t : W.heap[w.heap.size + 1 + 1]? = some (.cells #[.string ⟨#[]⟩, .int .i64 0, .bool false] 43 (0, 0))
theorem DoSt.below {base : Nat} {w : World} {Z : Nat} {A : Option Addr} {c : Nat} {s : ByteArray} {a : Nat} {b : Bool} {W W' : World} (h : DoSt base w Z A c s a b W) (k : Below W.heap.size W W') : DoSt base w Z A c s a b W' :=
  ⟨h.rd.below k, h.kept.trans (Kept.of_below k), hup k h.m, hup k h.t⟩
theorem DoSt.set {base : Nat} {w : World} {Z : Nat} {A : Option Addr} {c : Nat} {s : ByteArray} {a a0 : Nat} {b b0 : Bool} {W : World} {g i : Nat} {M : List Int} {X : List Value} {fr : Nat × Nat} (h : DoSt base w Z A c s a b W) (H : RD base w Z A c (strL s) a0 b0) (hB : BRow W g M X fr) (hg : w.heap.size + 1 + 1 < g) (y : Value) : DoSt base w Z A c s a b (W.setCell ⟨g, i, none⟩ y) := by
  refine ⟨H.news h.rd ((Kept.refl (fun j => j = g) W).setCell (p := ⟨g, i, none⟩) (.inl rfl) y) (fun j e => ?_), h.kept.setCell (p := ⟨g, i, none⟩) (.inr (by show w.heap.size ≤ g; omega)) y, (Below.heap_setCell _ _ _ _ (by show w.heap.size ≠ g; omega)).trans h.m, (Below.heap_setCell _ _ _ _ (by show w.heap.size + 1 + 1 ≠ g; omega)).trans h.t⟩
  subst e
  exact ⟨by omega, _, _, hB.row⟩
set_option maxHeartbeats 3200000 in
set_option maxRecDepth 100000 in
theorem does3 (base : Nat) (w : World) (Z : Nat) (A : Option Addr) (c : Nat) (s : ByteArray) (a : Nat) (b : Bool) (kd N : Int) (h : RD base w Z A c (strL s) a b) (hs : s.size ≤ 140737488355328) (n0 : -9223372036854775808 ≤ N) (n1 : N ≤ 9223372036854775807) (k0 : ¬ kd = 0) (k1 : ¬ kd = 1) (k2 : ¬ kd = 2) :
    Calls Tryd.prog 19 #[.pointer (some ⟨Z, 0, none⟩), mV s a b, .agg #[.int .i64 kd, .int .i64 N]] w (DoesP base w Z A c s a b N) := by
  have H := Aside.mk h
  have hsl := strL_len s
  have ha : a ≤ s.size := by obtain ⟨F, R, _⟩ := h; have := R.le; omega
  have hZ := h.Z_lt.1
  have q0 : (kd == 0) = false := beq_eq_false_iff_ne.2 k0
  have q1 : (kd == 1) = false := beq_eq_false_iff_ne.2 k1
  have q2 : (kd == 2) = false := beq_eq_false_iff_ne.2 k2
  obtain ⟨W3, HW⟩ : ∃ W3, Aside (W3 = ((w.alloc (.cells #[.string s, .int .i64 a, .bool b] 43)).alloc (.cells #[.int .i64 kd, .int .i64 N] 47)).alloc (.cells #[.string ⟨#[]⟩, .int .i64 0, .bool false] 43)) := ⟨_, ⟨rfl⟩⟩
  have H3 : Aside (Below w.heap.size w W3 ∧ W3.heap[w.heap.size]? = some (.cells #[.string s, .int .i64 a, .bool b] 43 (0, 0)) ∧ W3.heap[w.heap.size + 1]? = some (.cells #[.int .i64 kd, .int .i64 N] 47 (0, 0)) ∧ W3.heap[w.heap.size + 1 + 1]? = some (.cells #[.string ⟨#[]⟩, .int .i64 0, .bool false] 43 (0, 0))) := ⟨by
    rw [HW.out]
    have b1 := bel_one w (.cells #[.string s, .int .i64 a, .bool b] 43)
    have b2 := bel_one (w.alloc (.cells #[.string s, .int .i64 a, .bool b] 43)) (.cells #[.int .i64 kd, .int .i64 N] 47)
    have b3 := bel_one ((w.alloc (.cells #[.string s, .int .i64 a, .bool b] 43)).alloc (.cells #[.int .i64 kd, .int .i64 N] 47)) (.cells #[.string ⟨#[]⟩, .int .i64 0, .bool false] 43)
    have q1 := heap_alloc_new w (.cells #[.string s, .int .i64 a, .bool b] 43)
    have q2 := heap_alloc_new (w.alloc (.cells #[.string s, .int .i64 a, .bool b] 43)) (.cells #[.int .i64 kd, .int .i64 N] 47)
    have q3 := heap_alloc_new ((w.alloc (.cells #[.string s, .int .i64 a, .bool b] 43)).alloc (.cells #[.int .i64 kd, .int .i64 N] 47)) (.cells #[.string ⟨#[]⟩, .int .i64 0, .bool false] 43)
    exact ⟨bel_then (bel_then b1 b2) b3, hup b3 (hup b2 q1), by have := hup b3 q2; simpa using this, by simpa using q3⟩⟩
  have KT := Aside.mk (rtake_any W3 s a b N ha hs n0 n1)
  have HL : Aside (strL (strOfNums (takeL (strL s) a b N)) = takeL (strL s) a b N ∧ (takeL (strL s) a b N).length ≤ s.size) := ⟨str_nums _ (fun x hx => strL_byte s x (takeL_mem hx)), by
    unfold takeL
    split
    · simp
    · rw [List.length_take, List.length_drop, hsl]; omega⟩
  have KE : Aside (∀ W, Below w.heap.size w W → Calls Tryd.prog 22 #[.pointer (some ⟨Z, 0, none⟩), .int .i64 N] W (ListP base W Z A c (strL s) a b N)) := ⟨fun W hW => list_any base W Z A c (strL s) a b N (H.out.below hW) n0 n1⟩
  obtain ⟨x0, x1, x2, f0, f1, f2⟩ := box3 H3.out.2.1
  obtain ⟨v0, v1⟩ := box2 H3.out.2.2.1
  unfold RTakeP at KT
  unfold ListP at KE
  unfold DoesP
  unfold mV at KT ⊢
  generalize takeL (strL s) a b N = L at *
  generalize takeA (strL s) a b N = a' at *
  generalize takeB (strL s) a b N = b' at *
  clear h
  go_enter Tryd.func19, Tryd.ntmps19
  go_upto_region 1 with (fail)
  rw [← HW.out]
  go_wp2_with fail
  refine KT.out.mono ?_
  rintro e w4 ⟨rfl, b4⟩
  have H4 := Aside.mk (And.intro (bel_then H3.out.1 b4) (And.intro (hup b4 H3.out.2.1) (And.intro (hup b4 H3.out.2.2.2) (hup b4 H3.out.2.2.1))))
  clear x0 x1 x2 f0 f1 f2 v0 v1 b4
  obtain ⟨x0, x1, x2, f0, f1, f2⟩ := box3 H4.out.2.1
  go_upto_region 19 with (fail)
  obtain ⟨W5, HW5⟩ : ∃ W5, Aside (W5 = ((w4.setCell ⟨w.heap.size, 0, none⟩ (.string s)).setCell ⟨w.heap.size, 1, none⟩ (.int .i64 a')).setCell ⟨w.heap.size, 2, none⟩ (.bool b')) := ⟨_, ⟨rfl⟩⟩
  have H5 : Aside (Below w.heap.size w W5 ∧ W5.heap[w.heap.size]? = some (.cells #[.string s, .int .i64 a', .bool b'] 43 (0, 0)) ∧ W5.heap[w.heap.size + 1 + 1]? = some (.cells #[.string ⟨#[]⟩, .int .i64 0, .bool false] 43 (0, 0)) ∧ W5.heap[w.heap.size + 1]? = some (.cells #[.int .i64 kd, .int .i64 N] 47 (0, 0))) := ⟨by
    rw [HW5.out]
    exact ⟨set3c_below H4.out.1 (Nat.le_refl _) _ _ _, set3c_at H4.out.2.1 _ _ _, set3c_other H4.out.2.2.1 (by omega) _ _ _, set3c_other H4.out.2.2.2 (by omega) _ _ _⟩⟩
  rw [← HW5.out]
  clear x0 x1 x2 f0 f1 f2
  have m2 : w.heap.size + 1 + 1 ≠ Z := by omega
  have m3 : w.heap.size ≠ Z := by omega
  have h52 : w.heap.size + 1 + 1 < W5.heap.size := lt_of_block H5.out.2.2.1
  obtain ⟨v0, v1⟩ := box2 H5.out.2.2.2
  obtain ⟨G, hG⟩ : ∃ G, strOfNums L = G := ⟨_, rfl⟩
  rw [hG] at HL ⊢
  clear hG
  go_wp2_with fail
  refine (KE.out _ H5.out.1).mono ?_
  rintro e w6 ⟨vl, rfl, ho, hR, hK⟩
  have D6 : Aside (DoSt base w Z A c s a' b' w6) := ⟨⟨hR, (Kept.of_below H5.out.1).trans hK, hK.heap H5.out.2.1 m3, hK.heap H5.out.2.2.1 m2⟩⟩
  obtain ⟨Al, cl, rfl, hl⟩ := own_brow ho
  have hI : Ints w6 .u8 (.slice Al L.length cl) L := own_ints ho
  have hGl : G.size = L.length := by rw [← strL_len, HL.out.1]
  have KS := Aside.mk (lsame_eq w6 (.slice Al L.length cl) G (by rw [HL.out.1]; exact hI) (by have := HL.out.2; omega))
  have HL6 := Aside.mk hl
  have hLs : L.length ≤ 140737488355328 := by have := HL.out.2; omega
  clear ho hR hK hl hI v0 v1
  go_wp2_with fail
  refine KS.out.mono ?_
  rintro e w7 ⟨rfl, b7⟩
  have D7 := Aside.mk (D6.out.below b7)
  have HL7 : Aside (∃ g X, L.length = 0 ∨ Al = some ⟨g, 0, none⟩ ∧ w.heap.size + 1 + 1 < g ∧ BRow w7 g L X (0, 0)) := ⟨by
    rcases HL6.out with h | ⟨g, X, e, hg, hB⟩
    · exact ⟨0, [], .inl (by rw [h]; rfl)⟩
    · exact ⟨g, X, .inr ⟨e, by omega, hB.below b7⟩⟩⟩
  obtain ⟨g, X, hrow⟩ := HL7.out
  have HRow := Aside.mk hrow
  clear b7 hrow HL7
  go_wp2_with fail
  go_loopg [13] L.length (fun q s13 w' => ∃ (k : Nat), k ≤ L.length ∧ q = L.length - k ∧ s13 = .int .i64 k ∧ Aside (DoSt base w Z A c s a' b' w' ∧ ∃ M, M.length = L.length ∧ (L.length = 0 ∨ Al = some ⟨g, 0, none⟩ ∧ w.heap.size + 1 + 1 < g ∧ BRow w' g M X (0, 0))))
  case atStart => exact ⟨0, by omega, rfl, rfl, ⟨D7.out, _, rfl, HRow.out⟩⟩
  case round =>
    obtain ⟨k, hk, rfl, rfl, ⟨hP, M, hM, hB⟩⟩ := hrel
    have P7 := Aside.mk hP
    by_cases hlt : k < L.length
    · obtain ⟨rfl, hgl, hB⟩ := hB.resolve_left (by omega)
      have HB := Aside.mk hB
      obtain ⟨x, x0, f0⟩ := hB.at_ k (by omega)
      have hbl : g < wr.heap.size := lt_of_block hB.row
      clear hP hB
      go_wp2_with fail
      go_roundg (L.length - (k + 1))
      case measure => omega
      case rel => exact ⟨k + 1, by omega, rfl, by go_num, ⟨P7.out.set H.out HB.out hgl _, M.set k _, by simpa using hM, .inr ⟨trivial, hgl, HB.out.set k (by omega) _⟩⟩⟩
    · obtain rfl : k = L.length := by omega
      obtain ⟨x0, x1, x2, f0, f1, f2⟩ := box3 hP.m
      obtain ⟨y0, y1, y2, z0, z1, z2⟩ := box3 hP.t
      clear hP hB hlt hM
      go_wp2_with fail
      obtain ⟨u0, u1, u2, _⟩ := box3 (set3c_at P7.out.t (.string s) (.int .i64 a') (.bool b'))
      exact bodyPost_ret (v := .tuple #[.agg #[.string s, .int .i64 a', .bool b'], .bool true]) (by simp [results, Tryd.results19, go_sem, u0, u1, u2]) rfl ⟨rfl, H.out.newt P7.out.rd (set3c_kept (Kept.refl (fun j => j = w.heap.size + 1 + 1) wr) (.inl rfl) _ _ _) (fun j e => by subst e; exact ⟨by omega, _, _, _, P7.out.t, by decide⟩), set3c_kept P7.out.kept (.inr (by omega)) _ _ _⟩
theorem does_any (base : Nat) (w : World) (Z : Nat) (A : Option Addr) (c : Nat) (s : ByteArray) (a : Nat) (b : Bool) (kd N : Int) (h : RD base w Z A c (strL s) a b) (hs : s.size ≤ 140737488355328) (n0 : -9223372036854775808 ≤ N) (n1 : N ≤ 9223372036854775807) :
    Calls Tryd.prog 19 #[.pointer (some ⟨Z, 0, none⟩), mV s a b, .agg #[.int .i64 kd, .int .i64 N]] w (DoesP base w Z A c s a b (askN kd N)) := by
  unfold askN
  by_cases k0 : kd = 0
  · subst k0; exact does0 base w Z A c s a b N h hs
  · by_cases k1 : kd = 1
    · subst k1; exact does1 base w Z A c s a b N h hs
    · rw [if_neg k0, if_neg k1]
      by_cases k2 : kd = 2
      · subst k2; exact does2 base w Z A c s a b N h hs n0 n1
      · exact does3 base w Z A c s a b kd N h hs n0 n1 k0 k1 k2
end Go.Proofs.YtdfbiofmfjmkaaaDoor
