/- Plans of bytes: Decode. -/
import Derived.Test.YtbphlapdhcgikaaDoorDecE
namespace Go.Proofs.YtbphlapdhcgikaaDoor
open Go.RowKit
set_option linter.unusedVariables false
set_option linter.unusedSimpArgs false

def zeroPlan : Value := .agg #[.int .u16 0, .slice none 0 0, .slice none 0 0, .slice none 0 0, .slice none 0 0]
/-- What Decode answers: a plan, or an error. -/
def DecP (w : World) (S : List Int) (e : Ending) (w' : World) : Prop :=
  ∃ pv ev, e = .returned (.tuple #[pv, ev]) ∧ Below w.heap.size w w' ∧ ErrF w' (decF S) ev ∧ (decF S = none → PlanV w' pv (decV S)) ∧ (decF S ≠ none → pv = zeroPlan)
theorem head_bool {S : List Int} (hS : ∀ x ∈ S, 0 ≤ x ∧ x ≤ 255) : ((strOfNums (Bl.takeL S 0 false 4)).toList == [80, 85, 82, 49]) = decide (headS S = [80, 85, 82, 49]) := by
  rw [ByteArray.toList_eq, strOfNums_data]
  change ((headS S).map (fun n => UInt8.ofNat n.toNat) == [80, 85, 82, 49]) = _
  have hm : ∀ x ∈ headS S, 0 ≤ x ∧ x ≤ 255 := fun x hx => hS x (Bl.takeL_mem hx)
  generalize headS S = L at *
  rw [Bool.eq_iff_iff, beq_iff_eq, decide_eq_true_iff]
  constructor
  · intro e
    have hl : L.length = 4 := by have := congrArg List.length e; simpa using this
    match L, hl with
    | [a, b, c, d], _ =>
      simp only [List.map_cons, List.map_nil, List.cons.injEq, and_true] at e
      have ha := hm a (by simp)
      have hb := hm b (by simp)
      have hc := hm c (by simp)
      have hd := hm d (by simp)
      have key : ∀ (x : Int) (y : UInt8), 0 ≤ x ∧ x ≤ 255 → UInt8.ofNat x.toNat = y → x = (y.toNat : Int) := by
        intro x y hx h
        have := congrArg UInt8.toNat h
        simp only [UInt8.toNat_ofNat'] at this
        rw [Nat.mod_eq_of_lt (by omega)] at this
        omega
      rw [key a 80 ha e.1, key b 85 hb e.2.1, key c 82 hc e.2.2.1, key d 49 hd e.2.2.2]
      rfl
  · intro h; rw [h]; rfl
/-- An answer that is an error: the result's box is laid with zeros. -/
theorem dec_err {w W' : World} {S : List Int} {q : Flt} {ev : Value} (hq : decF S = some q) (hb : Below w.heap.size w W') (h : W'.heap[w.heap.size]? = some (.cells #[.int .u16 0, .slice none 0 0, .slice none 0 0, .slice none 0 0, .slice none 0 0] 28 (0, 0))) (hev : ErrF W' (some q) ev) :
    DecP w S (.returned (.tuple #[zeroPlan, ev])) W' ∧ W'.cell? ⟨w.heap.size, 0, none⟩ = some (.int .u16 0) ∧ W'.cell? ⟨w.heap.size, 1, none⟩ = some (.slice none 0 0) ∧ W'.cell? ⟨w.heap.size, 2, none⟩ = some (.slice none 0 0) ∧ W'.cell? ⟨w.heap.size, 3, none⟩ = some (.slice none 0 0) ∧ W'.cell? ⟨w.heap.size, 4, none⟩ = some (.slice none 0 0) := by
  obtain ⟨g0, g1, g2, g3, g4⟩ := box5 h
  exact ⟨⟨zeroPlan, ev, rfl, hb, by rw [hq]; exact hev, (fun e => (by rw [hq] at e; cases e)), fun _ => rfl⟩, g0, g1, g2, g3, g4⟩
def set5z (W : World) (b : Nat) : World := (((((W.setCell ⟨b, 0, none⟩ (.int .u16 0)).setCell ⟨b, 1, none⟩ (.slice none 0 0)).setCell ⟨b, 2, none⟩ (.slice none 0 0)).setCell ⟨b, 3, none⟩ (.slice none 0 0)).setCell ⟨b, 4, none⟩ (.slice none 0 0))
theorem set5z_facts {w W : World} (hb : Below w.heap.size w W) (hbox : W.heap[w.heap.size]? = some (.cells #[.int .u16 0, .slice none 0 0, .slice none 0 0, .slice none 0 0, .slice none 0 0] 28 (0, 0))) :
    Below w.heap.size w (set5z W w.heap.size) ∧ (set5z W w.heap.size).heap[w.heap.size]? = some (.cells #[.int .u16 0, .slice none 0 0, .slice none 0 0, .slice none 0 0, .slice none 0 0] 28 (0, 0)) ∧ Kept (fun j => j = w.heap.size) W (set5z W w.heap.size) ∧ (set5z W w.heap.size).heap.size = W.heap.size := by
  have k := set5_kept W w.heap.size (.int .u16 0) (.slice none 0 0) (.slice none 0 0) (.slice none 0 0) (.slice none 0 0)
  exact ⟨hb.trans (k.below hb.size (fun j e => by omega)), set5_at hbox, k, by simp [set5z, World.setCell]⟩
theorem E_core.put {Z X : Nat} {w w' : World} {cs : List Value} {ds : Array Value} {L : List Win} {t : TypeId} {fr : Nat × Nat} (h : E_core Z w cs L) (k : Kept (fun j => j = X) w w') (hX : w.heap[X]? = some (.cells ds t fr)) (ht : 51 ≠ t) : E_core Z w' cs L := by
  obtain ⟨u, css, lo, e, hl, hr⟩ := h
  exact ⟨u, css, lo, e, hl, hr.kept k (fun b hb e => by subst e; exact own_type hr.own hX ht hb rfl) (fun _ _ q => q)⟩
theorem E_part.put {Z X : Nat} {w w' : World} {cs : List Value} {ds : Array Value} {x : PartR} {t : TypeId} {fr : Nat × Nat} (h : E_part Z w cs x) (k : Kept (fun j => j = X) w w') (hX : w.heap[X]? = some (.cells ds t fr)) (ht : 58 ≠ t ∧ 5 ≠ t) : E_part Z w' cs x := by
  obtain ⟨sv, pv, css, dss, lo, e, hl, h1, h2, h3⟩ := h
  exact ⟨sv, pv, css, dss, lo, e, hl, h1.kept k (fun b hb e => by subst e; exact own_type h1.own hX ht.1 hb rfl) (fun _ _ q => q), h2.kept k (fun b hb e => by subst e; exact own_type h2.own hX ht.2 hb rfl) (fun _ _ q => q), h3⟩
theorem E_core.kb {Z : Nat} {w w' : World} {cs : List Value} {L : List Win} (h : E_core Z w cs L) (k : Below w.heap.size w w') : E_core Z w' cs L := by
  obtain ⟨u, css, lo, e, hl, hr⟩ := h
  exact ⟨u, css, lo, e, hl, hr.kept (Kept.of_below (S := fun _ => False) k) (fun _ _ => id) (fun _ _ q => q)⟩
theorem E_part.kb {Z : Nat} {w w' : World} {cs : List Value} {x : PartR} (h : E_part Z w cs x) (k : Below w.heap.size w w') : E_part Z w' cs x := by
  obtain ⟨sv, pv, css, dss, lo, e, hl, h1, h2, h3⟩ := h
  exact ⟨sv, pv, css, dss, lo, e, hl, h1.kept (Kept.of_below (S := fun _ => False) k) (fun _ _ => id) (fun _ _ q => q), h2.kept (Kept.of_below (S := fun _ => False) k) (fun _ _ => id) (fun _ _ q => q), h3⟩
theorem RowsR.put {α : Type} {lo : Nat} {e : TypeId} {size : Nat} {E : World → List Value → α → Prop} {w w' : World} {v : Value} {xs : List α} {css : List (List Value)} {X : Nat} {ds : Array Value} {t : TypeId} {fr : Nat × Nat} (h : RowsR lo e size E w v xs css) (k : Kept (fun j => j = X) w w') (hX : w.heap[X]? = some (.cells ds t fr)) (ht : e ≠ t) (hE : ∀ cs x, E w cs x → E w' cs x) : RowsR lo e size E w' v xs css :=
  h.kept k (fun b hb e => by subst e; exact own_type h.own hX ht hb rfl) hE
/-- Places that lie apart. -/
structure Apart (w W3 : World) (Z B X T : Nat) : Prop where
  wz : w.heap.size ≠ Z
  bz : B ≠ Z
  xz : X ≠ Z
  tz : T ≠ Z
  wx : w.heap.size ≠ X
  wt : w.heap.size ≠ T
  bx : B ≠ X
  bt : B ≠ T
  xt : X ≠ T
  x3 : W3.heap.size ≤ X
  t3 : W3.heap.size ≤ T
  z3 : Z < W3.heap.size
structure DSt (w W3 : World) (base Z : Nat) (A : Option Addr) (c : Nat) (S : List Int) (B X T : Nat) (v0 v1 v2 v3 v4 k0 k1 k2 k3 : Value) (t : St) (a : World) : Prop where
  rk : Rk base Z A c S W3 t a
  rdg : a.heap[B]? = some (.cells #[.pointer (some ⟨Z, 0, none⟩)] 79 (0, 0))
  res : a.heap[w.heap.size]? = some (.cells #[.int .u16 0, .slice none 0 0, .slice none 0 0, .slice none 0 0, .slice none 0 0] 28 (0, 0))
  box : a.heap[X]? = some (.cells #[v0, v1, v2, v3, v4] 28 (0, 0))
  arr : a.heap[T]? = some (.cells #[k0, k1, k2, k3] 67 (0, 0))
theorem DSt.step {w W3 : World} {base Z : Nat} {A : Option Addr} {c : Nat} {S : List Int} {B X T : Nat} {v0 v1 v2 v3 v4 k0 k1 k2 k3 : Value} {t t' : St} {a a' : World} (m : DSt w W3 base Z A c S B X T v0 v1 v2 v3 v4 k0 k1 k2 k3 t a) (p : Apart w W3 Z B X T) (q : Rk base Z A c S a t' a') : DSt w W3 base Z A c S B X T v0 v1 v2 v3 v4 k0 k1 k2 k3 t' a' :=
  ⟨m.rk.then_ q, q.box p.bz m.rdg, q.box p.wz m.res, q.box p.xz m.box, q.box p.tz m.arr⟩
theorem DSt.below {w W3 : World} {base Z : Nat} {A : Option Addr} {c : Nat} {S : List Int} {B X T : Nat} {v0 v1 v2 v3 v4 k0 k1 k2 k3 : Value} {t : St} {a a' : World} (m : DSt w W3 base Z A c S B X T v0 v1 v2 v3 v4 k0 k1 k2 k3 t a) (q : Below a.heap.size a a') : DSt w W3 base Z A c S B X T v0 v1 v2 v3 v4 k0 k1 k2 k3 t a' :=
  ⟨m.rk.below q, hup q m.rdg, hup q m.res, hup q m.box, hup q m.arr⟩
theorem DSt.putA {w W3 : World} {base Z : Nat} {A : Option Addr} {c : Nat} {S : List Int} {B X T : Nat} {v0 v1 v2 v3 v4 k0 k1 k2 k3 l0 l1 l2 l3 : Value} {t : St} {s1 : Nat} {s2 : Bool} {a a' : World} (m : DSt w W3 base Z A c S B X T v0 v1 v2 v3 v4 k0 k1 k2 k3 t a) (p : Apart w W3 Z B X T) (h0 : Bl.RD base W3 Z A c S s1 s2) (k : Kept (fun j => j = T) a a') (h : a'.heap[T]? = some (.cells #[l0, l1, l2, l3] 67 (0, 0))) : DSt w W3 base Z A c S B X T v0 v1 v2 v3 v4 l0 l1 l2 l3 t a' :=
  ⟨⟨rd_news h0 m.rk.rd k (t := 67) (by decide) (fun j e => by subst e; exact ⟨p.t3, _, _, m.arr⟩), m.rk.kept.then_ k (fun j e => .inr (by rw [e]; exact p.t3))⟩, k.heap m.rdg p.bt, k.heap m.res p.wt, k.heap m.box p.xt, h⟩
theorem DSt.putX {w W3 : World} {base Z : Nat} {A : Option Addr} {c : Nat} {S : List Int} {B X T : Nat} {v0 v1 v2 v3 v4 u0 u1 u2 u3 u4 k0 k1 k2 k3 : Value} {t : St} {s1 : Nat} {s2 : Bool} {a a' : World} (m : DSt w W3 base Z A c S B X T v0 v1 v2 v3 v4 k0 k1 k2 k3 t a) (p : Apart w W3 Z B X T) (h0 : Bl.RD base W3 Z A c S s1 s2) (k : Kept (fun j => j = X) a a') (h : a'.heap[X]? = some (.cells #[u0, u1, u2, u3, u4] 28 (0, 0))) : DSt w W3 base Z A c S B X T u0 u1 u2 u3 u4 k0 k1 k2 k3 t a' :=
  ⟨⟨rd_news h0 m.rk.rd k (t := 28) (by decide) (fun j e => by subst e; exact ⟨p.x3, _, _, m.box⟩), m.rk.kept.then_ k (fun j e => .inr (by rw [e]; exact p.x3))⟩, k.heap m.rdg p.bx, k.heap m.res p.wx, h, k.heap m.arr (fun e => p.xt e.symm)⟩
theorem dec_ok {w W' : World} {S : List Int} {fr : Int} {C : List (List Win)} {Q : List PartR} {H : List ChanR} {P : List PairR} {A0 A1 A2 A3 : Option Addr} {c0 c1 c2 c3 l0 l1 l2 l3 Z : Nat} {s0 s1 s2 s3 : List (List Value)} (hD : decF S = none) (hV : decV S = (fr, C, Q, H, P, ())) (hb : Below w.heap.size w W')
    (hbox : W'.heap[w.heap.size]? = some (.cells #[.int .u16 fr, .slice A0 C.length c0, .slice A1 Q.length c1, .slice A2 H.length c2, .slice A3 P.length c3] 28 (0, 0))) (hfr : 0 ≤ fr ∧ fr ≤ 65535) (r0 : RowsR l0 49 1 (E_core Z) W' (.slice A0 C.length c0) C s0) (r1 : RowsR l1 56 6 (E_part Z) W' (.slice A1 Q.length c1) Q s1) (r2 : RowsR l2 60 6 E_chan W' (.slice A2 H.length c2) H s2) (r3 : RowsR l3 62 2 E_pair W' (.slice A3 P.length c3) P s3) :
    DecP w S (.returned (.tuple #[.agg #[.int .u16 fr, .slice A0 C.length c0, .slice A1 Q.length c1, .slice A2 H.length c2, .slice A3 P.length c3], .nilIface])) W' ∧ W'.cell? ⟨w.heap.size, 0, none⟩ = some (.int .u16 fr) ∧ W'.cell? ⟨w.heap.size, 1, none⟩ = some (.slice A0 C.length c0) ∧ W'.cell? ⟨w.heap.size, 2, none⟩ = some (.slice A1 Q.length c1) ∧ W'.cell? ⟨w.heap.size, 3, none⟩ = some (.slice A2 H.length c2) ∧ W'.cell? ⟨w.heap.size, 4, none⟩ = some (.slice A3 P.length c3) := by
  refine ⟨⟨_, _, rfl, hb, by rw [hD]; rfl, fun _ => ?_, fun e => absurd hD e⟩, box5 hbox⟩
  rw [hV]
  exact ⟨_, _, _, _, _, _, _, _, _, _, _, _, rfl, ⟨hfr, r0.elems (by decide) (fun _ _ q => core_of_E q), r1.elems (by decide) (fun _ _ q => part_of_E q), r2.elems (by decide) (fun _ _ q => chan_of_E q), r3.elems (by decide) (fun _ _ q => pair_of_E q)⟩⟩
theorem kset (a : World) (X o : Nat) (v : Value) : Kept (fun j => j = X) a (a.setCell ⟨X, o, none⟩ v) := (Kept.refl (fun j => j = X) a).setCell (p := ⟨X, o, none⟩) (.inl rfl) v
set_option maxHeartbeats 6400000 in
set_option maxRecDepth 100000 in
theorem decode_any (w : World) (v : Value) (S : List Int) (hS : ∀ x ∈ S, 0 ≤ x ∧ x ≤ 255) (hv : Ints w .u8 v S) (hb : S.length ≤ 140737488355328) : Calls Tryd.prog 15 #[v] w (DecP w S) := by
  have HS := Aside.mk hS
  obtain ⟨W1, HW⟩ : ∃ W1, Aside (W1 = w.alloc (.cells #[.int .u16 0, .slice none 0 0, .slice none 0 0, .slice none 0 0, .slice none 0 0] 28)) := ⟨_, ⟨rfl⟩⟩
  have B1 : Aside (Below w.heap.size w W1 ∧ W1.heap[w.heap.size]? = some (.cells #[.int .u16 0, .slice none 0 0, .slice none 0 0, .slice none 0 0, .slice none 0 0] 28 (0, 0))) := ⟨by
    rw [HW.out]; exact ⟨bel_one _ _, heap_alloc_new _ _⟩⟩
  have KNew := Aside.mk (Bl.new_any W1 v S (hv.below B1.out.1) hb)
  clear hv hS
  go_enter Tryd.func15, Tryd.ntmps15
  go_upto_region 1 with (fail)
  rw [← HW.out]
  go_wp2_with fail
  refine KNew.out.mono ?_
  rintro e w2 ⟨Z, A, c, rfl, hR, b2⟩
  obtain ⟨W3, HW3⟩ : ∃ W3, Aside (W3 = w2.alloc (.cells #[.pointer (some ⟨Z, 0, none⟩)] 79)) := ⟨_, ⟨rfl⟩⟩
  have R3 : Aside (Bl.RD W1.heap.size W3 Z A c S 0 false ∧ Below w.heap.size w W3 ∧ W3.heap[w2.heap.size]? = some (.cells #[.pointer (some ⟨Z, 0, none⟩)] 79 (0, 0)) ∧ W3.heap[w.heap.size]? = some (.cells #[.int .u16 0, .slice none 0 0, .slice none 0 0, .slice none 0 0, .slice none 0 0] 28 (0, 0))) := ⟨by
    rw [HW3.out]
    exact ⟨hR.below (bel_one _ _), bel_then (bel_then B1.out.1 b2) (bel_one _ _), heap_alloc_new _ _, heap_up (hup b2 B1.out.2)⟩⟩
  have hZ2 := rd_lt hR
  have hZ1 : W1.heap.size ≤ Z := by obtain ⟨F, R, _⟩ := hR; exact R.hZ
  have hw1 : w.heap.size < W1.heap.size := lt_of_block B1.out.2
  clear hR b2
  go_upto_region 2 with (fail)
  rw [← HW3.out]
  have p0 := cell_of R3.out.2.2.1
  have KT := Aside.mk (Bl.text_any W1.heap.size W3 Z A c S 0 false 4 R3.out.1 (by decide) (by decide))
  go_wp2_with fail
  refine KT.out.mono ?_
  rintro e w4 ⟨rfl, hR, hK⟩
  have R4 : Aside (Rk W1.heap.size Z A c S W3 (st0 S) w4) := ⟨⟨hR, hK⟩⟩
  clear hR hK p0
  have hne : w2.heap.size ≠ Z := by omega
  have hne0 : w.heap.size ≠ Z := by omega
  have p0 := cell_of (R4.out.box hne R3.out.2.2.1)
  have KE := Aside.mk (Bl.err_any W1.heap.size w4 Z A c S _ _ R4.out.rd)
  obtain ⟨⟨a0, b0⟩, hst⟩ : ∃ s, st0 S = s := ⟨_, rfl⟩
  rw [hst] at R4 KE
  have HST := Aside.mk hst
  clear hst
  cases b0 with
  | true =>
    have HQ : Aside (decF S = some (20, (a0 : Int))) := ⟨by rw [decF, HST.out, if_pos rfl]⟩
    unfold Bl.ErrP Bl.errQ at KE
    simp only [if_true] at KE
    go_wp2_with fail
    refine KE.out.mono ?_
    rintro e w5 ⟨b5, f, rfl, hf1, hf2⟩
    have R5 := Aside.mk (R4.out.below b5)
    have E5 : Aside (ErrF w5 (some (20, (a0 : Int))) (.iface 70 (.pointer (some ⟨f, 0, none⟩)))) := ⟨⟨f, rfl, hf2⟩⟩
    have hfn : f ≠ w.heap.size := by have := R4.out.size; have := R3.out.2.1.size; have := lt_of_block R3.out.2.2.2; omega
    clear b5 p0 hf1 hf2
    have p0 := cell_of (R5.out.box hne R3.out.2.2.1)
    have KI := Aside.mk (is_any w5 20 (a0 : Int) 20 _ E5.out)
    go_wp2_with fail
    refine KI.out.mono ?_
    rintro e w6 ⟨rfl, b6⟩
    have R6 := Aside.mk (R5.out.below b6)
    have E6 := Aside.mk (E5.out.below b6)
    have X6 := Aside.mk (hup b6 (R5.out.box hne0 R3.out.2.2.2))
    clear b6 p0
    obtain ⟨q0, q1, q2, q3, q4, z0, z1, z2, z3, z4⟩ := boxz X6.out
    go_wp2_with fail
    obtain ⟨z0, z1, z2, z3⟩ := set5z_facts (R3.out.2.1.trans (R6.out.kept.below R3.out.2.1.size (fun k e => by omega))) X6.out
    have FE := dec_err HQ.out z0 z1 (by
      obtain ⟨f', e', hh⟩ := E6.out
      injection e' with _ e'
      injection e' with e'
      injection e' with e'
      injection e' with e'
      subst e'
      exact ⟨f, rfl, z2.heap hh hfn⟩)
    unfold set5z at FE
    obtain ⟨F1, g0, g1, g2, g3, g4⟩ := FE
    exact bodyPost_ret (v := .tuple #[zeroPlan, .iface 70 (.pointer (some ⟨f, 0, none⟩))]) (by simp [results, Tryd.results15, go_sem, g0, g1, g2, g3, g4, zeroPlan]) rfl F1
  | false =>
    unfold Bl.ErrP Bl.errQ at KE
    simp only [Bool.false_eq_true, if_false] at KE
    go_wp2_with fail
    refine KE.out.mono ?_
    rintro e w5 ⟨b5, rfl⟩
    have R5 := Aside.mk (R4.out.below b5)
    clear b5 p0
    have p0 := cell_of (R5.out.box hne R3.out.2.2.1)
    go_wp2_with fail
    refine (is_nil _ _).mono ?_
    rintro e w6 ⟨rfl, rfl⟩
    obtain ⟨hd, hhd⟩ : ∃ hd, strOfNums (Bl.takeL S 0 false 4) = hd := ⟨_, rfl⟩
    rw [hhd]
    have HHD := Aside.mk hhd
    clear hhd
    have hhq := head_bool HS.out
    rw [HHD.out] at hhq
    have R6 := Aside.mk R5.out
    by_cases hm : headS S = [80, 85, 82, 49]
    · rw [decide_eq_true hm] at hhq
      have HM := Aside.mk hm
      clear hm
      go_upto_region 8 with (fail)
      clear hhq
      have hr0 := rdN_range2 HS.out (st0 S)
      have hr1 := rdN_range1 HS.out (frS S).2
      have hr2 := rdN_range1 HS.out (n0S S).2
      have hr3 := rdN_range1 HS.out (n1S S).2
      have hr4 := rdN_range1 HS.out (n2S S).2
      obtain ⟨⟨fr, t1⟩, h1⟩ : ∃ r, frS S = r := ⟨_, rfl⟩
      obtain ⟨⟨m0, t2⟩, h2⟩ : ∃ r, n0S S = r := ⟨_, rfl⟩
      obtain ⟨⟨m1, t3⟩, h3⟩ : ∃ r, n1S S = r := ⟨_, rfl⟩
      obtain ⟨⟨m2, t4⟩, h4⟩ : ∃ r, n2S S = r := ⟨_, rfl⟩
      obtain ⟨⟨m3, t5⟩, h5⟩ : ∃ r, n3S S = r := ⟨_, rfl⟩
      have g1 : rdN S 2 (a0, false) = (fr, t1) := by rw [← h1, frS, HST.out]
      have g2 : rdN S 1 t1 = (m0, t2) := by rw [← h2, n0S, h1]
      have g3 : rdN S 1 t2 = (m1, t3) := by rw [← h3, n1S, h2]
      have g4 : rdN S 1 t3 = (m2, t4) := by rw [← h4, n2S, h3]
      have g5 : rdN S 1 t4 = (m3, t5) := by rw [← h5, n3S, h4]
      rw [HST.out, g1] at hr0
      rw [h1, g2] at hr1
      rw [h2, g3] at hr2
      rw [h3, g4] at hr3
      rw [h4, g5] at hr4
      obtain ⟨n0, e0⟩ : ∃ n : Nat, m0 = (n : Int) := ⟨m0.toNat, by omega⟩
      obtain ⟨n1, e1⟩ : ∃ n : Nat, m1 = (n : Int) := ⟨m1.toNat, by omega⟩
      obtain ⟨n2, e2⟩ : ∃ n : Nat, m2 = (n : Int) := ⟨m2.toNat, by omega⟩
      obtain ⟨n3, e3⟩ : ∃ n : Nat, m3 = (n : Int) := ⟨m3.toNat, by omega⟩
      subst e0 e1 e2 e3
      obtain ⟨⟨C, t6⟩, h6⟩ : ∃ r, manyS (coreS S) n0 t5 [] = r := ⟨_, rfl⟩
      obtain ⟨⟨Q, t7⟩, h7⟩ : ∃ r, manyS (partS S) n1 t6 [] = r := ⟨_, rfl⟩
      obtain ⟨⟨H, t8⟩, h8⟩ : ∃ r, manyS (chanS S) n2 t7 [] = r := ⟨_, rfl⟩
      obtain ⟨⟨P, t9⟩, h9⟩ : ∃ r, manyS (pairS S) n3 t8 [] = r := ⟨_, rfl⟩
      have c1 : coresS S = (C, t6) := by rw [coresS, h2, h5]; simp only [Int.toNat_natCast]; exact h6
      have c2 : partsS S = (Q, t7) := by rw [partsS, h3, c1]; simp only [Int.toNat_natCast]; exact h7
      have c3 : chansS S = (H, t8) := by rw [chansS, h4, c2]; simp only [Int.toNat_natCast]; exact h8
      have c4 : pairsS S = (P, t9) := by rw [pairsS, h5, c3]; simp only [Int.toNat_natCast]; exact h9
      have HV : Aside (decV S = (fr, C, Q, H, P, ()) ∧ decF S = (Bl.endQ S t9.1 t9.2).map fun x => (x.2, (x.1 : Int))) := ⟨by
        refine ⟨by rw [decV, h1, c1, c2, c3, c4], ?_⟩
        rw [decF, HST.out, if_neg (by simp), if_neg (by rw [HM.out]; simp), c4]⟩
      have K16 : Aside (∀ W, Bl.RD W1.heap.size W Z A c S a0 false → Calls Tryd.prog 30 #[.pointer (some ⟨Z, 0, none⟩)] W (ReadP W1.heap.size Z A c S W (.int .u16 fr) t1)) := ⟨fun W q => by have := e16_any HS.out W (a0, false) q; rw [g1] at this; exact this⟩
      have KA : Aside (∀ W, Bl.RD W1.heap.size W Z A c S t1.1 t1.2 → Calls Tryd.prog 31 #[.pointer (some ⟨Z, 0, none⟩)] W (ReadP W1.heap.size Z A c S W (.int .u8 n0) t2)) := ⟨fun W q => by have := e8_any HS.out W t1 q; rw [g2] at this; exact this⟩
      have KB : Aside (∀ W, Bl.RD W1.heap.size W Z A c S t2.1 t2.2 → Calls Tryd.prog 31 #[.pointer (some ⟨Z, 0, none⟩)] W (ReadP W1.heap.size Z A c S W (.int .u8 n1) t3)) := ⟨fun W q => by have := e8_any HS.out W t2 q; rw [g3] at this; exact this⟩
      have KC : Aside (∀ W, Bl.RD W1.heap.size W Z A c S t3.1 t3.2 → Calls Tryd.prog 31 #[.pointer (some ⟨Z, 0, none⟩)] W (ReadP W1.heap.size Z A c S W (.int .u8 n2) t4)) := ⟨fun W q => by have := e8_any HS.out W t3 q; rw [g4] at this; exact this⟩
      have KD : Aside (∀ W, Bl.RD W1.heap.size W Z A c S t4.1 t4.2 → Calls Tryd.prog 31 #[.pointer (some ⟨Z, 0, none⟩)] W (ReadP W1.heap.size Z A c S W (.int .u8 n3) t5)) := ⟨fun W q => by have := e8_any HS.out W t4 q; rw [g5] at this; exact this⟩
      have KM0 : Aside (∀ W, Bl.RD W1.heap.size W Z A c S t5.1 t5.2 → Calls Tryd.prog 32 #[.pointer (some ⟨Z, 0, none⟩), .int .i64 n0, .func (.func 33) #[.agg #[.pointer (some ⟨Z, 0, none⟩)]] #[]] W (ManyP W1.heap.size Z A c S 49 1 (E_core Z) W (C, t6))) := ⟨fun W q => by have := many_core HS.out W t5 q n0 (by omega); rw [h6] at this; exact this⟩
      have KM1 : Aside (∀ W, Bl.RD W1.heap.size W Z A c S t6.1 t6.2 → Calls Tryd.prog 34 #[.pointer (some ⟨Z, 0, none⟩), .int .i64 n1, .func (.func 35) #[.agg #[.pointer (some ⟨Z, 0, none⟩)]] #[]] W (ManyP W1.heap.size Z A c S 56 6 (E_part Z) W (Q, t7))) := ⟨fun W q => by have := many_part HS.out W t6 q n1 (by omega); rw [h7] at this; exact this⟩
      have KM2 : Aside (∀ W, Bl.RD W1.heap.size W Z A c S t7.1 t7.2 → Calls Tryd.prog 36 #[.pointer (some ⟨Z, 0, none⟩), .int .i64 n2, .func (.func 37) #[.agg #[.pointer (some ⟨Z, 0, none⟩)]] #[]] W (ManyP W1.heap.size Z A c S 60 6 E_chan W (H, t8))) := ⟨fun W q => by have := many_chan HS.out W t7 q n2 (by omega); rw [h8] at this; exact this⟩
      have KM3 : Aside (∀ W, Bl.RD W1.heap.size W Z A c S t8.1 t8.2 → Calls Tryd.prog 38 #[.pointer (some ⟨Z, 0, none⟩), .int .i64 n3, .func (.func 39) #[.agg #[.pointer (some ⟨Z, 0, none⟩)]] #[]] W (ManyP W1.heap.size Z A c S 62 2 E_pair W (P, t9))) := ⟨fun W q => by have := many_pair HS.out W t8 q n3 (by omega); rw [h9] at this; exact this⟩
      have HFr := Aside.mk hr0
      clear g1 g2 g3 g4 g5 h1 h2 h3 h4 h5 h6 h7 h8 h9 c1 c2 c3 c4 hr0
      go_wp2_with fail
      refine (K16.out _ R5.out.rd).mono ?_
      rintro e w7 ⟨rfl, q7⟩
      have R7 := Aside.mk (R5.out.then_ q7)
      clear q7 p0
      obtain ⟨W9, HW9⟩ : ∃ W9, Aside (W9 = (w7.alloc (.cells #[.int .u16 fr, .slice none 0 0, .slice none 0 0, .slice none 0 0, .slice none 0 0] 28)).alloc (.cells #[.int .i64 0, .int .i64 0, .int .i64 0, .int .i64 0] 67)) := ⟨_, ⟨rfl⟩⟩
      have PA : Aside (Apart w W3 Z w2.heap.size w7.heap.size (w7.heap.size + 1)) := ⟨by
        have s1 := R7.out.size
        have s2 := lt_of_block R3.out.2.2.1
        have s3 := lt_of_block R3.out.2.2.2
        have s4 := rd_lt R3.out.1
        exact ⟨by omega, by omega, by omega, by omega, by omega, by omega, by omega, by omega, by omega, by omega, by omega, by omega⟩⟩
      have M9 : Aside (DSt w W3 W1.heap.size Z A c S w2.heap.size w7.heap.size (w7.heap.size + 1) (.int .u16 fr) (.slice none 0 0) (.slice none 0 0) (.slice none 0 0) (.slice none 0 0) (.int .i64 0) (.int .i64 0) (.int .i64 0) (.int .i64 0) t1 W9) := ⟨by
        rw [HW9.out]
        exact ⟨R7.out.below (bel_two _ _ _), heap_up (heap_up (R7.out.box hne R3.out.2.2.1)), heap_up (heap_up (R7.out.box hne0 R3.out.2.2.2)), heap_up (heap_alloc_new _ _), heap_top _ _ _ (by simp)⟩⟩
      go_upto_region 10 with (fail)
      rw [← HW9.out]
      obtain ⟨X, hXe⟩ : ∃ X, w7.heap.size = X := ⟨_, rfl⟩
      rw [hXe] at PA M9 ⊢
      clear hXe
      have H0 := Aside.mk R3.out.1
      have hw0 : IntKind.i64.wrap (n0 : Int) = (n0 : Int) := IntWalk.i64_in _ (by omega)
      have hw1 : IntKind.i64.wrap (n1 : Int) = (n1 : Int) := IntWalk.i64_in _ (by omega)
      have hw2 : IntKind.i64.wrap (n2 : Int) = (n2 : Int) := IntWalk.i64_in _ (by omega)
      have hw3 : IntKind.i64.wrap (n3 : Int) = (n3 : Int) := IntWalk.i64_in _ (by omega)
      go_wp2_with fail
      refine wp_loop_rounds 5 ?_
      rw [rounds_succ]
      have p0 := cell_of M9.out.rdg
      go_wp2_with fail
      refine (KA.out _ M9.out.rk.rd).mono ?_
      rintro e wa0 ⟨rfl, qa⟩
      have Ma0 := Aside.mk (M9.out.step PA.out qa)
      clear qa p0
      obtain ⟨f0, f1, f2, f3⟩ := marks4 Ma0.out.arr
      obtain ⟨b0, b1, b2, b3⟩ := boxc4 Ma0.out.arr
      obtain ⟨Wb0, HWb0⟩ : ∃ Wb, Aside (Wb = wa0.setCell ⟨X + 1, 0, none⟩ (.int .i64 n0)) := ⟨_, ⟨rfl⟩⟩
      have Mb0 : Aside (DSt w W3 W1.heap.size Z A c S w2.heap.size X (X + 1) (.int .u16 fr) (.slice none 0 0) (.slice none 0 0) (.slice none 0 0) (.slice none 0 0) (.int .i64 n0) (.int .i64 0) (.int .i64 0) (.int .i64 0) t2 Wb0) := ⟨by
        rw [HWb0.out]
        exact Ma0.out.putA PA.out H0.out (kset _ _ _ _) (by have := heap_setCell_at (off := 0) Ma0.out.arr (.int .i64 n0); simpa using this)⟩
      go_upto_region 14 with (fail)
      rw [← HWb0.out]
      clear f0 f1 f2 f3 b0 b1 b2 b3
      go_wp2_with fail
      rw [rounds_succ]
      have p0 := cell_of Mb0.out.rdg
      go_wp2_with fail
      refine (KB.out _ Mb0.out.rk.rd).mono ?_
      rintro e wa1 ⟨rfl, qa⟩
      have Ma1 := Aside.mk (Mb0.out.step PA.out qa)
      clear qa p0
      obtain ⟨f0, f1, f2, f3⟩ := marks4 Ma1.out.arr
      obtain ⟨b0, b1, b2, b3⟩ := boxc4 Ma1.out.arr
      obtain ⟨Wb1, HWb1⟩ : ∃ Wb, Aside (Wb = wa1.setCell ⟨X + 1, 1, none⟩ (.int .i64 n1)) := ⟨_, ⟨rfl⟩⟩
      have Mb1 : Aside (DSt w W3 W1.heap.size Z A c S w2.heap.size X (X + 1) (.int .u16 fr) (.slice none 0 0) (.slice none 0 0) (.slice none 0 0) (.slice none 0 0) (.int .i64 n0) (.int .i64 n1) (.int .i64 0) (.int .i64 0) t3 Wb1) := ⟨by
        rw [HWb1.out]
        exact Ma1.out.putA PA.out H0.out (kset _ _ _ _) (by have := heap_setCell_at (off := 1) Ma1.out.arr (.int .i64 n1); simpa using this)⟩
      go_upto_region 14 with (fail)
      rw [← HWb1.out]
      clear f0 f1 f2 f3 b0 b1 b2 b3
      go_wp2_with fail
      rw [rounds_succ]
      have p0 := cell_of Mb1.out.rdg
      go_wp2_with fail
      refine (KC.out _ Mb1.out.rk.rd).mono ?_
      rintro e wa2 ⟨rfl, qa⟩
      have Ma2 := Aside.mk (Mb1.out.step PA.out qa)
      clear qa p0
      obtain ⟨f0, f1, f2, f3⟩ := marks4 Ma2.out.arr
      obtain ⟨b0, b1, b2, b3⟩ := boxc4 Ma2.out.arr
      obtain ⟨Wb2, HWb2⟩ : ∃ Wb, Aside (Wb = wa2.setCell ⟨X + 1, 2, none⟩ (.int .i64 n2)) := ⟨_, ⟨rfl⟩⟩
      have Mb2 : Aside (DSt w W3 W1.heap.size Z A c S w2.heap.size X (X + 1) (.int .u16 fr) (.slice none 0 0) (.slice none 0 0) (.slice none 0 0) (.slice none 0 0) (.int .i64 n0) (.int .i64 n1) (.int .i64 n2) (.int .i64 0) t4 Wb2) := ⟨by
        rw [HWb2.out]
        exact Ma2.out.putA PA.out H0.out (kset _ _ _ _) (by have := heap_setCell_at (off := 2) Ma2.out.arr (.int .i64 n2); simpa using this)⟩
      go_upto_region 14 with (fail)
      rw [← HWb2.out]
      clear f0 f1 f2 f3 b0 b1 b2 b3
      go_wp2_with fail
      rw [rounds_succ]
      have p0 := cell_of Mb2.out.rdg
      go_wp2_with fail
      refine (KD.out _ Mb2.out.rk.rd).mono ?_
      rintro e wa3 ⟨rfl, qa⟩
      have Ma3 := Aside.mk (Mb2.out.step PA.out qa)
      clear qa p0
      obtain ⟨f0, f1, f2, f3⟩ := marks4 Ma3.out.arr
      obtain ⟨b0, b1, b2, b3⟩ := boxc4 Ma3.out.arr
      obtain ⟨Wb3, HWb3⟩ : ∃ Wb, Aside (Wb = wa3.setCell ⟨X + 1, 3, none⟩ (.int .i64 n3)) := ⟨_, ⟨rfl⟩⟩
      have Mb3 : Aside (DSt w W3 W1.heap.size Z A c S w2.heap.size X (X + 1) (.int .u16 fr) (.slice none 0 0) (.slice none 0 0) (.slice none 0 0) (.slice none 0 0) (.int .i64 n0) (.int .i64 n1) (.int .i64 n2) (.int .i64 n3) t5 Wb3) := ⟨by
        rw [HWb3.out]
        exact Ma3.out.putA PA.out H0.out (kset _ _ _ _) (by have := heap_setCell_at (off := 3) Ma3.out.arr (.int .i64 n3); simpa using this)⟩
      go_upto_region 14 with (fail)
      rw [← HWb3.out]
      clear f0 f1 f2 f3 b0 b1 b2 b3
      go_wp2_with fail
      rw [rounds_succ]
      go_upto_region 15 with (fail)
      have p0 := cell_of Mb3.out.rdg
      obtain ⟨b0, b1, b2, b3⟩ := boxc4 Mb3.out.arr
      go_wp2_with fail
      refine (KM0.out _ Mb3.out.rk.rd).mono ?_
      rintro e wc0 ⟨v0, css0, rfl, hrows, qa⟩
      obtain ⟨A0, c0, rfl⟩ := own_len hrows.own
      have Mc0 := Aside.mk (Mb3.out.step PA.out qa)
      have hlo : Z < Wb3.heap.size := rd_lt Mb3.out.rk.rd
      have Rc0_0 := Aside.mk (And.intro hrows hlo)
      clear qa p0 b0 b1 b2 b3 hrows hlo
      obtain ⟨x0, x1, x2, x3, x4, z0, z1, z2, z3, z4⟩ := boxz Mc0.out.box
      obtain ⟨Wd0, HWd0⟩ : ∃ Wd, Aside (Wd = wc0.setCell ⟨X, 1, none⟩ (.slice A0 C.length c0)) := ⟨_, ⟨rfl⟩⟩
      have Kd0 : Aside (Kept (fun j => j = X) wc0 Wd0) := ⟨by rw [HWd0.out]; exact kset _ _ _ _⟩
      have Md0 : Aside (DSt w W3 W1.heap.size Z A c S w2.heap.size X (X + 1) (.int .u16 fr) (.slice A0 C.length c0) (.slice none 0 0) (.slice none 0 0) (.slice none 0 0) (.int .i64 n0) (.int .i64 n1) (.int .i64 n2) (.int .i64 n3) t6 Wd0) := ⟨by
        refine Mc0.out.putX PA.out H0.out Kd0.out ?_
        rw [HWd0.out]
        have := heap_setCell_at (off := 1) Mc0.out.box (.slice A0 C.length c0)
        simpa using this⟩
      have Rd0_0 := Aside.mk (And.intro (Rc0_0.out.1.put Kd0.out Mc0.out.box (by decide) (fun _ _ q => q.put Kd0.out Mc0.out.box (by decide))) Rc0_0.out.2)
      go_upto_region 16 with (fail)
      rw [← HWd0.out]
      clear x0 x1 x2 x3 x4 z0 z1 z2 z3 z4
      have p0 := cell_of Md0.out.rdg
      obtain ⟨b0, b1, b2, b3⟩ := boxc4 Md0.out.arr
      go_wp2_with fail
      refine (KM1.out _ Md0.out.rk.rd).mono ?_
      rintro e wc1 ⟨v1, css1, rfl, hrows, qa⟩
      obtain ⟨A1, c1, rfl⟩ := own_len hrows.own
      have Mc1 := Aside.mk (Md0.out.step PA.out qa)
      have hlo : Z < Wd0.heap.size := rd_lt Md0.out.rk.rd
      have Rc1_1 := Aside.mk (And.intro hrows hlo)
      have Rc1_0 := Aside.mk (And.intro (Rd0_0.out.1.off qa.kept Rd0_0.out.2 (fun cs x q => E1_core _ _ cs x q qa.kept)) Rd0_0.out.2)
      clear qa p0 b0 b1 b2 b3 hrows hlo
      obtain ⟨x0, x1, x2, x3, x4, z0, z1, z2, z3, z4⟩ := boxz Mc1.out.box
      obtain ⟨Wd1, HWd1⟩ : ∃ Wd, Aside (Wd = wc1.setCell ⟨X, 2, none⟩ (.slice A1 Q.length c1)) := ⟨_, ⟨rfl⟩⟩
      have Kd1 : Aside (Kept (fun j => j = X) wc1 Wd1) := ⟨by rw [HWd1.out]; exact kset _ _ _ _⟩
      have Md1 : Aside (DSt w W3 W1.heap.size Z A c S w2.heap.size X (X + 1) (.int .u16 fr) (.slice A0 C.length c0) (.slice A1 Q.length c1) (.slice none 0 0) (.slice none 0 0) (.int .i64 n0) (.int .i64 n1) (.int .i64 n2) (.int .i64 n3) t7 Wd1) := ⟨by
        refine Mc1.out.putX PA.out H0.out Kd1.out ?_
        rw [HWd1.out]
        have := heap_setCell_at (off := 2) Mc1.out.box (.slice A1 Q.length c1)
        simpa using this⟩
      have Rd1_0 := Aside.mk (And.intro (Rc1_0.out.1.put Kd1.out Mc1.out.box (by decide) (fun _ _ q => q.put Kd1.out Mc1.out.box (by decide))) Rc1_0.out.2)
      have Rd1_1 := Aside.mk (And.intro (Rc1_1.out.1.put Kd1.out Mc1.out.box (by decide) (fun _ _ q => q.put Kd1.out Mc1.out.box (by decide))) Rc1_1.out.2)
      go_upto_region 17 with (fail)
      rw [← HWd1.out]
      clear x0 x1 x2 x3 x4 z0 z1 z2 z3 z4
      have p0 := cell_of Md1.out.rdg
      obtain ⟨b0, b1, b2, b3⟩ := boxc4 Md1.out.arr
      go_wp2_with fail
      refine (KM2.out _ Md1.out.rk.rd).mono ?_
      rintro e wc2 ⟨v2, css2, rfl, hrows, qa⟩
      obtain ⟨A2, c2, rfl⟩ := own_len hrows.own
      have Mc2 := Aside.mk (Md1.out.step PA.out qa)
      have hlo : Z < Wd1.heap.size := rd_lt Md1.out.rk.rd
      have Rc2_2 := Aside.mk (And.intro hrows hlo)
      have Rc2_0 := Aside.mk (And.intro (Rd1_0.out.1.off qa.kept Rd1_0.out.2 (fun cs x q => E1_core _ _ cs x q qa.kept)) Rd1_0.out.2)
      have Rc2_1 := Aside.mk (And.intro (Rd1_1.out.1.off qa.kept Rd1_1.out.2 (fun cs x q => E1_part _ _ cs x q qa.kept)) Rd1_1.out.2)
      clear qa p0 b0 b1 b2 b3 hrows hlo
      obtain ⟨x0, x1, x2, x3, x4, z0, z1, z2, z3, z4⟩ := boxz Mc2.out.box
      obtain ⟨Wd2, HWd2⟩ : ∃ Wd, Aside (Wd = wc2.setCell ⟨X, 3, none⟩ (.slice A2 H.length c2)) := ⟨_, ⟨rfl⟩⟩
      have Kd2 : Aside (Kept (fun j => j = X) wc2 Wd2) := ⟨by rw [HWd2.out]; exact kset _ _ _ _⟩
      have Md2 : Aside (DSt w W3 W1.heap.size Z A c S w2.heap.size X (X + 1) (.int .u16 fr) (.slice A0 C.length c0) (.slice A1 Q.length c1) (.slice A2 H.length c2) (.slice none 0 0) (.int .i64 n0) (.int .i64 n1) (.int .i64 n2) (.int .i64 n3) t8 Wd2) := ⟨by
        refine Mc2.out.putX PA.out H0.out Kd2.out ?_
        rw [HWd2.out]
        have := heap_setCell_at (off := 3) Mc2.out.box (.slice A2 H.length c2)
        simpa using this⟩
      have Rd2_0 := Aside.mk (And.intro (Rc2_0.out.1.put Kd2.out Mc2.out.box (by decide) (fun _ _ q => q.put Kd2.out Mc2.out.box (by decide))) Rc2_0.out.2)
      have Rd2_1 := Aside.mk (And.intro (Rc2_1.out.1.put Kd2.out Mc2.out.box (by decide) (fun _ _ q => q.put Kd2.out Mc2.out.box (by decide))) Rc2_1.out.2)
      have Rd2_2 := Aside.mk (And.intro (Rc2_2.out.1.put Kd2.out Mc2.out.box (by decide) (fun _ _ q => q)) Rc2_2.out.2)
      go_upto_region 18 with (fail)
      rw [← HWd2.out]
      clear x0 x1 x2 x3 x4 z0 z1 z2 z3 z4
      have p0 := cell_of Md2.out.rdg
      obtain ⟨b0, b1, b2, b3⟩ := boxc4 Md2.out.arr
      go_wp2_with fail
      refine (KM3.out _ Md2.out.rk.rd).mono ?_
      rintro e wc3 ⟨v3, css3, rfl, hrows, qa⟩
      obtain ⟨A3, c3, rfl⟩ := own_len hrows.own
      have Mc3 := Aside.mk (Md2.out.step PA.out qa)
      have hlo : Z < Wd2.heap.size := rd_lt Md2.out.rk.rd
      have Rc3_3 := Aside.mk (And.intro hrows hlo)
      have Rc3_0 := Aside.mk (And.intro (Rd2_0.out.1.off qa.kept Rd2_0.out.2 (fun cs x q => E1_core _ _ cs x q qa.kept)) Rd2_0.out.2)
      have Rc3_1 := Aside.mk (And.intro (Rd2_1.out.1.off qa.kept Rd2_1.out.2 (fun cs x q => E1_part _ _ cs x q qa.kept)) Rd2_1.out.2)
      have Rc3_2 := Aside.mk (And.intro (Rd2_2.out.1.off qa.kept Rd2_2.out.2 (fun _ _ q => q)) Rd2_2.out.2)
      clear qa p0 b0 b1 b2 b3 hrows hlo
      obtain ⟨x0, x1, x2, x3, x4, z0, z1, z2, z3, z4⟩ := boxz Mc3.out.box
      obtain ⟨Wd3, HWd3⟩ : ∃ Wd, Aside (Wd = wc3.setCell ⟨X, 4, none⟩ (.slice A3 P.length c3)) := ⟨_, ⟨rfl⟩⟩
      have Kd3 : Aside (Kept (fun j => j = X) wc3 Wd3) := ⟨by rw [HWd3.out]; exact kset _ _ _ _⟩
      have Md3 : Aside (DSt w W3 W1.heap.size Z A c S w2.heap.size X (X + 1) (.int .u16 fr) (.slice A0 C.length c0) (.slice A1 Q.length c1) (.slice A2 H.length c2) (.slice A3 P.length c3) (.int .i64 n0) (.int .i64 n1) (.int .i64 n2) (.int .i64 n3) t9 Wd3) := ⟨by
        refine Mc3.out.putX PA.out H0.out Kd3.out ?_
        rw [HWd3.out]
        have := heap_setCell_at (off := 4) Mc3.out.box (.slice A3 P.length c3)
        simpa using this⟩
      have Rd3_0 := Aside.mk (And.intro (Rc3_0.out.1.put Kd3.out Mc3.out.box (by decide) (fun _ _ q => q.put Kd3.out Mc3.out.box (by decide))) Rc3_0.out.2)
      have Rd3_1 := Aside.mk (And.intro (Rc3_1.out.1.put Kd3.out Mc3.out.box (by decide) (fun _ _ q => q.put Kd3.out Mc3.out.box (by decide))) Rc3_1.out.2)
      have Rd3_2 := Aside.mk (And.intro (Rc3_2.out.1.put Kd3.out Mc3.out.box (by decide) (fun _ _ q => q)) Rc3_2.out.2)
      have Rd3_3 := Aside.mk (And.intro (Rc3_3.out.1.put Kd3.out Mc3.out.box (by decide) (fun _ _ q => q)) Rc3_3.out.2)
      go_upto_region 19 with (fail)
      rw [← HWd3.out]
      clear x0 x1 x2 x3 x4 z0 z1 z2 z3 z4
      have p0 := cell_of Md3.out.rdg
      have KEn := Aside.mk (Bl.end_any W1.heap.size Wd3 Z A c S _ _ Md3.out.rk.rd)
      obtain ⟨oq, hoq⟩ : ∃ oq, Bl.endQ S t9.1 t9.2 = oq := ⟨_, rfl⟩
      rw [hoq] at KEn
      have HOQ := Aside.mk hoq
      clear hoq
      unfold Bl.ErrP at KEn
      rcases oq with _ | ⟨qa, qn⟩
      · simp only at KEn
        have HD : Aside (decF S = none) := ⟨by rw [HV.out.2, HOQ.out]; rfl⟩
        go_wp2_with fail
        refine KEn.out.mono ?_
        rintro e we ⟨be, rfl⟩
        have BE := Aside.mk be
        have ME := Aside.mk (Md3.out.below be)
        clear be p0
        obtain ⟨x0, x1, x2, x3, x4, z0, z1, z2, z3, z4⟩ := boxz ME.out.box
        obtain ⟨y0, y1, y2, y3, y4, f0, f1, f2, f3, f4⟩ := boxz ME.out.res
        go_wp2_with fail
        have k := set5_kept we w.heap.size (.int .u16 fr) (.slice A0 C.length c0) (.slice A1 Q.length c1) (.slice A2 H.length c2) (.slice A3 P.length c3)
        have hb := set5_at (v0 := .int .u16 fr) (v1 := .slice A0 C.length c0) (v2 := .slice A1 Q.length c1) (v3 := .slice A2 H.length c2) (v4 := .slice A3 P.length c3) ME.out.res
        have kb := Kept.of_below (S := fun _ => False) BE.out
        have FE := dec_ok HD.out HV.out.1 ((R3.out.2.1.trans (ME.out.rk.kept.below R3.out.2.1.size (fun k e => by have := PA.out.wz; omega))).trans (k.below (by have := ME.out.rk.size; have := R3.out.2.1.size; omega) (fun j e => by omega))) hb HFr.out
          ((Rd3_0.out.1.kept kb (fun _ _ => id) (fun cs x q => E_core.kb q BE.out)).put k ME.out.res (by decide) (fun _ _ q => q.put k ME.out.res (by decide)))
          ((Rd3_1.out.1.kept kb (fun _ _ => id) (fun cs x q => E_part.kb q BE.out)).put k ME.out.res (by decide) (fun _ _ q => q.put k ME.out.res (by decide)))
          ((Rd3_2.out.1.kept kb (fun _ _ => id) (fun _ _ q => q)).put k ME.out.res (by decide) (fun _ _ q => q))
          ((Rd3_3.out.1.kept kb (fun _ _ => id) (fun _ _ q => q)).put k ME.out.res (by decide) (fun _ _ q => q))
        obtain ⟨F1, g0, g1, g2, g3, g4⟩ := FE
        exact bodyPost_ret (v := .tuple #[.agg #[.int .u16 fr, .slice A0 C.length c0, .slice A1 Q.length c1, .slice A2 H.length c2, .slice A3 P.length c3], .nilIface]) (by simp [results, Tryd.results15, go_sem, g0, g1, g2, g3, g4]) rfl F1
      · simp only at KEn
        have HD : Aside (decF S = some (qn, (qa : Int))) := ⟨by rw [HV.out.2, HOQ.out]; rfl⟩
        go_wp2_with fail
        refine KEn.out.mono ?_
        rintro e we ⟨be, f, rfl, hf1, hf2⟩
        have ME := Aside.mk (Md3.out.below be)
        have hfn : f ≠ w.heap.size := by have := lt_of_block Md3.out.res; omega
        have HF2 := Aside.mk hf2
        clear be p0 hf1 hf2
        obtain ⟨y0, y1, y2, y3, y4, f0, f1, f2, f3, f4⟩ := boxz ME.out.res
        go_wp2_with fail
        obtain ⟨z0, z1, z2, z3⟩ := set5z_facts (R3.out.2.1.trans (ME.out.rk.kept.below R3.out.2.1.size (fun k e => by have := PA.out.wz; omega))) ME.out.res
        have FE := dec_err HD.out z0 z1 ⟨f, rfl, z2.heap HF2.out hfn⟩
        unfold set5z at FE
        obtain ⟨F1, g0, g1, g2, g3, g4⟩ := FE
        exact bodyPost_ret (v := .tuple #[zeroPlan, .iface 70 (.pointer (some ⟨f, 0, none⟩))]) (by simp [results, Tryd.results15, go_sem, g0, g1, g2, g3, g4, zeroPlan]) rfl F1
    · have HQ : Aside (decF S = some (30, 0)) := ⟨by rw [decF, HST.out, if_neg (by simp), if_pos hm]⟩
      rw [decide_eq_false hm] at hhq
      clear hm p0
      have X6 := Aside.mk (R5.out.box hne0 R3.out.2.2.2)
      obtain ⟨q0, q1, q2, q3, q4, z0, z1, z2, z3, z4⟩ := boxz X6.out
      have hsz : w.heap.size < w6.heap.size := lt_of_block X6.out
      obtain ⟨W7, HW7⟩ : ∃ W7, Aside (W7 = w6.alloc (.cells #[.int .i64 0, .int .i64 30] 74)) := ⟨_, ⟨rfl⟩⟩
      go_wp2_with fail
      obtain ⟨z0, z1, z2, z3⟩ := set5z_facts (R3.out.2.1.trans (R5.out.kept.below R3.out.2.1.size (fun k e => by omega))) X6.out
      have FE := dec_err (W' := (set5z w6 w.heap.size).alloc (.cells #[.int .i64 0, .int .i64 30] 74)) HQ.out (bel_then z0 (bel_one _ _)) (heap_up z1) ⟨w6.heap.size, rfl, heap_top _ _ _ z3⟩
      unfold set5z at FE
      obtain ⟨F1, g0, g1, g2, g3, g4⟩ := FE
      exact bodyPost_ret (v := .tuple #[zeroPlan, .iface 70 (.pointer (some ⟨w6.heap.size, 0, none⟩))]) (by simp [results, Tryd.results15, go_sem, g0, g1, g2, g3, g4, zeroPlan]) rfl F1
end Go.Proofs.YtbphlapdhcgikaaDoor
