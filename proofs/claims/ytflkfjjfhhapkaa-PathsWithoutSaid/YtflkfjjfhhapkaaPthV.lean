/- Paths: the law PathsWithout. -/
import Derived.Test.YtflkfjjfhhapkaaPthU
import Derived.Test.YtflkfjjfhhapkaaSm3
namespace Go.Proofs.Ytflkfjjfhhapkaa
open Go.RowKit
set_option linter.unusedVariables false
set_option linter.unusedSimpArgs false

/-- want's state while the channels that stay are put behind one another. -/
structure WtSt (wc : World) (Z : Nat) (x0 s1 s2 s4 : Value) (G : List ChanR) (vc : Value) (a : World) : Prop where
  kept : Kept (fun j => j = Z) wc a
  box : a.heap[Z]? = some (.cells #[x0, s1, s2, vc, s4] 28 (0, 0))
  row : a.ownsRow wc.heap.size 44 6 vc G.length (G.flatMap ChanR.vals)
  hZ : Z < wc.heap.size
  ok : ∀ x ∈ G, ChanR.Ok x
theorem WtSt.start {wc : World} {Z : Nat} {x0 s1 s2 s4 : Value} (h : wc.heap[Z]? = some (.cells #[x0, s1, s2, .slice none 0 0, s4] 28 (0, 0))) : WtSt wc Z x0 s1 s2 s4 [] (.slice none 0 0) wc :=
  ⟨Kept.refl _ _, h, own_nil _ _ _ _, lt_of_block h, by simp⟩
theorem WtSt.below {wc a b : World} {Z : Nat} {x0 s1 s2 s4 vc : Value} {G : List ChanR} (s : WtSt wc Z x0 s1 s2 s4 G vc a) (h : Below a.heap.size a b) : WtSt wc Z x0 s1 s2 s4 G vc b :=
  ⟨s.kept.trans (Kept.of_below h), hup h s.box, own_below s.row h, s.hZ, s.ok⟩
theorem WtSt.push {wc a ω b : World} {Z : Nat} {x0 s1 s2 s4 vc v1 : Value} {G : List ChanR} {c : ChanR} (s : WtSt wc Z x0 s1 s2 s4 G vc a) (ok : ChanR.Ok c) (DA : Below a.heap.size a ω)
    (hown : b.ownsRow wc.heap.size 44 6 v1 (G.length + 1) (G.flatMap ChanR.vals ++ ChanR.vals c)) (hgr : ω.grownBy b vc.ownBlock) :
    WtSt wc Z x0 s1 s2 s4 (G ++ [c]) v1 (b.setCell ⟨Z, 3, none⟩ v1) := by
  have hZc : ∀ j, vc.ownBlock = some j → j ≠ Z := fun j hj => own_type s.row s.box (by decide) hj
  have hZω := hup DA s.box
  have hZb : b.heap[Z]? = some (.cells #[x0, s1, s2, vc, s4] 28 (0, 0)) := (hgr.block Z (lt_of_block hZω) (fun e => hZc Z e.symm rfl)).trans hZω
  have hZv : ∀ j, v1.ownBlock = some j → j ≠ Z := fun j hj => own_type hown hZb (by decide) hj
  have kb : Kept (fun j => vc.ownBlock = some j) a b := (Kept.of_below DA).trans (grown_kept hgr)
  have kz : Kept (fun j => j = Z) b (b.setCell ⟨Z, 3, none⟩ v1) := (Kept.refl (fun j => j = Z) b).setCell (p := ⟨Z, 3, none⟩) (.inl rfl) _
  refine ⟨(s.kept.then_ kb (fun j hj => .inr (own_base s.row j hj))).trans kz, set3_box hZb, ?_, s.hZ, fun x hx => ?_⟩
  · have h := own_kept hown kz hZv
    rw [List.length_append, List.length_singleton, List.flatMap_append]
    simpa using h
  · rcases List.mem_append.1 hx with q | q
    · exact s.ok x q
    · rw [List.mem_singleton.1 q]; exact ok
theorem WtSt.chans {wc a : World} {Z : Nat} {x0 s1 s2 s4 vc : Value} {G : List ChanR} (s : WtSt wc Z x0 s1 s2 s4 G vc a) : Chans a vc G :=
  elems_own ChanR.vals (by decide) (base := wc.heap.size) (e := 44) s.row (fun x hx => ⟨chan_of_vals (s.ok x hx), rfl⟩)
theorem filter_next {H : List ChanR} {q : ChanR → Bool} {k : Nat} {c : ChanR} (hl : H[k]? = some c) : (H.take (k + 1)).filter q = if q c = true then (H.take k).filter q ++ [c] else (H.take k).filter q := by
  obtain ⟨hk, rfl⟩ := List.getElem?_eq_some_iff.1 hl
  rw [List.take_succ_eq_append_getElem hk, List.filter_append]
  cases h : q H[k] <;> simp [h]
theorem emptyV (w : World) : PlanV w (.agg #[.int .u16 0, .slice none 0 0, .slice none 0 0, .slice none 0 0, .slice none 0 0]) emptyP :=
  ⟨_, _, _, _, _, _, _, _, _, _, _, _, rfl, ⟨⟨by show (0:Int) ≤ 0; omega, by show (0:Int) ≤ 65535; omega⟩, ⟨none, 0, rfl, by simp [emptyP, Plan.cores], by simp, by simp [emptyP, Plan.cores]⟩, ⟨none, 0, rfl, by simp [emptyP, Plan.parts], by simp, by simp [emptyP, Plan.parts]⟩, ⟨none, 0, rfl, by simp [emptyP, Plan.chans], by simp, by simp [emptyP, Plan.chans]⟩, ⟨none, 0, rfl, by simp [emptyP, Plan.pairs], by simp, by simp [emptyP, Plan.pairs]⟩⟩⟩

set_option maxHeartbeats 6400000 in
set_option maxRecDepth 100000 in
theorem pwo_out (w : World) (v : Value) (P : Plan) (p : Int) (hv : PlanV w v P) (hz : Sz P) (hq : inB (Plan.parts P).length p = false) : Calls Try.prog 8 #[v, .int .i64 p] w fun e w' => e = .returned (.bool true) ∧ Below w.heap.size w w' := by
  have HV := Aside.mk hv
  obtain ⟨a0, c0, a1, c1, a2, c2, a3, c3, rfl, hp, hlen⟩ := hv.open_
  obtain ⟨i0, i1⟩ := hp.frame
  obtain ⟨W1, HW⟩ : ∃ W1, Aside (W1 = w.alloc (.cells #[.int .u16 (Plan.frame P), .slice a0 (Plan.cores P).length c0, .slice a1 (Plan.parts P).length c1, .slice a2 (Plan.chans P).length c2, .slice a3 (Plan.pairs P).length c3] 28)) := ⟨_, ⟨rfl⟩⟩
  have hb1 : Aside (Below w.heap.size w W1 ∧ W1.heap[w.heap.size]? = some (.cells #[.int .u16 (Plan.frame P), .slice a0 (Plan.cores P).length c0, .slice a1 (Plan.parts P).length c1, .slice a2 (Plan.chans P).length c2, .slice a3 (Plan.pairs P).length c3] 28 (0, 0))) := ⟨by rw [HW.out]; exact ⟨bel_one _ _, heap_alloc_new _ _⟩⟩
  have K0 := Aside.mk (few_any W1 _ P (HV.out.below hb1.out.1) hz)
  have KW : Aside (∀ W, Below w.heap.size w W → Calls Try.prog 24 #[.agg #[.int .u16 (Plan.frame P), .slice a0 (Plan.cores P).length c0, .slice a1 (Plan.parts P).length c1, .slice a2 (Plan.chans P).length c2, .slice a3 (Plan.pairs P).length c3], .int .i64 p] W (NoW W)) := ⟨fun W h => without_out W _ P p (HV.out.below h) hq⟩
  have KR : Aside (∀ W, Below w.heap.size w W → Few P → Calls Try.prog 13 #[.agg #[.int .u16 (Plan.frame P), .slice a0 (Plan.cores P).length c0, .slice a1 (Plan.parts P).length c1, .slice a2 (Plan.chans P).length c2, .slice a3 (Plan.pairs P).length c3], .int .i64 p] W (AnsC W false (intoL (Plan.parts P).length (Plan.chans P) p.toNat))) := ⟨fun W h hf => by rw [← hq]; exact rinto_ans W _ P p (HV.out.below h) hf⟩
  have KS : Aside (∀ W, Calls Try.prog 25 #[.agg #[.int .u16 0, .slice none 0 0, .slice none 0 0, .slice none 0 0, .slice none 0 0], .agg #[.int .u16 0, .slice none 0 0, .slice none 0 0, .slice none 0 0, .slice none 0 0]] W fun e w' => e = .returned (.bool true) ∧ Below W.heap.size W w') := ⟨fun W => by have := rsame3_any W _ _ _ _ (emptyV W) (emptyV W); rwa [eqB_yes rfl] at this⟩
  obtain ⟨n, hn⟩ : ∃ n, (Plan.parts P).length = n := ⟨_, rfl⟩
  obtain ⟨H, hH⟩ : ∃ H, Plan.chans P = H := ⟨_, rfl⟩
  obtain ⟨fr, hfr⟩ : ∃ fr, Plan.frame P = fr := ⟨_, rfl⟩
  rw [hn] at K0 KW KR HW hb1 HV
  rw [hH] at K0 KW KR HW hb1 HV
  rw [hfr] at i0 i1 K0 KW KR HW hb1 HV
  rw [hn, hH, hfr]
  clear hp hz hv hn hH hfr hq
  go_enter Try.func8, Try.ntmps8
  go_wp2_with fail
  rw [← HW.out]
  refine K0.out.mono ?_
  rintro e w2 ⟨b, rfl, hF, b2⟩
  cases b with
  | false =>
    have B2 := Aside.mk (bel_then hb1.out.1 b2)
    clear b2 hF
    go_wp2_with fail
    refine (awake_any _).mono ?_
    rintro e w3 ⟨rfl, b3⟩
    have B3 := Aside.mk (bel_then B2.out b3)
    clear b3
    go_wp2_with fail
    go_ret
    exact ⟨rfl, B3.out⟩
  | true =>
    have F := Aside.mk (hF rfl)
    have S2 := Aside.mk (And.intro (bel_then hb1.out.1 b2) (hup b2 hb1.out.2))
    clear b2 hF
    obtain ⟨g0, g1, g2, g3, g4⟩ := box5 S2.out.2
    go_wp2_with fail
    refine (KW.out _ S2.out.1).mono ?_
    rintro e w3 ⟨rfl, b3⟩
    have S3 := Aside.mk (And.intro (bel_then S2.out.1 b3) (hup b3 S2.out.2))
    clear b3 g0 g1 g2 g3 g4
    obtain ⟨W4, HW4⟩ : ∃ W4, Aside (W4 = w3.alloc (.cells #[.int .u16 0, .slice none 0 0, .slice none 0 0, .slice none 0 0, .slice none 0 0] 28)) := ⟨_, ⟨rfl⟩⟩
    have S4 : Aside (Below w.heap.size w W4 ∧ W4.heap[w.heap.size]? = some (.cells #[.int .u16 fr, .slice a0 (Plan.cores P).length c0, .slice a1 n c1, .slice a2 H.length c2, .slice a3 (Plan.pairs P).length c3] 28 (0, 0)) ∧ W4.heap[w3.heap.size]? = some (.cells #[.int .u16 0, .slice none 0 0, .slice none 0 0, .slice none 0 0, .slice none 0 0] 28 (0, 0))) := ⟨by rw [HW4.out]; exact ⟨bel_then S3.out.1 (bel_one _ _), hup (bel_one _ _) S3.out.2, heap_top _ _ _ rfl⟩⟩
    go_upto_region 4 with (fail)
    rw [← HW4.out]
    obtain ⟨g0, g1, g2, g3, g4⟩ := box5 S4.out.2.1
    go_wp2_with fail
    refine (KR.out _ S4.out.1 F.out).mono ?_
    rintro e w5 ⟨vl, rfl, hl, b5⟩
    have S5 := Aside.mk (And.intro (bel_then S4.out.1 b5) (hup b5 S4.out.2.2))
    clear b5 hl g0 g1 g2 g3 g4
    simp only [ecB_false]
    go_wp2_with fail
    refine (awake_any _).mono ?_
    rintro e w6 ⟨rfl, b6⟩
    have S6 := Aside.mk (And.intro (bel_then S5.out.1 b6) (hup b6 S5.out.2))
    clear b6
    go_wp2_with fail
    refine (awake_any _).mono ?_
    rintro e w7 ⟨rfl, b7⟩
    have S7 := Aside.mk (And.intro (bel_then S6.out.1 b7) (hup b7 S6.out.2))
    clear b7
    obtain ⟨g0, g1, g2, g3, g4⟩ := box5 S7.out.2
    go_wp2_with fail
    refine (KS.out _).mono ?_
    rintro e w8 ⟨rfl, b8⟩
    have B8 := Aside.mk (bel_then S7.out.1 b8)
    clear b8
    go_wp2_with fail
    go_ret
    exact ⟨rfl, B8.out⟩
set_option maxHeartbeats 6400000 in
set_option maxRecDepth 100000 in
theorem pwo_in (w : World) (v : Value) (P : Plan) (p : Nat) (hv : PlanV w v P) (hz : Sz P) (hpn : p < (Plan.parts P).length) : Calls Try.prog 8 #[v, .int .i64 (p : Int)] w fun e w' => e = .returned (.bool true) ∧ Below w.heap.size w w' := by
  have HV := Aside.mk hv
  obtain ⟨a0, c0, a1, c1, a2, c2, a3, c3, rfl, hp, hlen⟩ := hv.open_
  have HC := Aside.mk hp.chans
  obtain ⟨i0, i1⟩ := hp.frame
  have hlenH : (Plan.chans P).length ≤ 9223372036854775807 := (Elems.len hp.chans).choose_spec.choose_spec.2
  obtain ⟨W1, HW⟩ : ∃ W1, Aside (W1 = w.alloc (.cells #[.int .u16 (Plan.frame P), .slice a0 (Plan.cores P).length c0, .slice a1 (Plan.parts P).length c1, .slice a2 (Plan.chans P).length c2, .slice a3 (Plan.pairs P).length c3] 28)) := ⟨_, ⟨rfl⟩⟩
  have hb1 : Aside (Below w.heap.size w W1 ∧ W1.heap[w.heap.size]? = some (.cells #[.int .u16 (Plan.frame P), .slice a0 (Plan.cores P).length c0, .slice a1 (Plan.parts P).length c1, .slice a2 (Plan.chans P).length c2, .slice a3 (Plan.pairs P).length c3] 28 (0, 0))) := ⟨by rw [HW.out]; exact ⟨bel_one _ _, heap_alloc_new _ _⟩⟩
  have K0 := Aside.mk (few_any W1 _ P (HV.out.below hb1.out.1) hz)
  have hq : inB (Plan.parts P).length (p : Int) = true := inB_iff.2 ⟨by omega, by omega⟩
  obtain ⟨LI, hLI⟩ : ∃ LI, intoL (Plan.parts P).length (Plan.chans P) p = LI := ⟨_, rfl⟩
  obtain ⟨G, hG⟩ : ∃ G, ((Plan.chans P).filter fun c => rightB (Plan.parts P).length c && kn LI (ChanR.t c)) = G := ⟨_, rfl⟩
  have HLI : Aside (LI.length = (Plan.parts P).length) := ⟨by rw [← hLI]; exact intoL_len _ _ _⟩
  have KW : Aside (∀ W, Below w.heap.size w W → Few P → Calls Try.prog 24 #[.agg #[.int .u16 (Plan.frame P), .slice a0 (Plan.cores P).length c0, .slice a1 (Plan.parts P).length c1, .slice a2 (Plan.chans P).length c2, .slice a3 (Plan.pairs P).length c3], .int .i64 (p : Int)] W (SomeW W (Plan.withC P G))) := ⟨fun W h hf => by
    rw [← hG, ← hLI]
    exact without_in W _ P p (HV.out.below h) hpn (by have := hf.parts; omega) (by have := hf.chans; omega) (by have := hf.pairs; omega) (by have := hf.cores; omega) (fun L hL => by have := hf.wins L hL; omega) (fun x hx => by have := hf.objs x hx; omega) (by have := hf.parts; omega)⟩
  have KR : Aside (∀ W, Below w.heap.size w W → Few P → Calls Try.prog 13 #[.agg #[.int .u16 (Plan.frame P), .slice a0 (Plan.cores P).length c0, .slice a1 (Plan.parts P).length c1, .slice a2 (Plan.chans P).length c2, .slice a3 (Plan.pairs P).length c3], .int .i64 (p : Int)] W (AnsC W true LI)) := ⟨fun W h hf => by
    have q := rinto_ans W _ P (p : Int) (HV.out.below h) hf
    rw [hq, Int.toNat_natCast, hLI] at q
    exact q⟩
  have KI : Aside (∀ W s, Few P → PlanV W s (Plan.withC P G) → Calls Try.prog 12 #[s, .int .i64 (p : Int)] W (AnsC W true LI)) := ⟨fun W s hf hs => by
    have q := into_ansN W s _ (p : Int) hs (by have := hf.parts; exact (show (Plan.parts P).length ≤ 65535 by omega))
    rw [show Plan.parts (Plan.withC P G) = Plan.parts P from rfl, show Plan.chans (Plan.withC P G) = G from rfl, hq, Int.toNat_natCast, ← hG, ← hLI, without_same, hLI] at q
    exact q⟩
  have KB : Aside (∀ W c, Below w.heap.size w W → ChanR.Ok c → Calls Try.prog 20 #[.agg #[.int .u16 (Plan.frame P), .slice a0 (Plan.cores P).length c0, .slice a1 (Plan.parts P).length c1, .slice a2 (Plan.chans P).length c2, .slice a3 (Plan.pairs P).length c3], ChanR.val c] W fun e w' => e = .returned (.bool (rightB (Plan.parts P).length c)) ∧ Below W.heap.size W w') := ⟨fun W c h ok => rright_any W _ P c ok (HV.out.below h)⟩
  have KS : Aside (∀ W s t, PlanV W s (Plan.withC P G) → PlanV W t (Plan.withC P G) → Calls Try.prog 25 #[s, t] W fun e w' => e = .returned (.bool true) ∧ Below W.heap.size W w') := ⟨fun W s t hs ht => by have := rsame3_any W _ _ _ _ hs ht; rwa [eqB_yes rfl] at this⟩
  have HG : Aside ((Plan.chans P).filter (fun c => rightB (Plan.parts P).length c && kn LI (ChanR.t c)) = G) := ⟨hG⟩
  have HH : Aside (Few P → (Plan.chans P).length ≤ 200) := ⟨fun hf => hf.chans⟩
  obtain ⟨n, hn⟩ : ∃ n, (Plan.parts P).length = n := ⟨_, rfl⟩
  obtain ⟨H, hH⟩ : ∃ H, Plan.chans P = H := ⟨_, rfl⟩
  obtain ⟨fr, hfr⟩ : ∃ fr, Plan.frame P = fr := ⟨_, rfl⟩
  rw [hn] at K0 KW KR HW hb1 HV KB HLI HG
  rw [hH] at K0 KW KR HW hb1 HV KB HG HC HH hlenH
  rw [hfr] at i0 i1 K0 KW KR HW hb1 HV KB
  rw [hn, hH, hfr]
  clear hp hz hv hn hH hfr hq hG hLI hpn
  go_enter Try.func8, Try.ntmps8
  go_wp2_with fail
  rw [← HW.out]
  refine K0.out.mono ?_
  rintro e w2 ⟨b, rfl, hF, b2⟩
  cases b with
  | false =>
    have B2 := Aside.mk (bel_then hb1.out.1 b2)
    clear b2 hF
    go_wp2_with fail
    refine (awake_any _).mono ?_
    rintro e w3 ⟨rfl, b3⟩
    have B3 := Aside.mk (bel_then B2.out b3)
    clear b3
    go_wp2_with fail
    go_ret
    exact ⟨rfl, B3.out⟩
  | true =>
    have F := Aside.mk (hF rfl)
    have hl200 : H.length ≤ 200 := HH.out F.out
    have S2 := Aside.mk (And.intro (bel_then hb1.out.1 b2) (hup b2 hb1.out.2))
    clear b2 hF
    obtain ⟨g0, g1, g2, g3, g4⟩ := box5 S2.out.2
    go_wp2_with fail
    refine (KW.out _ S2.out.1 F.out).mono ?_
    rintro e w3 ⟨vq, rfl, hs, b3⟩
    have HS3 := Aside.mk hs
    obtain ⟨e0, m0, f0, e1, m1, f1, e2, m2, f2, e3, m3, f3, rfl, _⟩ := hs
    obtain ⟨fq, hfq⟩ : ∃ fq, Plan.frame (Plan.withC P G) = fq := ⟨_, rfl⟩
    rw [hfq] at HS3 ⊢
    have S3 := Aside.mk (And.intro (bel_then S2.out.1 b3) (hup b3 S2.out.2))
    clear b3 g0 g1 g2 g3 g4 hfq
    obtain ⟨W4, HW4⟩ : ∃ W4, Aside (W4 = w3.alloc (.cells #[.int .u16 fq, .slice e0 m0 f0, .slice e1 m1 f1, .slice e2 m2 f2, .slice e3 m3 f3] 28)) := ⟨_, ⟨rfl⟩⟩
    have S4 : Aside (∀ W, Below W4.heap.size W4 W → Below w.heap.size w W ∧ W.heap[w.heap.size]? = some (.cells #[.int .u16 fr, .slice a0 (Plan.cores P).length c0, .slice a1 n c1, .slice a2 H.length c2, .slice a3 (Plan.pairs P).length c3] 28 (0, 0)) ∧ W.heap[w3.heap.size]? = some (.cells #[.int .u16 fq, .slice e0 m0 f0, .slice e1 m1 f1, .slice e2 m2 f2, .slice e3 m3 f3] 28 (0, 0)) ∧ PlanV W (.agg #[.int .u16 fq, .slice e0 m0 f0, .slice e1 m1 f1, .slice e2 m2 f2, .slice e3 m3 f3]) (Plan.withC P G) ∧ PlanV W (.agg #[.int .u16 fr, .slice a0 (Plan.cores P).length c0, .slice a1 n c1, .slice a2 H.length c2, .slice a3 (Plan.pairs P).length c3]) P) := ⟨fun W h => by
      have q : Below w3.heap.size w3 W := bel_then (by rw [HW4.out]; exact bel_one _ _) h
      have h4 : W4.heap[w3.heap.size]? = some (.cells #[.int .u16 fq, .slice e0 m0 f0, .slice e1 m1 f1, .slice e2 m2 f2, .slice e3 m3 f3] 28 (0, 0)) := by rw [HW4.out]; exact heap_top _ _ _ rfl
      exact ⟨bel_then S3.out.1 q, hup q S3.out.2, hup h h4, HS3.out.below q, HV.out.below (bel_then S3.out.1 q)⟩⟩
    go_upto_region 4 with (fail)
    rw [← HW4.out]
    obtain ⟨g0, g1, g2, g3, g4⟩ := box5 (S4.out _ (Below.refl _ _)).2.1
    go_wp2_with fail
    refine (KR.out _ (S4.out _ (Below.refl _ _)).1 F.out).mono ?_
    rintro e w5 ⟨vl, rfl, hl, b5⟩
    rw [lsB_true] at hl
    have S5 := Aside.mk (fun W (h : Below w5.heap.size w5 W) => And.intro (S4.out W (bel_then b5 h)) (hl.below h))
    clear b5 hl g0 g1 g2 g3 g4
    simp only [ecB_true]
    go_wp2_with fail
    refine (awake_any _).mono ?_
    rintro e w6 ⟨rfl, b6⟩
    have S6 := Aside.mk (fun W (h : Below w6.heap.size w6 W) => S5.out W (bel_then b6 h))
    clear b6
    obtain ⟨g0, g1, g2, g3, g4⟩ := box5 (S6.out _ (Below.refl _ _)).1.2.1
    obtain ⟨A1, k1, rfl, _⟩ := id (S6.out _ (Below.refl _ _)).2
    obtain ⟨W7, HW7⟩ : ∃ W7, Aside (W7 = w6.alloc (.cells #[.int .u16 fr, .slice a0 (Plan.cores P).length c0, .slice a1 n c1, .slice a2 H.length c2, .slice a3 (Plan.pairs P).length c3] 28)) := ⟨_, ⟨rfl⟩⟩
    have X7 : Aside (W7.heap[w6.heap.size]? = some (.cells #[.int .u16 fr, .slice a0 (Plan.cores P).length c0, .slice a1 n c1, .slice a2 H.length c2, .slice a3 (Plan.pairs P).length c3] 28 (0, 0)) ∧ Below w6.heap.size w6 W7) := ⟨by rw [HW7.out]; exact ⟨heap_top _ _ _ rfl, bel_one _ _⟩⟩
    go_upto_region 8 with (fail)
    rw [← HW7.out]
    clear g0 g1 g2 g3 g4
    obtain ⟨y0, y1, y2, y3, y4, z0, z1, z2, z3, z4⟩ := boxz X7.out.1
    obtain ⟨W8, HW8⟩ : ∃ W8, Aside (W8 = W7.setCell ⟨w6.heap.size, 3, none⟩ (.slice none 0 0)) := ⟨_, ⟨rfl⟩⟩
    have S8 : Aside (Below w6.heap.size w6 W8 ∧ WtSt W8 w6.heap.size (.int .u16 fr) (.slice a0 (Plan.cores P).length c0) (.slice a1 n c1) (.slice a3 (Plan.pairs P).length c3) [] (.slice none 0 0) W8) := ⟨by
      rw [HW8.out]
      exact ⟨X7.out.2.setCell (p := ⟨w6.heap.size, 3, none⟩) (Nat.le_refl _) _, WtSt.start (set3_box X7.out.1)⟩⟩
    go_wp2_with fail
    rw [← HW8.out]
    clear y0 y1 y2 y3 y4 z0 z1 z2 z3 z4
    have SZ : Aside (∀ W G' vc, WtSt W8 w6.heap.size (.int .u16 fr) (.slice a0 (Plan.cores P).length c0) (.slice a1 n c1) (.slice a3 (Plan.pairs P).length c3) G' vc W → Below w6.heap.size w6 W) := ⟨fun W G' vc s => S8.out.1.trans (s.kept.below S8.out.1.size (fun j e => by omega))⟩
    go_loopg [10] H.length (fun g i wr => ∃ k : Nat, k ≤ H.length ∧ g = H.length - k ∧ i = .int .i64 k ∧ Aside (∃ vc, WtSt W8 w6.heap.size (.int .u16 fr) (.slice a0 (Plan.cores P).length c0) (.slice a1 n c1) (.slice a3 (Plan.pairs P).length c3) ((H.take k).filter fun c => rightB n c && kn LI (ChanR.t c)) vc wr))
    case atStart => exact ⟨0, by omega, rfl, rfl, ⟨_, by simpa using S8.out.2⟩⟩
    case round =>
      obtain ⟨k, hk, rfl, rfl, ⟨vc, S⟩⟩ := hrel
      have BW := Aside.mk (SZ.out _ _ _ S)
      have S := Aside.mk S
      obtain ⟨b0, b1, b2, b3, b4⟩ := box5 (S6.out _ BW.out).1.2.1
      by_cases hkl : k < H.length
      · have hl := List.getElem?_eq_getElem hkl
        obtain ⟨c, hc⟩ : ∃ c, H[k] = c := ⟨_, rfl⟩
        rw [hc] at hl
        obtain ⟨ad, rfl, d0, d1, d2, d3, d4, d5, ok⟩ := (HC.out.below (S6.out _ BW.out).1.1).at_ k c hl
        obtain ⟨W9, HW9⟩ : ∃ W9, Aside (W9 = wr.alloc (.cells #[.int .u8 (ChanR.k c), .int .u8 (ChanR.f c), .int .u8 (ChanR.t c), .int .u8 (ChanR.z c), .int .u8 (ChanR.d c), .int .u16 (ChanR.y c)] 44)) := ⟨_, ⟨rfl⟩⟩
        have S9 : Aside (Below wr.heap.size wr W9 ∧ W9.heap[wr.heap.size]? = some (.cells #[.int .u8 (ChanR.k c), .int .u8 (ChanR.f c), .int .u8 (ChanR.t c), .int .u8 (ChanR.z c), .int .u8 (ChanR.d c), .int .u16 (ChanR.y c)] 44 (0, 0))) := ⟨by rw [HW9.out]; exact ⟨bel_one _ _, heap_top _ _ _ rfl⟩⟩
        have KC := Aside.mk (KB.out W9 c (S6.out _ (bel_then BW.out S9.out.1)).1.1 ok)
        obtain ⟨br, hbr⟩ : ∃ br, rightB n c = br := ⟨_, rfl⟩
        obtain ⟨bt, hbt⟩ : ∃ bt, kn LI (ChanR.t c) = bt := ⟨_, rfl⟩
        have HN : Aside ((H.take (k + 1)).filter (fun c => rightB n c && kn LI (ChanR.t c)) = if (br && bt) = true then (H.take k).filter (fun c => rightB n c && kn LI (ChanR.t c)) ++ [c] else (H.take k).filter (fun c => rightB n c && kn LI (ChanR.t c))) := ⟨by rw [filter_next hl, hbr, hbt]⟩
        have HG2 : Aside (((H.take k).filter fun c => rightB n c && kn LI (ChanR.t c)).length ≤ 200) := ⟨Nat.le_trans (List.length_filter_le _ _) (by rw [List.length_take]; omega)⟩
        have HR := Aside.mk (And.intro hbr hbt)
        have OK := Aside.mk ok
        rw [hbr] at KC
        unfold ChanR.val at KC
        clear hl hc ok hbr hbt
        generalize ((H.take k).filter fun c => rightB n c && kn LI (ChanR.t c)) = Gk at *
        go_upto_region 13 with (fail)
        rw [← HW9.out]
        clear b0 b1 b2 b3 b4 d0 d1 d2 d3 d4 d5
        obtain ⟨b0, b1, b2, b3, b4⟩ := box5 (S6.out _ (bel_then BW.out S9.out.1)).1.2.1
        obtain ⟨d0, d1, d2, d3, d4, d5, _⟩ := box6z S9.out.2
        go_wp2_with fail
        refine KC.out.mono ?_
        rintro e w10 ⟨rfl, b10⟩
        have S10 := Aside.mk (And.intro (bel_then S9.out.1 b10) (hup b10 S9.out.2))
        clear b10 b0 b1 b2 b3 b4 d0 d1 d2 d3 d4 d5
        cases br
        · go_wp2_with fail
          go_roundg (H.length - (k + 1))
          case measure => omega
          case rel => exact ⟨k + 1, by omega, rfl, by go_num, ⟨vc, by rw [HN.out]; exact S.out.below S10.out.1⟩⟩
        · obtain ⟨_, h2⟩ := rightB_iff.1 HR.out.1
          obtain ⟨tn, htn⟩ : ∃ tn : Nat, ChanR.t c = (tn : Int) := ⟨_, (Int.toNat_of_nonneg h2.1).symm⟩
          have htl : tn < LI.length := by rw [HLI.out]; omega
          obtain ⟨ad2, rfl, r1⟩ := (S6.out _ (bel_then BW.out S10.out.1)).2.get tn htl
          have hk2 : LI.getD tn false = bt := by rw [← HR.out.2, kn, htn, Int.toNat_natCast]
          rw [hk2] at r1
          have hti : (tn : Int) < (LI.length : Int) := by omega
          have t1 : (tn : Int) ≤ 255 := by rw [← htn]; exact OK.out.t.2
          obtain ⟨d0, d1, d2, d3, d4, d5, _⟩ := box6z S10.out.2
          rw [htn] at d2
          cases bt
          · clear hk2 htl h2 htn
            go_wp2_with fail
            go_roundg (H.length - (k + 1))
            case measure => omega
            case rel => exact ⟨k + 1, by omega, rfl, by go_num, ⟨vc, by rw [HN.out]; exact S.out.below S10.out.1⟩⟩
          · have S11 := Aside.mk (S.out.below S10.out.1)
            obtain ⟨y0, y1, y2, y3, y4, z0, z1, z2, z3, z4⟩ := boxz S11.out.box
            obtain ⟨vA, vn, rfl⟩ := own_len S11.out.row
            have hZ10 : w6.heap.size < w10.heap.size := lt_of_block S11.out.box
            have HT := Aside.mk htn
            clear hk2 htl h2 htn
            go_wp2_with (at_builtin; go_loud (refine append_elem W8.heap.size rfl _ _ 25 44 _ 6 8 rfl Try.underlying25 A_info_chan rfl (by decide) (by decide) (.slice vA Gk.length vn) Gk.length (Gk.flatMap ChanR.vals) [.int .u8 (ChanR.k c), .int .u8 (ChanR.f c), .int .u8 (tn : Int), .int .u8 (ChanR.z c), .int .u8 (ChanR.d c), .int .u16 (ChanR.y c)] rfl rfl rfl (by intro u hu; simp at hu; rcases hu with rfl | rfl | rfl | rfl | rfl | rfl <;> rfl) S11.out.row (Nat.le_trans S.out.kept.size S10.out.1.size) (by have := HG2.out; omega) ?_))
            intro v1 w12 o1 r1' _
            obtain ⟨v1A, v1n, rfl⟩ := own_len o1
            have X12 := ((r1'.block w6.heap.size hZ10 (fun e => own_type S11.out.row S11.out.box (by decide) e.symm rfl)).trans S11.out.box)
            have N12 : Aside (WtSt W8 w6.heap.size (.int .u16 fr) (.slice a0 (Plan.cores P).length c0) (.slice a1 n c1) (.slice a3 (Plan.pairs P).length c3) (Gk ++ [c]) (.slice v1A (Gk.length + 1) v1n) (w12.setCell ⟨w6.heap.size, 3, none⟩ (.slice v1A (Gk.length + 1) v1n))) := ⟨S11.out.push OK.out (Below.refl _ _) (by rw [ChanR.vals, HT.out]; exact o1) r1'⟩
            clear y0 y1 y2 y3 y4 z0 z1 z2 z3 z4
            obtain ⟨y0, y1, y2, y3, y4, z0, z1, z2, z3, z4⟩ := boxz X12
            go_wp2_with fail
            go_roundg (H.length - (k + 1))
            case measure => omega
            case rel => exact ⟨k + 1, by omega, rfl, by go_num, ⟨_, by rw [HN.out]; exact N12.out⟩⟩
      · obtain rfl : k = H.length := by omega
        rw [List.take_length, HG.out] at S
        obtain ⟨y0, y1, y2, y3, y4, _⟩ := boxz S.out.box
        obtain ⟨vA, vn, rfl⟩ := own_len S.out.row
        obtain ⟨e0', e1', e2', e3', e4'⟩ := box5 (S6.out _ BW.out).1.2.2.1
        clear hkl hk
        go_wp2_with fail
        refine (KI.out _ _ F.out (S6.out _ BW.out).1.2.2.2.1).mono ?_
        rintro e w13 ⟨vm, rfl, hm, b13⟩
        rw [lsB_true] at hm
        have S13 := Aside.mk (S.out.below b13)
        have HM := Aside.mk (And.intro hm (bel_then BW.out b13))
        clear b13 hm y0 y1 y2 y3 y4 e0' e1' e2' e3' e4' b0 b1 b2 b3 b4
        simp only [ecB_true]
        obtain ⟨y0, y1, y2, y3, y4, _⟩ := boxz S13.out.box
        obtain ⟨e0', e1', e2', e3', e4'⟩ := box5 (S6.out _ HM.out.2).1.2.2.1
        have KS2 := Aside.mk (KS.out w13 _ _ (S6.out _ HM.out.2).1.2.2.2.1 (planV_withC (S6.out _ HM.out.2).1.2.2.2.2 S13.out.chans ⟨_, _, _, rfl⟩))
        go_wp2_with fail
        refine KS2.out.mono ?_
        rintro e w14 ⟨rfl, b14⟩
        have HM2 := Aside.mk (And.intro ((S6.out _ (bel_then HM.out.2 b14))) (HM.out.1.below b14))
        have KL := Aside.mk (lsame_eq HM2.out.1.2 HM2.out.2)
        clear b14 y0 y1 y2 y3 y4 e0' e1' e2' e3' e4'
        go_wp2_with fail
        refine KL.out.mono ?_
        rintro e w15 ⟨rfl, b15⟩
        have B15 := Aside.mk (bel_then HM2.out.1.1.1 b15)
        clear b15
        go_wp2_with fail
        go_ret
        exact ⟨rfl, B15.out⟩
theorem pwo_any (w : World) (v : Value) (P : Plan) (p : Int) (hv : PlanV w v P) (hz : Sz P) : Calls Try.prog 8 #[v, .int .i64 p] w fun e w' => e = .returned (.bool true) ∧ Below w.heap.size w w' := by
  cases hq : inB (Plan.parts P).length p with
  | false => exact pwo_out w v P p hv hz hq
  | true =>
    obtain ⟨h0, h1⟩ := inB_iff.1 hq
    obtain ⟨k, rfl⟩ := Int.eq_ofNat_of_zero_le h0
    exact pwo_in w v P k hv hz (by omega)
end Go.Proofs.Ytflkfjjfhhapkaa
