/- The law PlanCut. -/
import Derived.Test.YtbphlapdhcgikaaDoorRtA
import Derived.Test.YtbphlapdhcgikaaDoorLxG
namespace Go.Proofs.YtbphlapdhcgikaaDoor
open Go.RowKit
set_option linter.unusedVariables false
set_option linter.unusedSimpArgs false

def zP : Plan := (0, [], [], [], [], ())
theorem zero_plan (w : World) : PlanV w (.agg #[.int .u16 0, .slice none 0 0, .slice none 0 0, .slice none 0 0, .slice none 0 0]) zP :=
  ⟨none, 0, 0, none, 0, 0, none, 0, 0, none, 0, 0, rfl, ⟨⟨Int.le_refl _, by decide⟩, ⟨none, 0, rfl, by decide, by decide, fun h => absurd h (by decide)⟩, ⟨none, 0, rfl, by decide, by decide, fun h => absurd h (by decide)⟩, ⟨none, 0, rfl, by decide, by decide, fun h => absurd h (by decide)⟩, ⟨none, 0, rfl, by decide, by decide, fun h => absurd h (by decide)⟩⟩⟩
theorem zero_eq : eqB zP zP = true := eqB_yes rfl
theorem byteCells_map (s : ByteArray) : byteCells s = (strL s).map (Value.int .u8) := by
  unfold byteCells strL
  rw [List.map_map]
  rfl
theorem strL_nil (s : ByteArray) (h : s.size ≠ 0) : strL s ≠ [] := fun q => h (by rw [← strL_len, q]; rfl)
set_option maxHeartbeats 6400000 in
set_option maxRecDepth 100000 in
theorem pcut_any (w : World) (v : Value) (P : Plan) (x1 : Int) (s : ByteArray) (hg : ETy w) (hv : PlanV w v P) (hz : Sz3 P) (h0 : 0 ≤ x1) (h1 : x1 ≤ 65535) : Calls Tryd.prog 7 #[v, .int .u16 x1, .string s] w fun e w' => e = .returned (.bool true) ∧ Below w.heap.size w w' := by
  have HV := Aside.mk hv
  have HG := Aside.mk hg
  obtain ⟨a0, c0, a1, c1, a2, c2, a3, c3, rfl, hp, hlen⟩ := hv.open_
  obtain ⟨W1, HW⟩ : ∃ W1, Aside (W1 = w.alloc (.cells #[.int .u16 (Plan.frame P), .slice a0 (Plan.cores P).length c0, .slice a1 (Plan.parts P).length c1, .slice a2 (Plan.chans P).length c2, .slice a3 (Plan.pairs P).length c3] 28)) := ⟨_, ⟨rfl⟩⟩
  have B1 : Aside (Below w.heap.size w W1 ∧ W1.heap[w.heap.size]? = some (.cells #[.int .u16 (Plan.frame P), .slice a0 (Plan.cores P).length c0, .slice a1 (Plan.parts P).length c1, .slice a2 (Plan.chans P).length c2, .slice a3 (Plan.pairs P).length c3] 28 (0, 0))) := ⟨by rw [HW.out]; exact ⟨bel_one _ _, heap_alloc_new _ _⟩⟩
  have K0 := Aside.mk (few3_any W1 _ P (HV.out.below B1.out.1) hz)
  obtain ⟨x0, x1', x2, x3, x4⟩ := box5 B1.out.2
  clear hv hg hz hp hlen
  go_enter Tryd.func7, Tryd.ntmps7
  go_upto_region 1 with (fail)
  rw [← HW.out]
  go_wp2_with fail
  refine K0.out.mono ?_
  rintro e w2 ⟨b, rfl, hF, bb⟩
  have B2 := Aside.mk (And.intro (bel_then B1.out.1 bb) (hup bb B1.out.2))
  clear bb x0 x1' x2 x3 x4 K0 hF
  cases b with
  | false =>
    go_wp2_with fail
    refine (awake_any _ (HG.out.below B2.out.1)).mono ?_
    rintro e w3 ⟨rfl, b3⟩
    have B3 := Aside.mk (bel_then B2.out.1 b3)
    clear b3
    go_wp2_with fail
    go_ret
    exact ⟨rfl, B3.out⟩
  | true =>
    by_cases hl : s.size ≤ 1000
    rotate_left
    · have hl' : (1000 : Int) < (s.size : Int) := by omega
      go_wp2_with fail
      refine (awake_any _ (HG.out.below B2.out.1)).mono ?_
      rintro e w3 ⟨rfl, b3⟩
      have B3 := Aside.mk (bel_then B2.out.1 b3)
      clear b3
      go_wp2_with fail
      go_ret
      exact ⟨rfl, B3.out⟩
    have hl' : ¬ (1000 : Int) < (s.size : Int) := by omega
    have KE := Aside.mk (encode_any w2 _ P (HV.out.below B2.out.1))
    obtain ⟨x0, x1', x2, x3, x4⟩ := box5 B2.out.2
    go_wp2_with fail
    refine KE.out.mono ?_
    rintro e w3 ⟨bv, ev, rfl, bb, he, ho, -⟩
    have B3 := Aside.mk (And.intro (bel_then B2.out.1 bb) (hup bb B2.out.2))
    clear bb x0 x1' x2 x3 x4 KE
    rcases errF_two he with ⟨e1, rfl⟩ | ⟨x, e1, f, rfl⟩
    rotate_left
    · have KA : Aside (Calls Tryd.prog 11 #[] w3 fun e w' => e = .returned (.bool true) ∧ Below w3.heap.size w3 w') := ⟨awake_any w3 (HG.out.below B3.out.1)⟩
      clear he ho e1
      go_upto_region 4 with (fail)
      go_wp2_with fail
      refine KA.out.mono ?_
      rintro e w4 ⟨rfl, b4⟩
      have B4 := Aside.mk (bel_then B3.out.1 b4)
      clear b4
      go_wp2_with fail
      refine (awake_any _ (HG.out.below B4.out)).mono ?_
      rintro e w5 ⟨rfl, b5⟩
      have B5 := Aside.mk (bel_then B4.out b5)
      clear b5
      go_wp2_with fail
      go_ret
      exact ⟨rfl, B5.out⟩
    have HD := Aside.mk (planD_of HV.out (short_of e1))
    have HO := ho e1
    have HI := Aside.mk (own_ints HO)
    obtain ⟨hL1, hL2⟩ := enc_len HD.out
    obtain ⟨g, c, rfl, hc1, hc2⟩ : ∃ g c, bv = .slice (some ⟨g, 0, none⟩) (encL P).length c ∧ (encL P).length ≤ c ∧ c ≤ 9223372036854775807 := by
      rcases HO.2 with ⟨_, h⟩ | ⟨g, c, cur, e, hg, hbk, hnc, hcm, _⟩
      · omega
      · exact ⟨g, c, e, hnc, Nat.le_trans hcm (by decide)⟩
    have HR := Aside.mk HO
    clear ho he e1 HO
    obtain ⟨L, hL⟩ : ∃ L, encL P = L := ⟨_, rfl⟩
    have HL := Aside.mk hL
    rw [hL] at hL1 hL2 HR HI hc1 ⊢
    clear hL
    obtain ⟨n, hn⟩ : ∃ n : Nat, n = x1.toNat % L.length := ⟨_, rfl⟩
    have hnl : n < L.length := by rw [hn]; exact Nat.mod_lt _ (by omega)
    have hrem : Int.tmod x1 (L.length : Int) = (n : Int) := by
      rw [hn, Int.tmod_eq_emod_of_nonneg h0, Int.natCast_emod]
      congr 1
      omega
    obtain ⟨p, hp1, hp2, hp3⟩ := cut_plan HD.out n (by rw [HL.out]; exact hnl)
    have HP1 := Aside.mk hp1
    clear hn hp1
    have KA : Aside (Calls Tryd.prog 11 #[] w3 fun e w' => e = .returned (.bool true) ∧ Below w3.heap.size w3 w') := ⟨awake_any w3 (HG.out.below B3.out.1)⟩
    go_upto_region 4 with (fail)
    go_wp2_with fail
    refine KA.out.mono ?_
    rintro e w4 ⟨rfl, b4⟩
    have B4 := Aside.mk (And.intro (bel_then B3.out.1 b4) (hup b4 B3.out.2))
    have HB4 := Aside.mk b4
    clear b4
    have KD : Aside (Calls Tryd.prog 15 #[.slice (some ⟨g, 0, none⟩) n c] w4 (DecP w4 (L.take n))) := ⟨by
      have hb := enc_byte HD.out
      rw [HL.out] at hb
      have hI := (HI.out.below HB4.out).sub (c' := c) 0 n (by omega)
      refine decode_any w4 _ (L.take n) (fun x hx => hb x (List.mem_of_mem_take hx)) (by simpa [Addr.add] using hI) (by rw [List.length_take]; omega)⟩
    have HI4 := Aside.mk (HI.out.below HB4.out)
    rw [HL.out] at HP1
    go_upto_region 7 with (fail)
    go_wp2_with fail
    refine KD.out.mono ?_
    rintro e w5 ⟨pv, ev, rfl, b5, he, -, hp⟩
    rw [HP1.out] at he hp
    obtain rfl : pv = .agg #[.int .u16 0, .slice none 0 0, .slice none 0 0, .slice none 0 0, .slice none 0 0] := hp (by simp)
    have HE := Aside.mk he
    have B5 := Aside.mk (bel_then B4.out.1 b5)
    have HI5 := Aside.mk (HI4.out.below b5)
    clear b5 he hp KD KA HI
    obtain ⟨w6, HW6⟩ : ∃ w6, Aside (w6 = w5.alloc (.cells #[.int .u16 0, .slice none 0 0, .slice none 0 0, .slice none 0 0, .slice none 0 0] 28)) := ⟨_, ⟨rfl⟩⟩
    have b6 : Below w5.heap.size w5 w6 := by rw [HW6.out]; exact bel_one _ _
    have H6 : Aside (w6.heap[w5.heap.size]? = some (.cells #[.int .u16 0, .slice none 0 0, .slice none 0 0, .slice none 0 0, .slice none 0 0] 28 (0, 0))) := ⟨by rw [HW6.out]; exact heap_alloc_new _ _⟩
    have B6 := Aside.mk (bel_then B5.out b6)
    have HI6 := Aside.mk (HI5.out.below b6)
    have KW : Aside (Calls Tryd.prog 14 #[ev] w6 (WhyP w6 20 p)) := ⟨why_any w6 _ ev (HE.out.below b6) (HG.out.below B6.out)⟩
    clear b6
    go_upto_region 8 with (fail)
    rw [← HW6.out]
    go_wp2_with fail
    refine KW.out.mono ?_
    rintro e w7 ⟨rfl, b7⟩
    have B7 := Aside.mk (bel_then B6.out b7)
    have H7 := Aside.mk (hup b7 H6.out)
    have HI7 := Aside.mk (HI6.out.below b7)
    clear b7 KW
    have E7 : Aside (EncSt w7 (.slice (some ⟨w7.heap.size, 0, none⟩) 0 0) [] (w7.alloc (.cells #[] 5))) := ⟨⟨⟨by simp, .inr ⟨_, 0, #[], rfl, Nat.le_refl _, heap_alloc_new _ _, Nat.le_refl _, by decide, by simp, by simp⟩⟩, bel_one _ _⟩⟩
    have HN : Aside (∀ j u, (L.map (Value.int .u8))[j]? = some u → (w7.alloc (.cells #[] 5)).cell? ((⟨g, 0, none⟩ : Addr).add j) = some u) := ⟨fun j u hu => by
      obtain ⟨A', c', e, _, hd⟩ := HI7.out.below (bel_one w7 (.cells #[] 5))
      cases e
      obtain ⟨ad, e2, hd⟩ := hd (by omega)
      cases e2
      have hj : j < L.length := by
        obtain ⟨h, _⟩ := List.getElem?_eq_some_iff.1 hu
        simpa using h
      have h2 := hd j hj
      rw [List.getElem?_map, List.getElem?_eq_getElem hj] at hu
      rw [h2, ← Option.some.inj hu, List.getD_eq_getElem?_getD, List.getElem?_eq_getElem hj]
      rfl⟩
    go_upto_region 9 with (fail)
    go_wp2_with (at_builtin; go_loud (refine append_some (W1 := w7) rfl _ _ rfl (.slice (some ⟨w7.heap.size, 0, none⟩) 0 0) [] L (some ⟨g, 0, none⟩) L.length c rfl rfl E7.out rfl (fun _ => ⟨_, rfl, HN.out⟩) (by simp; omega) ?_))
    intro v8 w8 e8 k8
    have E8 : Aside (EncSt w7 v8 L w8) := ⟨by simpa using e8⟩
    have H8 := Aside.mk (k8 _ _ _ _ (heap_up H7.out) (by decide))
    obtain ⟨A8, c8, rfl⟩ := own_len E8.out.own
    clear e8 k8 E7 HN
    go_wp2_with (at_builtin; go_loud (refine Bl.append_str w7.heap.size rfl _ _ 31 9 5 (.int .u8 0) rfl Tryd.underlying31 A_str Bl.A_info_u8 rfl (.slice A8 L.length c8) L.length (L.map (Value.int .u8)) s rfl rfl E8.out.own (by omega) E8.out.bel.size ?_))
    intro v9 w9 o9 g9
    rw [byteCells_map, ← List.map_append] at o9
    have H9 := Aside.mk ((Bl.grown_kept g9).heap H8.out (fun e => own_type E8.out.own H8.out (by decide) e rfl))
    have B9 := Aside.mk (bel_then B7.out (Below.grown E8.out.bel g9 E8.out.bel.size (fun j hj => own_base E8.out.own j hj)))
    obtain ⟨A9, c9, rfl⟩ := own_len o9
    have hSl : (L ++ strL s).length = L.length + s.size := by rw [List.length_append, strL_len]
    have KD : Aside (Calls Tryd.prog 15 #[.slice A9 (L.length + s.size) c9] w9 (DecP w9 (L ++ strL s))) := ⟨by
      have hb := enc_byte HD.out
      rw [HL.out] at hb
      refine decode_any w9 _ (L ++ strL s) (fun x hx => ?_) (own_ints o9) (by rw [hSl]; omega)
      rcases List.mem_append.1 hx with h | h
      · exact hb x h
      · exact strL_byte s x h⟩
    clear o9 g9 hSl
    go_wp2_with fail
    refine KD.out.mono ?_
    rintro e w10 ⟨pv, fv, rfl, b10, he, hp, hq⟩
    obtain ⟨f, i0, n0, j0, i1, n1, j1, i2, n2, j2, i3, n3, j3, rfl⟩ := decV_open hp hq
    obtain ⟨q, hq'⟩ : ∃ q, decF (L ++ strL s) = q := ⟨_, rfl⟩
    have HQ := Aside.mk hq'
    rw [hq'] at he
    have HE := Aside.mk he
    have B10 := Aside.mk (bel_then B9.out b10)
    have H10 := Aside.mk (hup b10 H9.out)
    clear hp hq hq' he b10 KD
    obtain ⟨w11, HW11⟩ : ∃ w11, Aside (w11 = w10.alloc (.cells #[.int .u16 f, .slice i0 n0 j0, .slice i1 n1 j1, .slice i2 n2 j2, .slice i3 n3 j3] 28)) := ⟨_, ⟨rfl⟩⟩
    have b11 : Below w10.heap.size w10 w11 := by rw [HW11.out]; exact bel_one _ _
    have B11 := Aside.mk (bel_then B10.out b11)
    have H11 := Aside.mk (hup b11 H10.out)
    have HE11 := Aside.mk (HE.out.below b11)
    have KW := Aside.mk (why_any w11 q fv HE11.out (HG.out.below B11.out))
    clear b11
    go_upto_region 10 with (fail)
    rw [← HW11.out]
    go_wp2_with fail
    refine KW.out.mono ?_
    rintro e w12 ⟨rfl, b12⟩
    have B12 := Aside.mk (bel_then B11.out b12)
    have H12 := Aside.mk (hup b12 H11.out)
    have KS : Aside (Calls Tryd.prog 17 #[.agg #[.int .u16 0, .slice none 0 0, .slice none 0 0, .slice none 0 0, .slice none 0 0], .agg #[.int .u16 0, .slice none 0 0, .slice none 0 0, .slice none 0 0, .slice none 0 0]] w12 fun e w' => e = .returned (.bool true) ∧ Below w12.heap.size w12 w') := ⟨(rsame3_any w12 _ _ zP zP (zero_plan _) (zero_plan _)).mono fun e w' q => by
      obtain ⟨q1, q2⟩ := q
      rw [zero_eq] at q1
      exact ⟨q1, q2⟩⟩
    clear b12 KW
    obtain ⟨x0, x1', x2, x3, x4⟩ := box5 H12.out
    have f1 : ¬ (n : Int) < (p : Int) := by omega
    have f2 : IntKind.i64.wrap ((n : Int) - 3) = (n : Int) - 3 := by rw [IntKind.wrap_i64]; omega
    have f3 : ¬ (p : Int) < (n : Int) - 3 := by omega
    go_upto_region 11 with (fail)
    go_wp2_with fail
    refine KS.out.mono ?_
    rintro e w13 ⟨rfl, b13⟩
    have B13 := Aside.mk (bel_then B12.out b13)
    clear b13 KS x0 x1' x2 x3 x4
    by_cases hs0 : s.size = 0
    · have hse : s.toList = [] := by rw [ByteArray.toList_eq]; exact List.eq_nil_of_length_eq_zero (by simpa using hs0)
      have hL0 : strL s = [] := List.length_eq_zero_iff.1 (by rw [strL_len]; exact hs0)
      have hq : q = none := by
        rw [← HQ.out, hL0, List.append_nil, ← HL.out]
        exact (back_plan HD.out).1
      subst hq
      obtain rfl : fv = .nilIface := HE11.out
      go_wp2_with fail
      go_ret
      exact ⟨rfl, B13.out⟩
    · have hse : s.toList ≠ [] := by
        rw [ByteArray.toList_eq]
        intro h
        exact hs0 (by have := congrArg List.length h; simpa using this)
      have hq : q = some (21, (L.length : Int)) := by
        rw [← HQ.out, ← HL.out]
        exact more_plan HD.out (strL_nil s hs0)
      subst hq
      have hse' : (s.toList == []) = false := by simpa using hse
      have hat : atQ (some (21, (L.length : Int))) = (L.length : Int) := rfl
      go_wp2_with fail
      go_ret
      exact ⟨rfl, B13.out⟩
end Go.Proofs.YtbphlapdhcgikaaDoor
