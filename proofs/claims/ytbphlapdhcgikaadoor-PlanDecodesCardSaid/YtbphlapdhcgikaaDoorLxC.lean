/- Layer 3's laws: strings and their bytes, and awake. -/
import Derived.Test.YtbphlapdhcgikaaDoorLxB
import Derived.Test.YtbphlapdhcgikaaDoorSamC
import Derived.Lib.SlBytesConst
namespace Go.Proofs.YtbphlapdhcgikaaDoor
open Go.RowKit
set_option linter.unusedVariables false
set_option linter.unusedSimpArgs false

def strL (s : ByteArray) : List Int := s.data.toList.map fun b => (b.toNat : Int)
theorem strL_len (s : ByteArray) : (strL s).length = s.size := by simp [strL]
theorem strL_byte (s : ByteArray) : ∀ x ∈ strL s, 0 ≤ x ∧ x ≤ 255 := by
  intro x hx
  obtain ⟨b, _, rfl⟩ := List.mem_map.1 hx
  have := b.toNat_lt
  omega
theorem nums_str (s : ByteArray) : strOfNums (strL s) = s := by
  unfold strOfNums strL
  rw [List.map_map]
  have : ((fun n : Int => UInt8.ofNat n.toNat) ∘ fun b : UInt8 => (b.toNat : Int)) = id := by
    funext b; simp
  rw [this, List.map_id]
theorem A_str : Tryd.prog.underlying 9 = some .string := by kernel_rfl
theorem A_u8s : Tryd.prog.underlying 31 = some (.slice 5) := by kernel_rfl
theorem A_u8 : Tryd.prog.underlying 5 = some (.int .u8) := by kernel_rfl
/-- What '[]byte(s)' lays, and how it reads. -/
theorem bytes_of (w : World) (s : ByteArray) : ∃ c W, (convert 9 31 (.string s)).run Tryd.prog w = .ok (.slice (some ⟨w.heap.size, 0, none⟩) s.size c) W ∧ Below w.heap.size w W ∧ (∃ X, W.heap[w.heap.size]? = some (.cells ((strL s).map (Value.int .u8) ++ X).toArray 5 (((strL s).map (Value.int .u8) ++ X).length, ((strL s).map (Value.int .u8) ++ X).length + 1))) ∧ s.size ≤ c := by
  refine ⟨_, _, run_bytes_of_string w 9 31 5 s A_str A_u8s A_u8, ((Below.refl _ _).drew).alloc (Nat.le_refl _) _, ⟨List.replicate (grownCap w s.size 0 5 - s.size) (Value.int .u8 0), ?_⟩, grownCap_ge _ _ _ _⟩
  have h := heap_alloc_new w.drew (.cells (bytesRow s (grownCap w s.size 0 5)) 5 ((bytesRow s (grownCap w s.size 0 5)).size, (bytesRow s (grownCap w s.size 0 5)).size + 1))
  have e : bytesRow s (grownCap w s.size 0 5) = ((strL s).map (Value.int .u8) ++ List.replicate (grownCap w s.size 0 5 - s.size) (Value.int .u8 0)).toArray := by
    unfold bytesRow strL
    apply Array.ext'
    simp [Function.comp_def]
  rw [e] at h ⊢
  simpa using h
theorem ints_of_blk {W : World} {B : Nat} {L : List Int} {X : List Value} {t : TypeId} {fr : Nat × Nat} {c : Nat} (h : W.heap[B]? = some (.cells (L.map (Value.int .u8) ++ X).toArray t fr)) (hl : L.length ≤ 9223372036854775807) : Ints W .u8 (.slice (some ⟨B, 0, none⟩) L.length c) L := by
  refine ⟨_, c, rfl, hl, fun _ => ⟨_, rfl, fun j hj => ?_⟩⟩
  rw [show (⟨B, 0, none⟩ : Addr).add j = ⟨B, j, none⟩ from by by_cases h : j = 0 <;> simp [Addr.add, h]]
  simp [World.cell?, h, List.getElem?_append_left, hj, List.getD_eq_getElem?_getD]
def exS : List Int := [80, 85, 82, 49, 0, 10, 1, 1, 0, 0, 0, 1, 0, 0, 0, 10, 0, 0, 0, 0, 0, 0, 0, 0]
def exT : List Int := exS ++ [120]
theorem exS_dec : decF exS = none ∧ decV exS = leastP := ⟨by kernel_rfl, by kernel_rfl⟩
theorem exS_cut : decF (exS.take 12) = some (20, 12) := by kernel_rfl
theorem exT_dec : decF exT = some (21, 24) := by kernel_rfl
theorem least_enc : encL leastP = exS ∧ whyF leastP = none := ⟨by kernel_rfl, by kernel_rfl⟩
theorem least_eq : eqB leastP leastP = true := by simp [eqB]
theorem lit_ints (w : World) (L : List Int) (n : Nat) (C : Array Value) (fr : Nat × Nat) (hC : C = (L.map (Value.int .u8)).toArray) (hn : n = L.length) (hl : L.length ≤ 1000) : Ints (w.alloc (.cells C 5 fr)) .u8 (.slice (some ⟨w.heap.size, 0, none⟩) n n) L := by
  subst hC hn
  exact ints_of_blk (X := []) (by simpa using heap_alloc_new w (.cells (L.map (Value.int .u8)).toArray 5 fr)) (by omega)
theorem cut12 : (ByteArray.mk #[80, 85, 82, 49, 0, 10, 1, 1, 0, 0, 0, 1, 0, 0, 0, 10, 0, 0, 0, 0, 0, 0, 0, 0]).extract 0 12 = ByteArray.mk #[80, 85, 82, 49, 0, 10, 1, 1, 0, 0, 0, 1] := by kernel_rfl
theorem exS_str : strOfNums exS = ByteArray.mk #[80, 85, 82, 49, 0, 10, 1, 1, 0, 0, 0, 1, 0, 0, 0, 10, 0, 0, 0, 0, 0, 0, 0, 0] := by kernel_rfl
theorem exS_byte : ∀ x ∈ exS, 0 ≤ x ∧ x ≤ 255 := by decide
theorem exT_byte : ∀ x ∈ exT, 0 ≤ x ∧ x ≤ 255 := by decide
theorem exC_byte : ∀ x ∈ exS.take 12, 0 ≤ x ∧ x ≤ 255 := by decide
theorem leastV {w : World} {v : Value} (h : PlanV w v leastP) : ∃ a0 c0 a1 c1 a2 c2 a3 c3, v = .agg #[.int .u16 10, .slice a0 1 c0, .slice a1 1 c1, .slice a2 0 c2, .slice a3 0 c3] := by
  obtain ⟨a0, c0, a1, c1, a2, c2, a3, c3, rfl, _⟩ := h.open_
  exact ⟨_, _, _, _, _, _, _, _, rfl⟩
set_option maxHeartbeats 6400000 in
set_option maxRecDepth 100000 in
theorem awake_any (w : World) (hg : ETy w) : Calls Tryd.prog 11 #[] w fun e w' => e = .returned (.bool true) ∧ Below w.heap.size w w' := by
  have HG := Aside.mk hg
  clear hg
  go_enter Tryd.func11, Tryd.ntmps11
  go_wp2_with fail
  refine (least_any w).mono ?_
  rintro e w1 ⟨v, rfl, hp, b1⟩
  have KE := Aside.mk (encode_any w1 v _ hp)
  clear hp
  have B1 := Aside.mk b1
  clear b1
  go_wp2_with fail
  refine KE.out.mono ?_
  rintro e w2 ⟨bv, ev, rfl, b2, he, ho, _⟩
  rw [least_enc.2] at he
  obtain rfl : ev = .nilIface := he
  have HO := ho least_enc.2
  rw [least_enc.1] at HO
  have HI := Aside.mk (own_ints HO)
  have B2 := Aside.mk (bel_then B1.out b2)
  clear ho HO b2 KE
  obtain ⟨W3, HW3⟩ : ∃ W3, Aside (W3 = w2.alloc (.cells #[.int .u8 80, .int .u8 85, .int .u8 82, .int .u8 49, .int .u8 0, .int .u8 10, .int .u8 1, .int .u8 1, .int .u8 0, .int .u8 0, .int .u8 0, .int .u8 1, .int .u8 0, .int .u8 0, .int .u8 0, .int .u8 10, .int .u8 0, .int .u8 0, .int .u8 0, .int .u8 0, .int .u8 0, .int .u8 0, .int .u8 0, .int .u8 0] 5 (24, 25))) := ⟨_, ⟨rfl⟩⟩
  have cs : (convert 31 31 (.slice (some ⟨w2.heap.size, 0, none⟩) 24 24)).run Tryd.prog (w2.alloc (.cells #[.int .u8 80, .int .u8 85, .int .u8 82, .int .u8 49, .int .u8 0, .int .u8 10, .int .u8 1, .int .u8 1, .int .u8 0, .int .u8 0, .int .u8 0, .int .u8 1, .int .u8 0, .int .u8 0, .int .u8 0, .int .u8 10, .int .u8 0, .int .u8 0, .int .u8 0, .int .u8 0, .int .u8 0, .int .u8 0, .int .u8 0, .int .u8 0] 5)) = .ok (.slice (some ⟨w2.heap.size, 0, none⟩) 24 24) W3 := by
    rw [HW3.out]
    exact Go.Lib.run_convert_bytes_const (P := Tryd.prog) w2 31 5 #[.int .u8 80, .int .u8 85, .int .u8 82, .int .u8 49, .int .u8 0, .int .u8 10, .int .u8 1, .int .u8 1, .int .u8 0, .int .u8 0, .int .u8 0, .int .u8 1, .int .u8 0, .int .u8 0, .int .u8 0, .int .u8 10, .int .u8 0, .int .u8 0, .int .u8 0, .int .u8 0, .int .u8 0, .int .u8 0, .int .u8 0, .int .u8 0] 24 24 Tryd.underlying31 Tryd.underlying5
  have B3 : Aside (Below w.heap.size w W3) := ⟨by rw [HW3.out]; exact bel_then B2.out (bel_one _ _)⟩
  have KD : Aside (Calls Tryd.prog 15 #[.slice (some ⟨w2.heap.size, 0, none⟩) 24 24] W3 (DecP W3 exS)) := ⟨decode_any W3 _ exS exS_byte (by rw [HW3.out]; exact lit_ints w2 exS 24 _ _ rfl rfl (by decide)) (by decide)⟩
  go_wp2_with fail
  refine KD.out.mono ?_
  rintro e w4 ⟨pv, ev, rfl, b4, he, hp, _⟩
  rw [exS_dec.1] at he
  obtain rfl : ev = .nilIface := he
  have hp := hp exS_dec.1
  rw [exS_dec.2] at hp
  have HP := Aside.mk hp
  obtain ⟨a0, c0, a1, c1, a2, c2, a3, c3, rfl⟩ := leastV hp
  have B4 := Aside.mk (bel_then B3.out b4)
  have C4 : Aside (Below w2.heap.size w2 w4) := ⟨bel_then (by rw [HW3.out]; exact bel_one _ _) b4⟩
  clear hp b4 KD cs
  obtain ⟨W5, HW5⟩ : ∃ W5, Aside (W5 = w4.alloc (.cells #[.int .u16 10, .slice a0 1 c0, .slice a1 1 c1, .slice a2 0 c2, .slice a3 0 c3] 28)) := ⟨_, ⟨rfl⟩⟩
  have C5 : Aside (Below w4.heap.size w4 W5 ∧ Below w2.heap.size w2 W5) := ⟨by rw [HW5.out]; exact ⟨bel_one _ _, bel_then C4.out (bel_one _ _)⟩⟩
  have B5 : Aside (Below w.heap.size w W5) := ⟨by rw [HW5.out]; exact bel_then B4.out (bel_one w4 _)⟩
  have H5 : Aside (W5.heap[w4.heap.size]? = some (.cells #[.int .u16 10, .slice a0 1 c0, .slice a1 1 c1, .slice a2 0 c2, .slice a3 0 c3] 28 (0, 0))) := ⟨by rw [HW5.out]; exact heap_alloc_new _ _⟩
  obtain ⟨q, W6, cs, b6, ⟨X, h6⟩, hq⟩ := bytes_of W5 (ByteArray.mk #[80, 85, 82, 49, 0, 10, 1, 1, 0, 0, 0, 1])
  have cs := cs
  rw [← cut12] at cs
  have KD : Aside (Calls Tryd.prog 15 #[.slice (some ⟨W5.heap.size, 0, none⟩) 12 q] W6 (DecP W6 (exS.take 12))) := ⟨decode_any W6 _ _ exC_byte (ints_of_blk (X := X) (L := exS.take 12) h6 (by decide)) (by decide)⟩
  have B6 := Aside.mk (bel_then B5.out b6)
  have C6 := Aside.mk (And.intro (bel_then C5.out.1 b6) (bel_then C5.out.2 b6))
  have H6 := Aside.mk (hup b6 H5.out)
  clear b6 h6 hq
  change (convert 9 31 (.string ((ByteArray.mk #[80, 85, 82, 49, 0, 10, 1, 1, 0, 0, 0, 1, 0, 0, 0, 10, 0, 0, 0, 0, 0, 0, 0, 0]).extract 0 12))).run Tryd.prog W5 = .ok (.slice (some ⟨W5.heap.size, 0, none⟩) 12 q) W6 at cs
  go_upto_region 3 with (fail)
  rw [← HW5.out]
  go_wp2_with fail
  refine KD.out.mono ?_
  rintro e w7 ⟨pv, ev, rfl, b7, he, _, hp⟩
  obtain rfl : pv = .agg #[.int .u16 0, .slice none 0 0, .slice none 0 0, .slice none 0 0, .slice none 0 0] := hp (by rw [exS_cut]; simp)
  rw [exS_cut] at he
  have HE := Aside.mk he
  have B7 := Aside.mk (bel_then B6.out b7)
  have C7 := Aside.mk (And.intro (bel_then C6.out.1 b7) (bel_then C6.out.2 b7))
  have H7 := Aside.mk (hup b7 H6.out)
  clear b7 he hp KD cs
  obtain ⟨W8, HW8⟩ : ∃ W8, Aside (W8 = w7.alloc (.cells #[.int .u16 0, .slice none 0 0, .slice none 0 0, .slice none 0 0, .slice none 0 0] 28)) := ⟨_, ⟨rfl⟩⟩
  obtain ⟨W9, HW9⟩ : ∃ W9, Aside (W9 = W8.alloc (.cells #[.int .u8 80, .int .u8 85, .int .u8 82, .int .u8 49, .int .u8 0, .int .u8 10, .int .u8 1, .int .u8 1, .int .u8 0, .int .u8 0, .int .u8 0, .int .u8 1, .int .u8 0, .int .u8 0, .int .u8 0, .int .u8 10, .int .u8 0, .int .u8 0, .int .u8 0, .int .u8 0, .int .u8 0, .int .u8 0, .int .u8 0, .int .u8 0, .int .u8 120] 5 (25, 26))) := ⟨_, ⟨rfl⟩⟩
  have cs : (convert 31 31 (.slice (some ⟨W8.heap.size, 0, none⟩) 25 25)).run Tryd.prog (W8.alloc (.cells #[.int .u8 80, .int .u8 85, .int .u8 82, .int .u8 49, .int .u8 0, .int .u8 10, .int .u8 1, .int .u8 1, .int .u8 0, .int .u8 0, .int .u8 0, .int .u8 1, .int .u8 0, .int .u8 0, .int .u8 0, .int .u8 10, .int .u8 0, .int .u8 0, .int .u8 0, .int .u8 0, .int .u8 0, .int .u8 0, .int .u8 0, .int .u8 0, .int .u8 120] 5)) = .ok (.slice (some ⟨W8.heap.size, 0, none⟩) 25 25) W9 := by
    rw [HW9.out]
    exact Go.Lib.run_convert_bytes_const (P := Tryd.prog) W8 31 5 #[.int .u8 80, .int .u8 85, .int .u8 82, .int .u8 49, .int .u8 0, .int .u8 10, .int .u8 1, .int .u8 1, .int .u8 0, .int .u8 0, .int .u8 0, .int .u8 1, .int .u8 0, .int .u8 0, .int .u8 0, .int .u8 10, .int .u8 0, .int .u8 0, .int .u8 0, .int .u8 0, .int .u8 0, .int .u8 0, .int .u8 0, .int .u8 0, .int .u8 120] 25 25 Tryd.underlying31 Tryd.underlying5
  have b9 : Below w7.heap.size w7 W9 := by rw [HW9.out]; exact bel_then (by rw [HW8.out]; exact bel_one _ _) (bel_one _ _)
  have KD : Aside (Calls Tryd.prog 15 #[.slice (some ⟨W8.heap.size, 0, none⟩) 25 25] W9 (DecP W9 exT)) := ⟨decode_any W9 _ exT exT_byte (by rw [HW9.out]; exact lit_ints W8 exT 25 _ _ rfl rfl (by decide)) (by decide)⟩
  have B9 := Aside.mk (bel_then B7.out b9)
  have C9 := Aside.mk (And.intro (bel_then C7.out.1 b9) (bel_then C7.out.2 b9))
  have H9 := Aside.mk (hup b9 H7.out)
  have HE9 := Aside.mk (HE.out.below b9)
  clear b9
  go_upto_region 4 with (fail)
  rw [← HW8.out]
  go_wp2_with fail
  refine KD.out.mono ?_
  rintro e w10 ⟨pv, fv, rfl, b10, he, _, hp⟩
  obtain rfl : pv = .agg #[.int .u16 0, .slice none 0 0, .slice none 0 0, .slice none 0 0, .slice none 0 0] := hp (by rw [exT_dec]; simp)
  rw [exT_dec] at he
  have HF := Aside.mk he
  have B10 := Aside.mk (bel_then B9.out b10)
  have C10 := Aside.mk (And.intro (bel_then C9.out.1 b10) (bel_then C9.out.2 b10))
  have H10 := Aside.mk (hup b10 H9.out)
  have HE10 := Aside.mk (HE9.out.below b10)
  clear b10 he hp KD cs
  obtain ⟨W11, HW11⟩ : ∃ W11, Aside (W11 = w10.alloc (.cells #[.int .u16 0, .slice none 0 0, .slice none 0 0, .slice none 0 0, .slice none 0 0] 28)) := ⟨_, ⟨rfl⟩⟩
  have b11 : Below w10.heap.size w10 W11 := by rw [HW11.out]; exact bel_one _ _
  have B11 := Aside.mk (bel_then B10.out b11)
  have C11 := Aside.mk (And.intro (bel_then C10.out.1 b11) (bel_then C10.out.2 b11))
  have H11 := Aside.mk (hup b11 H10.out)
  have HF11 := Aside.mk (HF.out.below b11)
  have KW : Aside (Calls Tryd.prog 14 #[ev] W11 (WhyP W11 20 12)) := ⟨why_any W11 _ ev (HE10.out.below b11) (HG.out.below B11.out)⟩
  clear b11
  go_upto_region 5 with (fail)
  rw [← HW11.out]
  go_wp2_with fail
  refine KW.out.mono ?_
  rintro e w12 ⟨rfl, b12⟩
  have B12 := Aside.mk (bel_then B11.out b12)
  have C12 := Aside.mk (And.intro (bel_then C11.out.1 b12) (bel_then C11.out.2 b12))
  have H12 := Aside.mk (hup b12 H11.out)
  have KV : Aside (Calls Tryd.prog 14 #[fv] w12 (WhyP w12 21 24)) := ⟨why_any w12 _ fv (HF11.out.below b12) (HG.out.below B12.out)⟩
  clear b12 KW
  go_wp2_with fail
  refine KV.out.mono ?_
  rintro e w13 ⟨rfl, b13⟩
  have B13 := Aside.mk (bel_then B12.out b13)
  have C13 := Aside.mk (And.intro (bel_then C12.out.1 b13) (bel_then C12.out.2 b13))
  have H13 := Aside.mk (hup b13 H12.out)
  clear b13 KV
  have HP13 := Aside.mk (HP.out.below C13.out.1)
  have HI13 := Aside.mk (HI.out.below C13.out.2)
  obtain ⟨A, c, rfl, _⟩ := HI13.out
  have SW : Aside (∀ w', Below w13.heap.size w13 w' → w'.cell? ⟨w4.heap.size, 0, none⟩ = some (.int .u16 10) ∧ w'.cell? ⟨w4.heap.size, 1, none⟩ = some (.slice a0 1 c0) ∧ w'.cell? ⟨w4.heap.size, 2, none⟩ = some (.slice a1 1 c1) ∧ w'.cell? ⟨w4.heap.size, 3, none⟩ = some (.slice a2 0 c2) ∧ w'.cell? ⟨w4.heap.size, 4, none⟩ = some (.slice a3 0 c3) ∧ (convert 31 9 (.slice A exS.length c)).run Tryd.prog w' = .ok (.string (ByteArray.mk #[80, 85, 82, 49, 0, 10, 1, 1, 0, 0, 0, 1, 0, 0, 0, 10, 0, 0, 0, 0, 0, 0, 0, 0])) w') := ⟨fun w' b => by
    have h := Bl.conv_ints (HI13.out.below b)
    rw [exS_str] at h
    obtain ⟨q0, q1, q2, q3, q4⟩ := box5 (hup b H13.out)
    exact ⟨q0, q1, q2, q3, q4, h⟩⟩
  have SR := Aside.mk (Below.refl w13.heap.size w13)
  have K1 : Aside (Calls Tryd.prog 20 #[] w13.drew fun e w' => ∃ v, e = .returned v ∧ PlanV w' v leastP ∧ Below w13.heap.size w13 w') := ⟨(least_any _).mono fun e w' h => by
    obtain ⟨v, e1, h1, h2⟩ := h
    exact ⟨v, e1, h1, bel_then (below_drewN w13 1) h2⟩⟩
  have K2 : Aside (∀ W v n, PlanV W v leastP → Below w13.heap.size w13 W → Calls Tryd.prog 19 #[.agg #[.int .u16 10, .slice a0 1 c0, .slice a1 1 c1, .slice a2 0 c2, .slice a3 0 c3], v] (W.drewN n) fun e w' => e = .returned (.bool true) ∧ Below w13.heap.size w13 w') := ⟨fun W v n h1 h2 => (same_any _ _ _ leastP leastP (HP13.out.below (bel_then h2 (below_drewN _ _))) (h1.below (below_drewN _ _))).mono fun e w' h => by
    obtain ⟨e1, h3⟩ := h
    rw [least_eq] at e1
    exact ⟨e1, bel_then (bel_then h2 (below_drewN _ _)) h3⟩⟩
  have K20 : Aside (∀ W v, PlanV W v leastP → Below w13.heap.size w13 W → Calls Tryd.prog 19 #[.agg #[.int .u16 10, .slice a0 1 c0, .slice a1 1 c1, .slice a2 0 c2, .slice a3 0 c3], v] W fun e w' => e = .returned (.bool true) ∧ Below w13.heap.size w13 w') := ⟨fun W v => K2.out W v 0⟩
  have K21 : Aside (∀ W v, PlanV W v leastP → Below w13.heap.size w13 W → Calls Tryd.prog 19 #[.agg #[.int .u16 10, .slice a0 1 c0, .slice a1 1 c1, .slice a2 0 c2, .slice a3 0 c3], v] W.drew fun e w' => e = .returned (.bool true) ∧ Below w13.heap.size w13 w') := ⟨fun W v => K2.out W v 1⟩
  obtain ⟨p0, p1, p2, p3, p4⟩ := box5 H13.out
  have L13 : w4.heap.size < w13.heap.size := lt_of_block H13.out
  go_upto_region 7 with (fail)
  go_loud (go_region_held3 (fun w' => w'.cell? ⟨w4.heap.size, 0, none⟩ = some (.int .u16 10) ∧ w'.cell? ⟨w4.heap.size, 1, none⟩ = some (.slice a0 1 c0) ∧ w'.cell? ⟨w4.heap.size, 2, none⟩ = some (.slice a1 1 c1) ∧ w'.cell? ⟨w4.heap.size, 3, none⟩ = some (.slice a2 0 c2) ∧ w'.cell? ⟨w4.heap.size, 4, none⟩ = some (.slice a3 0 c3) ∧ (convert 31 9 (.slice A exS.length c)).run Tryd.prog w' = .ok (.string (ByteArray.mk #[80, 85, 82, 49, 0, 10, 1, 1, 0, 0, 0, 1, 0, 0, 0, 10, 0, 0, 0, 0, 0, 0, 0, 0])) w') (first | (with_reducible exact SW.out _ SR.out) | (with_reducible exact SW.out _ (bel_drew SR.out)) | (with_reducible exact SW.out _ hx1) | (with_reducible exact SW.out _ (bel_drew hx1)) | (with_reducible exact SW.out _ hx2) | (with_reducible exact SW.out _ (bel_drew hx2)) | go_keep) (first
    | (with_reducible refine K1.out.mono ?_; rintro e x1 ⟨lv, rfl, hl1, hx1⟩)
    | (with_reducible refine (K20.out _ _ hl1 hx1).mono ?_; rintro e x2 ⟨rfl, hx2⟩)
    | (with_reducible refine (K21.out _ _ hl1 hx1).mono ?_; rintro e x2 ⟨rfl, hx2⟩)))
  all_goals
    go_wp2_with fail
    go_ret
    exact ⟨rfl, bel_then B13.out hx2⟩
end Go.Proofs.YtbphlapdhcgikaaDoor
