/- Layer 2: the law BlobNumbers. -/
import Derived.Test.YtdfbiofmfjmkaaaDoorBlbH
namespace Go.Proofs.YtdfbiofmfjmkaaaDoor
open Go.RowKit
set_option linter.unusedVariables false
set_option linter.unusedSimpArgs false

def encL (L : List Int) : List Int := L.flatMap fun x => [x / 256, x % 256]
theorem encL_len (L : List Int) : (encL L).length = 2 * L.length := by
  induction L with
  | nil => rfl
  | cons a l ih =>
    have : encL (a :: l) = [a / 256, a % 256] ++ encL l := rfl
    rw [this, List.length_append, ih]
    simp
    omega
theorem encL_next (L : List Int) (k : Nat) (hk : k < L.length) : encL (L.take (k + 1)) = encL (L.take k) ++ [L.getD k 0 / 256, L.getD k 0 % 256] := by
  unfold encL
  rw [List.take_succ_eq_append_getElem hk, List.flatMap_append]
  simp [List.getD_eq_getElem?_getD, hk]
theorem encL_byte (L : List Int) (hL : ∀ x ∈ L, 0 ≤ x ∧ x ≤ 65535) : ∀ x ∈ encL L, 0 ≤ x ∧ x ≤ 255 := by
  intro x hx
  obtain ⟨y, hy, hx⟩ := List.mem_flatMap.1 hx
  have := hL y hy
  simp at hx
  omega
theorem encL_drop (L M : List Int) (k : Nat) (hk : k < L.length) : ((encL L ++ M).drop (2 * k)).take 2 = [L.getD k 0 / 256, L.getD k 0 % 256] := by
  have h : encL L = encL (L.take (k + 1)) ++ encL (L.drop (k + 1)) := by
    unfold encL
    rw [← List.flatMap_append, List.take_append_drop]
  rw [h, encL_next L k hk, List.append_assoc, List.append_assoc, List.drop_append_of_le_length (by rw [encL_len, List.length_take]; omega), List.drop_of_length_le (by rw [encL_len, List.length_take]; omega)]
  simp
theorem take_num (L M : List Int) (k : Nat) (hk : k < L.length) : numL (takeL (encL L ++ M) (2 * k) false 2) = L.getD k 0 ∧ takeA (encL L ++ M) (2 * k) false 2 = 2 * (k + 1) ∧ takeB (encL L ++ M) (2 * k) false 2 = false := by
  have hl : (encL L ++ M).length = 2 * L.length + M.length := by rw [List.length_append, encL_len]
  have h2 : ¬ (((encL L ++ M).length : Int) - ((2 * k : Nat) : Int) < 2) := by omega
  refine ⟨?_, ?_, ?_⟩
  · unfold takeL
    rw [if_neg (by simp only [Bool.false_eq_true, false_or]; omega)]
    rw [show (2 : Int).toNat = 2 from rfl, encL_drop L M k hk]
    simp only [numL, List.foldl_cons, List.foldl_nil]
    omega
  · unfold takeA
    rw [if_neg (by simp only [Bool.false_eq_true, false_or]; omega)]
    rw [show (2 : Int).toNat = 2 from rfl]
    omega
  · unfold takeB
    rw [if_neg (by simp)]
    simpa using h2
theorem take_tail (L M : List Int) (hM : 0 < M.length) : takeL (encL L ++ M) (2 * L.length) false M.length = M ∧ takeA (encL L ++ M) (2 * L.length) false M.length = (encL L ++ M).length ∧ takeB (encL L ++ M) (2 * L.length) false M.length = false := by
  have hl : (encL L ++ M).length = 2 * L.length + M.length := by rw [List.length_append, encL_len]
  have h2 : ¬ (((encL L ++ M).length : Int) - ((2 * L.length : Nat) : Int) < M.length) := by omega
  have h1 : ¬ ((M.length : Int) < 1) := by omega
  refine ⟨?_, ?_, ?_⟩
  · unfold takeL
    rw [if_neg (by simp only [Bool.false_eq_true, false_or]; omega), Int.toNat_natCast, List.drop_left' (encL_len L), List.take_length]
  · unfold takeA
    rw [if_neg (by simp only [Bool.false_eq_true, false_or]; omega), Int.toNat_natCast, hl]
  · unfold takeB
    rw [if_neg (by simp only [Bool.false_eq_true, false_or]; exact h1)]
    exact decide_eq_false h2
theorem byteCells_map (s : ByteArray) : byteCells s = (strL s).map (Value.int .u8) := by
  unfold byteCells strL
  rw [List.map_map]
  rfl
set_option maxHeartbeats 3200000 in
set_option maxRecDepth 100000 in
theorem numbers_any (w : World) (v : Value) (L : List Int) (s : ByteArray) (hg : ETy w) (hs : s.size ≤ 140737488351232) (hv : Ints w .u16 v L) (hL : ∀ x ∈ L, 0 ≤ x ∧ x ≤ 65535) :
    Calls Tryd.prog 4 #[v, .string s] w fun e w' => e = .returned (.bool true) ∧ Below w.heap.size w w' := by
  have HG := Aside.mk hg
  have HV := Aside.mk hv
  have HL := Aside.mk hL
  obtain ⟨Av, cv, rfl, hLl, _⟩ := hv
  by_cases h5 : L.length ≤ 500
  · have h5' : ¬ (500 : Int) < (L.length : Int) := by omega
    have KA := Aside.mk (fun W (h : Below w.heap.size w W) => awake_any W (HG.out.below h))
    clear hL hg
    go_enter Tryd.func4, Tryd.ntmps4
    go_wp2_with fail
    go_loopg [5, 6] L.length (fun g s5 s6 wr => ∃ (k : Nat), k ≤ L.length ∧ g = L.length - k ∧ s6 = .int .i64 k ∧ Aside (wr.ownsRow w.heap.size 5 1 s5 (2 * k) ((encL (L.take k)).map (Value.int .u8)) ∧ Below w.heap.size w wr))
    case atStart => exact ⟨0, by omega, rfl, rfl, ⟨⟨by simp [encL], .inr ⟨_, 0, #[], rfl, Nat.le_refl _, heap_alloc_new _ _, Nat.le_refl _, by decide, by simp, by simp [encL]⟩⟩, bel_one _ _⟩⟩
    case round =>
      obtain ⟨k, hk, rfl, rfl, hst⟩ := hrel
      obtain ⟨Ab, cb, hvb⟩ := own_len hst.out.1
      subst hvb
      by_cases hlt : k < L.length
      · obtain ⟨Av', cv', e', _, hd⟩ := HV.out.below hst.out.2
        injection e' with e1 e2 e3
        subst e1 e3
        obtain ⟨ad, rfl, hd2⟩ := hd (by omega)
        have c0 := hd2 k hlt
        obtain ⟨x, hx⟩ : ∃ x, L.getD k 0 = x := ⟨_, rfl⟩
        have hxr : 0 ≤ x ∧ x ≤ 65535 := by rw [← hx, List.getD_eq_getElem?_getD, List.getElem?_eq_getElem hlt]; exact HL.out _ (List.getElem_mem hlt)
        have HN := Aside.mk (encL_next L k hlt)
        rw [hx] at c0 HN
        have hlen : (encL (L.take k)).length = 2 * k := by rw [encL_len, List.length_take]; omega
        have KT := Aside.mk (two_any w.heap.size wr (.slice Ab (2 * k) cb) (encL (L.take k)) x hxr.1 hxr.2 (by rw [hlen]; exact hst.out.1) (by omega))
        have hw2 : IntKind.i64.wrap (((2 * k : Nat) : Int) + 2) = ((2 * k + 2 : Nat) : Int) := by rw [show ((2 * k : Nat) : Int) + 2 = ((2 * k + 2 : Nat) : Int) by omega]; exact IntWalk.i64_in _ (by omega)
        have HLN := Aside.mk hlen
        clear hd hd2 hx hxr e2 hlen
        go_wp2_with fail
        refine KT.out.mono ?_
        rintro e w4 ⟨v4, rfl, ho, b4⟩
        rw [HLN.out] at ho
        obtain ⟨A4, c4, rfl⟩ := own_len ho
        have H4 := Aside.mk (And.intro ho b4)
        clear ho b4
        go_wp2_with fail
        go_roundg (L.length - (k + 1))
        case measure => omega
        case rel => exact ⟨k + 1, by omega, rfl, by go_num, ⟨by rw [HN.out]; exact own_down H4.out.1 hst.out.2.size, bel_then hst.out.2 H4.out.2⟩⟩
      · obtain rfl : k = L.length := by omega
        rw [List.take_length] at hst
        clear hlt hk
        go_wp2_with (at_builtin; go_loud (refine append_str w.heap.size rfl _ _ 22 9 5 (.int .u8 0) rfl Tryd.underlying22 A_str A_info_u8 rfl (.slice Ab (2 * L.length) cb) (2 * L.length) ((encL L).map (Value.int .u8)) s rfl rfl hst.out.1 (by omega) hst.out.2.size ?_))
        intro v5 w5 o5 g5
        rw [byteCells_map, ← List.map_append] at o5
        obtain ⟨A5, c5, rfl⟩ := own_len o5
        have B5 : Below w.heap.size w w5 := hst.out.2.grown g5 hst.out.2.size (fun j hj => own_base hst.out.1 j hj)
        have hSl : (encL L ++ strL s).length = 2 * L.length + s.size := by rw [List.length_append, encL_len, strL_len]
        have hI : Ints w5 .u8 (.slice A5 (2 * L.length + s.size) c5) (encL L ++ strL s) := own_ints o5
        have KN := Aside.mk (new_any w5 _ _ hI (by rw [hSl]; omega))
        have HS : Aside (∀ x ∈ encL L ++ strL s, 0 ≤ x ∧ x ≤ 255) := ⟨fun x hx => by
          rcases List.mem_append.1 hx with h | h
          · exact encL_byte L HL.out x h
          · exact strL_byte s x h⟩
        have HT := Aside.mk (fun k hk => take_num L (strL s) k hk)
        have HM := Aside.mk (take_tail L (strL s))
        have HSL := Aside.mk hSl
        have hsl := strL_len s
        obtain ⟨S, hS⟩ : ∃ S, encL L ++ strL s = S := ⟨_, rfl⟩
        rw [hS] at KN HS HT HM HSL
        have hb5 := B5.size
        have B5 := Aside.mk B5
        clear o5 g5 hI hSl hS hst
        go_wp2_with fail
        refine KN.out.mono ?_
        rintro e w6 ⟨Z, A, c, rfl, hR, b6⟩
        have R6 := Aside.mk hR
        have B6 := Aside.mk (bel_then B5.out b6)
        clear hR b6
        go_wp2_with fail
        refine (KA.out _ B6.out).mono ?_
        rintro e w7 ⟨rfl, b7⟩
        have R7 := Aside.mk (R6.out.below b7)
        have B7 := Aside.mk (bel_then B6.out b7)
        clear b7
        go_wp2_with fail
        go_loopg [10] L.length (fun g s10 wr => ∃ (k : Nat), k ≤ L.length ∧ g = L.length - k ∧ s10 = .int .i64 k ∧ Aside (RD w5.heap.size wr Z A c S (2 * k) false ∧ Below w.heap.size w wr))
        case atStart => exact ⟨0, by omega, rfl, rfl, ⟨R7.out, B7.out⟩⟩
        case round =>
          obtain ⟨k, hk, rfl, rfl, hst⟩ := hrel
          by_cases hlt : k < L.length
          · have HC : Aside (∃ ad, Av = some ad ∧ ∀ W, Below w.heap.size w W → W.cell? (ad.add k) = some (.int .u16 (L.getD k 0))) := ⟨by
              obtain ⟨Av', cv', e', _, hd⟩ := HV.out
              injection e' with e1 e2 e3
              subst e1 e3
              obtain ⟨ad, rfl, hd2⟩ := hd (by omega)
              exact ⟨ad, rfl, fun W h => (Kept.of_below (S := fun _ => False) h).cell (hd2 k hlt) id⟩⟩
            obtain ⟨ad, rfl, hcell⟩ := HC.out
            obtain ⟨t1, t2, t3⟩ := HT.out k hlt
            obtain ⟨x, hx⟩ : ∃ x, L.getD k 0 = x := ⟨_, rfl⟩
            rw [hx] at hcell t1
            have KS : Aside (∀ W, Below wr.heap.size wr W → Calls Tryd.prog 16 #[.pointer (some ⟨Z, 0, none⟩)] W fun e w' => e = .returned (.int .u16 x) ∧ RD w5.heap.size w' Z A c S (2 * (k + 1)) false ∧ Below w.heap.size w w') := ⟨fun W h => (sixteen_any w5.heap.size W Z A c S (2 * k) false HS.out (hst.out.1.below h)).mono fun e w' q => by
              have q := q.get (bel_then hst.out.2 h) hb5 (hst.out.1.below h)
              rw [t1, t2, t3] at q
              exact q⟩
            have c0 := hcell _ hst.out.2
            have HCC := Aside.mk hcell
            clear hcell t1 t2 t3 hx
            go_wp2_with fail
            go_region_held3 (fun w' => w'.cell? (ad.add k) = some (.int .u16 x)) (first | go_keep | (exact HCC.out _ H8.out.2)) (first | (refine (KS.out _ (below_drewN wr 1)).mono ?_; rintro e w8 ⟨rfl, hR8, hB8⟩; have H8 := Aside.mk (And.intro hR8 hB8)))
            clear hR8 hB8
            go_wp2_with fail
            go_roundg (L.length - (k + 1))
            case measure => omega
            case rel => exact ⟨k + 1, by omega, rfl, by go_num, H8⟩
          · obtain rfl : k = L.length := by omega
            clear hlt hk
            have KE := Aside.mk (end_any w5.heap.size wr Z A c S (2 * L.length) false hst.out.1)
            go_wp2_with fail
            refine KE.out.mono ?_
            rintro e w8 h
            obtain ⟨v8, rfl, hE, b8⟩ := h.val
            have R8 := Aside.mk (hst.out.1.below b8)
            have B8 := Aside.mk (bel_then hst.out.2 b8)
            have HE := Aside.mk (why_any w8 _ v8 hE (HG.out.below B8.out))
            clear h hE b8
            go_wp2_with fail
            refine HE.out.mono ?_
            rintro e w9 ⟨rfl, b9⟩
            have R9 := Aside.mk (R8.out.below b9)
            have B9 := Aside.mk (bel_then B8.out b9)
            clear b9
            by_cases hs0 : s.size = 0
            · have hse : s.toList = [] := by rw [ByteArray.toList_eq]; exact List.eq_nil_of_length_eq_zero (by simpa using hs0)
              have hq : endQ S (2 * L.length) false = none := by simp only [endQ, Bool.false_eq_true, if_false]; rw [if_neg (by have := HSL.out; omega)]
              rw [hq]
              have KR := Aside.mk (err_any w5.heap.size w9 Z A c S (2 * L.length) false R9.out)
              simp only [numQ, atQ]
              clear hq
              go_wp2_with fail
              refine KR.out.mono ?_
              rintro e w10 ⟨b10, h10⟩
              have B10 := Aside.mk (bel_then B9.out b10)
              simp only [errQ, Bool.false_eq_true, if_false] at h10
              subst h10
              clear b10
              go_wp2_with fail
              go_ret
              exact ⟨rfl, B10.out⟩
            · have hse : s.toList ≠ [] := by rw [ByteArray.toList_eq]; intro h; have : (strL s).length = 0 := (by simp only [strL, h, List.map_nil, List.length_nil]); omega
              have hse2 : (s.toList == []) = false := by simpa using hse
              have hq : endQ S (2 * L.length) false = some (2 * L.length, 21) := by simp only [endQ, Bool.false_eq_true, if_false]; rw [if_pos (by have := HSL.out; omega)]
              rw [hq]
              simp only [numQ, atQ]
              obtain ⟨m1, m2, m3⟩ := HM.out (by omega)
              rw [hsl] at m1 m2 m3
              have hlast : endQ S S.length false = none := by simp [endQ]
              have KT : Aside (Calls Tryd.prog 11 #[.pointer (some ⟨Z, 0, none⟩), .int .i64 s.size] w9 fun e w' => e = .returned (.string s) ∧ RD w5.heap.size w' Z A c S S.length false ∧ Below w.heap.size w w') := ⟨(text_any w5.heap.size w9 Z A c S (2 * L.length) false s.size R9.out (by omega) (by omega)).mono fun e w' q => by
                have q := q.get B9.out hb5 R9.out
                rw [m1, m2, m3, nums_str] at q
                exact q⟩
              have hw3 : IntKind.i64.wrap (2 * (L.length : Int)) = 2 * (L.length : Int) := IntWalk.i64_in _ (by omega)
              have hw4 : ((2 * L.length : Nat) : Int) = 2 * (L.length : Int) := by omega
              clear hq m1 m2 m3
              go_wp2_with fail
              refine KT.out.mono ?_
              rintro e w10 ⟨rfl, hR, hB⟩
              have B10 := Aside.mk hB
              have KL := Aside.mk (end_any w5.heap.size w10 Z A c S S.length false hR)
              rw [hlast] at KL
              clear hR hB
              go_wp2_with fail
              refine KL.out.mono ?_
              rintro e w11 ⟨b11, h11⟩
              have B11 := Aside.mk (bel_then B10.out b11)
              subst h11
              clear b11
              go_wp2_with fail
              go_ret
              exact ⟨rfl, B11.out⟩
  · have h5' : (500 : Int) < (L.length : Int) := by omega
    have KA := Aside.mk (awake_any w hg)
    clear hL hg h5
    go_enter Tryd.func4, Tryd.ntmps4
    go_wp2_with fail
    refine KA.out.mono ?_
    rintro e w2 ⟨rfl, b2⟩
    have B2 := Aside.mk b2
    clear b2
    go_wp2_with fail
    go_ret
    exact ⟨rfl, B2.out⟩
end Go.Proofs.YtdfbiofmfjmkaaaDoor
