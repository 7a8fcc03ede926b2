/- A plan's bytes: Encode. -/
import Derived.Test.YtbphlapdhcgikaaDoorEncA
import Derived.Test.YtbphlapdhcgikaaDoorRdrD
import Derived.Lib.SlBytesConst
namespace Go.Proofs.YtbphlapdhcgikaaDoor
open Go.RowKit
set_option linter.unusedVariables false
set_option linter.unusedSimpArgs false

/-- The bytes so far: rows that the call owns. -/
structure EncSt (W1 : World) (v : Value) (bs : List Int) (a : World) : Prop where
  own : a.ownsRow W1.heap.size 5 1 v bs.length (bs.map (Value.int .u8))
  bel : Below W1.heap.size W1 a
theorem EncSt.below {W1 a b : World} {v : Value} {bs : List Int} (h : EncSt W1 v bs a) (k : Below a.heap.size a b) : EncSt W1 v bs b := ⟨own_below h.own k, bel_then h.bel k⟩
/-- What an append to bytes leaves: boxes of other kinds. -/
def BoxK (W w1 : World) : Prop := ∀ (j : Nat) (cs : Array Value) (t : TypeId) (fr : Nat × Nat), W.heap[j]? = some (.cells cs t fr) → 5 ≠ t → w1.heap[j]? = some (.cells cs t fr)
section
variable {ops : Array Oper} {rest : List Oper} {o : Oper} {a : Act} {Q : Exit → Act → World → Prop}
theorem append_some {W1 W : World} (hgd : o.guard = none) (s x : Operand) (ho : o.op = .call { callee := .builtin .append, args := #[s, x], argTypes := #[31, 31] }) (v : Value) (bs news : List Int) (A : Option Addr) (m c : Nat) (hs : a.eval s = v) (hx : a.eval x = .slice A m c) (h0 : EncSt W1 v bs W) (hm : news.length = m)
    (hn : 0 < m → ∃ ad, A = some ad ∧ ∀ j u, (news.map (Value.int .u8))[j]? = some u → W.cell? (ad.add j) = some u) (hb : bs.length + m ≤ 1000000000) (h : ∀ v1 w1, EncSt W1 v1 (bs ++ news) w1 → BoxK W w1 → wpList Tryd.prog ops Q rest (a.put o.dst v1) w1) : wpList Tryd.prog ops Q (o :: rest) a W := by
  refine append_row W1.heap.size hgd s x 31 5 (.int .u8 0) 1 ho Tryd.underlying31 A_info_u8 rfl (by decide) v bs.length (bs.map (Value.int .u8)) (news.map (Value.int .u8)) A m c hs hx h0.own (by simpa using hm) hn (fun u hu => by obtain ⟨z, _, rfl⟩ := List.mem_map.1 hu; rfl) h0.bel.size (by omega) ?_
  intro v1 w1 o1 g1 _
  refine h v1 w1 ⟨?_, Below.grown h0.bel g1 h0.bel.size (fun j hj => own_base h0.own j hj)⟩ (fun j cs t fr hj ht => (grown_kept g1).heap hj (fun e => own_type h0.own hj ht e rfl))
  subst hm
  simpa using o1
theorem append_bytes {W1 W : World} (hgd : o.guard = none) (s x : Operand) (ho : o.op = .call { callee := .builtin .append, args := #[s, x], argTypes := #[31, 31] }) (v : Value) (bs news : List Int) (m : Nat) (hm : news.length = m) (hs : a.eval s = v) (hx : a.eval x = .slice (some ⟨W.heap.size, 0, none⟩) m m) (h0 : EncSt W1 v bs W) (hb : bs.length + m ≤ 1000000000)
    (h : ∀ v1 w1, EncSt W1 v1 (bs ++ news) w1 → BoxK W w1 → wpList Tryd.prog ops Q rest (a.put o.dst v1) w1) : wpList Tryd.prog ops Q (o :: rest) a (W.alloc (.cells (news.map (Value.int .u8)).toArray 5)) :=
  append_some hgd s x ho v bs news _ m m hs hx (h0.below (bel_one _ _)) hm (fun _ => ⟨_, rfl, World.news_of_block (heap_alloc_new W _)⟩) hb (fun v1 w1 e k => h v1 w1 e (fun j cs t fr hj ht => k j cs t fr (heap_up hj) ht))
end
theorem flat_succ {α : Type} (f : α → List Int) {L : List α} {k : Nat} {x : α} (h : L[k]? = some x) : (L.take (k + 1)).flatMap f = (L.take k).flatMap f ++ f x := by
  rw [take_snoc h, List.flatMap_append]
  simp
theorem bytes_news {W : World} {A : Option Addr} {n c : Nat} {M : List Int} (h : Bytes8 W (.slice A n c) M) : M.length = n ∧ (0 < n → ∃ ad, A = some ad ∧ ∀ j u, (M.map (Value.int .u8))[j]? = some u → W.cell? (ad.add j) = some u) := by
  obtain ⟨a', c', e, _⟩ := Elems.len h
  injection e with e1 e2 e3
  refine ⟨e2.symm, fun hp => ?_⟩
  obtain ⟨ad, e, _⟩ := h.at_ 0 _ (List.getElem?_eq_getElem (show 0 < M.length by omega))
  refine ⟨ad, e, fun j u hu => ?_⟩
  rw [List.getElem?_map, Option.map_eq_some_iff] at hu
  obtain ⟨z, hz, rfl⟩ := hu
  obtain ⟨ad', e', hc, _⟩ := h.at_ j z hz
  rw [e] at e'
  obtain rfl := Option.some.inj e'
  exact hc
def EncP (w : World) (P : Plan) (e : Ending) (w' : World) : Prop :=
  ∃ bv ev, e = .returned (.tuple #[bv, ev]) ∧ Below w.heap.size w w' ∧ ErrF w' (whyF P) ev ∧ (whyF P = none → w'.ownsRow w.heap.size 5 1 bv (encL P).length ((encL P).map (Value.int .u8))) ∧ (whyF P ≠ none → bv = .slice none 0 0)
theorem u8_hi (n : Int) (h0 : 0 ≤ n) (h1 : n ≤ 65535) : IntKind.u8.wrap (n / 256) = n / 256 := by rw [IntKind.wrap_u8]; omega
theorem u8_lo (n : Int) : IntKind.u8.wrap n = n % 256 := by rw [IntKind.wrap_u8]
theorem u8_in (n : Int) (h0 : 0 ≤ n) (h1 : n ≤ 255) : IntKind.u8.wrap n = n := by rw [IntKind.wrap_u8]; omega
set_option maxHeartbeats 6400000 in
set_option maxRecDepth 100000 in
theorem encode_any (w : World) (v : Value) (P : Plan) (hv : PlanV w v P) : Calls Tryd.prog 12 #[v] w (EncP w P) := by
  have HV := Aside.mk hv
  obtain ⟨a0, c0, a1, c1, a2, c2, a3, c3, rfl, hp, hlen⟩ := hv.open_
  have HP := Aside.mk hp
  have HSh := Aside.mk (@short_of P)
  obtain ⟨W1, HW⟩ : ∃ W1, Aside (W1 = w.alloc (.cells #[.int .u16 (Plan.frame P), .slice a0 (Plan.cores P).length c0, .slice a1 (Plan.parts P).length c1, .slice a2 (Plan.chans P).length c2, .slice a3 (Plan.pairs P).length c3] 28)) := ⟨_, ⟨rfl⟩⟩
  have hb1 : Aside (Below w.heap.size w W1 ∧ W1.heap[w.heap.size]? = some (.cells #[.int .u16 (Plan.frame P), .slice a0 (Plan.cores P).length c0, .slice a1 (Plan.parts P).length c1, .slice a2 (Plan.chans P).length c2, .slice a3 (Plan.pairs P).length c3] 28 (0, 0))) := ⟨by rw [HW.out]; exact ⟨bel_one _ _, heap_alloc_new _ _⟩⟩
  have KY := Aside.mk (why_plan W1 _ P (HV.out.below hb1.out.1))
  obtain ⟨i0, i1⟩ := hp.frame
  have HE : Aside (encL P = hdrB P ++ (Plan.cores P).flatMap coreB ++ (Plan.parts P).flatMap partB ++ (Plan.chans P).flatMap chanB ++ (Plan.pairs P).flatMap pairB) := ⟨rfl⟩
  have HH : Aside (hdrB P = [80, 85, 82, 49, Plan.frame P / 256, Plan.frame P % 256, ((Plan.cores P).length : Int), ((Plan.parts P).length : Int), ((Plan.chans P).length : Int), ((Plan.pairs P).length : Int)]) := ⟨rfl⟩
  obtain ⟨yq, hyq⟩ : ∃ yq, whyF P = yq := ⟨_, rfl⟩
  have HYQ := Aside.mk hyq
  rw [hyq] at KY HSh
  obtain ⟨p0, p1, p2, p3, p4⟩ := box5 hb1.out.2
  clear hv hp hyq
  go_enter Tryd.func12, Tryd.ntmps12
  go_upto_region 1 with (fail)
  rw [← HW.out]
  go_wp2_with fail
  refine KY.out.mono ?_
  rintro e w2 ⟨r, rfl, hr, b2⟩
  have B2 : Aside (Below W1.heap.size W1 w2) := ⟨b2⟩
  clear b2 p0 p1 p2 p3 p4
  rcases errF_two hr with ⟨e1, rfl⟩ | ⟨x, e1, f, rfl⟩
  rotate_left
  · have HR := Aside.mk hr
    rw [e1] at HR HYQ
    clear hr e1
    go_wp2_with fail
    go_ret2
    exact ⟨_, _, rfl, bel_then hb1.out.1 B2.out, by rw [HYQ.out]; exact HR.out, (fun e => (by rw [HYQ.out] at e; cases e)), fun _ => rfl⟩
  rw [e1] at HYQ
  have Sh := HSh.out e1
  obtain ⟨sc, sa, sh, sq⟩ := (⟨Sh.c, Sh.a, Sh.h, Sh.q⟩ : _ ∧ _ ∧ _ ∧ _)
  have SH := Aside.mk Sh
  clear hr e1 Sh
  obtain ⟨p0, p1, p2, p3, p4⟩ := box5 (hup B2.out hb1.out.2)
  have L1 : w.heap.size < w2.heap.size := lt_of_block (hup B2.out hb1.out.2)
  have cs := Go.Lib.run_convert_bytes_const (P := Tryd.prog) w2 31 5 #[.int .u8 80, .int .u8 85, .int .u8 82, .int .u8 49] 4 4 Tryd.underlying31 Tryd.underlying5
  simp only [List.size_toArray, List.length_cons, List.length_nil] at cs
  obtain ⟨W3, HW3⟩ : ∃ W3, Aside (W3 = w2.alloc (.cells #[.int .u8 80, .int .u8 85, .int .u8 82, .int .u8 49] 5 (4, 5))) := ⟨_, ⟨rfl⟩⟩
  have B3 : Aside (Below W1.heap.size W1 W3 ∧ ∀ j u, (([80, 85, 82, 49] : List Int).map (Value.int .u8))[j]? = some u → W3.cell? ((⟨w2.heap.size, 0, none⟩ : Addr).add j) = some u) := ⟨by
    rw [HW3.out]
    refine ⟨bel_then B2.out (bel_one _ _), fun j u hu => ?_⟩
    exact World.news_of_block (heap_alloc_new w2 _) j u (by simpa using hu)⟩
  have KT := Aside.mk (Bl.two_gen W3 (.slice (some ⟨w2.heap.size, 0, none⟩) 4 4) [80, 85, 82, 49] (Plan.frame P) i0 i1 ⟨_, 4, rfl, by decide, .inr ⟨_, rfl, B3.out.2⟩⟩ (by decide))
  go_wp2_with fail
  rw [← HW3.out]
  refine KT.out.mono ?_
  rintro e w4 ⟨bv, rfl, o4, b4⟩
  have E4 : Aside (EncSt W1 bv [80, 85, 82, 49, Plan.frame P / 256, Plan.frame P % 256] w4) := ⟨⟨own_down (by simpa using o4) B3.out.1.size, bel_then B3.out.1 b4⟩⟩
  clear o4 b4 p0 p1 p2 p3 p4 cs
  obtain ⟨p0, p1, p2, p3, p4⟩ := box5 (hup E4.out.bel hb1.out.2)
  have L4 : w.heap.size < w4.heap.size := lt_of_block (hup E4.out.bel hb1.out.2)
  have x0 := u8_in ((Plan.cores P).length : Int) (by omega) (by omega)
  have x1 := u8_in ((Plan.parts P).length : Int) (by omega) (by omega)
  have x2 := u8_in ((Plan.chans P).length : Int) (by omega) (by omega)
  have x3 := u8_in ((Plan.pairs P).length : Int) (by omega) (by omega)
  go_wp2_with (at_builtin; go_loud (refine append_bytes (W1 := W1) rfl _ _ rfl bv [80, 85, 82, 49, Plan.frame P / 256, Plan.frame P % 256] [((Plan.cores P).length : Int), ((Plan.parts P).length : Int), ((Plan.chans P).length : Int), ((Plan.pairs P).length : Int)] 4 rfl rfl rfl E4.out (by simp) ?_))
  intro v5 w5 e5 _
  have E5 : Aside (EncSt W1 v5 (hdrB P) w5) := ⟨by rw [HH.out]; exact e5⟩
  have HL : (hdrB P).length = 10 := by rw [HH.out]; rfl
  have HL := Aside.mk HL
  clear e5 p0 p1 p2 p3 p4 x0 x1 x2 x3
  obtain ⟨p0, p1, p2, p3, p4⟩ := box5 (hup E5.out.bel hb1.out.2)
  generalize hdrB P = hd at *
  go_upto_block 0 with (fail)
  clear p0 p1 p2 p3 p4
  go_cut [5] (fun s wc => ∃ v, v = s ∧ Aside (EncSt W1 v (hd ++ (Plan.cores P).flatMap coreB) wc ∧ (hd ++ (Plan.cores P).flatMap coreB).length ≤ 200000000))
  case first =>
    have HCo := Aside.mk HP.out.cores
    have HS1 : Aside (∀ L ∈ Plan.cores P, L.length ≤ 65535) := ⟨SH.out.cs⟩
    generalize Plan.cores P = C at *
    go_wp2_with fail
    go_loopg [5, 50] C.length (fun q s i wr => ∃ (k : Nat) (v : Value), k ≤ C.length ∧ q = C.length - k ∧ v = s ∧ i = .int .i64 k ∧ Aside (EncSt W1 v (hd ++ (C.take k).flatMap coreB) wr ∧ (hd ++ (C.take k).flatMap coreB).length ≤ 10 + k * 400000))
    case atStart => exact ⟨0, v5, by omega, rfl, rfl, rfl, ⟨by simpa using E5.out, by simp [HL.out]⟩⟩
    case round =>
      obtain ⟨k, v, hk, rfl, rfl, rfl, S⟩ := hrel
      by_cases hkl : k < C.length
      · have hl := List.getElem?_eq_getElem hkl
        obtain ⟨L, hL⟩ : ∃ L, C[k] = L := ⟨_, rfl⟩
        rw [hL] at hl
        have hS2 := HS1.out L (List.mem_of_getElem? hl)
        have HF := Aside.mk (flat_succ coreB hl)
        obtain ⟨ad, lv, rfl, hlv0, hwins⟩ := HCo.out.at_ k L hl
        have hlv := (Kept.of_below (S := fun _ => False) (bel_then hb1.out.1 S.out.1.bel)).cell hlv0 id
        have HW0 : Aside (∀ W, Below W1.heap.size W1 W → Wins W lv L) := ⟨fun W h => hwins.below (bel_then hb1.out.1 h)⟩
        obtain ⟨la, lc, rfl, hlL⟩ := hwins.len
        clear hl hL hwins hlv0
        obtain ⟨bs, hbs⟩ : ∃ bs, hd ++ (C.take k).flatMap coreB = bs := ⟨_, rfl⟩
        have HBS := Aside.mk hbs
        rw [hbs] at S
        clear hbs
        have x0 := u8_hi (L.length : Int) (by omega) (by omega)
        have x1 := u8_lo (L.length : Int)
        have hb0 := S.out.2
        go_wp2_with (at_builtin; go_loud (refine append_bytes (W1 := W1) rfl _ _ rfl v bs [(L.length : Int) / 256, (L.length : Int) % 256] 2 rfl rfl rfl S.out.1 (by omega) ?_))
        intro v6 w6 e6 _
        have T6 := Aside.mk e6
        clear e6 hlv x0 x1
        go_wp2_with fail
        rename World => w7
        go_loopg [5, 66] L.length (fun q s i wr => ∃ (j : Nat) (v : Value), j ≤ L.length ∧ q = L.length - j ∧ v = s ∧ i = .int .i64 j ∧ Aside (EncSt W1 v (bs ++ [(L.length : Int) / 256, (L.length : Int) % 256] ++ (L.take j).flatMap winB) wr ∧ (bs ++ [(L.length : Int) / 256, (L.length : Int) % 256] ++ (L.take j).flatMap winB).length ≤ 12 + k * 400000 + 6 * j))
        case atStart => exact ⟨0, v6, by omega, rfl, rfl, rfl, ⟨by simpa using T6.out, by simp; omega⟩⟩
        case round =>
          obtain ⟨j, v, hj, rfl, rfl, rfl, T⟩ := hrel
          by_cases hjl : j < L.length
          · have hl := List.getElem?_eq_getElem hjl
            obtain ⟨x, hx⟩ : ∃ x, L[j] = x := ⟨_, rfl⟩
            rw [hx] at hl
            have HFx := Aside.mk (flat_succ winB hl)
            obtain ⟨ad2, rfl, z0, z1, z2, z3, okx⟩ := (HW0.out wr T.out.1.bel).at_ j x hl
            obtain ⟨W2, HW2⟩ : ∃ W2, Aside (W2 = wr.alloc (.cells #[.int .u16 (Win.s x), .int .u16 (Win.l x), .int .u8 (Win.p x), .int .u8 (Win.g x)] 51)) := ⟨_, ⟨rfl⟩⟩
            have hX : W2.heap[wr.heap.size]? = some (.cells #[.int .u16 (Win.s x), .int .u16 (Win.l x), .int .u8 (Win.p x), .int .u8 (Win.g x)] 51 (0, 0)) := by rw [HW2.out]; exact heap_alloc_new _ _
            have hlt := lt_of_block hX
            have y0 : W2.cell? ⟨wr.heap.size, 0, none⟩ = some (.int .u16 (Win.s x)) := by simp [World.cell?, hX]
            have y1 : W2.cell? ⟨wr.heap.size, 1, none⟩ = some (.int .u16 (Win.l x)) := by simp [World.cell?, hX]
            have y2 : W2.cell? ⟨wr.heap.size, 2, none⟩ = some (.int .u8 (Win.p x)) := by simp [World.cell?, hX]
            have y3 : W2.cell? ⟨wr.heap.size, 3, none⟩ = some (.int .u8 (Win.g x)) := by simp [World.cell?, hX]
            have T2 : Aside (EncSt W1 v (bs ++ [(L.length : Int) / 256, (L.length : Int) % 256] ++ (L.take j).flatMap winB) W2) := ⟨by rw [HW2.out]; exact T.out.1.below (bel_one _ _)⟩
            obtain ⟨⟨o0, o1⟩, ⟨o2, o3⟩, _, _⟩ := okx
            have HB : Aside (winB x = [Win.s x / 256, Win.s x % 256, Win.l x / 256, Win.l x % 256, Win.p x, Win.g x]) := ⟨rfl⟩
            generalize Win.s x = xs at *
            generalize Win.l x = xl at *
            generalize Win.p x = xp at *
            generalize Win.g x = xg at *
            have x0 := u8_hi xs (by omega) (by omega)
            have x1 := u8_lo xs
            have x2 := u8_hi xl (by omega) (by omega)
            have x3 := u8_lo xl
            have hb1' := T.out.2
            clear hl hx hX
            go_upto_region 13 with (fail)
            rw [← HW2.out]
            clear z0 z1 z2 z3
            go_wp2_with (at_builtin; go_loud (refine append_bytes (W1 := W1) rfl _ _ rfl v (bs ++ [(L.length : Int) / 256, (L.length : Int) % 256] ++ (L.take j).flatMap winB) [xs / 256, xs % 256, xl / 256, xl % 256, xp, xg] 6 rfl rfl rfl T2.out (by omega) ?_))
            intro v8 w8 e8 _
            have E8 := Aside.mk e8
            clear e8 y0 y1 y2 y3 x0 x1 x2 x3
            go_wp2_with fail
            go_roundg (L.length - (j + 1))
            case measure => omega
            case rel =>
              refine ⟨j + 1, v8, by omega, rfl, rfl, by go_num, ?_⟩
              rw [HFx.out, HB.out, ← List.append_assoc]
              exact ⟨by simpa using E8.out, by rw [List.length_append]; simp only [List.length_cons, List.length_nil]; omega⟩
          · obtain rfl : j = L.length := by omega
            rw [List.take_length] at T
            clear hjl hj
            go_wp2_with fail
            go_roundg (C.length - (k + 1))
            case measure => omega
            case rel =>
              refine ⟨k + 1, _, by omega, rfl, rfl, by go_num, ?_⟩
              rw [HF.out, ← List.append_assoc, HBS.out]
              have e : bs ++ coreB L = bs ++ [(L.length : Int) / 256, (L.length : Int) % 256] ++ L.flatMap winB := by rw [coreB, twoB, List.append_assoc]
              rw [e]
              exact ⟨T.out.1, by have := T.out.2; omega⟩
      · obtain rfl : k = C.length := by omega
        rw [List.take_length] at S
        clear hkl hk
        go_wp2_with fail
        go_meet
        case rel => exact ⟨_, rfl, ⟨S.out.1, by have := S.out.2; omega⟩⟩
  case rest =>
    obtain ⟨vA, rfl, EA⟩ := hcut
    obtain ⟨cb, hcb⟩ : ∃ cb, hd ++ (Plan.cores P).flatMap coreB = cb := ⟨_, rfl⟩
    have HCB := Aside.mk hcb
    rw [hcb] at EA
    clear hcb
    obtain ⟨p0, p1, p2, p3, p4⟩ := box5 (hup EA.out.1.bel hb1.out.2)
    go_upto_block 4 with (fail)
    clear p0 p1 p2 p3 p4
    go_cut [5] (fun s wc => ∃ v, v = s ∧ Aside (EncSt W1 v (cb ++ (Plan.parts P).flatMap partB) wc ∧ (cb ++ (Plan.parts P).flatMap partB).length ≤ 300000000))
    case first =>
      have HA := Aside.mk HP.out.parts
      have HSs : Aside (∀ x ∈ Plan.parts P, (PartR.sems x).length ≤ 255 ∧ (PartR.procs x).length ≤ 255) := ⟨fun x hx => ⟨SH.out.ss x hx, SH.out.ps x hx⟩⟩
      generalize Plan.parts P = C at *
      go_wp2_with fail
      go_loopg [5, 96] C.length (fun q s i wr => ∃ (k : Nat) (v : Value), k ≤ C.length ∧ q = C.length - k ∧ v = s ∧ i = .int .i64 k ∧ Aside (EncSt W1 v (cb ++ (C.take k).flatMap partB) wr ∧ (cb ++ (C.take k).flatMap partB).length ≤ 200000000 + k * 1000))
      case atStart => exact ⟨0, _, by omega, rfl, rfl, rfl, ⟨by simpa using EA.out.1, by simpa using EA.out.2⟩⟩
      case round =>
        obtain ⟨k, v, hk, rfl, rfl, rfl, T⟩ := hrel
        by_cases hkl : k < C.length
        · have hl := List.getElem?_eq_getElem hkl
          obtain ⟨x, hx⟩ : ∃ x, C[k] = x := ⟨_, rfl⟩
          rw [hx] at hl
          have HFx := Aside.mk (flat_succ partB hl)
          obtain ⟨hs1, hs2⟩ := HSs.out x (List.mem_of_getElem? hl)
          obtain ⟨ad2, sv, pv, e2, z0', z1', z2', z3', z4', z5', ok⟩ := Parts.at_ HA.out k x hl
          subst e2
          have kk := (fun (p : Addr) (v : Value) (h : World.cell? w p = some v) => (Kept.of_below (S := fun _ => False) (bel_then hb1.out.1 T.out.1.bel)).cell h id)
          have z0 := kk _ _ z0'
          have z1 := kk _ _ z1'
          have z2 := kk _ _ z2'
          have z3 := kk _ _ z3'
          have z4 := kk _ _ z4'
          have z5 := kk _ _ z5'
          have OK := Aside.mk ok
          obtain ⟨sa, sc', pa, pc', rfl, rfl, _, _⟩ := ok.lens
          clear hl hx ok kk z0' z1' z2' z3' z4' z5'
          obtain ⟨M, hM⟩ : ∃ M, PartR.sems x = M := ⟨_, rfl⟩
          obtain ⟨N, hN⟩ : ∃ N, PartR.procs x = N := ⟨_, rfl⟩
          have HM : Aside (∀ W, Below W1.heap.size W1 W → Sems W (.slice sa M.length sc') M ∧ Bytes8 W (.slice pa N.length pc') N) := ⟨fun W h => by
            have q := OK.out.below (bel_then hb1.out.1 h)
            have q1 := q.sems
            have q2 := q.procs
            rw [hM] at q1
            rw [hN] at q2
            exact ⟨q1, q2⟩⟩
          have HB : Aside (partB x = [(M.length : Int)] ++ M.flatMap semB ++ [PartR.events x, (N.length : Int)] ++ N ++ [PartR.a0 x, PartR.a1 x, PartR.a2 x]) := ⟨by rw [partB, hM, hN]; rfl⟩
          rw [hM] at hs1 z0
          rw [hN] at hs2 z2
          obtain ⟨W2, HW2⟩ : ∃ W2, Aside (W2 = wr.alloc (.cells #[.slice sa M.length sc', .int .u8 (PartR.events x), .slice pa N.length pc', .int .u8 (PartR.a0 x), .int .u8 (PartR.a1 x), .int .u8 (PartR.a2 x)] 56)) := ⟨_, ⟨rfl⟩⟩
          have HX : Aside (W2.heap[wr.heap.size]? = some (.cells #[.slice sa M.length sc', .int .u8 (PartR.events x), .slice pa N.length pc', .int .u8 (PartR.a0 x), .int .u8 (PartR.a1 x), .int .u8 (PartR.a2 x)] 56 (0, 0))) := ⟨by rw [HW2.out]; exact heap_alloc_new _ _⟩
          obtain ⟨X, hXe⟩ : ∃ X, wr.heap.size = X := ⟨_, rfl⟩
          rw [hXe] at HX
          have T2 : Aside (EncSt W1 v (cb ++ (C.take k).flatMap partB) W2) := ⟨by rw [HW2.out]; exact T.out.1.below (bel_one _ _)⟩
          have hbT := T.out.2
          obtain ⟨bs, hbs⟩ : ∃ bs, cb ++ (C.take k).flatMap partB = bs := ⟨_, rfl⟩
          have HBS := Aside.mk hbs
          rw [hbs] at T2 hbT
          obtain ⟨ev, hev⟩ : ∃ ev, PartR.events x = ev := ⟨_, rfl⟩
          obtain ⟨q0, hq0⟩ : ∃ q0, PartR.a0 x = q0 := ⟨_, rfl⟩
          obtain ⟨q1, hq1⟩ : ∃ q1, PartR.a1 x = q1 := ⟨_, rfl⟩
          obtain ⟨q2, hq2⟩ : ∃ q2, PartR.a2 x = q2 := ⟨_, rfl⟩
          rw [hev, hq0, hq1, hq2] at HB HX HW2
          rw [hev] at z1
          rw [hq0] at z3
          rw [hq1] at z4
          rw [hq2] at z5
          have x0 := u8_in (M.length : Int) (by omega) (by omega)
          have x1 := u8_in (N.length : Int) (by omega) (by omega)
          clear hM hN hbs hev hq0 hq1 hq2
          go_upto_region 19 with (fail)
          rw [← HW2.out]
          clear z0 z1 z2 z3 z4 z5 hXe
          obtain ⟨y0, y1, y2, y3, y4, y5, _⟩ := box6z HX.out
          have hlt := lt_of_block HX.out
          go_wp2_with (at_builtin; go_loud (refine append_bytes (W1 := W1) rfl _ _ rfl v bs [(M.length : Int)] 1 rfl rfl rfl T2.out (by omega) ?_))
          intro v3 w3 e3 k3
          have E3 := Aside.mk e3
          have X3 := Aside.mk (k3 _ _ _ _ HX.out (by decide))
          clear e3 k3 y0 y1 y2 y3 y4 y5 hlt x0
          obtain ⟨y0, y1, y2, y3, y4, y5, _⟩ := box6z X3.out
          go_wp2_with fail
          clear y0 y1 y2 y3 y4 y5
          rename World => wq
          go_loopg [5, 110] M.length (fun q s i wr => ∃ (j : Nat) (v : Value), j ≤ M.length ∧ q = M.length - j ∧ v = s ∧ i = .int .i64 j ∧ Aside (EncSt W1 v (bs ++ [(M.length : Int)] ++ (M.take j).flatMap semB) wr ∧ (bs ++ [(M.length : Int)] ++ (M.take j).flatMap semB).length ≤ 200000001 + k * 1000 + 2 * j ∧ wr.heap[X]? = some (.cells #[.slice sa M.length sc', .int .u8 ev, .slice pa N.length pc', .int .u8 q0, .int .u8 q1, .int .u8 q2] 56 (0, 0))))
          case atStart => exact ⟨0, v3, by omega, rfl, rfl, rfl, ⟨by simpa using E3.out, by simp; omega, X3.out⟩⟩
          case round =>
            obtain ⟨j, v, hj, rfl, rfl, rfl, U⟩ := hrel
            by_cases hjl : j < M.length
            · have hl := List.getElem?_eq_getElem hjl
              obtain ⟨y, hy⟩ : ∃ y, M[j] = y := ⟨_, rfl⟩
              rw [hy] at hl
              have HFy := Aside.mk (flat_succ semB hl)
              obtain ⟨ad3, rfl, z0, z1, _⟩ := Sems.at_ (HM.out wr U.out.1.bel).1 j y hl
              obtain ⟨W5, HW5⟩ : ∃ W5, Aside (W5 = wr.alloc (.cells #[.int .u8 (SemR.i y), .int .u8 (SemR.m y)] 58)) := ⟨_, ⟨rfl⟩⟩
              have hX5 : W5.heap[wr.heap.size]? = some (.cells #[.int .u8 (SemR.i y), .int .u8 (SemR.m y)] 58 (0, 0)) := by rw [HW5.out]; exact heap_alloc_new _ _
              have hlt := lt_of_block hX5
              have s0 : W5.cell? ⟨wr.heap.size, 0, none⟩ = some (.int .u8 (SemR.i y)) := by simp [World.cell?, hX5]
              have s1 : W5.cell? ⟨wr.heap.size, 1, none⟩ = some (.int .u8 (SemR.m y)) := by simp [World.cell?, hX5]
              have U5 : Aside (EncSt W1 v (bs ++ [(M.length : Int)] ++ (M.take j).flatMap semB) W5 ∧ W5.heap[X]? = some (.cells #[.slice (some ad3) M.length sc', .int .u8 ev, .slice pa N.length pc', .int .u8 q0, .int .u8 q1, .int .u8 q2] 56 (0, 0))) := ⟨by rw [HW5.out]; exact ⟨U.out.1.below (bel_one _ _), heap_up U.out.2.2⟩⟩
              have HBy : Aside (semB y = [SemR.i y, SemR.m y]) := ⟨rfl⟩
              have hbU := U.out.2.1
              generalize SemR.i y = yi at *
              generalize SemR.m y = ym at *
              clear hl hy hX5
              go_upto_region 23 with (fail)
              rw [← HW5.out]
              clear z0 z1
              go_wp2_with (at_builtin; go_loud (refine append_bytes (W1 := W1) rfl _ _ rfl v (bs ++ [(M.length : Int)] ++ (M.take j).flatMap semB) [yi, ym] 2 rfl rfl rfl U5.out.1 (by omega) ?_))
              intro v8 w8 e8 k8
              have E8 := Aside.mk e8
              have X8 := Aside.mk (k8 _ _ _ _ U5.out.2 (by decide))
              clear e8 k8 s0 s1
              go_wp2_with fail
              go_roundg (M.length - (j + 1))
              case measure => omega
              case rel =>
                refine ⟨j + 1, v8, by omega, rfl, rfl, by go_num, ?_⟩
                rw [HFy.out, HBy.out, ← List.append_assoc]
                exact ⟨by simpa using E8.out, by rw [List.length_append]; simp only [List.length_cons, List.length_nil]; omega, X8.out⟩
            · obtain rfl : j = M.length := by omega
              rw [List.take_length] at U
              clear hjl hj
              obtain ⟨sb, hsb⟩ : ∃ sb, bs ++ [(M.length : Int)] ++ M.flatMap semB = sb := ⟨_, rfl⟩
              have HSB := Aside.mk hsb
              rw [hsb] at U
              have hbU := U.out.2.1
              clear hsb
              obtain ⟨y0, y1, y2, y3, y4, y5, _⟩ := box6z U.out.2.2
              have hlt := lt_of_block U.out.2.2
              go_wp2_with (at_builtin; go_loud (refine append_bytes (W1 := W1) rfl _ _ rfl v sb [ev, (N.length : Int)] 2 rfl rfl rfl U.out.1 (by omega) ?_))
              intro v9 w9 e9 k9
              have E9 := Aside.mk e9
              have X9 := Aside.mk (k9 _ _ _ _ U.out.2.2 (by decide))
              clear e9 k9 y0 y1 y2 y3 y4 y5 hlt x1
              obtain ⟨y0, y1, y2, y3, y4, y5, _⟩ := box6z X9.out
              have N9 := Aside.mk (bytes_news (HM.out w9 E9.out.bel).2)
              go_wp2_with (at_builtin; go_loud (refine append_some (W1 := W1) rfl _ _ rfl v9 (sb ++ [ev, (N.length : Int)]) N pa N.length pc' rfl rfl E9.out N9.out.1 N9.out.2 (by simp; omega) ?_))
              intro v10 w10 e10 k10
              have E10 := Aside.mk e10
              have X10 := Aside.mk (k10 _ _ _ _ X9.out (by decide))
              clear e10 k10 y0 y1 y2 y3 y4 y5
              obtain ⟨y0, y1, y2, y3, y4, y5, _⟩ := box6z X10.out
              have N10 : Aside (∀ j u, ([q0, q1, q2].map (Value.int .u8))[j]? = some u → w10.cell? ((⟨X, 3, none⟩ : Addr).add j) = some u) := ⟨fun j u hu => by
                have : j = 0 ∨ j = 1 ∨ j = 2 := by
                  have := (List.getElem?_eq_some_iff.1 hu).1
                  simp at this; omega
                rcases this with rfl | rfl | rfl
                · simp at hu; subst hu; exact y3
                · simp at hu; subst hu; exact y4
                · simp at hu; subst hu; exact y5⟩
              go_wp2_with (at_builtin; go_loud (refine append_some (W1 := W1) rfl _ _ rfl v10 (sb ++ [ev, (N.length : Int)] ++ N) [q0, q1, q2] (some ⟨X, 3, none⟩) 3 3 rfl rfl (by simpa using E10.out) rfl (fun _ => ⟨_, rfl, N10.out⟩) (by simp; omega) ?_))
              intro v11 w11 e11 _
              have E11 := Aside.mk e11
              clear e11 y0 y1 y2 y3 y4 y5
              go_wp2_with fail
              go_roundg (C.length - (k + 1))
              case measure => omega
              case rel =>
                refine ⟨k + 1, _, by omega, rfl, rfl, by go_num, ?_⟩
                have e : cb ++ (C.take (k + 1)).flatMap partB = sb ++ [ev, (N.length : Int)] ++ N ++ [q0, q1, q2] := by
                  rw [HFx.out, HB.out, ← List.append_assoc, HBS.out, ← HSB.out]
                  simp
                rw [e]
                exact ⟨by simpa using E11.out, by simp; omega⟩
        · obtain rfl : k = C.length := by omega
          rw [List.take_length] at T
          clear hkl hk
          go_wp2_with fail
          go_meet
          case rel => exact ⟨_, rfl, ⟨T.out.1, by have := T.out.2; omega⟩⟩
    case rest =>
      obtain ⟨vB, rfl, EB⟩ := hcut
      obtain ⟨pb, hpb⟩ : ∃ pb, cb ++ (Plan.parts P).flatMap partB = pb := ⟨_, rfl⟩
      have HPB := Aside.mk hpb
      rw [hpb] at EB
      clear hpb
      obtain ⟨p0, p1, p2, p3, p4⟩ := box5 (hup EB.out.1.bel hb1.out.2)
      go_upto_block 8 with (fail)
      clear p0 p1 p2 p3 p4
      go_cut [5] (fun s wc => ∃ v, v = s ∧ Aside (EncSt W1 v (pb ++ (Plan.chans P).flatMap chanB) wc ∧ (pb ++ (Plan.chans P).flatMap chanB).length ≤ 400000000))
      case first =>
        have HCh := Aside.mk HP.out.chans
        generalize Plan.chans P = C at *
        go_wp2_with fail
        go_loopg [5, 143] C.length (fun q s i wr => ∃ (k : Nat) (v : Value), k ≤ C.length ∧ q = C.length - k ∧ v = s ∧ i = .int .i64 k ∧ Aside (EncSt W1 v (pb ++ (C.take k).flatMap chanB) wr ∧ (pb ++ (C.take k).flatMap chanB).length ≤ 300000000 + k * 7))
        case atStart => exact ⟨0, _, by omega, rfl, rfl, rfl, ⟨by simpa using EB.out.1, by simpa using EB.out.2⟩⟩
        case round =>
          obtain ⟨k, v, hk, rfl, rfl, rfl, T⟩ := hrel
          by_cases hkl : k < C.length
          · have hl := List.getElem?_eq_getElem hkl
            obtain ⟨x, hx⟩ : ∃ x, C[k] = x := ⟨_, rfl⟩
            rw [hx] at hl
            have HFx := Aside.mk (flat_succ chanB hl)
            obtain ⟨ad2, rfl, z0, z1, z2, z3, z4, z5, okx⟩ := Chans.at_ (elems_below HCh.out (bel_then hb1.out.1 T.out.1.bel)) k x hl
            obtain ⟨W2, HW2⟩ : ∃ W2, Aside (W2 = wr.alloc (.cells #[.int .u8 (ChanR.k x), .int .u8 (ChanR.f x), .int .u8 (ChanR.t x), .int .u8 (ChanR.z x), .int .u8 (ChanR.d x), .int .u16 (ChanR.y x)] 60)) := ⟨_, ⟨rfl⟩⟩
            have hX : W2.heap[wr.heap.size]? = some (.cells #[.int .u8 (ChanR.k x), .int .u8 (ChanR.f x), .int .u8 (ChanR.t x), .int .u8 (ChanR.z x), .int .u8 (ChanR.d x), .int .u16 (ChanR.y x)] 60 (0, 0)) := by rw [HW2.out]; exact heap_alloc_new _ _
            have hlt := lt_of_block hX
            obtain ⟨y0, y1, y2, y3, y4, y5, _⟩ := box6z hX
            have T2 : Aside (EncSt W1 v (pb ++ (C.take k).flatMap chanB) W2) := ⟨by rw [HW2.out]; exact T.out.1.below (bel_one _ _)⟩
            have okx5 := okx.y
            obtain ⟨o0, o1⟩ := okx5
            have HB : Aside (chanB x = [ChanR.k x, ChanR.f x, ChanR.t x, ChanR.z x, ChanR.d x, ChanR.y x / 256, ChanR.y x % 256]) := ⟨rfl⟩
            clear okx
            generalize ChanR.k x = xk at *
            generalize ChanR.f x = xf at *
            generalize ChanR.t x = xt at *
            generalize ChanR.z x = xz at *
            generalize ChanR.d x = xd at *
            generalize ChanR.y x = xy at *
            have x0 := u8_hi xy (by omega) (by omega)
            have x1 := u8_lo xy
            have hb1' := T.out.2
            clear hl hx hX
            go_upto_region 32 with (fail)
            rw [← HW2.out]
            clear z0 z1 z2 z3 z4 z5
            go_wp2_with (at_builtin; go_loud (refine append_bytes (W1 := W1) rfl _ _ rfl v (pb ++ (C.take k).flatMap chanB) [xk, xf, xt, xz, xd, xy / 256, xy % 256] 7 rfl rfl rfl T2.out (by omega) ?_))
            intro v8 w8 e8 _
            have E8 := Aside.mk e8
            clear e8 y0 y1 y2 y3 y4 y5 x0 x1
            go_wp2_with fail
            go_roundg (C.length - (k + 1))
            case measure => omega
            case rel =>
              refine ⟨k + 1, v8, by omega, rfl, rfl, by go_num, ?_⟩
              rw [HFx.out, HB.out, ← List.append_assoc]
              exact ⟨by simpa using E8.out, by rw [List.length_append]; simp only [List.length_cons, List.length_nil]; omega⟩
          · obtain rfl : k = C.length := by omega
            rw [List.take_length] at T
            clear hkl hk
            go_wp2_with fail
            go_meet
            case rel => exact ⟨_, rfl, ⟨T.out.1, by have := T.out.2; omega⟩⟩
      case rest =>
        obtain ⟨vC, rfl, EC⟩ := hcut
        obtain ⟨hb, hhb⟩ : ∃ hb, pb ++ (Plan.chans P).flatMap chanB = hb := ⟨_, rfl⟩
        have HHB := Aside.mk hhb
        rw [hhb] at EC
        clear hhb
        have HE2 : Aside (encL P = hb ++ (Plan.pairs P).flatMap pairB) := ⟨by rw [HE.out, HCB.out, HPB.out, HHB.out]⟩
        have HQ := Aside.mk HP.out.pairs
        obtain ⟨p0, p1, p2, p3, p4⟩ := box5 (hup EC.out.1.bel hb1.out.2)
        go_upto_block 10 with (fail)
        clear p0 p1 p2 p3 p4
        generalize Plan.pairs P = C at *
        go_wp2_with fail
        go_loopg [5, 171] C.length (fun q s i wr => ∃ (k : Nat) (v : Value), k ≤ C.length ∧ q = C.length - k ∧ v = s ∧ i = .int .i64 k ∧ Aside (EncSt W1 v (hb ++ (C.take k).flatMap pairB) wr ∧ (hb ++ (C.take k).flatMap pairB).length ≤ 400000000 + k * 2))
        case atStart => exact ⟨0, _, by omega, rfl, rfl, rfl, ⟨by simpa using EC.out.1, by simpa using EC.out.2⟩⟩
        case round =>
          obtain ⟨k, v, hk, rfl, rfl, rfl, T⟩ := hrel
          by_cases hkl : k < C.length
          · have hl := List.getElem?_eq_getElem hkl
            obtain ⟨x, hx⟩ : ∃ x, C[k] = x := ⟨_, rfl⟩
            rw [hx] at hl
            have HFx := Aside.mk (flat_succ pairB hl)
            obtain ⟨ad2, rfl, z0, z1, okx⟩ := Pairs.at_ (elems_below HQ.out (bel_then hb1.out.1 T.out.1.bel)) k x hl
            obtain ⟨W2, HW2⟩ : ∃ W2, Aside (W2 = wr.alloc (.cells #[.int .u8 (PairR.a x), .int .u8 (PairR.b x)] 62)) := ⟨_, ⟨rfl⟩⟩
            have hX : W2.heap[wr.heap.size]? = some (.cells #[.int .u8 (PairR.a x), .int .u8 (PairR.b x)] 62 (0, 0)) := by rw [HW2.out]; exact heap_alloc_new _ _
            have hlt := lt_of_block hX
            have y0 : W2.cell? ⟨wr.heap.size, 0, none⟩ = some (.int .u8 (PairR.a x)) := by simp [World.cell?, hX]
            have y1 : W2.cell? ⟨wr.heap.size, 1, none⟩ = some (.int .u8 (PairR.b x)) := by simp [World.cell?, hX]
            have T2 : Aside (EncSt W1 v (hb ++ (C.take k).flatMap pairB) W2) := ⟨by rw [HW2.out]; exact T.out.1.below (bel_one _ _)⟩
            have HB : Aside (pairB x = [PairR.a x, PairR.b x]) := ⟨rfl⟩
            clear okx
            generalize PairR.a x = xk at *
            generalize PairR.b x = xf at *
            have hb1' := T.out.2
            clear hl hx hX
            go_upto_region 37 with (fail)
            rw [← HW2.out]
            clear z0 z1
            go_wp2_with (at_builtin; go_loud (refine append_bytes (W1 := W1) rfl _ _ rfl v (hb ++ (C.take k).flatMap pairB) [xk, xf] 2 rfl rfl rfl T2.out (by omega) ?_))
            intro v8 w8 e8 _
            have E8 := Aside.mk e8
            clear e8 y0 y1
            go_wp2_with fail
            go_roundg (C.length - (k + 1))
            case measure => omega
            case rel =>
              refine ⟨k + 1, v8, by omega, rfl, rfl, by go_num, ?_⟩
              rw [HFx.out, HB.out, ← List.append_assoc]
              exact ⟨by simpa using E8.out, by rw [List.length_append]; simp only [List.length_cons, List.length_nil]; omega⟩
          · obtain rfl : k = C.length := by omega
            rw [List.take_length] at T
            clear hkl hk
            go_wp2_with fail
            go_ret2
            exact ⟨_, _, rfl, bel_then hb1.out.1 T.out.1.bel, by rw [HYQ.out]; rfl, fun _ => by rw [HE2.out]; exact own_down T.out.1.own hb1.out.1.size, fun h => absurd HYQ.out h⟩
end Go.Proofs.YtbphlapdhcgikaaDoor
