/- The table: over all windows of a partition; its share. -/
import Derived.Test.YtmfddaihepjfeaaTabC
namespace Go.Proofs.Ytmfddaihepjfeaa
open Go.RowKit
set_option linter.unusedVariables false
set_option linter.unusedSimpArgs false

/-- The windows of a partition, in order. -/
def matchS (C : List (List Win)) (part : Int) : List Win := C.flatten.filter fun x => decide (Win.p x = part)
theorem matchS_snoc {C : List (List Win)} {k : Nat} {L : List Win} (h : C[k]? = some L) (part : Int) : matchS (C.take (k + 1)) part = matchS (C.take k) part ++ L.filter fun x => decide (Win.p x = part) := by
  rw [take_snoc h, matchS, List.flatten_append, List.filter_append]; simp [matchS]
theorem filter_yes {L : List Win} {j : Nat} {x : Win} {part : Int} (h : L[j]? = some x) (hp : Win.p x = part) : (L.take (j + 1)).filter (fun x => decide (Win.p x = part)) = (L.take j).filter (fun x => decide (Win.p x = part)) ++ [x] := by
  rw [take_snoc h, List.filter_append]; simp [hp]
theorem filter_no {L : List Win} {j : Nat} {x : Win} {part : Int} (h : L[j]? = some x) (hp : ¬ Win.p x = part) : (L.take (j + 1)).filter (fun x => decide (Win.p x = part)) = (L.take j).filter (fun x => decide (Win.p x = part)) := by
  rw [take_snoc h, List.filter_append]; simp [hp]

theorem match_pre {C : List (List Win)} {k j : Nat} {L : List Win} {x : Win} {part : Int} (hL : C[k]? = some L) (hx : L[j]? = some x) (hp : Win.p x = part) : ∃ r, matchS C part = (matchS (C.take k) part ++ (L.take j).filter fun x => decide (Win.p x = part)) ++ [x] ++ r := by
  refine ⟨(L.drop (j + 1)).filter (fun x => decide (Win.p x = part)) ++ matchS (C.drop (k + 1)) part, ?_⟩
  have h1 : matchS C part = matchS (C.take (k + 1)) part ++ matchS (C.drop (k + 1)) part := by
    rw [matchS, matchS, matchS, ← List.filter_append, ← List.flatten_append, List.take_append_drop]
  have h2 : (L.filter fun x => decide (Win.p x = part)) = (L.take (j + 1)).filter (fun x => decide (Win.p x = part)) ++ (L.drop (j + 1)).filter (fun x => decide (Win.p x = part)) := by
    rw [← List.filter_append, List.take_append_drop]
  rw [h1, matchS_snoc hL, h2, filter_yes hx hp]
  simp

set_option maxHeartbeats 3200000 in
theorem windows_any (wb w : World) (v : Value) (P : Plan) (part : Int) (hv : PlanV wb v P) (g : FuncId) (caps : Array Value) (hg : ∀ args w, (callFunc g args).run Try.prog w = .ok (.enter g args) w) (S : Nat → Prop) (hS : ∀ k, S k → k < w.heap.size)
    (J : List Win → World → Prop) (hJ : ∀ d a b, J d a → Below a.heap.size a b → J d b) (hJb : ∀ d a, J d a → Below wb.heap.size wb a)
    (hf : ∀ d x a, J d a → Win.Ok x → Win.p x = part → (∃ r, matchS (Plan.cores P) part = d ++ [x] ++ r) → Calls Try.prog g (#[Win.val x] ++ caps) a fun e b => e = .returned (.tuple #[]) ∧ J (d ++ [x]) b ∧ Kept S a b) (h0 : J [] w) :
    Calls Try.prog 32 #[v, .int .i64 part, .func (.func g) #[] caps] w fun e w' => e = .returned (.tuple #[]) ∧ J (matchS (Plan.cores P) part) w' ∧ Kept S w w' := by
  obtain ⟨a0, c0, a1, c1, a2, c2, a3, c3, rfl, hp, hlen⟩ := hv.open_
  have HC := Aside.mk hp.cores
  clear hp hv
  generalize Plan.cores P = C at *
  have HF := Aside.mk hf
  have HJ := Aside.mk (And.intro hJ hJb)
  have HS := Aside.mk hS
  obtain ⟨W1, HW⟩ : ∃ W1, Aside (W1 = w.alloc (.cells #[.int .u16 (Plan.frame P), .slice a0 C.length c0, .slice a1 (Plan.parts P).length c1, .slice a2 (Plan.chans P).length c2, .slice a3 (Plan.pairs P).length c3] 28)) := ⟨_, ⟨rfl⟩⟩
  have hb1 : Aside (Below w.heap.size w W1) := ⟨by rw [HW.out]; exact bel_one _ _⟩
  have hbox : Aside (W1.heap[w.heap.size]? = some (.cells #[.int .u16 (Plan.frame P), .slice a0 C.length c0, .slice a1 (Plan.parts P).length c1, .slice a2 (Plan.chans P).length c2, .slice a3 (Plan.pairs P).length c3] 28 (0, 0))) := ⟨by rw [HW.out]; exact heap_alloc_new _ _⟩
  have hJ1 : Aside (J [] W1) := ⟨hJ _ _ _ h0 hb1.out⟩
  have hc1 : W1.cell? ⟨w.heap.size, 1, none⟩ = some (.slice a0 C.length c0) := by have := hbox.out; simp [World.cell?, this]
  clear hf hJ hJb hS h0
  go_enter Try.func32, Try.ntmps32
  go_wp2_with fail
  rw [← HW.out]
  clear hc1
  go_loopw [13] (fun i wr => ∃ k : Nat, k ≤ C.length ∧ i = .int .i64 k ∧ Aside (J (matchS (C.take k) part) wr ∧ Kept S W1 wr)) (fun i _ => C.length - (intOf i).toNat)
  case atStart => exact ⟨0, by omega, rfl, ⟨hJ1.out, Kept.refl _ _⟩⟩
  case round =>
    obtain ⟨k, hk, rfl, T⟩ := hrel
    by_cases hkl : k < C.length
    · have hl := List.getElem?_eq_getElem hkl
      obtain ⟨L, hL⟩ : ∃ L, C[k] = L := ⟨_, rfl⟩
      rw [hL] at hl
      obtain ⟨ad2, lv, rfl, hlv0, hwins⟩ := HC.out.at_ k L hl
      obtain ⟨la, lc, rfl, hlL⟩ := hwins.len
      have HL := Aside.mk hl
      have HW2 := Aside.mk hwins
      have hlv := (Kept.of_below (S := fun _ => False) (HJ.out.2 _ _ T.out.1)).cell hlv0 id
      clear hl hL hwins hlv0
      go_wp2_with fail
      clear hlv
      go_loopw [19] (fun i wq => ∃ j : Nat, j ≤ L.length ∧ i = .int .i64 j ∧ Aside (J (matchS (C.take k) part ++ (L.take j).filter fun x => decide (Win.p x = part)) wq ∧ Kept S W1 wq)) (fun i _ => L.length - (intOf i).toNat)
      case atStart => exact ⟨0, by omega, rfl, ⟨by simpa using T.out.1, T.out.2⟩⟩
      case round =>
        obtain ⟨j, hj, rfl, U⟩ := hrel
        by_cases hjl : j < L.length
        · have hx := List.getElem?_eq_getElem hjl
          obtain ⟨X, hX⟩ : ∃ X, L[j] = X := ⟨_, rfl⟩
          rw [hX] at hx
          obtain ⟨ad3, rfl, d0, d1, d2, d3, ok⟩ := (HW2.out.below (HJ.out.2 _ _ U.out.1)).at_ j X hx
          have OK := Aside.mk ok
          have HX := Aside.mk hx
          obtain ⟨p0, p1⟩ := ok.p
          have U2 : Aside (J (matchS (C.take k) part ++ (L.take j).filter fun x => decide (Win.p x = part)) (wr.alloc (.cells #[.int .u16 (Win.s X), .int .u16 (Win.l X), .int .u8 (Win.p X), .int .u8 (Win.g X)] 41)) ∧ Kept S W1 (wr.alloc (.cells #[.int .u16 (Win.s X), .int .u16 (Win.l X), .int .u8 (Win.p X), .int .u8 (Win.g X)] 41))) := ⟨HJ.out.1 _ _ _ U.out.1 (bel_one _ _), U.out.2.alloc _⟩
          have HK := Aside.mk (fun h => HF.out _ X _ U2.out.1 OK.out h (match_pre HL.out HX.out h))
          unfold Win.val at HK
          clear hx hX ok
          by_cases hpp : Win.p X = part
          · have HP := Aside.mk hpp
            have K := HK.out hpp
            have hp2 : (Win.p X == part) = true := by simp [hpp]
            have K := Aside.mk K
            clear hpp
            go_wp2_with fail
            refine K.out.mono ?_
            rintro e w2 ⟨rfl, j2, k2⟩
            have J2 := Aside.mk (And.intro j2 k2)
            clear j2 k2 d0 d1 d2 d3
            go_wp2_with fail
            go_roundw
            case rel => exact ⟨j + 1, by omega, by go_num, ⟨by rw [filter_yes HX.out HP.out, ← List.append_assoc]; exact J2.out.1, U2.out.2.trans J2.out.2⟩⟩
            case measure => simp [intOf]; omega
          · have HP := Aside.mk hpp
            go_wp2_with fail
            go_roundw
            case rel => exact ⟨j + 1, by omega, by go_num, ⟨by rw [filter_no HX.out HP.out]; exact U2.out.1, U2.out.2⟩⟩
            case measure => simp [intOf]; omega
        · obtain rfl : j = L.length := by omega
          go_wp2_with fail
          go_roundw
          case rel => exact ⟨k + 1, by omega, by go_num, ⟨by rw [matchS_snoc HL.out]; have := U.out.1; rwa [List.take_length] at this, U.out.2⟩⟩
          case measure => simp [intOf]; omega
    · obtain rfl : k = C.length := by omega
      go_wp2_with fail
      refine bodyPost_end (v := .tuple #[]) (by simp [results, Try.results32, go_sem]) rfl ⟨rfl, ?_, ?_⟩
      · have := T.out.1
        rwa [List.take_length] at this
      · exact (Kept.of_below hb1.out).trans T.out.2

/-! ### Share -/
def shareS (C : List (List Win)) (part : Int) : Int := ((matchS C part).map fun x => Win.l x).sum
theorem callFunc_share1 (args : Array Value) (w : World) : (callFunc 33 args).run Try.prog w = .ok (.enter 33 args) w := by kernel_rfl
def sumL (d : List Win) : Int := (d.map fun x => Win.l x).sum
theorem sumL_snoc (d : List Win) (x : Win) : sumL (d ++ [x]) = sumL d + Win.l x := by simp [sumL]
/-- Share's state: the number's cell. -/
structure ShSt (wb : World) (B : Nat) (d : List Win) (a : World) : Prop where
  below : Below wb.heap.size wb a
  n : a.heap[B]? = some (.cells #[.int .i64 (sumL d)] 3 (0, 0))
  hB : wb.heap.size ≤ B
  len : 0 ≤ sumL d ∧ sumL d ≤ 65535 * (d.length : Int)
theorem share1_any (wb : World) (B : Nat) (d : List Win) (x : Win) (a : World) (hx : Win.Ok x) (S : ShSt wb B d a) (hd : d.length ≤ 1000000) :
    Calls Try.prog 33 #[Win.val x, .pointer (some ⟨B, 0, none⟩)] a fun e b => e = .returned (.tuple #[]) ∧ ShSt wb B (d ++ [x]) b ∧ Kept (fun k => k = B) a b := by
  obtain ⟨⟨s0, s1⟩, ⟨l0, l1⟩, ⟨p0, p1⟩, ⟨g0, g1⟩⟩ := hx
  have hlt := lt_of_block S.n
  have hc := cell_of_one S.n
  have hf := free_of_one S.n
  have S0 := Aside.mk S
  obtain ⟨n0, n1⟩ := S.len
  have HE := Aside.mk (sumL_snoc d x)
  have hN := S.n
  obtain ⟨n, hn⟩ : ∃ n, sumL d = n := ⟨_, rfl⟩
  rw [hn] at HE hN n0 n1 hc
  have HN := Aside.mk hN
  clear S hN hn
  unfold Win.val
  generalize Win.s x = sx at *
  generalize Win.l x = lx at *
  generalize Win.p x = px at *
  generalize Win.g x = gx at *
  go_enter Try.func33, Try.ntmps33
  go_wp2_with fail
  have hk : Kept (fun k => k = B) a ((a.setCell ⟨B, 0, none⟩ (.int .i64 (n + lx))).alloc (.cells #[.int .u16 sx, .int .u16 lx, .int .u8 px, .int .u8 gx] 41)) := ((Kept.refl (fun k => k = B) a).setCell (p := ⟨B, 0, none⟩) (.inl rfl) _).alloc _
  refine bodyPost_end (v := .tuple #[]) (by simp [results, Try.results33, go_sem]) rfl ⟨rfl, ⟨?_, ?_, S0.out.hB, ?_⟩, hk⟩
  · exact S0.out.below.trans (hk.below S0.out.below.size (fun k e => by subst e; exact S0.out.hB))
  · rw [HE.out]
    have h2 := heap_setCell_at (off := 0) HN.out (.int .i64 (n + lx))
    exact ((bel_one _ _).block _ (lt_of_block h2)).trans (by simpa using h2)
  · rw [HE.out, List.length_append, List.length_singleton]
    omega

theorem matchS_len (C : List (List Win)) (part : Int) (h : ∀ L ∈ C, L.length ≤ 256) (hC : C.length ≤ 8) : (matchS C part).length ≤ 2048 := by
  refine Nat.le_trans (List.length_filter_le _ _) ?_
  rw [List.length_flatten]
  have : ∀ C : List (List Win), (∀ L ∈ C, L.length ≤ 256) → (C.map List.length).sum ≤ 256 * C.length := by
    intro C
    induction C with
    | nil => simp
    | cons L C ih =>
      intro h
      have := ih (fun M hM => h M (List.mem_cons_of_mem _ hM))
      have := h L (List.mem_cons_self ..)
      simp only [List.map_cons, List.sum_cons, List.length_cons]
      omega
  have := this C h
  omega
set_option maxHeartbeats 800000 in
theorem share_any (w : World) (v : Value) (P : Plan) (part : Int) (hv : PlanV w v P) (hL : ∀ L ∈ Plan.cores P, L.length ≤ 256) (hC : (Plan.cores P).length ≤ 8) :
    Calls Try.prog 20 #[v, .int .i64 part] w fun e w' => e = .returned (.int .i64 (sumL (matchS (Plan.cores P) part))) ∧ Below w.heap.size w w' := by
  have hv0 := hv
  obtain ⟨a0, c0, a1, c1, a2, c2, a3, c3, rfl, hp, hlen⟩ := hv.open_
  have hlm := matchS_len (Plan.cores P) part hL hC
  obtain ⟨W1, HW⟩ : ∃ W1, Aside (W1 = (w.alloc (.cells #[.int .u16 (Plan.frame P), .slice a0 (Plan.cores P).length c0, .slice a1 (Plan.parts P).length c1, .slice a2 (Plan.chans P).length c2, .slice a3 (Plan.pairs P).length c3] 28)).alloc (.cells #[.int .i64 0] 3)) := ⟨_, ⟨rfl⟩⟩
  have hS : ShSt w (w.heap.size + 1) [] W1 := by
    rw [HW.out]
    refine ⟨bel_two _ _ _, ?_, by omega, by simp [sumL]⟩
    have := heap_alloc_new (w.alloc (.cells #[.int .u16 (Plan.frame P), .slice a0 (Plan.cores P).length c0, .slice a1 (Plan.parts P).length c1, .slice a2 (Plan.chans P).length c2, .slice a3 (Plan.pairs P).length c3] 28)) (.cells #[.int .i64 0] 3)
    simpa [sumL] using this
  have K := Aside.mk (windows_any w W1 _ P part hv0 33 #[.pointer (some ⟨w.heap.size + 1, 0, none⟩)] callFunc_share1 (fun k => k = w.heap.size + 1) (fun k e => by subst e; exact lt_of_block hS.n)
    (fun d a => ShSt w (w.heap.size + 1) d a) (fun d a b S k => ⟨S.below.trans (k.mono S.below.size), (k.block _ (lt_of_block S.n)).trans S.n, S.hB, S.len⟩) (fun d a S => S.below)
    (fun d x a S ok hp ⟨r, hr⟩ => share1_any w _ d x a ok S (by
      have : (matchS (Plan.cores P) part).length = d.length + 1 + r.length := by rw [hr]; simp; omega
      omega)) hS)
  have HS := Aside.mk hS
  have g0 : W1.cell? ⟨w.heap.size, 0, none⟩ = some (.int .u16 (Plan.frame P)) := by rw [HW.out]; simp
  clear hp hS hv hv0
  go_enter Try.func20, Try.ntmps20
  go_wp2_with fail
  rw [← HW.out]
  refine K.out.mono ?_
  rintro e w' ⟨rfl, S, _⟩
  have c1 := cell_of_one S.n
  have S1 := Aside.mk S
  clear S g0
  go_wp2_with fail
  go_ret
  exact ⟨rfl, S1.out.below⟩
end Go.Proofs.Ytmfddaihepjfeaa
