/- The reference's Serves. Layer 24's laws: begun, whatever is looked at. Layer 24's laws: begun is walked. Layer 24, plain: who enters or runs a window has the tick in it. Layer 24's laws: WindowInside. Layer 24's laws: WindowInside, whole. -/
import Derived.Test.YtidjkhmlpgkaaaaDoorMgA
import Derived.Test.YtidjkhmlpgkaaaaDoorMgP
import Derived.Test.YtidjkhmlpgkaaaaDoorMgLP
namespace Go.Proofs.YtidjkhmlpgkaaaaDoor
open Go.RowKit
set_option linter.unusedVariables false
set_option linter.unusedSimpArgs false
theorem rserves_any (w : World) (v : Value) (L : List Win) (t : Int) (hv : Wins w v L) :
    Calls Tryd.prog 15 #[v, .int .i64 t] w fun e w' => e = .returned (.int .i64 (servesS L t)) ∧ Below w.heap.size w w' := by
  have HV := Aside.mk hv
  obtain ⟨a, cap, rfl, hlen⟩ := hv.len
  clear hv
  go_enter Tryd.func15, Tryd.ntmps15
  go_wp2_with fail
  go_loopw [4, 5] (fun p i wr => ∃ k : Nat, k ≤ L.length ∧ i = .int .i64 k ∧ Aside (scan (atF L t) k = none ∧ Below w.heap.size w wr)) (fun _ i _ => L.length - (intOf i).toNat)
  case atStart => exact ⟨0, by omega, rfl, ⟨rfl, Below.refl _ _⟩⟩
  case round =>
    obtain ⟨k, hk, rfl, S⟩ := hrel
    by_cases hkl : k < L.length
    · have hl := List.getElem?_eq_getElem hkl
      obtain ⟨X, hX⟩ : ∃ X, L[k] = X := ⟨_, rfl⟩
      rw [hX] at hl
      obtain ⟨ad, rfl, e0, e1, e2, e3, ok⟩ := (HV.out.below S.out.2).at_ k X hl
      have KT := Aside.mk (fun w => has_any X ok t w)
      unfold Win.val at KT
      have HF : Aside (atF L t k = if hasS X t = true then some k else none) := ⟨by rw [atF, wAt_some hl]⟩
      have HX : Aside (wAt L k = X) := ⟨wAt_some hl⟩
      have HL := Aside.mk hl
      obtain ⟨b, hb⟩ : ∃ b, hasS X t = b := ⟨_, rfl⟩
      rw [hb] at KT HF
      obtain ⟨p0, p1⟩ := ok.p
      clear hl hX hb ok
      go_wp2_with fail
      refine (KT.out _).mono ?_
      rintro e w' ⟨rfl, b1⟩
      have S1 := Aside.mk (bel_then S.out.2 b1)
      obtain ⟨ad', q, d0, d1, d2, d3, _⟩ := (HV.out.below S1.out).at_ k X HL.out
      obtain rfl : ad = ad' := by injection q
      clear b1 e0 e1 e2 e3 q d0 d1 d3
      cases b
      · go_wp2_with fail
        go_roundw
        case rel => exact ⟨k + 1, by omega, by go_num, ⟨by rw [scan_succ S.out.1, HF.out]; rfl, S1.out⟩⟩
        case measure => simp [intOf]; omega
      · have HR : Aside (servesS L t = Win.p X) := ⟨by rw [serves_of (scan_some S.out.1 HF.out hkl), HX.out]⟩
        go_wp2_with fail
        rw [HR.out]
        go_ret
        exact ⟨rfl, S1.out⟩
    · obtain rfl : k = L.length := by omega
      have HR : Aside (servesS L t = -1) := ⟨serves_no S.out.1⟩
      go_wp2_with fail
      rw [HR.out]
      go_ret
      exact ⟨rfl, S.out.2⟩
end Go.Proofs.YtidjkhmlpgkaaaaDoor

namespace Go.Proofs.YtidjkhmlpgkaaaaDoor
open Go.RowKit
set_option linter.unusedVariables false
set_option linter.unusedSimpArgs false

/-- An act: a tick that passes (below 0), or a core that is picked. -/
def actS (C : List (List Win)) (F : Int) (s : Sq) (a : Int) : Sq := if a < 0 then passS C F s else pickT C F s a
/-- Behind the first k acts. -/
def runS (C : List (List Win)) (F : Int) (A : List Int) : Nat → Sq
  | 0 => initS C
  | k + 1 => actS C F (runS C F A k) (A.getD k 0)
/-- The sequencer in a call's world; the plan's copy reads on whatever becomes of what is older than w. -/
structure BgSt (w w0 W : World) (l : Loc) (P : Plan) (s : Sq) (n : Nat) : Prop where
  st : SqSt w0 W l P s n
  old : w.heap.size ≤ w0.heap.size
  hi : l.hi ≤ W.heap.size
  stab : ∀ V, Kept (fun k => k < w.heap.size) w0 V → PlanAt V (l.cv (Plan.cores P)) l.pv l.hv l.qv P
theorem BgSt.act {w w0 W W' : World} {l : Loc} {P : Plan} {s s' : Sq} {n n' : Nat} (h : BgSt w w0 W l P s n) (t : SqSt w0 W' l P s' n') (k : Kept (l.own w0) W W') : BgSt w w0 W' l P s' n' :=
  ⟨t, h.old, Nat.le_trans h.hi k.size, h.stab⟩
/-- A world's old part. -/
def cutW (W : World) (n : Nat) : World := { W with heap := W.heap.extract 0 n }
theorem cutW_size (W : World) (n : Nat) (h : n ≤ W.heap.size) : (cutW W n).heap.size = n := by simp [cutW]; omega
theorem cutW_get (W : World) (n k : Nat) (hk : k < n) (h : n ≤ W.heap.size) : (cutW W n).heap[k]? = W.heap[k]? := by
  show (W.heap.extract 0 n)[k]? = _
  rw [Array.getElem?_extract]
  simp
  omega
/-- Blocks older than w are changed: the same sequencer, over another old part. -/
theorem BgSt.turn {w w0 W W' : World} {l : Loc} {P : Plan} {s : Sq} {n : Nat} {S : Nat → Prop} (h : BgSt w w0 W l P s n) (k : Kept S W W') (hS : ∀ j, S j → j < w.heap.size ∧ j ≠ 0) :
    ∃ w1, w1.heap.size = w0.heap.size ∧ BgSt w w1 W' l P s n := by
  have hb := h.st.below0
  have hz : w0.heap.size ≤ W'.heap.size := Nat.le_trans hb.size k.size
  have hsz := cutW_size W' w0.heap.size hz
  have hold := h.old
  have b1 : Below (cutW W' w0.heap.size).heap.size (cutW W' w0.heap.size) W' := ⟨rfl, rfl, rfl, by rw [hsz]; exact hz, fun j hj => by rw [hsz] at hj; exact (cutW_get W' _ j hj hz).symm⟩
  have kb : Kept (fun j => j < w.heap.size) w0 (cutW W' w0.heap.size) := ⟨k.os.trans hb.os, k.tape.trans hb.tape, k.output.trans hb.output, by rw [hsz]; exact Nat.le_refl _, fun j hj hn => by
    rw [cutW_get W' _ j hj hz, k.block j (Nat.lt_of_lt_of_le hj hb.size) (fun q => hn (hS j q).1), hb.block j hj]⟩
  have big : ∀ j, w0.heap.size ≤ j → ¬ S j := fun j hj q => by have := (hS j q).1; omega
  obtain ⟨c, c0, c1, m⟩ := h.st.mem
  have lo := h.st.loc
  have st : SqSt (cutW W' w0.heap.size) W' l P s n := by
    refine ⟨⟨c, c0, c1, m.mem.kept k (big _ m.hB) (big _ m.hG), b1, m.look.kept k (fun q => (hS _ q).2 rfl), by rw [hsz]; exact m.hB, by rw [hsz]; exact m.hG, by rw [hsz]; exact m.h0⟩, h.st.seq.kept k (big _ lo.S.1), h.stab _ kb, fun d hd => (h.st.maps d hd).kept k (big _ (lo.M d hd).1), fun d g hg => (h.st.mbs d g hg).kept k (big _ (lo.K d g hg).1), ?_, h.st.ok, h.st.frame, h.st.cores⟩
    exact ⟨by rw [hsz]; exact lo.S, by rw [hsz]; exact lo.B, by rw [hsz]; exact lo.G, fun d hd => by rw [hsz]; exact lo.M d hd, fun d g hg => by rw [hsz]; exact lo.K d g hg, lo.SB, lo.SG⟩
  refine ⟨_, hsz, st, by rw [hsz]; exact hold, Nat.le_trans h.hi k.size, fun V kv => h.stab V ?_⟩
  exact kb.then_ kv (fun j hj => .inl hj)
theorem wnew_bg (w : World) (v : Value) (P : Plan) (hv : PlanV w v P) (hl : Look w) (hf : Few P) (hc : checkO P = none) : Calls Tryd.prog 21 #[v] w fun e w' => ∃ w0 l, e = .returned (.tuple #[.pointer (some ⟨Loc.S l, 0, none⟩), .int .i64 0]) ∧ BgSt w w0 w' l P (initS (Plan.cores P)) 0 ∧ Below w.heap.size w w' := by
  refine (wnew_any w v P hv hl hf).mono ?_
  intro e w' h
  unfold NewP at h
  rw [hc] at h
  obtain ⟨w0, l, rfl, a, b, c, d, e⟩ := h
  exact ⟨w0, l, rfl, ⟨a, c, d, e⟩, b⟩
theorem Ints.at_ {w : World} {k : IntKind} {v : Value} {xs : List Int} (h : Ints w k v xs) : ∃ a c, v = .slice a xs.length c ∧ xs.length ≤ 9223372036854775807 ∧ ∀ i, i < xs.length → ∃ ad, a = some ad ∧ w.cell? (ad.add i) = some (.int k (xs.getD i 0)) := by
  obtain ⟨A, c, rfl, h1, h2⟩ := h
  refine ⟨A, c, rfl, h1, fun i hi => ?_⟩
  obtain ⟨ad, rfl, h3⟩ := h2 (by omega)
  exact ⟨ad, rfl, h3 i hi⟩
end Go.Proofs.YtidjkhmlpgkaaaaDoor

namespace Go.Proofs.YtidjkhmlpgkaaaaDoor
open Go.RowKit
set_option linter.unusedVariables false
set_option linter.unusedSimpArgs false

set_option maxHeartbeats 6400000 in
theorem begun_any (w : World) (v : Value) (P : Plan) (hv : PlanV w v P) (hl : Look w) (hf : Few P) (av : Value) (A : List Int) (hA : Ints w .i16 av A) (hAr : ∀ x ∈ A, -32768 ≤ x ∧ x ≤ 32767)
    (F : FuncId) (caps : Array Value) (hg : ∀ args w, (callFunc F args).run Tryd.prog w = .ok (.enter F args) w) (S : Nat → Prop) (hS : ∀ j, S j → j < w.heap.size ∧ j ≠ 0) (hSA : 0 < A.length → ∀ b, av.ownBlock = some b → ¬ S b)
    (J : Nat → World → Prop) (hJ0 : J 0 w) (hJ : ∀ k W W', J k W → Kept (fun j => w.heap.size ≤ j) W W' → J k W')
    (hF : checkO P = none → ∀ k, k < A.length → k < 200 → ∀ w0 W l, BgSt w w0 W l P (runS (Plan.cores P) (Plan.frame P) A (k + 1)) (k + 1) → J k W →
      Calls Tryd.prog F (#[.pointer (some ⟨l.S, 0, none⟩), .int .i16 (A.getD k 0)] ++ caps) W fun e w' => e = .returned (.bool true) ∧ J (k + 1) w' ∧ Kept S W w') :
    Calls Tryd.prog 11 #[v, av, .func (.func F) #[] caps] w fun e w' => ∃ q, e = .returned (.tuple #[.pointer q, .bool true]) ∧ Kept (fun j => S j ∨ w.heap.size ≤ j) w w' := by
  have HV := Aside.mk hv
  have HL := Aside.mk hl
  have HF := Aside.mk hf
  have HA := Aside.mk hA
  have HAr := Aside.mk hAr
  have HS := Aside.mk (And.intro hS hSA)
  have HJ := Aside.mk (And.intro hJ0 hJ)
  have HFF := Aside.mk hF
  obtain ⟨a0, c0, a1, c1, a2, c2, a3, c3, rfl, hp, hlen⟩ := hv.open_
  obtain ⟨W1, HW⟩ : ∃ W1, Aside (W1 = w.alloc (.cells #[.int .u16 (Plan.frame P), .slice a0 (Plan.cores P).length c0, .slice a1 (Plan.parts P).length c1, .slice a2 (Plan.chans P).length c2, .slice a3 (Plan.pairs P).length c3] 28)) := ⟨_, ⟨rfl⟩⟩
  have hb1 : Aside (Below w.heap.size w W1 ∧ W1.heap[w.heap.size]? = some (.cells #[.int .u16 (Plan.frame P), .slice a0 (Plan.cores P).length c0, .slice a1 (Plan.parts P).length c1, .slice a2 (Plan.chans P).length c2, .slice a3 (Plan.pairs P).length c3] 28 (0, 0))) := ⟨by rw [HW.out]; exact ⟨bel_one _ _, heap_alloc_new _ _⟩⟩
  obtain ⟨x0, x1, x2, x3, x4⟩ := lbox5 hb1.out.2
  obtain ⟨aa, ac, rfl, hAl, _⟩ := hA.at_
  have kb : ∀ W, Below W1.heap.size W1 W → Kept (fun j => S j ∨ w.heap.size ≤ j) w W := fun W b => Kept.of_below (bel_then hb1.out.1 b)
  have KB := Aside.mk kb
  clear hv hl hf hp hA hAr hS hSA hJ0 hJ hF kb
  rcases hq : checkO P with _ | x
  · have KN := Aside.mk (wnew_bg W1 _ P (HV.out.below hb1.out.1) (HL.out.below hb1.out.1) HF.out hq)
    have HC := Aside.mk (HFF.out hq)
    clear hq
    go_enter Tryd.func11, Tryd.ntmps11
    go_wp2_with fail
    rw [← HW.out]
    go_wp2_with fail
    refine KN.out.mono ?_
    rintro e w2 ⟨w0, l, rfl, r, b2⟩
    have R : Aside (BgSt w w0 w2 l P (runS (Plan.cores P) (Plan.frame P) A 0) 0 ∧ J 0 w2 ∧ Kept (fun j => S j ∨ w.heap.size ≤ j) w w2) := ⟨⟨⟨r.st, Nat.le_trans hb1.out.1.size r.old, r.hi, fun V k => r.stab V (k.mono (fun j hj => by have := hb1.out.1.size; omega))⟩, HJ.out.2 0 w w2 HJ.out.1 (Kept.of_below (bel_then hb1.out.1 b2)), KB.out w2 b2⟩⟩
    clear r b2 KN x0 x1 x2 x3 x4
    go_wp2_with fail
    go_loopw [10] (fun i wr => ∃ k : Nat, k ≤ A.length ∧ k ≤ 200 ∧ i = .int .i64 k ∧ Aside (∃ w0, BgSt w w0 wr l P (runS (Plan.cores P) (Plan.frame P) A k) k ∧ J k wr ∧ Kept (fun j => S j ∨ w.heap.size ≤ j) w wr)) (fun i _ => A.length - (intOf i).toNat)
    case atStart => exact ⟨0, by omega, by omega, rfl, ⟨_, R.out⟩⟩
    case round =>
      obtain ⟨k, hk, hk2, rfl, ⟨w0, T, j0, kk⟩⟩ := hrel
      by_cases hkl : k < A.length
      · by_cases hk200 : k < 200
        · have hk200' : (k : Int) < 200 := by omega
          have CEL : Aside (∀ W, Kept (fun j => S j ∨ w.heap.size ≤ j) w W → ∃ ad, aa = some ad ∧ W.cell? (ad.add k) = some (.int .i16 (A.getD k 0))) := ⟨fun W q => by
            have h0 := HA.out
            obtain ⟨a', c', e', _, h1⟩ := h0.at_
            injection e' with e1 e2 e3
            subst e1
            obtain ⟨ad, rfl, h2⟩ := h1 k hkl
            refine ⟨ad, rfl, q.cell h2 ?_⟩
            have hb := World.block_lt_of_cell? _ _ h2
            have hbe : (ad.add k).block = ad.block := by unfold Addr.add; split <;> rfl
            rw [hbe] at hb ⊢
            rintro (q | q)
            · exact HS.out.2 (by omega) ad.block rfl q
            · omega⟩
          obtain ⟨ad, rfl, c1⟩ := CEL.out wr kk
          have hr := HAr.out (A.getD k 0) (by rw [List.getD_eq_getElem?_getD, List.getElem?_eq_getElem hkl]; exact List.getElem_mem hkl)
          have HE : Aside (runS (Plan.cores P) (Plan.frame P) A (k + 1) = actS (Plan.cores P) (Plan.frame P) (runS (Plan.cores P) (Plan.frame P) A k) (A.getD k 0)) := ⟨rfl⟩
          have KF := Aside.mk (HC.out k hkl hk200)
          have TT := Aside.mk (And.intro T (And.intro j0 kk))
          have STEP : Aside (∀ w5 s', SqSt w0 w5 l P s' (k + 1) → Kept (l.own w0) wr w5 → s' = runS (Plan.cores P) (Plan.frame P) A (k + 1) → BgSt w w0 w5 l P (runS (Plan.cores P) (Plan.frame P) A (k + 1)) (k + 1) ∧ J k w5 ∧ Kept (fun j => S j ∨ w.heap.size ≤ j) w w5) := ⟨fun w5 s' t q e => by
            subst e
            have hold := TT.out.1.old
            have q' : Kept (fun j => w.heap.size ≤ j) wr w5 := q.mono (fun j hj => by have := hj.1; omega)
            exact ⟨TT.out.1.act t q, HJ.out.2 k wr w5 TT.out.2.1 q', TT.out.2.2.trans (q'.mono (fun j hj => .inr hj))⟩⟩
          have FIN : Aside (∀ w5 w6, BgSt w w0 w5 l P (runS (Plan.cores P) (Plan.frame P) A (k + 1)) (k + 1) ∧ J k w5 ∧ Kept (fun j => S j ∨ w.heap.size ≤ j) w w5 → J (k + 1) w6 → Kept S w5 w6 → ∃ w0, BgSt w w0 w6 l P (runS (Plan.cores P) (Plan.frame P) A (k + 1)) (k + 1) ∧ J (k + 1) w6 ∧ Kept (fun j => S j ∨ w.heap.size ≤ j) w w6) := ⟨fun w5 w6 h j1 q => by
            obtain ⟨w7, _, h7⟩ := h.1.turn q HS.out.1
            exact ⟨w7, h7, j1, h.2.2.trans (q.mono (fun j hj => .inl hj))⟩⟩
          generalize A.getD k 0 = a at *
          clear T j0 kk
          by_cases ha : a < 0
          · have KT := Aside.mk (Tick_any TT.out.1.st)
            have HE2 : Aside (passS (Plan.cores P) (Plan.frame P) (runS (Plan.cores P) (Plan.frame P) A k) = runS (Plan.cores P) (Plan.frame P) A (k + 1)) := ⟨by rw [HE.out, actS, if_pos ha]⟩
            clear HE
            go_wp2_with fail
            refine KT.out.mono ?_
            rintro e w5 ⟨rfl, t5, k5⟩
            have R5 := Aside.mk (STEP.out w5 _ (t5.mono (Nat.le_succ k)) k5 HE2.out)
            have K5 := Aside.mk (KF.out w0 w5 l R5.out.1 R5.out.2.1)
            obtain ⟨ad', e', c5⟩ := CEL.out w5 R5.out.2.2
            injection e' with e'
            subst e'
            clear t5 k5 c1
            go_wp2_with fail
            refine K5.out.mono ?_
            rintro e w6 ⟨rfl, j6, k6⟩
            have R6 := Aside.mk (FIN.out w5 w6 R5.out j6 k6)
            clear j6 k6 c5
            go_wp2_with fail
            go_roundw
            case rel => exact ⟨k + 1, by omega, by omega, by go_num, R6⟩
            case measure => simp [intOf]; omega
          · have KT := Aside.mk (pick_any TT.out.1.st a (by omega))
            have HE2 : Aside (pickT (Plan.cores P) (Plan.frame P) (runS (Plan.cores P) (Plan.frame P) A k) a = runS (Plan.cores P) (Plan.frame P) A (k + 1)) := ⟨by rw [HE.out, actS, if_neg ha]⟩
            obtain ⟨pb, hpb⟩ : ∃ pb, pickB (Plan.cores P) (runS (Plan.cores P) (Plan.frame P) A k) a = pb := ⟨_, rfl⟩
            obtain ⟨pe, hpe⟩ : ∃ pe, pickE (Plan.cores P) a = pe := ⟨_, rfl⟩
            rw [hpb, hpe] at KT
            clear HE hpb hpe
            go_wp2_with fail
            refine KT.out.mono ?_
            rintro e w5 ⟨rfl, t5, k5⟩
            have R5 := Aside.mk (STEP.out w5 _ t5 k5 HE2.out)
            have K5 := Aside.mk (KF.out w0 w5 l R5.out.1 R5.out.2.1)
            obtain ⟨ad', e', c5⟩ := CEL.out w5 R5.out.2.2
            injection e' with e'
            subst e'
            clear t5 k5 c1
            go_wp2_with fail
            refine K5.out.mono ?_
            rintro e w6 ⟨rfl, j6, k6⟩
            have R6 := Aside.mk (FIN.out w5 w6 R5.out j6 k6)
            clear j6 k6 c5
            go_wp2_with fail
            go_roundw
            case rel => exact ⟨k + 1, by omega, by omega, by go_num, R6⟩
            case measure => simp [intOf]; omega
        · obtain rfl : k = 200 := by omega
          go_wp2_with fail
          go_ret2
          exact ⟨_, rfl, kk⟩
      · obtain rfl : k = A.length := by omega
        go_wp2_with fail
        go_ret2
        exact ⟨_, rfl, kk⟩
  · have KN := Aside.mk (wnew_no W1 _ P (HV.out.below hb1.out.1) (HL.out.below hb1.out.1) HF.out x hq)
    clear hq
    go_enter Tryd.func11, Tryd.ntmps11
    go_wp2_with fail
    rw [← HW.out]
    go_wp2_with fail
    refine KN.out.mono ?_
    rintro e w2 ⟨rfl, b2⟩
    go_wp2_with fail
    go_ret2
    exact ⟨_, rfl, KB.out w2 b2⟩
end Go.Proofs.YtidjkhmlpgkaaaaDoor

namespace Go.Proofs.YtidjkhmlpgkaaaaDoor
open Go.RowKit
set_option linter.unusedVariables false
set_option linter.unusedSimpArgs false

theorem tk_eq {F : Int} {s s' : Sq} (h : s'.now = s.now) : tkS F s' = tkS F s := by unfold tkS; rw [h]
theorem fr_eq {F : Int} {s s' : Sq} (h : s'.now = s.now) : frS F s' = frS F s := by unfold frS; rw [h]
theorem enter_now (C : List (List Win)) (F : Int) (s : Sq) (c : Nat) : (enterS C F s c).now = s.now := by
  unfold enterS
  split
  · rfl
  · split
    · rfl
    · split <;> rfl
theorem entering_now (C : List (List Win)) (s : Sq) (c : Nat) (g : Int) : (enteringS C s c g).now = s.now := by
  unfold enteringS
  split
  · rfl
  · split
    · rfl
    · split <;> rfl
theorem pick_now (C : List (List Win)) (F : Int) (s : Sq) (c : Nat) : (pickS C F s c).now = s.now := by
  unfold pickS
  split
  · rfl
  · split
    · exact enter_now _ _ _ _
    · split
      · exact entering_now _ _ _ _
      · rfl
theorem setCo_ne (s : Sq) (c : Nat) (x : Co) (d : Nat) (h : d ≠ c) : (s.setCo c x).co d = s.co d := by simp [Sq.setCo, h]
theorem setCo_eq (s : Sq) (c : Nat) (x : Co) : (s.setCo c x).co c = x := by simp [Sq.setCo]
theorem setSt_ne (s : Sq) (c : Nat) (k : Int) (d : Nat) (h : d ≠ c) : (s.setSt c k).co d = s.co d := setCo_ne _ _ _ _ h
theorem setSt_eq (s : Sq) (c : Nat) (k : Int) : (s.setSt c k).co c = { s.co c with st := k } := setCo_eq _ _ _
theorem enter_ne (C : List (List Win)) (F : Int) (s : Sq) (c d : Nat) (h : d ≠ c) : (enterS C F s c).co d = s.co d := by
  unfold enterS
  split
  · rfl
  · split
    · rfl
    · split
      · exact setCo_ne _ _ _ _ h
      · exact setCo_ne _ _ _ _ h
theorem entering_ne (C : List (List Win)) (s : Sq) (c d : Nat) (g : Int) (h : d ≠ c) : (enteringS C s c g).co d = s.co d := by
  unfold enteringS
  split
  · exact setSt_ne _ _ _ _ h
  · split
    · exact setSt_ne _ _ _ _ h
    · split
      · exact setSt_ne _ _ _ _ h
      · rfl
theorem pick_ne (C : List (List Win)) (F : Int) (s : Sq) (c d : Nat) (h : d ≠ c) : (pickS C F s c).co d = s.co d := by
  unfold pickS
  split
  · exact setSt_ne _ _ _ _ h
  · split
    · exact enter_ne _ _ _ _ _ h
    · split
      · exact entering_ne _ _ _ _ _ h
      · rfl
theorem enter_eq (C : List (List Win)) (F : Int) (s : Sq) (c : Nat) : (enterS C F s c).co c = s.co c ∨ ∃ i, atS (coreW C c) (tkS F s) = some i ∧ (enterS C F s c).co c = ⟨2, i, frS F s, i⟩ := by
  unfold enterS
  split
  · exact .inl rfl
  · rename_i i hi
    split
    · exact .inl rfl
    · refine .inr ⟨i, hi, ?_⟩
      split
      · exact setCo_eq _ _ _
      · exact setCo_eq _ _ _
theorem entering_eq (C : List (List Win)) (s : Sq) (c : Nat) (g : Int) : (enteringS C s c g).co c = { s.co c with st := 3 } ∨ (enteringS C s c g).co c = { s.co c with st := 1 } ∨ (enteringS C s c g).co c = s.co c := by
  unfold enteringS
  split
  · exact .inl (setSt_eq _ _ _)
  · split
    · exact .inl (setSt_eq _ _ _)
    · split
      · exact .inr (.inl (setSt_eq _ _ _))
      · exact .inr (.inr rfl)
/-- Who enters or runs has the tick in its window. -/
def insideS (C : List (List Win)) (F : Int) (s : Sq) : Prop := ∀ c, c < C.length → (s.co c).st = 2 ∨ (s.co c).st = 3 → ∃ i : Nat, (s.co c).at_ = i ∧ atS (coreW C c) (tkS F s) = some i
theorem inside_init (C : List (List Win)) (F : Int) : insideS C F (initS C) := by
  intro c _ h
  rcases h with h | h <;> exact absurd h (show ¬ (0 : Int) = _ by decide)
theorem inside_pick (C : List (List Win)) (F : Int) (s : Sq) (c : Nat) (h : insideS C F s) : insideS C F (pickS C F s c) := by
  intro d hd hs
  rw [tk_eq (pick_now C F s c)]
  by_cases e : d = c
  · subst e
    unfold pickS at hs ⊢
    by_cases h1 : (s.co d).st = 1
    · rw [if_pos h1, setSt_eq] at hs
      rcases hs with hs | hs <;> exact absurd hs (show ¬ (0 : Int) = _ by decide)
    · rw [if_neg h1] at hs ⊢
      by_cases h0 : (s.co d).st = 0
      · rw [if_pos h0] at hs ⊢
        rcases enter_eq C F s d with q | ⟨i, q1, q2⟩
        · rw [q] at hs ⊢
          exact h d hd hs
        · rw [q2]
          exact ⟨i, rfl, q1⟩
      · rw [if_neg h0] at hs ⊢
        by_cases h2 : (s.co d).st = 2
        · rw [if_pos h2] at hs ⊢
          have := h d hd (.inl h2)
          rcases entering_eq C s d (gangW C d (s.co d).at_.toNat) with q | q | q <;> rw [q] <;> exact this
        · rw [if_neg h2] at hs ⊢
          exact h d hd hs
  · rw [pick_ne C F s c d e] at hs ⊢
    exact h d hd hs
theorem inside_pass (C : List (List Win)) (F : Int) (s : Sq) (ok : s.Ok C) (h : insideS C F s) : insideS C F (passS C F s) := by
  unfold passS
  split
  · exact h
  · intro c hc hs
    simp only [hc, if_true] at hs ⊢
    show ∃ i : Nat, _ ∧ atS (coreW C c) ((s.now + 1) % F) = some i
    unfold passCo at hs ⊢
    split at hs
    · rcases hs with hs | hs <;> exact absurd hs (show ¬ (1 : Int) = _ by decide)
    · rename_i hn
      rw [if_neg hn]
      have hq : atS (coreW C c) ((s.now + 1) % F) = some (s.co c).at_.toNat := by
        apply Classical.byContradiction
        intro q
        exact hn ⟨hs, .inl q⟩
      have := ok.at_ c hc (by rcases hs with q | q <;> omega)
      exact ⟨(s.co c).at_.toNat, by omega, hq⟩
theorem inside_pickT (C : List (List Win)) (F : Int) (s : Sq) (k : Int) (h : insideS C F s) : insideS C F (pickT C F s k) := by
  unfold pickT
  split
  · exact h
  · exact inside_pick C F s _ h
theorem inside_act (C : List (List Win)) (F : Int) (s : Sq) (a : Int) (ok : s.Ok C) (h : insideS C F s) : insideS C F (actS C F s a) := by
  unfold actS
  split
  · exact inside_pass C F s ok h
  · exact inside_pickT C F s a h
/-- A running core's partition is who is served. -/
theorem inside_serves {C : List (List Win)} {F : Int} {s : Sq} (h : insideS C F s) (c : Nat) (hc : c < C.length) (h3 : (coreA C s c).1 = 3) : (coreA C s c).2.1 = servesS (coreW C c) (tkS F s) := by
  have ho : ¬ outC C (c : Int) := by unfold outC; omega
  unfold coreA at h3 ⊢
  rw [if_neg ho] at h3 ⊢
  simp only [Int.toNat_natCast] at h3 ⊢
  split at h3
  · exact absurd h3 (show ¬ (0 : Int) = 3 by decide)
  · rename_i h0
    rw [if_neg h0]
    obtain ⟨i, e, q⟩ := h c hc (.inr h3)
    rw [serves_of q, e]
    rfl
end Go.Proofs.YtidjkhmlpgkaaaaDoor

namespace Go.Proofs.YtidjkhmlpgkaaaaDoor
open Go.RowKit
set_option linter.unusedVariables false
set_option linter.unusedSimpArgs false

theorem callFunc_inside1 (args : Array Value) (w : World) : (callFunc 12 args).run Tryd.prog w = .ok (.enter 12 args) w := by kernel_rfl
set_option maxHeartbeats 6400000 in
theorem inside1_any {w w0 W : World} {l : Loc} {P : Plan} {s : Sq} {n : Nat} (h : BgSt w w0 W l P s n) (a : Int) (PB : Nat) (a0 a1 a2 a3 : Option Addr) (c0 c1 c2 c3 : Nat) (hC : Cores W (.slice a0 (Plan.cores P).length c0) (Plan.cores P))
    (hb : W.heap[PB]? = some (.cells #[.int .u16 (Plan.frame P), .slice a0 (Plan.cores P).length c0, .slice a1 (Plan.parts P).length c1, .slice a2 (Plan.chans P).length c2, .slice a3 (Plan.pairs P).length c3] 28 (0, 0))) (hin : insideS (Plan.cores P) (Plan.frame P) s) :
    Calls Tryd.prog 12 #[.pointer (some ⟨l.S, 0, none⟩), .int .i16 a, .pointer (some ⟨PB, 0, none⟩)] W fun e w' => e = .returned (.bool true) ∧ Below W.heap.size W w' := by
  have H := Aside.mk h
  have HC := Aside.mk hC
  have HB := Aside.mk hb
  have HI := Aside.mk hin
  obtain ⟨x0, x1, x2, x3, x4⟩ := lbox5 hb
  have KN : Aside (∀ m, Calls Tryd.prog 13 #[.pointer (some ⟨l.S, 0, none⟩)] (W.drewN m) fun e w' => e = .returned (.int .i64 s.now) ∧ w' = W.drewN m) := ⟨fun m => (now_any (h.st.below (below_drewN W m))).mono (fun _ _ q => ⟨q.1, q.2.symm⟩)⟩
  have f0 := h.st.plan.frame
  have f1 := h.st.frame
  have n0 := h.st.ok.now
  have hC8 := h.st.cores
  have HTK : Aside (tkS (Plan.frame P) s = s.now % Plan.frame P) := ⟨rfl⟩
  obtain ⟨F, hF⟩ : ∃ F, Aside (Plan.frame P = F) := ⟨_, ⟨rfl⟩⟩
  obtain ⟨t, ht⟩ : ∃ t, Aside (s.now = t) := ⟨_, ⟨rfl⟩⟩
  rw [hF.out] at x0 f0 f1
  rw [ht.out] at KN n0
  have HTK : Aside (tkS (Plan.frame P) s = t % F) := ⟨by rw [HTK.out, ht.out, hF.out]⟩
  have e1 : (F == 0) = false := beq_eq_false_iff_ne.2 (by omega)
  have e2 : t.tmod F = t % F := Int.tmod_eq_emod_of_nonneg n0.1
  have e3 : IntKind.u16.wrap F = F := by rw [IntKind.wrap_u16]; omega
  clear h hC hb hin
  go_enter Tryd.func12, Tryd.ntmps12
  go_wp2_with fail
  go_quiet ((go_at_call 13; exact Calls.quiet_of_same (KN.out _)))
  go_wp2_with fail
  have B0 := Aside.mk (below_drewN W nq)
  clear x0 x1 x2 x3 x4 e1 e2 e3
  obtain ⟨tk, htk⟩ : ∃ tk, Aside (t % F = tk) := ⟨_, ⟨rfl⟩⟩
  rw [htk.out]
  go_loopw [7] (fun i wr => ∃ k : Nat, k ≤ (Plan.cores P).length ∧ i = .int .i64 k ∧ Aside (Below W.heap.size W wr)) (fun i _ => (Plan.cores P).length - (intOf i).toNat)
  case atStart => exact ⟨0, by omega, rfl, B0⟩
  case round =>
    obtain ⟨k, hk, rfl, T⟩ := hrel
    obtain ⟨x0, x1, x2, x3, x4⟩ := lbox5 (lup T.out HB.out)
    by_cases hkl : k < (Plan.cores P).length
    · have K := Aside.mk (core_any (H.out.st.below T.out) (k : Int))
      have hE : coreE (Plan.cores P) (k : Int) = 0 := by unfold coreE; rw [if_neg (by unfold outC; omega)]
      unfold coreV at K
      rw [hE] at K
      have HS := Aside.mk (inside_serves HI.out k hkl)
      obtain ⟨⟨st, p, g⟩, hx⟩ : ∃ x, coreA (Plan.cores P) s (k : Int) = x := ⟨_, rfl⟩
      rw [hx] at K HS
      rw [HTK.out, htk.out] at HS
      have hl := List.getElem?_eq_getElem hkl
      obtain ⟨L, hL⟩ : ∃ L, (Plan.cores P)[k] = L := ⟨_, rfl⟩
      rw [hL] at hl
      have HW : Aside (coreW (Plan.cores P) k = L) := ⟨by rw [coreW, List.getD_eq_getElem?_getD, hl]; rfl⟩
      rw [HW.out] at HS
      obtain ⟨ad, lv, rfl, hlv, hwins⟩ := HC.out.at_ k L hl
      obtain ⟨la, lc, rfl, hlL⟩ := hwins.len
      have KS : Aside (∀ V, Below W.heap.size W V → Calls Tryd.prog 15 #[.slice la L.length lc, .int .i64 tk] V fun e w' => e = .returned (.int .i64 (servesS L tk)) ∧ Below V.heap.size V w') := ⟨fun V b => rserves_any V _ L tk (hwins.below b)⟩
      have UP : Aside (∀ V, Below W.heap.size W V → V.cell? ⟨PB, 1, none⟩ = some (.slice (some ad) (Plan.cores P).length c0) ∧ V.cell? (ad.add k) = some (.slice la L.length lc)) := ⟨fun V b => ⟨(lbox5 (lup b HB.out)).2.1, cell_up b hlv⟩⟩
      clear hE hx hl hL hwins hlv
      go_wp2_with fail
      refine K.out.mono ?_
      rintro e w1 ⟨rfl, b1⟩
      have T1 := Aside.mk (bel_then T.out b1)
      have T2 : Aside (Below W.heap.size W (w1.alloc (.cells #[.int .i64 st, .int .i64 p, .int .u8 g] 40))) := ⟨bel_alloc T1.out _⟩
      obtain ⟨W2, HW2⟩ : ∃ W2, Aside (W2 = w1.alloc (.cells #[.int .i64 st, .int .i64 p, .int .u8 g] 40)) := ⟨_, ⟨rfl⟩⟩
      have Y2 : Aside (W2.heap[w1.heap.size]? = some (.cells #[.int .i64 st, .int .i64 p, .int .u8 g] 40 (0, 0))) := ⟨by rw [HW2.out]; exact heap_alloc_new _ _⟩
      rw [← HW2.out] at T2
      clear b1 x0 x1 x2 x3 x4
      go_upto_region 6 with fail
      rw [← HW2.out]
      obtain ⟨y0, y1, y2, _, _, _⟩ := box3 Y2.out
      obtain ⟨x1, xl⟩ := UP.out W2 T2.out
      by_cases h3 : st = 3
      · have hp : p = servesS L tk := HS.out h3
        subst h3
        have hpb : (p != servesS L tk) = false := by rw [hp]; simp
        obtain ⟨sv, hsv⟩ : ∃ sv, servesS L tk = sv := ⟨_, rfl⟩
        rw [hsv] at KS hpb
        have PRE : Aside (∀ V, Below W2.heap.size W2 V → V.cell? ⟨w1.heap.size, 0, none⟩ = some (.int .i64 3) ∧ V.cell? ⟨w1.heap.size, 1, none⟩ = some (.int .i64 p) ∧ V.cell? ⟨PB, 1, none⟩ = some (.slice (some ad) (Plan.cores P).length c0) ∧ V.cell? (ad.add k) = some (.slice la L.length lc)) := ⟨fun V b => ⟨cell_up b y0, cell_up b y1, cell_up b x1, cell_up b xl⟩⟩
        have KS2 : Aside (Calls Tryd.prog 15 #[.slice la L.length lc, .int .i64 tk] W2.drew fun e w' => e = .returned (.int .i64 sv) ∧ Below W2.drew.heap.size W2.drew w') := ⟨KS.out _ (bel_drew T2.out)⟩
        have P0 := Aside.mk (PRE.out W2.drew (bel_drew (Below.refl _ _)))
        clear hp hsv
        go_region_held3 (fun V => V.cell? ⟨w1.heap.size, 0, none⟩ = some (.int .i64 3) ∧ V.cell? ⟨w1.heap.size, 1, none⟩ = some (.int .i64 p) ∧ V.cell? ⟨PB, 1, none⟩ = some (.slice (some ad) (Plan.cores P).length c0) ∧ V.cell? (ad.add k) = some (.slice la L.length lc)) (first | (with_reducible exact P0.out) | (with_reducible exact P3.out) | go_keep)
          (first | (go_at_call 15; with_reducible refine KS2.out.mono ?_; rintro e w3 ⟨rfl, b3⟩; have P3 := Aside.mk (PRE.out w3 (bel_then (bel_drew (Below.refl _ _)) b3))))
        have B3 : Aside (Below W.heap.size W w3) := ⟨bel_then (bel_drew T2.out) b3⟩
        go_wp2_with fail
        go_roundw
        case rel => exact ⟨k + 1, by omega, by go_num, B3⟩
        case measure => simp [intOf]; omega
      · have h3b : (st == 3) = false := beq_eq_false_iff_ne.2 h3
        clear h3
        go_quiet (fail)
        have B3 : Aside (Below W.heap.size W (W2.drewN nq)) := ⟨bel_drewN T2.out _⟩
        go_wp2_with fail
        go_roundw
        case rel => exact ⟨k + 1, by omega, by go_num, B3⟩
        case measure => simp [intOf]; omega
    · obtain rfl : k = (Plan.cores P).length := by omega
      go_wp2_with fail
      go_ret
      exact ⟨rfl, T.out⟩
end Go.Proofs.YtidjkhmlpgkaaaaDoor

namespace Go.Proofs.YtidjkhmlpgkaaaaDoor
open Go.RowKit
set_option linter.unusedVariables false
set_option linter.unusedSimpArgs false

theorem init_ok' {P : Plan} (hf : Few P) : (initS (Plan.cores P)).Ok (Plan.cores P) := init_ok _ hf.cores
/-- What is asked behind each act: whatever is older than w1 is as it was, and I holds of the state. -/
def Jt (I : Sq → Prop) (C : List (List Win)) (F : Int) (A : List Int) (w1 : World) (k : Nat) (W : World) : Prop := Below w1.heap.size w1 W ∧ I (runS C F A k) ∧ (runS C F A k).Ok C
set_option maxHeartbeats 6400000 in
theorem winside_any (w : World) (v av : Value) (P : Plan) (A : List Int) (hl : Look w) (hv : PlanV w v P) (hz : Sz P) (hA : Ints w .i16 av A) (hAr : ∀ x ∈ A, -32768 ≤ x ∧ x ≤ 32767) : Calls Tryd.prog 3 #[v, av] w (LawR w) := by
  have HV := Aside.mk hv
  have HL := Aside.mk hl
  have HA := Aside.mk hA
  have HAr := Aside.mk hAr
  have KS := Aside.mk (fun W (h : Below w.heap.size w W) => small_any W v P (HV.out.below h) hz)
  obtain ⟨a0, c0, a1, c1, a2, c2, a3, c3, rfl, hp, hlen⟩ := hv.open_
  have HP := Aside.mk hp
  obtain ⟨W1, HW⟩ : ∃ W1, Aside (W1 = w.alloc (.cells #[.int .u16 (Plan.frame P), .slice a0 (Plan.cores P).length c0, .slice a1 (Plan.parts P).length c1, .slice a2 (Plan.chans P).length c2, .slice a3 (Plan.pairs P).length c3] 28)) := ⟨_, ⟨rfl⟩⟩
  have hb1 : Aside (Below w.heap.size w W1 ∧ W1.heap[w.heap.size]? = some (.cells #[.int .u16 (Plan.frame P), .slice a0 (Plan.cores P).length c0, .slice a1 (Plan.parts P).length c1, .slice a2 (Plan.chans P).length c2, .slice a3 (Plan.pairs P).length c3] 28 (0, 0))) := ⟨by rw [HW.out]; exact ⟨bel_one _ _, heap_alloc_new _ _⟩⟩
  obtain ⟨x0, x1, x2, x3, x4⟩ := lbox5 hb1.out.2
  have KA := Aside.mk (fun W (h : Below w.heap.size w W) => awake_any W (HL.out.below h))
  clear hv hl hp hz hA hAr
  go_enter Tryd.func3, Tryd.ntmps3
  go_wp2_with fail
  rw [← HW.out]
  go_wp2_with fail
  refine (KS.out _ hb1.out.1).mono ?_
  rintro e w2 ⟨b, rfl, hb, b2⟩
  cases b
  · have B2 := Aside.mk (bel_then hb1.out.1 b2)
    clear b2 hb x0 x1 x2 x3 x4
    go_wp2_with fail
    refine (KA.out _ B2.out).mono ?_
    rintro e w3 ⟨rfl, b3⟩
    go_wp2_with fail
    go_ret
    exact ⟨rfl, bel_then B2.out b3⟩
  · have HF := Aside.mk (hb rfl)
    have B2 := Aside.mk (bel_then hb1.out.1 b2)
    have X2 := Aside.mk (lup b2 hb1.out.2)
    clear b2 hb x0 x1 x2 x3 x4
    obtain ⟨x0, x1, x2, x3, x4⟩ := lbox5 X2.out
    have KB := Aside.mk (begun_any w2 _ P (HV.out.below B2.out) (HL.out.below B2.out) HF.out av A (HA.out.below B2.out) HAr.out 12 #[.pointer (some ⟨w.heap.size, 0, none⟩)] callFunc_inside1 (fun _ => False) (fun _ h => h.elim) (fun _ _ _ h => h)
      (Jt (insideS (Plan.cores P) (Plan.frame P)) (Plan.cores P) (Plan.frame P) A w2) ⟨Below.refl _ _, inside_init _ _, init_ok' HF.out⟩
      (fun k W W' j q => ⟨j.1.trans (q.below j.1.size (fun _ e => e)), j.2⟩)
      (fun _ k hk _ w0 W l h j => by
        have hin := inside_act _ _ _ (A.getD k 0) j.2.2 j.2.1
        refine (inside1_any h (A.getD k 0) w.heap.size a0 a1 a2 a3 c0 c1 c2 c3 (HP.out.cores.below (bel_then B2.out j.1)) (lup j.1 X2.out) hin).mono ?_
        rintro e w' ⟨rfl, b⟩
        exact ⟨rfl, ⟨bel_then j.1 b, hin, h.st.ok⟩, Kept.of_below b⟩))
    go_wp2_with fail
    refine KB.out.mono ?_
    rintro e w3 ⟨q, rfl, k3⟩
    have B3 : Aside (Below w.heap.size w w3) := ⟨bel_then B2.out (k3.below (Nat.le_refl _) (fun j e => e.resolve_left id))⟩
    clear k3 KB x0 x1 x2 x3 x4
    go_wp2_with fail
    refine (KA.out _ B3.out).mono ?_
    rintro e w4 ⟨rfl, b4⟩
    go_wp2_with fail
    go_ret
    exact ⟨rfl, bel_then B3.out b4⟩
end Go.Proofs.YtidjkhmlpgkaaaaDoor
