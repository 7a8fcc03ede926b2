/- The sequencer's making: New. -/
import Derived.Test.YtidjkhmlpgkaaaaDoorMgSc
import Derived.Test.YtidjkhmlpgkaaaaDoorMgCd
import Derived.Test.YtidjkhmlpgkaaaaDoorMgD
import Derived.IntWalk
namespace Go.Proofs.YtidjkhmlpgkaaaaDoor
open Go.RowKit
set_option linter.unusedVariables false
set_option linter.unusedSimpArgs false


/-- A plan that isn't too great. -/
structure Few (P : Plan) : Prop where
  cores : (Plan.cores P).length ≤ 8
  parts : (Plan.parts P).length ≤ 20
  chans : (Plan.chans P).length ≤ 20
  pairs : (Plan.pairs P).length ≤ 20
  wins : ∀ L ∈ Plan.cores P, L.length ≤ 80
  objs : ∀ x ∈ Plan.parts P, (PartR.sems x).length ≤ 40 ∧ (PartR.procs x).length ≤ 40
def initS (C : List (List Win)) : Sq := { now := 0, co := fun _ => ⟨0, 0, 0, -1⟩, mb := fun _ g => mb0 C g, ws := List.replicate ((gangsTo C 255).length + 1) 0 }
def NewP (w : World) (P : Plan) (e : Ending) (w' : World) : Prop := match checkO P with
  | some _ => e = .returned (.tuple #[.pointer none, .int .i64 250]) ∧ Below w.heap.size w w'
  | none => ∃ w0 l, e = .returned (.tuple #[.pointer (some ⟨Loc.S l, 0, none⟩), .int .i64 0]) ∧ SqSt w0 w' l P (initS (Plan.cores P)) 0 ∧ Below w.heap.size w w' ∧ w.heap.size ≤ w0.heap.size ∧ l.hi ≤ w'.heap.size ∧ ∀ W, Kept (fun k => k < w.heap.size) w0 W → PlanAt W (l.cv (Plan.cores P)) l.pv l.hv l.qv P
def coZ (j : Nat) : Value := if j < 4 then .int .i64 0 else .map none
def co0 : Co := ⟨0, 0, 0, -1⟩
/-- The sequencer's cells while k cores are made. -/
def uN (F : Int) (cv pv hv qv : Value) (M : Nat → Nat) (k i : Nat) : Value :=
  if i = 0 then .int .u16 F else if i = 1 then cv else if i = 2 then pv else if i = 3 then hv else if i = 4 then qv
  else if i = 5 then .pointer none else if i < 46 then (if (i - 6) / 5 < k then co0.v (M ((i - 6) / 5)) ((i - 6) % 5) else coZ ((i - 6) % 5)) else .int .i64 0
structure Nw1 (w0 w : World) (S : Nat) (F : Int) (cv pv hv qv : Value) (M : Nat → Nat) (k : Nat) : Prop where
  below : Below w0.heap.size w0 w
  seq : BlkAt w S 85 47 (uN F cv pv hv qv M k)
  sp : w.heap[S + 1]? = some (.cells #[.pointer (some ⟨S, 0, none⟩)] 32 (0, 0))
  maps : ∀ d, d < k → MapAt w (M d) 0 (fun _ => none)
  m : ∀ d, d < k → S + 2 ≤ M d
  inj : ∀ d e, d < k → e < k → M d = M e → d = e
  s0 : w0.heap.size ≤ S
theorem uN_at (F : Int) (cv pv hv qv : Value) (M : Nat → Nat) (k c j : Nat) (hc : c < 8) (hj : j < 5) : uN F cv pv hv qv M k (6 + c * 5 + j) = if c < k then co0.v (M c) j else coZ j := by
  have e1 : (6 + c * 5 + j - 6) / 5 = c := by omega
  have e2 : (6 + c * 5 + j - 6) % 5 = j := by omega
  unfold uN
  rw [if_neg (by omega), if_neg (by omega), if_neg (by omega), if_neg (by omega), if_neg (by omega), if_neg (by omega), if_pos (by omega), e1, e2]
theorem uN_first (w : World) (S : Nat) (F : Int) (cv pv hv qv : Value) (M : Nat → Nat)
    (h : w.heap[S]? = some (.cells #[.int .u16 F, cv, pv, hv, qv, .pointer none,
      .int .i64 0, .int .i64 0, .int .i64 0, .int .i64 0, .map none, .int .i64 0, .int .i64 0, .int .i64 0, .int .i64 0, .map none,
      .int .i64 0, .int .i64 0, .int .i64 0, .int .i64 0, .map none, .int .i64 0, .int .i64 0, .int .i64 0, .int .i64 0, .map none,
      .int .i64 0, .int .i64 0, .int .i64 0, .int .i64 0, .map none, .int .i64 0, .int .i64 0, .int .i64 0, .int .i64 0, .map none,
      .int .i64 0, .int .i64 0, .int .i64 0, .int .i64 0, .map none, .int .i64 0, .int .i64 0, .int .i64 0, .int .i64 0, .map none, .int .i64 0] 85 (0, 0))) :
    BlkAt w S 85 47 (uN F cv pv hv qv M 0) := by
  refine ⟨_, h, rfl, fun k hk => ?_⟩
  rcases split47 k hk with h | rfl | ⟨d, j, hd, hj, rfl⟩
  · rcases (show k = 0 ∨ k = 1 ∨ k = 2 ∨ k = 3 ∨ k = 4 ∨ k = 5 by omega) with rfl | rfl | rfl | rfl | rfl | rfl <;> rfl
  · rfl
  · rw [uN_at F cv pv hv qv M 0 d j hd hj, if_neg (by omega)]
    rcases (show d = 0 ∨ d = 1 ∨ d = 2 ∨ d = 3 ∨ d = 4 ∨ d = 5 ∨ d = 6 ∨ d = 7 by omega) with rfl | rfl | rfl | rfl | rfl | rfl | rfl | rfl <;> rcases (show j = 0 ∨ j = 1 ∨ j = 2 ∨ j = 3 ∨ j = 4 by omega) with rfl | rfl | rfl | rfl | rfl <;> rfl
theorem uN_low (F : Int) (cv pv hv qv : Value) (M M' : Nat → Nat) (k k' i : Nat) (hi : i < 6 ∨ i = 46) : uN F cv pv hv qv M k i = uN F cv pv hv qv M' k' i := by
  rcases hi with hi | rfl
  · rcases (show i = 0 ∨ i = 1 ∨ i = 2 ∨ i = 3 ∨ i = 4 ∨ i = 5 by omega) with rfl | rfl | rfl | rfl | rfl | rfl <;> rfl
  · rfl
def putM (M : Nat → Nat) (k b : Nat) : Nat → Nat := fun d => if d = k then b else M d
theorem Nw1.step {w0 w : World} {S : Nat} {F : Int} {cv pv hv qv : Value} {M : Nat → Nat} {k : Nat} (h : Nw1 w0 w S F cv pv hv qv M k) (hk : k < 8) :
    Nw1 w0 ((((((w.setCell ⟨S, 6 + k * 5, none⟩ (.int .i64 0)).setCell ⟨S, 6 + k * 5 + 1, none⟩ (.int .i64 0)).setCell ⟨S, 6 + k * 5 + 2, none⟩ (.int .i64 0)).setCell ⟨S, 6 + k * 5 + 3, none⟩ (.int .i64 (-1))).setCell ⟨S, 6 + k * 5 + 4, none⟩ (.map (some w.heap.size))).alloc (.map #[] 0)) S F cv pv hv qv (putM M k w.heap.size) (k + 1) := by
  have hb := (((((h.seq.put0.put (6 + k * 5) (.int .i64 0)).put (6 + k * 5 + 1) (.int .i64 0)).put (6 + k * 5 + 2) (.int .i64 0)).put (6 + k * 5 + 3) (.int .i64 (-1))).put (6 + k * 5 + 4) (.map (some w.heap.size)))
  have kk := (((((Kept.refl (fun k => k = S) w).setCell (p := ⟨S, 6 + k * 5, none⟩) (.inl rfl) (.int .i64 0)).setCell (p := ⟨S, 6 + k * 5 + 1, none⟩) (.inl rfl) (.int .i64 0)).setCell (p := ⟨S, 6 + k * 5 + 2, none⟩) (.inl rfl) (.int .i64 0)).setCell (p := ⟨S, 6 + k * 5 + 3, none⟩) (.inl rfl) (.int .i64 (-1))).setCell (p := ⟨S, 6 + k * 5 + 4, none⟩) (.inl rfl) (.map (some w.heap.size))
  obtain ⟨W, hW⟩ : ∃ W, W = (((((w.setCell ⟨S, 6 + k * 5, none⟩ (.int .i64 0)).setCell ⟨S, 6 + k * 5 + 1, none⟩ (.int .i64 0)).setCell ⟨S, 6 + k * 5 + 2, none⟩ (.int .i64 0)).setCell ⟨S, 6 + k * 5 + 3, none⟩ (.int .i64 (-1))).setCell ⟨S, 6 + k * 5 + 4, none⟩ (.map (some w.heap.size))) := ⟨_, rfl⟩
  have hs : W.heap.size = w.heap.size := by rw [hW]; simp [World.setCell]
  rw [← hW] at hb kk ⊢
  have bW : Below W.heap.size W (W.alloc (.map #[] 0)) := bel_one _ _
  have ka : Kept (fun k => k = S) w (W.alloc (.map #[] 0)) := kk.alloc _
  have mlt : ∀ d, d < k → M d < w.heap.size := fun d hd => (h.maps d hd).lt
  refine ⟨h.below.trans (ka.below h.below.size (fun j e => by subst e; exact h.s0)), (hb.congr (fun i hi => ?_)).below bW, ka.heap h.sp (by omega), fun d hd => ?_, fun d hd => ?_, fun d e hd he q => ?_, h.s0⟩
  · rcases split47 i hi with hl | rfl | ⟨d, j, hd, hj, rfl⟩
    · show Option.getD (if _ then _ else _) _ = _
      rw [if_neg (by omega), if_neg (by omega), if_neg (by omega), if_neg (by omega), if_neg (by omega)]
      exact uN_low _ _ _ _ _ _ _ _ _ _ (.inl hl)
    · show Option.getD (if _ then _ else _) _ = _
      rw [if_neg (by omega), if_neg (by omega), if_neg (by omega), if_neg (by omega), if_neg (by omega)]
      exact uN_low _ _ _ _ _ _ _ _ _ _ (.inr rfl)
    · show Option.getD (if _ then _ else _) _ = _
      rw [uN_at _ _ _ _ _ (putM M k w.heap.size) (k + 1) d j hd hj]
      by_cases e : d = k
      · subst e
        rw [if_pos (show d < d + 1 by omega)]
        rcases (show j = 0 ∨ j = 1 ∨ j = 2 ∨ j = 3 ∨ j = 4 by omega) with rfl | rfl | rfl | rfl | rfl <;> simp [Co.v, co0, putM]
      · rw [if_neg (by omega), if_neg (by omega), if_neg (by omega), if_neg (by omega), if_neg (by omega)]
        show uN _ _ _ _ _ _ _ _ = _
        rw [uN_at _ _ _ _ _ M k d j hd hj]
        by_cases e2 : d < k
        · rw [if_pos e2, if_pos (by omega)]; simp [putM, e]
        · rw [if_neg e2, if_neg (by omega)]
  · by_cases e : d = k
    · subst e
      simp only [putM, if_true]
      have := MapAt.made W
      rwa [hs] at this
    · have hd' : d < k := by omega
      simp only [putM, e, if_false]
      exact ((h.maps d hd').kept kk (by have := h.m d hd'; omega)).below bW
  · have := h.seq.lt
    have := lt_of_block h.sp
    by_cases e : d = k
    · simp only [putM, e, if_true]; omega
    · simp only [putM, e, if_false]; exact h.m d (by omega)
  · unfold putM at q
    by_cases e1 : d = k
    · by_cases e2 : e = k
      · omega
      · rw [if_pos e1, if_neg e2] at q; have := mlt e (by omega); omega
    · by_cases e2 : e = k
      · rw [if_neg e1, if_pos e2] at q; have := mlt d (by omega); omega
      · rw [if_neg e1, if_neg e2] at q; exact h.inj d e (by omega) (by omega) q
theorem Nw1.old {w0 w w' : World} {S : Nat} {F : Int} {cv pv hv qv : Value} {M : Nat → Nat} {k : Nat} (h : Nw1 w0 w S F cv pv hv qv M k) (b : Below w.heap.size w w') : Nw1 w0 w' S F cv pv hv qv M k :=
  ⟨bel_then h.below b, h.seq.below b, lup b h.sp, fun d hd => (h.maps d hd).below b, h.m, h.inj, h.s0⟩
theorem flatMap_getG {α β : Type} {n : Nat} (f : α → List β) (L : List α) (hf : ∀ x ∈ L, (f x).length = n) (i : Nat) (hi : i < L.length) (j : Nat) (hj : j < n) : (L.flatMap f)[i * n + j]? = (f L[i])[j]? := by
  induction L generalizing i with
  | nil => simp at hi
  | cons x L ih =>
    rw [List.flatMap_cons]
    have hx := hf x (List.mem_cons_self ..)
    rcases i with _ | i
    · rw [List.getElem?_append_left (by rw [hx]; omega)]
      simp
    · rw [List.getElem?_append_right (by rw [hx, Nat.succ_mul]; omega), hx, show (i + 1) * n + j - n = i * n + j by rw [Nat.succ_mul]; omega]
      exact ih (fun y hy => hf y (List.mem_cons_of_mem _ hy)) i (by simpa using hi)
/-- Where the members are made: all else, since w0. -/
structure Nw2 (w0 wA : World) (S B G : Nat) (M : Nat → Nat) (P : Plan) (cv pv hv qv : Value) (nG : Nat) (b : Nat) : Prop where
  mem : MSt w0 wA B G (List.replicate (nG + 1) 0) 0
  seq : BlkAt wA S 85 47 (fun k => if k = 5 then .pointer (some ⟨B, 0, none⟩) else uN (Plan.frame P) cv pv hv qv M 8 k)
  sp : wA.heap[S + 1]? = some (.cells #[.pointer (some ⟨S, 0, none⟩)] 32 (0, 0))
  maps : ∀ d, d < 8 → MapAt wA (M d) 0 (fun _ => none)
  m : ∀ d, d < 8 → S + 2 ≤ M d ∧ M d ≠ B ∧ M d ≠ G ∧ M d ≠ b
  inj : ∀ d e, d < 8 → e < 8 → M d = M e → d = e
  s0 : w0.heap.size ≤ S
  bg : S ≠ B ∧ S ≠ G
  row : ∀ k x, (gangsTo (Plan.cores P) 255)[k]? = some x → ∀ j, j < 6 → wA.cell? ⟨b, k * 6 + j, none⟩ = (GangR.cells x)[j]?
theorem Nw2.start {w0 wA : World} {S B G : Nat} {M : Nat → Nat} {P : Plan} {cv pv hv qv : Value} {nG b : Nat} (h : Nw2 w0 wA S B G M P cv pv hv qv nG b) : NwSt wA wA M (fun _ _ => 0) (Plan.cores P) (dnG (Plan.cores P) 0) (fun _ => 0) := by
  rw [dnG_zero]
  exact ⟨Kept.refl _ _, fun d hd => (h.maps d hd).congr (fun g => by simp), fun d g q => by simp at q, fun d g q => by simp at q, fun d hd => (h.maps d hd).lt, h.inj⟩
theorem row_cells {w : World} {base n : Nat} {rA : Option Addr} {rc : Nat} {L : List GangR} (h : w.ownsRow base 102 6 (.slice rA n rc) n (L.flatMap GangR.cells)) (hn : L.length = n) :
    ∃ b, (0 < n → rA = some ⟨b, 0, none⟩) ∧ base ≤ b ∧ ∀ k x, L[k]? = some x → ∀ j, j < 6 → w.cell? ⟨b, k * 6 + j, none⟩ = (GangR.cells x)[j]? := by
  rcases h.2 with ⟨e, h0⟩ | ⟨g, cap, cur, e, hb, _⟩
  · refine ⟨base, fun q => by omega, Nat.le_refl _, fun k x hx => ?_⟩
    have := (List.getElem?_eq_some_iff.1 hx).1
    omega
  · injection e with e1 e2 e3
    subst e1
    refine ⟨g, fun _ => rfl, hb, fun k x hx j hj => ?_⟩
    obtain ⟨hk, rfl⟩ := List.getElem?_eq_some_iff.1 hx
    have q := flatMap_getG GangR.cells L (fun x _ => rfl) k hk j hj
    have hjl : j < (GangR.cells L[k]).length := hj
    rw [List.getElem?_eq_getElem hjl] at q ⊢
    have := h.cells (g := g) rfl (k * 6 + j) _ q
    rwa [Addr.add_lit, Nat.zero_add] at this
theorem Nw2.make {w0 wr w5 w6 : World} {S B G : Nat} {M : Nat → Nat} {P : Plan} {cv pv hv qv : Value} {nG b : Nat} (T : Nw1 w0 wr S (Plan.frame P) cv pv hv qv M 8) (T5 : Nw1 w0 w5 S (Plan.frame P) cv pv hv qv M 8) (hb : wr.heap.size ≤ b)
    (hrow : ∀ k x, (gangsTo (Plan.cores P) 255)[k]? = some x → ∀ j, j < 6 → w5.cell? ⟨b, k * 6 + j, none⟩ = (GangR.cells x)[j]?)
    (m6 : MSt w0 w6 B G (List.replicate (nG + 1) 0) 0) (b6 : Below w5.heap.size w5 w6) (hB : w5.heap.size ≤ B) (hG : w5.heap.size ≤ G) :
    Nw2 w0 (w6.setCell ⟨S, 5, none⟩ (.pointer (some ⟨B, 0, none⟩))) S B G M P cv pv hv qv nG b := by
  have T6 := T5.old b6
  have sl := T5.seq.lt
  have ml : ∀ d, d < 8 → M d < w5.heap.size := fun d hd => (T5.maps d hd).lt
  have mr : ∀ d, d < 8 → M d < wr.heap.size := fun d hd => (T.maps d hd).lt
  have slr := T.seq.lt
  have k : Kept (fun j => j = S) w6 (w6.setCell ⟨S, 5, none⟩ (.pointer (some ⟨B, 0, none⟩))) := (Kept.refl (fun j => j = S) w6).setCell (p := ⟨S, 5, none⟩) (.inl rfl) _
  refine ⟨m6.kept_ k (by omega) (by omega) (fun j e => by subst e; exact T5.s0), T6.seq.set 5 _, k.heap T6.sp (by omega), fun d hd => (T6.maps d hd).kept k (by have := T5.m d hd; omega), fun d hd => ⟨T5.m d hd, by have := ml d hd; omega, by have := ml d hd; omega, by have := mr d hd; omega⟩, T5.inj, T5.s0, ⟨by omega, by omega⟩, fun i x hx j hj => ?_⟩
  have q := hrow i x hx j hj
  have hjl : j < (GangR.cells x).length := hj
  rw [List.getElem?_eq_getElem hjl] at q ⊢
  exact k.cell (cell_up b6 q) (by show ¬ b = S; omega)
/-- How many cores are counted below c. -/
def J1 (W3 : World) (N mm c : Nat) (W : World) : Prop := Kept (fun j => j = N) W3 W ∧ W.heap[N]? = some (.cells #[.int .i64 (manyTo mm c : Int)] 3 (0, 0))
theorem count_any (W3 : World) (N mm : Nat) (hm : mm < 256) (h0 : W3.heap[N]? = some (.cells #[.int .i64 0] 3 (0, 0))) :
    Calls Tryd.prog 40 #[.int .u8 (mm : Int), .func (.func 41) #[] #[.pointer (some ⟨N, 0, none⟩)]] W3 fun e w' => e = .returned (.tuple #[]) ∧ J1 W3 N mm 8 w' := by
  refine weach_any mm hm _ _ callFunc_new1 (J1 W3 N mm) (fun c hc hb W J => ?_) (fun c hc hb W J => ?_) W3 ⟨Kept.refl _ _, h0⟩
  · have hl := manyTo_le mm c
    refine (new1_any W N (manyTo mm c : Int) (c : Int) J.2 (by omega) (by omega)).mono ?_
    rintro e w' ⟨rfl, h1, h2⟩
    refine ⟨rfl, J.1.trans h2, ?_⟩
    rw [h1, manyTo, if_pos hb]
    rfl
  · refine ⟨J.1, ?_⟩
    rw [J.2, manyTo, hb]
    rfl
/-- The members of a gang that are made below core c. -/
def J2 (wA w7 : World) (M : Nat → Nat) (C : List (List Win)) (k : Nat) (g : Int) (c : Nat) (W : World) : Prop :=
  ∃ K n, NwSt wA W M K C (dcG C k g c) n ∧ (∀ d, n d ≤ k + 1 ∧ (c ≤ d → n d ≤ k)) ∧ Kept (fun j => ∃ d, d < 8 ∧ j = M d) w7 W
theorem make_any {w0 wA w7 : World} {S B G : Nat} {M : Nat → Nat} {P : Plan} {cv pv hv qv : Value} {nG b k : Nat} {K : Nat → Int → Nat} {n : Nat → Nat} {x : GangR} (X : Nw2 w0 wA S B G M P cv pv hv qv nG b)
    (Y : NwSt wA w7 M K (Plan.cores P) (dnG (Plan.cores P) k) n) (hn : ∀ d, n d ≤ k) (hk : k < 300) (hC : (Plan.cores P).length ≤ 8) (hx : (gangsTo (Plan.cores P) 255)[k]? = some x)
    (Wd N GP : Nat) (hW : wA.heap.size ≤ Wd) (hN : wA.heap.size ≤ N) (hG : wA.heap.size ≤ GP) (c3 : w7.cell? ⟨GP, 0, none⟩ = some (.int .u8 x.1)) (c4 : w7.cell? ⟨Wd, 0, none⟩ = some (.int .i64 (k : Int))) (c5 : w7.cell? ⟨N, 0, none⟩ = some (.int .i64 (manyTo (gangM (Plan.cores P) x.1) 8 : Int))) :
    Calls Tryd.prog 40 #[.int .u8 (gangM (Plan.cores P) x.1 : Int), .func (.func 42) #[] #[.pointer (some ⟨Wd, 0, none⟩), .pointer (some ⟨N, 0, none⟩), .pointer (some ⟨S + 1, 0, none⟩), .pointer (some ⟨GP, 0, none⟩)]] w7 fun e w' => e = .returned (.tuple #[]) ∧ J2 wA w7 M (Plan.cores P) k x.1 8 w' := by
  obtain ⟨x1, x2, x3, x4, x5⟩ := gang_at _ k x hx
  have hm : gangM (Plan.cores P) x.1 < 256 := maskTo_lt _ _ hC
  refine weach_any _ hm _ _ callFunc_new2 (J2 wA w7 M (Plan.cores P) k x.1) (fun c hc hb W J => ?_) (fun c hc hb W J => ?_) w7 ⟨K, n, by rw [dcG_zero]; exact Y, fun d => ⟨Nat.le_succ_of_le (hn d), fun _ => hn d⟩, Kept.refl _ _⟩
  · obtain ⟨K1, n1, h1, h2, h3⟩ := J
    have hbit := hb
    rw [gangM_bit] at hbit
    simp only [Bool.and_eq_true, decide_eq_true_eq] at hbit
    have mlt : M c < wA.heap.size := h1.m c hc
    have nm : ∀ j, wA.heap.size ≤ j → ¬ ∃ d, d < 8 ∧ j = M d := fun j hj ⟨d, hd, e⟩ => by have := h1.m d hd; omega
    have ns : ¬ ∃ d, d < 8 ∧ S = M d := fun ⟨d, hd, e⟩ => by have := (X.m d hd).1; omega
    have nsp : ¬ ∃ d, d < 8 ∧ S + 1 = M d := fun ⟨d, hd, e⟩ => by have := (X.m d hd).1; omega
    have q1 := h1.kept.cell (lbox1 X.sp) nsp
    have q2 : W.cell? ⟨S, 6 + c * 5 + 4, none⟩ = some (.map (some (M c))) := by
      have := X.seq.c (6 + c * 5 + 4) (by omega)
      rw [if_neg (by omega), uN_at _ _ _ _ _ M 8 c 4 hc (by decide), if_pos hc] at this
      exact h1.kept.cell this ns
    have q3 := h3.cell c3 (nm _ hG)
    have q4 := h3.cell c4 (nm _ hW)
    have q5 := h3.cell c5 (nm _ hN)
    rw [← x5] at q4
    have hs := (X.m c hc).1
    refine (new2_any h1 hC c hbit.1 x.1 (by omega) x2 hbit.2 (dcG_fresh _ k x hx c) (by have := (h2 c).1; omega) S Wd N (S + 1) GP q1 q2 q3 q4 q5 ⟨by omega, by omega, by omega, by omega, by omega⟩).mono ?_
    rintro e w' ⟨rfl, y1, y2⟩
    refine ⟨rfl, _, _, by rw [← dcG_yes _ k x.1 c hb]; exact y1, fun d => ?_, h3.trans (y2.mono (fun j e => ⟨c, hc, e⟩))⟩
    by_cases e : d = c
    · subst e
      have := (h2 d).2 (Nat.le_refl _)
      simp only [if_true]
      exact ⟨by omega, fun _ => by omega⟩
    · simp only [e, if_false]
      exact ⟨(h2 d).1, fun q => (h2 d).2 (by omega)⟩
  · obtain ⟨K1, n1, h1, h2, h3⟩ := J
    exact ⟨K1, n1, by rw [← dcG_no _ k x.1 c hb]; exact h1, fun d => ⟨(h2 d).1, fun q => (h2 d).2 (by omega)⟩, h3⟩
theorem init_ok (C : List (List Win)) (hC : C.length ≤ 8) : (initS C).Ok C := by
  refine ⟨⟨by show (0 : Int) ≤ 0; decide, by show (0 : Int) ≤ _; decide⟩, fun c _ => ⟨by show (0 : Int) ≤ 0; decide, by show (0 : Int) ≤ 3; decide⟩, fun c _ h => absurd rfl h, fun c g hg => ⟨?_, rfl⟩, by simp [initS]⟩
  obtain ⟨a, b, d, e⟩ := hg
  have := manyG_range C g hC c a e
  exact ⟨⟨by show (1 : Int) ≤ (manyG C g : Int); omega, by show (manyG C g : Int) ≤ 8; omega⟩, ⟨by show (0 : Int) ≤ 0; decide, by show (0 : Int) ≤ 3; decide⟩, ⟨by show (0 : Int) ≤ 0; decide, by show (0 : Int) < _; decide⟩, ⟨by show (0 : Int) ≤ 0; decide, by show (0 : Int) < _; decide⟩⟩
theorem Nw2.done {w0 wA w : World} {S B G : Nat} {M : Nat → Nat} {P : Plan} {ad : Addr} {d0 : Nat} {pv hv qv : Value} {nG b : Nat} {K : Nat → Int → Nat} {n : Nat → Nat} (X : Nw2 w0 wA S B G M P (.slice (some ad) (Plan.cores P).length d0) pv hv qv nG b)
    (Y : NwSt wA w M K (Plan.cores P) (dnG (Plan.cores P) nG) n) (hn : ∀ d, n d ≤ nG) (hG : (gangsTo (Plan.cores P) 255).length = nG) (hp : PlanAt w0 (.slice (some ad) (Plan.cores P).length d0) pv hv qv P) (hF : 1 ≤ Plan.frame P) (hC : (Plan.cores P).length ≤ 8) :
    SqSt w0 w ⟨w.heap.size, S, B, G, M, K, ad, d0, pv, hv, qv⟩ P (initS (Plan.cores P)) 0 := by
  have hz := Y.kept.size
  have nG' := gangsTo_len (Plan.cores P) 255
  have sl := X.seq.lt
  have ns : ¬ ∃ d, d < 8 ∧ S = M d := fun ⟨d, hd, e⟩ => by have := (X.m d hd).1; omega
  have nB : ¬ ∃ d, d < 8 ∧ B = M d := fun ⟨d, hd, e⟩ => (X.m d hd).2.1 e.symm
  have nGG : ¬ ∃ d, d < 8 ∧ G = M d := fun ⟨d, hd, e⟩ => (X.m d hd).2.2.1 e.symm
  have m2 := X.mem.kept_ Y.kept nB nGG (fun j ⟨d, hd, e⟩ => by have := (X.m d hd).1; have := X.s0; omega)
  have lB := lt_of_block m2.mem.obj
  have lG := lt_of_block m2.mem.words
  have lBA := lt_of_block X.mem.mem.obj
  have lGA := lt_of_block X.mem.mem.words
  have s0 := X.s0
  refine ⟨⟨0, Int.le_refl _, Int.le_refl _, ?_⟩, (X.seq.kept Y.kept ns).congr (fun k hk => ?_), hp, fun c hc => ((Y.maps c hc).mono (by have := hn c; omega)).congr (fun g => ?_), fun c g hg => Y.mbs c g (by rw [← hG]; exact (dnG_all _ c g).2 hg), ?_, init_ok _ hC, hF, hC⟩
  · show MSt w0 w B G (List.replicate ((gangsTo (Plan.cores P) 255).length + 1) 0) 0
    rw [hG]; exact m2
  · rcases split47 k hk with h | rfl | ⟨d, j, hd, hj, rfl⟩
    · rcases (show k = 0 ∨ k = 1 ∨ k = 2 ∨ k = 3 ∨ k = 4 ∨ k = 5 by omega) with rfl | rfl | rfl | rfl | rfl | rfl <;> rfl
    · rfl
    · rw [if_neg (by omega), uN_at _ _ _ _ _ M 8 d j hd hj, if_pos hd, u_at _ P _ d j hd hj]
      rfl
  · have := dnG_all (Plan.cores P) c g
    rw [hG] at this
    unfold mapF
    by_cases e : memG (Plan.cores P) c g
    · rw [if_pos e, if_pos (this.2 e)]
    · rw [if_neg e, if_neg (fun q => e (this.1 q))]
  · refine ⟨⟨s0, by show S < w.heap.size; omega⟩, ⟨X.mem.hB, lB⟩, ⟨X.mem.hG, lG⟩, fun c hc => ?_, fun c g hg => ?_, X.bg.1, X.bg.2⟩
    · obtain ⟨a1, a2, a3, _⟩ := X.m c hc
      exact ⟨by show _ ≤ M c; omega, by show M c < w.heap.size; have := Y.m c hc; omega, by show M c ≠ S; omega, a2, a3⟩
    · have hd := (dnG_all (Plan.cores P) c g).2 hg
      rw [hG] at hd
      obtain ⟨a1, a2, a3⟩ := Y.k c g hd
      refine ⟨by show _ ≤ K c g; omega, a2, by show K c g ≠ S; omega, by show K c g ≠ B; omega, by show K c g ≠ G; omega, fun d hd8 => by show K c g ≠ M d; have := Y.m d hd8; omega, fun d i hi e => ?_⟩
      have hd2 := (dnG_all (Plan.cores P) d i).2 hi
      rw [hG] at hd2
      exact a3 d i hd2 e
/-- A copied plan reads on, whatever becomes of what is older. -/
theorem CopyR.again {w w' W : World} {P : Plan} {vc vp vh vq : Value} (h : CopyR w w' P vc vp vh vq) (k : Kept (fun j => j < w.heap.size) w' W) : PlanAt W vc vp vh vq P := by
  obtain ⟨a, b, c⟩ := h.stab W (k.mono (fun j hj => .inr hj))
  refine ⟨h.at_.frame, a, b, ?_, c⟩
  rcases h.own with q | q
  · obtain ⟨A, cap, rfl, h1, h2, _⟩ := h.at_.chans
    exact ⟨A, cap, rfl, h1, h2, fun hp => by rw [q] at hp; exact absurd hp (by decide)⟩
  · have row := own_kept q k (fun r hr e => by have := own_base q r hr; omega)
    refine elems_own (n := rd129.n) (R := rd129.R) ChanR.vals (by decide) row (fun x hx => ?_)
    obtain ⟨i, hi, e⟩ := List.mem_iff_getElem.1 hx
    obtain ⟨A, cap, e2, _⟩ := Elems.len h.at_.chans
    have hc := h.at_.chans
    rw [e2] at hc
    obtain ⟨ad, cs, _, _, _, hr⟩ := Elems.at_ hc i x (by rw [List.getElem?_eq_getElem hi, e])
    have := (chan_cells hr).1
    subst this
    exact ⟨hr, rfl⟩
set_option maxHeartbeats 6400000 in
theorem wnew_any (w : World) (v : Value) (P : Plan) (hv : PlanV w v P) (hl : Look w) (hf : Few P) : Calls Tryd.prog 21 #[v] w (NewP w P) := by
  have HV := Aside.mk hv
  have HL := Aside.mk hl
  have HF := Aside.mk hf
  obtain ⟨a0, c0, a1, c1, a2, c2, a3, c3, rfl, hp, hlen⟩ := hv.open_
  have HP := Aside.mk hp
  have hmm := @run_makeMap Tryd.prog
  obtain ⟨W1, HW⟩ : ∃ W1, Aside (W1 = w.alloc (.cells #[.int .u16 (Plan.frame P), .slice a0 (Plan.cores P).length c0, .slice a1 (Plan.parts P).length c1, .slice a2 (Plan.chans P).length c2, .slice a3 (Plan.pairs P).length c3] 28)) := ⟨_, ⟨rfl⟩⟩
  have hb1 : Aside (Below w.heap.size w W1 ∧ W1.heap[w.heap.size]? = some (.cells #[.int .u16 (Plan.frame P), .slice a0 (Plan.cores P).length c0, .slice a1 (Plan.parts P).length c1, .slice a2 (Plan.chans P).length c2, .slice a3 (Plan.pairs P).length c3] 28 (0, 0))) := ⟨by rw [HW.out]; exact ⟨bel_one _ _, heap_alloc_new _ _⟩⟩
  have KC := Aside.mk (pcheck_any W1 _ P (HV.out.below hb1.out.1))
  obtain ⟨x0, x1, x2, x3, x4⟩ := lbox5 hb1.out.2
  clear hv hl hf hp
  obtain ⟨q, hq⟩ : ∃ q, Aside (checkO P = q) := ⟨_, ⟨rfl⟩⟩
  unfold NewP
  rw [hq.out] at KC ⊢
  go_enter Tryd.func21, Tryd.ntmps21
  go_wp2_with fail
  rw [← HW.out]
  go_wp2_with fail
  refine KC.out.mono ?_
  rintro e w2 ⟨r, rfl, hr, b2⟩
  rcases q with _ | x
  · obtain rfl : r = .nilIface := hr
    have B2 := Aside.mk b2
    have KP := Aside.mk (copy_any w2 _ P (HV.out.below (bel_then hb1.out.1 b2)) (by have := HF.out.chans; omega) (by have := HF.out.pairs; omega) (by have := HF.out.cores; omega) (fun L hL => by have := HF.out.wins L hL; omega) (fun y hy => by have := HF.out.objs y hy; omega) (by have := HF.out.parts; omega))
    obtain ⟨y0, y1, y2, y3, y4⟩ := lbox5 (lup b2 hb1.out.2)
    clear b2 x0 x1 x2 x3 x4 KC
    go_wp2_with fail
    refine KP.out.mono ?_
    rintro e w3 ⟨p0, d0, p1, d1, p2, d2, p3, d3, rfl, cr⟩
    have CR := Aside.mk cr
    clear cr y0 y1 y2 y3 y4 KP
    go_upto_block 0 with fail
    obtain ⟨W4, HW4⟩ : ∃ W4, Aside (W4 = (w3.alloc (.cells #[.int .u16 (Plan.frame P), .slice p0 (Plan.cores P).length d0, .slice p1 (Plan.parts P).length d1, .slice p2 (Plan.chans P).length d2, .slice p3 (Plan.pairs P).length d3, .pointer none,
      .int .i64 0, .int .i64 0, .int .i64 0, .int .i64 0, .map none, .int .i64 0, .int .i64 0, .int .i64 0, .int .i64 0, .map none,
      .int .i64 0, .int .i64 0, .int .i64 0, .int .i64 0, .map none, .int .i64 0, .int .i64 0, .int .i64 0, .int .i64 0, .map none,
      .int .i64 0, .int .i64 0, .int .i64 0, .int .i64 0, .map none, .int .i64 0, .int .i64 0, .int .i64 0, .int .i64 0, .map none,
      .int .i64 0, .int .i64 0, .int .i64 0, .int .i64 0, .map none, .int .i64 0, .int .i64 0, .int .i64 0, .int .i64 0, .map none, .int .i64 0] 85)).alloc (.cells #[.pointer (some ⟨w3.heap.size, 0, none⟩)] 32)) := ⟨_, ⟨rfl⟩⟩
    have N0 : Aside (Nw1 w3 W4 w3.heap.size (Plan.frame P) (.slice p0 (Plan.cores P).length d0) (.slice p1 (Plan.parts P).length d1) (.slice p2 (Plan.chans P).length d2) (.slice p3 (Plan.pairs P).length d3) (fun _ => 0) 0) := ⟨by
      rw [HW4.out]
      exact ⟨bel_two _ _ _, uN_first _ _ _ _ _ _ _ _ (lheap_up (heap_alloc_new _ _)), lheap_top _ _ _ (by simp), fun d hd => by omega, fun d hd => by omega, fun d e hd => by omega, Nat.le_refl _⟩⟩
    rw [← HW4.out]
    clear HW4
    obtain ⟨S, hS⟩ : ∃ S, Aside (w3.heap.size = S) := ⟨_, ⟨rfl⟩⟩
    rw [hS.out] at N0 ⊢
    go_wp2_with fail
    go_loopw [17] (fun i wr => ∃ (k : Nat) (M : Nat → Nat), k ≤ 8 ∧ i = .int .i64 k ∧ Aside (Nw1 w3 wr S (Plan.frame P) (.slice p0 (Plan.cores P).length d0) (.slice p1 (Plan.parts P).length d1) (.slice p2 (Plan.chans P).length d2) (.slice p3 (Plan.pairs P).length d3) M k)) (fun i _ => 8 - (intOf i).toNat)
    case atStart => exact ⟨0, fun _ => 0, by omega, rfl, N0⟩
    case round =>
      obtain ⟨k, M, hk, rfl, T⟩ := hrel
      by_cases hk8 : k < 8
      · have hg : ∀ j, j < 5 → wr.cell? ⟨S, 6 + k * 5 + j, none⟩ = some (coZ j) := fun j hj => by
          have := T.out.seq.c (6 + k * 5 + j) (by omega)
          rw [uN_at _ _ _ _ _ M k k j hk8 hj, if_neg (by omega)] at this
          exact this
        have g0 : wr.cell? ⟨S, 6 + k * 5, none⟩ = some (.int .i64 0) := hg 0 (by decide)
        have g1 : wr.cell? ⟨S, 6 + k * 5 + 1, none⟩ = some (.int .i64 0) := hg 1 (by decide)
        have g2 : wr.cell? ⟨S, 6 + k * 5 + 2, none⟩ = some (.int .i64 0) := hg 2 (by decide)
        have g3 : wr.cell? ⟨S, 6 + k * 5 + 3, none⟩ = some (.int .i64 0) := hg 3 (by decide)
        have g4 : wr.cell? ⟨S, 6 + k * 5 + 4, none⟩ = some (.map none) := hg 4 (by decide)
        have f0 := T.out.seq.f (6 + k * 5)
        have f1 := T.out.seq.f (6 + k * 5 + 1)
        have f2 := T.out.seq.f (6 + k * 5 + 2)
        have f3 := T.out.seq.f (6 + k * 5 + 3)
        have f4 := T.out.seq.f (6 + k * 5 + 4)
        have s1 := lbox1 T.out.sp
        have l0 := T.out.seq.lt
        have l1 := lt_of_block T.out.sp
        clear hg
        have STEP := Aside.mk (T.out.step hk8)
        go_wp2_with fail
        go_roundw
        case rel => exact ⟨k + 1, putM M k wr.heap.size, by omega, by go_num, STEP⟩
        case measure => simp [intOf]; omega
      · obtain rfl : k = 8 := by omega
        have s1 := lbox1 T.out.sp
        have l0 := T.out.seq.lt
        have l1 := lt_of_block T.out.sp
        have g0 := T.out.seq.c 0 (by decide)
        have g1 := T.out.seq.c 1 (by decide)
        have g2 := T.out.seq.c 2 (by decide)
        have g3 := T.out.seq.c 3 (by decide)
        have g4 := T.out.seq.c 4 (by decide)
        simp only [uN] at g0 g1 g2 g3 g4
        have KG := Aside.mk (gangs_any wr (.agg #[.int .u16 (Plan.frame P), .slice p0 (Plan.cores P).length d0, .slice p1 (Plan.parts P).length d1, .slice p2 (Plan.chans P).length d2, .slice p3 (Plan.pairs P).length d3]) P ⟨_, _, _, _, _, _, _, _, _, _, _, _, rfl, CR.out.at_.below T.out.below⟩ HF.out.cores)
        go_wp2_with fail
        refine KG.out.mono ?_
        rintro e w5 ⟨r, rfl, hrow, b5⟩
        obtain ⟨rA, rc, rfl⟩ := own_len hrow
        have hgl := gangsTo_len (Plan.cores P) 255
        have T5 : Aside (Nw1 w3 w5 S (Plan.frame P) (.slice p0 (Plan.cores P).length d0) (.slice p1 (Plan.parts P).length d1) (.slice p2 (Plan.chans P).length d2) (.slice p3 (Plan.pairs P).length d3) M 8) := ⟨T.out.old b5⟩
        obtain ⟨nG, hnG⟩ : ∃ nG, Aside ((gangsTo (Plan.cores P) 255).length = nG) := ⟨_, ⟨rfl⟩⟩
        rw [hnG.out] at hgl hrow
        obtain ⟨b, hbA, hbr, hbc⟩ := row_cells hrow hnG.out
        have RB := Aside.mk (And.intro hbr hbc)
        have RA := Aside.mk hbA
        clear hbA hbr hbc
        have KN : Aside (∀ W, Below w5.heap.size w5 W → Calls Tryd.prog 39 #[.int .i64 ((nG : Int) + 1)] W fun e w' => ∃ B G, e = .returned (.tuple #[.pointer (some ⟨B, 0, none⟩), .int .i64 0]) ∧ MSt w3 w' B G (List.replicate (nG + 1) 0) 0 ∧ Below W.heap.size W w' ∧ W.heap.size ≤ B ∧ W.heap.size ≤ G) := ⟨fun W b => new_st w3 W (nG + 1) (by omega) (by omega) (bel_then T5.out.below b) (HL.out.below (bel_then (bel_then hb1.out.1 B2.out) CR.out.below))⟩
        clear hrow b5 s1 g0 g1 g2 g3 g4 l0 l1
        go_upto_region 10 with fail
        rw [hnG.out]
        have s1 := lbox1 T5.out.sp
        have l0 := T5.out.seq.lt
        have l1 := lt_of_block T5.out.sp
        have T5d : Aside (Nw1 w3 w5.drew S (Plan.frame P) (.slice p0 (Plan.cores P).length d0) (.slice p1 (Plan.parts P).length d1) (.slice p2 (Plan.chans P).length d2) (.slice p3 (Plan.pairs P).length d3) M 8) := ⟨T5.out.old (bel_drew (Below.refl _ _))⟩
        have c5d : Aside (w5.drew.cell? ⟨S, 5, none⟩ = some (.pointer none)) := ⟨T5d.out.seq.c 5 (by decide)⟩
        have s1d : Aside (w5.drew.cell? ⟨S + 1, 0, none⟩ = some (.pointer (some ⟨S, 0, none⟩))) := ⟨s1⟩
        have wr1 : IntKind.i64.wrap ((nG : Int) + 1) = (nG : Int) + 1 := IntWalk.i64_in _ (by omega)
        go_region_held3 (fun W => W.cell? ⟨S + 1, 0, none⟩ = some (.pointer (some ⟨S, 0, none⟩))) (first | go_keep | (exact s6))
          (first | (go_at_call 39; with_reducible refine (KN.out w5.drew (bel_drew (Below.refl _ _))).mono ?_; rintro e w6 ⟨B, G, rfl, m6, b6, hB, hG⟩; have c5 := cell_up b6 c5d.out; have f5 := (T5d.out.seq.below b6).f 5; have s6 := cell_up b6 s1d.out))
        have X6 := Aside.mk (show Nw2 w3 (w6.setCell ⟨S, 5, none⟩ (.pointer (some ⟨B, 0, none⟩))) S B G M P (.slice p0 (Plan.cores P).length d0) (.slice p1 (Plan.parts P).length d1) (.slice p2 (Plan.chans P).length d2) (.slice p3 (Plan.pairs P).length d3) nG b from Nw2.make T.out T5.out RB.out.1 RB.out.2 m6 (bel_then (bel_drew (Below.refl _ _)) b6) hB hG)
        have B6 := Aside.mk (bel_then (bel_drew (Below.refl _ _) : Below w5.heap.size w5 w5.drew) b6)
        clear m6 hB hG b6 c5 f5 s6 s1 l0 l1
        obtain ⟨WA, HWA⟩ : ∃ WA, Aside (WA = w6.setCell ⟨S, 5, none⟩ (.pointer (some ⟨B, 0, none⟩))) := ⟨_, ⟨rfl⟩⟩
        rw [← HWA.out] at X6
        go_upto_block 2 with fail
        rw [← HWA.out]
        clear wr1 c5d s1d T5d KN
        have hC8 := HF.out.cores
        go_wp2_with fail
        go_loopw [45] (fun i wr => ∃ (k : Nat) (K : Nat → Int → Nat) (n : Nat → Nat), k ≤ nG ∧ i = .int .i64 k ∧ Aside (NwSt WA wr M K (Plan.cores P) (dnG (Plan.cores P) k) n ∧ ∀ d, n d ≤ k)) (fun i _ => nG - (intOf i).toNat)
        case atStart => exact ⟨0, _, _, by omega, rfl, ⟨X6.out.start, fun _ => Nat.le_refl _⟩⟩
        case round =>
          rename World => wg
          obtain ⟨k, K, n, hk, rfl, Y⟩ := hrel
          by_cases hkn : k < nG
          · obtain rfl := RA.out (by omega)
            have hx := List.getElem?_eq_getElem (show k < (gangsTo (Plan.cores P) 255).length by rw [hnG.out]; exact hkn)
            obtain ⟨X, hX⟩ : ∃ X, (gangsTo (Plan.cores P) 255)[k]'(by rw [hnG.out]; exact hkn) = X := ⟨_, rfl⟩
            rw [hX] at hx
            obtain ⟨x1, x2, x3, x4, x5⟩ := gang_at _ k X hx
            have hrw := X6.out.row k X hx
            have cel : ∀ j, j < 6 → wg.cell? ⟨b, k * 6 + j, none⟩ = (GangR.cells X)[j]? := fun j hj => by
              have q := hrw j hj
              rw [List.getElem?_eq_getElem (show j < (GangR.cells X).length from hj)] at q ⊢
              exact Y.out.1.kept.cell q (by rintro ⟨d, hd, e⟩; exact (X6.out.m d hd).2.2.2 e.symm)
            obtain ⟨g, m, V⟩ := X
            have c0 : wg.cell? ⟨b, k * 6, none⟩ = some (.int .u8 g) := cel 0 (by decide)
            have c1 : wg.cell? ⟨b, k * 6 + 1, none⟩ = some (.int .u8 m) := cel 1 (by decide)
            have c2 : wg.cell? ⟨b, k * 6 + 2, none⟩ = some (.int .u16 (Win.s V)) := cel 2 (by decide)
            have c3 : wg.cell? ⟨b, k * 6 + 3, none⟩ = some (.int .u16 (Win.l V)) := cel 3 (by decide)
            have c4 : wg.cell? ⟨b, k * 6 + 4, none⟩ = some (.int .u8 (Win.p V)) := cel 4 (by decide)
            have c5 : wg.cell? ⟨b, k * 6 + 5, none⟩ = some (.int .u8 (Win.g V)) := cel 5 (by decide)
            have hbl := World.block_lt_of_cell? _ _ c0
            have HX := Aside.mk (And.intro hx (And.intro x1 (And.intro x2 (And.intro x3 (And.intro x4 x5)))))
            clear hx hX x1 x2 x3 x4 x5 hrw cel
            obtain ⟨W3, HW3⟩ : ∃ W3, Aside (W3 = ((wg.alloc (.cells #[.int .i64 (k : Int)] 3)).alloc (.cells #[.int .u8 g, .int .u8 m, .int .u16 (Win.s V), .int .u16 (Win.l V), .int .u8 (Win.p V), .int .u8 (Win.g V)] 102)).alloc (.cells #[.int .i64 0] 3)) := ⟨_, ⟨rfl⟩⟩
            have BW3 : Aside (Below wg.heap.size wg W3) := ⟨by rw [HW3.out]; exact bel_then (bel_two _ _ _) (bel_one _ _)⟩
            have Z0 : Aside (W3.heap[wg.heap.size + 1 + 1]? = some (.cells #[.int .i64 0] 3 (0, 0))) := ⟨by rw [HW3.out]; exact lheap_top _ _ _ (by simp)⟩
            have Z1 : Aside (W3.heap[wg.heap.size + 1]? = some (.cells #[.int .u8 g, .int .u8 m, .int .u16 (Win.s V), .int .u16 (Win.l V), .int .u8 (Win.p V), .int .u8 (Win.g V)] 102 (0, 0))) := ⟨by rw [HW3.out]; exact lheap_up (lheap_top _ _ _ (by simp))⟩
            have Z2 : Aside (W3.heap[wg.heap.size]? = some (.cells #[.int .i64 (k : Int)] 3 (0, 0))) := ⟨by rw [HW3.out]; exact lheap_up (lheap_up (heap_alloc_new _ _))⟩
            have hm256 : gangM (Plan.cores P) g < 256 := maskTo_lt _ _ hC8
            have KC1 := Aside.mk (count_any W3 _ _ hm256 Z0.out)
            obtain rfl : m = (gangM (Plan.cores P) g : Int) := HX.out.2.2.2.1
            go_wp2_with fail
            rw [← HW3.out]
            refine KC1.out.mono ?_
            rintro e w7 ⟨rfl, j1, j2⟩
            have B7 : Aside (Below wg.heap.size wg w7) := ⟨BW3.out.trans (j1.below BW3.out.size (fun q e => by omega))⟩
            have hws : wg.heap.size < W3.heap.size := lt_of_block Z2.out
            have z1 := j1.heap Z1.out (by omega)
            have z2 := j1.heap Z2.out (by omega)
            have hA := Y.out.1.kept.size
            have y0 : w7.cell? ⟨wg.heap.size + 1, 0, none⟩ = some (.int .u8 g) := by simp [World.cell?, z1]
            have y1 : w7.cell? ⟨wg.heap.size + 1, 1, none⟩ = some (.int .u8 (gangM (Plan.cores P) g : Int)) := by simp [World.cell?, z1]
            have y2 : w7.cell? ⟨wg.heap.size, 0, none⟩ = some (.int .i64 (k : Int)) := lbox1 z2
            have y3 := lbox1 j2
            have KC2 := Aside.mk (make_any X6.out (Y.out.1.below B7.out) Y.out.2 (by omega) hC8 HX.out.1 wg.heap.size (wg.heap.size + 1 + 1) (wg.heap.size + 1) hA (by omega) (by omega) y0 y2 y3)
            clear c0 c1 c2 c3 c4 c5 j1 j2 z1 z2
            go_wp2_with fail
            refine KC2.out.mono ?_
            rintro e w8 ⟨rfl, K2, n2, k1, k2, k3⟩
            rw [dcG_all _ hC8 k _ HX.out.1] at k1
            have YY := Aside.mk (And.intro k1 (fun d => (k2 d).1))
            clear k1 k2 k3 y0 y1 y2 y3 KC2 KC1
            go_wp2_with fail
            go_roundw
            case rel => exact ⟨k + 1, K2, n2, by omega, by go_num, YY⟩
            case measure => simp [intOf]; omega
          · obtain rfl : k = nG := by omega
            have nsp : ¬ ∃ d, d < 8 ∧ S + 1 = M d := fun ⟨d, hd, e⟩ => by have := (X6.out.m d hd).1; omega
            have s1 := lbox1 (Y.out.1.kept.heap X6.out.sp nsp)
            go_wp2_with fail
            go_ret2
            have hb0 := (checkO_none.1 hq.out)
            have hcn := check_none hb0
            have hpa := CR.out.at_
            have hf0 := hpa.frame
            obtain ⟨ad, _, rfl, _, _⟩ := hpa.cores.at_ 0 _ (List.getElem?_eq_getElem (show 0 < (Plan.cores P).length by omega))
            have D := X6.out.done Y.out.1 Y.out.2 hnG.out hpa (by omega) hC8
            have hbw : Below w.heap.size w w3 := bel_then (bel_then hb1.out.1 B2.out) CR.out.below
            have hw2 := (bel_then hb1.out.1 B2.out).size
            exact ⟨w3, _, rfl, D, bel_then hbw D.below0, hbw.size, Nat.le_refl _, fun W k => CR.out.again (k.mono (fun j hj => by omega))⟩
  · obtain ⟨f, rfl, hfe⟩ := hr
    have B2 := Aside.mk (bel_then hb1.out.1 b2)
    clear b2 hfe x0 x1 x2 x3 x4
    go_wp2_with fail
    go_ret2
    exact ⟨rfl, B2.out⟩
end Go.Proofs.YtidjkhmlpgkaaaaDoor
