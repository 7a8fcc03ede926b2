/- The table: the longest gap. -/
import Derived.Test.YtmfddaihepjfeaaTabE
import Derived.Deep.OwnRows
namespace Go.Proofs.Ytmfddaihepjfeaa
open Go.RowKit
set_option linter.unusedVariables false
set_option linter.unusedSimpArgs false

def stepR (p : Int × Int) (b : Bool) : Int × Int := (max p.1 (if b = true then 0 else p.2 + 1), if b = true then 0 else p.2 + 1)
def runS (l : List Bool) (p : Int × Int) : Int × Int := l.foldl stepR p
theorem runS_snoc (l : List Bool) (p : Int × Int) (b : Bool) : runS (l ++ [b]) p = stepR (runS l p) b := by simp [runS]
theorem runS_append (a b : List Bool) (p : Int × Int) : runS (a ++ b) p = runS b (runS a p) := by simp [runS]
theorem runS_bd (l : List Bool) (p : Int × Int) (N : Int) (h : 0 ≤ p.1 ∧ p.1 ≤ N ∧ 0 ≤ p.2 ∧ p.2 ≤ N) : 0 ≤ (runS l p).1 ∧ (runS l p).1 ≤ N + (l.length : Int) ∧ 0 ≤ (runS l p).2 ∧ (runS l p).2 ≤ N + (l.length : Int) := by
  induction l generalizing p N with
  | nil => simpa [runS] using h
  | cons b l ih =>
    have := ih (stepR p b) (N + 1) (by
      unfold stepR
      cases b
      · simp only [Bool.false_eq_true, if_false]; omega
      · simp only [if_true]; omega)
    show 0 ≤ (runS l (stepR p b)).1 ∧ _ ≤ _ ∧ 0 ≤ (runS l (stepR p b)).2 ∧ _ ≤ _
    simp only [List.length_cons]
    refine ⟨this.1, ?_, this.2.2.1, ?_⟩
    · show (runS l (stepR p b)).1 ≤ _
      have := this.2.1; omega
    · show (runS l (stepR p b)).2 ≤ _
      have := this.2.2.2; omega
def repL (l : List Bool) (k : Nat) : List Bool := (List.replicate k l).flatten
theorem repL_succ (l : List Bool) (k : Nat) : repL l (k + 1) = repL l k ++ l := by
  unfold repL
  rw [List.replicate_succ', List.flatten_append]; simp
theorem repL_len (l : List Bool) (k : Nat) : (repL l k).length = k * l.length := by
  induction k with
  | zero => simp [repL]
  | succ k ih => rw [repL_succ, List.length_append, ih, Nat.add_mul]; omega
def marksS (n : Nat) (d : List Win) : List Bool × Bool := d.foldl (fun p x => (markL p.1 (Win.s x).toNat (Win.l x).toNat, nevB p.2 (Win.s x).toNat (Win.l x).toNat p.1.length)) (List.replicate n false, true)
theorem marksS_snoc (n : Nat) (d : List Win) (x : Win) : marksS n (d ++ [x]) = (markL (marksS n d).1 (Win.s x).toNat (Win.l x).toNat, nevB (marksS n d).2 (Win.s x).toNat (Win.l x).toNat (marksS n d).1.length) := by simp [marksS]
def gapV (n : Nat) (d : List Win) : Int := if (marksS n d).2 = true then (n : Int) else (runS (repL (marksS n d).1 2) (0, 0)).1

set_option maxHeartbeats 3200000 in
theorem gap_any (w : World) (v : Value) (P : Plan) (part : Int) (n : Nat) (hn : Plan.frame P = (n : Int)) (hv : PlanV w v P) :
    Calls Try.prog 22 #[v, .int .i64 part] w fun e w' => e = .returned (.int .i64 (gapV n (matchS (Plan.cores P) part))) ∧ Below w.heap.size w w' := by
  have hv0 := hv
  obtain ⟨a0, c0, a1, c1, a2, c2, a3, c3, rfl, hp, hlen⟩ := hv.open_
  obtain ⟨f0, f1⟩ := hp.frame
  have hmk : ∀ W : World, (Instr.makeSlice 62 (.int .i64 (n : Int)) (.int .i64 (n : Int))).run Try.prog W = .ok (.slice (some ⟨W.heap.size, 0, none⟩) n n) (W.alloc (.cells (madeCells #[.bool false] n) 4)) := fun W =>
    run_make_row' 62 4 (.bool false) 1 Try.underlying62 A_info_bool rfl .i64 .i64 n (by omega) (by omega) W
  have eA : ((List.replicate n false).map Value.bool).toArray = Array.replicate n (Value.bool false) := by simp
  rw [made_bool, eA] at hmk
  rw [hn] at f0 f1
  obtain ⟨W1, HW⟩ : ∃ W1, Aside (W1 = (((w.alloc (.cells #[.int .u16 (n : Int), .slice a0 (Plan.cores P).length c0, .slice a1 (Plan.parts P).length c1, .slice a2 (Plan.chans P).length c2, .slice a3 (Plan.pairs P).length c3] 28)).alloc (.cells (Array.replicate n (Value.bool false)) 4)).alloc (.cells #[.slice (some ⟨w.heap.size + 1, 0, none⟩) n n] 62)).alloc (.cells #[.bool true] 4)) := ⟨_, ⟨rfl⟩⟩
  have hS : GpSt w (w.heap.size + 1) (List.replicate n false) true W1 := by
    rw [HW.out]
    obtain ⟨b1, b2, b3, b4⟩ := three_boxes (w.alloc (.cells #[.int .u16 (n : Int), .slice a0 (Plan.cores P).length c0, .slice a1 (Plan.parts P).length c1, .slice a2 (Plan.chans P).length c2, .slice a3 (Plan.pairs P).length c3] 28)) (.cells (Array.replicate n (Value.bool false)) 4) (.cells #[.slice (some ⟨w.heap.size + 1, 0, none⟩) n n] 62) (.cells #[.bool true] 4)
    have e : (w.alloc (.cells #[.int .u16 (n : Int), .slice a0 (Plan.cores P).length c0, .slice a1 (Plan.parts P).length c1, .slice a2 (Plan.chans P).length c2, .slice a3 (Plan.pairs P).length c3] 28)).heap.size = w.heap.size + 1 := by simp
    rw [e] at b1 b2 b3
    refine ⟨bel_then (bel_one _ _) b4, by rw [rowB, eA]; exact b1, by simpa using b2, b3, by omega, by simp; omega⟩
  have K := Aside.mk (windows_any w W1 _ P part hv0 34 #[.pointer (some ⟨w.heap.size + 1 + 1, 0, none⟩), .pointer (some ⟨w.heap.size + 1 + 1 + 1, 0, none⟩)] callFunc_gap1 (gpS (w.heap.size + 1)) (fun k e => by
      rcases e with e | e
      · subst e; exact lt_of_block hS.arr
      · subst e; exact lt_of_block hS.nev)
    (fun d a => GpSt w (w.heap.size + 1) (marksS n d).1 (marksS n d).2 a) (fun d a b S k => S.old k) (fun d a S => S.below)
    (fun d x a S ok hp _ => by
      rw [marksS_snoc]
      exact gap1_any w _ _ _ x a ok _ _ (Int.toNat_of_nonneg ok.s.1).symm (Int.toNat_of_nonneg ok.l.1).symm S) hS)
  have HB := Aside.mk hS.below
  have hbox : Aside (W1.heap[w.heap.size]? = some (.cells #[.int .u16 (n : Int), .slice a0 (Plan.cores P).length c0, .slice a1 (Plan.parts P).length c1, .slice a2 (Plan.chans P).length c2, .slice a3 (Plan.pairs P).length c3] 28 (0, 0))) := ⟨by
    rw [HW.out]
    have h1 : (w.alloc (.cells #[.int .u16 (n : Int), .slice a0 (Plan.cores P).length c0, .slice a1 (Plan.parts P).length c1, .slice a2 (Plan.chans P).length c2, .slice a3 (Plan.pairs P).length c3] 28)).heap[w.heap.size]? = some (.cells #[.int .u16 (n : Int), .slice a0 (Plan.cores P).length c0, .slice a1 (Plan.parts P).length c1, .slice a2 (Plan.chans P).length c2, .slice a3 (Plan.pairs P).length c3] 28 (0, 0)) := heap_alloc_new _ _
    exact ((three_boxes _ _ _ _).2.2.2.block _ (lt_of_block h1)).trans h1⟩
  rw [hn] at K ⊢
  have HV : Aside (∀ b, (marksS n (matchS (Plan.cores P) part)).2 = b → gapV n (matchS (Plan.cores P) part) = if b = true then (n : Int) else (runS (repL (marksS n (matchS (Plan.cores P) part)).1 2) (0, 0)).1) := ⟨fun b h => by rw [gapV, h]⟩
  generalize gapV n (matchS (Plan.cores P) part) = r at *
  generalize marksS n (matchS (Plan.cores P) part) = mk at *
  obtain ⟨l, nv⟩ := mk
  have HV := Aside.mk (HV.out nv rfl)
  clear hp hS hv hv0 hn
  go_enter Try.func22, Try.ntmps22
  go_wp2_with fail
  rw [← HW.out]
  refine K.out.mono ?_
  rintro e w2 ⟨rfl, S, k2⟩
  have hbx := k2.heap hbox.out (by unfold gpS; omega)
  have g0 : w2.cell? ⟨w.heap.size, 0, none⟩ = some (.int .u16 (n : Int)) := by simp [World.cell?, hbx]
  have g1 : w2.cell? ⟨w.heap.size + 1 + 1 + 1, 0, none⟩ = some (.bool nv) := cell_of_one S.nev
  have g2 : w2.cell? ⟨w.heap.size + 1 + 1, 0, none⟩ = some (.slice (some ⟨w.heap.size + 1, 0, none⟩) l.length l.length) := cell_of_one S.sv
  have S0 := Aside.mk S
  have hlen := S.len
  clear hbx S k2
  cases nv
  · have HR : Aside (r = (runS (repL l 2) (0, 0)).1) := ⟨by rw [HV.out]; rfl⟩
    go_wp2_with fail
    go_loop [7, 8, 23] (fun m q i => ∃ k : Nat, k ≤ 2 ∧ i = .int .i64 k ∧ m = .int .i64 (runS (repL l k) (0, 0)).1 ∧ q = .int .i64 (runS (repL l k) (0, 0)).2) (fun _ _ i => 2 - (intOf i).toNat)
    case atStart => exact ⟨0, by omega, rfl, rfl, rfl⟩
    case round =>
      obtain ⟨k, hk, rfl, rfl, rfl⟩ := hrel
      by_cases hk2 : k < 2
      · obtain ⟨p0, hp0⟩ : ∃ p0, Aside (runS (repL l k) (0, 0) = p0) := ⟨_, ⟨rfl⟩⟩
        rw [hp0.out]
        have hbd : Aside (0 ≤ p0.1 ∧ p0.1 ≤ 65535 ∧ 0 ≤ p0.2 ∧ p0.2 ≤ 65535) := ⟨by
          have h := runS_bd (repL l k) (0, 0) 0 (by simp)
          rw [hp0.out, repL_len] at h
          have : k * l.length ≤ 65535 := by
            have : k = 0 ∨ k = 1 := by omega
            rcases this with e | e <;> subst e <;> omega
          omega⟩
        go_wp2_with fail
        go_loop [7, 8, 27] (fun m q i => ∃ j : Nat, j ≤ l.length ∧ i = .int .i64 j ∧ m = .int .i64 (runS (l.take j) p0).1 ∧ q = .int .i64 (runS (l.take j) p0).2) (fun _ _ i => l.length - (intOf i).toNat)
        case atStart => exact ⟨0, by omega, rfl, rfl, rfl⟩
        case round =>
          obtain ⟨j, hj, rfl, rfl, rfl⟩ := hrel
          by_cases hjl : j < l.length
          · have hl := List.getElem?_eq_getElem hjl
            obtain ⟨b, hb⟩ : ∃ b, l[j] = b := ⟨_, rfl⟩
            rw [hb] at hl
            have harr := S0.out.arr
            have d0 : w2.cell? ⟨w.heap.size + 1, j, none⟩ = some (.bool b) := by simp [World.cell?, harr, rowB, List.getElem?_map, hl]
            have HE : Aside (runS (l.take (j + 1)) p0 = stepR (runS (l.take j) p0) b) := ⟨by rw [take_snoc hl, runS_snoc]⟩
            obtain ⟨p1, hp1⟩ : ∃ p1, Aside (runS (l.take j) p0 = p1) := ⟨_, ⟨rfl⟩⟩
            rw [hp1.out] at HE ⊢
            obtain ⟨q0, q1, q2, q3⟩ : 0 ≤ p1.1 ∧ p1.1 ≤ 131070 ∧ 0 ≤ p1.2 ∧ p1.2 ≤ 131070 := by
              have h := runS_bd (l.take j) p0 65535 hbd.out
              rw [hp1.out, List.length_take] at h
              omega
            obtain ⟨m1, r1⟩ := p1
            simp only at q0 q1 q2 q3
            clear harr hl hb
            cases b
            · have HE : Aside (runS (l.take (j + 1)) p0 = (max m1 (r1 + 1), r1 + 1)) := ⟨HE.out⟩
              go_wp2_with fail
              all_goals
                go_round
                case rel =>
                  refine ⟨j + 1, by omega, by go_num, ?_, by rw [HE.out]⟩
                  rw [HE.out]
                  show Value.int .i64 _ = Value.int .i64 _
                  congr 1
                  omega
                case measure => simp [intOf]; omega
            · have HE : Aside (runS (l.take (j + 1)) p0 = (max m1 0, 0)) := ⟨HE.out⟩
              go_wp2_with fail
              all_goals
                go_round
                case rel =>
                  refine ⟨j + 1, by omega, by go_num, ?_, by rw [HE.out]⟩
                  rw [HE.out]
                  show Value.int .i64 _ = Value.int .i64 _
                  congr 1
                  omega
                case measure => simp [intOf]; omega
          · obtain rfl : j = l.length := by omega
            have HE : Aside (runS (repL l (k + 1)) (0, 0) = runS l p0) := ⟨by rw [repL_succ, runS_append, hp0.out]⟩
            go_wp2_with fail
            go_round
            case rel => exact ⟨k + 1, by omega, by go_num, by rw [HE.out, List.take_length], by rw [HE.out, List.take_length]⟩
            case measure => simp [intOf]; omega
      · obtain rfl : k = 2 := by omega
        go_wp2_with fail
        go_ret
        exact ⟨by rw [HR.out]; rfl, S0.out.below⟩
  · have HR : Aside (r = (n : Int)) := ⟨by rw [HV.out]; rfl⟩
    go_wp2_with fail
    go_ret
    exact ⟨by rw [HR.out]; rfl, S0.out.below⟩
end Go.Proofs.Ytmfddaihepjfeaa
