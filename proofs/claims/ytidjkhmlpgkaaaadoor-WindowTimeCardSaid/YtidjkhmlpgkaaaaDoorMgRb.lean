/- The rules' reference: the check: its frame, its code cut at the loops. The rules' reference: the check's loop over gangs: two windows in their boxes. The rules' reference: the check's loop over gangs. The rules' reference: the check's loop over gangs: windows of two cores. The rules' reference: the check's loop over gangs: joined. The rules' reference: the check's loop over gangs: the whole. -/
import Derived.Test.YtidjkhmlpgkaaaaDoorMgRa
import Derived.Deep.CutBlock
import Derived.Deep.RegionHeld3
namespace Go.Proofs.YtidjkhmlpgkaaaaDoor
open Go.RowKit
set_option linter.unusedVariables false
set_option linter.unusedSimpArgs false

/-- What follows the first n statements. -/
def dropSeq : Nat → Code → Code
  | n + 1, .seq _ b => dropSeq n b
  | _, c => c
theorem wp_seq_stage {P : Program} {Q : Exit → Act → World → Prop} {a : Act} {w : World} {x y : Code} (R : Act → World → Prop) (hR : ∀ a w, R a w → y.wp P Q a w) (h : ∀ K : Act → World → Prop, (∀ a w, R a w → K a w) → x.wp P (Exit.then K Q) a w) : (Code.seq x y).wp P Q a w :=
  wp_seq (h _ hR)
noncomputable def ckTail (n : Nat) : Code := dropSeq n (Tryd.f31.body.getD .skip)

def RPlace (w : World) (cs : List Value) (x : Place) : Prop := cs = Place.cells x ∧ Win.Ok (Place.w x) ∧ (0 ≤ Place.c x ∧ Place.c x ≤ 7) ∧ (0 ≤ Place.a x ∧ Place.a x ≤ 2047)
def Places (w : World) (v : Value) (l : List Place) : Prop := Elems w 6 RPlace v l
theorem Places.below {w w' : World} {v : Value} {L : List Place} (h : Places w v L) (k : Below w.heap.size w w') : Places w' v L := Elems.below (R := RPlace) (fun h _ => h) h k
theorem Places.at_ {w : World} {a : Option Addr} {n cap : Nat} {L : List Place} (h : Places w (.slice a n cap) L) (i : Nat) (x : Place) (hx : L[i]? = some x) :
    ∃ ad, a = some ad ∧ w.cell? (ad.add (i * 6)) = some (.int .i64 (Place.c x)) ∧ w.cell? ⟨(ad.add (i * 6)).block, (ad.add (i * 6)).off + 1, none⟩ = some (.int .i64 (Place.a x)) ∧ w.cell? ⟨(ad.add (i * 6)).block, (ad.add (i * 6)).off + 2, none⟩ = some (.int .u16 (Win.s (Place.w x))) ∧
      w.cell? ⟨(ad.add (i * 6)).block, (ad.add (i * 6)).off + 2 + 1, none⟩ = some (.int .u16 (Win.l (Place.w x))) ∧ w.cell? ⟨(ad.add (i * 6)).block, (ad.add (i * 6)).off + 2 + 2, none⟩ = some (.int .u8 (Win.p (Place.w x))) ∧ w.cell? ⟨(ad.add (i * 6)).block, (ad.add (i * 6)).off + 2 + 3, none⟩ = some (.int .u8 (Win.g (Place.w x))) ∧
      Win.Ok (Place.w x) ∧ (0 ≤ Place.c x ∧ Place.c x ≤ 7) ∧ (0 ≤ Place.a x ∧ Place.a x ≤ 2047) := by
  obtain ⟨ad, cs, rfl, hl, hc, rfl, ok⟩ := Elems.at_ h i x hx
  have hc' : ∀ j, j < 6 → w.cell? (ad.add (i * 6 + j)) = (Place.cells x)[j]? := hc
  exact ⟨ad, rfl, by simpa [Place.cells] using hc' 0 (by omega), by rw [cell_add _ _ _ _ (by omega)]; simpa [Place.cells] using hc' 1 (by omega), by rw [cell_add _ _ _ _ (by omega)]; simpa [Place.cells] using hc' 2 (by omega), by rw [Nat.add_assoc, cell_add _ _ _ _ (by omega)]; simpa [Place.cells] using hc' 3 (by omega), by rw [Nat.add_assoc, cell_add _ _ _ _ (by omega)]; simpa [Place.cells] using hc' 4 (by omega), by rw [Nat.add_assoc, cell_add _ _ _ _ (by omega)]; simpa [Place.cells] using hc' 5 (by omega), ok⟩
theorem flatMap_get {α β : Type} {n : Nat} (f : α → List β) (hf : ∀ x, (f x).length = n) (L : List α) (i : Nat) (hi : i < L.length) (j : Nat) (hj : j < n) : (L.flatMap f)[i * n + j]? = (f L[i])[j]? := by
  induction L generalizing i with
  | nil => simp at hi
  | cons x L ih =>
    rw [List.flatMap_cons]
    rcases i with _ | i
    · simp only [Nat.zero_mul, Nat.zero_add, List.getElem_cons_zero]
      rw [List.getElem?_append_left (by rw [hf]; exact hj)]
    · have e : (i + 1) * n + j = n + (i * n + j) := by rw [Nat.add_mul]; omega
      rw [e, List.getElem?_append_right (by rw [hf]; omega), hf, Nat.add_sub_cancel_left]
      simp only [List.getElem_cons_succ]
      exact ih i (by simpa using hi)
/-- A row of the call's own with struct elements reads as elements. -/
theorem own_elems {α : Type} {w : World} {base : Nat} {e : TypeId} {n : Nat} {v : Value} {L : List α} {R : World → List Value → α → Prop} (f : α → List Value) (hf : ∀ x, (f x).length = n) (h : w.ownsRow base e n v L.length (L.flatMap f)) (hR : ∀ x ∈ L, R w (f x) x) : Elems w n R v L := by
  rcases h.2 with ⟨rfl, h0⟩ | ⟨g, cap, cur, rfl, hb, hh, hnc, hcm, hrest⟩
  · obtain rfl : L = [] := List.eq_nil_of_length_eq_zero h0
    exact ⟨none, 0, rfl, by simp, by simp, by simp⟩
  · refine ⟨some ⟨g, 0, none⟩, cap, rfl, hnc, by simpa [maxLen] using hcm, fun _ => ⟨_, rfl, fun i hi => ⟨f L[i], hf _, fun j hj => ?_, hR _ (List.getElem_mem _)⟩⟩⟩
    have hj' : j < (f L[i]).length := by rw [hf]; exact hj
    rw [List.getElem?_eq_getElem hj']
    refine h.cells (g := g) rfl (i * n + j) _ ?_
    rw [flatMap_get f hf L i hi j hj, List.getElem?_eq_getElem hj']

/-- The slices of a plan as it lies in its box. -/
structure CkV where
  a0 : Option Addr
  c0 : Nat
  a1 : Option Addr
  c1 : Nat
  a2 : Option Addr
  c2 : Nat
  a3 : Option Addr
  c3 : Nat
/-- What the check is about: the world at its beginning, the plan, its slices, the row of places. -/
structure Ck where
  w : World
  P : Plan
  v : CkV
  lv : Value
  ex : List (Nat × Obj)
def Ck.l (c : Ck) : List Place := allS (Plan.cores c.P)
/-- The check's state: the plan in its box, and all places in a row. -/
structure CkSt (c : Ck) (wr : World) : Prop where
  below : Below c.w.heap.size c.w wr
  box : wr.heap[c.w.heap.size]? = some (.cells #[.int .u16 (Plan.frame c.P), .slice c.v.a0 (Plan.cores c.P).length c.v.c0, .slice c.v.a1 (Plan.parts c.P).length c.v.c1, .slice c.v.a2 (Plan.chans c.P).length c.v.c2, .slice c.v.a3 (Plan.pairs c.P).length c.v.c3] 28 (0, 0))
  plan : PlanAt wr (.slice c.v.a0 (Plan.cores c.P).length c.v.c0) (.slice c.v.a1 (Plan.parts c.P).length c.v.c1) (.slice c.v.a2 (Plan.chans c.P).length c.v.c2) (.slice c.v.a3 (Plan.pairs c.P).length c.v.c3) c.P
  places : Places wr c.lv c.l
  boxes : ∀ p ∈ c.ex, wr.heap[p.1]? = some p.2
theorem CkSt.old {c : Ck} {wr w' : World} (s : CkSt c wr) (k : Below wr.heap.size wr w') : CkSt c w' :=
  ⟨bel_then s.below k, (k.block _ (lt_of_block s.box)).trans s.box, s.plan.below k, s.places.below k, fun p hp => (k.block _ (lt_of_block (s.boxes p hp))).trans (s.boxes p hp)⟩
theorem CkSt.drewN {c : Ck} {wr : World} (s : CkSt c wr) (n : Nat) : CkSt c (wr.drewN n) := s.old (below_drewN _ _)
def CkPost (w : World) (r : Flt) (e : Ending) (w' : World) : Prop := e = .returned (.tuple #[.int .i64 r.1, .int .i64 r.2]) ∧ Below w.heap.size w w'
set_option maxRecDepth 100000 in
def ckF (u : Nat → Value) (B : Nat) (lv : Value) : Act := ⟨#[u 0, .pointer (some ⟨B, 0, none⟩), .int .i64 0, .int .i64 0, u 4, lv, u 6, u 7, u 8, u 9, u 10, u 11, u 12, u 13, u 14, u 15, u 16, u 17, u 18, u 19, u 20, u 21, u 22, u 23, u 24, u 25, u 26, u 27, u 28, u 29, u 30, u 31, u 32, u 33, u 34, u 35, u 36, u 37, u 38, u 39, u 40, u 41, u 42, u 43, u 44, u 45, u 46, u 47, u 48, u 49, u 50, u 51, u 52, u 53, u 54, u 55, u 56, u 57, u 58, u 59, u 60, u 61, u 62, u 63, u 64, u 65, u 66, u 67, u 68, u 69, u 70, u 71, u 72, u 73, u 74, u 75, u 76, u 77, u 78, u 79, u 80, u 81, u 82, u 83, u 84, u 85, u 86, u 87, u 88, u 89, u 90, u 91, u 92, u 93, u 94, u 95, u 96, u 97, u 98, u 99, u 100, u 101, u 102, u 103, u 104, u 105, u 106, u 107, u 108, u 109, u 110, u 111, u 112, u 113, u 114, u 115, u 116, u 117, u 118, u 119, u 120, u 121, u 122, u 123, u 124, u 125, u 126, u 127, u 128, u 129, u 130, u 131, u 132, u 133, u 134, u 135, u 136, u 137, u 138, u 139, u 140, u 141, u 142, u 143, u 144, u 145, u 146, u 147, u 148, u 149, u 150, u 151, u 152, u 153, u 154, u 155, u 156, u 157, u 158, u 159, u 160, u 161, u 162, u 163, u 164, u 165, u 166, u 167, u 168, u 169, u 170, u 171, u 172, u 173, u 174, u 175, u 176, u 177, u 178, u 179, u 180, u 181, u 182, u 183, u 184, u 185, u 186, u 187, u 188, u 189, u 190, u 191, u 192, u 193, u 194, u 195, u 196, u 197, u 198, u 199, u 200, u 201, u 202, u 203, u 204, u 205, u 206, u 207, u 208, u 209, u 210, u 211, u 212, u 213, u 214, u 215, u 216, u 217, u 218, u 219, u 220, u 221, u 222, u 223, u 224, u 225, u 226, u 227, u 228, u 229, u 230, u 231, u 232, u 233, u 234, u 235, u 236, u 237, u 238, u 239, u 240, u 241, u 242, u 243, u 244, u 245, u 246, u 247, u 248, u 249, u 250, u 251, u 252, u 253, u 254, u 255, u 256, u 257, u 258, u 259, u 260, u 261, u 262, u 263, u 264, u 265, u 266, u 267, u 268, u 269, u 270, u 271, u 272, u 273, u 274, u 275, u 276, u 277, u 278, u 279, u 280, u 281, u 282, u 283, u 284, u 285, u 286, u 287, u 288, u 289, u 290, u 291, u 292, u 293, u 294, u 295, u 296, u 297, u 298, u 299, u 300, u 301, u 302, u 303, u 304, u 305, u 306, u 307, u 308, u 309, u 310, u 311, u 312, u 313, u 314, u 315, u 316, u 317, u 318, u 319, u 320, u 321, u 322, u 323, u 324, u 325, u 326, u 327, u 328, u 329, u 330, u 331, u 332, u 333, u 334, u 335, u 336, u 337, u 338, u 339, u 340, u 341, u 342, u 343, u 344, u 345, u 346, u 347, u 348, u 349, u 350, u 351, u 352, u 353, u 354, u 355, u 356, u 357, u 358, u 359, u 360, u 361, u 362, u 363, u 364, u 365, u 366, u 367, u 368, u 369, u 370, u 371, u 372, u 373, u 374, u 375, u 376, u 377, u 378, u 379, u 380, u 381, u 382, u 383, u 384, u 385, u 386, u 387, u 388, u 389, u 390, u 391, u 392, u 393, u 394, u 395, u 396, u 397, u 398, u 399, u 400, u 401, u 402, u 403, u 404, u 405, u 406, u 407, u 408, u 409, u 410, u 411, u 412, u 413, u 414, u 415, u 416, u 417, u 418, u 419, u 420, u 421, u 422, u 423, u 424, u 425, u 426, u 427, u 428, u 429, u 430, u 431, u 432, u 433, u 434, u 435, u 436, u 437, u 438, u 439, u 440, u 441, u 442, u 443, u 444, u 445, u 446, u 447, u 448, u 449, u 450, u 451, u 452, u 453, u 454, u 455, u 456, u 457, u 458, u 459, u 460, u 461, u 462, u 463, u 464, u 465, u 466, u 467, u 468, u 469, u 470, u 471, u 472, u 473, u 474, u 475, u 476, u 477, u 478, u 479, u 480, u 481, u 482, u 483, u 484, u 485, u 486, u 487, u 488, u 489, u 490, u 491, u 492, u 493, u 494, u 495], []⟩
def nthV : List Value → Nat → Value
  | x :: _, 0 => x
  | _ :: l, n + 1 => nthV l n
  | [], _ => undef
theorem list_nth (l : List Value) : l = (List.range l.length).map (nthV l) := by
  apply List.ext_getElem
  · simp
  · intro i h1 h2
    simp only [List.getElem_map, List.getElem_range]
    clear h2
    induction l generalizing i with
    | nil => simp at h1
    | cons x l ih =>
      rcases i with _ | i
      · rfl
      · simpa [nthV] using ih i (by simpa using h1)
set_option maxRecDepth 100000 in
theorem list_lit (l : List Value) (h : l.length = 496) : l = [nthV l 0, nthV l 1, nthV l 2, nthV l 3, nthV l 4, nthV l 5, nthV l 6, nthV l 7, nthV l 8, nthV l 9, nthV l 10, nthV l 11, nthV l 12, nthV l 13, nthV l 14, nthV l 15, nthV l 16, nthV l 17, nthV l 18, nthV l 19, nthV l 20, nthV l 21, nthV l 22, nthV l 23, nthV l 24, nthV l 25, nthV l 26, nthV l 27, nthV l 28, nthV l 29, nthV l 30, nthV l 31, nthV l 32, nthV l 33, nthV l 34, nthV l 35, nthV l 36, nthV l 37, nthV l 38, nthV l 39, nthV l 40, nthV l 41, nthV l 42, nthV l 43, nthV l 44, nthV l 45, nthV l 46, nthV l 47, nthV l 48, nthV l 49, nthV l 50, nthV l 51, nthV l 52, nthV l 53, nthV l 54, nthV l 55, nthV l 56, nthV l 57, nthV l 58, nthV l 59, nthV l 60, nthV l 61, nthV l 62, nthV l 63, nthV l 64, nthV l 65, nthV l 66, nthV l 67, nthV l 68, nthV l 69, nthV l 70, nthV l 71, nthV l 72, nthV l 73, nthV l 74, nthV l 75, nthV l 76, nthV l 77, nthV l 78, nthV l 79, nthV l 80, nthV l 81, nthV l 82, nthV l 83, nthV l 84, nthV l 85, nthV l 86, nthV l 87, nthV l 88, nthV l 89, nthV l 90, nthV l 91, nthV l 92, nthV l 93, nthV l 94, nthV l 95, nthV l 96, nthV l 97, nthV l 98, nthV l 99, nthV l 100, nthV l 101, nthV l 102, nthV l 103, nthV l 104, nthV l 105, nthV l 106, nthV l 107, nthV l 108, nthV l 109, nthV l 110, nthV l 111, nthV l 112, nthV l 113, nthV l 114, nthV l 115, nthV l 116, nthV l 117, nthV l 118, nthV l 119, nthV l 120, nthV l 121, nthV l 122, nthV l 123, nthV l 124, nthV l 125, nthV l 126, nthV l 127, nthV l 128, nthV l 129, nthV l 130, nthV l 131, nthV l 132, nthV l 133, nthV l 134, nthV l 135, nthV l 136, nthV l 137, nthV l 138, nthV l 139, nthV l 140, nthV l 141, nthV l 142, nthV l 143, nthV l 144, nthV l 145, nthV l 146, nthV l 147, nthV l 148, nthV l 149, nthV l 150, nthV l 151, nthV l 152, nthV l 153, nthV l 154, nthV l 155, nthV l 156, nthV l 157, nthV l 158, nthV l 159, nthV l 160, nthV l 161, nthV l 162, nthV l 163, nthV l 164, nthV l 165, nthV l 166, nthV l 167, nthV l 168, nthV l 169, nthV l 170, nthV l 171, nthV l 172, nthV l 173, nthV l 174, nthV l 175, nthV l 176, nthV l 177, nthV l 178, nthV l 179, nthV l 180, nthV l 181, nthV l 182, nthV l 183, nthV l 184, nthV l 185, nthV l 186, nthV l 187, nthV l 188, nthV l 189, nthV l 190, nthV l 191, nthV l 192, nthV l 193, nthV l 194, nthV l 195, nthV l 196, nthV l 197, nthV l 198, nthV l 199, nthV l 200, nthV l 201, nthV l 202, nthV l 203, nthV l 204, nthV l 205, nthV l 206, nthV l 207, nthV l 208, nthV l 209, nthV l 210, nthV l 211, nthV l 212, nthV l 213, nthV l 214, nthV l 215, nthV l 216, nthV l 217, nthV l 218, nthV l 219, nthV l 220, nthV l 221, nthV l 222, nthV l 223, nthV l 224, nthV l 225, nthV l 226, nthV l 227, nthV l 228, nthV l 229, nthV l 230, nthV l 231, nthV l 232, nthV l 233, nthV l 234, nthV l 235, nthV l 236, nthV l 237, nthV l 238, nthV l 239, nthV l 240, nthV l 241, nthV l 242, nthV l 243, nthV l 244, nthV l 245, nthV l 246, nthV l 247, nthV l 248, nthV l 249, nthV l 250, nthV l 251, nthV l 252, nthV l 253, nthV l 254, nthV l 255, nthV l 256, nthV l 257, nthV l 258, nthV l 259, nthV l 260, nthV l 261, nthV l 262, nthV l 263, nthV l 264, nthV l 265, nthV l 266, nthV l 267, nthV l 268, nthV l 269, nthV l 270, nthV l 271, nthV l 272, nthV l 273, nthV l 274, nthV l 275, nthV l 276, nthV l 277, nthV l 278, nthV l 279, nthV l 280, nthV l 281, nthV l 282, nthV l 283, nthV l 284, nthV l 285, nthV l 286, nthV l 287, nthV l 288, nthV l 289, nthV l 290, nthV l 291, nthV l 292, nthV l 293, nthV l 294, nthV l 295, nthV l 296, nthV l 297, nthV l 298, nthV l 299, nthV l 300, nthV l 301, nthV l 302, nthV l 303, nthV l 304, nthV l 305, nthV l 306, nthV l 307, nthV l 308, nthV l 309, nthV l 310, nthV l 311, nthV l 312, nthV l 313, nthV l 314, nthV l 315, nthV l 316, nthV l 317, nthV l 318, nthV l 319, nthV l 320, nthV l 321, nthV l 322, nthV l 323, nthV l 324, nthV l 325, nthV l 326, nthV l 327, nthV l 328, nthV l 329, nthV l 330, nthV l 331, nthV l 332, nthV l 333, nthV l 334, nthV l 335, nthV l 336, nthV l 337, nthV l 338, nthV l 339, nthV l 340, nthV l 341, nthV l 342, nthV l 343, nthV l 344, nthV l 345, nthV l 346, nthV l 347, nthV l 348, nthV l 349, nthV l 350, nthV l 351, nthV l 352, nthV l 353, nthV l 354, nthV l 355, nthV l 356, nthV l 357, nthV l 358, nthV l 359, nthV l 360, nthV l 361, nthV l 362, nthV l 363, nthV l 364, nthV l 365, nthV l 366, nthV l 367, nthV l 368, nthV l 369, nthV l 370, nthV l 371, nthV l 372, nthV l 373, nthV l 374, nthV l 375, nthV l 376, nthV l 377, nthV l 378, nthV l 379, nthV l 380, nthV l 381, nthV l 382, nthV l 383, nthV l 384, nthV l 385, nthV l 386, nthV l 387, nthV l 388, nthV l 389, nthV l 390, nthV l 391, nthV l 392, nthV l 393, nthV l 394, nthV l 395, nthV l 396, nthV l 397, nthV l 398, nthV l 399, nthV l 400, nthV l 401, nthV l 402, nthV l 403, nthV l 404, nthV l 405, nthV l 406, nthV l 407, nthV l 408, nthV l 409, nthV l 410, nthV l 411, nthV l 412, nthV l 413, nthV l 414, nthV l 415, nthV l 416, nthV l 417, nthV l 418, nthV l 419, nthV l 420, nthV l 421, nthV l 422, nthV l 423, nthV l 424, nthV l 425, nthV l 426, nthV l 427, nthV l 428, nthV l 429, nthV l 430, nthV l 431, nthV l 432, nthV l 433, nthV l 434, nthV l 435, nthV l 436, nthV l 437, nthV l 438, nthV l 439, nthV l 440, nthV l 441, nthV l 442, nthV l 443, nthV l 444, nthV l 445, nthV l 446, nthV l 447, nthV l 448, nthV l 449, nthV l 450, nthV l 451, nthV l 452, nthV l 453, nthV l 454, nthV l 455, nthV l 456, nthV l 457, nthV l 458, nthV l 459, nthV l 460, nthV l 461, nthV l 462, nthV l 463, nthV l 464, nthV l 465, nthV l 466, nthV l 467, nthV l 468, nthV l 469, nthV l 470, nthV l 471, nthV l 472, nthV l 473, nthV l 474, nthV l 475, nthV l 476, nthV l 477, nthV l 478, nthV l 479, nthV l 480, nthV l 481, nthV l 482, nthV l 483, nthV l 484, nthV l 485, nthV l 486, nthV l 487, nthV l 488, nthV l 489, nthV l 490, nthV l 491, nthV l 492, nthV l 493, nthV l 494, nthV l 495] := by
  have e := list_nth l
  rw [h] at e
  exact e.trans (by kernel_rfl)
set_option maxRecDepth 100000 in
/-- A frame of the check's size that holds the state's slots. -/
theorem ckF_mk {a : Act} {B : Nat} {lv : Value} (h0 : a.defers = []) (hn : a.tmps.toList.length = 496) (h1 : nthV a.tmps.toList 1 = .pointer (some ⟨B, 0, none⟩)) (h2 : nthV a.tmps.toList 2 = .int .i64 0) (h3 : nthV a.tmps.toList 3 = .int .i64 0) (h5 : nthV a.tmps.toList 5 = lv) : a = ckF (nthV a.tmps.toList) B lv := by
  obtain ⟨⟨l⟩, d⟩ := a
  have e := list_lit l hn
  simp only at h0 h1 h2 h3 h5
  subst h0
  have e2 : ckF (nthV l) B lv = ⟨⟨l⟩, []⟩ := by
    unfold ckF
    rw [← h1, ← h2, ← h5]
    have h23 : nthV l 3 = nthV l 2 := h3.trans h2.symm
    refine congrArg (fun q => Act.mk ⟨q⟩ []) ?_
    refine Eq.trans ?_ e.symm
    rw [h23]
  exact e2.symm
/-- The relation at a lesser number. -/
def Lower (I : Nat → Act → World → Prop) (n : Nat) (a : Act) (w : World) : Prop := ∃ m, m < n ∧ I m a w
/-- A loop whose rounds lower a number that the relation bears. -/
theorem wp_loop_fuel {P : Program} {Q : Exit → Act → World → Prop} {c : Code} (I : Nat → Act → World → Prop) {a : Act} {w : World} (n : Nat) (h0 : I n a w)
    (round : ∀ n a w, I n a w → c.wp P (Exit.then (Lower I n) Q) a w) : (Code.loop c).wp P Q a w := by
  have least : ∀ n a w, I n a w → ∃ m, I m a w ∧ ∀ j, I j a w → m ≤ j := by
    intro n
    induction n using Nat.strongRecOn with
    | _ n ih =>
      intro a w h
      by_cases q : ∃ j, j < n ∧ I j a w
      · obtain ⟨j, hj, h'⟩ := q
        exact ih j hj a w h'
      · exact ⟨n, h, fun j hj => Nat.le_of_not_lt fun hlt => q ⟨j, hlt, hj⟩⟩
  have hμ : ∃ μ : Act → World → Nat, ∀ a w, (∃ n, I n a w) → I (μ a w) a w ∧ ∀ j, I j a w → μ a w ≤ j := by
    refine ⟨fun a w => Classical.epsilon fun m => I m a w ∧ ∀ j, I j a w → m ≤ j, fun a w ⟨n, h⟩ => ?_⟩
    exact Classical.epsilon_spec (p := fun m => I m a w ∧ ∀ j, I j a w → m ≤ j) (least n a w h)
  obtain ⟨μ, hμ⟩ := hμ
  refine wp_loop (fun a w => ∃ n, I n a w) μ ⟨n, h0⟩ fun a w h => ?_
  obtain ⟨h1, h2⟩ := hμ a w h
  refine wp_mono (round _ a w h1) fun e a' w' q => ?_
  cases e with
  | normal =>
    obtain ⟨m, hm, hI⟩ := q
    exact ⟨⟨m, hI⟩, Nat.lt_of_le_of_lt ((hμ a' w' ⟨m, hI⟩).2 m hI) hm⟩
  | exit id => exact q
  | goto l => exact q
  | ret => exact q
  | panic ch => exact q
  | outgrown => exact q
/-- A statement that is cut off from what follows. -/
theorem wp_then {P : Program} {s : Code} {K : Act → World → Prop} {Q' : Exit → Act → World → Prop} {a : Act} {w : World} (R : Act → World → Prop) (first : s.wp P (Exit.then R Q') a w) (rest : ∀ a' w', R a' w' → K a' w') : s.wp P (Exit.then K Q') a w := by
  refine wp_mono first fun e a' w' hq => ?_
  cases e with
  | normal => exact rest _ _ hq
  | exit id => exact hq
  | goto l => exact hq
  | ret => exact hq
  | panic ch => exact hq
  | outgrown => exact hq
/-- A part of a code, by its path. -/
def pathC : List Nat → Code → Code
  | 0 :: l, .seq x _ => pathC l x
  | 1 :: l, .seq _ x => pathC l x
  | 2 :: l, .block _ x => pathC l x
  | 2 :: l, .loop x => pathC l x
  | 2 :: l, .scope x => pathC l x
  | 3 :: l, .cond _ x _ => pathC l x
  | 4 :: l, .cond _ _ x => pathC l x
  | _, x => x
def Named (u : Nat → Value) : List (Nat × Value) → Prop
  | [] => True
  | p :: l => u p.1 = p.2 ∧ Named u l
abbrev ptr_ (X : Nat) : Value := .pointer (some ⟨X, 0, none⟩)
abbrev num_ (k : Nat) : Value := .int .i64 (k : Int)
/-- The named slots of a frame hold what they should. -/
def CkFr (c : Ck) (nm : List (Nat × Value)) (a : Act) : Prop := ∃ u, a = ckF u c.w.heap.size c.lv ∧ Named u nm
theorem CkFr.mk {c : Ck} {nm : List (Nat × Value)} {a : Act} (h0 : a.defers = []) (hn : a.tmps.toList.length = 496) (h1 : nthV a.tmps.toList 1 = .pointer (some ⟨c.w.heap.size, 0, none⟩)) (h2 : nthV a.tmps.toList 2 = .int .i64 0) (h3 : nthV a.tmps.toList 3 = .int .i64 0) (h5 : nthV a.tmps.toList 5 = c.lv) (h : Named (nthV a.tmps.toList) nm) : CkFr c nm a :=
  ⟨_, ckF_mk h0 hn h1 h2 h3 h5, h⟩
/-- A state between two statements. -/
def CkS (c : Ck) (nm : List (Nat × Value)) (a : Act) (wr : World) : Prop := CkFr c nm a ∧ CkSt c wr
/-- A state between two statements; the world is W, but for draws. -/
def CkC (c : Ck) (nm : List (Nat × Value)) (W : World) (a : Act) (wr : World) : Prop := CkFr c nm a ∧ ∃ m, W.drewN m = wr
theorem CkC.mk {c : Ck} {nm : List (Nat × Value)} {W : World} {a : Act} (h : CkFr c nm a) : CkC c nm W a W := ⟨h, 0, rfl⟩
theorem CkC.mkN {c : Ck} {nm : List (Nat × Value)} {W : World} {a : Act} {m : Nat} (h : CkFr c nm a) : CkC c nm W a (W.drewN m) := ⟨h, m, rfl⟩
/-- The frame holds a fault as the result. -/
def CkRet (r : Flt) (a : Act) : Prop := a.defers = [] ∧ a.tmps.getD 2 undef = .int .i64 r.1 ∧ a.tmps.getD 3 undef = .int .i64 r.2
/-- A piece's ends: without a fault it goes on; with one it returns it. -/
def CkE (c : Ck) (o : Option Flt) (nm : List (Nat × Value)) (e : Exit) (a : Act) (wr : World) : Prop :=
  (e = .normal ∧ o = none ∧ CkS c nm a wr) ∨ (e = .ret ∧ ∃ r, o = some r ∧ CkRet r a ∧ Below c.w.heap.size c.w wr)
theorem CkE.go {c : Ck} {o : Option Flt} {nm : List (Nat × Value)} {a : Act} {wr : World} (ho : o = none) (h : CkFr c nm a) (s : CkSt c wr) : CkE c o nm .normal a wr := .inl ⟨rfl, ho, h, s⟩
theorem CkE.stop {c : Ck} {o : Option Flt} {nm : List (Nat × Value)} {a : Act} {wr : World} {r : Flt} (ho : o = some r) (h0 : a.defers = []) (h2 : a.tmps.getD 2 undef = .int .i64 r.1) (h3 : a.tmps.getD 3 undef = .int .i64 r.2) (b : Below c.w.heap.size c.w wr) : CkE c o nm .ret a wr :=
  .inr ⟨rfl, r, ho, ⟨h0, h2, h3⟩, b⟩
/-- A piece's ends, the world the same but for draws. -/
def CkT (c : Ck) (o : Option Flt) (nm : List (Nat × Value)) (W : World) (e : Exit) (a : Act) (wr : World) : Prop :=
  (∃ m, W.drewN m = wr) ∧ ((e = .normal ∧ o = none ∧ CkFr c nm a) ∨ (e = .ret ∧ ∃ r, o = some r ∧ CkRet r a))
theorem CkT.go {c : Ck} {o : Option Flt} {nm : List (Nat × Value)} {W : World} {a : Act} {m : Nat} (ho : o = none) (h : CkFr c nm a) : CkT c o nm W .normal a (W.drewN m) := ⟨⟨m, rfl⟩, .inl ⟨rfl, ho, h⟩⟩
theorem CkT.stop {c : Ck} {o : Option Flt} {nm : List (Nat × Value)} {W : World} {a : Act} {m : Nat} {r : Flt} (ho : o = some r) (h0 : a.defers = []) (h2 : a.tmps.getD 2 undef = .int .i64 r.1) (h3 : a.tmps.getD 3 undef = .int .i64 r.2) : CkT c o nm W .ret a (W.drewN m) :=
  ⟨⟨m, rfl⟩, .inr ⟨rfl, r, ho, h0, h2, h3⟩⟩
theorem CkE.of {c : Ck} {o o' : Option Flt} {nm nm' : List (Nat × Value)} {e : Exit} {a : Act} {wr : World} (h : CkE c o nm e a wr) (ho : ∀ r, o = some r → o' = some r) : (e = .ret ∧ CkE c o' nm' .ret a wr) ∨ (e = .normal ∧ o = none ∧ CkS c nm a wr) := by
  rcases h with h | ⟨rfl, r, hr, q, b⟩
  · exact .inr h
  · exact .inl ⟨rfl, .inr ⟨rfl, r, ho r hr, q, b⟩⟩
theorem ckE_seq {c : Ck} {o1 o2 : Option Flt} {n1 n2 : List (Nat × Value)} {x y : Code} {a : Act} {w : World} (hx : x.wp Tryd.prog (CkE c o1 n1) a w) (hy : o1 = none → ∀ a w, CkS c n1 a w → y.wp Tryd.prog (CkE c o2 n2) a w) : (Code.seq x y).wp Tryd.prog (CkE c (orElseF o1 o2) n2) a w := by
  refine wp_seq (wp_mono hx fun e a' w' q => ?_)
  rcases q with ⟨rfl, rfl, q⟩ | ⟨rfl, r, rfl, q, b⟩
  · exact hy rfl a' w' q
  · exact .inr ⟨rfl, r, rfl, q, b⟩
/-- A loop: k rounds are done without a fault. -/
def CkI (c : Ck) (nm : Nat → List (Nat × Value)) (n : Nat) (f : Nat → Option Flt) (m : Nat) (a : Act) (wr : World) : Prop :=
  ∃ k, k ≤ n ∧ m = n - k ∧ scan f k = none ∧ CkS c (nm k) a wr
theorem CkI.start {c : Ck} {nm : Nat → List (Nat × Value)} {n : Nat} {f : Nat → Option Flt} {a : Act} {wr : World} (h : CkFr c (nm 0) a) (s : CkSt c wr) : CkI c nm n f n a wr :=
  ⟨0, Nat.zero_le _, rfl, rfl, h, s⟩
theorem CkI.lower {c : Ck} {nm : Nat → List (Nat × Value)} {n k : Nat} {f : Nat → Option Flt} {a : Act} {wr : World} (hk : k < n) (hF : scan f k = none) (hf : f k = none) (h : CkFr c (nm (k + 1)) a) (s : CkSt c wr) : Lower (CkI c nm n f) (n - k) a wr :=
  ⟨n - (k + 1), by omega, k + 1, hk, rfl, by rw [scan_succ hF]; exact hf, h, s⟩
/-- The same state, with boxes more. -/
def Ck.with_ (c : Ck) (ex : List (Nat × Obj)) : Ck := { c with ex := ex }
theorem CkSt.with_ {c : Ck} {wr : World} (s : CkSt c wr) (ex : List (Nat × Obj)) (h : ∀ p ∈ ex, wr.heap[p.1]? = some p.2) : CkSt (c.with_ ex) wr := ⟨s.below, s.box, s.plan, s.places, h⟩
theorem CkSt.drop {c : Ck} {wr : World} {ex : List (Nat × Obj)} (h0 : c.ex = []) (s : CkSt (c.with_ ex) wr) : CkSt c wr := ⟨s.below, s.box, s.plan, s.places, by rw [h0]; simp⟩
theorem CkE.drop {c : Ck} {ex : List (Nat × Obj)} {o : Option Flt} {nm : List (Nat × Value)} {e : Exit} {a : Act} {wr : World} (h0 : c.ex = []) (h : CkE (c.with_ ex) o nm e a wr) : CkE c o nm e a wr := by
  rcases h with ⟨rfl, ho, hf, hs⟩ | ⟨rfl, r, ho, hr, hb⟩
  · exact .inl ⟨rfl, ho, hf, hs.drop h0⟩
  · exact .inr ⟨rfl, r, ho, hr, hb⟩
theorem orElse_none {a b : Option Flt} (h : a = none) : orElseF a b = b := by rw [h]; rfl
theorem orElse_some {a b : Option Flt} {x : Flt} (h : a = some x) : orElseF a b = some x := by rw [h]; rfl
end Go.Proofs.YtidjkhmlpgkaaaaDoor

namespace Go.Proofs.YtidjkhmlpgkaaaaDoor
open Go.RowKit
set_option linter.unusedVariables false
set_option linter.unusedSimpArgs false

def winCells (x : Win) : Obj := .cells #[.int .u16 (Win.s x), .int .u16 (Win.l x), .int .u8 (Win.p x), .int .u8 (Win.g x)] 87 (0, 0)
/-- Two windows in boxes of their own. -/
def CkVW (c : Ck) (i k : Nat) (x y : Win) (W : World) (a : Act) (wr : World) : Prop :=
  ∃ X Y, CkFr c [(9, num_ i), (11, num_ k), (12, ptr_ X), (13, ptr_ Y)] a ∧ wr.heap[X]? = some (winCells x) ∧ wr.heap[Y]? = some (winCells y) ∧ Below W.heap.size W wr

theorem two_boxes (w : World) (o1 o2 : Obj) : ((w.alloc o1).alloc o2).drew.heap[w.heap.size]? = some o1 ∧ ((w.alloc o1).alloc o2).drew.heap[w.heap.size + 1]? = some o2 ∧ Below w.heap.size w ((w.alloc o1).alloc o2).drew := by
  have h1 : (w.alloc o1).heap[w.heap.size]? = some o1 := heap_alloc_new _ _
  have h2 : ((w.alloc o1).alloc o2).heap[(w.alloc o1).heap.size]? = some o2 := heap_alloc_new _ _
  refine ⟨((bel_one (w.alloc o1) o2).block _ (lt_of_block h1)).trans h1, ?_, bel_drew (bel_two _ _ _)⟩
  have e : (w.alloc o1).heap.size = w.heap.size + 1 := by simp
  rw [e] at h2
  exact h2

set_option maxRecDepth 100000 in
set_option maxHeartbeats 3200000 in
theorem ck7_vw (c : Ck) (a : Act) (wr : World) (i k : Nat) (x y : Place) (hx : c.l[k]? = some x) (hy : c.l[i]? = some y) (S : CkS c [(9, num_ i), (11, num_ k)] a wr) (Q : Exit → Act → World → Prop) :
    (pathC [0, 1, 2, 2, 1, 0, 2, 1, 1, 2, 2, 1, 0, 2, 0] (ckTail 7)).wp Tryd.prog (Exit.then (CkVW c i k (Place.w x) (Place.w y) wr) Q) a wr := by
  obtain ⟨⟨u, rfl, h9, h11, _⟩, S⟩ := S
  obtain ⟨_, _, q, hlen⟩ := Elems.len S.places
  have hP := S.places
  rw [q] at hP
  have Hq := Aside.mk q
  obtain ⟨ad, rfl, e0, e1, e2, e3, e4, e5, ok, _, _⟩ := Places.at_ hP k x hx
  obtain ⟨ad', q', d0, d1, d2, d3, d4, d5, ok', _, _⟩ := Places.at_ hP i y hy
  obtain rfl : ad = ad' := by injection q'
  have hk := (List.getElem?_eq_some_iff.1 hx).1
  have hi := (List.getElem?_eq_some_iff.1 hy).1
  have n0 := World.new_ne wr _ e2
  have n1 := World.new_ne wr _ d2
  unfold ckF
  rw [h9, h11, q]
  clear h9 h11 q' q hP S hx hy
  conv => arg 2; whnf
  go_wp2_with fail
  go_region_held3 (fun w' => w'.cell? ⟨(ad.add (k * 6)).block, (ad.add (k * 6)).off + 2, none⟩ = some (.int .u16 (Win.s (Place.w x))) ∧ w'.cell? ⟨(ad.add (k * 6)).block, (ad.add (k * 6)).off + 2 + 1, none⟩ = some (.int .u16 (Win.l (Place.w x))) ∧ w'.cell? ⟨(ad.add (k * 6)).block, (ad.add (k * 6)).off + 2 + 2, none⟩ = some (.int .u8 (Win.p (Place.w x))) ∧ w'.cell? ⟨(ad.add (k * 6)).block, (ad.add (k * 6)).off + 2 + 3, none⟩ = some (.int .u8 (Win.g (Place.w x))) ∧ w'.cell? ⟨(ad.add (i * 6)).block, (ad.add (i * 6)).off + 2, none⟩ = some (.int .u16 (Win.s (Place.w y))) ∧ w'.cell? ⟨(ad.add (i * 6)).block, (ad.add (i * 6)).off + 2 + 1, none⟩ = some (.int .u16 (Win.l (Place.w y))) ∧ w'.cell? ⟨(ad.add (i * 6)).block, (ad.add (i * 6)).off + 2 + 2, none⟩ = some (.int .u8 (Win.p (Place.w y))) ∧ w'.cell? ⟨(ad.add (i * 6)).block, (ad.add (i * 6)).off + 2 + 3, none⟩ = some (.int .u8 (Win.g (Place.w y)))) (go_keep) (fail)
  · obtain ⟨h1, h2, h3⟩ := two_boxes wr (winCells (Place.w x)) (winCells (Place.w y))
    exact ⟨_, _, CkFr.mk rfl rfl rfl rfl rfl Hq.out.symm ⟨rfl, rfl, rfl, rfl, trivial⟩, h1, h2, h3⟩
  · obtain ⟨h1, h2, h3⟩ := two_boxes wr (winCells (Place.w y)) (winCells (Place.w x))
    exact ⟨_, _, CkFr.mk rfl rfl rfl rfl rfl Hq.out.symm ⟨rfl, rfl, rfl, rfl, trivial⟩, h2, h1, h3⟩
end Go.Proofs.YtidjkhmlpgkaaaaDoor

namespace Go.Proofs.YtidjkhmlpgkaaaaDoor
open Go.RowKit
set_option linter.unusedVariables false
set_option linter.unusedSimpArgs false

set_option maxRecDepth 100000 in
set_option maxHeartbeats 3200000 in
theorem ck7_twice (c : Ck) (a : Act) (wr : World) (i k : Nat) (x y : Place) (hx : c.l[k]? = some x) (hy : c.l[i]? = some y) (S : CkS c [(9, num_ i), (10, num_ k)] a wr) (o : Option Flt) (ho : Aside (o = twiceF c.l i k)) :
    (pathC [0, 1, 2, 2, 1, 0, 2, 0, 1, 2, 2, 1, 0, 2] (ckTail 7)).wp Tryd.prog (CkE c o [(9, num_ i), (10, num_ k)]) a wr := by
  obtain ⟨⟨u, rfl, h9, h10, _⟩, S⟩ := S
  obtain ⟨_, lcap, q, hlen⟩ := Elems.len S.places
  have hP := S.places
  rw [q] at hP
  obtain ⟨ad, rfl, e0, e1, e2, e3, e4, e5, ok, okc, _⟩ := Places.at_ hP k x hx
  obtain ⟨ad', q', d0, d1, d2, d3, d4, d5, ok', okc', _⟩ := Places.at_ hP i y hy
  obtain rfl : ad = ad' := by injection q'
  have hk := (List.getElem?_eq_some_iff.1 hx).1
  have hi := (List.getElem?_eq_some_iff.1 hy).1
  have S0 := Aside.mk S
  have Hq := Aside.mk q
  have HO : Aside (o = if Place.c x = Place.c y ∧ Win.g (Place.w x) = Win.g (Place.w y) ∧ Win.g (Place.w y) ≠ 0 then some (46, Place.a y) else none) := ⟨by rw [ho.out, twiceF, plAt_some hx, plAt_some hy]⟩
  obtain ⟨_, _, _, ⟨g0, g1⟩⟩ := ok
  obtain ⟨_, _, _, ⟨g2, g3⟩⟩ := ok'
  unfold ckF
  rw [h9, h10, q]
  clear h9 h10 q' q hP S hx hy ho e1 e2 e3 e4 d2 d3 d4
  generalize Place.c x = cx at *
  generalize Place.c y = cy at *
  generalize Win.g (Place.w x) = gx at *
  generalize Win.g (Place.w y) = gy at *
  generalize Place.a y = ay at *
  conv => arg 2; whnf
  by_cases p1 : cx = cy
  · by_cases p2 : gx = gy
    · by_cases p3 : gy = 0
      · have P3 : (gy != 0) = false := by simp [p3]
        have HN := Aside.mk (HO.out.trans (by rw [if_neg (by simp [p3])]))
        subst p1 p2
        clear HO
        have p3' := Aside.mk p3
        clear p3
        go_wp2_with fail
        go_quiet (fail)
        go_wp2_with fail
        exact CkE.go HN.out (CkFr.mk rfl rfl rfl rfl rfl Hq.out.symm ⟨rfl, rfl, trivial⟩) (S0.out.drewN _)
      · have HN := Aside.mk (HO.out.trans (by rw [if_pos ⟨p1, p2, p3⟩]))
        have P3 : (gy != 0) = true := by simp [p3]
        subst p1 p2
        clear HO
        go_wp2_with fail
        go_quiet (fail)
        go_wp2_with fail
        go_quiet (fail)
        go_wp2_with fail
        exact CkE.stop HN.out rfl rfl rfl ((S0.out.drewN _).drewN _).below
    · have HN := Aside.mk (HO.out.trans (by rw [if_neg (by simp [p2])]))
      have P2 : (gx == gy) = false := by simp [p2]
      subst p1
      clear HO
      go_wp2_with fail
      go_quiet (fail)
      go_wp2_with fail
      exact CkE.go HN.out (CkFr.mk rfl rfl rfl rfl rfl Hq.out.symm ⟨rfl, rfl, trivial⟩) (S0.out.drewN _)
  · have HN := Aside.mk (HO.out.trans (by rw [if_neg (by simp [p1])]))
    have P1 : (cx == cy) = false := by simp [p1]
    clear HO
    go_wp2_with fail
    go_quiet (fail)
    go_wp2_with fail
    exact CkE.go HN.out (CkFr.mk rfl rfl rfl rfl rfl Hq.out.symm ⟨rfl, rfl, trivial⟩) (S0.out.drewN _)

set_option maxRecDepth 100000 in
set_option maxHeartbeats 3200000 in
theorem ck7_l1 (c : Ck) (a : Act) (wi : World) (i : Nat) (hi : i < c.l.length) (hlen : c.l.length ≤ 9223372036854775807) (S : CkS c [(9, num_ i)] a wi) (o : Option Flt) (ho : Aside (o = scan (twiceF c.l i) i)) :
    (pathC [0, 1, 2, 2, 1, 0, 2, 0] (ckTail 7)).wp Tryd.prog (CkE c o [(9, num_ i)]) a wi := by
  obtain ⟨⟨u, rfl, h9, _⟩, S⟩ := S
  have HS := Aside.mk S
  unfold ckF
  rw [h9]
  conv => arg 2; whnf
  clear S h9
  go_wp2_with fail
  refine wp_loop_fuel (CkI c (fun k => [(9, num_ i), (10, num_ k)]) i (twiceF c.l i)) i (CkI.start (CkFr.mk rfl rfl rfl rfl rfl rfl ⟨rfl, rfl, trivial⟩) HS.out) ?_
  clear HS
  rintro m a wr ⟨k, hk, rfl, hF, ⟨u, rfl, h9, h10, _⟩, S⟩
  have S0 := Aside.mk S
  have F0 := Aside.mk hF
  unfold ckF
  rw [h9, h10]
  clear S hF h9 h10
  by_cases hkl : k < i
  · go_upto_block 7 with fail
    refine wp_block (wp_mono (ck7_twice c _ wr i k _ _ (List.getElem?_eq_getElem (by omega)) (List.getElem?_eq_getElem hi) ⟨CkFr.mk rfl rfl rfl rfl rfl rfl ⟨rfl, rfl, trivial⟩, S0.out⟩ _ ⟨rfl⟩) fun e a' w' q => ?_)
    rcases CkE.of (nm' := [(9, num_ i)]) (o' := o) q (fun r hr => by rw [ho.out]; exact scan_some F0.out hr hkl) with ⟨rfl, q2⟩ | ⟨rfl, hf, ⟨u', rfl, h9, h10, _⟩, S⟩
    · exact q2
    · unfold ckF
      rw [h9, h10]
      have Hf := Aside.mk hf
      have S1 := Aside.mk S
      clear hf S q h9 h10
      go_wp2_with fail
      exact CkI.lower hkl F0.out Hf.out (CkFr.mk rfl rfl rfl rfl rfl rfl ⟨rfl, rfl, trivial⟩) S1.out
  · obtain rfl : k = i := by omega
    go_wp2_with fail
    exact CkE.go (by rw [ho.out]; exact F0.out) (CkFr.mk rfl rfl rfl rfl rfl rfl ⟨rfl, trivial⟩) S0.out
end Go.Proofs.YtidjkhmlpgkaaaaDoor

namespace Go.Proofs.YtidjkhmlpgkaaaaDoor
open Go.RowKit
set_option linter.unusedVariables false
set_option linter.unusedSimpArgs false

/-- Two windows in boxes X and Y, and a frame. -/
def CkV2 (c : Ck) (X Y : Nat) (x y : Win) (nm : List (Nat × Value)) (W : World) (a : Act) (wr : World) : Prop :=
  CkFr c nm a ∧ wr.heap[X]? = some (winCells x) ∧ wr.heap[Y]? = some (winCells y) ∧ Below W.heap.size W wr
theorem win_box {w : World} {X : Nat} {x : Win} (h : w.heap[X]? = some (winCells x)) : w.cell? ⟨X, 0, none⟩ = some (.int .u16 (Win.s x)) ∧ w.cell? ⟨X, 1, none⟩ = some (.int .u16 (Win.l x)) ∧ w.cell? ⟨X, 2, none⟩ = some (.int .u8 (Win.p x)) ∧ w.cell? ⟨X, 3, none⟩ = some (.int .u8 (Win.g x)) := by
  simp [World.cell?, h, winCells]

set_option maxRecDepth 100000 in
set_option maxHeartbeats 3200000 in
theorem ck7_36 (c : Ck) (a : Act) (w0 wr : World) (i k X Y : Nat) (x y : Place) (hx : c.l[k]? = some x) (hy : c.l[i]? = some y) (S : CkSt c wr) (V : CkV2 c X Y (Place.w x) (Place.w y) [(9, num_ i), (11, num_ k), (12, ptr_ X), (13, ptr_ Y)] w0 a wr) (b : Bool) (hb : Aside (b = (decide (Place.c x = Place.c y) || togetherS (Place.w x) (Place.w y)))) (Q : Exit → Act → World → Prop) :
    (pathC [0, 1, 2, 2, 1, 0, 2, 1, 1, 2, 2, 1, 0, 2, 1, 0, 0] (ckTail 7)).wp Tryd.prog (Exit.then (CkV2 c X Y (Place.w x) (Place.w y) [(9, num_ i), (11, num_ k), (12, ptr_ X), (13, ptr_ Y), (238, .bool b)] w0) Q) a wr := by
  obtain ⟨⟨u, rfl, h9, h11, h12, h13, _⟩, hX, hY, hB⟩ := V
  obtain ⟨_, lcap, q, hlen⟩ := Elems.len S.places
  have hP := S.places
  rw [q] at hP
  obtain ⟨ad, rfl, e0, e1, e2, e3, e4, e5, ok, okc, _⟩ := Places.at_ hP k x hx
  obtain ⟨ad', q', d0, d1, d2, d3, d4, d5, ok', okc', _⟩ := Places.at_ hP i y hy
  obtain rfl : ad = ad' := by injection q'
  have hk := (List.getElem?_eq_some_iff.1 hx).1
  have hi := (List.getElem?_eq_some_iff.1 hy).1
  have Hq := Aside.mk q
  have HX := Aside.mk hX
  have HY := Aside.mk hY
  have HB := Aside.mk hB
  obtain ⟨x0, x1, x2, x3⟩ := win_box hX
  obtain ⟨y0, y1, y2, y3⟩ := win_box hY
  have KT := Aside.mk (fun w => together_any (Place.w x) (Place.w y) ok ok' w)
  unfold Win.val at KT
  obtain ⟨tb, htb⟩ : ∃ tb, togetherS (Place.w x) (Place.w y) = tb := ⟨_, rfl⟩
  rw [htb] at hb KT
  unfold ckF
  rw [h9, h11, h12, h13, q]
  clear h9 h11 h12 h13 q' q hP S hx hy e1 e2 e3 e4 e5 d1 d2 d3 d4 d5 hX hY hB ok ok' htb
  generalize Place.c x = cx at *
  generalize Place.c y = cy at *
  conv => arg 2; whnf
  by_cases p1 : cx = cy
  · have HN : Aside (b = true) := ⟨by rw [hb.out, p1]; simp⟩
    subst p1
    clear hb
    go_wp2_with fail
    go_quiet (fail)
    refine ⟨CkFr.mk rfl rfl rfl rfl rfl Hq.out.symm ⟨rfl, rfl, rfl, rfl, ?_, trivial⟩, HX.out, HY.out, bel_drewN HB.out _⟩
    show Value.bool _ = Value.bool b
    rw [HN.out]
  · have HN : Aside (b = tb) := ⟨by rw [hb.out]; simp [p1]⟩
    have P1 : (cx == cy) = false := by simp [p1]
    clear hb
    go_wp2_with fail
    go_region_held3 (fun w' => w'.cell? (ad.add (k * 6)) = some (.int .i64 cx) ∧ w'.cell? (ad.add (i * 6)) = some (.int .i64 cy) ∧ w'.cell? ⟨X, 0, none⟩ = some (.int .u16 (Win.s (Place.w x))) ∧ w'.cell? ⟨X, 1, none⟩ = some (.int .u16 (Win.l (Place.w x))) ∧ w'.cell? ⟨X, 2, none⟩ = some (.int .u8 (Win.p (Place.w x))) ∧ w'.cell? ⟨X, 3, none⟩ = some (.int .u8 (Win.g (Place.w x))) ∧ w'.cell? ⟨Y, 0, none⟩ = some (.int .u16 (Win.s (Place.w y))) ∧ w'.cell? ⟨Y, 1, none⟩ = some (.int .u16 (Win.l (Place.w y))) ∧ w'.cell? ⟨Y, 2, none⟩ = some (.int .u8 (Win.p (Place.w y))) ∧ w'.cell? ⟨Y, 3, none⟩ = some (.int .u8 (Win.g (Place.w y)))) (first | go_keep | (exact ⟨c1 _ _ (by assumption), c1 _ _ (by assumption), c1 _ _ (by assumption), c1 _ _ (by assumption), c1 _ _ (by assumption), c1 _ _ (by assumption), c1 _ _ (by assumption), c1 _ _ (by assumption), c1 _ _ (by assumption), c1 _ _ (by assumption)⟩)) (first | (go_at_call 53; refine (KT.out _).mono ?_; rintro e w' ⟨rfl, b1⟩; have c1 := fun (a : Addr) (v : Value) (h : World.cell? _ a = some v) => (Kept.of_below (S := fun _ => False) b1).cell h id))
    refine ⟨CkFr.mk rfl rfl rfl rfl rfl Hq.out.symm ⟨rfl, rfl, rfl, rfl, ?_, trivial⟩, (b1.block _ (lt_of_block HX.out)).trans HX.out, (b1.block _ (lt_of_block HY.out)).trans HY.out, bel_then (bel_drew HB.out) b1⟩
    show Value.bool _ = Value.bool b
    rw [HN.out]
end Go.Proofs.YtidjkhmlpgkaaaaDoor

namespace Go.Proofs.YtidjkhmlpgkaaaaDoor
open Go.RowKit
set_option linter.unusedVariables false
set_option linter.unusedSimpArgs false

theorem wp_seq3 {P : Program} {Q : Exit → Act → World → Prop} {a : Act} {w : World} {x y z : Code} (h : x.wp P (Exit.then (y.wp P (Exit.then (z.wp P Q) Q)) Q) a w) : (Code.seq (Code.seq x y) z).wp P Q a w := by
  refine wp_seq (wp_seq (wp_mono h fun e a' w' q => ?_))
  cases e <;> exact q

set_option maxRecDepth 100000 in
set_option maxHeartbeats 6400000 in
theorem ck7_rest (c : Ck) (a : Act) (w0 wr : World) (i k X Y : Nat) (x y : Place) (hx : c.l[k]? = some x) (hy : c.l[i]? = some y) (S : CkSt c wr) (V : CkV2 c X Y (Place.w x) (Place.w y) [(9, num_ i), (11, num_ k), (12, ptr_ X), (13, ptr_ Y)] w0 a wr) (o : Option Flt)
    (ho : Aside (o = if Win.g (Place.w x) = Win.g (Place.w y) ∧ Win.g (Place.w y) ≠ 0 then some (46, Place.a y) else if Win.p (Place.w x) = Win.p (Place.w y) ∧ overlapS (Place.w x) (Place.w y) = true then some (47, Place.a y) else none)) :
    (pathC [0, 1, 2, 2, 1, 0, 2, 1, 1, 2, 2, 1, 0, 2, 1, 1] (ckTail 7)).wp Tryd.prog (Exit.inBlock 9 (CkE c o [(9, num_ i), (11, num_ k)])) a wr := by
  obtain ⟨⟨u, rfl, h9, h11, h12, h13, _⟩, hX, hY, hB⟩ := V
  obtain ⟨_, lcap, q, hlen⟩ := Elems.len S.places
  have hP := S.places
  rw [q] at hP
  obtain ⟨ad, rfl, e0, e1, e2, e3, e4, e5, ok, okc, _⟩ := Places.at_ hP k x hx
  obtain ⟨ad', q', d0, d1, d2, d3, d4, d5, ok', okc', _⟩ := Places.at_ hP i y hy
  obtain rfl : ad = ad' := by injection q'
  have hi := (List.getElem?_eq_some_iff.1 hy).1
  have Hq := Aside.mk q
  have Hy := Aside.mk hy
  have S0 := Aside.mk S
  obtain ⟨x0, x1, x2, x3⟩ := win_box hX
  obtain ⟨y0, y1, y2, y3⟩ := win_box hY
  have KT := Aside.mk (fun w => overlap_any (Place.w x) (Place.w y) ok ok' w)
  unfold Win.val at KT
  obtain ⟨tb, htb⟩ : ∃ tb, overlapS (Place.w x) (Place.w y) = tb := ⟨_, rfl⟩
  rw [htb] at ho KT
  obtain ⟨_, _, ⟨p0, p1⟩, ⟨g0, g1⟩⟩ := ok
  obtain ⟨_, _, ⟨p2, p3⟩, ⟨g2, g3⟩⟩ := ok'
  unfold ckF
  rw [h9, h11, h12, h13, q]
  clear h9 h11 h12 h13 q' q S hx hy e0 e1 e2 e3 e4 e5 d0 d2 d3 d4 d5 hX hY hB htb
  generalize Win.s (Place.w x) = sx at *
  generalize Win.l (Place.w x) = lx at *
  generalize Win.s (Place.w y) = sy at *
  generalize Win.l (Place.w y) = ly at *
  generalize Win.g (Place.w x) = gx at *
  generalize Win.g (Place.w y) = gy at *
  generalize Win.p (Place.w x) = px at *
  generalize Win.p (Place.w y) = py at *
  have HD : Aside (∀ W : World, Below wr.heap.size wr W → W.cell? ⟨(ad.add (i * 6)).block, (ad.add (i * 6)).off + 1, none⟩ = some (.int .i64 (Place.a y))) := ⟨fun W b => by
    obtain ⟨ad2, q2, _, z, _⟩ := Places.at_ (hP.below b) i y Hy.out
    obtain rfl : ad = ad2 := by injection q2
    exact z⟩
  clear hP
  conv => arg 2; whnf
  by_cases r1 : gx = gy ∧ gy ≠ 0
  · have HN := Aside.mk (ho.out.trans (by rw [if_pos r1]))
    obtain ⟨r1, r2⟩ := r1
    subst r1
    clear ho
    go_wp2_with fail
    go_quiet (fail)
    go_wp2_with fail
    exact CkE.stop HN.out rfl rfl rfl (S0.out.drewN _).below
  · have HN := Aside.mk (ho.out.trans (by rw [if_neg r1]))
    clear ho
    have hz : (gx ≠ gy) ∨ (gx = gy ∧ gy = 0) := by
      by_cases e : gx = gy
      · exact .inr ⟨e, by by_cases e2 : gy = 0; exact e2; exact absurd ⟨e, e2⟩ r1⟩
      · exact .inl e
    clear r1
    rcases hz with hz | ⟨rfl, rfl⟩
    all_goals
      by_cases r3 : px = py
      · cases tb
        · have HN := Aside.mk (HN.out.trans (by rw [if_neg (by simp)]))
          subst r3
          go_wp2_with fail
          refine (KT.out _).mono ?_
          rintro e w' ⟨rfl, b1⟩
          have S1 := Aside.mk (S0.out.old b1)
          clear b1 x0 x1 x2 x3 y0 y1 y2 y3 d1
          go_wp2_with fail
          exact CkE.go HN.out (CkFr.mk rfl rfl rfl rfl rfl Hq.out.symm ⟨rfl, rfl, trivial⟩) S1.out
        · have HN := Aside.mk (HN.out.trans (by rw [if_pos ⟨r3, rfl⟩]))
          subst r3
          go_wp2_with fail
          refine (KT.out _).mono ?_
          rintro e w' ⟨rfl, b1⟩
          have S1 := Aside.mk (S0.out.old b1)
          have d9 := HD.out w' b1
          clear b1 x0 x1 x2 x3 y0 y1 y2 y3 d1
          go_wp2_with fail
          go_quiet (fail)
          go_wp2_with fail
          exact CkE.stop HN.out rfl rfl rfl (S1.out.drewN _).below
      · have HN := Aside.mk (HN.out.trans (by rw [if_neg (by simp [r3])]))
        go_wp2_with fail
        exact CkE.go HN.out (CkFr.mk rfl rfl rfl rfl rfl Hq.out.symm ⟨rfl, rfl, trivial⟩) S0.out

set_option maxRecDepth 100000 in
set_option maxHeartbeats 6400000 in
theorem ck7_cross (c : Ck) (a : Act) (wr : World) (i k : Nat) (x y : Place) (hik : i < k) (hx : c.l[k]? = some x) (hy : c.l[i]? = some y) (S : CkS c [(9, num_ i), (11, num_ k)] a wr) (o : Option Flt) (ho : Aside (o = crossF c.l i k)) :
    (pathC [0, 1, 2, 2, 1, 0, 2, 1, 1, 2, 2, 1, 0] (ckTail 7)).wp Tryd.prog (CkE c o [(9, num_ i), (11, num_ k)]) a wr := by
  have HO : o = if decide (Place.c x = Place.c y) || togetherS (Place.w x) (Place.w y) then none else if Win.g (Place.w x) = Win.g (Place.w y) ∧ Win.g (Place.w y) ≠ 0 then some (46, Place.a y) else if Win.p (Place.w x) = Win.p (Place.w y) ∧ overlapS (Place.w x) (Place.w y) = true then some (47, Place.a y) else none := by
    rw [ho.out, crossF, plAt_some hx, plAt_some hy]
    have e : (k ≤ i ∨ Place.c x = Place.c y ∨ togetherS (Place.w x) (Place.w y) = true) ↔ (decide (Place.c x = Place.c y) || togetherS (Place.w x) (Place.w y)) = true := by
      simp; omega
    by_cases h : (decide (Place.c x = Place.c y) || togetherS (Place.w x) (Place.w y)) = true
    · rw [if_pos h, if_pos (e.2 h)]
    · rw [if_neg h, if_neg (fun q => h (e.1 q))]
  refine wp_block (id := 9) (c := pathC [0, 1, 2, 2, 1, 0, 2, 1, 1, 2, 2, 1, 0, 2] (ckTail 7)) ?_
  refine wp_seq (x := pathC [0, 1, 2, 2, 1, 0, 2, 1, 1, 2, 2, 1, 0, 2, 0] (ckTail 7)) (y := pathC [0, 1, 2, 2, 1, 0, 2, 1, 1, 2, 2, 1, 0, 2, 1] (ckTail 7)) (wp_then _ (ck7_vw c a wr i k x y hx hy S _) ?_)
  rintro a1 w1 ⟨X, Y, fr, hX, hY, b1⟩
  have S1 : CkSt c w1 := S.2.old b1
  refine wp_seq3 (x := pathC [0, 1, 2, 2, 1, 0, 2, 1, 1, 2, 2, 1, 0, 2, 1, 0, 0] (ckTail 7)) (y := pathC [0, 1, 2, 2, 1, 0, 2, 1, 1, 2, 2, 1, 0, 2, 1, 0, 1] (ckTail 7)) (z := pathC [0, 1, 2, 2, 1, 0, 2, 1, 1, 2, 2, 1, 0, 2, 1, 1] (ckTail 7)) (wp_then _ (ck7_36 c a1 w1 w1 i k X Y x y hx hy S1 ⟨fr, hX, hY, Below.refl _ _⟩ _ ⟨rfl⟩ _) ?_)
  obtain ⟨b, hb⟩ : ∃ b, (decide (Place.c x = Place.c y) || togetherS (Place.w x) (Place.w y)) = b := ⟨_, rfl⟩
  rw [hb] at HO ⊢
  rintro a2 w2 ⟨⟨u, rfl, h9, h11, h12, h13, hq, _⟩, hX2, hY2, b2⟩
  have S2 : CkSt c w2 := S1.old b2
  cases b
  · rw [if_neg (by simp)] at HO
    refine wp_cond_false (c := .tmp 238) (x := .exit 9) (y := .skip) (by show u 238 = _; exact hq) (wp_skip ?_)
    exact ck7_rest c _ w1 w2 i k X Y x y hx hy S2 ⟨⟨u, rfl, h9, h11, h12, h13, trivial⟩, hX2, hY2, b2⟩ o ⟨HO⟩
  · rw [if_pos rfl] at HO
    refine wp_cond_true (c := .tmp 238) (x := .exit 9) (y := .skip) (by show u 238 = _; exact hq) (wp_exit ?_)
    exact CkE.go HO ⟨u, rfl, h9, h11, trivial⟩ S2
end Go.Proofs.YtidjkhmlpgkaaaaDoor

namespace Go.Proofs.YtidjkhmlpgkaaaaDoor
open Go.RowKit
set_option linter.unusedVariables false
set_option linter.unusedSimpArgs false

theorem scan_shift {f : Nat → Option Flt} {a : Nat} (h : ∀ k, k < a → f k = none) (m : Nat) : scan f (a + m) = scan (fun j => f (a + j)) m := by
  induction m with
  | zero => exact scan_none_of h
  | succ m ih =>
    show scan f ((a + m) + 1) = _
    simp only [scan, ih]

set_option maxRecDepth 100000 in
set_option maxHeartbeats 3200000 in
theorem ck7_l2 (c : Ck) (a : Act) (wi : World) (i : Nat) (hi : i < c.l.length) (S : CkS c [(9, num_ i)] a wi) (o : Option Flt) (ho : Aside (o = scan (crossF c.l i) c.l.length)) :
    (pathC [0, 1, 2, 2, 1, 0, 2, 1] (ckTail 7)).wp Tryd.prog (CkE c o [(9, num_ i)]) a wi := by
  obtain ⟨⟨u, rfl, h9, _⟩, S⟩ := S
  obtain ⟨la, lcap, q, hlen⟩ := Elems.len S.places
  have Hq := Aside.mk q
  have HS := Aside.mk S
  obtain ⟨n, hn⟩ : ∃ n, n = c.l.length - (i + 1) := ⟨_, rfl⟩
  have hn' : c.l.length = i + 1 + n := by omega
  have ho : Aside (o = scan (fun j => crossF c.l i (i + 1 + j)) n) := ⟨by
    rw [ho.out, hn']
    exact scan_shift (fun k hk => by rw [crossF, if_pos (.inl (by omega))]) n⟩
  have Hn := Aside.mk hn'
  unfold ckF
  rw [h9, q]
  conv => arg 2; whnf
  clear S h9 q hn hn'
  go_wp2_with fail
  refine wp_loop_fuel (CkI c (fun j => [(9, num_ i), (11, .int .i64 ((i : Int) + 1 + (j : Int)))]) n (fun j => crossF c.l i (i + 1 + j))) n ?_ ?_
  · exact CkI.start (CkFr.mk rfl rfl rfl rfl rfl Hq.out.symm ⟨rfl, by show Value.int .i64 _ = Value.int .i64 _; simp, trivial⟩) HS.out
  clear HS
  rintro m a wr ⟨k, hk, rfl, hF, ⟨u, rfl, h9, h11, _⟩, S⟩
  have S0 := Aside.mk S
  have F0 := Aside.mk hF
  unfold ckF
  rw [h9, h11, Hq.out]
  clear S hF h9 h11
  by_cases hkl : k < n
  · have hkl2 : (i : Int) + 1 + (k : Int) < (c.l.length : Int) := by have := Hn.out; omega
    go_upto_block 9 with fail
    refine wp_mono (ck7_cross c _ wr i (i + 1 + k) _ _ (by omega) (List.getElem?_eq_getElem (by have := Hn.out; omega)) (List.getElem?_eq_getElem hi) ⟨CkFr.mk rfl rfl rfl rfl rfl (by exact Hq.out.symm) ⟨rfl, by show Value.int .i64 _ = Value.int .i64 _; simp [Int.natCast_add], trivial⟩, S0.out⟩ _ ⟨rfl⟩) fun e a' w' q => ?_
    rcases CkE.of (nm' := [(9, num_ i)]) (o' := o) q (fun r hr => by rw [ho.out]; exact scan_some F0.out hr hkl) with ⟨rfl, q2⟩ | ⟨rfl, hf, ⟨u', rfl, h9, h11, _⟩, S⟩
    · exact q2
    · have h11 : u' 11 = .int .i64 ((i : Int) + 1 + (k : Int)) := h11.trans (by show Value.int .i64 _ = Value.int .i64 _; simp [Int.natCast_add])
      unfold ckF
      rw [h9, h11]
      have Hf := Aside.mk hf
      have S1 := Aside.mk S
      clear hf S q h9 h11
      go_wp2_with fail
      exact CkI.lower hkl F0.out Hf.out (CkFr.mk rfl rfl rfl rfl rfl rfl ⟨rfl, by show Value.int .i64 _ = Value.int .i64 _; simp [Int.natCast_add, Int.add_assoc], trivial⟩) S1.out
  · obtain rfl : k = n := by omega
    have hkl2 : ¬ ((i : Int) + 1 + (k : Int) < (c.l.length : Int)) := by have := Hn.out; omega
    go_wp2_with fail
    exact CkE.go (by rw [ho.out]; exact F0.out) (CkFr.mk rfl rfl rfl rfl rfl Hq.out.symm ⟨rfl, trivial⟩) S0.out

set_option maxRecDepth 100000 in
set_option maxHeartbeats 3200000 in
theorem ck_7 (c : Ck) (a : Act) (wi : World) (S : CkS c [] a wi) (o : Option Flt) (ho : Aside (o = scan (gangF c.l) c.l.length)) : (pathC [0] (ckTail 7)).wp Tryd.prog (CkE c o []) a wi := by
  obtain ⟨⟨u, rfl, _⟩, S⟩ := S
  obtain ⟨la, lcap, q, hlen⟩ := Elems.len S.places
  have Hq := Aside.mk q
  unfold ckF
  rw [q]
  conv => arg 2; whnf
  have HS := Aside.mk S
  clear S q
  go_wp2_with fail
  refine wp_loop_fuel (CkI c (fun k => [(9, num_ k)]) c.l.length (gangF c.l)) c.l.length ?_ ?_
  · exact CkI.start (CkFr.mk rfl rfl rfl rfl rfl Hq.out.symm ⟨rfl, trivial⟩) HS.out
  clear HS
  rintro m a wr ⟨k, hk, rfl, hF, ⟨u, rfl, h9, _⟩, S⟩
  unfold ckF
  rw [h9, Hq.out]
  have S0 := Aside.mk S
  have F0 := Aside.mk hF
  clear S hF h9
  by_cases hkl : k < c.l.length
  · have hkl' : (k : Int) < (c.l.length : Int) := by omega
    go_upto_block 5 with fail
    have body : ∀ a wr, CkS c [(9, num_ k)] a wr → (pathC [0, 1, 2, 2, 1, 0, 2] (ckTail 7)).wp Tryd.prog (CkE c (gangF c.l k) [(9, num_ k)]) a wr := fun a wr S =>
      ckE_seq (x := pathC [0, 1, 2, 2, 1, 0, 2, 0] (ckTail 7)) (y := pathC [0, 1, 2, 2, 1, 0, 2, 1] (ckTail 7)) (ck7_l1 c a wr k hkl hlen S _ ⟨rfl⟩) (fun _ a w S => ck7_l2 c a w k hkl S _ ⟨rfl⟩)
    refine wp_block (wp_mono (body _ wr ⟨CkFr.mk rfl rfl rfl rfl rfl (by exact Hq.out.symm) ⟨rfl, trivial⟩, S0.out⟩) fun e a' w' q => ?_)
    rcases CkE.of (nm' := []) (o' := o) q (fun r hr => by rw [ho.out]; exact scan_some F0.out hr hkl) with ⟨rfl, q2⟩ | ⟨rfl, hf, ⟨u', rfl, h9, _⟩, S⟩
    · exact q2
    · unfold ckF
      rw [h9]
      have Hf := Aside.mk hf
      have S1 := Aside.mk S
      clear hf S q h9 body
      go_wp2_with fail
      exact CkI.lower hkl F0.out Hf.out (CkFr.mk rfl rfl rfl rfl rfl rfl ⟨rfl, trivial⟩) S1.out
  · obtain rfl : k = c.l.length := by omega
    go_wp2_with fail
    exact CkE.go (by rw [ho.out]; exact F0.out) (CkFr.mk rfl rfl rfl rfl rfl Hq.out.symm trivial) S0.out
end Go.Proofs.YtidjkhmlpgkaaaaDoor
