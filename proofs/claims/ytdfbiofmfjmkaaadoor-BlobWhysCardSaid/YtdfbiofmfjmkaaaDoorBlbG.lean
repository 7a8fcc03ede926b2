/- Layer 2: the chapter's example (awake); strings and their bytes. -/
import Derived.Test.YtdfbiofmfjmkaaaDoorBlbF
import Derived.Test.YtdfbiofmfjmkaaaDoorBlbD
namespace Go.Proofs.YtdfbiofmfjmkaaaDoor
open Go.RowKit
set_option linter.unusedVariables false
set_option linter.unusedSimpArgs false

def strL (s : ByteArray) : List Int := s.data.toList.map fun b => (b.toNat : Int)
theorem strL_len (s : ByteArray) : (strL s).length = s.size := by simp [strL]
theorem strL_byte (s : ByteArray) : ∀ x ∈ strL s, 0 ≤ x ∧ x ≤ 255 := by
  intro x hx
  obtain ⟨b, _, rfl⟩ := List.mem_map.1 hx
  have := b.toNat_lt
  omega
theorem nums_str (s : ByteArray) : strOfNums (strL s) = s := by
  unfold strOfNums strL
  rw [List.map_map]
  have : ((fun n : Int => UInt8.ofNat n.toNat) ∘ fun b : UInt8 => (b.toNat : Int)) = id := by
    funext b; simp
  rw [this, List.map_id]
theorem A_str : Tryd.prog.underlying 9 = some .string := by kernel_rfl
theorem A_u8s : Tryd.prog.underlying 22 = some (.slice 5) := by kernel_rfl
theorem A_u8 : Tryd.prog.underlying 5 = some (.int .u8) := by kernel_rfl
/-- What '[]byte(s)' lays, and how it reads. -/
theorem bytes_of (w : World) (s : ByteArray) : ∃ c W, (convert 9 22 (.string s)).run Tryd.prog w = .ok (.slice (some ⟨w.heap.size, 0, none⟩) s.size c) W ∧ Below w.heap.size w W ∧ (∃ X, W.heap[w.heap.size]? = some (.cells ((strL s).map (Value.int .u8) ++ X).toArray 5 (((strL s).map (Value.int .u8) ++ X).length, ((strL s).map (Value.int .u8) ++ X).length + 1))) ∧ s.size ≤ c := by
  refine ⟨_, _, run_bytes_of_string w 9 22 5 s A_str A_u8s A_u8, ((Below.refl _ _).drew).alloc (Nat.le_refl _) _, ⟨List.replicate (grownCap w s.size 0 5 - s.size) (Value.int .u8 0), ?_⟩, grownCap_ge _ _ _ _⟩
  have h := heap_alloc_new w.drew (.cells (bytesRow s (grownCap w s.size 0 5)) 5 ((bytesRow s (grownCap w s.size 0 5)).size, (bytesRow s (grownCap w s.size 0 5)).size + 1))
  have e : bytesRow s (grownCap w s.size 0 5) = ((strL s).map (Value.int .u8) ++ List.replicate (grownCap w s.size 0 5 - s.size) (Value.int .u8 0)).toArray := by
    unfold bytesRow strL
    apply Array.ext'
    simp [Function.comp_def]
  rw [e] at h ⊢
  simpa using h
theorem ints_of_blk {W : World} {B : Nat} {L : List Int} {X : List Value} {t : TypeId} {fr : Nat × Nat} {c : Nat} (h : W.heap[B]? = some (.cells (L.map (Value.int .u8) ++ X).toArray t fr)) (hl : L.length ≤ 9223372036854775807) : Ints W .u8 (.slice (some ⟨B, 0, none⟩) L.length c) L := by
  refine ⟨_, c, rfl, hl, fun _ => ⟨_, rfl, fun j hj => ?_⟩⟩
  rw [show (⟨B, 0, none⟩ : Addr).add j = ⟨B, j, none⟩ from by by_cases h : j = 0 <;> simp [Addr.add, h]]
  simp [World.cell?, h, List.getElem?_append_left, hj, List.getD_eq_getElem?_getD]
theorem OutP.get {base : Nat} {w w0 : World} {Z : Nat} {A : Option Addr} {c : Nat} {S : List Int} {at_ : Nat} {bad : Bool} {n : Int} {v : Value} {e : Ending} {w' : World} (h : OutP base w Z A c S at_ bad n v e w') (hB : Below w0.heap.size w0 w) (hb : w0.heap.size ≤ base) (hR : RD base w Z A c S at_ bad) :
    e = .returned v ∧ RD base w' Z A c S (takeA S at_ bad n) (takeB S at_ bad n) ∧ Below w0.heap.size w0 w' := by
  obtain ⟨h1, h2, h3⟩ := h
  obtain ⟨F, R, _⟩ := hR
  have hz := R.hZ
  exact ⟨h1, h2, hB.trans (h3.below hB.size (fun j e => by omega))⟩
set_option maxHeartbeats 4000000 in
theorem awake_any (w : World) (hg : ETy w) : Calls Tryd.prog 10 #[] w fun e w' => e = .returned (.bool true) ∧ Below w.heap.size w w' := by
  have HG := Aside.mk hg
  have hS : ∀ x ∈ [(1 : Int), 2, 3, 4], 0 ≤ x ∧ x ≤ 255 := by decide
  have HS := Aside.mk hS
  have KN : Aside (∀ x, Calls Tryd.prog 9 #[.slice (some ⟨w.heap.size, 0, none⟩) 4 4] (w.alloc (.cells #[.int .u8 1, .int .u8 2, .int .u8 3, .int .u8 4] x)) (NewP (w.alloc (.cells #[.int .u8 1, .int .u8 2, .int .u8 3, .int .u8 4] x)) [1, 2, 3, 4])) := ⟨fun x => new_any _ _ [1, 2, 3, 4] (ints_of_blk (B := w.heap.size) (L := [1, 2, 3, 4]) (X := []) (t := x) (fr := (0, 0)) (heap_alloc_new w _) (by decide)) (by decide)⟩
  clear hS hg
  go_enter Tryd.func10, Tryd.ntmps10
  go_wp2_with fail
  refine (KN.out _).mono ?_
  rintro e w2 ⟨Z, A, c, rfl, hR, b2⟩
  have R2 := Aside.mk hR
  have B2 := Aside.mk (bel_then (bel_one _ _) b2)
  clear hR b2
  go_wp2_with fail
  refine (eight_any _ _ Z A c _ 0 false HS.out R2.out).mono ?_
  rintro e w3 h
  obtain ⟨rfl, hR, hB⟩ := h.get B2.out (by simp) R2.out
  have R3 : Aside (RD _ w3 Z A c [1, 2, 3, 4] 1 false) := ⟨hR⟩
  have B3 := Aside.mk hB
  rw [show numL (takeL [1, 2, 3, 4] 0 false 1) = 1 from by decide]
  clear h hR hB
  go_wp2_with fail
  refine (sixteen_any _ _ Z A c _ 1 false HS.out R3.out).mono ?_
  rintro e w4 h
  obtain ⟨rfl, hR, hB⟩ := h.get B3.out (by simp) R3.out
  have R4 : Aside (RD _ w4 Z A c [1, 2, 3, 4] 3 false) := ⟨hR⟩
  have B4 := Aside.mk hB
  rw [show numL (takeL [1, 2, 3, 4] 1 false 2) = 515 from by decide]
  clear h hR hB
  go_wp2_with fail
  refine (end_any _ _ Z A c _ 3 false R4.out).mono ?_
  rintro e w5 h
  obtain ⟨v5, rfl, hE, b5⟩ := h.val
  have R5 := Aside.mk (R4.out.below b5)
  have B5 := Aside.mk (bel_then B4.out b5)
  have HE := Aside.mk (why_any w5 _ v5 hE (HG.out.below B5.out))
  clear h hE b5
  go_wp2_with fail
  refine HE.out.mono ?_
  rintro e w6 ⟨rfl, b6⟩
  have R6 := Aside.mk (R5.out.below b6)
  have B6 := Aside.mk (bel_then B5.out b6)
  clear b6
  rw [show numQ (endQ [1, 2, 3, 4] 3 false) = 21 from by decide, show atQ (endQ [1, 2, 3, 4] 3 false) = 3 from by decide]
  go_wp2_with fail
  refine (sixteen_any _ _ Z A c _ 3 false HS.out R6.out).mono ?_
  rintro e w7 h
  obtain ⟨rfl, hR, hB⟩ := h.get B6.out (by simp) R6.out
  have R7 : Aside (RD _ w7 Z A c [1, 2, 3, 4] 3 true) := ⟨hR⟩
  have B7 := Aside.mk hB
  rw [show numL (takeL [1, 2, 3, 4] 3 false 2) = 0 from by decide]
  clear h hR hB
  go_wp2_with fail
  refine (err_any _ _ Z A c _ 3 true R7.out).mono ?_
  rintro e w8 h
  obtain ⟨v8, rfl, hE, b8⟩ := h.val
  have R8 := Aside.mk (R7.out.below b8)
  have B8 := Aside.mk (bel_then B7.out b8)
  have HE8 := Aside.mk (why_any w8 _ v8 hE (HG.out.below B8.out))
  clear h hE b8
  go_wp2_with fail
  refine HE8.out.mono ?_
  rintro e w9 ⟨rfl, b9⟩
  have R9 := Aside.mk (R8.out.below b9)
  have B9 := Aside.mk (bel_then B8.out b9)
  clear b9
  rw [show numQ (errQ 3 true) = 20 from by decide, show atQ (errQ 3 true) = 3 from by decide]
  go_wp2_with fail
  refine (eight_any _ _ Z A c _ 3 true HS.out R9.out).mono ?_
  rintro e w10 h
  obtain ⟨rfl, hR, hB⟩ := h.get B9.out (by simp) R9.out
  have R10 : Aside (RD _ w10 Z A c [1, 2, 3, 4] 3 true) := ⟨hR⟩
  have B10 := Aside.mk hB
  rw [show numL (takeL [1, 2, 3, 4] 3 true 1) = 0 from by decide]
  clear h hR hB
  go_wp2_with fail
  refine (two_any 0 w10 (.slice none 0 0) [] 515 (by decide) (by decide) (own_nil _ _ _ _) (by decide)).mono ?_
  rintro e w11 ⟨v11, rfl, ho, b11⟩
  obtain ⟨A11, c11, rfl⟩ := own_len ho
  have R11 := Aside.mk (R10.out.below b11)
  have B11 := Aside.mk (bel_then B10.out b11)
  have hI : Ints w11 .u8 (.slice A11 2 c11) [2, 3] := own_ints ho
  obtain ⟨A', c', e', _, hc⟩ := hI
  injection e' with e1 e2 e3
  subst e1 e3
  obtain ⟨ad, rfl, hd⟩ := hc (by decide)
  have q0 := hd 0 (by decide)
  have q1 := hd 1 (by decide)
  rw [show ad.add 0 = ad from rfl] at q0
  rw [show ad.add 1 = ⟨ad.block, ad.off + 1, none⟩ from by simp [Addr.add]] at q1
  simp only [List.getD_cons_zero, List.getD_cons_succ] at q0 q1
  clear ho hc hd b11 e2
  go_wp2_with fail
  refine (at_any _ _ Z A c _ 3 true R11.out).mono ?_
  rintro e w12 ⟨rfl, rfl⟩
  go_wp2_with fail
  go_ret
  exact ⟨rfl, B11.out⟩
end Go.Proofs.YtdfbiofmfjmkaaaDoor