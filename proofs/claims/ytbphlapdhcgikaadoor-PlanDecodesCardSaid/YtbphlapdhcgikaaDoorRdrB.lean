/- Layer 2: a reader's numbers, texts, lists; two bytes put behind bytes. -/
import Derived.Test.YtbphlapdhcgikaaDoorRdrA
namespace Go.Proofs.YtbphlapdhcgikaaDoor
open Go.RowKit
set_option linter.unusedVariables false
set_option linter.unusedSimpArgs false

namespace Bl
theorem grown_kept {w w1 : World} {row : Option Nat} (hg : w.grownBy w1 row) : Kept (fun k => row = some k) w w1 := ⟨hg.os, hg.tape, hg.output, hg.size, fun k hk hn => hg.block k hk (fun e => hn e.symm)⟩
theorem bits_or64 (a b : Nat) (ha : a < 4294967296) (hb : b < 4294967296) : Go.bits .or .i64 (a : Int) (b : Int) = ((a ||| b : Nat) : Int) :=
  (bits_nat .i64 32 (by decide) (fun n h0 h1 => IntWalk.i64_in _ (by omega)) a b ha hb).2
def numL (L : List Int) : Int := L.foldl (fun v x => v * 256 + x) 0
theorem takeL_mem {S : List Int} {at_ : Nat} {bad : Bool} {n x : Int} (h : x ∈ takeL S at_ bad n) : x ∈ S := by
  unfold takeL at h
  split at h
  · cases h
  · exact List.mem_of_mem_drop (List.mem_of_mem_take h)
theorem takeL_len {S : List Int} {at_ : Nat} {bad : Bool} {n : Nat} : takeL S at_ bad n = [] ∨ (takeL S at_ bad n).length = n := by
  unfold takeL
  split
  · exact .inl rfl
  · rename_i h
    refine .inr ?_
    rw [List.length_take, List.length_drop]
    omega
theorem or_byte (a b : Int) (h0 : 0 ≤ a) (h1 : a ≤ 255) (h2 : 0 ≤ b) (h3 : b ≤ 255) : Go.bits .or .i64 (a * 256) b = a * 256 + b := by
  obtain ⟨x, rfl⟩ := Int.eq_ofNat_of_zero_le h0
  obtain ⟨y, rfl⟩ := Int.eq_ofNat_of_zero_le h2
  rw [show (x : Int) * 256 = ((x * 256 : Nat) : Int) by omega, bits_or64 _ _ (by omega) (by omega)]
  have := Nat.shiftLeft_add_eq_or_of_lt (i := 8) (b := y) (by omega) x
  rw [Nat.shiftLeft_eq, show (2 : Nat) ^ 8 = 256 from rfl] at this
  omega
def NumP (base : Nat) (w : World) (Z : Nat) (A : Option Addr) (c : Nat) (S : List Int) (at_ : Nat) (bad : Bool) (n : Nat) (e : Ending) (w' : World) : Prop :=
  e = .returned (.int .i64 (numL (takeL S at_ bad n))) ∧ RD base w' Z A c S (takeA S at_ bad n) (takeB S at_ bad n) ∧ Kept (fun j => j = Z) w w'
set_option maxHeartbeats 1600000 in
theorem number_any (base : Nat) (w : World) (Z : Nat) (A : Option Addr) (c : Nat) (S : List Int) (at_ : Nat) (bad : Bool) (n : Nat) (hn : n = 1 ∨ n = 2) (hS : ∀ x ∈ S, 0 ≤ x ∧ x ≤ 255) (h : RD base w Z A c S at_ bad) :
    Calls Tryd.prog 60 #[.func (.func 58) #[.pointer (some ⟨Z, 0, none⟩)] #[], .int .i64 n] w (NumP base w Z A c S at_ bad n) := by
  have KT := Aside.mk (take_any base w Z A c S at_ bad n h (by omega) (by omega))
  have HM : ∀ x ∈ takeL S at_ bad n, 0 ≤ x ∧ x ≤ 255 := fun x hx => hS x (takeL_mem hx)
  have HL := takeL_len (S := S) (at_ := at_) (bad := bad) (n := n)
  unfold NumP
  unfold TakeP at KT
  generalize takeL S at_ bad n = L at *
  generalize takeA S at_ bad n = a' at *
  generalize takeB S at_ bad n = b' at *
  have HLL : L = [] ∨ (∃ a, L = [a]) ∨ ∃ a b, L = [a, b] := by
    match L, HL with
    | [], _ => exact .inl rfl
    | [a], _ => exact .inr (.inl ⟨a, rfl⟩)
    | [a, b], _ => exact .inr (.inr ⟨a, b, rfl⟩)
    | a :: b :: c :: t, h => rcases h with h | h <;> simp at h; omega
  clear HL h
  go_enter Tryd.func60, Tryd.ntmps60
  go_wp2_with fail
  refine KT.out.mono ?_
  rintro e w2 ⟨v, rfl, hI, hR, hK⟩
  have HR := Aside.mk (And.intro hR hK)
  obtain ⟨A', c', rfl, _, hc⟩ := hI
  clear hR hK
  rcases HLL with rfl | ⟨a, rfl⟩ | ⟨a, b, rfl⟩
  · clear hc HM
    go_wp2_with fail
    refine wp_loop_rounds 1 ?_
    rw [rounds_succ]
    go_wp2_with fail
    go_ret
    exact ⟨rfl, HR.out⟩
  · obtain ⟨ad, rfl, hd⟩ := hc (by simp)
    have c0 := hd 0 (by simp)
    rw [show ad.add 0 = ad from rfl] at c0
    obtain ⟨a0, a1⟩ := HM a (by simp)
    have ho : Go.bits .or .i64 0 a = a := by have := or_byte 0 a (by omega) (by omega) a0 a1; simpa using this
    have hw : IntKind.i64.wrap a = a := IntWalk.i64_in _ (by omega)
    simp only [List.getD_cons_zero] at c0
    clear hc HM
    go_wp2_with fail
    refine wp_loop_rounds 2 ?_
    rw [rounds_succ]
    go_wp2_with fail
    rw [rounds_succ]
    go_wp2_with fail
    go_ret
    exact ⟨ret_int (by simp [numL]), HR.out⟩
  · obtain ⟨ad, rfl, hd⟩ := hc (by simp)
    have c0 := hd 0 (by simp)
    rw [show ad.add 0 = ad from rfl] at c0
    have c1 := hd 1 (by simp)
    rw [show ad.add 1 = ⟨ad.block, ad.off + 1, none⟩ from by simp [Addr.add]] at c1
    obtain ⟨a0, a1⟩ := HM a (by simp)
    obtain ⟨b0, b1⟩ := HM b (by simp)
    have ho : Go.bits .or .i64 0 a = a := by have := or_byte 0 a (by omega) (by omega) a0 a1; simpa using this
    have ho2 := or_byte a b a0 a1 b0 b1
    have hw : IntKind.i64.wrap a = a := IntWalk.i64_in _ (by omega)
    have hwb : IntKind.i64.wrap b = b := IntWalk.i64_in _ (by omega)
    have hwa : IntKind.i64.wrap (a * 256) = a * 256 := IntWalk.i64_in _ (by omega)
    simp only [List.getD_cons_zero, List.getD_cons_succ] at c0 c1
    clear hc HM
    go_wp2_with fail
    refine wp_loop_rounds 3 ?_
    rw [rounds_succ]
    go_wp2_with fail
    rw [rounds_succ]
    go_wp2_with fail
    rw [rounds_succ]
    go_wp2_with fail
    go_ret
    exact ⟨ret_int (by simp [numL]), HR.out⟩
theorem numL_one {S : List Int} {at_ : Nat} {bad : Bool} (hS : ∀ x ∈ S, 0 ≤ x ∧ x ≤ 255) : 0 ≤ numL (takeL S at_ bad (1 : Nat)) ∧ numL (takeL S at_ bad (1 : Nat)) ≤ 255 := by
  have HM : ∀ x ∈ takeL S at_ bad (1 : Nat), 0 ≤ x ∧ x ≤ 255 := fun x hx => hS x (takeL_mem hx)
  rcases takeL_len (S := S) (at_ := at_) (bad := bad) (n := 1) with h | h
  · rw [h]; simp [numL]
  · match takeL S at_ bad (1 : Nat), h, HM with
    | [a], _, HM => have := HM a (by simp); simp only [numL, List.foldl_cons, List.foldl_nil]; omega
theorem numL_two {S : List Int} {at_ : Nat} {bad : Bool} (hS : ∀ x ∈ S, 0 ≤ x ∧ x ≤ 255) : 0 ≤ numL (takeL S at_ bad (2 : Nat)) ∧ numL (takeL S at_ bad (2 : Nat)) ≤ 65535 := by
  have HM : ∀ x ∈ takeL S at_ bad (2 : Nat), 0 ≤ x ∧ x ≤ 255 := fun x hx => hS x (takeL_mem hx)
  rcases takeL_len (S := S) (at_ := at_) (bad := bad) (n := 2) with h | h
  · rw [h]; simp [numL]
  · match takeL S at_ bad (2 : Nat), h, HM with
    | [a, b], _, HM => have := HM a (by simp); have := HM b (by simp); simp only [numL, List.foldl_cons, List.foldl_nil]; omega
/-- What a call hands out, and how the reader stands behind it. -/
def OutP (base : Nat) (w : World) (Z : Nat) (A : Option Addr) (c : Nat) (S : List Int) (at_ : Nat) (bad : Bool) (n : Int) (v : Value) (e : Ending) (w' : World) : Prop :=
  e = .returned v ∧ RD base w' Z A c S (takeA S at_ bad n) (takeB S at_ bad n) ∧ Kept (fun j => j = Z) w w'
theorem eight_any (base : Nat) (w : World) (Z : Nat) (A : Option Addr) (c : Nat) (S : List Int) (at_ : Nat) (bad : Bool) (hS : ∀ x ∈ S, 0 ≤ x ∧ x ≤ 255) (h : RD base w Z A c S at_ bad) :
    Calls Tryd.prog 31 #[.pointer (some ⟨Z, 0, none⟩)] w (OutP base w Z A c S at_ bad 1 (.int .u8 (numL (takeL S at_ bad 1)))) := by
  have KN := Aside.mk (number_any base w Z A c S at_ bad 1 (.inl rfl) hS h)
  obtain ⟨n0, n1⟩ := numL_one (S := S) (at_ := at_) (bad := bad) hS
  unfold NumP at KN
  unfold OutP
  simp only [Int.natCast_one] at KN n0 n1
  generalize numL (takeL S at_ bad 1) = L at *
  have hw : IntKind.u8.wrap L = L := wraps_u8 _ n0 (by omega)
  go_enter Tryd.func31, Tryd.ntmps31
  go_wp2_with fail
  refine KN.out.mono ?_
  rintro e w2 ⟨rfl, hR, hK⟩
  have HR := Aside.mk (And.intro hR hK)
  clear hR hK
  go_wp2_with fail
  go_ret
  exact ⟨rfl, HR.out⟩
theorem wraps_u16 (n : Int) (h₀ : 0 ≤ n) (h₁ : n < 2 ^ 16) : IntKind.u16.wrap n = n := by rw [IntKind.wrap_u16]; omega
theorem sixteen_any (base : Nat) (w : World) (Z : Nat) (A : Option Addr) (c : Nat) (S : List Int) (at_ : Nat) (bad : Bool) (hS : ∀ x ∈ S, 0 ≤ x ∧ x ≤ 255) (h : RD base w Z A c S at_ bad) :
    Calls Tryd.prog 30 #[.pointer (some ⟨Z, 0, none⟩)] w (OutP base w Z A c S at_ bad 2 (.int .u16 (numL (takeL S at_ bad 2)))) := by
  have KN := Aside.mk (number_any base w Z A c S at_ bad 2 (.inr rfl) hS h)
  obtain ⟨n0, n1⟩ := numL_two (S := S) (at_ := at_) (bad := bad) hS
  unfold NumP at KN
  unfold OutP
  rw [show ((2 : Nat) : Int) = 2 from rfl] at KN n0 n1
  generalize numL (takeL S at_ bad 2) = L at *
  have hw : IntKind.u16.wrap L = L := wraps_u16 _ n0 (by omega)
  go_enter Tryd.func30, Tryd.ntmps30
  go_wp2_with fail
  refine KN.out.mono ?_
  rintro e w2 ⟨rfl, hR, hK⟩
  have HR := Aside.mk (And.intro hR hK)
  clear hR hK
  go_wp2_with fail
  go_ret
  exact ⟨rfl, HR.out⟩
theorem conv_ints {w : World} {v : Value} {L : List Int} (h : Ints w .u8 v L) : (convert 31 9 v).run Tryd.prog w = .ok (.string (strOfNums L)) w := by
  obtain ⟨A, c, rfl, _, hc⟩ := h
  have hs : Tryd.prog.underlying 31 = some (.slice 5) := by kernel_rfl
  have he : Tryd.prog.underlying 5 = some (.int .u8) := by kernel_rfl
  have hd : Tryd.prog.underlying 9 = some .string := by kernel_rfl
  cases A with
  | none =>
    have : L = [] := by
      cases L with
      | nil => rfl
      | cons x t => obtain ⟨ad, e, _⟩ := hc (by simp); cases e
    subst this
    rw [run_convert_bytes_nil w _ _ hs he _ _ _ hd]
    rfl
  | some ad =>
    have hl : (loadCells ad L.length).run Tryd.prog w = .ok (L.map (Value.int .u8)).toArray w := by
      have := run_loadCells_list (P := Tryd.prog) w ad (L.map (Value.int .u8)) (fun j v hj => by
        have hjl : j < L.length := by
          rcases Nat.lt_or_ge j L.length with h | h
          · exact h
          · simp [List.getElem?_eq_none (show (L.map (Value.int .u8)).length ≤ j by simpa using h)] at hj
        obtain ⟨ad', e, hc⟩ := hc (by omega)
        obtain rfl : ad = ad' := by injection e
        rw [hc j hjl]
        simp [List.getElem?_eq_getElem hjl] at hj
        subst hj
        simp [List.getD, List.getElem?_eq_getElem hjl])
      simpa using this
    rw [run_convert_bytes_string w _ _ _ _ _ _ hs he hd, run_bytesToString w _ _ _ L hl, foldl_push_bytes]
    simp [strOfNums, ByteArray.empty, ByteArray.emptyWithCapacity]
    rfl
theorem text_any (base : Nat) (w : World) (Z : Nat) (A : Option Addr) (c : Nat) (S : List Int) (at_ : Nat) (bad : Bool) (n : Int) (h : RD base w Z A c S at_ bad) (h0 : -9223372036854775808 ≤ n) (h1 : n ≤ 9223372036854775807) :
    Calls Tryd.prog 27 #[.pointer (some ⟨Z, 0, none⟩), .int .i64 n] w (OutP base w Z A c S at_ bad n (.string (strOfNums (takeL S at_ bad n)))) := by
  have KT := Aside.mk (take_any base w Z A c S at_ bad n h h0 h1)
  unfold TakeP at KT
  unfold OutP
  go_enter Tryd.func27, Tryd.ntmps27
  go_wp2_with fail
  refine KT.out.mono ?_
  rintro e w2 ⟨v, rfl, hI, hR, hK⟩
  have HR := Aside.mk (And.intro hR hK)
  have hcv := conv_ints hI
  clear hR hK hI
  go_wp2_with fail
  go_ret
  exact ⟨rfl, HR.out⟩
end Bl
end Go.Proofs.YtbphlapdhcgikaaDoor
