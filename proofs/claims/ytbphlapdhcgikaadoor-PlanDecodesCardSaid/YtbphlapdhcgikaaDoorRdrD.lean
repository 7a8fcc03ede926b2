/- Layer 2: append of a string's bytes; two bytes put behind bytes (Two). -/
import Derived.Test.YtbphlapdhcgikaaDoorRdrB
import Derived.Deep.AppendSrc
import Derived.Maps.AppendAt
namespace Go.Proofs.YtbphlapdhcgikaaDoor
open Go.RowKit
set_option linter.unusedVariables false
set_option linter.unusedSimpArgs false

namespace Bl
section
variable {P : Program} (w : World)
theorem run_append_str (base : Nat) (t tx ty e : TypeId) (i : TypeInfo) (z : Value) (ht : P.underlying t = some (.slice e)) (hk : P.underlying tx = some .string) (hi : P.info? e = some i) (hz : i.zero = some z)
    (hsize : i.size = 1) (hby : i.bytes = 1) (hzs : z.cells.size = 1)
    (v : Value) (n : Nat) (xs : List Value) (hown : w.ownsRow base e 1 v n xs) (s : ByteArray) (hbytes : n + s.size ≤ 140737488355328) (hbase : base ≤ w.heap.size) :
    ∃ v' w', (Builtin.append_ #[t, tx] ty #[v, .string s]).run P w = .ok v' w' ∧ w'.ownsRow base e 1 v' (n + s.size) (xs ++ byteCells s) ∧ w.grownBy w' v.ownBlock ∧ (v'.ownBlock = v.ownBlock ∨ v'.ownBlock = some w.heap.size) := by
  have hl : (byteCells s).length = s.size := byteCells_length s
  have hsrc : Src P i.size tx (.string s) s.size (byteCells s) w := by rw [hsize]; exact Src.ofString w hk s
  have hlen : (xs ++ byteCells s).length = (n + s.size) * 1 := by rw [List.length_append, hown.1, hl]; omega
  have grown : ∀ (old : Nat), old < n + s.size → ∀ (row : Option Nat),
      (w.drew.alloc (.cells ((xs ++ byteCells s).toArray ++ Builtin.zeroCells z.cells (grownCap w (n + s.size) old e - (n + s.size))) e)).ownsRow base e 1
        (.slice (some ⟨w.heap.size, 0, none⟩) (n + s.size) (grownCap w (n + s.size) old e)) (n + s.size) (xs ++ byteCells s) ∧
      w.grownBy (w.drew.alloc (.cells ((xs ++ byteCells s).toArray ++ Builtin.zeroCells z.cells (grownCap w (n + s.size) old e - (n + s.size))) e)) row := by
    intro old ho row
    have hge := grownCap_ge w (n + s.size) old e
    have hcm : grownCap w (n + s.size) old e ≤ maxLen := grownCap_le_maxLen w (n + s.size) old e (by simp only [maxLen]; omega)
    refine ⟨⟨hlen, .inr ⟨w.heap.size, _, _, rfl, hbase, heap_alloc_new w.drew _, hge, hcm, ?_, ?_⟩⟩, ⟨rfl, rfl, rfl, by simp, fun k hk _ => heap_alloc_old w.drew _ hk⟩⟩
    · simp only [Array.size_append, List.size_toArray, size_zeroCells, hzs, hlen]
      omega
    · simp only [Array.toList_append]
      rw [← hlen]
      exact List.take_left
  rcases hown.2 with ⟨rfl, rfl⟩ | ⟨g, cap, cur, rfl, hbg, hg, hnc, hcm, hcs, htake⟩
  · have hx : xs = [] := List.eq_nil_of_length_eq_zero (by simpa using hown.1)
    subst hx
    by_cases hm : s.size = 0
    · have hb : byteCells s = [] := List.eq_nil_of_length_eq_zero (by omega)
      rw [hm, hb]
      refine ⟨.slice none 0 0, w, ?_, by simpa using World.ownsRow_nil w base e 1, ⟨rfl, rfl, rfl, Nat.le_refl _, fun _ _ _ => rfl⟩, Or.inl rfl⟩
      have hf := firstCells_string (P := P) s w
      rw [hm, hb] at hf
      simp [Builtin.append_, run_underlying ht, run_underlying hk, sizeOf, typeInfo, hi, Builtin.lenOf, hm, hsize, hf, storeCells]
    · have hr := run_append_grow_src (P := P) w t tx ty e i z ht hi hz none 0 0 [] (by simpa using run_firstCells_none (P := P) w.drew i.size 0 0 0) (.string s) s.size (byteCells s) hsrc (by omega) (by omega) (by rw [hby, Nat.mul_one]; exact Nat.le_trans (nextslicecap_le (by omega)) (by omega))
      have hgr := grown 0 (by omega) (Value.ownBlock (.slice none 0 0))
      exact ⟨_, _, hr, hgr.1, hgr.2, Or.inr rfl⟩
  · by_cases hroom : n + s.size ≤ cap
    · have hfit : n * i.size + (byteCells s).length ≤ cur.size := by rw [hl, hcs, hsize]; omega
      have hst := run_storeCells_at P g (n * i.size) e (byteCells s) 0 cur w hg (by simpa using hfit) hsrc.one
      simp only [Nat.add_zero] at hst
      have hr : (Builtin.append_ #[t, tx] ty #[.slice (some ⟨g, 0, none⟩) n cap, .string s]).run P w = .ok (.slice (some ⟨g, 0, none⟩) (n + s.size) cap) (w.setRow g (cur.toList.take (n * i.size) ++ byteCells s ++ cur.toList.drop (n * i.size + (byteCells s).length)).toArray) := by
        simp [Builtin.append_, run_underlying ht, run_underlying hk, sizeOf, typeInfo, hi, hsrc.len, hroom, hsrc.cells, Addr.add_lit, hst]
      refine ⟨_, _, hr, ⟨hlen, .inr ⟨g, cap, _, rfl, hbg, setRow_heap w g cur _ e _ hg, hroom, hcm, ?_, ?_⟩⟩, ⟨rfl, rfl, rfl, by simp, fun k _ hk => setRow_other w g k _ (fun e => hk (by simp [Value.ownBlock, e]))⟩, Or.inl rfl⟩
      · rw [hsize]
        simp only [List.size_toArray, List.length_append, List.length_take, List.length_drop, Array.length_toList]
        omega
      · rw [hsize, htake, ← hlen]
        exact List.take_left
    · have holds : ∀ j u, xs[j]? = some u → w.drew.cell? ((⟨g, 0, none⟩ : Addr).add j) = some u := fun j u hu => by simpa using hown.cells (g := g) rfl j u hu
      have hr := run_append_grow_src (P := P) w t tx ty e i z ht hi hz (some ⟨g, 0, none⟩) n cap xs (run_firstCells_some (P := P) w.drew i.size n ⟨g, 0, none⟩ n cap xs (by rw [hown.1, hsize]) holds) (.string s) s.size (byteCells s) hsrc (by omega) (by omega) (by rw [hby, Nat.mul_one]; exact Nat.le_trans (nextslicecap_le (by omega)) (by omega))
      have hgr := grown cap (by omega) (Value.ownBlock (.slice (some ⟨g, 0, none⟩) n cap))
      exact ⟨_, _, hr, hgr.1, hgr.2, Or.inr rfl⟩
/-- append onto a slice that has no room: a new row. -/
theorem run_append_cut (t ty e : TypeId) (i : TypeInfo) (z : Value) (ht : P.underlying t = some (.slice e)) (hi : P.info? e = some i) (hz : i.zero = some z)
    (hsize : i.size = 1) (hby : i.bytes = 1) (hzs : z.cells.size = 1) (A : Option Addr) (n : Nat) (xs : List Value) (hlx : xs.length = n) (hold : n = 0 ∨ ∃ ad, A = some ad ∧ ∀ j u, xs[j]? = some u → w.cell? (ad.add j) = some u)
    (ad : Addr) (m c : Nat) (news : List Value) (hl : news.length = m) (hnews : ∀ j u, news[j]? = some u → w.cell? (ad.add j) = some u) (h1 : ∀ u ∈ news, u.oneCell' = true) (hm : 0 < m) (hb : n + m ≤ 140737488355328) :
    ∃ v' w', (Builtin.append_ #[t, t] ty #[.slice A n n, .slice (some ad) m c]).run P w = .ok v' w' ∧ w'.ownsRow w.heap.size e 1 v' (n + m) (xs ++ news) ∧ Below w.heap.size w w' := by
  have hsrc : Src P i.size t (.slice (some ad) m c) m news w := Src.ofSlice w ht ad m c news (by rw [hl, hsize, Nat.mul_one]) hnews h1
  have hf : (Builtin.firstCells i.size n (.slice A n n)).run P w.drew = .ok xs.toArray w.drew := by
    rcases A with _ | a
    · have h0 : n = 0 := by
        rcases hold with h | ⟨_, h, _⟩
        · exact h
        · cases h
      have hx : xs = [] := List.eq_nil_of_length_eq_zero (by omega)
      rw [hx]
      exact run_firstCells_none w.drew _ _ _ _
    · refine run_firstCells_some w.drew _ _ _ _ _ _ (by rw [hlx, hsize, Nat.mul_one]) (fun j u hu => ?_)
      rcases hold with h | ⟨a', h, hc⟩
      · rw [List.eq_nil_of_length_eq_zero (by omega : xs.length = 0)] at hu; cases hu
      · obtain rfl : a = a' := by injection h
        simpa using hc j u hu
  have hr := run_append_grow_src (P := P) w t t ty e i z ht hi hz A n n xs hf _ m news hsrc (by omega) (by omega) (by rw [hby, Nat.mul_one]; exact Nat.le_trans (nextslicecap_le (by omega)) (by omega))
  have hge := grownCap_ge w (n + m) n e
  have hcm : grownCap w (n + m) n e ≤ maxLen := grownCap_le_maxLen w (n + m) n e (by simp only [maxLen]; omega)
  have hlen : (xs ++ news).length = (n + m) * 1 := by rw [List.length_append, hlx, hl]; omega
  refine ⟨_, _, hr, ⟨hlen, .inr ⟨w.heap.size, _, _, rfl, Nat.le_refl _, heap_alloc_new w.drew _, hge, hcm, ?_, ?_⟩⟩, ((Below.refl _ _).drew).alloc (Nat.le_refl _) _⟩
  · simp only [Array.size_append, List.size_toArray, size_zeroCells, hzs, hlen]
    omega
  · simp only [Array.toList_append]
    rw [← hlen]
    exact List.take_left
end
section
variable {P : Program} {ops : Array Oper} {rest : List Oper} {o : Oper} {a : Act} {Q : Exit → Act → World → Prop}
theorem append_cut {W : World} (hgd : o.guard = none) (s x : Operand) (t e : TypeId) (z : Value)
    (ho : o.op = .call { callee := .builtin .append, args := #[s, x], argTypes := #[t, t] })
    (ht : P.underlying t = some (.slice e)) (hinfo : (P.info? e).map (fun i => (i.zero, i.size, i.bytes)) = some (some z, 1, 1)) (hz : z.cells.size = 1)
    (A : Option Addr) (n : Nat) (xs : List Value) (ad : Addr) (m c : Nat) (news : List Value) (hs : a.eval s = .slice A n n) (hx : a.eval x = .slice (some ad) m c) (hlx : xs.length = n) (hold : n = 0 ∨ ∃ ad, A = some ad ∧ ∀ j u, xs[j]? = some u → W.cell? (ad.add j) = some u)
    (hl : news.length = m) (hnews : ∀ j u, news[j]? = some u → W.cell? (ad.add j) = some u) (h1 : ∀ u ∈ news, u.oneCell' = true) (hm : 0 < m) (hb : n + m ≤ 140737488355328)
    (h : ∀ v1 w1, w1.ownsRow W.heap.size e 1 v1 (n + m) (xs ++ news) → Below W.heap.size W w1 → wpList P ops Q rest (a.put o.dst v1) w1) :
    wpList P ops Q (o :: rest) a W := by
  obtain ⟨i0, hi, hz0, hz1, hz2⟩ := info_parts hinfo
  obtain ⟨v1, w1, hr, hown, hg⟩ := run_append_cut (P := P) W t o.type e i0 z ht hi hz0 hz1 hz2 hz A n xs hlx hold ad m c news hl hnews h1 hm hb
  refine wpList_plain hgd fun K hK => ?_
  unfold Oper.wp execOp
  simp only [ho, resolve, invoke, builtin, Sem.run_bind, Sem.run_pure, Result.andThen_ok, List.map_toArray, List.map_cons, List.map_nil, hs, hx, hr]
  exact hK _ _ (h v1 w1 hown hg)
theorem append_str {W : World} (base : Nat) (hgd : o.guard = none) (s x : Operand) (t tx e : TypeId) (z : Value)
    (ho : o.op = .call { callee := .builtin .append, args := #[s, x], argTypes := #[t, tx] })
    (ht : P.underlying t = some (.slice e)) (hk : P.underlying tx = some .string) (hinfo : (P.info? e).map (fun i => (i.zero, i.size, i.bytes)) = some (some z, 1, 1)) (hz : z.cells.size = 1)
    (v : Value) (n : Nat) (xs : List Value) (b : ByteArray) (hs : a.eval s = v) (hx : a.eval x = .string b) (HO : W.ownsRow base e 1 v n xs) (hbytes : n + b.size ≤ 140737488355328) (hbase : base ≤ W.heap.size)
    (h : ∀ v1 w1, w1.ownsRow base e 1 v1 (n + b.size) (xs ++ byteCells b) → W.grownBy w1 v.ownBlock → wpList P ops Q rest (a.put o.dst v1) w1) :
    wpList P ops Q (o :: rest) a W := by
  obtain ⟨i0, hi, hz0, hz1, hz2⟩ := info_parts hinfo
  obtain ⟨v1, w1, hr, hown, hg, _⟩ := run_append_str (P := P) W base t tx o.type e i0 z ht hk hi hz0 hz1 hz2 hz v n xs HO b hbytes hbase
  refine wpList_plain hgd fun K hK => ?_
  unfold Oper.wp execOp
  simp only [ho, resolve, invoke, builtin, Sem.run_bind, Sem.run_pure, Result.andThen_ok, List.map_toArray, List.map_cons, List.map_nil, hs, hx, hr]
  exact hK _ _ (h v1 w1 hown hg)
end
theorem own_down {w : World} {b c n size : Nat} {e : TypeId} {v : Value} {xs : List Value} (h : w.ownsRow b e size v n xs) (hc : c ≤ b) : w.ownsRow c e size v n xs := by
  refine ⟨h.1, ?_⟩
  rcases h.2 with q | ⟨g, cap, cur, e1, e2, rest⟩
  · exact .inl q
  · exact .inr ⟨g, cap, cur, e1, Nat.le_trans hc e2, rest⟩
def TwoP (w : World) (L : List Int) (n : Int) (e : Ending) (w' : World) : Prop := ∃ v, e = .returned v ∧ w'.ownsRow w.heap.size 5 1 v (L.length + 2) ((L ++ [n / 256, n % 256]).map (Value.int .u8)) ∧ Below w.heap.size w w'
set_option maxHeartbeats 1600000 in
theorem two_gen (w : World) (v : Value) (L : List Int) (n : Int) (h0 : 0 ≤ n) (h1 : n ≤ 65535) (hsl : ∃ A c, v = .slice A L.length c ∧ L.length ≤ c ∧ (L.length = 0 ∨ ∃ ad, A = some ad ∧ ∀ j u, (L.map (Value.int .u8))[j]? = some u → w.cell? (ad.add j) = some u)) (hb : L.length ≤ 100000) :
    Calls Tryd.prog 22 #[v, .int .u16 n] w (TwoP w L n) := by
  obtain ⟨A, c, rfl, hc, hold⟩ := hsl
  have HO : Aside (∀ x, L.length = 0 ∨ ∃ ad, A = some ad ∧ ∀ j u, (L.map (Value.int .u8))[j]? = some u → (w.alloc x).cell? (ad.add j) = some u) := ⟨fun x => hold.imp id (fun ⟨ad, e, hc⟩ => ⟨ad, e, fun j u hu => (Kept.of_below (S := fun _ => False) (bel_one w x)).cell (hc j u hu) id⟩)⟩
  have hc' : (L.length : Int) ≤ (c : Int) := by omega
  have hw1 : IntKind.u8.wrap (n / 256) = n / 256 := by rw [IntKind.wrap_u8]; omega
  have hw2 : IntKind.u8.wrap n = n % 256 := by rw [IntKind.wrap_u8]
  clear hold hc
  cases A
  all_goals
    go_enter Tryd.func22, Tryd.ntmps22
    go_wp2_with (at_builtin; go_loud (refine append_cut rfl _ _ 31 5 (.int .u8 0) rfl Tryd.underlying31 A_info_u8 rfl _ L.length (L.map (Value.int .u8)) ⟨w.heap.size, 0, none⟩ 2 2 [.int .u8 (n / 256), .int .u8 (n % 256)] rfl rfl (by simp) (HO.out _) rfl (World.news_of_block (heap_alloc_new _ _)) (by simp [Value.oneCell']) (by omega) (by omega) ?_))
    intro v1 w1 o1 b1
    have H1 := Aside.mk (And.intro o1 b1)
    clear o1 b1
    go_wp2_with fail
    go_ret
    refine ⟨_, rfl, ?_, bel_then (w := w.alloc (.cells #[.int .u8 (n / 256), .int .u8 (n % 256)] 5)) (bel_one _ _) (by simpa using H1.out.2)⟩
    have q := own_down H1.out.1 (Nat.le_succ w.heap.size)
    simpa using q
end Bl
end Go.Proofs.YtbphlapdhcgikaaDoor