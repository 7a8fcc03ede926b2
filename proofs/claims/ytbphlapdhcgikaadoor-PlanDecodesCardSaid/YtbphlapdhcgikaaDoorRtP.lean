/- What is read of a plan's bytes is the plan; what is read without failing has just these bytes; bytes that are cut off fail near their end. Plain: no function of the program is named here. -/
import Derived.Test.YtbphlapdhcgikaaDoorDecP
import Derived.Test.YtbphlapdhcgikaaDoorEncP
namespace Go.Proofs.YtbphlapdhcgikaaDoor
set_option linter.unusedVariables false
set_option linter.unusedSimpArgs false

/-- Does the list stand in S at a place? -/
def Sd (S : List Int) (a : Nat) (xs : List Int) : Prop := ∃ rest, S.drop a = xs ++ rest
theorem sd_nil (S : List Int) (a : Nat) : Sd S a [] := ⟨S.drop a, rfl⟩
theorem sd_app {S : List Int} {a : Nat} {x y : List Int} : Sd S a (x ++ y) ↔ Sd S a x ∧ Sd S (a + x.length) y := by
  constructor
  · rintro ⟨r, h⟩
    refine ⟨⟨y ++ r, by rw [h, List.append_assoc]⟩, ⟨r, ?_⟩⟩
    rw [← List.drop_drop, h, List.append_assoc, List.drop_left]
  · rintro ⟨⟨r, h⟩, ⟨q, k⟩⟩
    rw [← List.drop_drop, h, List.drop_left] at k
    exact ⟨q, by rw [h, k, List.append_assoc]⟩
theorem sd_len {S : List Int} {a : Nat} {x : List Int} (h : Sd S a x) : x = [] ∨ a + x.length ≤ S.length := by
  obtain ⟨r, h⟩ := h
  have := congrArg List.length h
  simp at this
  rcases x with _ | ⟨b, x⟩
  · exact .inl rfl
  · right; simp at this ⊢; omega
/-- A reader of something: bytes B, of what D holds. -/
structure Rdb {α : Type} (f : List Int → St → α × St) (B : α → List Int) (D : α → Prop) : Prop where
  bad : ∀ S s, s.2 = true → (f S s).2 = s
  near : ∀ S s, s.2 = false → s.1 ≤ S.length → s.1 ≤ (f S s).2.1 ∧ (f S s).2.1 ≤ S.length ∧ ((f S s).2.2 = true → S.length < (f S s).2.1 + 4)
  enc : ∀ S s, (∀ x ∈ S, 0 ≤ x ∧ x ≤ 255) → s.2 = false → s.1 ≤ S.length → (f S s).2.2 = false → Sd S s.1 (B (f S s).1) ∧ (f S s).2.1 = s.1 + (B (f S s).1).length ∧ D (f S s).1
  ext : ∀ S T s, s.2 = false → s.1 ≤ S.length → (f S s).2.2 = false → f (S ++ T) s = f S s
  back : ∀ S a x, D x → Sd S a (B x) → f S (a, false) = (x, (a + (B x).length, false))

theorem take_no {S : List Int} {a n : Nat} (h : S.length < a + n) (hn : 0 < n) : rdN S n (a, false) = (0, (a, true)) := by
  have e : (false = true ∨ (n : Int) < 1 ∨ (S.length : Int) - (a : Int) < (n : Int)) := .inr (.inr (by omega))
  have e' : ¬(false = true ∨ (n : Int) < 1) := by simp; omega
  simp only [rdN, Bl.takeL, Bl.takeA, Bl.takeB, if_pos e, if_neg e', Bl.numL, List.foldl_nil]
  rw [decide_eq_true (by omega)]
theorem take_yes {S : List Int} {a n : Nat} (h : a + n ≤ S.length) (hn : 0 < n) : rdN S n (a, false) = (Bl.numL ((S.drop a).take n), (a + n, false)) := by
  have e : ¬(false = true ∨ (n : Int) < 1 ∨ (S.length : Int) - (a : Int) < (n : Int)) := by simp; omega
  have e' : ¬(false = true ∨ (n : Int) < 1) := by simp; omega
  simp only [rdN, Bl.takeL, Bl.takeA, Bl.takeB, if_neg e, if_neg e']
  rw [decide_eq_false (by omega)]
  simp
theorem take_bad {S : List Int} {n : Nat} {s : St} (h : s.2 = true) : rdN S n s = (0, s) := by
  obtain ⟨a, b⟩ := s
  cases h
  simp [rdN, Bl.takeL, Bl.takeA, Bl.takeB, Bl.numL]
theorem rdb_num {n : Nat} (hn : 0 < n) (hn' : n ≤ 4) {B : Int → List Int} {D : Int → Prop}
    (h1 : ∀ x, D x → (B x).length = n ∧ Bl.numL (B x) = x) (h2 : ∀ L : List Int, L.length = n → (∀ x ∈ L, 0 ≤ x ∧ x ≤ 255) → D (Bl.numL L) ∧ B (Bl.numL L) = L) : Rdb (fun S => rdN S n) B D := by
  refine ⟨fun S s h => by show (rdN S n s).2 = s; rw [take_bad h], fun S s h hl => ?_, fun S s hS h hl hf => ?_, fun S T s h hl hf => ?_, fun S a x hD hs => ?_⟩
  · obtain ⟨a, b⟩ := s
    cases h
    rcases Nat.lt_or_ge S.length (a + n) with q | q
    · show a ≤ (rdN S n (a, false)).2.1 ∧ (rdN S n (a, false)).2.1 ≤ S.length ∧ ((rdN S n (a, false)).2.2 = true → S.length < (rdN S n (a, false)).2.1 + 4)
      rw [take_no q hn]
      exact ⟨Nat.le_refl _, hl, fun _ => by show S.length < a + 4; omega⟩
    · show a ≤ (rdN S n (a, false)).2.1 ∧ (rdN S n (a, false)).2.1 ≤ S.length ∧ ((rdN S n (a, false)).2.2 = true → S.length < (rdN S n (a, false)).2.1 + 4)
      rw [take_yes q hn]
      exact ⟨by show a ≤ a + n; omega, q, fun h => by cases h⟩
  · obtain ⟨a, b⟩ := s
    cases h
    rcases Nat.lt_or_ge S.length (a + n) with q | q
    · have hf : (rdN S n (a, false)).2.2 = false := hf
      rw [take_no q hn] at hf
      cases hf
    · have hL : ((S.drop a).take n).length = n := by simp; omega
      obtain ⟨k1, k2⟩ := h2 _ hL (fun x hx => hS x (List.mem_of_mem_drop (List.mem_of_mem_take hx)))
      show Sd S a (B (rdN S n (a, false)).1) ∧ (rdN S n (a, false)).2.1 = a + (B (rdN S n (a, false)).1).length ∧ D (rdN S n (a, false)).1
      rw [take_yes q hn]
      refine ⟨?_, ?_, k1⟩
      · show Sd S a (B (Bl.numL ((S.drop a).take n)))
        rw [k2]
        exact ⟨(S.drop a).drop n, (List.take_append_drop n _).symm⟩
      · show a + n = a + (B (Bl.numL ((S.drop a).take n))).length
        rw [k2, hL]
  · obtain ⟨a, b⟩ := s
    cases h
    rcases Nat.lt_or_ge S.length (a + n) with q | q
    · have hf : (rdN S n (a, false)).2.2 = false := hf
      rw [take_no q hn] at hf
      cases hf
    · show rdN (S ++ T) n (a, false) = rdN S n (a, false)
      rw [take_yes q hn, take_yes (by simp; omega) hn, List.drop_append_of_le_length hl, List.take_append_of_le_length (by simp; omega)]
  · obtain ⟨k1, k2⟩ := h1 x hD
    have hl := sd_len hs
    rw [k1] at hl
    have hle : a + n ≤ S.length := by
      rcases hl with q | q
      · rw [q] at k1; simp at k1; omega
      · exact q
    show rdN S n (a, false) = _
    rw [take_yes hle hn, k1]
    obtain ⟨r, hr⟩ := hs
    rw [hr, List.take_left' k1, k2]
def byB (x : Int) : List Int := [x]
def D1 (x : Int) : Prop := 0 ≤ x ∧ x ≤ 255
def D2 (x : Int) : Prop := 0 ≤ x ∧ x ≤ 65535
theorem rdb_one : Rdb (fun S => rdN S 1) byB D1 := by
  refine rdb_num (by omega) (by omega) (fun x h => ⟨rfl, by simp [byB, Bl.numL]⟩) fun L hL h => ?_
  match L, hL with
  | [a], _ => exact ⟨by simpa [Bl.numL, D1] using h a (by simp), by simp [byB, Bl.numL]⟩
theorem rdb_two : Rdb (fun S => rdN S 2) twoB D2 := by
  refine rdb_num (by omega) (by omega) (fun x h => ⟨rfl, by simp [twoB, Bl.numL]; omega⟩) fun L hL h => ?_
  match L, hL with
  | [a, b], _ =>
    have h1 := h a (by simp)
    have h2 := h b (by simp)
    refine ⟨by simp [Bl.numL, D2]; omega, ?_⟩
    simp only [twoB, Bl.numL, List.foldl_cons, List.foldl_nil, Int.zero_mul, Int.zero_add]
    rw [show (a * 256 + b) / 256 = a from by omega, show (a * 256 + b) % 256 = b from by omega]
theorem Rdb.and {α β : Type} {f : List Int → St → α × St} {B : α → List Int} {D : α → Prop} {g : α → List Int → St → β × St} {C : α → β → List Int} {E : α → β → Prop} (hf : Rdb f B D) (hg : ∀ x, Rdb (g x) (C x) (E x)) :
    Rdb (fun S s => (((f S s).1, (g (f S s).1 S (f S s).2).1), (g (f S s).1 S (f S s).2).2)) (fun p : α × β => B p.1 ++ C p.1 p.2) (fun p => D p.1 ∧ E p.1 p.2) := by
  refine ⟨fun S s h => ?_, fun S s h hl => ?_, fun S s hS h hl hk => ?_, fun S T s h hl hk => ?_, fun S a x hD hs => ?_⟩
  · have h1 := hf.bad S s h
    have h2 := (hg (f S s).1).bad S (f S s).2 (by rw [h1]; exact h)
    exact h2.trans h1
  · obtain ⟨n1, n2, n3⟩ := hf.near S s h hl
    cases hb : (f S s).2.2 with
    | true =>
      have h2 := (hg (f S s).1).bad S (f S s).2 hb
      show s.1 ≤ (g (f S s).1 S (f S s).2).2.1 ∧ (g (f S s).1 S (f S s).2).2.1 ≤ S.length ∧ ((g (f S s).1 S (f S s).2).2.2 = true → S.length < (g (f S s).1 S (f S s).2).2.1 + 4)
      rw [h2]
      exact ⟨n1, n2, n3⟩
    | false =>
      obtain ⟨m1, m2, m3⟩ := (hg (f S s).1).near S (f S s).2 hb n2
      exact ⟨Nat.le_trans n1 m1, m2, m3⟩
  · obtain ⟨n1, n2, n3⟩ := hf.near S s h hl
    have hb : (f S s).2.2 = false := by
      cases hb : (f S s).2.2 with
      | false => rfl
      | true =>
        have h2 := (hg (f S s).1).bad S (f S s).2 hb
        have hk : (g (f S s).1 S (f S s).2).2.2 = false := hk
        rw [h2, hb] at hk
        cases hk
    obtain ⟨e1, e2, e3⟩ := hf.enc S s hS h hl hb
    obtain ⟨g1, g2, g3⟩ := (hg (f S s).1).enc S (f S s).2 hS hb n2 hk
    refine ⟨sd_app.2 ⟨e1, ?_⟩, ?_, e3, g3⟩
    · rw [← e2]; exact g1
    · show (g (f S s).1 S (f S s).2).2.1 = s.1 + (B (f S s).1 ++ C (f S s).1 (g (f S s).1 S (f S s).2).1).length
      rw [g2, e2, List.length_append]
      omega
  · obtain ⟨n1, n2, n3⟩ := hf.near S s h hl
    have hb : (f S s).2.2 = false := by
      cases hb : (f S s).2.2 with
      | false => rfl
      | true =>
        have h2 := (hg (f S s).1).bad S (f S s).2 hb
        have hk : (g (f S s).1 S (f S s).2).2.2 = false := hk
        rw [h2, hb] at hk
        cases hk
    have e := hf.ext S T s h hl hb
    show (((f (S ++ T) s).1, (g (f (S ++ T) s).1 (S ++ T) (f (S ++ T) s).2).1), (g (f (S ++ T) s).1 (S ++ T) (f (S ++ T) s).2).2) = _
    rw [e, (hg (f S s).1).ext S T (f S s).2 hb n2 hk]
  · obtain ⟨x, y⟩ := x
    obtain ⟨s1, s2⟩ := sd_app.1 hs
    have e1 := hf.back S a x hD.1 s1
    have e2 := (hg x).back S _ y hD.2 s2
    show (((f S (a, false)).1, (g (f S (a, false)).1 S (f S (a, false)).2).1), (g (f S (a, false)).1 S (f S (a, false)).2).2) = _
    rw [e1]
    show ((x, (g x S (a + (B x).length, false)).1), (g x S (a + (B x).length, false)).2) = _
    rw [e2, List.length_append, Nat.add_assoc]
theorem Rdb.map {α β : Type} {f : List Int → St → α × St} {B : α → List Int} {D : α → Prop} (hf : Rdb f B D) (up : α → β) (fro : β → α) {C : β → List Int} {E : β → Prop} (h1 : ∀ x, D x → C (up x) = B x ∧ E (up x)) (h2 : ∀ y, E y → D (fro y) ∧ up (fro y) = y ∧ C y = B (fro y)) :
    Rdb (fun S s => (up (f S s).1, (f S s).2)) C E := by
  refine ⟨hf.bad, hf.near, fun S s hS h hl hk => ?_, fun S T s h hl hk => ?_, fun S a x hD hs => ?_⟩
  · obtain ⟨e1, e2, e3⟩ := hf.enc S s hS h hl hk
    obtain ⟨k1, k2⟩ := h1 _ e3
    refine ⟨?_, ?_, k2⟩
    · show Sd S s.1 (C (up (f S s).1))
      rw [k1]; exact e1
    · show (f S s).2.1 = s.1 + (C (up (f S s).1)).length
      rw [k1]; exact e2
  · show (up (f (S ++ T) s).1, (f (S ++ T) s).2) = _
    rw [hf.ext S T s h hl hk]
  · obtain ⟨k1, k2, k3⟩ := h2 x hD
    rw [k3] at hs
    show (up (f S (a, false)).1, (f S (a, false)).2) = _
    rw [hf.back S a _ k1 hs, k2, k3]
theorem Rdb.many' {α : Type} {f : List Int → St → α × St} {B : α → List Int} {D : α → Prop} (hf : Rdb f B D) (n : Nat) :
    (∀ S s acc, s.2 = true → (manyS (f S) n s acc).2 = s) ∧
    (∀ S s acc, s.2 = false → s.1 ≤ S.length → s.1 ≤ (manyS (f S) n s acc).2.1 ∧ (manyS (f S) n s acc).2.1 ≤ S.length ∧ ((manyS (f S) n s acc).2.2 = true → S.length < (manyS (f S) n s acc).2.1 + 4)) ∧
    (∀ S s acc, (∀ x ∈ S, 0 ≤ x ∧ x ≤ 255) → s.2 = false → s.1 ≤ S.length → (manyS (f S) n s acc).2.2 = false → ∃ L : List α, L.length = n ∧ (∀ x ∈ L, D x) ∧ (manyS (f S) n s acc).1 = acc ++ L ∧ Sd S s.1 (L.flatMap B) ∧ (manyS (f S) n s acc).2.1 = s.1 + (L.flatMap B).length) ∧
    (∀ S T s acc, s.2 = false → s.1 ≤ S.length → (manyS (f S) n s acc).2.2 = false → manyS (f (S ++ T)) n s acc = manyS (f S) n s acc) ∧
    (∀ S a acc (L : List α), L.length = n → (∀ x ∈ L, D x) → Sd S a (L.flatMap B) → manyS (f S) n (a, false) acc = (acc ++ L, (a + (L.flatMap B).length, false))) := by
  induction n with
  | zero =>
    refine ⟨fun S s acc h => rfl, fun S s acc h hl => ⟨Nat.le_refl _, hl, fun q => by rw [show (manyS (f S) 0 s acc).2 = s from rfl, h] at q; cases q⟩, fun S s acc hS h hl hk => ⟨[], rfl, by simp, by simp [manyS], sd_nil _ _, by simp [manyS]⟩, fun S T s acc h hl hk => rfl, fun S a acc L hL hD hs => ?_⟩
    obtain rfl := List.length_eq_zero_iff.1 hL
    simp [manyS]
  | succ n ih =>
    obtain ⟨i1, i2, i3, i4, i5⟩ := ih
    have B1 : ∀ S s acc, s.2 = true → (manyS (f S) (n + 1) s acc).2 = s := fun S s acc h => by rw [many_bad _ _ _ _ h (by omega)]
    refine ⟨B1, fun S s acc h hl => ?_, fun S s acc hS h hl hk => ?_, fun S T s acc h hl hk => ?_, fun S a acc L hL hD hs => ?_⟩
    · rw [many_go _ _ _ _ h]
      obtain ⟨n1, n2, n3⟩ := hf.near S s h hl
      cases hb : (f S s).2.2 with
      | true => rw [i1 _ _ _ hb]; exact ⟨n1, n2, n3⟩
      | false =>
        obtain ⟨m1, m2, m3⟩ := i2 S (f S s).2 (acc ++ [(f S s).1]) hb n2
        exact ⟨Nat.le_trans n1 m1, m2, m3⟩
    · rw [many_go _ _ _ _ h] at hk ⊢
      obtain ⟨n1, n2, n3⟩ := hf.near S s h hl
      have hb : (f S s).2.2 = false := by
        cases hb : (f S s).2.2 with
        | false => rfl
        | true => rw [i1 _ _ _ hb, hb] at hk; cases hk
      obtain ⟨e1, e2, e3⟩ := hf.enc S s hS h hl hb
      obtain ⟨L, l1, l2, l3, l4, l5⟩ := i3 S _ _ hS hb n2 hk
      refine ⟨(f S s).1 :: L, by simp [l1], ?_, ?_, ?_, ?_⟩
      · intro x hx
        rcases List.mem_cons.1 hx with rfl | q
        · exact e3
        · exact l2 x q
      · rw [l3, List.append_assoc]; rfl
      · rw [List.flatMap_cons]
        exact sd_app.2 ⟨e1, by rw [← e2]; exact l4⟩
      · rw [l5, e2, List.flatMap_cons, List.length_append]; omega
    · rw [many_go _ _ _ _ h] at hk ⊢
      rw [many_go _ _ _ _ h]
      obtain ⟨n1, n2, n3⟩ := hf.near S s h hl
      have hb : (f S s).2.2 = false := by
        cases hb : (f S s).2.2 with
        | false => rfl
        | true => rw [i1 _ _ _ hb, hb] at hk; cases hk
      rw [hf.ext S T s h hl hb]
      exact i4 S T _ _ hb n2 hk
    · match L, hL with
      | x :: L, hL =>
        rw [List.flatMap_cons] at hs ⊢
        obtain ⟨s1, s2⟩ := sd_app.1 hs
        have e := hf.back S a x (hD x (by simp)) s1
        rw [many_go _ _ _ _ rfl, e]
        show manyS (f S) n (a + (B x).length, false) (acc ++ [x]) = _
        rw [i5 S _ (acc ++ [x]) L (by simpa using hL) (fun y hy => hD y (by simp [hy])) s2, List.append_assoc, List.length_append, Nat.add_assoc]
        rfl
theorem Rdb.many {α : Type} {f : List Int → St → α × St} {B : α → List Int} {D : α → Prop} (hf : Rdb f B D) (n : Nat) : Rdb (fun S s => manyS (f S) n s []) (fun L => L.flatMap B) (fun L => L.length = n ∧ ∀ x ∈ L, D x) := by
  obtain ⟨i1, i2, i3, i4, i5⟩ := hf.many' n
  refine ⟨fun S s h => i1 S s [] h, fun S s h hl => i2 S s [] h hl, fun S s hS h hl hk => ?_, fun S T s h hl hk => i4 S T s [] h hl hk, fun S a L hD hs => ?_⟩
  · obtain ⟨L, l1, l2, l3, l4, l5⟩ := i3 S s [] hS h hl hk
    rw [List.nil_append] at l3
    show Sd S s.1 ((manyS (f S) n s []).1.flatMap B) ∧ (manyS (f S) n s []).2.1 = s.1 + ((manyS (f S) n s []).1.flatMap B).length ∧ _
    rw [l3]
    exact ⟨l4, l5, l1, l2⟩
  · exact i5 S a [] L hD.1 hD.2 hs
/-- A list behind its count. -/
theorem Rdb.list {α : Type} {f : List Int → St → α × St} {B : α → List Int} {D : α → Prop} (hf : Rdb f B D) {m : Nat} {c : List Int → St → Int × St} {K : Int → List Int} {F : Int → Prop} (hc : Rdb c K F) (hF : ∀ n : Int, F n ↔ 0 ≤ n ∧ n ≤ (m : Int)) :
    Rdb (fun S s => manyS (f S) (c S s).1.toNat (c S s).2 []) (fun L => K (L.length : Int) ++ L.flatMap B) (fun L => L.length ≤ m ∧ ∀ x ∈ L, D x) := by
  have h := (hc.and (g := fun n S s => manyS (f S) n.toNat s []) (fun n => hf.many n.toNat)).map (fun p : Int × List α => p.2) (fun L => ((L.length : Int), L)) (C := fun L => K (L.length : Int) ++ L.flatMap B) (E := fun L => L.length ≤ m ∧ ∀ x ∈ L, D x)
    (fun p hp => by
      obtain ⟨n, L⟩ := p
      obtain ⟨q1, q2, q3⟩ := hp
      have q1' := (hF n).1 q1
      have e : (L.length : Int) = n := by
        have : L.length = n.toNat := q2
        omega
      refine ⟨?_, ?_, q3⟩
      · show K (L.length : Int) ++ _ = K n ++ _
        rw [e]
      · show L.length ≤ m
        omega)
    (fun L hL => by
      refine ⟨⟨(hF _).2 ?_, ?_, hL.2⟩, rfl, rfl⟩
      · have := hL.1
        exact ⟨by show (0 : Int) ≤ (L.length : Int); omega, by show (L.length : Int) ≤ m; omega⟩
      · show L.length = ((L.length : Int)).toNat
        omega)
  exact h
end Go.Proofs.YtbphlapdhcgikaaDoor
