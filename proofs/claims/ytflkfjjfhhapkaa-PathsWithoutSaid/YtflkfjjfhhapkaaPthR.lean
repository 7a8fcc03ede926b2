/- Paths: plain laws: a channel more, a queue's two ends, without the channels that lead nowhere near. No function of the program is named here. -/
import Derived.Test.YtflkfjjfhhapkaaPthP
namespace Go.Proofs.Ytflkfjjfhhapkaa
set_option linter.unusedVariables false
set_option linter.unusedSimpArgs false

theorem Step.mono {n : Nat} {H G : List ChanR} {a b : Nat} (h : Step n H a b) (hs : ∀ c ∈ H, c ∈ G) : Step n G a b := by
  obtain ⟨c, hc, q⟩ := h
  exact ⟨c, hs c hc, q⟩
theorem Path.mono {n : Nat} {H G : List ChanR} {a b : Nat} (h : Path n H a b) (hs : ∀ c ∈ H, c ∈ G) : Path n G a b := by
  induction h with
  | refl => exact .refl _
  | step s _ ih => exact .step (s.mono hs) ih
theorem more_sub (n : Nat) (H : List ChanR) (c : ChanR) (p i : Nat) (hi : i < n) (h : (intoL n H p).getD i false = true) : (intoL n (H ++ [c]) p).getD i false = true := by
  rw [intoL_get hi] at h ⊢
  exact h.mono fun x hx => List.mem_append_left _ hx
/-- A channel that ends where there is no path brings none. -/
theorem more_same (n : Nat) (H : List ChanR) (c : ChanR) (p : Nat) (h1 : ∀ t : Nat, ChanR.t c = (t : Int) → t < n → (intoL n H p).getD t false = false) (h2 : ChanR.k c = 0 → ∀ f : Nat, ChanR.f c = (f : Int) → f < n → (intoL n H p).getD f false = false) : intoL n (H ++ [c]) p = intoL n H p := by
  refine bools_ext (by rw [intoL_len, intoL_len]) (fun i hi => ?_)
  rw [intoL_len] at hi
  rw [intoL_get hi, intoL_get hi]
  refine ⟨fun h => ?_, fun h => h.mono fun x hx => List.mem_append_left _ hx⟩
  have : ∀ x y, Path n (H ++ [c]) x y → y = p → Path n H x p := by
    intro x y h
    induction h with
    | refl => intro e; subst e; exact .refl _
    | @step x y z s _ ih =>
      intro e
      have q := ih e
      have hl := s.lt
      obtain ⟨d, hd, hr, hx⟩ := s
      rcases List.mem_append.1 hd with hd | hd
      · exact .step ⟨d, hd, hr, hx⟩ q
      · rw [List.mem_singleton.1 hd] at hr hx
        rcases hx with ⟨_, e2⟩ | ⟨e0, _, e2⟩
        · have := h1 y e2 hl.2
          rw [(intoL_get hl.2).2 q] at this
          cases this
        · have := h2 e0 y e2 hl.2
          rw [(intoL_get hl.2).2 q] at this
          cases this
  exact this _ _ h rfl
/-- The two ends of a queue. -/
theorem queue_same (n : Nat) (H : List ChanR) (c : ChanR) (f t : Nat) (hk : ChanR.k c = 0) (hf : ChanR.f c = (f : Int)) (ht : ChanR.t c = (t : Int)) (hfn : f < n) (htn : t < n) : intoL n (H ++ [c]) f = intoL n (H ++ [c]) t ∧ outL n (H ++ [c]) f = outL n (H ++ [c]) t := by
  have hr : rightB n c = true := by rw [rightB_iff]; omega
  have s1 : Step n (H ++ [c]) f t := ⟨c, by simp, hr, .inl ⟨hf, ht⟩⟩
  have s2 : Step n (H ++ [c]) t f := ⟨c, by simp, hr, .inr ⟨hk, ht, hf⟩⟩
  refine ⟨bools_ext (by rw [intoL_len, intoL_len]) (fun i hi => ?_), bools_ext (by rw [outL_len, outL_len]) (fun i hi => ?_)⟩
  · rw [intoL_len] at hi
    rw [intoL_get hi, intoL_get hi]
    exact ⟨fun h => h.trans (.one s1), fun h => h.trans (.one s2)⟩
  · rw [outL_len] at hi
    rw [outL_get hi, outL_get hi]
    exact ⟨fun h => .step s2 h, fun h => .step s1 h⟩
/-- Without the channels that lead nowhere near a partition the same ones have a path into it. -/
theorem without_same (n : Nat) (H : List ChanR) (p : Nat) : intoL n (H.filter fun c => rightB n c && kn (intoL n H p) (ChanR.t c)) p = intoL n H p := by
  refine bools_ext (by rw [intoL_len, intoL_len]) (fun i hi => ?_)
  rw [intoL_len] at hi
  rw [intoL_get hi, intoL_get hi]
  refine ⟨fun h => h.mono fun x hx => (List.mem_filter.1 hx).1, fun h => ?_⟩
  have : ∀ x y, Path n H x y → y = p → Path n (H.filter fun c => rightB n c && kn (intoL n H p) (ChanR.t c)) x p := by
    intro x y h
    induction h with
    | refl => intro e; subst e; exact .refl _
    | @step x y z s h' ih =>
      intro e
      subst e
      have hl := s.lt
      refine .step ?_ (ih rfl)
      have hs := s
      obtain ⟨d, hd, hr, hx⟩ := s
      refine ⟨d, List.mem_filter.2 ⟨hd, ?_⟩, hr, hx⟩
      rw [hr, Bool.true_and, kn]
      rcases hx with ⟨_, e2⟩ | ⟨_, e1, _⟩
      · rw [e2, Int.toNat_natCast, intoL_get hl.2]
        exact h'
      · rw [e1, Int.toNat_natCast, intoL_get hl.1]
        exact .step hs h'
  exact this _ _ h rfl
end Go.Proofs.Ytflkfjjfhhapkaa
