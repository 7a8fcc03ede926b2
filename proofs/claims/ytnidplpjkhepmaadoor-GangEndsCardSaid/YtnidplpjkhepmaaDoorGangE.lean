/- Layer 23: what the chapter's example fixes. -/
import Derived.Test.YtnidplpjkhepmaaDoorGangD
namespace Go.Proofs.YtnidplpjkhepmaaDoor
open Go.RowKit
set_option linter.unusedVariables false
set_option linter.unusedSimpArgs false

section
variable {w0 w : World} {B G : Nat} {bs : List Nat} {ms : List Mb} {W c : Int} (s : CSt w0 w B G bs ms W c) (i b : Nat) (x : Mb) (hb : bs[i]? = some b) (hx : ms[i]? = some x)
include s hb hx
theorem step_d (k : Int) (hc : c ≤ k) (hk : k < 1000) (x' : Mb) (W' : Int) (ms' : List Mb) (v : Bool) (e1 : stepX x W = x') (e2 : stepW x W = W') (e3 : ms.set i x' = ms') (e4 : (x'.ph == 0) = v) :
    Calls Tryd.prog 9 #[ptr b, .pointer (some ⟨B, 0, none⟩)] w fun e w' => e = .returned (.bool v) ∧ ∃ c', c' ≤ k + 1 ∧ CSt w0 w' B G bs ms' W' c' := by
  subst e1 e2 e3 e4
  refine (step_c s i b x hb hx (by omega)).mono ?_
  rintro e w' ⟨rfl, c', h1, h2, _⟩
  exact ⟨rfl, c', by omega, h2⟩
theorem begin_d (r : Int) (x' : Mb) (ms' : List Mb) (v : Int) (r0 : 0 ≤ r) (r1 : r < 4294967296) (e1 : beginS x r = x') (e3 : ms.set i x' = ms') (e4 : beginE x r = v) :
    Calls Tryd.prog 8 #[ptr b, .int .u32 r] w fun e w' => e = .returned (.int .i64 v) ∧ CSt w0 w' B G bs ms' W c := by
  subst e1 e3 e4
  refine (begin_c s i b x hb hx r r0 r1).mono ?_
  rintro e w' ⟨rfl, h2, _⟩
  exact ⟨rfl, h2⟩
end
theorem load_d {w0 w : World} {B G : Nat} {bs : List Nat} {ms : List Mb} {W c : Int} (s : CSt w0 w B G bs ms W c) (k : Int) (hc : c ≤ k) (hk : k < 1000) :
    Calls Tryd.prog 15 #[.pointer (some ⟨B, 0, none⟩), .int .i64 0] w fun e w' => e = .returned (.tuple #[.int .u32 W, .int .i64 0]) ∧ ∃ c', c' ≤ k + 1 ∧ CSt w0 w' B G bs ms W c' := by
  have h := s.c0
  refine (load_yes w B G [W] c 0 s.m.mem s.m.look (by simp) W ⟨rfl⟩ s.c0 (by omega) s.m.nB s.m.nG).mono ?_
  rintro e w' ⟨rfl, m, q⟩
  exact ⟨rfl, c + 1, by omega, ⟨s.m.step m q, by omega, s.len, fun i b x h1 h2 => (s.mb i b x h1 h2).kept q (by have := s.bOk b (List.mem_of_getElem? h1); omega), s.ok, s.bOk, s.nodup⟩⟩

set_option maxHeartbeats 6400000 in
set_option maxRecDepth 100000 in
theorem awake_any (w : World) (hl : Look w) : Calls Tryd.prog 7 #[] w fun e w' => e = .returned (.bool true) ∧ Below w.heap.size w w' := by
  have K0 := Aside.mk (new_st w w 1 (by decide) (by decide) (Below.refl _ _) hl)
  have K1 := Aside.mk (fun W => gnew_any W 0 2 (by decide) (by decide))
  have O := Aside.mk (newMb_ok 2 ⟨by decide, by decide⟩)
  clear hl
  go_enter Tryd.func7, Tryd.ntmps7
  go_wp2_with fail
  refine K0.out.mono ?_
  rintro e w1 ⟨B, G, rfl, m1, k1, hB, hG⟩
  have s1 : Aside (CSt w w1 B G [] [] 0 0) := ⟨⟨m1, by decide, rfl, by simp, by simp, by simp, by simp⟩⟩
  clear m1 k1 hB hG K0
  go_wp2_with fail
  refine (K1.out _).mono ?_
  rintro e w2 ⟨rfl, h2⟩
  obtain ⟨b0, H0⟩ : ∃ b0, Aside (w1.heap.size = b0) := ⟨_, ⟨rfl⟩⟩
  have s2 : Aside (CSt w w2 B G [b0] [newMb 2] 0 0) := ⟨by rw [← h2, ← H0.out]; exact s1.out.push (newMb 2) O.out⟩
  rw [H0.out]
  clear h2
  go_wp2_with fail
  refine (K1.out _).mono ?_
  rintro e w3 ⟨rfl, h2⟩
  obtain ⟨b1, H1⟩ : ∃ b1, Aside (w2.heap.size = b1) := ⟨_, ⟨rfl⟩⟩
  have s3 : Aside (CSt w w3 B G [b0, b1] [newMb 2, newMb 2] 0 0) := ⟨by rw [← h2, ← H1.out]; exact s2.out.push (newMb 2) O.out⟩
  rw [H1.out]
  clear h2
  go_wp2_with fail
  refine (K1.out _).mono ?_
  rintro e w4 ⟨rfl, h2⟩
  obtain ⟨b2, H2⟩ : ∃ b2, Aside (w3.heap.size = b2) := ⟨_, ⟨rfl⟩⟩
  have s4 : Aside (CSt w w4 B G [b0, b1, b2] [newMb 2, newMb 2, newMb 2] 0 0) := ⟨by rw [← h2, ← H2.out]; exact s3.out.push (newMb 2) O.out⟩
  rw [H2.out]
  clear h2 K1 O s1 s2 s3 H0 H1 H2
  have s5 : Aside (CSt w w4 B G [b0, b1, b2] [⟨0, 2, 0, 0, 0, false, false, false⟩, ⟨0, 2, 0, 0, 0, false, false, false⟩, ⟨0, 2, 0, 0, 0, false, false, false⟩] 0 0 ∧ (0 : Int) ≤ 0) := ⟨s4.out, by decide⟩
  clear s4
  have K5 := Aside.mk (begin_d s5.out.1 0 b0 ⟨0, 2, 0, 0, 0, false, false, false⟩ rfl rfl 3 ⟨0, 2, 1, 3, 0, false, false, false⟩ [⟨0, 2, 1, 3, 0, false, false, false⟩, ⟨0, 2, 0, 0, 0, false, false, false⟩, ⟨0, 2, 0, 0, 0, false, false, false⟩] 0 (by decide) (by decide) rfl rfl rfl)
  go_wp2_with fail
  refine K5.out.mono ?_
  rintro e w6 ⟨rfl, s⟩
  have s6 := Aside.mk (And.intro s s5.out.2)
  clear s K5
  have K6 := Aside.mk (begin_d s6.out.1 1 b1 ⟨0, 2, 0, 0, 0, false, false, false⟩ rfl rfl 3 ⟨0, 2, 1, 3, 0, false, false, false⟩ [⟨0, 2, 1, 3, 0, false, false, false⟩, ⟨0, 2, 1, 3, 0, false, false, false⟩, ⟨0, 2, 0, 0, 0, false, false, false⟩] 0 (by decide) (by decide) rfl rfl rfl)
  go_wp2_with fail
  refine K6.out.mono ?_
  rintro e w7 ⟨rfl, s⟩
  have s7 := Aside.mk (And.intro s s6.out.2)
  clear s K6
  have K7 := Aside.mk (step_d s7.out.1 0 b0 ⟨0, 2, 1, 3, 0, false, false, false⟩ rfl rfl 0 s7.out.2 (by decide) ⟨0, 2, 2, 3, 0, false, false, false⟩ 0 [⟨0, 2, 2, 3, 0, false, false, false⟩, ⟨0, 2, 1, 3, 0, false, false, false⟩, ⟨0, 2, 0, 0, 0, false, false, false⟩] false rfl rfl rfl rfl)
  go_wp2_with fail
  refine K7.out.mono ?_
  rintro e w8 ⟨rfl, c8, hc, s⟩
  have s8 := Aside.mk (And.intro s (show c8 ≤ 1 from hc))
  clear s hc K7
  have K8 := Aside.mk (step_d s8.out.1 0 b0 ⟨0, 2, 2, 3, 0, false, false, false⟩ rfl rfl 1 s8.out.2 (by decide) ⟨0, 2, 3, 3, 0, true, false, false⟩ 49 [⟨0, 2, 3, 3, 0, true, false, false⟩, ⟨0, 2, 1, 3, 0, false, false, false⟩, ⟨0, 2, 0, 0, 0, false, false, false⟩] false rfl rfl rfl rfl)
  go_wp2_with fail
  refine K8.out.mono ?_
  rintro e w9 ⟨rfl, c9, hc, s⟩
  have s9 := Aside.mk (And.intro s (show c9 ≤ 2 from hc))
  clear s hc K8
  have K := Aside.mk (came_c s9.out.1 0 b0 ⟨0, 2, 3, 3, 0, true, false, false⟩ rfl rfl)
  go_wp2_with fail
  refine K.out.mono ?_
  rintro e w' ⟨rfl, rfl⟩
  clear K
  have K9 := Aside.mk (step_d s9.out.1 0 b0 ⟨0, 2, 3, 3, 0, true, false, false⟩ rfl rfl 2 s9.out.2 (by decide) ⟨0, 2, 3, 3, 0, true, false, false⟩ 49 [⟨0, 2, 3, 3, 0, true, false, false⟩, ⟨0, 2, 1, 3, 0, false, false, false⟩, ⟨0, 2, 0, 0, 0, false, false, false⟩] false rfl rfl rfl rfl)
  go_wp2_with fail
  refine K9.out.mono ?_
  rintro e w10 ⟨rfl, c10, hc, s⟩
  have s10 := Aside.mk (And.intro s (show c10 ≤ 3 from hc))
  clear s hc K9
  have K10 := Aside.mk (step_d s10.out.1 1 b1 ⟨0, 2, 1, 3, 0, false, false, false⟩ rfl rfl 3 s10.out.2 (by decide) ⟨0, 2, 2, 3, 49, false, false, false⟩ 49 [⟨0, 2, 3, 3, 0, true, false, false⟩, ⟨0, 2, 2, 3, 49, false, false, false⟩, ⟨0, 2, 0, 0, 0, false, false, false⟩] false rfl rfl rfl rfl)
  go_wp2_with fail
  refine K10.out.mono ?_
  rintro e w11 ⟨rfl, c11, hc, s⟩
  have s11 := Aside.mk (And.intro s (show c11 ≤ 4 from hc))
  clear s hc K10
  have K11 := Aside.mk (step_d s11.out.1 1 b1 ⟨0, 2, 2, 3, 49, false, false, false⟩ rfl rfl 4 s11.out.2 (by decide) ⟨0, 2, 3, 3, 49, true, false, false⟩ 50 [⟨0, 2, 3, 3, 0, true, false, false⟩, ⟨0, 2, 3, 3, 49, true, false, false⟩, ⟨0, 2, 0, 0, 0, false, false, false⟩] false rfl rfl rfl rfl)
  go_wp2_with fail
  refine K11.out.mono ?_
  rintro e w12 ⟨rfl, c12, hc, s⟩
  have s12 := Aside.mk (And.intro s (show c12 ≤ 5 from hc))
  clear s hc K11
  have K := Aside.mk (entered_c s12.out.1 0 b0 ⟨0, 2, 3, 3, 0, true, false, false⟩ rfl rfl)
  go_wp2_with fail
  refine K.out.mono ?_
  rintro e w' ⟨rfl, rfl⟩
  clear K
  have K12 := Aside.mk (step_d s12.out.1 1 b1 ⟨0, 2, 3, 3, 49, true, false, false⟩ rfl rfl 5 s12.out.2 (by decide) ⟨0, 2, 0, 3, 49, true, true, false⟩ 50 [⟨0, 2, 3, 3, 0, true, false, false⟩, ⟨0, 2, 0, 3, 49, true, true, false⟩, ⟨0, 2, 0, 0, 0, false, false, false⟩] true rfl rfl rfl rfl)
  go_wp2_with fail
  refine K12.out.mono ?_
  rintro e w13 ⟨rfl, c13, hc, s⟩
  have s13 := Aside.mk (And.intro s (show c13 ≤ 6 from hc))
  clear s hc K12
  have K := Aside.mk (entered_c s13.out.1 1 b1 ⟨0, 2, 0, 3, 49, true, true, false⟩ rfl rfl)
  go_wp2_with fail
  refine K.out.mono ?_
  rintro e w' ⟨rfl, rfl⟩
  clear K
  have K13 := Aside.mk (step_d s13.out.1 0 b0 ⟨0, 2, 3, 3, 0, true, false, false⟩ rfl rfl 6 s13.out.2 (by decide) ⟨0, 2, 0, 3, 0, true, true, false⟩ 50 [⟨0, 2, 0, 3, 0, true, true, false⟩, ⟨0, 2, 0, 3, 49, true, true, false⟩, ⟨0, 2, 0, 0, 0, false, false, false⟩] true rfl rfl rfl rfl)
  go_wp2_with fail
  refine K13.out.mono ?_
  rintro e w14 ⟨rfl, c14, hc, s⟩
  have s14 := Aside.mk (And.intro s (show c14 ≤ 7 from hc))
  clear s hc K13
  have K := Aside.mk (entered_c s14.out.1 0 b0 ⟨0, 2, 0, 3, 0, true, true, false⟩ rfl rfl)
  go_wp2_with fail
  refine K.out.mono ?_
  rintro e w' ⟨rfl, rfl⟩
  clear K
  have K14 := Aside.mk (load_d s14.out.1 7 s14.out.2 (by decide))
  go_wp2_with fail
  refine K14.out.mono ?_
  rintro e w15 ⟨rfl, c15, hc, s⟩
  have s15 := Aside.mk (And.intro s (show c15 ≤ 8 from hc))
  clear s hc K14
  have K15 := Aside.mk (begin_d s15.out.1 2 b2 ⟨0, 2, 0, 0, 0, false, false, false⟩ rfl rfl 2 ⟨0, 2, 1, 2, 0, false, false, false⟩ [⟨0, 2, 0, 3, 0, true, true, false⟩, ⟨0, 2, 0, 3, 49, true, true, false⟩, ⟨0, 2, 1, 2, 0, false, false, false⟩] 0 (by decide) (by decide) rfl rfl rfl)
  go_wp2_with fail
  refine K15.out.mono ?_
  rintro e w16 ⟨rfl, s⟩
  have s16 := Aside.mk (And.intro s s15.out.2)
  clear s K15
  have K16 := Aside.mk (step_d s16.out.1 2 b2 ⟨0, 2, 1, 2, 0, false, false, false⟩ rfl rfl 8 s16.out.2 (by decide) ⟨0, 2, 0, 2, 0, false, false, true⟩ 50 [⟨0, 2, 0, 3, 0, true, true, false⟩, ⟨0, 2, 0, 3, 49, true, true, false⟩, ⟨0, 2, 0, 2, 0, false, false, true⟩] true rfl rfl rfl rfl)
  go_wp2_with fail
  refine K16.out.mono ?_
  rintro e w17 ⟨rfl, c17, hc, s⟩
  have s17 := Aside.mk (And.intro s (show c17 ≤ 9 from hc))
  clear s hc K16
  have K := Aside.mk (missed_c s17.out.1 2 b2 ⟨0, 2, 0, 2, 0, false, false, true⟩ rfl rfl)
  go_wp2_with fail
  refine K.out.mono ?_
  rintro e w' ⟨rfl, rfl⟩
  clear K
  have K := Aside.mk (came_c s17.out.1 2 b2 ⟨0, 2, 0, 2, 0, false, false, true⟩ rfl rfl)
  go_wp2_with fail
  refine K.out.mono ?_
  rintro e w' ⟨rfl, rfl⟩
  clear K
  have K17 := Aside.mk (begin_d s17.out.1 0 b0 ⟨0, 2, 0, 3, 0, true, true, false⟩ rfl rfl 3 ⟨0, 2, 0, 3, 0, true, true, false⟩ [⟨0, 2, 0, 3, 0, true, true, false⟩, ⟨0, 2, 0, 3, 49, true, true, false⟩, ⟨0, 2, 0, 2, 0, false, false, true⟩] 241 (by decide) (by decide) rfl rfl rfl)
  go_wp2_with fail
  refine K17.out.mono ?_
  rintro e w18 ⟨rfl, s⟩
  have s18 := Aside.mk (And.intro s s17.out.2)
  clear s K17
  have K18 := Aside.mk (step_d s18.out.1 0 b0 ⟨0, 2, 0, 3, 0, true, true, false⟩ rfl rfl 9 s18.out.2 (by decide) ⟨0, 2, 0, 3, 0, true, true, false⟩ 50 [⟨0, 2, 0, 3, 0, true, true, false⟩, ⟨0, 2, 0, 3, 49, true, true, false⟩, ⟨0, 2, 0, 2, 0, false, false, true⟩] true rfl rfl rfl rfl)
  go_wp2_with fail
  refine K18.out.mono ?_
  rintro e w19 ⟨rfl, c19, hc, s⟩
  have s19 := Aside.mk (And.intro s (show c19 ≤ 10 from hc))
  clear s hc K18
  go_wp2_with fail
  go_ret
  exact ⟨ret_bool (by simp), s19.out.1.m.below⟩
end Go.Proofs.YtnidplpjkhepmaaDoor
