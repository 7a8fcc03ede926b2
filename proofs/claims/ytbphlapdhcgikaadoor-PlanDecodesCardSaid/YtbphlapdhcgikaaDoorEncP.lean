/- A plan's bytes, and why a plan has none. Plain: no function of the program is named here. -/
import Derived.Test.YtbphlapdhcgikaaDoorPlanP
namespace Go.Proofs.YtbphlapdhcgikaaDoor
set_option linter.unusedVariables false
set_option linter.unusedSimpArgs false

def twoB (n : Int) : List Int := [n / 256, n % 256]
def winB (x : Win) : List Int := [Win.s x / 256, Win.s x % 256, Win.l x / 256, Win.l x % 256, Win.p x, Win.g x]
def coreB (L : List Win) : List Int := twoB (L.length : Int) ++ L.flatMap winB
def semB (x : SemR) : List Int := [SemR.i x, SemR.m x]
def partB (x : PartR) : List Int := [((PartR.sems x).length : Int)] ++ (PartR.sems x).flatMap semB ++ [PartR.events x, ((PartR.procs x).length : Int)] ++ PartR.procs x ++ [(PartR.acts x).getD 0 0, (PartR.acts x).getD 1 0, (PartR.acts x).getD 2 0]
def chanB (c : ChanR) : List Int := [ChanR.k c, ChanR.f c, ChanR.t c, ChanR.z c, ChanR.d c, ChanR.y c / 256, ChanR.y c % 256]
def pairB (x : PairR) : List Int := [PairR.a x, PairR.b x]
def hdrB (P : Plan) : List Int := [80, 85, 82, 49] ++ twoB (Plan.frame P) ++ [((Plan.cores P).length : Int), ((Plan.parts P).length : Int), ((Plan.chans P).length : Int), ((Plan.pairs P).length : Int)]
def encL (P : Plan) : List Int := hdrB P ++ (Plan.cores P).flatMap coreB ++ (Plan.parts P).flatMap partB ++ (Plan.chans P).flatMap chanB ++ (Plan.pairs P).flatMap pairB
def cntF (n most : Nat) (at_ : Int) : Option Flt := if most < n then some (31, at_) else none
def coresF (C : List (List Win)) : Option Flt := scan (fun i => cntF (C.getD i []).length 65535 4) C.length
def partsF (A : List PartR) : Option Flt := scan (fun i => orElseF (cntF (PartR.sems (ptAt A i)).length 255 5) (cntF (PartR.procs (ptAt A i)).length 255 6)) A.length
/-- Why a plan has no bytes: its number and place; none: it has. -/
def whyF (P : Plan) : Option Flt :=
  orElseF (cntF (Plan.cores P).length 255 0) (orElseF (cntF (Plan.parts P).length 255 1) (orElseF (cntF (Plan.chans P).length 255 2) (orElseF (cntF (Plan.pairs P).length 255 3) (orElseF (coresF (Plan.cores P)) (partsF (Plan.parts P))))))
theorem orElse_nn {a b : Option Flt} (h : orElseF a b = none) : a = none ∧ b = none := by
  cases a with
  | none => exact ⟨rfl, h⟩
  | some x => cases h
theorem cnt_none {n most : Nat} {a : Int} (h : cntF n most a = none) : n ≤ most := by
  unfold cntF at h
  split at h
  · cases h
  · omega
/-- A plan that has bytes is not too long. -/
structure Short (P : Plan) : Prop where
  c : (Plan.cores P).length ≤ 255
  a : (Plan.parts P).length ≤ 255
  h : (Plan.chans P).length ≤ 255
  q : (Plan.pairs P).length ≤ 255
  cs : ∀ L ∈ Plan.cores P, L.length ≤ 65535
  ss : ∀ x ∈ Plan.parts P, (PartR.sems x).length ≤ 255
  ps : ∀ x ∈ Plan.parts P, (PartR.procs x).length ≤ 255
theorem short_of {P : Plan} (h : whyF P = none) : Short P := by
  obtain ⟨h1, h⟩ := orElse_nn h
  obtain ⟨h2, h⟩ := orElse_nn h
  obtain ⟨h3, h⟩ := orElse_nn h
  obtain ⟨h4, h⟩ := orElse_nn h
  obtain ⟨h5, h6⟩ := orElse_nn h
  refine ⟨cnt_none h1, cnt_none h2, cnt_none h3, cnt_none h4, fun L hL => ?_, fun x hx => ?_, fun x hx => ?_⟩
  · obtain ⟨i, hi, rfl⟩ := List.getElem_of_mem hL
    have := cnt_none (scan_none h5 i hi)
    rw [List.getD_eq_getElem?_getD, List.getElem?_eq_getElem hi] at this
    exact this
  · obtain ⟨i, hi, rfl⟩ := List.getElem_of_mem hx
    have := cnt_none (orElse_nn (scan_none h6 i hi)).1
    rw [ptAt_some (List.getElem?_eq_getElem hi)] at this
    exact this
  · obtain ⟨i, hi, rfl⟩ := List.getElem_of_mem hx
    have := cnt_none (orElse_nn (scan_none h6 i hi)).2
    rw [ptAt_some (List.getElem?_eq_getElem hi)] at this
    exact this
end Go.Proofs.YtbphlapdhcgikaaDoor
