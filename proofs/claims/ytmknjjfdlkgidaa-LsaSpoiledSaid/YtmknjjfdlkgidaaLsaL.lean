/-
  Chapter 32, plain: what a law is given: few rows, numbers of their kinds.
-/
import Derived.Test.YtmknjjfdlkgidaaLsaK
import Derived.Test.YtmknjjfdlkgidaaHLsco
import Derived.Test.YtmknjjfdlkgidaaHLscx10
namespace Go.Proofs.Ytmknjjfdlkgidaa.HLsc
open Go.RowKit Go.Proofs.YtmknjjfdlkgidaaW.PrintWords Go.Proofs.YtmknjjfdlkgidaaW.PrintLast Go.Proofs.YtmknjjfdlkgidaaW.PrintMore
open Go.Proofs.Ytmknjjfdlkgidaa.LM Go.Proofs.Ytmknjjfdlkgidaa.LS
set_option linter.unusedVariables false
theorem few_eq (o s age : Int) (ov : Bool) (ad : List AD) (pf : List PF) : waypointref32_Few.f o s age ov ad pf = some (decide (ad.length ≤ 300 ∧ pf.length ≤ 100)) := by
  unfold waypointref32_Few.f
  by_cases c : (ad.length : Int) ≤ 300
  · rw [if_pos c]
    congr 1
    refine decide_eq_decide.2 ?_
    omega
  · rw [if_neg c]
    congr 1
    exact (decide_eq_false (by omega)).symm
theorem g32_of {o s age : Int} {ov : Bool} {ad : List AD} {pf : List PF} (h : good25 ⟨o, s, age, ov, ad, pf⟩) : G32 pf := fun p hp => by
  have h1 : (Lit.int .u32 p.f0).wf = true := (h.2.2.2.2.2.2 p hp).1
  simp only [Lit.wf, Bool.and_eq_true, decide_eq_true_eq] at h1
  exact h1
end Go.Proofs.Ytmknjjfdlkgidaa.HLsc
