-- LAID by wip/hand.py, a program of this repository, over the kit's print: contracts of our own are put in. Lean checks it.
import Derived.Test.YtmknjjfdlkgidaaHLscx13
import Derived.Test.YtmknjjfdlkgidaaHLsco
namespace Go.Proofs.Ytmknjjfdlkgidaa.HLsc
open Go.RowKit Go.Proofs.YtmknjjfdlkgidaaW.PrintWords Go.Proofs.YtmknjjfdlkgidaaW.PrintLast Go.Proofs.YtmknjjfdlkgidaaW.PrintMore
/-- The one plain statement that is left of the law. -/
def waypointlaw32_LsaSpoiled.Goal : Prop := ∀ (a0_0 : Int) (a0_1 : Int) (a0_2 : Int) (a0_3 : Bool) (l0_4 : List (S43)) (l0_5 : List (S56)) (a1 : Int) (a2 : Int), (good25 ((⟨a0_0, a0_1, a0_2, a0_3, l0_4, l0_5⟩ : S25))) → ((Lit.int .u16 a1).wf = true) → ((Lit.int .u8 a2).wf = true) → ∃ k, waypointlaw32_LsaSpoiled.f k a0_0 a0_1 a0_2 a0_3 l0_4 l0_5 a1 a2 = some true
end Go.Proofs.Ytmknjjfdlkgidaa.HLsc
