-- LAID by wip/hand.py, a program of this repository, over the kit's print: contracts of our own are put in. Lean checks it.
import Derived.Test.YtmknjjfdlkgidaaHLscx18
import Derived.Test.YtmknjjfdlkgidaaHLsco
namespace Go.Proofs.Ytmknjjfdlkgidaa.HLsc
open Go.RowKit Go.Proofs.YtmknjjfdlkgidaaW.PrintWords Go.Proofs.YtmknjjfdlkgidaaW.PrintLast Go.Proofs.YtmknjjfdlkgidaaW.PrintMore
/-- The one plain statement that is left of the law. -/
def waypointlaw32_LsaNewer.Goal : Prop := ∀ (a0_0 : Int) (a0_1 : Int) (a0_2 : Int) (a0_3 : Bool) (l0_4 : List (S43)) (l0_5 : List (S56)) (a1_0 : Int) (a1_1 : Int) (a1_2 : Int) (a1_3 : Bool) (l1_4 : List (S43)) (l1_5 : List (S56)), (good25 ((⟨a0_0, a0_1, a0_2, a0_3, l0_4, l0_5⟩ : S25))) → (good25 ((⟨a1_0, a1_1, a1_2, a1_3, l1_4, l1_5⟩ : S25))) → ∃ k, waypointlaw32_LsaNewer.f k a0_0 a0_1 a0_2 a0_3 l0_4 l0_5 a1_0 a1_1 a1_2 a1_3 l1_4 l1_5 = some true
end Go.Proofs.Ytmknjjfdlkgidaa.HLsc
