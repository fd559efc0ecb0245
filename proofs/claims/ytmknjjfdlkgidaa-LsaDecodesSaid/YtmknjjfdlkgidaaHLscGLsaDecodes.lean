-- LAID by wip/hand.py, a program of this repository, over the kit's print: contracts of our own are put in. Lean checks it.
import Derived.Test.YtmknjjfdlkgidaaHLscx17
import Derived.Test.YtmknjjfdlkgidaaHLsco
namespace Go.Proofs.Ytmknjjfdlkgidaa.HLsc
open Go.RowKit Go.Proofs.YtmknjjfdlkgidaaW.PrintWords Go.Proofs.YtmknjjfdlkgidaaW.PrintLast Go.Proofs.YtmknjjfdlkgidaaW.PrintMore
/-- The one plain statement that is left of the law. -/
def waypointlaw32_LsaDecodes.Goal : Prop := ∀ (l0 : List Int), ((l0.length ≤ maxLen ∧ ∀ y_ ∈ l0, (Lit.int .u8 y_).wf = true)) → ∃ k, waypointlaw32_LsaDecodes.f k l0 = some true
end Go.Proofs.Ytmknjjfdlkgidaa.HLsc
