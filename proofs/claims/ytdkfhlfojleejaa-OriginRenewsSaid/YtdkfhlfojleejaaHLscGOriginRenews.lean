-- LAID by wip/hand.py, a program of this repository, over the kit's print: contracts of our own are put in. Lean checks it.
import Derived.Test.YtdkfhlfojleejaaOrgRen
import Derived.Test.YtdkfhlfojleejaaHLsco
namespace Go.Proofs.Ytdkfhlfojleejaa.HLsc
open Go.RowKit Go.Proofs.YtdkfhlfojleejaaW.PrintWords Go.Proofs.YtdkfhlfojleejaaW.PrintLast Go.Proofs.YtdkfhlfojleejaaW.PrintMore
/-- The one plain statement that is left of the law. -/
def waypointlaw36_OriginRenews.Goal : Prop := ∀ (l0 : List Int), ((l0.length ≤ maxLen ∧ ∀ y_ ∈ l0, (Lit.int .u16 y_).wf = true)) → ∃ k, waypointlaw36_OriginRenews.f k l0 = some true
end Go.Proofs.Ytdkfhlfojleejaa.HLsc
