-- LAID by wip/hand.py, a program of this repository, over the kit's print: contracts of our own are put in. Lean checks it.
import Derived.Test.YtdkfhlfojleejaaOrgGro
import Derived.Test.YtdkfhlfojleejaaHLsco
namespace Go.Proofs.Ytdkfhlfojleejaa.HLsc
open Go.RowKit Go.Proofs.YtdkfhlfojleejaaW.PrintWords Go.Proofs.YtdkfhlfojleejaaW.PrintLast Go.Proofs.YtdkfhlfojleejaaW.PrintMore
/-- The one plain statement that is left of the law. -/
def waypointlaw36_OriginGrows.Goal : Prop := ∀ (a0 : Int) (l1 : List (S38)), ((Lit.int .u8 a0).wf = true) → ((l1.length ≤ maxLen ∧ ∀ y_ ∈ l1, good38 y_)) → ∃ k, waypointlaw36_OriginGrows.f k a0 l1 = some true
end Go.Proofs.Ytdkfhlfojleejaa.HLsc
