-- LAID by wip/hand.py, a program of this repository, over the kit's print: contracts of our own are put in. Lean checks it.
import Derived.Test.YtdkfhlfojleejaaOrgNil
import Derived.Test.YtdkfhlfojleejaaHLsco
namespace Go.Proofs.Ytdkfhlfojleejaa.HLsc
open Go.RowKit Go.Proofs.YtdkfhlfojleejaaW.PrintWords Go.Proofs.YtdkfhlfojleejaaW.PrintLast Go.Proofs.YtdkfhlfojleejaaW.PrintMore
/-- The one plain statement that is left of the law. -/
def waypointlaw36_OriginNil.Goal : Prop := ∀ (a0_0 : Int) (a0_1 : Int) (a0_2 : Int) (a0_3 : Bool) (l0_4 : List (S72)) (l0_5 : List (S76)) (a1 : Int), (good32 ((⟨a0_0, a0_1, a0_2, a0_3, l0_4, l0_5⟩ : S32))) → ((Lit.int .i64 a1).wf = true) → ∃ k, waypointlaw36_OriginNil.f k a0_0 a0_1 a0_2 a0_3 l0_4 l0_5 a1 = some true
end Go.Proofs.Ytdkfhlfojleejaa.HLsc
