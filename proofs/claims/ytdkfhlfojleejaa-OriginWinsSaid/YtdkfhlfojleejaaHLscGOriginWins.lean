-- LAID by wip/hand.py, a program of this repository, over the kit's print: contracts of our own are put in. Lean checks it.
import Derived.Test.YtdkfhlfojleejaaOrgWin
import Derived.Test.YtdkfhlfojleejaaHLsco
namespace Go.Proofs.Ytdkfhlfojleejaa.HLsc
open Go.RowKit Go.Proofs.YtdkfhlfojleejaaW.PrintWords Go.Proofs.YtdkfhlfojleejaaW.PrintLast Go.Proofs.YtdkfhlfojleejaaW.PrintMore
/-- The one plain statement that is left of the law. -/
def waypointlaw36_OriginWins.Goal : Prop := ∀ (a0_0 : Int) (a0_1 : Int) (a0_2 : Int) (a0_3 : Bool) (l0_4 : List (S72)) (l0_5 : List (S76)) (a1_0 : Int) (a1_1 : Int) (a1_2 : Int) (a1_3 : Bool) (l1_4 : List (S72)) (l1_5 : List (S76)), (good32 ((⟨a0_0, a0_1, a0_2, a0_3, l0_4, l0_5⟩ : S32))) → (good32 ((⟨a1_0, a1_1, a1_2, a1_3, l1_4, l1_5⟩ : S32))) → ∃ k, waypointlaw36_OriginWins.f k a0_0 a0_1 a0_2 a0_3 l0_4 l0_5 a1_0 a1_1 a1_2 a1_3 l1_4 l1_5 = some true
end Go.Proofs.Ytdkfhlfojleejaa.HLsc
