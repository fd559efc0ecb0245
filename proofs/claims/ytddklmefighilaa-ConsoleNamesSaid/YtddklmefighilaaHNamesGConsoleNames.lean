-- LAID by wip/hand.py, a program of this repository, over the kit's print: contracts of our own are put in. Lean checks it.
import Derived.Test.YtddklmefighilaaHNamesx1
import Derived.Test.YtddklmefighilaaHNameso
namespace Go.Proofs.Ytddklmefighilaa.HNames
open Go.RowKit Go.Proofs.YtddklmefighilaaW.PrintWords Go.Proofs.YtddklmefighilaaW.PrintLast Go.Proofs.YtddklmefighilaaW.PrintMore
/-- The one plain statement that is left of the law. -/
def waypointlaw58_ConsoleNames.Goal : Prop := ∀ (a0 : Int), ((Lit.int .i64 a0).wf = true) → waypointlaw58_ConsoleNames.f a0 = some true
end Go.Proofs.Ytddklmefighilaa.HNames
