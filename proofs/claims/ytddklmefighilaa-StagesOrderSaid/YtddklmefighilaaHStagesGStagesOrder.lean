-- LAID by wip/hand.py, a program of this repository, over the kit's print: contracts of our own are put in. Lean checks it.
import Derived.Test.YtddklmefighilaaHStagesx6
import Derived.Test.YtddklmefighilaaHStageso
namespace Go.Proofs.Ytddklmefighilaa.HStages
open Go.RowKit Go.Proofs.YtddklmefighilaaW.PrintWords Go.Proofs.YtddklmefighilaaW.PrintLast Go.Proofs.YtddklmefighilaaW.PrintMore
/-- The one plain statement that is left of the law. -/
def waypointlaw37_StagesOrder.Goal : Prop := ∀ (a0 : Int) (a1 : Int) (a2 : Int), ((Lit.int .u16 a0).wf = true) → ((Lit.int .u16 a1).wf = true) → ((Lit.int .u32 a2).wf = true) → ∃ k, waypointlaw37_StagesOrder.f k a0 a1 a2 = some true
end Go.Proofs.Ytddklmefighilaa.HStages
