-- LAID by wip/hand.py, a program of this repository, over the kit's print: contracts of our own are put in. Lean checks it.
import Derived.Test.YtddklmefighilaaHStagesx5
import Derived.Test.YtddklmefighilaaHStageso
namespace Go.Proofs.Ytddklmefighilaa.HStages
open Go.RowKit Go.Proofs.YtddklmefighilaaW.PrintWords Go.Proofs.YtddklmefighilaaW.PrintLast Go.Proofs.YtddklmefighilaaW.PrintMore
/-- The one plain statement that is left of the law. -/
def waypointlaw37_StagesTicks.Goal : Prop := ∀ (a0_0 : Int) (a0_1 : Int) (a1_0 : Int) (a1_1 : Int) (a2 : Int), (good26 ((⟨a0_0, a0_1⟩ : S26))) → (good28 ((⟨a1_0, a1_1⟩ : S28))) → ((Lit.int .i64 a2).wf = true) → ∃ k, waypointlaw37_StagesTicks.f k a0_0 a0_1 a1_0 a1_1 a2 = some true
end Go.Proofs.Ytddklmefighilaa.HStages
