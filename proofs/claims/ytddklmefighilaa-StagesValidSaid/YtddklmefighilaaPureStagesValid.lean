/-
  For every stage and timers, stages.Valid answers as the definition; Effective and Start return the specified results.
-/
import Derived.Test.YtddklmefighilaaHStagesGStagesValid
import Derived.Test.YtddklmefighilaaPur37C
namespace Go.Proofs.Ytddklmefighilaa.HStages
open Go.RowKit Go.Proofs.YtddklmefighilaaW.PrintWords Go.Proofs.YtddklmefighilaaW.PrintLast Go.Proofs.YtddklmefighilaaW.PrintMore
set_option linter.unusedVariables false
theorem waypointlaw37_StagesValid.goal : waypointlaw37_StagesValid.Goal := by
  intro s l g h down hs ht _
  refine ⟨20, ?_⟩
  unfold waypointlaw37_StagesValid.f
  rw [awake_eq 0, rvalid_eq, valid_eq 19]
  simp only [Option.bind_some, if_true]
  rw [show (decide (V s l g h) != decide (V s l g h)) = false by simp]
  simp only [waypointlaw37_StagesValid.j0, Bool.false_eq_true, if_false, waypointlaw37_StagesValid.j1, stages_Effective.f, stages_Start.f]
  cases down <;> simp <;> by_cases c : s = 0 <;> simp [c]
end Go.Proofs.Ytddklmefighilaa.HStages
