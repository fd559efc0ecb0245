/-
  For every stage and timers, stages.Change and stages.Rest answer as the definition, or ErrArg where the stage is not valid.
-/
import Derived.Test.YtddklmefighilaaHStagesGStagesChange
import Derived.Test.YtddklmefighilaaPur37C
namespace Go.Proofs.Ytddklmefighilaa.HStages
open Go.RowKit Go.Proofs.YtddklmefighilaaW.PrintWords Go.Proofs.YtddklmefighilaaW.PrintLast Go.Proofs.YtddklmefighilaaW.PrintMore
set_option linter.unusedVariables false
theorem waypointlaw37_StagesChange.goal : waypointlaw37_StagesChange.Goal := by
  intro s l g h hs ht
  refine ⟨20, ?_⟩
  unfold waypointlaw37_StagesChange.f stages_Change.f stages_Rest.f
  rw [awake_eq 0, rvalid_eq, valid_eq 19]
  simp only [Option.bind_some, if_true]
  by_cases hv : V s l g h
  · rw [decide_eq_true hv]
    simp only [if_true]
    obtain ⟨⟨h1, h2, h3, h4⟩, hs'⟩ := hv
    rcases hs' with ⟨rfl, rfl⟩ | ⟨rfl, l1, l2⟩ | ⟨rfl, l1, l2⟩ <;> simp [waypointref37_Change.f]
  · rw [decide_eq_false hv]
    simp
end Go.Proofs.Ytddklmefighilaa.HStages
