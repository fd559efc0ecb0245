/-
  For every stage, timers and number of ticks, stages.Tick answers as the reference's Tick, or ErrArg where the stage is not valid.
-/
import Derived.Test.YtddklmefighilaaHStagesGStagesTicks
import Derived.Test.YtddklmefighilaaPur37C
namespace Go.Proofs.Ytddklmefighilaa.HStages
open Go.RowKit Go.Proofs.YtddklmefighilaaW.PrintWords Go.Proofs.YtddklmefighilaaW.PrintLast Go.Proofs.YtddklmefighilaaW.PrintMore
set_option linter.unusedVariables false
theorem waypointlaw37_StagesTicks.goal : waypointlaw37_StagesTicks.Goal := by
  intro s l g h n hs ht hn
  have hn := wf64 hn
  refine ⟨300020, ?_⟩
  unfold waypointlaw37_StagesTicks.f
  rw [awake_eq, rvalid_eq]
  simp only [Option.bind_some, if_true]
  by_cases hv : V s l g h
  · have e := tick_eq 300016 s l g h n hv hn.2
    rw [e, rtick_eq 300020 s l g h n hv hn.2 (by decide), decide_eq_true hv]
    simp only [Option.bind_some, if_true]
    rw [if_pos (by simp), same_refl _ (by have := T_len s l h (mx 0 n); omega) _ (by have := T_len s l h (mx 0 n); omega)]
    rfl
  · unfold stages_Tick.f
    rw [valid_eq, decide_eq_false hv]
    simp
end Go.Proofs.Ytddklmefighilaa.HStages
