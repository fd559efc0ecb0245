/-
  For every valid stage and timers, n ticks and then m ticks are n + m ticks (n and m of 32 bits).
-/
import Derived.Test.YtddklmefighilaaHStagesGStagesAdd
import Derived.Test.YtddklmefighilaaPur37C
namespace Go.Proofs.Ytddklmefighilaa.HStages
open Go.RowKit Go.Proofs.YtddklmefighilaaW.PrintWords Go.Proofs.YtddklmefighilaaW.PrintLast Go.Proofs.YtddklmefighilaaW.PrintMore
set_option linter.unusedVariables false
theorem waypointlaw37_StagesAdd.goal : waypointlaw37_StagesAdd.Goal := by
  intro s l g h n m hs ht hnm
  obtain ⟨hn, hm⟩ := hnm
  have hn : 0 ≤ n ∧ n ≤ 4294967295 := wf32u hn
  have hm : 0 ≤ m ∧ m ≤ 4294967295 := wf32u hm
  refine ⟨300020, ?_⟩
  unfold waypointlaw37_StagesAdd.f
  rw [awake_eq, rvalid_eq]
  simp only [Option.bind_some, if_true]
  by_cases hv : V s l g h
  · rw [decide_eq_true hv, w64 (by omega) (by omega), w64 (by omega) (by omega), w64 (by omega) (by omega)]
    simp only [if_true]
    rw [tick_eq 300016 s l g h n hv (by omega), tick_eq 300016 s l g h (n + m) hv (by omega), mx_pos hn.1, mx_pos (by omega)]
    simp only [Option.bind_some]
    rw [tick_eq 300016 _ _ g h m (T_V hv hn.1) (by omega), mx_pos hm.1, T_add hv hn.1 hm.1]
    simp only [Option.bind_some, if_true]
    rw [if_pos (by simp)]
    have l1 := T_len s l h n
    have l2 := T_len (T s l h n).1 (T s l h n).2.1 h m
    rw [if_pos (by simp; omega)]
    rw [if_pos (by simp; omega)]
    rw [List.nil_append, same_refl _ (by simp; omega) _ (by simp; omega)]
    rfl
  · rw [decide_eq_false hv]
    simp
end Go.Proofs.Ytddklmefighilaa.HStages
