/-
  Without further changes, a change leads through Old and Transition to Final, after Gather and Gather + Hold ticks.
-/
import Derived.Test.YtddklmefighilaaHStagesGStagesOrder
import Derived.Test.YtddklmefighilaaPur37C
namespace Go.Proofs.Ytddklmefighilaa.HStages
open Go.RowKit Go.Proofs.YtddklmefighilaaW.PrintWords Go.Proofs.YtddklmefighilaaW.PrintLast Go.Proofs.YtddklmefighilaaW.PrintMore
set_option linter.unusedVariables false
theorem waypointlaw37_StagesOrder.goal : waypointlaw37_StagesOrder.Goal := by
  intro g0 h0 n hg hh hn
  have hg := wf16u hg
  have hh := wf16u hh
  have hn := wf32u hn
  refine ⟨300020, ?_⟩
  unfold waypointlaw37_StagesOrder.f
  rw [awake_eq]
  rw [w64 (n := g0) (by omega) (by omega), w64 (n := h0) (by omega) (by omega), w64 (n := n) (by omega) (by omega), w64 (n := 1 + g0) (by omega) (by omega), w64 (n := 1 + h0) (by omega) (by omega)]
  generalize hgg : 1 + g0 = g
  generalize hhh : 1 + h0 = h
  have g1 : 1 ≤ g ∧ g ≤ 65536 := by omega
  have h1 : 1 ≤ h ∧ h ≤ 65536 := by omega
  have v3 : V 3 0 g h := ⟨⟨g1.1, g1.2, h1.1, h1.2⟩, .inl ⟨rfl, rfl⟩⟩
  have v0 : V 0 g g h := ⟨⟨g1.1, g1.2, h1.1, h1.2⟩, .inr (.inl ⟨rfl, g1.1, by omega⟩)⟩
  simp only [Option.bind_some, if_true, stages_Start.f]
  unfold stages_Change.f
  rw [valid_eq 300019, decide_eq_true v3]
  simp only [Option.bind_some, if_true]
  rw [tick_eq 300016 0 g g h n v0 (by omega), mx_pos hn.1]
  simp only [Option.bind_some, if_true]
  rw [valid_eq 300019, decide_eq_true v0, valid_eq 300019, decide_eq_true (T_V v0 hn.1)]
  simp only [Option.bind_some, if_true, Bool.not_true]
  simp only [waypointlaw37_StagesOrder.j0, Bool.false_eq_true, if_false]
  rw [w64 (n := n) (by omega) (by omega), w64 (n := g + h) (by omega) (by omega)]
  by_cases c : n < g
  · have e : T 0 g h n = (0, g - n, []) := by unfold T; rw [if_neg (by decide), if_pos c]
    rw [if_pos c, e, w64 (by omega) (by omega)]
    simp
  · rw [if_neg c]
    by_cases c2 : n < g + h
    · have e : T 0 g h n = (2, h - (n - g), [2]) := by unfold T; rw [if_neg (by decide), if_neg c, if_neg (by decide), if_pos (by omega)]
      rw [if_pos c2, e, w64 (by omega) (by omega)]
      rw [if_pos (by simp; omega), same_refl [2] (by decide) _ (by decide)]
      rfl
    · have e : T 0 g h n = (3, 0, [2, 3]) := by unfold T; rw [if_neg (by decide), if_neg c, if_neg (by decide), if_neg (by omega)]
      rw [if_neg c2, e]
      rw [if_pos (by decide), same_refl _ (by decide) _ (by decide)]
      rfl
end Go.Proofs.Ytddklmefighilaa.HStages
