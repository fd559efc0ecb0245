/-
  OriginRenews: the plain law: the ticks are numbers of sixteen bits.
-/
import Derived.Test.YtdkfhlfojleejaaHLscGOriginRenews
namespace Go.Proofs.Ytdkfhlfojleejaa.HLsc
open Go.RowKit Go.Proofs.YtdkfhlfojleejaaW.PrintWords Go.Proofs.YtdkfhlfojleejaaW.PrintLast Go.Proofs.YtdkfhlfojleejaaW.PrintMore
set_option linter.unusedVariables false
theorem waypointlaw36_OriginRenews.goal : waypointlaw36_OriginRenews.Goal := by
  intro l0 h
  refine ⟨0, ?_⟩
  unfold waypointlaw36_OriginRenews.f
  rw [if_pos]
  refine List.all_eq_true.2 fun x hx => ?_
  have h1 := h.2 x hx
  simp only [Lit.wf, Bool.and_eq_true, decide_eq_true_eq] at h1
  simp only [Bool.and_eq_true, decide_eq_true_eq]
  exact h1
end Go.Proofs.Ytdkfhlfojleejaa.HLsc
