/-
  OriginGrows: the plain law: the addresses of prefixes are numbers of thirty-two bits, the node is one of eight.
-/
import Derived.Test.YtdkfhlfojleejaaHLscGOriginGrows
import Derived.Test.YtdkfhlfojleejaaLsaL
namespace Go.Proofs.Ytdkfhlfojleejaa.HLsc
open Go.RowKit Go.Proofs.YtdkfhlfojleejaaW.PrintWords Go.Proofs.YtdkfhlfojleejaaW.PrintLast Go.Proofs.YtdkfhlfojleejaaW.PrintMore
set_option linter.unusedVariables false
theorem waypointlaw36_OriginGrows.goal : waypointlaw36_OriginGrows.Goal := by
  intro a0 l1 h0 h1
  refine ⟨0, ?_⟩
  unfold waypointlaw36_OriginGrows.f
  rw [if_pos]
  refine ⟨?_, fun x hx => ?_⟩
  · simp only [Lit.wf, Bool.and_eq_true, decide_eq_true_eq] at h0
    exact h0
  · exact g32_of (o := x.f2.f0) (s := x.f2.f1) (age := x.f2.f2) (ov := x.f2.f3) (ad := x.f2.f4) (pf := x.f2.f5) (h1.2 x hx).2.2
end Go.Proofs.Ytdkfhlfojleejaa.HLsc
