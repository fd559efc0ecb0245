/-
  OriginWins: the plain law: the addresses of prefixes are numbers of thirty-two bits.
-/
import Derived.Test.YtdkfhlfojleejaaHLscGOriginWins
import Derived.Test.YtdkfhlfojleejaaLsaL
namespace Go.Proofs.Ytdkfhlfojleejaa.HLsc
open Go.RowKit Go.Proofs.YtdkfhlfojleejaaW.PrintWords Go.Proofs.YtdkfhlfojleejaaW.PrintLast Go.Proofs.YtdkfhlfojleejaaW.PrintMore
set_option linter.unusedVariables false
theorem waypointlaw36_OriginWins.goal : waypointlaw36_OriginWins.Goal := by
  intro a0 a1 a2 a3 a4 a5 b0 b1 b2 b3 b4 b5 ga gb
  refine ⟨0, ?_⟩
  unfold waypointlaw36_OriginWins.f
  rw [if_pos ⟨g32_of ga, g32_of gb⟩]
end Go.Proofs.Ytdkfhlfojleejaa.HLsc
