/-
  OriginNil: the plain law: there is nothing left to show.
-/
import Derived.Test.YtdkfhlfojleejaaHLscGOriginNil
namespace Go.Proofs.Ytdkfhlfojleejaa.HLsc
open Go.RowKit Go.Proofs.YtdkfhlfojleejaaW.PrintWords Go.Proofs.YtdkfhlfojleejaaW.PrintLast Go.Proofs.YtdkfhlfojleejaaW.PrintMore
set_option linter.unusedVariables false
theorem waypointlaw36_OriginNil.goal : waypointlaw36_OriginNil.Goal := fun _ _ _ _ _ _ _ _ _ => ⟨0, rfl⟩
end Go.Proofs.Ytdkfhlfojleejaa.HLsc
