-- TRIMMED by wip/trim.py, a program of this repository: the part of the print's words that this seat's texts use. Lean checks it.
import Derived.Test.YtdkfhlfojleejaaWInv
import Derived.Test.YtdkfhlfojleejaaWFootNe
namespace Go.Proofs.YtdkfhlfojleejaaW.PrintWords
open Go.RowKit
end Go.Proofs.YtdkfhlfojleejaaW.PrintWords
namespace Go.Proofs.YtdkfhlfojleejaaW.PrintLast
section
variable {ops : Array Oper} {a : Act} {o og : Oper} {g : Nat} {t : Tmp} {u : Bool}
end
end Go.Proofs.YtdkfhlfojleejaaW.PrintLast
