-- TRIMMED by wip/trim.py, a program of this repository: the part of the print's words that this seat's texts use. Lean checks it.
import Derived.Test.YtmknjjfdlkgidaaWInv
import Derived.Test.YtmknjjfdlkgidaaWFootNe
namespace Go.Proofs.YtmknjjfdlkgidaaW.PrintWords
open Go.RowKit
end Go.Proofs.YtmknjjfdlkgidaaW.PrintWords
namespace Go.Proofs.YtmknjjfdlkgidaaW.PrintLast
section
variable {ops : Array Oper} {a : Act} {o og : Oper} {g : Nat} {t : Tmp} {u : Bool}
end
end Go.Proofs.YtmknjjfdlkgidaaW.PrintLast
