-- LAID by wip/hand.py, a program of this repository, over the kit's print: contracts of our own are put in. Lean checks it.
import Derived.Test.YtddklmefighilaaHNamesx0
import Derived.Test.YtddklmefighilaaOpen
namespace Go.Proofs.Ytddklmefighilaa.HNames
open Go.RowKit Go.Proofs.YtddklmefighilaaW.PrintWords Go.Proofs.YtddklmefighilaaW.PrintLast Go.Proofs.YtddklmefighilaaW.PrintMore
set_option linter.unusedVariables false
end Go.Proofs.Ytddklmefighilaa.HNames
