-- LAID by wip/hand.py, a program of this repository, over the kit's print: contracts of our own are put in. Lean checks it.
import Derived.Test.YtddklmefighilaaHStagesx0
import Derived.Test.YtddklmefighilaaHStagesx1
import Derived.Test.YtddklmefighilaaHStagesx2
import Derived.Test.YtddklmefighilaaHStagesx3
import Derived.Test.YtddklmefighilaaHStagesx4
import Derived.Test.YtddklmefighilaaHStagesx5
import Derived.Test.YtddklmefighilaaHStagesx6
import Derived.Test.YtddklmefighilaaHStagesx7
import Derived.Test.YtddklmefighilaaHStagesx8
namespace Go.Proofs.Ytddklmefighilaa.HStages
open Go.RowKit Go.Proofs.YtddklmefighilaaW.PrintWords Go.Proofs.YtddklmefighilaaW.PrintLast Go.Proofs.YtddklmefighilaaW.PrintMore
attribute [local go_sem] max2_int min2_int max_two min_two max_three min_three max_four min_four   -- for this text's walks alone
set_option linter.unusedVariables false
set_option linter.unusedSimpArgs false

end Go.Proofs.Ytddklmefighilaa.HStages
