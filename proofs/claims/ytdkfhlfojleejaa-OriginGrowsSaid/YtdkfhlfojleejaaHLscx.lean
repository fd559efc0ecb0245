-- LAID by wip/hand.py, a program of this repository, over the kit's print: contracts of our own are put in. Lean checks it.
import Derived.Test.YtdkfhlfojleejaaHLscx0
import Derived.Test.YtdkfhlfojleejaaHLscx1
import Derived.Test.YtdkfhlfojleejaaHLscx2
import Derived.Test.YtdkfhlfojleejaaHLscx3
import Derived.Test.YtdkfhlfojleejaaHLscx4
import Derived.Test.YtdkfhlfojleejaaHLscx5
import Derived.Test.YtdkfhlfojleejaaHLscx6
import Derived.Test.YtdkfhlfojleejaaHLscx7
import Derived.Test.YtdkfhlfojleejaaHLscx8
import Derived.Test.YtdkfhlfojleejaaHLscx9
import Derived.Test.YtdkfhlfojleejaaHLscx10
import Derived.Test.YtdkfhlfojleejaaHLscx11
namespace Go.Proofs.Ytdkfhlfojleejaa.HLsc
open Go.RowKit Go.Proofs.YtdkfhlfojleejaaW.PrintWords Go.Proofs.YtdkfhlfojleejaaW.PrintLast Go.Proofs.YtdkfhlfojleejaaW.PrintMore
attribute [local go_sem] gtr_str leq_str max2_int min2_int max_two min_two max_three min_three max_four min_four   -- for this text's walks alone
set_option linter.unusedVariables false
set_option linter.unusedSimpArgs false

end Go.Proofs.Ytdkfhlfojleejaa.HLsc
