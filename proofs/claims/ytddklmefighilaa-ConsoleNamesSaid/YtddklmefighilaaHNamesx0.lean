-- LAID by wip/hand.py, a program of this repository, over the kit's print: contracts of our own are put in. Lean checks it.
import Derived.Test.YtddklmefighilaaProg
import Derived.Below
import Derived.Deep.Draws
import Derived.Deep.AppendLies
import Derived.Maps.AppendAt
import Derived.OwnWalk
import Derived.Laws.BytesArg
import Derived.Laws.MakeOwn
import Derived.Laws.OwnMore
import Derived.Deep.OwnRows
import Derived.Tactics
import Derived.Lib.ConvBytes
import Derived.Laws.Slices
import Derived.WalkKit
import Derived.KernelRfl
import Derived.RowKit3
import Derived.Deep.LoopGhost
import Derived.Deep.QuietTactic
import Derived.BigQuiet
import Derived.WideLaws
import Derived.Deep.DeepCutAuto
import Derived.Deep.CutBlock
import Derived.Deep.RegionHeld3
import Derived.Laws.Rows
import Derived.Lib.AppendStr
import Derived.ArgAppend
import Derived.Laws.IdiomCopy
import Derived.OrdersHeld
import Derived.Laws.BitsLemmas
import Derived.RowKit
import Derived.Deep.RegionWith
import Derived.Lib.Hide
import Derived.Test.YtddklmefighilaaWWords
import Derived.Test.YtddklmefighilaaWLast
import Derived.Test.YtddklmefighilaaWTab
import Derived.Test.YtddklmefighilaaWFour
import Derived.Test.YtddklmefighilaaWQPut
import Derived.Test.YtddklmefighilaaWApart
import Derived.Test.YtddklmefighilaaWArr
import Derived.Test.YtddklmefighilaaWZeros
import Derived.Test.YtddklmefighilaaWFoot
import Derived.Test.YtddklmefighilaaWKept
import Derived.Test.YtddklmefighilaaWShare
import Derived.Test.YtddklmefighilaaWN
import Derived.Test.YtddklmefighilaaWFootNe
import Derived.Test.YtddklmefighilaaWAt
import Derived.Test.YtddklmefighilaaWEqStruct
import Derived.Test.YtddklmefighilaaWRepsOne
import Derived.Test.YtddklmefighilaaWInv
import Derived.Test.YtddklmefighilaaWInvWords
import Derived.Test.YtddklmefighilaaWGuard
import Derived.Test.YtddklmefighilaaWNEv
import Derived.Test.YtddklmefighilaaWMore
namespace Go.Proofs.Ytddklmefighilaa.HNames
open Go.RowKit Go.Proofs.YtddklmefighilaaW.PrintWords Go.Proofs.YtddklmefighilaaW.PrintLast Go.Proofs.YtddklmefighilaaW.PrintMore
attribute [local go_sem] max2_int min2_int max_two min_two max_three min_three max_four min_four   -- for this text's walks alone
set_option linter.unusedVariables false
set_option linter.unusedSimpArgs false



def errW : Option Int → Value
  | none => .nilIface
  | some c => .iface 0 (.int .i64 c)
theorem errW_none : errW none = .nilIface := rfl
theorem errW_some (c : Int) : errW (some c) = .iface 0 (.int .i64 c) := rfl

theorem info9 : (Try.prog.info? 9).map (fun i => (i.zero, i.size, i.bytes)) = some (some (.string ⟨#[]⟩), 1, 16) := by kernel_rfl
-- the values' own types

end Go.Proofs.Ytddklmefighilaa.HNames
