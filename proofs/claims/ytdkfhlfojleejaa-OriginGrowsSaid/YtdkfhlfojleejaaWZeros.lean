-- TRIMMED by wip/trim.py, a program of this repository: the part of the print's words that this seat's texts use. Lean checks it.
import Derived.Test.YtdkfhlfojleejaaWApart
import Derived.Test.YtdkfhlfojleejaaWArr
namespace Go.Proofs.YtdkfhlfojleejaaW.PrintWords
open Go.RowKit
section
variable {P : Program}
end
namespace Kd
section
variable {P : Program} {ops : Array Oper} {rest : List Oper} {o : Oper} {a : Act} {Q : Exit → Act → World → Prop} {Kc : Act → World → Prop} {α : Type}
end
section
variable {α : Type} {d : Kd α} {e : Nat} {w : World} {base : Nat} {ok : Nat → Prop} {v : Value} {xs : List α}
end
section
variable {P : Program} {ops : Array Oper} {rest : List Oper} {o : Oper} {a : Act} {Q : Exit → Act → World → Prop} {Kc : Act → World → Prop} {α : Type}
end
end Kd
end Go.Proofs.YtdkfhlfojleejaaW.PrintWords
