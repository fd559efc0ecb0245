-- TRIMMED by wip/trim.py, a program of this repository: the part of the print's words that this seat's texts use. Lean checks it.
import Derived.Test.YtdkfhlfojleejaaWWords
namespace Go.Proofs.YtdkfhlfojleejaaW.PrintWords
open Go.RowKit
namespace Kd
section
variable {α : Type} {n : Nat} {d : Kd α} {hs : 0 < d.sz} {w : World} {base : Nat} {ok : Nat → Prop} {xs : List α} {cs : List Value}
end
section
variable {α : Type} {n : Nat} {enc : α → Value} {h1 : ∀ x, (enc x).oneCell' = true} {hs : 0 < (scalar enc h1).sz} {w : World} {base : Nat} {ok : Nat → Prop} {xs : List α} {cs : List Value}
end
end Kd
end Go.Proofs.YtdkfhlfojleejaaW.PrintWords
