-- TRIMMED by wip/trim.py, a program of this repository: the part of the print's words that this seat's texts use. Lean checks it.
import Derived.Test.YtdkfhlfojleejaaWTab
namespace Go.Proofs.YtdkfhlfojleejaaW.PrintLast
def up (b : Nat → Bool) (i : Nat) : Nat → Bool := fun j => if j = i then true else b j
section
variable {P : Program} {ops : Array Oper} {Q : Exit → Act → World → Prop} {md : Region.Mode} {T : Bool × List (List Nat × List Nat)} {B : List Nat} {O : List Nat} {b : Nat → Bool} {i j n : Nat}
end
end Go.Proofs.YtdkfhlfojleejaaW.PrintLast
