-- LAID by wip/hand.py, a program of this repository, over the kit's print: contracts of our own are put in. Lean checks it.
import Derived.Test.YtdkfhlfojleejaaHLscx0
import Derived.Test.YtdkfhlfojleejaaOpen
namespace Go.Proofs.Ytdkfhlfojleejaa.HLsc
open Go.RowKit Go.Proofs.YtdkfhlfojleejaaW.PrintWords Go.Proofs.YtdkfhlfojleejaaW.PrintLast Go.Proofs.YtdkfhlfojleejaaW.PrintMore
set_option linter.unusedVariables false
def good72 (x : S72) : Prop := (Lit.int .i64 x.f0).wf = true ∧ (Lit.int .i64 x.f1).wf = true ∧ (Lit.int .i64 x.f2).wf = true
theorem op72 : Open.Opens Try.prog 72 k72 good72 :=
  Open.Opens.struct (fun x : S72 => (x.f0, x.f1, x.f2)) (fun a => ⟨a.1, a.2.1, a.2.2⟩) (fun _ => rfl) Try.underlying72 (by kernel_rfl) (Open.OpensF.cons (Open.Opens.int Try.underlying3 (by kernel_rfl)) (Open.OpensF.cons (Open.Opens.int Try.underlying3 (by kernel_rfl)) (Open.OpensF.one (Open.Opens.int Try.underlying3 (by kernel_rfl)))))
def good76 (x : S76) : Prop := (Lit.int .u32 x.f0).wf = true ∧ (Lit.int .i64 x.f1).wf = true
theorem op76 : Open.Opens Try.prog 76 k76 good76 :=
  Open.Opens.struct (fun x : S76 => (x.f0, x.f1)) (fun a => ⟨a.1, a.2⟩) (fun _ => rfl) Try.underlying76 (by kernel_rfl) (Open.OpensF.cons (Open.Opens.int Try.underlying74 (by kernel_rfl)) (Open.OpensF.one (Open.Opens.int Try.underlying3 (by kernel_rfl))))
def good32 (x : S32) : Prop := (Lit.int .i64 x.f0).wf = true ∧ (Lit.int .i64 x.f1).wf = true ∧ (Lit.int .i64 x.f2).wf = true ∧ True ∧ (x.f4.length ≤ maxLen ∧ ∀ y_ ∈ x.f4, good72 y_) ∧ (x.f5.length ≤ maxLen ∧ ∀ y_ ∈ x.f5, good76 y_)
theorem op32 : Open.Opens Try.prog 32 k32 good32 :=
  Open.Opens.struct (fun x : S32 => (x.f0, x.f1, x.f2, x.f3, x.f4, x.f5)) (fun a => ⟨a.1, a.2.1, a.2.2.1, a.2.2.2.1, a.2.2.2.2.1, a.2.2.2.2.2⟩) (fun _ => rfl) Try.underlying32 (by kernel_rfl) (Open.OpensF.cons (Open.Opens.int Try.underlying3 (by kernel_rfl)) (Open.OpensF.cons (Open.Opens.int Try.underlying3 (by kernel_rfl)) (Open.OpensF.cons (Open.Opens.int Try.underlying3 (by kernel_rfl)) (Open.OpensF.cons (Open.Opens.bool Try.underlying4 (by kernel_rfl)) (Open.OpensF.cons (Open.Opens.slice Try.underlying29 (by kernel_rfl) op72) (Open.OpensF.one (Open.Opens.slice Try.underlying30 (by kernel_rfl) op76)))))))
def good38 (x : S38) : Prop := (Lit.int .i64 x.f0).wf = true ∧ (Lit.int .i64 x.f1).wf = true ∧ good32 (x.f2)
theorem op38 : Open.Opens Try.prog 38 k38 good38 :=
  Open.Opens.struct (fun x : S38 => (x.f0, x.f1, x.f2)) (fun a => ⟨a.1, a.2.1, a.2.2⟩) (fun _ => rfl) Try.underlying38 (by kernel_rfl) (Open.OpensF.cons (Open.Opens.int Try.underlying3 (by kernel_rfl)) (Open.OpensF.cons (Open.Opens.int Try.underlying3 (by kernel_rfl)) (Open.OpensF.one op32)))
end Go.Proofs.Ytdkfhlfojleejaa.HLsc
