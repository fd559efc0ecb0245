-- LAID by wip/hand.py, a program of this repository, over the kit's print: contracts of our own are put in. Lean checks it.
import Derived.Test.YtmknjjfdlkgidaaHLscx0
import Derived.Test.YtmknjjfdlkgidaaOpen
namespace Go.Proofs.Ytmknjjfdlkgidaa.HLsc
open Go.RowKit Go.Proofs.YtmknjjfdlkgidaaW.PrintWords Go.Proofs.YtmknjjfdlkgidaaW.PrintLast Go.Proofs.YtmknjjfdlkgidaaW.PrintMore
set_option linter.unusedVariables false
def good43 (x : S43) : Prop := (Lit.int .i64 x.f0).wf = true ∧ (Lit.int .i64 x.f1).wf = true ∧ (Lit.int .i64 x.f2).wf = true
theorem op43 : Open.Opens Try.prog 43 k43 good43 :=
  Open.Opens.struct (fun x : S43 => (x.f0, x.f1, x.f2)) (fun a => ⟨a.1, a.2.1, a.2.2⟩) (fun _ => rfl) Try.underlying43 (by kernel_rfl) (Open.OpensF.cons (Open.Opens.int Try.underlying3 (by kernel_rfl)) (Open.OpensF.cons (Open.Opens.int Try.underlying3 (by kernel_rfl)) (Open.OpensF.one (Open.Opens.int Try.underlying3 (by kernel_rfl)))))
def good56 (x : S56) : Prop := (Lit.int .u32 x.f0).wf = true ∧ (Lit.int .i64 x.f1).wf = true
theorem op56 : Open.Opens Try.prog 56 k56 good56 :=
  Open.Opens.struct (fun x : S56 => (x.f0, x.f1)) (fun a => ⟨a.1, a.2⟩) (fun _ => rfl) Try.underlying56 (by kernel_rfl) (Open.OpensF.cons (Open.Opens.int Try.underlying54 (by kernel_rfl)) (Open.OpensF.one (Open.Opens.int Try.underlying3 (by kernel_rfl))))
def good25 (x : S25) : Prop := (Lit.int .i64 x.f0).wf = true ∧ (Lit.int .i64 x.f1).wf = true ∧ (Lit.int .i64 x.f2).wf = true ∧ True ∧ (x.f4.length ≤ maxLen ∧ ∀ y_ ∈ x.f4, good43 y_) ∧ (x.f5.length ≤ maxLen ∧ ∀ y_ ∈ x.f5, good56 y_)
theorem op25 : Open.Opens Try.prog 25 k25 good25 :=
  Open.Opens.struct (fun x : S25 => (x.f0, x.f1, x.f2, x.f3, x.f4, x.f5)) (fun a => ⟨a.1, a.2.1, a.2.2.1, a.2.2.2.1, a.2.2.2.2.1, a.2.2.2.2.2⟩) (fun _ => rfl) Try.underlying25 (by kernel_rfl) (Open.OpensF.cons (Open.Opens.int Try.underlying3 (by kernel_rfl)) (Open.OpensF.cons (Open.Opens.int Try.underlying3 (by kernel_rfl)) (Open.OpensF.cons (Open.Opens.int Try.underlying3 (by kernel_rfl)) (Open.OpensF.cons (Open.Opens.bool Try.underlying4 (by kernel_rfl)) (Open.OpensF.cons (Open.Opens.slice Try.underlying22 (by kernel_rfl) op43) (Open.OpensF.one (Open.Opens.slice Try.underlying23 (by kernel_rfl) op56)))))))
end Go.Proofs.Ytmknjjfdlkgidaa.HLsc
