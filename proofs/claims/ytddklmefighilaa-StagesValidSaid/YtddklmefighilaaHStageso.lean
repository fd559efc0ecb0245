-- LAID by wip/hand.py, a program of this repository, over the kit's print: contracts of our own are put in. Lean checks it.
import Derived.Test.YtddklmefighilaaHStagesx0
import Derived.Test.YtddklmefighilaaOpen
namespace Go.Proofs.Ytddklmefighilaa.HStages
open Go.RowKit Go.Proofs.YtddklmefighilaaW.PrintWords Go.Proofs.YtddklmefighilaaW.PrintLast Go.Proofs.YtddklmefighilaaW.PrintMore
set_option linter.unusedVariables false
def good26 (x : S26) : Prop := (Lit.int .i64 x.f0).wf = true ∧ (Lit.int .i64 x.f1).wf = true
theorem op26 : Open.Opens Try.prog 26 k26 good26 :=
  Open.Opens.struct (fun x : S26 => (x.f0, x.f1)) (fun a => ⟨a.1, a.2⟩) (fun _ => rfl) Try.underlying26 (by kernel_rfl) (Open.OpensF.cons (Open.Opens.int Try.underlying3 (by kernel_rfl)) (Open.OpensF.one (Open.Opens.int Try.underlying3 (by kernel_rfl))))
def good28 (x : S28) : Prop := (Lit.int .i64 x.f0).wf = true ∧ (Lit.int .i64 x.f1).wf = true
theorem op28 : Open.Opens Try.prog 28 k28 good28 :=
  Open.Opens.struct (fun x : S28 => (x.f0, x.f1)) (fun a => ⟨a.1, a.2⟩) (fun _ => rfl) Try.underlying28 (by kernel_rfl) (Open.OpensF.cons (Open.Opens.int Try.underlying3 (by kernel_rfl)) (Open.OpensF.one (Open.Opens.int Try.underlying3 (by kernel_rfl))))
def good47 (x : S47) : Prop := (Lit.int .u32 x.f0).wf = true ∧ (Lit.int .u32 x.f1).wf = true
theorem op47 : Open.Opens Try.prog 47 k47 good47 :=
  Open.Opens.array (c := 1) (by kernel_rfl) (fun x : S47 => (x.f0, x.f1)) (fun a => ⟨a.1, a.2⟩) (fun _ => rfl) Try.underlying47 (by kernel_rfl) (Open.OpensF.cons (Open.Opens.int Try.underlying41 (by kernel_rfl)) (Open.OpensF.one (Open.Opens.int Try.underlying41 (by kernel_rfl))))
end Go.Proofs.Ytddklmefighilaa.HStages
