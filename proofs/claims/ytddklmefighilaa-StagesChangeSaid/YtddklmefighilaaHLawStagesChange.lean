-- LAID by wip/hand.py, a program of this repository, over the kit's print: contracts of our own are put in. Lean checks it.
import Derived.Test.YtddklmefighilaaRows
import Derived.Test.YtddklmefighilaaHStagesGStagesChange
import Derived.Test.YtddklmefighilaaPureStagesChange
import Derived.WalkKit
import Derived.ProofKit
import Derived.OpenShut
import Derived.ShutString
import Derived.ChangeOld
import Derived.Below
import Derived.SizedLaws
namespace Go.Proofs.Ytddklmefighilaa.stagesChange
open Go.ChangeShapes Go.WideShapes Go.ChangeAt
open Go.ChangeMaps (open_string shut_string)
open Go.RowKit Go.Proofs.YtddklmefighilaaW.PrintWords Go.Proofs.YtddklmefighilaaW.PrintLast Go.Proofs.YtddklmefighilaaW.PrintMore
open Go.Proofs.Ytddklmefighilaa.HStages
set_option linter.unusedVariables false
theorem own : ownKnob Try.prog.godebug = none := by kernel_rfl
theorem laidOut : laidOutB Try.prog = true := by kernel_rfl
set_option maxRecDepth 100000 in
theorem lifted (os : Os) (started : os.Started) (H : Type) (enc : TypeId × Value → H) :
    ReturnsInHanded {} Try.checked os 9 .any (Rows.stagesChangeSpec.pre6 enc Try.prog Try.f9 Rows.stagesChangeRow.domain false) (Rows.stagesChangeSpec.post enc Try.prog Try.f9 false true false false) := by
  refine returnsInHanded_of_change_sized (C := Try.checked) own started (by kernel_rfl) Try.func9
    (ChangeSpec.witness6 (enc := enc) (C := Try.checked) false ⟨#[], #[.agg #[(.int .i64 0), (.int .i64 0)], .agg #[(.int .i64 0), (.int .i64 0)]], []⟩ 8 (by kernel_rfl) (by kernel_rfl) (by kernel_rfl) (by kernel_rfl)) ?_
  intro W base args ds gs before hval0 hW hcnd hsz0 _
  have hval : ∀ (j : Nat) t v, Try.f9.params[j]? = some t → args[j]? = some v → Value.okWide Try.prog W .any base t v := hval0
  have hW' := hW
  obtain ⟨p, q, hA0, hV, rfl, hfz, hnd⟩ := hW
  have hA : DataW.TrodAll enc Try.prog W 0 (fun _ => true) true Try.f9.params.toList args.toList ds p := hA0
  rw [Try.params9] at hA hval
  obtain ⟨v0, vs0, d0, ds0, p0, q0, hargs, rfl, rfl, h0, r0⟩ := trodAll_cons hA
  obtain ⟨v1, vs1, d1, ds1, p1, q1, rfl, rfl, rfl, h1, r1⟩ := trodAll_cons r0
  obtain ⟨rfl, rfl, rfl⟩ := trodAll_nil r1
  obtain rfl : args = #[v0, v1] := by cases args; simp_all
  obtain ⟨rfl, rfl⟩ := trodVars_none hV
  have lt0 : ∀ x ∈ p0, x.block < W.heap.size := by obtain ⟨m, hm⟩ := h0; exact DataW.trod_lt m _ _ _ hm
  obtain ⟨x0, k0, g0⟩ := Open.Opens.arg op26 h0
  obtain ⟨cs0, rfl⟩ := Open.agg_of_struct Try.underlying26 (hval 0 26 v0 rfl rfl)
  have e0 := k26_open k0
  obtain rfl : cs0 = #[.int .i64 x0.f0, .int .i64 x0.f1] := by apply Array.toList_inj.mp; exact e0
  have lt1 : ∀ x ∈ p1, x.block < W.heap.size := by obtain ⟨m, hm⟩ := h1; exact DataW.trod_lt m _ _ _ hm
  obtain ⟨x1, k1, g1⟩ := Open.Opens.arg op28 h1
  obtain ⟨cs1, rfl⟩ := Open.agg_of_struct Try.underlying28 (hval 1 28 v1 rfl rfl)
  have e1 := k28_open k1
  obtain rfl : cs1 = #[.int .i64 x1.f0, .int .i64 x1.f1] := by apply Array.toList_inj.mp; exact e1
  obtain ⟨k, hp⟩ := Go.Proofs.Ytddklmefighilaa.HStages.waypointlaw37_StagesChange.goal x0.f0 x0.f1 x1.f0 x1.f1 g0 g1
  refine (Go.Proofs.Ytddklmefighilaa.HStages.waypointlaw37_StagesChange.calls k x0.f0 x0.f1 x1.f0 x1.f1 true W  hp).mono ?_
  rintro e W' ⟨rfl, bel0⟩
  have bel : Below W.heap.size W W' := bel0
  exact ⟨_, rfl, _, _, _, [], _, [], hW', trodAll_mk1 (shut_bool Try.underlying4 _), (trodAll_cons_mk (Below.trod laidOut (by kernel_rfl) (of_decide_eq_true (by kernel_rfl)) h0 bel lt0) (trodAll_cons_mk (Below.trod laidOut (by kernel_rfl) (of_decide_eq_true (by kernel_rfl)) h1 bel lt1) trodAll_mk0)), rfl, bel.frame _, fun h => by cases h⟩
theorem over : Rows.stagesChangeRow.holds Try.pinned (OpenSpec.ofChange Rows.stagesChangeSpec) :=
  OpenClaim.holds_of_wide 9 Try.f9 rfl rfl rfl rfl rfl rfl rfl ⟨rfl, rfl, rfl, rfl, rfl⟩ rfl rfl rfl rfl rfl (by kernel_rfl) Try.func9 (by kernel_rfl)
    (of_decide_eq_true (by kernel_rfl)) (by unfold Func.isWrapper; first | (rw [if_pos (by decide +kernel)]; kernel_rfl) | (rw [if_neg (by decide +kernel)]; exact ⟨rfl, rfl⟩))
    (fun os started H enc _ => lifted os started H enc)
theorem proved : Rows.StagesChangeSaid := over
#print axioms proved
end Go.Proofs.Ytddklmefighilaa.stagesChange
namespace Go.Proofs.Ytddklmefighilaa
/-- The row, under a short name, for the claim. -/
theorem stagesChange_holds : Rows.StagesChangeSaid := stagesChange.proved
end Go.Proofs.Ytddklmefighilaa
