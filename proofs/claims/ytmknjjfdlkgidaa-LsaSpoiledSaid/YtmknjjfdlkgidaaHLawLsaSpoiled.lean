-- LAID by wip/hand.py, a program of this repository, over the kit's print: contracts of our own are put in. Lean checks it.
import Derived.Test.YtmknjjfdlkgidaaRows
import Derived.Test.YtmknjjfdlkgidaaHLscGLsaSpoiled
import Derived.Test.YtmknjjfdlkgidaaPureLsaSpoiled
import Derived.WalkKit
import Derived.ProofKit
import Derived.OpenShut
import Derived.ShutString
import Derived.ChangeOld
import Derived.Below
import Derived.SizedLaws
namespace Go.Proofs.Ytmknjjfdlkgidaa.lsaSpoiled
open Go.ChangeShapes Go.WideShapes Go.ChangeAt
open Go.ChangeMaps (open_string shut_string)
open Go.RowKit Go.Proofs.YtmknjjfdlkgidaaW.PrintWords Go.Proofs.YtmknjjfdlkgidaaW.PrintLast Go.Proofs.YtmknjjfdlkgidaaW.PrintMore
open Go.Proofs.Ytmknjjfdlkgidaa.HLsc
set_option linter.unusedVariables false
theorem own : ownKnob Try.prog.godebug = none := by kernel_rfl
theorem laidOut : laidOutB Try.prog = true := by kernel_rfl
set_option maxRecDepth 100000 in
theorem lifted (os : Os) (started : os.Started) (H : Type) (enc : TypeId × Value → H) :
    ReturnsInHanded {} Try.checked os 6 .any (Rows.lsaSpoiledSpec.pre6 enc Try.prog Try.f6 Rows.lsaSpoiledRow.domain false) (Rows.lsaSpoiledSpec.post enc Try.prog Try.f6 false true false false) := by
  refine returnsInHanded_of_change_sized (C := Try.checked) own started (by kernel_rfl) Try.func6
    (ChangeSpec.witness6 (enc := enc) (C := Try.checked) false ⟨#[], #[.agg #[(.int .i64 0), (.int .i64 0), (.int .i64 0), (.bool false), (.slice none 0 0), (.slice none 0 0)], .int .u16 0, .int .u8 0], []⟩ 8 (by kernel_rfl) (by kernel_rfl) (by kernel_rfl) (by kernel_rfl)) ?_
  intro W base args ds gs before hval0 hW hcnd hsz0 _
  have hval : ∀ (j : Nat) t v, Try.f6.params[j]? = some t → args[j]? = some v → Value.okWide Try.prog W .any base t v := hval0
  have hW' := hW
  obtain ⟨p, q, hA0, hV, rfl, hfz, hnd⟩ := hW
  have hA : DataW.TrodAll enc Try.prog W 0 (fun _ => true) true Try.f6.params.toList args.toList ds p := hA0
  rw [Try.params6] at hA hval
  obtain ⟨v0, vs0, d0, ds0, p0, q0, hargs, rfl, rfl, h0, r0⟩ := trodAll_cons hA
  obtain ⟨v1, vs1, d1, ds1, p1, q1, rfl, rfl, rfl, h1, r1⟩ := trodAll_cons r0
  obtain ⟨v2, vs2, d2, ds2, p2, q2, rfl, rfl, rfl, h2, r2⟩ := trodAll_cons r1
  obtain ⟨rfl, rfl, rfl⟩ := trodAll_nil r2
  obtain rfl : args = #[v0, v1, v2] := by cases args; simp_all
  obtain ⟨rfl, rfl⟩ := trodVars_none hV
  have lt0 : ∀ x ∈ p0, x.block < W.heap.size := by obtain ⟨m, hm⟩ := h0; exact DataW.trod_lt m _ _ _ hm
  obtain ⟨x0, k0, g0⟩ := Open.Opens.arg op25 h0
  obtain ⟨cs0, rfl⟩ := Open.agg_of_struct Try.underlying25 (hval 0 25 v0 rfl rfl)
  obtain ⟨A0_4, c0_4, A0_5, c0_5, e0, c0_4_, r0_4, c0_5_, r0_5⟩ := k25_open k0
  obtain rfl : cs0 = #[.int .i64 x0.f0, .int .i64 x0.f1, .int .i64 x0.f2, .bool x0.f3, .slice A0_4 x0.f4.length c0_4, .slice A0_5 x0.f5.length c0_5] := by apply Array.toList_inj.mp; exact e0
  have lt1 : ∀ x ∈ p1, x.block < W.heap.size := by obtain ⟨m, hm⟩ := h1; exact DataW.trod_lt m _ _ _ hm
  obtain ⟨x1, rfl, rfl, rfl, g1⟩ := open_int Try.underlying40 (hval 1 40 v1 rfl rfl) h1
  have lt2 : ∀ x ∈ p2, x.block < W.heap.size := by obtain ⟨m, hm⟩ := h2; exact DataW.trod_lt m _ _ _ hm
  obtain ⟨x2, rfl, rfl, rfl, g2⟩ := open_int Try.underlying5 (hval 2 5 v2 rfl rfl) h2
  obtain ⟨k, hp⟩ := Go.Proofs.Ytmknjjfdlkgidaa.HLsc.waypointlaw32_LsaSpoiled.goal x0.f0 x0.f1 x0.f2 x0.f3 x0.f4 x0.f5 x1 x2 g0 g1 g2
  refine (Go.Proofs.Ytmknjjfdlkgidaa.HLsc.waypointlaw32_LsaSpoiled.calls k x0.f0 x0.f1 x0.f2 x0.f3 A0_4 c0_4 x0.f4 A0_5 c0_5 x0.f5 x1 x2 true W r0_4 c0_4_ r0_5 c0_5_ hp).mono ?_
  rintro e W' ⟨rfl, bel0⟩
  have bel : Below W.heap.size W W' := bel0
  exact ⟨_, rfl, _, _, _, [], _, [], hW', trodAll_mk1 (shut_bool Try.underlying4 _), (trodAll_cons_mk (Below.trod laidOut (by kernel_rfl) (of_decide_eq_true (by kernel_rfl)) h0 bel lt0) (trodAll_cons_mk (Below.trod laidOut (by kernel_rfl) (of_decide_eq_true (by kernel_rfl)) h1 bel lt1) (trodAll_cons_mk (Below.trod laidOut (by kernel_rfl) (of_decide_eq_true (by kernel_rfl)) h2 bel lt2) trodAll_mk0))), rfl, bel.frame _, fun h => by cases h⟩
theorem over : Rows.lsaSpoiledRow.holds Try.pinned (OpenSpec.ofChange Rows.lsaSpoiledSpec) :=
  OpenClaim.holds_of_wide 6 Try.f6 rfl rfl rfl rfl rfl rfl rfl ⟨rfl, rfl, rfl, rfl, rfl⟩ rfl rfl rfl rfl rfl (by kernel_rfl) Try.func6 (by kernel_rfl)
    (of_decide_eq_true (by kernel_rfl)) (by unfold Func.isWrapper; first | (rw [if_pos (by decide +kernel)]; kernel_rfl) | (rw [if_neg (by decide +kernel)]; exact ⟨rfl, rfl⟩))
    (fun os started H enc _ => lifted os started H enc)
theorem proved : Rows.LsaSpoiledSaid := over
#print axioms proved
end Go.Proofs.Ytmknjjfdlkgidaa.lsaSpoiled
namespace Go.Proofs.Ytmknjjfdlkgidaa
/-- The row, under a short name, for the claim. -/
theorem lsaSpoiled_holds : Rows.LsaSpoiledSaid := lsaSpoiled.proved
end Go.Proofs.Ytmknjjfdlkgidaa
