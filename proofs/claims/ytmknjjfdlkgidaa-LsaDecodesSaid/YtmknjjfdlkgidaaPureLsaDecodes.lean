/-
  LsaDecodes: the plain law.
-/
import Derived.Test.YtmknjjfdlkgidaaHLscGLsaDecodes
import Derived.Test.YtmknjjfdlkgidaaLsaE
import Derived.Test.YtmknjjfdlkgidaaLsaK
namespace Go.Proofs.Ytmknjjfdlkgidaa.HLsc
open Go.RowKit Go.Proofs.YtmknjjfdlkgidaaW.PrintWords Go.Proofs.YtmknjjfdlkgidaaW.PrintLast Go.Proofs.YtmknjjfdlkgidaaW.PrintMore
open Go.Proofs.Ytmknjjfdlkgidaa.LM Go.Proofs.Ytmknjjfdlkgidaa.LS
set_option linter.unusedVariables false
theorem waypointlaw32_LsaDecodes.goal : waypointlaw32_LsaDecodes.Goal := by
  intro b gb
  have hB : Bytes b := fun x hx => by
    have h1 := gb.2 x hx
    simp only [Lit.wf, Bool.and_eq_true, decide_eq_true_eq] at h1
    exact h1
  refine ⟨200000002, ?_⟩
  obtain ⟨k, hk⟩ : ∃ k : Nat, k = 200000002 := ⟨_, rfl⟩
  rw [← hk]
  have hk' : 200000000 ≤ k := by omega
  clear hk
  unfold waypointlaw32_LsaDecodes.f waypointlaw32_awake.f
  simp only [Option.bind_some, if_true]
  by_cases hl : (b.length : Int) > 500
  · rw [if_pos hl]
  · rw [if_neg hl, decode_eq k b hB (by omega) (by omega), rdecode_eq k b hB (by omega) (by omega)]
    simp only [Option.bind_some]
    cases hd : dec b with
    | none =>
      simp only [if_true]
      rw [requal_eq k 0 0 0 false [] [] 0 0 0 false [] [] (by simp) (by simp) (by omega)]
      simp
    | some a =>
      obtain ⟨hv, he⟩ := dec_some hd
      have h4 : a.ad.length ≤ 256 := hv.nad
      have h5 : a.pf.length ≤ 64 := hv.npf
      simp only [if_true]
      rw [requal_eq k a.o a.s a.age a.ov a.ad a.pf a.o a.s a.age a.ov a.ad a.pf (by omega) (by omega) (by omega)]
      simp
end Go.Proofs.Ytmknjjfdlkgidaa.HLsc
