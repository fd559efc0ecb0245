/-
  LsaValid: the plain law.
-/
import Derived.Test.YtmknjjfdlkgidaaHLscGLsaValid
import Derived.Test.YtmknjjfdlkgidaaLsaJ
import Derived.Test.YtmknjjfdlkgidaaLsaK
import Derived.Test.YtmknjjfdlkgidaaHLscx6
import Derived.Test.YtmknjjfdlkgidaaHLscx14
namespace Go.Proofs.Ytmknjjfdlkgidaa.HLsc
open Go.RowKit Go.Proofs.YtmknjjfdlkgidaaW.PrintWords Go.Proofs.YtmknjjfdlkgidaaW.PrintLast Go.Proofs.YtmknjjfdlkgidaaW.PrintMore
open Go.Proofs.Ytmknjjfdlkgidaa.LM Go.Proofs.Ytmknjjfdlkgidaa.LS
set_option linter.unusedVariables false
theorem waypointlaw32_LsaValid.goal : waypointlaw32_LsaValid.Goal := by
  intro o s age ov ad pf hg
  have hG := g32_of hg
  refine ⟨100000000, ?_⟩
  obtain ⟨k, hk⟩ : ∃ k : Nat, k = 100000000 := ⟨_, rfl⟩
  rw [← hk]
  have hk' : 100000000 ≤ k := by omega
  clear hk
  unfold waypointlaw32_LsaValid.f waypointlaw32_awake.f
  simp only [Option.bind_some, if_true]
  rw [few_eq]
  simp only [Option.bind_some]
  by_cases hf : ad.length ≤ 300 ∧ pf.length ≤ 100
  · rw [decide_eq_true hf, if_pos rfl, encode_eq k o s age ov ad pf hG hk']
    have hz : lsa_Purge.f k o s age ov ad pf = some (if VL o s age ov ad pf then (o, s, 3600, false, [], [], 0) else (0, 0, 0, false, [], [], 1)) := by
      unfold lsa_Purge.f
      rw [valid_eq k o s age ov ad pf hG (by omega)]
      simp only [Option.bind_some]
      by_cases hv : VL o s age ov ad pf
      · rw [decide_eq_true hv, if_pos rfl, if_pos hv]
      · rw [decide_eq_false hv, if_neg (by simp), if_neg hv]
    rw [hz, valid_eq k o s age ov ad pf hG (by omega), rvalid_eq k o s age ov ad pf hG (by omega)]
    simp only [Option.bind_some]
    rw [if_neg (by simp)]
    by_cases hv : VL o s age ov ad pf
    · rw [decide_eq_true hv, if_pos rfl, if_pos hv, if_pos hv, rencode_eq k o s age ov ad pf hv hk']
      simp only [Option.bind_some, if_true]
      unfold waypointref32_Purge.f
      simp only [Option.bind_some]
      rw [requal_eq k o s 3600 false [] [] o s 3600 false [] [] (by simp) (by simp) (by omega)]
      simp only [Option.bind_some, decide_true, if_true]
      rw [valid_eq k o s 3600 false [] [] g32_nil (by omega), decide_eq_true (purge_valid hv)]
      rfl
    · rw [decide_eq_false hv, if_neg (by simp), if_neg hv, if_neg hv]
      simp only [if_true, List.length_nil]
      rw [requal_eq k 0 0 0 false [] [] 0 0 0 false [] [] (by simp) (by simp) (by omega)]
      simp
  · rw [decide_eq_false hf, if_neg (by simp)]
end Go.Proofs.Ytmknjjfdlkgidaa.HLsc
