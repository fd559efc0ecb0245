/-
  LsaRoundTrip: the plain law.
-/
import Derived.Test.YtmknjjfdlkgidaaHLscGLsaRoundTrip
import Derived.Test.YtmknjjfdlkgidaaLsaD
import Derived.Test.YtmknjjfdlkgidaaLsaK
namespace Go.Proofs.Ytmknjjfdlkgidaa.HLsc
open Go.RowKit Go.Proofs.YtmknjjfdlkgidaaW.PrintWords Go.Proofs.YtmknjjfdlkgidaaW.PrintLast Go.Proofs.YtmknjjfdlkgidaaW.PrintMore
open Go.Proofs.Ytmknjjfdlkgidaa.LM Go.Proofs.Ytmknjjfdlkgidaa.LS
set_option linter.unusedVariables false
theorem valid_g32 {a : L} (h : Valid a) : G32 a.pf := fun p hp => (Row.mem h.pf hp).2.1
theorem round_j1 (k : Nat) (b : List Int) (hB : Bytes b) (hl : b.length ≤ 500) (hk : 100000001 ≤ k) : waypointlaw32_LsaRoundTrip.j1 k b = some true := by
  obtain ⟨k, rfl⟩ : ∃ j, k = j + 1 := ⟨k - 1, by omega⟩
  simp only [waypointlaw32_LsaRoundTrip.j1]
  rw [decode_eq k b hB (by omega) (by omega)]
  cases hd : dec b with
  | none =>
    simp only [Option.bind_some]
    rw [if_neg (by split <;> omega), requal_eq k 0 0 0 false [] [] 0 0 0 false [] [] (by simp) (by simp) (by omega)]
    simp
  | some a =>
    obtain ⟨hv, he⟩ := dec_some hd
    simp only [Option.bind_some, if_true]
    rw [encode_eq k a.o a.s a.age a.ov a.ad a.pf (valid_g32 hv) (by omega), if_pos (show VL a.o a.s a.age a.ov a.ad a.pf from hv)]
    simp only [Option.bind_some, if_true]
    rw [if_pos (by rw [show (⟨a.o, a.s, a.age, a.ov, a.ad, a.pf⟩ : L) = a from rfl, he]), valid_eq k a.o a.s a.age a.ov a.ad a.pf (valid_g32 hv) (by omega), decide_eq_true (show VL a.o a.s a.age a.ov a.ad a.pf from hv)]
    rfl
theorem waypointlaw32_LsaRoundTrip.goal : waypointlaw32_LsaRoundTrip.Goal := by
  intro a0 a1 a2 a3 a4 a5 b ga gb
  have Ga := g32_of ga
  have hB : Bytes b := fun x hx => by
    have h1 := gb.2 x hx
    simp only [Lit.wf, Bool.and_eq_true, decide_eq_true_eq] at h1
    exact h1
  refine ⟨200000002, ?_⟩
  obtain ⟨k, hk⟩ : ∃ k : Nat, k = 200000000 := ⟨_, rfl⟩
  rw [show (200000002 : Nat) = k + 2 by omega]
  have hk' : 200000000 ≤ k := by omega
  clear hk
  have jt : waypointlaw32_LsaRoundTrip.j0 (k + 2) b true a0 a1 a2 a3 a4 a5 = some true := by simp only [waypointlaw32_LsaRoundTrip.j0, if_true]
  unfold waypointlaw32_LsaRoundTrip.f waypointlaw32_awake.f
  simp only [Option.bind_some, if_true, few_eq]
  refine ite_both (fun f1 => ?_) (fun _ => jt)
  have f1' := of_decide_eq_true f1
  by_cases hl : (b.length : Int) > 500
  · rw [decide_eq_true hl]; exact jt
  · rw [decide_eq_false hl]
    have j1 := round_j1 (k + 1) b hB (by omega) (by omega)
    simp only [waypointlaw32_LsaRoundTrip.j0, Bool.false_eq_true, if_false]
    rw [encode_eq (k + 1) a0 a1 a2 a3 a4 a5 Ga (by omega)]
    simp only [Option.bind_some]
    by_cases hv : VL a0 a1 a2 a3 a4 a5
    · rw [if_pos hv]
      simp only [if_true]
      have hel := enc_len ⟨a0, a1, a2, a3, a4, a5⟩
      have h4 : a4.length ≤ 256 := hv.nad
      have h5 : a5.length ≤ 64 := hv.npf
      simp only at hel
      rw [decode_eq (k + 1) (enc ⟨a0, a1, a2, a3, a4, a5⟩) (enc_bytes _) (by omega) (by omega), dec_enc hv]
      simp only [Option.bind_some, if_true]
      rw [requal_eq (k + 1) a0 a1 a2 a3 a4 a5 a0 a1 a2 a3 a4 a5 (by omega) (by omega) (by omega)]
      simp only [Option.bind_some, decide_true, if_true]
      exact j1
    · rw [if_neg hv]
      simp only
      rw [if_neg (by omega)]
      exact j1
end Go.Proofs.Ytmknjjfdlkgidaa.HLsc
