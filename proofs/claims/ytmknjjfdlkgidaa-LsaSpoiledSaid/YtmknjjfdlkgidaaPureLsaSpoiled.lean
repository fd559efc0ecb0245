/-
  LsaSpoiled: the plain law.
-/
import Derived.Test.YtmknjjfdlkgidaaHLscGLsaSpoiled
import Derived.Test.YtmknjjfdlkgidaaLsaL
import Derived.Test.YtmknjjfdlkgidaaLsaD
namespace Go.Proofs.Ytmknjjfdlkgidaa.HLsc
open Go.RowKit Go.Proofs.YtmknjjfdlkgidaaW.PrintWords Go.Proofs.YtmknjjfdlkgidaaW.PrintLast Go.Proofs.YtmknjjfdlkgidaaW.PrintMore
open Go.Proofs.Ytmknjjfdlkgidaa.LM Go.Proofs.Ytmknjjfdlkgidaa.LS
set_option linter.unusedVariables false
theorem bytes_set {b : List Int} (hB : Bytes b) {n : Nat} {v : Int} (h : 0 ≤ v ∧ v ≤ 255) : Bytes (b.set n v) := fun x hx => by
  rcases List.mem_or_eq_of_mem_set hx with hx | rfl
  · exact hB x hx
  · exact h
theorem sp_main (k : Nat) (a : L) (hv : Valid a) (m to_ : Int) (h0 : 0 ≤ m) (h1 : m < (enc a).length) (ht : 0 ≤ to_ ∧ to_ ≤ 255) (hk : 100000000 ≤ k) :
    ((lsa_Decode.f k ((enc a).take m.toNat)).bind fun q1 => (lsa_Decode.f k ((enc a).set m.toNat to_)).bind fun q2 =>
      if q1.2.2.2.2.2.2 = 0 then none else
      if (rd (enc a) m = 0 ∧ to_ = 255) ∨ (rd (enc a) m = 255 ∧ to_ = 0) then some true else
      if (q2.2.2.2.2.2.2 = 0 ↔ rd (enc a) m = to_) then some true else none) = some true := by
  have hB := enc_bytes a
  have hlen := enc_len a
  have h4 : a.ad.length ≤ 256 := hv.nad
  have h5 : a.pf.length ≤ 64 := hv.npf
  have hm : m.toNat < (enc a).length := by omega
  rw [decode_eq k _ (hB.take _) (by rw [List.length_take]; omega) hk, dec_cut hv hm, decode_eq k _ (bytes_set hB ht) (by rw [List.length_set]; omega) hk]
  simp only [Option.bind_some]
  rw [if_neg (by split <;> omega)]
  have hx : (enc a)[m.toNat]? = some (rd (enc a) m) := by
    simp [rd, List.getD_eq_getElem?_getD, List.getElem?_eq_getElem hm]
  have hxb : 0 ≤ rd (enc a) m ∧ rd (enc a) m ≤ 255 := hB _ (List.mem_of_getElem? hx)
  generalize rd (enc a) m = x at hx hxb
  by_cases c : (x = 0 ∧ to_ = 255) ∨ (x = 255 ∧ to_ = 0)
  · rw [if_pos c]
  · rw [if_neg c]
    by_cases e : x = to_
    · subst e
      have hs : (enc a).set m.toNat x = enc a := by
        obtain ⟨hl, he⟩ := List.getElem?_eq_some_iff.1 hx
        rw [← he]
        exact List.set_getElem_self hl
      rw [hs, dec_enc hv]
      simp
    · have hsp := spoiled (enc_sums a) hx hxb ht e (fun h => c (.inl h)) (fun h => c (.inr h))
      have hd : dec ((enc a).set m.toNat to_) = none := by
        cases hd : dec ((enc a).set m.toNat to_) with
        | none => rfl
        | some a' => exact absurd (dec_sums hd) hsp
      rw [hd]
      simp only
      rw [if_neg hsp, if_pos ⟨fun h => by omega, fun h => absurd h e⟩]
theorem waypointlaw32_LsaSpoiled.goal : waypointlaw32_LsaSpoiled.Goal := by
  intro a0 a1 a2 a3 a4 a5 at_ to_ ga g1 g2
  have Ga := g32_of ga
  simp only [Lit.wf, Bool.and_eq_true, decide_eq_true_eq] at g1 g2
  have g1' : 0 ≤ at_ ∧ at_ ≤ 65535 := g1
  have g2' : 0 ≤ to_ ∧ to_ ≤ 255 := g2
  refine ⟨200000002, ?_⟩
  obtain ⟨k, hk⟩ : ∃ k : Nat, k = 200000002 := ⟨_, rfl⟩
  rw [← hk]
  have hk' : 200000000 ≤ k := by omega
  clear hk
  unfold waypointlaw32_LsaSpoiled.f waypointlaw32_awake.f
  simp only [Option.bind_some, if_true, few_eq]
  by_cases f1 : a4.length ≤ 300 ∧ a5.length ≤ 100
  · rw [decide_eq_true f1, if_pos rfl, encode_eq k a0 a1 a2 a3 a4 a5 Ga (by omega)]
    simp only [Option.bind_some]
    by_cases hv : VL a0 a1 a2 a3 a4 a5
    · rw [if_pos hv]
      simp only [if_true]
      unfold waypointlaw32_LsaSpoiled.t
      have hlen := enc_len ⟨a0, a1, a2, a3, a4, a5⟩
      simp only at hlen
      rw [if_pos ⟨g1'.1, g1'.2, by omega, by omega⟩]
      exact sp_main k ⟨a0, a1, a2, a3, a4, a5⟩ hv _ to_ (Int.emod_nonneg _ (by omega)) (Int.emod_lt_of_pos _ (by omega)) g2' (by omega)
    · rw [if_neg hv]
      simp
  · rw [decide_eq_false f1, if_neg (by simp)]
end Go.Proofs.Ytmknjjfdlkgidaa.HLsc
