/-
  LsaOrder: the plain law.
-/
import Derived.Test.YtmknjjfdlkgidaaHLscGLsaOrder
import Derived.Test.YtmknjjfdlkgidaaLsaO
namespace Go.Proofs.Ytmknjjfdlkgidaa.HLsc
open Go.RowKit Go.Proofs.YtmknjjfdlkgidaaW.PrintWords Go.Proofs.YtmknjjfdlkgidaaW.PrintLast Go.Proofs.YtmknjjfdlkgidaaW.PrintMore
open Go.Proofs.Ytmknjjfdlkgidaa.LM Go.Proofs.Ytmknjjfdlkgidaa.LS
set_option linter.unusedVariables false
theorem order_j1 (k : Nat) {a b c : L} (ha : Valid a) (hb : Valid b) (hc : Valid c) : waypointlaw32_LsaOrder.j1 (k + 1) (newer a b) (newer b c) (newer a c) false = some true := by
  have r1 := newer_range a b
  have r2 := newer_range b c
  have r3 := newer_range a c
  have s1 := newer_swap ha hb
  have s2 := newer_swap hb hc
  have s3 := newer_swap ha hc
  have low : ¬ (newer a b ≥ 0 ∧ newer b c ≥ 0) → newer a b ≤ 0 → newer b c ≤ 0 → newer a c < 0 := by
    intro h h1 h2
    have := newer_trans hc hb ha (by omega) (by omega)
    omega
  simp only [waypointlaw32_LsaOrder.j1, Bool.false_eq_true, if_false]
  refine ite_both (fun c1 => ite_both (fun c2 => ?_) (fun c2 => ite_both (fun c3 => rfl) (fun c3 => ite_both (fun c4 => rfl) (fun c4 => ?_)))) (fun c1 => ite_both (fun c3 => rfl) (fun c3 => ite_both (fun c4 => rfl) (fun c4 => ?_)))
  · have T := newer_trans ha hb hc c1 c2
    rw [if_pos T.1, w64 (by omega) (by omega)]
    congr 1
    rw [beq_iff_eq]
    by_cases h : newer a c = 0
    · rw [h, T.2.2 h]
    · rw [beq_eq_false_iff_ne.2 h, beq_eq_false_iff_ne.2 (fun e => h (T.2.1 e))]
  · rw [decide_eq_true (low (fun h => c2 h.2) (by omega) (by omega))]
  · rw [decide_eq_true (low (fun h => c1 h.1) (by omega) (by omega))]
theorem waypointlaw32_LsaOrder.goal : waypointlaw32_LsaOrder.Goal := by
  intro a0 a1 a2 a3 a4 a5 b0 b1 b2 b3 b4 b5 c0 c1 c2 c3 c4 c5 ga gb gc
  have Ga := g32_of ga
  have Gb := g32_of gb
  have Gc := g32_of gc
  refine ⟨200000002, ?_⟩
  obtain ⟨k, hk⟩ : ∃ k : Nat, k = 200000000 := ⟨_, rfl⟩
  rw [show (200000002 : Nat) = k + 2 by omega]
  have hk' : 200000000 ≤ k := by omega
  clear hk
  have jt : waypointlaw32_LsaOrder.j0 (k + 2) true a0 a1 a2 a3 a4 a5 b0 b1 b2 b3 b4 b5 c0 c1 c2 c3 c4 c5 = some true := by simp only [waypointlaw32_LsaOrder.j0, if_true]
  unfold waypointlaw32_LsaOrder.f waypointlaw32_awake.f
  simp only [Option.bind_some, if_true, few_eq]
  refine ite_both (fun f1 => ite_both (fun f2 => ite_both (fun f3 => ?_) (fun _ => jt)) (fun _ => jt)) (fun _ => jt)
  have f1' := of_decide_eq_true f1
  rw [rvalid_eq (k + 2) a0 a1 a2 a3 a4 a5 Ga (by omega), rvalid_eq (k + 2) b0 b1 b2 b3 b4 b5 Gb (by omega), rvalid_eq (k + 2) c0 c1 c2 c3 c4 c5 Gc (by omega)]
  simp only [Option.bind_some]
  refine ite_both (fun v1 => ite_both (fun v2 => ?_) (fun _ => jt)) (fun _ => jt)
  by_cases v3 : VL c0 c1 c2 c3 c4 c5
  · rw [decide_eq_true v3]
    have A : Valid ⟨a0, a1, a2, a3, a4, a5⟩ := of_decide_eq_true v1
    have B : Valid ⟨b0, b1, b2, b3, b4, b5⟩ := of_decide_eq_true v2
    have n1 : lsa_Newer.f (k + 1) a0 a1 a2 a3 a4 a5 b0 b1 b2 b3 b4 b5 = some (newer ⟨a0, a1, a2, a3, a4, a5⟩ ⟨b0, b1, b2, b3, b4, b5⟩) := newer_eq (k + 1) ⟨a0, a1, a2, a3, a4, a5⟩ ⟨b0, b1, b2, b3, b4, b5⟩ Ga Gb (by omega)
    have n2 : lsa_Newer.f (k + 1) b0 b1 b2 b3 b4 b5 c0 c1 c2 c3 c4 c5 = some (newer ⟨b0, b1, b2, b3, b4, b5⟩ ⟨c0, c1, c2, c3, c4, c5⟩) := newer_eq (k + 1) ⟨b0, b1, b2, b3, b4, b5⟩ ⟨c0, c1, c2, c3, c4, c5⟩ Gb Gc (by omega)
    have n3 : lsa_Newer.f (k + 1) a0 a1 a2 a3 a4 a5 c0 c1 c2 c3 c4 c5 = some (newer ⟨a0, a1, a2, a3, a4, a5⟩ ⟨c0, c1, c2, c3, c4, c5⟩) := newer_eq (k + 1) ⟨a0, a1, a2, a3, a4, a5⟩ ⟨c0, c1, c2, c3, c4, c5⟩ Ga Gc (by omega)
    have n4 : lsa_Newer.f (k + 1) b0 b1 b2 b3 b4 b5 a0 a1 a2 a3 a4 a5 = some (newer ⟨b0, b1, b2, b3, b4, b5⟩ ⟨a0, a1, a2, a3, a4, a5⟩) := newer_eq (k + 1) ⟨b0, b1, b2, b3, b4, b5⟩ ⟨a0, a1, a2, a3, a4, a5⟩ Gb Ga (by omega)
    have n5 : lsa_Same.f (k + 1) a0 a1 a2 a3 a4 a5 b0 b1 b2 b3 b4 b5 = some (decide (Sm ⟨a0, a1, a2, a3, a4, a5⟩ ⟨b0, b1, b2, b3, b4, b5⟩)) := same_eq (k + 1) ⟨a0, a1, a2, a3, a4, a5⟩ ⟨b0, b1, b2, b3, b4, b5⟩ (show a4.length ≤ 1000 by omega) (show a5.length ≤ 1000 by omega) (by omega)
    simp only [waypointlaw32_LsaOrder.j0, Bool.not_true, Bool.false_eq_true, if_false, n1, n2, n3, n4, n5, Option.bind_some]
    have rg := newer_range ⟨a0, a1, a2, a3, a4, a5⟩ ⟨b0, b1, b2, b3, b4, b5⟩
    rw [newer_swap A B, w64 (by omega) (by omega), if_pos rfl]
    have hz := newer_zero A B
    have hb : ((newer ⟨a0, a1, a2, a3, a4, a5⟩ ⟨b0, b1, b2, b3, b4, b5⟩ == 0) != decide (Sm ⟨a0, a1, a2, a3, a4, a5⟩ ⟨b0, b1, b2, b3, b4, b5⟩)) = false := by
      by_cases h : Sm ⟨a0, a1, a2, a3, a4, a5⟩ ⟨b0, b1, b2, b3, b4, b5⟩
      · rw [decide_eq_true h, hz.2 h]; rfl
      · rw [decide_eq_false h, beq_eq_false_iff_ne.2 (fun e => h (hz.1 e))]; rfl
    rw [hb]
    exact order_j1 k A B v3
  · rw [decide_eq_false v3]
    exact jt
end Go.Proofs.Ytmknjjfdlkgidaa.HLsc
