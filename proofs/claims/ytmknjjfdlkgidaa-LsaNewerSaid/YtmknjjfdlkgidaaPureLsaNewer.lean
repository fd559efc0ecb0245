/-
  LsaNewer: the plain law.
-/
import Derived.Test.YtmknjjfdlkgidaaLsaO
import Derived.Test.YtmknjjfdlkgidaaLsaJ
import Derived.Test.YtmknjjfdlkgidaaHLscx15
import Derived.Test.YtmknjjfdlkgidaaHLscx14
import Derived.Test.YtmknjjfdlkgidaaHLscGLsaNewer
namespace Go.Proofs.Ytmknjjfdlkgidaa.HLsc
open Go.RowKit Go.Proofs.YtmknjjfdlkgidaaW.PrintWords Go.Proofs.YtmknjjfdlkgidaaW.PrintLast Go.Proofs.YtmknjjfdlkgidaaW.PrintMore
open Go.Proofs.Ytmknjjfdlkgidaa.LM Go.Proofs.Ytmknjjfdlkgidaa.LS
set_option linter.unusedVariables false
set_option linter.unusedSimpArgs false
theorem rnewer_eq (k : Nat) (a b : L) (hG : G32 a.pf) (hG2 : G32 b.pf) (hk : 100000001 ≤ k) :
    waypointref32_Newer.f k a.o a.s a.age a.ov a.ad a.pf b.o b.s b.age b.ov b.ad b.pf = some (newer a b) := by
  obtain ⟨k, rfl⟩ : ∃ j, k = j + 1 := ⟨k - 1, by omega⟩
  unfold waypointref32_Newer.f newer
  rw [rvalid_eq (k + 1) _ _ _ _ _ _ hG (by omega), rvalid_eq (k + 1) _ _ _ _ _ _ hG2 (by omega)]
  simp only [Option.bind_some]
  simp only [waypointref32_Newer.j0, if_true]
  by_cases ha : Valid a
  · rw [decide_eq_true (show VL a.o a.s a.age a.ov a.ad a.pf from ha), if_pos rfl]
    by_cases hb : Valid b
    · rw [decide_eq_true (show VL b.o b.s b.age b.ov b.ad b.pf from hb), if_neg (by simp), if_pos (show Valid a ∧ Valid b from ⟨ha, hb⟩)]
      have s1 := ha.s
      have s2 := hb.s
      by_cases hs : a.s = b.s
      · rw [if_pos hs, if_pos hs]
        by_cases c : (a.age = 3600 ↔ b.age = 3600)
        · have e : ((a.age == 3600) != (b.age == 3600)) = false := by
            by_cases h : a.age = 3600
            · rw [h, c.1 h]; rfl
            · rw [beq_eq_false_iff_ne.2 h, beq_eq_false_iff_ne.2 (fun e => h (c.2 e))]; rfl
          rw [if_neg (by rw [e]; simp), if_pos c]
          have e1 : waypointref32_Encode.f k a.o a.s 0 a.ov a.ad a.pf = some (enc (yg a)) := rencode_eq k a.o a.s 0 a.ov a.ad a.pf (yg_valid ha) (by omega)
          have e2 : waypointref32_Encode.f k b.o b.s 0 b.ov b.ad b.pf = some (enc (yg b)) := rencode_eq k b.o b.s 0 b.ov b.ad b.pf (yg_valid hb) (by omega)
          rw [e1, e2]
          simp only [Option.bind_some]
          rw [Lib.strOfNums_toList, Lib.strOfNums_toList]
          have L1 := LC.less_iff (Lib.bytesOf (enc (yg b))) (Lib.bytesOf (enc (yg a)))
          have L2 := LC.less_iff (Lib.bytesOf (enc (yg a))) (Lib.bytesOf (enc (yg b)))
          have sw : Lib.compareBytes (Lib.bytesOf (enc (yg b))) (Lib.bytesOf (enc (yg a))) = - cmpE (yg a) (yg b) := LC.cmp_swap _ _
          have L2' : Op.bytesLess (Lib.bytesOf (enc (yg a))) (Lib.bytesOf (enc (yg b))) = true ↔ cmpE (yg a) (yg b) = -1 := L2
          have rg := cmpE_range (yg a) (yg b)
          rw [sw] at L1
          refine ite_both (fun h => ?_) (fun h => ite_both (fun h2 => ?_) (fun h2 => ?_))
          · have := L1.1 h; congr 1; omega
          · have := L2'.1 h2; congr 1; omega
          · have n1 : ¬ (- cmpE (yg a) (yg b) = -1) := fun e => h (L1.2 e)
            have n2 : ¬ (cmpE (yg a) (yg b) = -1) := fun e => h2 (L2'.2 e)
            congr 1; omega
        · rw [if_pos (by
            by_cases h : a.age = 3600
            · have h' : ¬ b.age = 3600 := fun e => c ⟨fun _ => e, fun _ => h⟩
              rw [h, beq_eq_false_iff_ne.2 h']; rfl
            · have h' : b.age = 3600 := by
                rcases Decidable.em (b.age = 3600) with h' | h'
                · exact h'
                · exact absurd ⟨fun e => absurd e h, fun e => absurd e h'⟩ c
              rw [h', beq_eq_false_iff_ne.2 h]; rfl), if_neg c]
          by_cases h : a.age = 3600
          · rw [if_pos h, if_pos h]
          · rw [if_neg h, if_neg h]
      · rw [if_neg hs, if_neg hs, w64 (by omega) (by omega)]
        unfold waypointref32_sign.f
        by_cases c : a.s < b.s
        · rw [if_pos (by omega), if_pos c]; rfl
        · rw [if_neg (by omega), if_pos (by omega), if_neg c]; rfl
    · rw [decide_eq_false (show ¬ VL b.o b.s b.age b.ov b.ad b.pf from hb), if_pos (by simp), if_neg (show ¬ (Valid a ∧ Valid b) from fun h => hb h.2)]
  · rw [decide_eq_false (show ¬ VL a.o a.s a.age a.ov a.ad a.pf from ha), if_neg (by simp), if_neg (show ¬ (Valid a ∧ Valid b) from fun h => ha h.1)]
end Go.Proofs.Ytmknjjfdlkgidaa.HLsc
namespace Go.Proofs.Ytmknjjfdlkgidaa.HLsc
open Go.RowKit Go.Proofs.YtmknjjfdlkgidaaW.PrintWords Go.Proofs.YtmknjjfdlkgidaaW.PrintLast Go.Proofs.YtmknjjfdlkgidaaW.PrintMore
open Go.Proofs.Ytmknjjfdlkgidaa.LM Go.Proofs.Ytmknjjfdlkgidaa.LS
set_option linter.unusedVariables false
theorem waypointlaw32_LsaNewer.goal : waypointlaw32_LsaNewer.Goal := by
  intro a0 a1 a2 a3 a4 a5 b0 b1 b2 b3 b4 b5 ga gb
  have Ga := g32_of ga
  have Gb := g32_of gb
  refine ⟨200000002, ?_⟩
  obtain ⟨k, hk⟩ : ∃ k : Nat, k = 200000000 := ⟨_, rfl⟩
  rw [show (200000002 : Nat) = k + 2 by omega]
  have hk' : 200000000 ≤ k := by omega
  clear hk
  have jt : waypointlaw32_LsaNewer.j0 (k + 2) true a0 a1 a2 a3 a4 a5 b0 b1 b2 b3 b4 b5 = some true := by simp only [waypointlaw32_LsaNewer.j0, if_true]
  unfold waypointlaw32_LsaNewer.f waypointlaw32_awake.f
  simp only [Option.bind_some, if_true, few_eq]
  refine ite_both (fun f1 => ?_) (fun _ => jt)
  have f1' := of_decide_eq_true f1
  by_cases f2 : b4.length ≤ 300 ∧ b5.length ≤ 100
  · rw [decide_eq_true f2]
    have n1 : lsa_Newer.f (k + 1) a0 a1 a2 a3 a4 a5 b0 b1 b2 b3 b4 b5 = some (newer ⟨a0, a1, a2, a3, a4, a5⟩ ⟨b0, b1, b2, b3, b4, b5⟩) := newer_eq (k + 1) ⟨a0, a1, a2, a3, a4, a5⟩ ⟨b0, b1, b2, b3, b4, b5⟩ Ga Gb (by omega)
    have n2 : waypointref32_Newer.f (k + 1) a0 a1 a2 a3 a4 a5 b0 b1 b2 b3 b4 b5 = some (newer ⟨a0, a1, a2, a3, a4, a5⟩ ⟨b0, b1, b2, b3, b4, b5⟩) := rnewer_eq (k + 1) ⟨a0, a1, a2, a3, a4, a5⟩ ⟨b0, b1, b2, b3, b4, b5⟩ Ga Gb (by omega)
    have n3 : lsa_Same.f (k + 1) a0 a1 a2 a3 a4 a5 b0 b1 b2 b3 b4 b5 = some (decide (Sm ⟨a0, a1, a2, a3, a4, a5⟩ ⟨b0, b1, b2, b3, b4, b5⟩)) := same_eq (k + 1) ⟨a0, a1, a2, a3, a4, a5⟩ ⟨b0, b1, b2, b3, b4, b5⟩ (show a4.length ≤ 1000 by omega) (show a5.length ≤ 1000 by omega) (by omega)
    have n4 : waypointref32_Same.f (k + 1) a0 a1 a2 a3 a4 a5 b0 b1 b2 b3 b4 b5 = some (decide (Sm ⟨a0, a1, a2, a3, a4, a5⟩ ⟨b0, b1, b2, b3, b4, b5⟩)) := (rsame_eq (k + 1) a0 a1 a2 a3 a4 a5 b0 b1 b2 b3 b4 b5 (by omega) (by omega) (by omega)).trans (congrArg some (decide_eq_decide.2 Iff.rfl))
    simp only [waypointlaw32_LsaNewer.j0, Bool.not_true, Bool.false_eq_true, if_false, n1, n2, n3, n4, Option.bind_some, if_true, beq_self_eq_true]
  · rw [decide_eq_false f2]
    exact jt
end Go.Proofs.Ytmknjjfdlkgidaa.HLsc
