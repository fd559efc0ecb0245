/-
  Chapter 32, plain: what the printed functions compute: which advertisements are valid, by the reference.
-/
import Derived.Test.YtmknjjfdlkgidaaLsaF
import Derived.Test.YtmknjjfdlkgidaaHLscx12
namespace Go.Proofs.Ytmknjjfdlkgidaa.HLsc
open Go.RowKit Go.Proofs.YtmknjjfdlkgidaaW.PrintWords Go.Proofs.YtmknjjfdlkgidaaW.PrintLast Go.Proofs.YtmknjjfdlkgidaaW.PrintMore
open Go.Proofs.Ytmknjjfdlkgidaa.LM Go.Proofs.Ytmknjjfdlkgidaa.LS
set_option linter.unusedVariables false
set_option linter.unusedSimpArgs false
theorem ite_both {c : Prop} [Decidable c] {α : Type} {a b v : α} (h1 : c → a = v) (h2 : ¬ c → b = v) : (if c then a else b) = v := by
  by_cases h : c
  · rw [if_pos h]; exact h1 h
  · rw [if_neg h]; exact h2 h
theorem row_some {α : Type} {ok : α → Prop} {lt : α → α → Prop} (x y : α) (l : List α) : Row ok lt (some y) (x :: l) ↔ ok x ∧ lt y x ∧ Row ok lt (some x) l :=
  ⟨fun h => ⟨h.1, h.2.1 y rfl, h.2.2⟩, fun h => ⟨h.1, fun z e => by cases e; exact h.2.1, h.2.2⟩⟩
theorem row_none {α : Type} {ok : α → Prop} {lt : α → α → Prop} (x : α) (l : List α) : Row ok lt none (x :: l) ↔ ok x ∧ Row ok lt (some x) l :=
  ⟨fun h => ⟨h.1, h.2.2⟩, fun h => ⟨h.1, (fun z e => by cases e), h.2⟩⟩
abbrev PG (age : Int) (ov : Bool) (ad : List AD) (pf : List PF) : Prop := age = 3600 → ov = false ∧ ad.length = 0 ∧ pf.length = 0
theorem rvalid_l1 (o s age : Int) (ov : Bool) (ad : List AD) (pf : List PF) (hl : pf.length ≤ 1000) (hG : G32 pf) : ∀ (suf pre : List PF) (k : Nat), pf = pre ++ suf → 2 * suf.length + 42 ≤ k →
    waypointref32_Valid.l1 k (pre.length : Int) o s age ov ad pf = some (decide (Row pfOk pfLt pre.getLast? suf ∧ PG age ov ad pf))
  | [], pre, k, he, hk => by
    obtain ⟨k, rfl⟩ : ∃ j, k = j + 1 := ⟨k - 1, by omega⟩
    have : pf.length = pre.length := by rw [he]; simp
    simp only [waypointref32_Valid.l1]
    rw [if_neg (by omega)]
    by_cases ha : age = 3600
    · rw [if_pos ha]
      cases ov with
      | true => simp [PG, ha]
      | false =>
        simp only [Bool.false_eq_true, if_false]
        by_cases hz : (ad.length : Int) = 0
        · rw [if_pos hz]
          have e1 : ad = [] := List.eq_nil_of_length_eq_zero (by omega)
          congr 1
          refine dec_of ?_
          simp only [Row, PG, e1]
          simp [ha]
        · rw [if_neg hz]
          congr 1
          refine (decide_eq_false ?_).symm
          rintro ⟨_, h⟩
          have := (h ha).2.1
          omega
    · rw [if_neg ha]
      congr 1
      exact (decide_eq_true ⟨trivial, fun e => absurd e ha⟩).symm
  | x :: suf, pre, k, he, hk => by
    obtain ⟨k, rfl⟩ : ∃ j, k = j + 2 := ⟨k - 2, by simp at hk; omega⟩
    have hlen : pf.length = pre.length + suf.length + 1 := by rw [he]; simp; omega
    have hx : rd_T56 pf (pre.length : Int) = x := by rw [he]; exact rdP pre suf x
    have hg : 0 ≤ x.f0 ∧ x.f0 ≤ 4294967295 := hG x (by rw [he]; simp)
    have ih := rvalid_l1 o s age ov ad pf hl hG suf (pre ++ [x]) k (by rw [he]; simp) (by simp at hk; omega)
    rw [show (((pre ++ [x]).length : Nat) : Int) = pre.length + 1 by simp, List.getLast?_append, List.getLast?_singleton, Option.some_or] at ih
    simp only [waypointref32_Valid.l1]
    rw [if_pos (by omega), if_pos (by omega), hx, rprefix_eq (k + 1) x hg (by simp at hk; omega)]
    simp only [Option.bind_some]
    have hj : ∀ b : Bool, waypointref32_Valid.j4 (k + 1) (pre.length : Int) b o s age ov ad pf = some (!b && decide (Row pfOk pfLt (some x) suf ∧ PG age ov ad pf)) := by
      intro b
      simp only [waypointref32_Valid.j4]
      cases b with
      | true => simp
      | false => simp only [Bool.false_eq_true, if_false]; rw [w64 (by omega) (by omega), ih]; rfl
    simp only [hj]
    by_cases hok : pfOk x
    · rw [decide_eq_true hok, if_pos rfl]
      rcases snoc_cases pre with rfl | ⟨pre', y, rfl⟩
      · rw [if_neg (by simp)]
        simp only [Bool.not_false, Bool.true_and]
        congr 1
        refine decide_eq_decide.2 ?_
        rw [List.getLast?_nil, row_none]
        simp [hok]
      · have hlp : (pre' ++ [y]).length = pre'.length + 1 := by simp
        rw [if_pos (by rw [hlp]; omega), w64 (by rw [hlp]; omega) (by rw [hlp]; omega), if_pos (by rw [hlp]; omega), if_pos (by rw [hlp]; omega)]
        have hy : rd_T56 pf (((pre' ++ [y]).length : Int) - 1) = y := by
          rw [he, hlp]; push_cast; exact rdP' pre' (x :: suf) y
        rw [hy]
        have e : (decide (Row pfOk pfLt (pre' ++ [y]).getLast? (x :: suf) ∧ PG age ov ad pf)) = (decide (pfLt y x) && decide (Row pfOk pfLt (some x) suf ∧ PG age ov ad pf)) := by
          rw [← Bool.decide_and]
          refine decide_eq_decide.2 ?_
          rw [List.getLast?_append, List.getLast?_singleton, Option.some_or, row_some]
          simp [hok, and_assoc]
        rw [e]
        refine ite_both (fun c => ?_) (fun c => ite_both (fun c2 => ?_) (fun c2 => ?_))
        · have : ¬ pfLt y x := by unfold pfLt; omega
          simp [this]
        · have : (!decide (x.f1 ≤ y.f1)) = decide (pfLt y x) := dec_of (by simp only [Bool.not_eq_true', decide_eq_false_iff_not]; unfold pfLt; omega)
          rw [this]
        · have : pfLt y x := by unfold pfLt; omega
          simp [this]
    · rw [decide_eq_false hok]
      simp only [Bool.false_eq_true, if_false]
      congr 1
      exact (decide_eq_false (fun h => hok h.1.1)).symm
theorem rvalid_l0 (o s age : Int) (ov : Bool) (ad : List AD) (pf : List PF) (hl : ad.length ≤ 1000) (hp : pf.length ≤ 1000) (hG : G32 pf) : ∀ (suf pre : List AD) (k : Nat), ad = pre ++ suf → 2 * suf.length + 2 * pf.length + 43 ≤ k →
    waypointref32_Valid.l0 k (pre.length : Int) o s age ov ad pf = some (decide (Row (adOk o) adLt pre.getLast? suf ∧ (Row pfOk pfLt none pf ∧ PG age ov ad pf)))
  | [], pre, k, he, hk => by
    obtain ⟨k, rfl⟩ : ∃ j, k = j + 1 := ⟨k - 1, by omega⟩
    have : ad.length = pre.length := by rw [he]; simp
    simp only [waypointref32_Valid.l0]
    rw [if_neg (by omega)]
    have h := rvalid_l1 o s age ov ad pf hp hG pf [] k rfl (by simp at hk; omega)
    simp only [List.length_nil, List.getLast?_nil] at h
    refine h.trans (congrArg some (decide_eq_decide.2 ?_))
    simp [Row]
  | x :: suf, pre, k, he, hk => by
    obtain ⟨k, rfl⟩ : ∃ j, k = j + 2 := ⟨k - 2, by simp at hk; omega⟩
    have hlen : ad.length = pre.length + suf.length + 1 := by rw [he]; simp; omega
    have hx : rd_T43 ad (pre.length : Int) = x := by rw [he]; exact rdA pre suf x
    have ih := rvalid_l0 o s age ov ad pf hl hp hG suf (pre ++ [x]) k (by rw [he]; simp) (by simp at hk; omega)
    rw [show (((pre ++ [x]).length : Nat) : Int) = pre.length + 1 by simp, List.getLast?_append, List.getLast?_singleton, Option.some_or] at ih
    simp only [waypointref32_Valid.l0]
    rw [if_pos (by omega), if_pos (by omega), hx]
    have hj : ∀ b : Bool, waypointref32_Valid.j2 (k + 1) (pre.length : Int) b o s age ov ad pf = some (!b && decide (Row (adOk o) adLt (some x) suf ∧ (Row pfOk pfLt none pf ∧ PG age ov ad pf))) := by
      intro b
      simp only [waypointref32_Valid.j2]
      cases b with
      | true => simp
      | false => simp only [Bool.false_eq_true, if_false]; rw [w64 (by omega) (by omega), ih]; rfl
    simp only [hj]
    have bad : ¬ adOk o x → some (!true && decide (Row (adOk o) adLt (some x) suf ∧ (Row pfOk pfLt none pf ∧ PG age ov ad pf))) = some (decide (Row (adOk o) adLt pre.getLast? (x :: suf) ∧ (Row pfOk pfLt none pf ∧ PG age ov ad pf))) := by
      intro hn
      rw [Bool.not_true, Bool.false_and]
      exact congrArg some (decide_eq_false (fun h => hn h.1.1)).symm
    refine ite_both (fun h1 => bad (by unfold adOk; omega)) (fun h1 => ite_both (fun h2 => bad (by unfold adOk; omega)) (fun h2 => ite_both (fun h3 => bad (by unfold adOk; omega)) (fun h3 => ite_both (fun h4 => bad (by unfold adOk; omega)) (fun h4 => ite_both (fun h5 => bad (by unfold adOk; omega)) (fun h5 => ite_both (fun h6 => bad (by unfold adOk; omega)) (fun h6 => ite_both (fun h7 => bad (by unfold adOk; omega)) (fun h7 => ?_)))))))
    have hok : adOk o x := by unfold adOk; omega
    rcases snoc_cases pre with rfl | ⟨pre', y, rfl⟩
    · rw [if_neg (by simp)]
      simp only [Bool.not_false, Bool.true_and]
      congr 1
      refine decide_eq_decide.2 ?_
      rw [List.getLast?_nil, row_none]
      simp [hok]
    · have hlp : (pre' ++ [y]).length = pre'.length + 1 := by simp
      rw [if_pos (by rw [hlp]; omega), w64 (by rw [hlp]; omega) (by rw [hlp]; omega), if_pos (by rw [hlp]; omega), if_pos (by rw [hlp]; omega)]
      have hy : rd_T43 ad (((pre' ++ [y]).length : Int) - 1) = y := by
        rw [he, hlp]; push_cast; exact rdA' pre' (x :: suf) y
      rw [hy]
      congr 1
      rw [show (!decide (x.f1 ≤ y.f1)) = decide (adLt y x) from dec_of (by simp [adLt])]
      rw [← Bool.decide_and]
      refine decide_eq_decide.2 ?_
      rw [List.getLast?_append, List.getLast?_singleton, Option.some_or, row_some]
      simp [hok, and_assoc]
theorem rvalid_eq (k : Nat) (o s age : Int) (ov : Bool) (ad : List AD) (pf : List PF) (hG : G32 pf) (hk : 1000 ≤ k) : waypointref32_Valid.f k o s age ov ad pf = some (decide (VL o s age ov ad pf)) := by
  obtain ⟨k, rfl⟩ : ∃ j, k = j + 1 := ⟨k - 1, by omega⟩
  have hV := LS.Valid.iff ⟨o, s, age, ov, ad, pf⟩
  simp only at hV
  unfold waypointref32_Valid.f
  simp only [waypointref32_Valid.j0, if_true]
  have bad : ∀ {p : Prop}, ¬ p → (VL o s age ov ad pf → p) → some false = some (decide (VL o s age ov ad pf)) := fun hp h => congrArg some (decide_eq_false (fun hv => hp (h hv))).symm
  refine ite_both (fun h => bad (p := 0 ≤ o) (by omega) (fun v => v.o.1)) (fun h1 => ite_both (fun h => bad (p := o ≤ 63) (by omega) (fun v => v.o.2)) (fun h2 => ite_both (fun h => bad (p := 1 ≤ s) (by omega) (fun v => v.s.1)) (fun h3 => ite_both (fun h => bad (p := s ≤ 1073741824) (by omega) (fun v => v.s.2)) (fun h4 => ite_both (fun h => bad (p := 0 ≤ age) (by omega) (fun v => v.age.1)) (fun h5 => ite_both (fun h => bad (p := age ≤ 3600) (by omega) (fun v => v.age.2)) (fun h6 => ite_both (fun h => bad (p := ad.length ≤ 256) (by omega) (fun v => v.nad)) (fun h7 => ite_both (fun h => bad (p := pf.length ≤ 64) (by simp at h; omega) (fun v => v.npf)) (fun h8 => ?_))))))))
  have h8' : pf.length ≤ 64 := by simp at h8; omega
  have h0 := rvalid_l0 o s age ov ad pf (by omega) (by omega) hG ad [] k rfl (by omega)
  simp only [List.length_nil, List.getLast?_nil] at h0
  refine h0.trans (congrArg some (decide_eq_decide.2 ?_))
  rw [show VL o s age ov ad pf ↔ _ from hV]
  constructor
  · rintro ⟨g1, g2, g3⟩; exact ⟨⟨by omega, by omega⟩, ⟨by omega, by omega⟩, ⟨by omega, by omega⟩, by omega, by omega, g1, g2, g3⟩
  · rintro ⟨_, _, _, _, _, g1, g2, g3⟩; exact ⟨g1, g2, g3⟩
end Go.Proofs.Ytmknjjfdlkgidaa.HLsc
