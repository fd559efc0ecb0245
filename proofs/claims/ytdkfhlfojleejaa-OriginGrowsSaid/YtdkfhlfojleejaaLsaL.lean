/-
  Chapter 32, plain: what a law is given: few rows, numbers of their kinds.
-/
import Derived.Test.YtdkfhlfojleejaaLsaG
import Derived.Test.YtdkfhlfojleejaaHLscx3
import Derived.Test.YtdkfhlfojleejaaHLsco
import Derived.Test.YtdkfhlfojleejaaHLscx7
namespace Go.Proofs.Ytdkfhlfojleejaa.HLsc
open Go.RowKit Go.Proofs.YtdkfhlfojleejaaW.PrintWords Go.Proofs.YtdkfhlfojleejaaW.PrintLast Go.Proofs.YtdkfhlfojleejaaW.PrintMore
open Go.Proofs.Ytdkfhlfojleejaa.LM Go.Proofs.Ytdkfhlfojleejaa.LS
set_option linter.unusedVariables false
set_option linter.unusedSimpArgs false
theorem AD.ext' {x y : AD} : x = y ↔ x.f0 = y.f0 ∧ x.f1 = y.f1 ∧ x.f2 = y.f2 := by cases x; cases y; simp
theorem PF.ext' {x y : PF} : x = y ↔ x.f0 = y.f0 ∧ x.f1 = y.f1 := by cases x; cases y; simp
instance : DecidableEq AD := fun _ _ => decidable_of_iff _ AD.ext'.symm
instance : DecidableEq PF := fun _ _ => decidable_of_iff _ PF.ext'.symm
instance : DecidableEq L := fun a b => decidable_of_iff (a.o = b.o ∧ a.s = b.s ∧ a.age = b.age ∧ a.ov = b.ov ∧ a.ad = b.ad ∧ a.pf = b.pf) ⟨fun h => LS.L.ext' h.1 h.2.1 h.2.2.1 h.2.2.2.1 h.2.2.2.2.1 h.2.2.2.2.2, fun h => by subst h; exact ⟨rfl, rfl, rfl, rfl, rfl, rfl⟩⟩
theorem cons_iff {α : Type} (x y : α) (a b : List α) : x :: a = y :: b ↔ x = y ∧ a = b := by simp
theorem contents_l1 (o s age : Int) (ov : Bool) (ad : List AD) (pf : List PF) (o' s' age' : Int) (ov' : Bool) (ad' : List AD) (pf' : List PF) (hl : pf.length = pf'.length) (hb : pf.length ≤ 1000) : ∀ (suf suf' pre pre' : List PF) (k : Nat), pf = pre ++ suf → pf' = pre' ++ suf' → pre.length = pre'.length → suf.length + 1 ≤ k →
    waypointref32_Contents.l1 k (pre.length : Int) o s age ov ad pf o' s' age' ov' ad' pf' = some (decide (suf = suf'))
  | [], suf', pre, pre', k, he, he', hp, hk => by
    obtain ⟨k, rfl⟩ : ∃ j, k = j + 1 := ⟨k - 1, by omega⟩
    have h1 : pf.length = pre.length := by rw [he]; simp
    have h2 : pf'.length = pre'.length + suf'.length := by rw [he']; simp
    simp only [waypointref32_Contents.l1]
    rw [if_neg (by omega), List.eq_nil_of_length_eq_zero (show suf'.length = 0 by omega)]
    simp
  | x :: suf, suf', pre, pre', k, he, he', hp, hk => by
    obtain ⟨k, rfl⟩ : ∃ j, k = j + 1 := ⟨k - 1, by omega⟩
    have h1 : pf.length = pre.length + suf.length + 1 := by rw [he]; simp; omega
    have h2 : pf'.length = pre'.length + suf'.length := by rw [he']; simp
    match suf', he', h2 with
    | [], he', h2 => simp at h2; omega
    | y :: suf', he', h2 =>
      simp only [List.length_cons] at hk h2
      have hx : rd_T76 pf (pre.length : Int) = x := by rw [he]; exact rdP pre suf x
      have hy : rd_T76 pf' (pre.length : Int) = y := by rw [he', hp]; exact rdP pre' suf' y
      have ih := contents_l1 o s age ov ad pf o' s' age' ov' ad' pf' hl hb suf suf' (pre ++ [x]) (pre' ++ [y]) k (by rw [he]; simp) (by rw [he']; simp) (by simp [hp]) (by omega)
      rw [show (((pre ++ [x]).length : Nat) : Int) = pre.length + 1 by simp] at ih
      simp only [waypointref32_Contents.l1]
      rw [if_pos (by omega), if_pos (by omega), if_pos (by omega), hx, hy, w64 (by omega) (by omega), ih]
      by_cases c : x = y
      · subst c; simp
      · rw [if_pos (by
          rw [PF.ext'] at c
          simp only [Bool.or_eq_true, Bool.not_eq_true', beq_eq_false_iff_ne]
          omega)]
        simp [c]
theorem contents_l0 (o s age : Int) (ov : Bool) (ad : List AD) (pf : List PF) (o' s' age' : Int) (ov' : Bool) (ad' : List AD) (pf' : List PF) (hl : ad.length = ad'.length) (hb : ad.length ≤ 1000) (hl2 : pf.length = pf'.length) (hb2 : pf.length ≤ 1000) : ∀ (suf suf' pre pre' : List AD) (k : Nat), ad = pre ++ suf → ad' = pre' ++ suf' → pre.length = pre'.length → suf.length + pf.length + 2 ≤ k →
    waypointref32_Contents.l0 k (pre.length : Int) o s age ov ad pf o' s' age' ov' ad' pf' = some (decide (suf = suf' ∧ pf = pf'))
  | [], suf', pre, pre', k, he, he', hp, hk => by
    obtain ⟨k, rfl⟩ : ∃ j, k = j + 1 := ⟨k - 1, by omega⟩
    have h1 : ad.length = pre.length := by rw [he]; simp
    have h2 : ad'.length = pre'.length + suf'.length := by rw [he']; simp
    simp only [waypointref32_Contents.l0]
    rw [if_neg (by omega), List.eq_nil_of_length_eq_zero (show suf'.length = 0 by omega)]
    have h := contents_l1 o s age ov ad pf o' s' age' ov' ad' pf' hl2 hb2 pf pf' [] [] k rfl rfl rfl (by simp at hk; omega)
    simp only [List.length_nil] at h
    refine h.trans ?_
    simp
  | x :: suf, suf', pre, pre', k, he, he', hp, hk => by
    obtain ⟨k, rfl⟩ : ∃ j, k = j + 1 := ⟨k - 1, by omega⟩
    have h1 : ad.length = pre.length + suf.length + 1 := by rw [he]; simp; omega
    have h2 : ad'.length = pre'.length + suf'.length := by rw [he']; simp
    match suf', he', h2 with
    | [], he', h2 => simp at h2; omega
    | y :: suf', he', h2 =>
      simp only [List.length_cons] at hk h2
      have hx : rd_T72 ad (pre.length : Int) = x := by rw [he]; exact rdA pre suf x
      have hy : rd_T72 ad' (pre.length : Int) = y := by rw [he', hp]; exact rdA pre' suf' y
      have ih := contents_l0 o s age ov ad pf o' s' age' ov' ad' pf' hl hb hl2 hb2 suf suf' (pre ++ [x]) (pre' ++ [y]) k (by rw [he]; simp) (by rw [he']; simp) (by simp [hp]) (by omega)
      rw [show (((pre ++ [x]).length : Nat) : Int) = pre.length + 1 by simp] at ih
      simp only [waypointref32_Contents.l0]
      rw [if_pos (by omega), if_pos (by omega), if_pos (by omega), hx, hy, w64 (by omega) (by omega), ih]
      by_cases c : x = y
      · subst c; simp
      · rw [if_pos (by
          rw [AD.ext'] at c
          simp only [Bool.or_eq_true, Bool.not_eq_true', beq_eq_false_iff_ne]
          omega)]
        simp [c]
theorem contents_eq (k : Nat) (o s age : Int) (ov : Bool) (ad : List AD) (pf : List PF) (o' s' age' : Int) (ov' : Bool) (ad' : List AD) (pf' : List PF) (hb : ad.length ≤ 1000) (hb2 : pf.length ≤ 1000) (hk : 3000 ≤ k) :
    waypointref32_Contents.f k o s age ov ad pf o' s' age' ov' ad' pf' = some (decide (ov = ov' ∧ ad = ad' ∧ pf = pf')) := by
  obtain ⟨k, rfl⟩ : ∃ j, k = j + 1 := ⟨k - 1, by omega⟩
  unfold waypointref32_Contents.f
  simp only [waypointref32_Contents.j0, if_true]
  by_cases c1 : ov = ov'
  · rw [if_neg (by simp [c1])]
    by_cases c2 : ad.length = ad'.length
    · rw [if_pos (by omega)]
      by_cases c3 : pf.length = pf'.length
      · rw [if_neg (by simp [c3])]
        have h := contents_l0 o s age ov ad pf o' s' age' ov' ad' pf' c2 hb c3 hb2 ad ad' [] [] k rfl rfl rfl (by omega)
        simp only [List.length_nil] at h
        refine h.trans ?_
        simp [c1]
      · rw [if_pos (by simp; omega)]
        congr 1
        exact (decide_eq_false (fun h => c3 (by rw [h.2.2]))).symm
    · rw [if_neg (by omega)]
      congr 1
      exact (decide_eq_false (fun h => c2 (by rw [h.2.1]))).symm
  · rw [if_pos (by simp [c1])]
    congr 1
    exact (decide_eq_false (fun h => c1 h.1)).symm
theorem rsame_eq (k : Nat) (o s age : Int) (ov : Bool) (ad : List AD) (pf : List PF) (o' s' age' : Int) (ov' : Bool) (ad' : List AD) (pf' : List PF) (hb : ad.length ≤ 1000) (hb2 : pf.length ≤ 1000) (hk : 3000 ≤ k) :
    waypointref32_Same.f k o s age ov ad pf o' s' age' ov' ad' pf' = some (decide (o = o' ∧ s = s' ∧ (age = 3600 ↔ age' = 3600) ∧ ov = ov' ∧ ad = ad' ∧ pf = pf')) := by
  unfold waypointref32_Same.f
  rw [contents_eq k o s age ov ad pf o' s' age' ov' ad' pf' hb hb2 hk]
  simp only [Option.bind_some]
  by_cases c1 : o = o'
  · by_cases c2 : s = s'
    · by_cases c3 : (age = 3600 ↔ age' = 3600)
      · rw [if_pos c1, if_pos c2, if_pos (by
          rw [beq_iff_eq]
          by_cases h : age = 3600
          · simp [h, c3.1 h]
          · have h' : ¬ age' = 3600 := fun e => h (c3.2 e)
            rw [beq_eq_false_iff_ne.2 h, beq_eq_false_iff_ne.2 h'])]
        simp [c1, c2, c3]
      · rw [if_pos c1, if_pos c2, if_neg (by
          rw [beq_iff_eq]
          intro e
          exact c3 (by
            constructor
            · intro h; subst h; exact eq_of_beq (e.symm.trans (beq_self_eq_true _))
            · intro h; subst h; exact eq_of_beq (e.trans (beq_self_eq_true _))))]
        simp [c3]
    · rw [if_pos c1, if_neg c2]; simp [c2]
  · rw [if_neg c1]; simp [c1]
theorem requal_eq (k : Nat) (o s age : Int) (ov : Bool) (ad : List AD) (pf : List PF) (o' s' age' : Int) (ov' : Bool) (ad' : List AD) (pf' : List PF) (hb : ad.length ≤ 1000) (hb2 : pf.length ≤ 1000) (hk : 3000 ≤ k) :
    waypointref32_Equal.f k o s age ov ad pf o' s' age' ov' ad' pf' = some (decide ((⟨o, s, age, ov, ad, pf⟩ : L) = ⟨o', s', age', ov', ad', pf'⟩)) := by
  unfold waypointref32_Equal.f
  rw [rsame_eq k o s age ov ad pf o' s' age' ov' ad' pf' hb hb2 hk]
  simp only [Option.bind_some]
  by_cases c : o = o' ∧ s = s' ∧ (age = 3600 ↔ age' = 3600) ∧ ov = ov' ∧ ad = ad' ∧ pf = pf'
  · rw [decide_eq_true c, if_pos rfl]
    obtain ⟨c1, c2, c3, c4, c5, c6⟩ := c
    subst c1 c2 c4 c5 c6
    congr 1
    refine dec_of ?_
    simp
  · rw [decide_eq_false c, if_neg (by simp)]
    congr 1
    refine (decide_eq_false ?_).symm
    intro e
    cases e
    exact c ⟨rfl, rfl, Iff.rfl, rfl, rfl, rfl⟩
theorem g32_nil : G32 [] := fun _ h => by cases h
theorem purge_valid {o s age : Int} {ov : Bool} {ad : List AD} {pf : List PF} (h : VL o s age ov ad pf) : VL o s 3600 false [] [] :=
  ⟨h.o, h.s, ⟨(show (0 : Int) ≤ 3600 by decide), (show (3600 : Int) ≤ 3600 by decide)⟩, Nat.zero_le _, Nat.zero_le _, trivial, trivial, fun _ => ⟨rfl, rfl, rfl⟩⟩
end Go.Proofs.Ytdkfhlfojleejaa.HLsc
namespace Go.Proofs.Ytdkfhlfojleejaa.HLsc
open Go.RowKit Go.Proofs.YtdkfhlfojleejaaW.PrintWords Go.Proofs.YtdkfhlfojleejaaW.PrintLast Go.Proofs.YtdkfhlfojleejaaW.PrintMore
open Go.Proofs.Ytdkfhlfojleejaa.LM Go.Proofs.Ytdkfhlfojleejaa.LS
set_option linter.unusedVariables false
theorem few_eq (o s age : Int) (ov : Bool) (ad : List AD) (pf : List PF) : waypointref32_Few.f o s age ov ad pf = some (decide (ad.length ≤ 300 ∧ pf.length ≤ 100)) := by
  unfold waypointref32_Few.f
  by_cases c : (ad.length : Int) ≤ 300
  · rw [if_pos c]
    congr 1
    refine decide_eq_decide.2 ?_
    omega
  · rw [if_neg c]
    congr 1
    exact (decide_eq_false (by omega)).symm
theorem g32_of {o s age : Int} {ov : Bool} {ad : List AD} {pf : List PF} (h : good32 ⟨o, s, age, ov, ad, pf⟩) : G32 pf := fun p hp => by
  have h1 : (Lit.int .u32 p.f0).wf = true := (h.2.2.2.2.2.2 p hp).1
  simp only [Lit.wf, Bool.and_eq_true, decide_eq_true_eq] at h1
  exact h1
end Go.Proofs.Ytdkfhlfojleejaa.HLsc
