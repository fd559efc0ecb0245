/-
  Chapter 32, plain: what the printed functions compute: which advertisements are valid, by the reference.
-/
import Derived.Test.YtdkfhlfojleejaaLsaS
import Derived.Test.YtdkfhlfojleejaaLsaM
import Derived.Laws.BitsLemmas
import Derived.Lib.EndianBits
import Derived.Test.YtdkfhlfojleejaaHLscx4
import Derived.Test.YtdkfhlfojleejaaHLscx7
import Derived.Test.YtdkfhlfojleejaaHLscx8
namespace Go.Proofs.Ytdkfhlfojleejaa.HLsc
open Go.RowKit Go.Proofs.YtdkfhlfojleejaaW.PrintWords Go.Proofs.YtdkfhlfojleejaaW.PrintLast Go.Proofs.YtdkfhlfojleejaaW.PrintMore
open Go.Proofs.Ytdkfhlfojleejaa.LM Go.Proofs.Ytdkfhlfojleejaa.LS
set_option linter.unusedVariables false
set_option linter.unusedSimpArgs false
theorem w64 {n : Int} (h0 : -9223372036854775808 ≤ n) (h : n ≤ 9223372036854775807) : wrap64 n = n := by unfold wrap64; omega
theorem dec_of {b : Bool} {p : Prop} [Decidable p] (h : b = true ↔ p) : b = decide p := by
  cases b with
  | true => exact (decide_eq_true (h.1 rfl)).symm
  | false => exact (decide_eq_false (fun hp => by have := h.2 hp; cases this)).symm
theorem rdA (pre suf : List AD) (x : AD) : rd_T72 (pre ++ x :: suf) (pre.length : Int) = x := by simp [rd_T72]
theorem rdP (pre suf : List PF) (x : PF) : rd_T76 (pre ++ x :: suf) (pre.length : Int) = x := by simp [rd_T76]
theorem rdA' (pre suf : List AD) (y : AD) : rd_T72 (pre ++ [y] ++ suf) ((pre.length : Int) + 1 - 1) = y := by simp [rd_T72]
theorem rdP' (pre suf : List PF) (y : PF) : rd_T76 (pre ++ [y] ++ suf) ((pre.length : Int) + 1 - 1) = y := by simp [rd_T76]
theorem snoc_cases {α : Type} (l : List α) : l = [] ∨ ∃ b x, l = b ++ [x] := by
  rcases List.eq_nil_or_concat l with h | ⟨b, x, h⟩
  · exact .inl h
  · exact .inr ⟨b, x, by rw [h, List.concat_eq_append]⟩
theorem within_eq (a b c : Int) : lsa_within.f a b c = some (decide (b ≤ a ∧ a ≤ c)) := by
  unfold lsa_within.f
  by_cases h : a ≥ b
  · rw [if_pos h]; congr 1; exact decide_eq_decide.2 ⟨fun h2 => ⟨h, h2⟩, fun h2 => h2.2⟩
  · rw [if_neg h]; congr 1; exact (decide_eq_false (fun h2 => h h2.1)).symm
theorem adj_eq (o : Int) (x : AD) : lsa_adjacency.f o x.f0 x.f1 x.f2 = some (decide (adOk o x)) := by
  unfold lsa_adjacency.f adOk
  simp only [within_eq, Option.bind_some]
  by_cases h1 : 0 ≤ x.f1 ∧ x.f1 ≤ 255
  · by_cases h2 : 0 ≤ x.f0 ∧ x.f0 ≤ 63
    · by_cases h3 : x.f0 = o
      · simp [h1, h2, h3]
      · simp [h1, h2, h3]
    · simp [h1, h2]
  · simp [h1]
theorem mask32 (n : Int) (h0 : 0 ≤ n) (h1 : n < 18446744073709551616) : Go.bits .and .u64 n 4294967295 = n % 4294967296 := by
  have h := bits_mask .u64 64 (by decide) (fun n h0 h1 => by rw [IntKind.wrap_u64]; omega) 32 (by decide) n h0 (by omega)
  exact h
theorem prefix_eq (p : PF) (h : 0 ≤ p.f0 ∧ p.f0 ≤ 4294967295) : lsa_prefix.f p.f0 p.f1 = some (decide (pfOk p)) := by
  unfold lsa_prefix.f pfOk
  simp only [within_eq, Option.bind_some]
  by_cases h1 : 0 ≤ p.f1 ∧ p.f1 ≤ 32
  · have hw : IntKind.u64.wrap p.f0 = p.f0 := by rw [IntKind.wrap_u64]; omega
    simp only [h1, and_self, decide_true, if_true, h, true_and]
    congr 1
    rw [hw]
    unfold shl
    rw [Nat.min_eq_left (show p.f1.toNat ≤ IntKind.bits .u64 by simp [IntKind.bits]; omega)]
    obtain ⟨n, hn⟩ := Int.eq_ofNat_of_zero_le h1.1
    have hn32 : n ≤ 32 := by omega
    rw [hn, Int.toNat_natCast]
    have hp : (2 : Int) ^ n * 2 ^ (32 - n) = 4294967296 := by rw [← Int.pow_add, show n + (32 - n) = 32 by omega]; rfl
    have hq : (0 : Int) < 2 ^ n := Int.pow_pos (by decide)
    have hle : (2 : Int) ^ n ≤ 4294967296 := by
      have : (0 : Int) < 2 ^ (32 - n) := Int.pow_pos (by decide)
      rw [← hp]
      have h1' : (1 : Int) ≤ 2 ^ (32 - n) := by omega
      calc (2 : Int) ^ n = 2 ^ n * 1 := by omega
          _ ≤ 2 ^ n * 2 ^ (32 - n) := Int.mul_le_mul_of_nonneg_left h1' (by omega)
    have hb : 0 ≤ p.f0 * 2 ^ n ∧ p.f0 * 2 ^ n < 18446744073709551616 := by
      refine ⟨Int.mul_nonneg h.1 (by omega), ?_⟩
      have : p.f0 * 2 ^ n ≤ 4294967295 * 4294967296 := Int.mul_le_mul h.2 hle (by omega) (by decide)
      omega
    rw [IntKind.wrap_u64, Int.emod_eq_of_lt hb.1 hb.2, mask32 _ hb.1 hb.2]
    rw [show ((32 : Int) - (n : Int)).toNat = 32 - n by omega]
    refine dec_of ?_
    rw [beq_iff_eq]
    rw [← hp, Int.mul_comm p.f0, Int.mul_emod_mul_of_pos _ _ hq]
    constructor
    · intro e
      rcases Int.mul_eq_zero.1 e with e | e
      · omega
      · exact e
    · intro e; rw [e, Int.mul_zero]
  · simp [h1]
theorem less_eq (x y : PF) : lsa_less.f x.f0 x.f1 y.f0 y.f1 = some (decide (pfLt x y)) := by
  unfold lsa_less.f pfLt
  by_cases h1 : x.f0 < y.f0
  · simp [h1]
  · by_cases h2 : x.f0 = y.f0
    · simp [h1, h2]
    · simp [h1, h2]
/-- The prefixes hold numbers of 32 bits. -/
def G32 (l : List PF) : Prop := ∀ p ∈ l, 0 ≤ p.f0 ∧ p.f0 ≤ 4294967295
theorem valid_l1 (o s age : Int) (ov : Bool) (ad : List AD) (pf : List PF) (hl : pf.length ≤ 1000) (hG : G32 pf) : ∀ (suf pre : List PF) (k : Nat), pf = pre ++ suf → 2 * suf.length + 1 ≤ k →
    lsa_Valid.l1 k pf (pf.length : Int) (pre.length : Int) o s age ov ad pf = some (decide (Row pfOk pfLt pre.getLast? suf))
  | [], pre, k, he, hk => by
    obtain ⟨k, rfl⟩ : ∃ j, k = j + 1 := ⟨k - 1, by omega⟩
    have : pf.length = pre.length := by rw [he]; simp
    simp only [lsa_Valid.l1]
    rw [if_neg (by omega)]
    exact congrArg some (decide_eq_true trivial).symm
  | x :: suf, pre, k, he, hk => by
    obtain ⟨k, rfl⟩ : ∃ j, k = j + 2 := ⟨k - 2, by simp at hk; omega⟩
    have hlen : pf.length = pre.length + suf.length + 1 := by rw [he]; simp; omega
    have hx : rd_T76 pf (pre.length : Int) = x := by rw [he]; exact rdP pre suf x
    have hg : 0 ≤ x.f0 ∧ x.f0 ≤ 4294967295 := hG x (by rw [he]; simp)
    have ih := valid_l1 o s age ov ad pf hl hG suf (pre ++ [x]) k (by rw [he]; simp) (by simp at hk; omega)
    rw [show (((pre ++ [x]).length : Nat) : Int) = pre.length + 1 by simp, List.getLast?_append, List.getLast?_singleton, Option.some_or] at ih
    simp only [lsa_Valid.l1]
    rw [if_pos (by omega), if_pos (by omega), if_pos (by omega), hx, prefix_eq x hg]
    simp only [Option.bind_some]
    have hj : ∀ b : Bool, lsa_Valid.j5 (k + 1) pf (pf.length : Int) (pre.length : Int) b o s age ov ad pf = some (!b && decide (Row pfOk pfLt (some x) suf)) := by
      intro b
      simp only [lsa_Valid.j5]
      cases b with
      | true => simp
      | false => simp only [Bool.false_eq_true, if_false]; rw [w64 (by omega) (by omega), ih]; rfl
    simp only [hj]
    by_cases hok : pfOk x
    · rw [decide_eq_true hok, if_pos rfl]
      rcases snoc_cases pre with rfl | ⟨pre', y, rfl⟩
      · rw [if_neg (by simp)]
        simp only [Bool.not_false, Bool.true_and]
        congr 1
        refine decide_eq_decide.2 ?_
        simp [Row, hok]
      · have hlp : (pre' ++ [y]).length = pre'.length + 1 := by simp
        rw [if_pos (by rw [hlp]; omega), w64 (by rw [hlp]; omega) (by rw [hlp]; omega), if_pos (by rw [hlp]; omega), if_pos (by rw [hlp]; omega)]
        have hy : rd_T76 pf (((pre' ++ [y]).length : Int) - 1) = y := by
          rw [he, hlp]; push_cast; exact rdP' pre' (x :: suf) y
        rw [hy, less_eq]
        simp only [Option.bind_some, Bool.not_not]
        congr 1
        rw [← Bool.decide_and]
        refine decide_eq_decide.2 ?_
        simp [Row, hok]
    · rw [decide_eq_false hok]
      simp only [Bool.false_eq_true, if_false, Bool.not_true, Bool.false_and]
      congr 1
      exact (decide_eq_false (fun h => hok h.1)).symm
theorem valid_l0 (o s age : Int) (ov : Bool) (ad : List AD) (pf : List PF) (hl : ad.length ≤ 1000) (hp : pf.length ≤ 1000) (hG : G32 pf) : ∀ (suf pre : List AD) (k : Nat), ad = pre ++ suf → 2 * suf.length + 2 * pf.length + 2 ≤ k →
    lsa_Valid.l0 k ad (ad.length : Int) (pre.length : Int) o s age ov ad pf = some (decide (Row (adOk o) adLt pre.getLast? suf ∧ Row pfOk pfLt none pf))
  | [], pre, k, he, hk => by
    obtain ⟨k, rfl⟩ : ∃ j, k = j + 1 := ⟨k - 1, by omega⟩
    have : ad.length = pre.length := by rw [he]; simp
    simp only [lsa_Valid.l0]
    rw [if_neg (by omega)]
    have h := valid_l1 o s age ov ad pf hp hG pf [] k rfl (by simp at hk; omega)
    simp only [List.length_nil, List.getLast?_nil] at h
    refine h.trans (congrArg some (decide_eq_decide.2 ?_))
    simp [Row]
  | x :: suf, pre, k, he, hk => by
    obtain ⟨k, rfl⟩ : ∃ j, k = j + 2 := ⟨k - 2, by simp at hk; omega⟩
    have hlen : ad.length = pre.length + suf.length + 1 := by rw [he]; simp; omega
    have hx : rd_T72 ad (pre.length : Int) = x := by rw [he]; exact rdA pre suf x
    have ih := valid_l0 o s age ov ad pf hl hp hG suf (pre ++ [x]) k (by rw [he]; simp) (by simp at hk; omega)
    rw [show (((pre ++ [x]).length : Nat) : Int) = pre.length + 1 by simp, List.getLast?_append, List.getLast?_singleton, Option.some_or] at ih
    simp only [lsa_Valid.l0]
    rw [if_pos (by omega), if_pos (by omega), if_pos (by omega), hx, adj_eq]
    simp only [Option.bind_some]
    have hj : ∀ b : Bool, lsa_Valid.j3 (k + 1) ad (ad.length : Int) (pre.length : Int) b o s age ov ad pf = some (!b && decide (Row (adOk o) adLt (some x) suf ∧ Row pfOk pfLt none pf)) := by
      intro b
      simp only [lsa_Valid.j3]
      cases b with
      | true => simp
      | false => simp only [Bool.false_eq_true, if_false]; rw [w64 (by omega) (by omega), ih]; rfl
    simp only [hj]
    by_cases hok : adOk o x
    · rw [decide_eq_true hok, if_pos rfl]
      rcases snoc_cases pre with rfl | ⟨pre', y, rfl⟩
      · rw [if_neg (by simp)]
        simp only [Bool.not_false, Bool.true_and]
        congr 1
        refine decide_eq_decide.2 ?_
        simp [Row, hok]
      · have hlp : (pre' ++ [y]).length = pre'.length + 1 := by simp
        rw [if_pos (by rw [hlp]; omega), w64 (by rw [hlp]; omega) (by rw [hlp]; omega), if_pos (by rw [hlp]; omega), if_pos (by rw [hlp]; omega)]
        have hy : rd_T72 ad (((pre' ++ [y]).length : Int) - 1) = y := by
          rw [he, hlp]; push_cast; exact rdA' pre' (x :: suf) y
        rw [hy]
        congr 1
        rw [show (!decide (y.f1 ≥ x.f1)) = decide (adLt y x) from dec_of (by simp [adLt])]
        rw [← Bool.decide_and]
        refine decide_eq_decide.2 ?_
        simp [Row, hok, and_assoc]
    · rw [decide_eq_false hok]
      simp only [Bool.false_eq_true, if_false, Bool.not_true, Bool.false_and]
      congr 1
      exact (decide_eq_false (fun h => hok h.1.1)).symm
abbrev VL (o s age : Int) (ov : Bool) (ad : List AD) (pf : List PF) : Prop := LS.Valid ⟨o, s, age, ov, ad, pf⟩
theorem valid_eq (k : Nat) (o s age : Int) (ov : Bool) (ad : List AD) (pf : List PF) (hG : G32 pf) (hk : 1000 ≤ k) : lsa_Valid.f k o s age ov ad pf = some (decide (VL o s age ov ad pf)) := by
  obtain ⟨k, rfl⟩ : ∃ j, k = j + 2 := ⟨k - 2, by omega⟩
  have hV := LS.Valid.iff ⟨o, s, age, ov, ad, pf⟩
  simp only at hV
  have hno : ∀ {p : Prop}, ¬ p → (VL o s age ov ad pf → p) → some false = some (decide (VL o s age ov ad pf)) := fun hp h => congrArg some (decide_eq_false (fun hv => hp (h hv))).symm
  have hj : ∀ b : Bool, (b = false → ad.length ≤ 256 ∧ pf.length ≤ 64) → lsa_Valid.j0 (k + 2) b o s age ov ad pf = some (!b && decide ((age = 3600 → ov = false ∧ ad.length = 0 ∧ pf.length = 0) ∧ Row (adOk o) adLt none ad ∧ Row pfOk pfLt none pf)) := by
    intro b hb
    cases b with
    | true => simp [lsa_Valid.j0]
    | false =>
      obtain ⟨h1, h2⟩ := hb rfl
      have h0 := valid_l0 o s age ov ad pf (by omega) (by omega) hG ad [] k rfl (by omega)
      simp only [List.length_nil, List.getLast?_nil] at h0
      have hj1 : ∀ c : Bool, lsa_Valid.j1 (k + 1) c o s age ov ad pf = some (!c && decide (Row (adOk o) adLt none ad ∧ Row pfOk pfLt none pf)) := by
        intro c
        simp only [lsa_Valid.j1]
        cases c with
        | true => simp
        | false => simp only [Bool.false_eq_true, if_false]; exact h0
      simp only [lsa_Valid.j0, Bool.false_eq_true, if_false, hj1]
      by_cases ha : age = 3600
      · rw [if_pos ha]
        cases ov with
        | true => simp [ha]
        | false =>
          simp only [Bool.false_eq_true, if_false]
          by_cases hz : (ad.length : Int) > 0
          · rw [if_pos hz]
            have : ¬ ad = [] := by intro e; rw [e] at hz; simp at hz
            simp [ha, this]
          · rw [if_neg hz]
            have e1 : ad = [] := List.eq_nil_of_length_eq_zero (by omega)
            by_cases hz2 : (pf.length : Int) > 0
            · have : ¬ pf = [] := by intro e; rw [e] at hz2; simp at hz2
              simp [ha, hz2, this]
            · have e2 : pf = [] := List.eq_nil_of_length_eq_zero (by omega)
              simp [ha, e1, e2]
      · rw [if_neg ha]
        simp [ha]
  unfold lsa_Valid.f
  simp only [within_eq, Option.bind_some]
  by_cases h1 : 0 ≤ o ∧ o ≤ 63
  · rw [decide_eq_true h1, if_pos rfl]
    by_cases h2 : 1 ≤ s ∧ s ≤ 1073741824
    · rw [decide_eq_true h2, if_pos rfl]
      by_cases h3 : 0 ≤ age ∧ age ≤ 3600
      · rw [decide_eq_true h3, if_pos rfl]
        by_cases h4 : (ad.length : Int) > 256
        · rw [if_pos h4, hj true (fun e => by cases e)]
          simp only [Bool.not_true, Bool.false_and]
          exact hno (p := ad.length ≤ 256) (by omega) (fun h => h.nad)
        · rw [if_neg h4]
          by_cases h5 : (pf.length : Int) > 64
          · rw [decide_eq_true h5, hj true (fun e => by cases e)]
            simp only [Bool.not_true, Bool.false_and]
            exact hno (p := pf.length ≤ 64) (by omega) (fun h => h.npf)
          · rw [decide_eq_false h5, hj false (fun _ => ⟨by omega, by omega⟩)]
            simp only [Bool.not_false, Bool.true_and]
            congr 1
            refine decide_eq_decide.2 ?_
            rw [show VL o s age ov ad pf ↔ _ from hV]
            constructor
            · rintro ⟨g1, g2, g3⟩; exact ⟨h1, h2, h3, by omega, by omega, g2, g3, g1⟩
            · rintro ⟨_, _, _, _, _, g2, g3, g1⟩; exact ⟨g1, g2, g3⟩
      · rw [decide_eq_false h3]
        simp only [Bool.false_eq_true, if_false]
        rw [hj true (fun e => by cases e)]
        exact hno h3 (fun h => h.age)
    · rw [decide_eq_false h2]
      simp only [Bool.false_eq_true, if_false]
      rw [hj true (fun e => by cases e)]
      exact hno h2 (fun h => h.s)
  · rw [decide_eq_false h1]
    simp only [Bool.false_eq_true, if_false]
    rw [hj true (fun e => by cases e)]
    exact hno h1 (fun h => h.o)
/-! ### the reference -/
theorem mask1 (n : Int) (h0 : 0 ≤ n) (h1 : n < 4294967296) : Go.bits .and .u32 n 1 = n % 2 := by
  have h := bits_mask .u32 32 (by decide) (fun n h0 h1 => by rw [IntKind.wrap_u32]; omega) 1 (by decide) n h0 (by omega)
  exact h
theorem rprefix_l0 (addr len : Int) (h0 : 0 ≤ addr) (h1 : addr ≤ 4294967295) : ∀ (d k : Nat) (x : Int), 0 ≤ x → x + d = 32 → d < k → waypointref32_Prefix.l0 k x addr len = some (decide (addr % 2 ^ d = 0)) := by
  intro d
  induction d with
  | zero =>
    intro k x hx hd hk
    obtain ⟨k, rfl⟩ : ∃ j, k = j + 1 := ⟨k - 1, by omega⟩
    simp only [waypointref32_Prefix.l0]
    rw [if_neg (by omega)]
    simp
  | succ d ih =>
    intro k x hx hd hk
    obtain ⟨k, rfl⟩ : ∃ j, k = j + 1 := ⟨k - 1, by omega⟩
    obtain ⟨a, rfl⟩ := Int.eq_ofNat_of_zero_le h0
    simp only [waypointref32_Prefix.l0]
    rw [if_pos (by omega), w64 (by omega) (by omega), if_pos (by omega)]
    have hs : shr .u32 (a : Int) (31 - x) = ((a / 2 ^ d : Nat) : Int) := by
      unfold shr
      rw [show min (31 - x).toNat (IntKind.bits .u32) = d by simp [IntKind.bits]; omega]
      push_cast
      rfl
    have hlt : a / 2 ^ d ≤ a := Nat.div_le_self _ _
    rw [hs, mask1 _ (Int.natCast_nonneg _) (by have : ((a / 2 ^ d : Nat) : Int) ≤ (a : Int) := Int.ofNat_le.2 hlt; omega)]
    have hm := Nat.mod_pow_succ (x := a) (b := 2) (k := d)
    have e1 : ((a : Int) % 2 ^ (d + 1) = 0) ↔ a % 2 ^ (d + 1) = 0 := by
      rw [show ((2 : Int) ^ (d + 1)) = ((2 ^ (d + 1) : Nat) : Int) by push_cast; rfl]; exact_mod_cast Iff.rfl
    have e2 : ((a : Int) % 2 ^ d = 0) ↔ a % 2 ^ d = 0 := by
      rw [show ((2 : Int) ^ d) = ((2 ^ d : Nat) : Int) by push_cast; rfl]; exact_mod_cast Iff.rfl
    have hp : 0 < 2 ^ d := Nat.pow_pos (by decide)
    by_cases c : ((a / 2 ^ d : Nat) : Int) % 2 = 1
    · rw [if_pos c]
      have c' : a / 2 ^ d % 2 = 1 := by omega
      rw [c', Nat.mul_one] at hm
      congr 1
      refine (decide_eq_false ?_).symm
      rw [e1]
      omega
    · rw [if_neg c, w64 (by omega) (by omega), ih k (x + 1) (by omega) (by omega) (by omega)]
      have c' : a / 2 ^ d % 2 = 0 := by omega
      rw [c', Nat.mul_zero, Nat.add_zero] at hm
      congr 1
      refine decide_eq_decide.2 ?_
      rw [e1, e2, hm]; exact Iff.rfl
theorem rprefix_eq (k : Nat) (p : PF) (h : 0 ≤ p.f0 ∧ p.f0 ≤ 4294967295) (hk : 40 ≤ k) : waypointref32_Prefix.f k p.f0 p.f1 = some (decide (pfOk p)) := by
  obtain ⟨k, rfl⟩ : ∃ j, k = j + 1 := ⟨k - 1, by omega⟩
  unfold waypointref32_Prefix.f pfOk
  by_cases h1 : p.f1 < 0
  · rw [if_pos h1]
    simp only [waypointref32_Prefix.j0, if_true]
    congr 1
    exact (decide_eq_false (fun hh => by omega)).symm
  · rw [if_neg h1]
    by_cases h2 : p.f1 > 32
    · rw [decide_eq_true h2]
      simp only [waypointref32_Prefix.j0, if_true]
      congr 1
      exact (decide_eq_false (fun hh => by omega)).symm
    · rw [decide_eq_false h2]
      simp only [waypointref32_Prefix.j0, Bool.false_eq_true, if_false]
      rw [rprefix_l0 p.f0 p.f1 h.1 h.2 (32 - p.f1).toNat k p.f1 (by omega) (by omega) (by omega)]
      congr 1
      refine decide_eq_decide.2 ⟨fun e => ⟨⟨by omega, by omega⟩, h, e⟩, fun e => e.2.2⟩
end Go.Proofs.Ytdkfhlfojleejaa.HLsc
namespace Go.Proofs.Ytdkfhlfojleejaa.HLsc
open Go.RowKit Go.Proofs.YtdkfhlfojleejaaW.PrintWords Go.Proofs.YtdkfhlfojleejaaW.PrintLast Go.Proofs.YtdkfhlfojleejaaW.PrintMore
open Go.Proofs.Ytdkfhlfojleejaa.LM Go.Proofs.Ytdkfhlfojleejaa.LS
set_option linter.unusedVariables false
set_option linter.unusedSimpArgs false
theorem ite_both {c : Prop} [Decidable c] {α : Type} {a b v : α} (h1 : c → a = v) (h2 : ¬ c → b = v) : (if c then a else b) = v := by
  by_cases h : c
  · rw [if_pos h]; exact h1 h
  · rw [if_neg h]; exact h2 h
theorem row_some {α : Type} {ok : α → Prop} {lt : α → α → Prop} (x y : α) (l : List α) : Row ok lt (some y) (x :: l) ↔ ok x ∧ lt y x ∧ Row ok lt (some x) l :=
  ⟨fun h => ⟨h.1, h.2.1 y rfl, h.2.2⟩, fun h => ⟨h.1, fun z e => by cases e; exact h.2.1, h.2.2⟩⟩
theorem row_none {α : Type} {ok : α → Prop} {lt : α → α → Prop} (x : α) (l : List α) : Row ok lt none (x :: l) ↔ ok x ∧ Row ok lt (some x) l :=
  ⟨fun h => ⟨h.1, h.2.2⟩, fun h => ⟨h.1, (fun z e => by cases e), h.2⟩⟩
abbrev PG (age : Int) (ov : Bool) (ad : List AD) (pf : List PF) : Prop := age = 3600 → ov = false ∧ ad.length = 0 ∧ pf.length = 0
theorem rvalid_l1 (o s age : Int) (ov : Bool) (ad : List AD) (pf : List PF) (hl : pf.length ≤ 1000) (hG : G32 pf) : ∀ (suf pre : List PF) (k : Nat), pf = pre ++ suf → 2 * suf.length + 42 ≤ k →
    waypointref32_Valid.l1 k (pre.length : Int) o s age ov ad pf = some (decide (Row pfOk pfLt pre.getLast? suf ∧ PG age ov ad pf))
  | [], pre, k, he, hk => by
    obtain ⟨k, rfl⟩ : ∃ j, k = j + 1 := ⟨k - 1, by omega⟩
    have : pf.length = pre.length := by rw [he]; simp
    simp only [waypointref32_Valid.l1]
    rw [if_neg (by omega)]
    by_cases ha : age = 3600
    · rw [if_pos ha]
      cases ov with
      | true => simp [PG, ha]
      | false =>
        simp only [Bool.false_eq_true, if_false]
        by_cases hz : (ad.length : Int) = 0
        · rw [if_pos hz]
          have e1 : ad = [] := List.eq_nil_of_length_eq_zero (by omega)
          congr 1
          refine dec_of ?_
          simp only [Row, PG, e1]
          simp [ha]
        · rw [if_neg hz]
          congr 1
          refine (decide_eq_false ?_).symm
          rintro ⟨_, h⟩
          have := (h ha).2.1
          omega
    · rw [if_neg ha]
      congr 1
      exact (decide_eq_true ⟨trivial, fun e => absurd e ha⟩).symm
  | x :: suf, pre, k, he, hk => by
    obtain ⟨k, rfl⟩ : ∃ j, k = j + 2 := ⟨k - 2, by simp at hk; omega⟩
    have hlen : pf.length = pre.length + suf.length + 1 := by rw [he]; simp; omega
    have hx : rd_T76 pf (pre.length : Int) = x := by rw [he]; exact rdP pre suf x
    have hg : 0 ≤ x.f0 ∧ x.f0 ≤ 4294967295 := hG x (by rw [he]; simp)
    have ih := rvalid_l1 o s age ov ad pf hl hG suf (pre ++ [x]) k (by rw [he]; simp) (by simp at hk; omega)
    rw [show (((pre ++ [x]).length : Nat) : Int) = pre.length + 1 by simp, List.getLast?_append, List.getLast?_singleton, Option.some_or] at ih
    simp only [waypointref32_Valid.l1]
    rw [if_pos (by omega), if_pos (by omega), hx, rprefix_eq (k + 1) x hg (by simp at hk; omega)]
    simp only [Option.bind_some]
    have hj : ∀ b : Bool, waypointref32_Valid.j4 (k + 1) (pre.length : Int) b o s age ov ad pf = some (!b && decide (Row pfOk pfLt (some x) suf ∧ PG age ov ad pf)) := by
      intro b
      simp only [waypointref32_Valid.j4]
      cases b with
      | true => simp
      | false => simp only [Bool.false_eq_true, if_false]; rw [w64 (by omega) (by omega), ih]; rfl
    simp only [hj]
    by_cases hok : pfOk x
    · rw [decide_eq_true hok, if_pos rfl]
      rcases snoc_cases pre with rfl | ⟨pre', y, rfl⟩
      · rw [if_neg (by simp)]
        simp only [Bool.not_false, Bool.true_and]
        congr 1
        refine decide_eq_decide.2 ?_
        rw [List.getLast?_nil, row_none]
        simp [hok]
      · have hlp : (pre' ++ [y]).length = pre'.length + 1 := by simp
        rw [if_pos (by rw [hlp]; omega), w64 (by rw [hlp]; omega) (by rw [hlp]; omega), if_pos (by rw [hlp]; omega), if_pos (by rw [hlp]; omega)]
        have hy : rd_T76 pf (((pre' ++ [y]).length : Int) - 1) = y := by
          rw [he, hlp]; push_cast; exact rdP' pre' (x :: suf) y
        rw [hy]
        have e : (decide (Row pfOk pfLt (pre' ++ [y]).getLast? (x :: suf) ∧ PG age ov ad pf)) = (decide (pfLt y x) && decide (Row pfOk pfLt (some x) suf ∧ PG age ov ad pf)) := by
          rw [← Bool.decide_and]
          refine decide_eq_decide.2 ?_
          rw [List.getLast?_append, List.getLast?_singleton, Option.some_or, row_some]
          simp [hok, and_assoc]
        rw [e]
        refine ite_both (fun c => ?_) (fun c => ite_both (fun c2 => ?_) (fun c2 => ?_))
        · have : ¬ pfLt y x := by unfold pfLt; omega
          simp [this]
        · have : (!decide (x.f1 ≤ y.f1)) = decide (pfLt y x) := dec_of (by simp only [Bool.not_eq_true', decide_eq_false_iff_not]; unfold pfLt; omega)
          rw [this]
        · have : pfLt y x := by unfold pfLt; omega
          simp [this]
    · rw [decide_eq_false hok]
      simp only [Bool.false_eq_true, if_false]
      congr 1
      exact (decide_eq_false (fun h => hok h.1.1)).symm
theorem rvalid_l0 (o s age : Int) (ov : Bool) (ad : List AD) (pf : List PF) (hl : ad.length ≤ 1000) (hp : pf.length ≤ 1000) (hG : G32 pf) : ∀ (suf pre : List AD) (k : Nat), ad = pre ++ suf → 2 * suf.length + 2 * pf.length + 43 ≤ k →
    waypointref32_Valid.l0 k (pre.length : Int) o s age ov ad pf = some (decide (Row (adOk o) adLt pre.getLast? suf ∧ (Row pfOk pfLt none pf ∧ PG age ov ad pf)))
  | [], pre, k, he, hk => by
    obtain ⟨k, rfl⟩ : ∃ j, k = j + 1 := ⟨k - 1, by omega⟩
    have : ad.length = pre.length := by rw [he]; simp
    simp only [waypointref32_Valid.l0]
    rw [if_neg (by omega)]
    have h := rvalid_l1 o s age ov ad pf hp hG pf [] k rfl (by simp at hk; omega)
    simp only [List.length_nil, List.getLast?_nil] at h
    refine h.trans (congrArg some (decide_eq_decide.2 ?_))
    simp [Row]
  | x :: suf, pre, k, he, hk => by
    obtain ⟨k, rfl⟩ : ∃ j, k = j + 2 := ⟨k - 2, by simp at hk; omega⟩
    have hlen : ad.length = pre.length + suf.length + 1 := by rw [he]; simp; omega
    have hx : rd_T72 ad (pre.length : Int) = x := by rw [he]; exact rdA pre suf x
    have ih := rvalid_l0 o s age ov ad pf hl hp hG suf (pre ++ [x]) k (by rw [he]; simp) (by simp at hk; omega)
    rw [show (((pre ++ [x]).length : Nat) : Int) = pre.length + 1 by simp, List.getLast?_append, List.getLast?_singleton, Option.some_or] at ih
    simp only [waypointref32_Valid.l0]
    rw [if_pos (by omega), if_pos (by omega), hx]
    have hj : ∀ b : Bool, waypointref32_Valid.j2 (k + 1) (pre.length : Int) b o s age ov ad pf = some (!b && decide (Row (adOk o) adLt (some x) suf ∧ (Row pfOk pfLt none pf ∧ PG age ov ad pf))) := by
      intro b
      simp only [waypointref32_Valid.j2]
      cases b with
      | true => simp
      | false => simp only [Bool.false_eq_true, if_false]; rw [w64 (by omega) (by omega), ih]; rfl
    simp only [hj]
    have bad : ¬ adOk o x → some (!true && decide (Row (adOk o) adLt (some x) suf ∧ (Row pfOk pfLt none pf ∧ PG age ov ad pf))) = some (decide (Row (adOk o) adLt pre.getLast? (x :: suf) ∧ (Row pfOk pfLt none pf ∧ PG age ov ad pf))) := by
      intro hn
      rw [Bool.not_true, Bool.false_and]
      exact congrArg some (decide_eq_false (fun h => hn h.1.1)).symm
    refine ite_both (fun h1 => bad (by unfold adOk; omega)) (fun h1 => ite_both (fun h2 => bad (by unfold adOk; omega)) (fun h2 => ite_both (fun h3 => bad (by unfold adOk; omega)) (fun h3 => ite_both (fun h4 => bad (by unfold adOk; omega)) (fun h4 => ite_both (fun h5 => bad (by unfold adOk; omega)) (fun h5 => ite_both (fun h6 => bad (by unfold adOk; omega)) (fun h6 => ite_both (fun h7 => bad (by unfold adOk; omega)) (fun h7 => ?_)))))))
    have hok : adOk o x := by unfold adOk; omega
    rcases snoc_cases pre with rfl | ⟨pre', y, rfl⟩
    · rw [if_neg (by simp)]
      simp only [Bool.not_false, Bool.true_and]
      congr 1
      refine decide_eq_decide.2 ?_
      rw [List.getLast?_nil, row_none]
      simp [hok]
    · have hlp : (pre' ++ [y]).length = pre'.length + 1 := by simp
      rw [if_pos (by rw [hlp]; omega), w64 (by rw [hlp]; omega) (by rw [hlp]; omega), if_pos (by rw [hlp]; omega), if_pos (by rw [hlp]; omega)]
      have hy : rd_T72 ad (((pre' ++ [y]).length : Int) - 1) = y := by
        rw [he, hlp]; push_cast; exact rdA' pre' (x :: suf) y
      rw [hy]
      congr 1
      rw [show (!decide (x.f1 ≤ y.f1)) = decide (adLt y x) from dec_of (by simp [adLt])]
      rw [← Bool.decide_and]
      refine decide_eq_decide.2 ?_
      rw [List.getLast?_append, List.getLast?_singleton, Option.some_or, row_some]
      simp [hok, and_assoc]
theorem rvalid_eq (k : Nat) (o s age : Int) (ov : Bool) (ad : List AD) (pf : List PF) (hG : G32 pf) (hk : 1000 ≤ k) : waypointref32_Valid.f k o s age ov ad pf = some (decide (VL o s age ov ad pf)) := by
  obtain ⟨k, rfl⟩ : ∃ j, k = j + 1 := ⟨k - 1, by omega⟩
  have hV := LS.Valid.iff ⟨o, s, age, ov, ad, pf⟩
  simp only at hV
  unfold waypointref32_Valid.f
  simp only [waypointref32_Valid.j0, if_true]
  have bad : ∀ {p : Prop}, ¬ p → (VL o s age ov ad pf → p) → some false = some (decide (VL o s age ov ad pf)) := fun hp h => congrArg some (decide_eq_false (fun hv => hp (h hv))).symm
  refine ite_both (fun h => bad (p := 0 ≤ o) (by omega) (fun v => v.o.1)) (fun h1 => ite_both (fun h => bad (p := o ≤ 63) (by omega) (fun v => v.o.2)) (fun h2 => ite_both (fun h => bad (p := 1 ≤ s) (by omega) (fun v => v.s.1)) (fun h3 => ite_both (fun h => bad (p := s ≤ 1073741824) (by omega) (fun v => v.s.2)) (fun h4 => ite_both (fun h => bad (p := 0 ≤ age) (by omega) (fun v => v.age.1)) (fun h5 => ite_both (fun h => bad (p := age ≤ 3600) (by omega) (fun v => v.age.2)) (fun h6 => ite_both (fun h => bad (p := ad.length ≤ 256) (by omega) (fun v => v.nad)) (fun h7 => ite_both (fun h => bad (p := pf.length ≤ 64) (by simp at h; omega) (fun v => v.npf)) (fun h8 => ?_))))))))
  have h8' : pf.length ≤ 64 := by simp at h8; omega
  have h0 := rvalid_l0 o s age ov ad pf (by omega) (by omega) hG ad [] k rfl (by omega)
  simp only [List.length_nil, List.getLast?_nil] at h0
  refine h0.trans (congrArg some (decide_eq_decide.2 ?_))
  rw [show VL o s age ov ad pf ↔ _ from hV]
  constructor
  · rintro ⟨g1, g2, g3⟩; exact ⟨⟨by omega, by omega⟩, ⟨by omega, by omega⟩, ⟨by omega, by omega⟩, by omega, by omega, g1, g2, g3⟩
  · rintro ⟨_, _, _, _, _, g1, g2, g3⟩; exact ⟨g1, g2, g3⟩
end Go.Proofs.Ytdkfhlfojleejaa.HLsc
