/-
  Chapter 32, plain: the order of advertisements; Same.
-/
import Derived.Test.YtdkfhlfojleejaaLsaI
import Derived.Test.YtdkfhlfojleejaaLsaM
import Derived.Test.YtdkfhlfojleejaaLsaL
import Derived.Test.YtdkfhlfojleejaaHLscx6
import Derived.Test.YtdkfhlfojleejaaHLscx5
import Derived.Test.YtdkfhlfojleejaaHLscx7
import Derived.Test.YtdkfhlfojleejaaHLscx10
import Derived.Test.YtdkfhlfojleejaaHLscx9
import Derived.Test.YtdkfhlfojleejaaHLscx8
namespace Go.Proofs.Ytdkfhlfojleejaa.HLsc
open Go.RowKit Go.Proofs.YtdkfhlfojleejaaW.PrintWords Go.Proofs.YtdkfhlfojleejaaW.PrintLast Go.Proofs.YtdkfhlfojleejaaW.PrintMore
open Go.Proofs.Ytdkfhlfojleejaa.LM Go.Proofs.Ytdkfhlfojleejaa.LS
set_option linter.unusedVariables false
set_option linter.unusedSimpArgs false
def yg (a : L) : L := { a with age := 0 }
theorem yg_valid {a : L} (h : Valid a) : Valid (yg a) := ⟨h.o, h.s, ⟨(show (0 : Int) ≤ 0 by decide), (show (0 : Int) ≤ 3600 by decide)⟩, h.nad, h.npf, h.ad, h.pf, fun e => absurd (show (0 : Int) = 3600 from e) (by decide)⟩
theorem young_eq (k : Nat) (a : L) (hG : G32 a.pf) (hv : Valid a) (hk : 100000000 ≤ k) : lsa_young.f k a.o a.s a.age a.ov a.ad a.pf = some (enc (yg a)) := by
  unfold lsa_young.f
  rw [encode_eq k a.o a.s 0 a.ov a.ad a.pf hG hk, if_pos (show VL a.o a.s 0 a.ov a.ad a.pf from yg_valid hv)]
  rfl
theorem purge_eq (a : L) : lsa_purge.f a.o a.s a.age a.ov a.ad a.pf = some (if a.age = 3600 then 1 else 0) := by
  unfold lsa_purge.f lsa_flag.f
  by_cases h : a.age = 3600
  · rw [if_pos h, h]; rfl
  · rw [if_neg h, beq_eq_false_iff_ne.2 h]; rfl
/-! ### byte by byte -/
def cmpE (a b : L) : Int := Lib.compareBytes (Lib.bytesOf (enc a)) (Lib.bytesOf (enc b))
theorem bytesOf_inj : ∀ {a b : List Int}, Bytes a → Bytes b → Lib.bytesOf a = Lib.bytesOf b → a = b
  | [], [], _, _, _ => rfl
  | [], _ :: _, _, _, h => by simp [Lib.bytesOf] at h
  | _ :: _, [], _, _, h => by simp [Lib.bytesOf] at h
  | x :: a, y :: b, ha, hb, h => by
    simp only [Lib.bytesOf, List.map_cons, List.cons.injEq] at h
    have h1 := ha x (by simp)
    have h2 := hb y (by simp)
    have e : x = y := by
      have := congrArg UInt8.toNat h.1
      rw [UInt8.toNat_ofNat', UInt8.toNat_ofNat'] at this
      omega
    rw [e, bytesOf_inj (fun z hz => ha z (by simp [hz])) (fun z hz => hb z (by simp [hz])) h.2]
theorem cmpE_zero {a b : L} (ha : Valid a) (hb : Valid b) : cmpE a b = 0 ↔ a = b := by
  constructor
  · intro h
    exact enc_inj ha hb (bytesOf_inj (enc_bytes a) (enc_bytes b) (LC.cmp_zero h))
  · rintro rfl
    exact LC.cmp_self _
/-- What Newer answers. -/
def newer (a b : L) : Int :=
  if Valid a ∧ Valid b then
    if a.s = b.s then (if (a.age = 3600 ↔ b.age = 3600) then cmpE (yg a) (yg b) else if a.age = 3600 then 1 else -1)
    else if a.s < b.s then -1 else 1
  else 0
theorem sign_eq (x : Int) (h0 : x ≠ 0) : mx (-1) (mn 1 x) = if x < 0 then -1 else 1 := by
  unfold mx mn
  split <;> split <;> split <;> omega
theorem newer_eq (k : Nat) (a b : L) (hG : G32 a.pf) (hG2 : G32 b.pf) (hk : 100000001 ≤ k) :
    lsa_Newer.f k a.o a.s a.age a.ov a.ad a.pf b.o b.s b.age b.ov b.ad b.pf = some (newer a b) := by
  obtain ⟨k, rfl⟩ : ∃ j, k = j + 1 := ⟨k - 1, by omega⟩
  unfold lsa_Newer.f newer
  rw [valid_eq (k + 1) _ _ _ _ _ _ hG (by omega), valid_eq (k + 1) _ _ _ _ _ _ hG2 (by omega)]
  simp only [Option.bind_some]
  simp only [lsa_Newer.j0, if_true]
  by_cases ha : Valid a
  · rw [decide_eq_true (show VL a.o a.s a.age a.ov a.ad a.pf from ha), if_pos rfl]
    by_cases hb : Valid b
    · rw [decide_eq_true (show VL b.o b.s b.age b.ov b.ad b.pf from hb), if_neg (by simp), if_pos (show Valid a ∧ Valid b from ⟨ha, hb⟩)]
      have s1 := ha.s
      have s2 := hb.s
      by_cases hs : a.s = b.s
      · rw [if_pos hs, if_pos hs, purge_eq, purge_eq]
        simp only [Option.bind_some]
        rw [young_eq k a hG ha (by omega), young_eq k b hG2 hb (by omega)]
        simp only [Option.bind_some]
        by_cases c1 : a.age = 3600
        · by_cases c2 : b.age = 3600
          · rw [if_pos c1, if_pos c2, if_pos rfl, if_pos (show (a.age = 3600 ↔ b.age = 3600) from ⟨fun _ => c2, fun _ => c1⟩)]
            unfold bytes_Compare.f
            rfl
          · rw [if_pos c1, if_neg c2, if_neg (by decide), if_neg (show ¬ (a.age = 3600 ↔ b.age = 3600) from fun h => c2 (h.1 c1)), if_pos c1, w64 (by omega) (by omega)]
            rfl
        · by_cases c2 : b.age = 3600
          · rw [if_neg c1, if_pos c2, if_neg (by decide), if_neg (show ¬ (a.age = 3600 ↔ b.age = 3600) from fun h => c1 (h.2 c2)), if_neg c1, w64 (by omega) (by omega)]
            rfl
          · rw [if_neg c1, if_neg c2, if_pos rfl, if_pos (show (a.age = 3600 ↔ b.age = 3600) from ⟨fun h => absurd h c1, fun h => absurd h c2⟩)]
            unfold bytes_Compare.f
            rfl
      · rw [if_neg hs, if_neg hs, w64 (by omega) (by omega)]
        unfold lsa_sign.f
        simp only [Option.bind_some]
        rw [sign_eq _ (by omega)]
        congr 1
        by_cases c : a.s < b.s
        · rw [if_pos (by omega), if_pos c]
        · rw [if_neg (by omega), if_neg c]
    · rw [decide_eq_false (show ¬ VL b.o b.s b.age b.ov b.ad b.pf from hb), if_pos (by simp), if_neg (show ¬ (Valid a ∧ Valid b) from fun h => hb h.2)]
  · rw [decide_eq_false (show ¬ VL a.o a.s a.age a.ov a.ad a.pf from ha), if_neg (by simp), if_neg (show ¬ (Valid a ∧ Valid b) from fun h => ha h.1)]
end Go.Proofs.Ytdkfhlfojleejaa.HLsc
namespace Go.Proofs.Ytdkfhlfojleejaa.HLsc
open Go.RowKit Go.Proofs.YtdkfhlfojleejaaW.PrintWords Go.Proofs.YtdkfhlfojleejaaW.PrintLast Go.Proofs.YtdkfhlfojleejaaW.PrintMore
open Go.Proofs.Ytdkfhlfojleejaa.LM Go.Proofs.Ytdkfhlfojleejaa.LS
set_option linter.unusedVariables false
set_option linter.unusedSimpArgs false
theorem cmpE_swap (a b : L) : cmpE b a = - cmpE a b := LC.cmp_swap _ _
theorem cmpE_range (a b : L) : cmpE a b = -1 ∨ cmpE a b = 0 ∨ cmpE a b = 1 := LC.cmp_range _ _
theorem cmpE_trans {a b c : L} (h1 : 0 ≤ cmpE a b) (h2 : 0 ≤ cmpE b c) : 0 ≤ cmpE a c ∧ (cmpE a b + cmpE b c = 0 ↔ cmpE a c = 0) := LC.cmp_trans h1 h2
theorem newer_v {a b : L} (ha : Valid a) (hb : Valid b) : newer a b = if a.s = b.s then (if (a.age = 3600 ↔ b.age = 3600) then cmpE (yg a) (yg b) else if a.age = 3600 then 1 else -1) else if a.s < b.s then -1 else 1 := by
  unfold newer; rw [if_pos ⟨ha, hb⟩]
theorem newer_range (a b : L) : newer a b = -1 ∨ newer a b = 0 ∨ newer a b = 1 := by
  have := cmpE_range (yg a) (yg b)
  unfold newer
  split
  · split
    · split
      · exact this
      · split <;> simp
    · split <;> simp
  · simp
theorem newer_swap {a b : L} (ha : Valid a) (hb : Valid b) : newer b a = - newer a b := by
  rw [newer_v ha hb, newer_v hb ha]
  by_cases hs : a.s = b.s
  · rw [if_pos hs, if_pos hs.symm]
    by_cases c1 : a.age = 3600 <;> by_cases c2 : b.age = 3600
    · rw [if_pos (show (a.age = 3600 ↔ b.age = 3600) from ⟨fun _ => c2, fun _ => c1⟩), if_pos (show (b.age = 3600 ↔ a.age = 3600) from ⟨fun _ => c1, fun _ => c2⟩)]
      exact cmpE_swap _ _
    · simp [c1, c2]
    · simp [c1, c2]
    · rw [if_pos (show (a.age = 3600 ↔ b.age = 3600) from ⟨fun h => absurd h c1, fun h => absurd h c2⟩), if_pos (show (b.age = 3600 ↔ a.age = 3600) from ⟨fun h => absurd h c2, fun h => absurd h c1⟩)]
      exact cmpE_swap _ _
  · rw [if_neg hs, if_neg (fun e => hs e.symm)]
    by_cases c : a.s < b.s
    · rw [if_pos c, if_neg (by omega)]; rfl
    · rw [if_neg c, if_pos (by omega)]
theorem newer_trans {a b c : L} (ha : Valid a) (hb : Valid b) (hc : Valid c) (h1 : 0 ≤ newer a b) (h2 : 0 ≤ newer b c) : 0 ≤ newer a c ∧ (newer a b + newer b c = 0 ↔ newer a c = 0) := by
  have r1 := newer_range a b
  have r2 := newer_range b c
  rw [newer_v ha hb] at h1 r1 ⊢
  rw [newer_v hb hc] at h2 r2 ⊢
  rw [newer_v ha hc]
  by_cases s1 : a.s = b.s
  · by_cases s2 : b.s = c.s
    · have s3 : a.s = c.s := s1.trans s2
      rw [if_pos s1] at h1 r1 ⊢
      rw [if_pos s2] at h2 r2 ⊢
      rw [if_pos s3]
      have T := @cmpE_trans (yg a) (yg b) (yg c)
      by_cases c1 : a.age = 3600 <;> by_cases c2 : b.age = 3600 <;> by_cases c3 : c.age = 3600 <;> simp only [c1, c2, c3, true_iff, false_iff, iff_true, iff_false, not_true, not_false_iff, if_true, if_false] at h1 h2 r1 r2 ⊢ <;> first | exact T h1 h2 | omega
    · rw [if_neg s2] at h2 r2 ⊢
      have s3 : a.s ≠ c.s := by omega
      rw [if_neg s3]
      by_cases c1 : b.s < c.s
      · rw [if_pos c1] at h2; omega
      · rw [if_neg c1, if_neg (by omega)]
        omega
  · rw [if_neg s1] at h1 r1 ⊢
    by_cases c1 : a.s < b.s
    · rw [if_pos c1] at h1; omega
    · rw [if_neg c1]
      by_cases s2 : b.s = c.s
      · rw [if_neg (show ¬ a.s = c.s by omega), if_neg (show ¬ a.s < c.s by omega)]
        omega
      · rw [if_neg s2] at h2 r2 ⊢
        by_cases c2 : b.s < c.s
        · rw [if_pos c2] at h2; omega
        · rw [if_neg c2, if_neg (show ¬ a.s = c.s by omega), if_neg (show ¬ a.s < c.s by omega)]
          omega
/-- The same advertisement, but for its age. -/
def Sm (a b : L) : Prop := a.o = b.o ∧ a.s = b.s ∧ (a.age = 3600 ↔ b.age = 3600) ∧ a.ov = b.ov ∧ a.ad = b.ad ∧ a.pf = b.pf
instance (a b : L) : Decidable (Sm a b) := by unfold Sm; infer_instance
theorem newer_zero {a b : L} (ha : Valid a) (hb : Valid b) : newer a b = 0 ↔ Sm a b := by
  rw [newer_v ha hb]
  unfold Sm
  by_cases s1 : a.s = b.s
  · rw [if_pos s1]
    by_cases c : (a.age = 3600 ↔ b.age = 3600)
    · rw [if_pos c, cmpE_zero (yg_valid ha) (yg_valid hb)]
      constructor
      · intro e
        have e1 := congrArg LS.L.o e
        have e3 := congrArg LS.L.ov e
        have e4 := congrArg LS.L.ad e
        have e5 := congrArg LS.L.pf e
        exact ⟨e1, s1, c, e3, e4, e5⟩
      · rintro ⟨h1, h2, h3, h4, h5, h6⟩
        exact LS.L.ext' h1 h2 rfl h4 h5 h6
    · rw [if_neg c]
      constructor
      · intro h; split at h <;> omega
      · rintro ⟨h1, h2, h3, h4⟩; exact absurd h3 c
  · rw [if_neg s1]
    constructor
    · intro h; split at h <;> omega
    · rintro ⟨h1, h2, h3⟩; exact absurd h2 s1
/-! ### lsa.Same -/
theorem adj_l0 (x y : List AD) (hl : x.length = y.length) (hb : x.length ≤ 1000) : ∀ (suf suf' pre pre' : List AD) (k : Nat), x = pre ++ suf → y = pre' ++ suf' → pre.length = pre'.length → suf.length + 1 ≤ k →
    api_Adjacency_48.l0 k y x (x.length : Int) (pre.length : Int) = some (decide (suf = suf'))
  | [], suf', pre, pre', k, he, he', hp, hk => by
    obtain ⟨k, rfl⟩ : ∃ j, k = j + 1 := ⟨k - 1, by omega⟩
    have h1 : x.length = pre.length := by rw [he]; simp
    have h2 : y.length = pre'.length + suf'.length := by rw [he']; simp
    simp only [api_Adjacency_48.l0]
    rw [if_neg (by omega), List.eq_nil_of_length_eq_zero (show suf'.length = 0 by omega)]
    simp
  | p :: suf, suf', pre, pre', k, he, he', hp, hk => by
    obtain ⟨k, rfl⟩ : ∃ j, k = j + 1 := ⟨k - 1, by omega⟩
    have h1 : x.length = pre.length + suf.length + 1 := by rw [he]; simp; omega
    have h2 : y.length = pre'.length + suf'.length := by rw [he']; simp
    match suf', he', h2 with
    | [], he', h2 => simp at h2; omega
    | q :: suf', he', h2 =>
      simp only [List.length_cons] at hk h2
      have hx : rd_T72 x (pre.length : Int) = p := by rw [he]; exact rdA pre suf p
      have hy : rd_T72 y (pre.length : Int) = q := by rw [he', hp]; exact rdA pre' suf' q
      have ih := adj_l0 x y hl hb suf suf' (pre ++ [p]) (pre' ++ [q]) k (by rw [he]; simp) (by rw [he']; simp) (by simp [hp]) (by omega)
      rw [show (((pre ++ [p]).length : Nat) : Int) = pre.length + 1 by simp] at ih
      simp only [api_Adjacency_48.l0]
      rw [if_pos (by omega), if_pos (by omega), if_pos (by omega), if_pos (by omega), hx, hy, w64 (by omega) (by omega), ih]
      unfold lsa_Same_1.f
      simp only [Option.bind_some]
      by_cases c : p = q
      · subst c; simp
      · rw [if_neg (by
          rw [AD.ext'] at c
          simp only [Bool.and_eq_true, beq_iff_eq]
          exact c)]
        simp [c]
theorem adjs_eq (k : Nat) (x y : List AD) (hb : x.length ≤ 1000) (hk : 1001 ≤ k) : api_Adjacency_48.f k x y = some (decide (x = y)) := by
  unfold api_Adjacency_48.f
  by_cases c : x.length = y.length
  · rw [if_pos (by omega)]
    have h := adj_l0 x y c hb x y [] [] k rfl rfl rfl (by omega)
    simpa using h
  · rw [if_neg (by omega)]
    congr 1
    exact (decide_eq_false (fun e => c (by rw [e]))).symm
theorem pfx_l0 (x y : List PF) (hl : x.length = y.length) (hb : x.length ≤ 1000) : ∀ (suf suf' pre pre' : List PF) (k : Nat), x = pre ++ suf → y = pre' ++ suf' → pre.length = pre'.length → suf.length + 1 ≤ k →
    api_Prefix_49.l0 k y x (x.length : Int) (pre.length : Int) = some (decide (suf = suf'))
  | [], suf', pre, pre', k, he, he', hp, hk => by
    obtain ⟨k, rfl⟩ : ∃ j, k = j + 1 := ⟨k - 1, by omega⟩
    have h1 : x.length = pre.length := by rw [he]; simp
    have h2 : y.length = pre'.length + suf'.length := by rw [he']; simp
    simp only [api_Prefix_49.l0]
    rw [if_neg (by omega), List.eq_nil_of_length_eq_zero (show suf'.length = 0 by omega)]
    simp
  | p :: suf, suf', pre, pre', k, he, he', hp, hk => by
    obtain ⟨k, rfl⟩ : ∃ j, k = j + 1 := ⟨k - 1, by omega⟩
    have h1 : x.length = pre.length + suf.length + 1 := by rw [he]; simp; omega
    have h2 : y.length = pre'.length + suf'.length := by rw [he']; simp
    match suf', he', h2 with
    | [], he', h2 => simp at h2; omega
    | q :: suf', he', h2 =>
      simp only [List.length_cons] at hk h2
      have hx : rd_T76 x (pre.length : Int) = p := by rw [he]; exact rdP pre suf p
      have hy : rd_T76 y (pre.length : Int) = q := by rw [he', hp]; exact rdP pre' suf' q
      have ih := pfx_l0 x y hl hb suf suf' (pre ++ [p]) (pre' ++ [q]) k (by rw [he]; simp) (by rw [he']; simp) (by simp [hp]) (by omega)
      rw [show (((pre ++ [p]).length : Nat) : Int) = pre.length + 1 by simp] at ih
      simp only [api_Prefix_49.l0]
      rw [if_pos (by omega), if_pos (by omega), if_pos (by omega), if_pos (by omega), hx, hy, w64 (by omega) (by omega), ih]
      unfold lsa_Same_2.f
      simp only [Option.bind_some]
      by_cases c : p = q
      · subst c; simp
      · rw [if_neg (by
          rw [PF.ext'] at c
          simp only [Bool.and_eq_true, beq_iff_eq]
          exact c)]
        simp [c]
theorem pfxs_eq (k : Nat) (x y : List PF) (hb : x.length ≤ 1000) (hk : 1001 ≤ k) : api_Prefix_49.f k x y = some (decide (x = y)) := by
  unfold api_Prefix_49.f
  by_cases c : x.length = y.length
  · rw [if_pos (by omega)]
    have h := pfx_l0 x y c hb x y [] [] k rfl rfl rfl (by omega)
    simpa using h
  · rw [if_neg (by omega)]
    congr 1
    exact (decide_eq_false (fun e => c (by rw [e]))).symm
theorem same_eq (k : Nat) (a b : L) (hb1 : a.ad.length ≤ 1000) (hb2 : a.pf.length ≤ 1000) (hk : 1001 ≤ k) : lsa_Same.f k a.o a.s a.age a.ov a.ad a.pf b.o b.s b.age b.ov b.ad b.pf = some (decide (Sm a b)) := by
  unfold lsa_Same.f
  rw [purge_eq, purge_eq, adjs_eq k _ _ hb1 hk, pfxs_eq k _ _ hb2 hk]
  simp only [Option.bind_some]
  have no : ¬ Sm a b → some false = some (decide (Sm a b)) := fun h => congrArg some (decide_eq_false h).symm
  refine ite_both (fun c1 => ite_both (fun c2 => ite_both (fun c3 => ite_both (fun c4 => ite_both (fun c5 => ?_) (fun c5 => no (fun h => c5 (decide_eq_true h.2.2.2.2.1)))) (fun c4 => no (fun h => c4 ?_))) (fun c3 => no (fun h => c3 (by rw [h.2.2.2.1]; exact beq_self_eq_true _)))) (fun c2 => no (fun h => c2 h.2.1))) (fun c1 => no (fun h => c1 h.1))
  · congr 1
    refine decide_eq_decide.2 ?_
    have c4' : (a.age = 3600 ↔ b.age = 3600) := by
      constructor
      · intro h; rw [if_pos h] at c4; by_cases h' : b.age = 3600
        · exact h'
        · rw [if_neg h'] at c4; omega
      · intro h; rw [if_pos h] at c4; by_cases h' : a.age = 3600
        · exact h'
        · rw [if_neg h'] at c4; omega
    exact ⟨fun h => ⟨c1, c2, c4', eq_of_beq c3, of_decide_eq_true c5, h⟩, fun h => h.2.2.2.2.2⟩
  · by_cases h' : a.age = 3600
    · rw [if_pos h', if_pos (h.2.2.1.1 h')]
    · rw [if_neg h', if_neg (fun e => h' (h.2.2.1.2 e))]
end Go.Proofs.Ytdkfhlfojleejaa.HLsc
