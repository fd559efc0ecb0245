/-
  Chapter 32, plain: which of two advertisements is newer.
-/
import Derived.Test.YtmknjjfdlkgidaaLsaI
import Derived.Test.YtmknjjfdlkgidaaLsaC
import Derived.Test.YtmknjjfdlkgidaaLsaK
import Derived.Test.YtmknjjfdlkgidaaHLscx10
import Derived.Test.YtmknjjfdlkgidaaHLscx9
import Derived.Test.YtmknjjfdlkgidaaHLscx6
namespace Go.Proofs.Ytmknjjfdlkgidaa.HLsc
open Go.RowKit Go.Proofs.YtmknjjfdlkgidaaW.PrintWords Go.Proofs.YtmknjjfdlkgidaaW.PrintLast Go.Proofs.YtmknjjfdlkgidaaW.PrintMore
open Go.Proofs.Ytmknjjfdlkgidaa.LM Go.Proofs.Ytmknjjfdlkgidaa.LS
set_option linter.unusedVariables false
set_option linter.unusedSimpArgs false
def yg (a : L) : L := { a with age := 0 }
theorem yg_valid {a : L} (h : Valid a) : Valid (yg a) := ⟨h.o, h.s, ⟨(show (0 : Int) ≤ 0 by decide), (show (0 : Int) ≤ 3600 by decide)⟩, h.nad, h.npf, h.ad, h.pf, fun e => absurd (show (0 : Int) = 3600 from e) (by decide)⟩
theorem young_eq (k : Nat) (a : L) (hG : G32 a.pf) (hv : Valid a) (hk : 100000000 ≤ k) : lsa_young.f k a.o a.s a.age a.ov a.ad a.pf = some (enc (yg a)) := by
  unfold lsa_young.f
  rw [encode_eq k a.o a.s 0 a.ov a.ad a.pf hG hk, if_pos (show VL a.o a.s 0 a.ov a.ad a.pf from yg_valid hv)]
  rfl
theorem purge_eq (a : L) : lsa_purge.f a.o a.s a.age a.ov a.ad a.pf = some (if a.age = 3600 then 1 else 0) := by
  unfold lsa_purge.f lsa_flag.f
  by_cases h : a.age = 3600
  · rw [if_pos h, h]; rfl
  · rw [if_neg h, beq_eq_false_iff_ne.2 h]; rfl
theorem purge_Eq (k : Nat) (o s age : Int) (ov : Bool) (ad : List AD) (pf : List PF) (hG : G32 pf) (hk : 1000 ≤ k) : lsa_Purge.f k o s age ov ad pf = some (if VL o s age ov ad pf then (o, s, 3600, false, [], [], 0) else (0, 0, 0, false, [], [], 1)) := by
  unfold lsa_Purge.f
  rw [valid_eq k o s age ov ad pf hG (by omega)]
  simp only [Option.bind_some]
  by_cases hv : VL o s age ov ad pf
  · rw [decide_eq_true hv, if_pos rfl, if_pos hv]
  · rw [decide_eq_false hv, if_neg (by simp), if_neg hv]
/-! ### byte by byte -/
def cmpE (a b : L) : Int := Lib.compareBytes (Lib.bytesOf (enc a)) (Lib.bytesOf (enc b))
theorem bytesOf_inj : ∀ {a b : List Int}, Bytes a → Bytes b → Lib.bytesOf a = Lib.bytesOf b → a = b
  | [], [], _, _, _ => rfl
  | [], _ :: _, _, _, h => by simp [Lib.bytesOf] at h
  | _ :: _, [], _, _, h => by simp [Lib.bytesOf] at h
  | x :: a, y :: b, ha, hb, h => by
    simp only [Lib.bytesOf, List.map_cons, List.cons.injEq] at h
    have h1 := ha x (by simp)
    have h2 := hb y (by simp)
    have e : x = y := by
      have := congrArg UInt8.toNat h.1
      rw [UInt8.toNat_ofNat', UInt8.toNat_ofNat'] at this
      omega
    rw [e, bytesOf_inj (fun z hz => ha z (by simp [hz])) (fun z hz => hb z (by simp [hz])) h.2]
theorem cmpE_zero {a b : L} (ha : Valid a) (hb : Valid b) : cmpE a b = 0 ↔ a = b := by
  constructor
  · intro h
    exact enc_inj ha hb (bytesOf_inj (enc_bytes a) (enc_bytes b) (LC.cmp_zero h))
  · rintro rfl
    exact LC.cmp_self _
/-- What Newer answers. -/
def newer (a b : L) : Int :=
  if Valid a ∧ Valid b then
    if a.s = b.s then (if (a.age = 3600 ↔ b.age = 3600) then cmpE (yg a) (yg b) else if a.age = 3600 then 1 else -1)
    else if a.s < b.s then -1 else 1
  else 0
theorem sign_eq (x : Int) (h0 : x ≠ 0) : mx (-1) (mn 1 x) = if x < 0 then -1 else 1 := by
  unfold mx mn
  split <;> split <;> split <;> omega
theorem newer_eq (k : Nat) (a b : L) (hG : G32 a.pf) (hG2 : G32 b.pf) (hk : 100000001 ≤ k) :
    lsa_Newer.f k a.o a.s a.age a.ov a.ad a.pf b.o b.s b.age b.ov b.ad b.pf = some (newer a b) := by
  obtain ⟨k, rfl⟩ : ∃ j, k = j + 1 := ⟨k - 1, by omega⟩
  unfold lsa_Newer.f newer
  rw [valid_eq (k + 1) _ _ _ _ _ _ hG (by omega), valid_eq (k + 1) _ _ _ _ _ _ hG2 (by omega)]
  simp only [Option.bind_some]
  simp only [lsa_Newer.j0, if_true]
  by_cases ha : Valid a
  · rw [decide_eq_true (show VL a.o a.s a.age a.ov a.ad a.pf from ha), if_pos rfl]
    by_cases hb : Valid b
    · rw [decide_eq_true (show VL b.o b.s b.age b.ov b.ad b.pf from hb), if_neg (by simp), if_pos (show Valid a ∧ Valid b from ⟨ha, hb⟩)]
      have s1 := ha.s
      have s2 := hb.s
      by_cases hs : a.s = b.s
      · rw [if_pos hs, if_pos hs, purge_eq, purge_eq]
        simp only [Option.bind_some]
        rw [young_eq k a hG ha (by omega), young_eq k b hG2 hb (by omega)]
        simp only [Option.bind_some]
        by_cases c1 : a.age = 3600
        · by_cases c2 : b.age = 3600
          · rw [if_pos c1, if_pos c2, if_pos rfl, if_pos (show (a.age = 3600 ↔ b.age = 3600) from ⟨fun _ => c2, fun _ => c1⟩)]
            unfold bytes_Compare.f
            rfl
          · rw [if_pos c1, if_neg c2, if_neg (by decide), if_neg (show ¬ (a.age = 3600 ↔ b.age = 3600) from fun h => c2 (h.1 c1)), if_pos c1, w64 (by omega) (by omega)]
            rfl
        · by_cases c2 : b.age = 3600
          · rw [if_neg c1, if_pos c2, if_neg (by decide), if_neg (show ¬ (a.age = 3600 ↔ b.age = 3600) from fun h => c1 (h.2 c2)), if_neg c1, w64 (by omega) (by omega)]
            rfl
          · rw [if_neg c1, if_neg c2, if_pos rfl, if_pos (show (a.age = 3600 ↔ b.age = 3600) from ⟨fun h => absurd h c1, fun h => absurd h c2⟩)]
            unfold bytes_Compare.f
            rfl
      · rw [if_neg hs, if_neg hs, w64 (by omega) (by omega)]
        unfold lsa_sign.f
        simp only [Option.bind_some]
        rw [sign_eq _ (by omega)]
        congr 1
        by_cases c : a.s < b.s
        · rw [if_pos (by omega), if_pos c]
        · rw [if_neg (by omega), if_neg c]
    · rw [decide_eq_false (show ¬ VL b.o b.s b.age b.ov b.ad b.pf from hb), if_pos (by simp), if_neg (show ¬ (Valid a ∧ Valid b) from fun h => hb h.2)]
  · rw [decide_eq_false (show ¬ VL a.o a.s a.age a.ov a.ad a.pf from ha), if_neg (by simp), if_neg (show ¬ (Valid a ∧ Valid b) from fun h => ha h.1)]
end Go.Proofs.Ytmknjjfdlkgidaa.HLsc
