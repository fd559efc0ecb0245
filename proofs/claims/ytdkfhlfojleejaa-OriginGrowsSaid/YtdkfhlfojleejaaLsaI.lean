/-
  Chapter 32, plain: what the printed functions compute: the encoding, by the program.
-/
import Derived.Test.YtdkfhlfojleejaaLsaH
import Derived.Test.YtdkfhlfojleejaaHLscx6
import Derived.Test.YtdkfhlfojleejaaHLscx5
namespace Go.Proofs.Ytdkfhlfojleejaa.HLsc
open Go.RowKit Go.Proofs.YtdkfhlfojleejaaW.PrintWords Go.Proofs.YtdkfhlfojleejaaW.PrintLast Go.Proofs.YtdkfhlfojleejaaW.PrintMore
open Go.Proofs.Ytdkfhlfojleejaa.LM Go.Proofs.Ytdkfhlfojleejaa.LS
set_option linter.unusedVariables false
set_option linter.unusedSimpArgs false
theorem set_two (b : List Int) (p q x y : Int) : ((b ++ [p, q]).set b.length x).set (b.length + 1) y = b ++ [x, y] := by
  rw [List.set_append_right _ _ (Nat.le_refl _), Nat.sub_self, List.set_cons_zero, List.set_append_right _ _ (by omega), show b.length + 1 - b.length = 1 by omega]
  rfl
theorem bytes00 : Bytes [0, 0] := Bytes.cons (by omega) (by omega) (Bytes.cons (by omega) (by omega) Bytes.nil)
theorem seal_eq (k : Nat) (b : List Int) (hB : Bytes b) (hl : b.length ≤ 100000000) (hk : b.length + 10 ≤ k) : fletcher_Seal.f k (b ++ [0, 0]) (b.length : Int) = some (sealed b, 0) := by
  obtain ⟨k, rfl⟩ : ∃ j, k = j + 1 := ⟨k - 1, by omega⟩
  have hlen : (b ++ [0, 0]).length = b.length + 2 := by simp
  have hs := sum_eq k (b ++ [0, 0]) (hB.app bytes00) (by rw [hlen]; omega) (by rw [hlen]; omega)
  have r1 : 0 ≤ (sums (b ++ [0, 0])).1 ∧ (sums (b ++ [0, 0])).1 ≤ 254 := by unfold sums; simp only; omega
  have r2 : 0 ≤ (sums (b ++ [0, 0])).2 ∧ (sums (b ++ [0, 0])).2 ≤ 254 := by unfold sums; simp only; omega
  unfold fletcher_Seal.f
  rw [if_neg (by omega), hlen, w64 (by push_cast; omega) (by push_cast; omega), decide_eq_false (by push_cast; omega)]
  simp only [fletcher_Seal.j0, Bool.false_eq_true, if_false]
  rw [clone_eq _ (by rw [hlen]; omega)]
  simp only [Option.bind_some]
  rw [if_pos (by omega), if_pos (by rw [hlen]; push_cast; omega), w64 (n := (b.length : Int) + 1) (by omega) (by omega), if_pos (by omega), if_pos (by rw [hlen]; push_cast; omega)]
  rw [Int.toNat_natCast, show ((b.length : Int) + 1).toNat = b.length + 1 by omega, set_two]
  unfold fletcher_Sum.f
  rw [hs]
  simp only [Option.bind_some]
  rw [hlen, w64 (n := ((b.length + 2 : Nat) : Int) - (b.length : Int)) (by push_cast; omega) (by push_cast; omega), show ((b.length + 2 : Nat) : Int) - (b.length : Int) = 2 by push_cast; omega, w64 (n := 2 - 1) (by omega) (by omega), reduce_eq (2 - 1) (by omega) (by omega)]
  simp only [Option.bind_some]
  rw [show ((2 : Int) - 1) % 255 = 1 from rfl, Int.one_mul, w64 (n := (sums (b ++ [0, 0])).1) (by omega) (by omega), w64 (by omega) (by omega), reduce_eq _ (by omega) (by omega)]
  simp only [Option.bind_some]
  rw [w64 (n := -(sums (b ++ [0, 0])).1) (by omega) (by omega), w64 (by omega) (by omega), reduce_eq _ (by omega) (by omega)]
  simp only [Option.bind_some]
  rw [set_two]
  have h1 : ((sums (b ++ [0, 0])).1 - (sums (b ++ [0, 0])).2) % 255 = cx b := by
    unfold sums cx
    have : (b ++ [0, 0]).sum = b.sum := by simp
    rw [this]
    simp only
    omega
  have h2 : (-(sums (b ++ [0, 0])).1 - cx b) % 255 = cy b := by
    unfold cy
    have : (sums (b ++ [0, 0])).1 = b.sum % 255 := by unfold sums; simp
    rw [this]
    omega
  have q1 := cx_range b
  have q2 := cy_range b
  rw [h1, h2, show cx b % 256 = cx b by omega, show cy b % 256 = cy b by omega]
  rfl
theorem cenc_le : ∀ (l : List Rec), (∀ r ∈ l, GoodR r) → (cenc l).length ≤ 65538 * l.length
  | [], _ => by simp [cenc]
  | r :: l, h => by
    have h1 := cenc_le l (fun x hx => h x (by simp [hx]))
    have h2 := (h r (by simp)).2.2.1
    rw [cenc_cons, List.length_append, cenc_len_recb, List.length_cons]
    omega
def zr : CR := ⟨4, List.replicate 2 0⟩
theorem cenc_zr (l : List Rec) : cenc (l ++ [rc zr]) = (cenc l ++ [4, 0, 2]) ++ [0, 0] := by
  rw [cenc_app]
  simp [cenc, recb, rc, zr, List.replicate]
theorem good_zr : GoodR (rc zr) := ⟨by simp [rc, zr], by simp [rc, zr], by simp [rc, zr], by simpa [rc, zr, List.replicate] using bytes00⟩
theorem bytes402 : Bytes [4, 0, 2] := Bytes.cons (by omega) (by omega) (Bytes.cons (by omega) (by omega) (Bytes.cons (by omega) (by omega) Bytes.nil))
/-- The end of Encode. -/
theorem enc_end (k : Nat) (l : List CR) (hg : ∀ r ∈ l, GoodR (rc r)) (hl : l.length ≤ 1000) (hk : 80000000 ≤ k) :
    ((codec_Encode.f k (l ++ [zr])).bind fun bt228 => (if bt228.2 = 0 then ((fletcher_Seal.f k bt228.1 (wrap64 ((bt228.1.length : Int) - 2))).bind fun bt232 => (some (bt232.1, bt232.2))) else (some (([] : List Int), bt228.2)))) = some (sealed (cenc (l.map rc) ++ [4, 0, 2]), 0) := by
  have hg' : ∀ r ∈ l.map rc, GoodR r := fun r hr => by
    obtain ⟨x, hx, rfl⟩ := List.mem_map.1 hr
    exact hg x hx
  have hb := cenc_le (l.map rc) hg'
  rw [List.length_map] at hb
  have e : (l ++ [zr]).map rc = l.map rc ++ [rc zr] := by simp
  have hg2 : ∀ r ∈ l ++ [zr], GoodR (rc r) := fun r hr => by
    rcases List.mem_append.1 hr with h | h
    · exact hg r h
    · rw [List.mem_singleton.1 h]; exact good_zr
  have hbl : (cenc (l.map rc) ++ [4, 0, 2]).length = (cenc (l.map rc)).length + 3 := by simp
  rw [cencode_eq k (l ++ [zr]) hg2 (by simp; omega) (by simp; omega) (by rw [e, cenc_zr, List.length_append, hbl]; simp only [List.length_cons, List.length_nil]; omega), e, cenc_zr]
  simp only [Option.bind_some, if_true]
  have hlen : (((cenc (l.map rc) ++ [4, 0, 2]) ++ [0, 0]).length : Int) - 2 = ((cenc (l.map rc) ++ [4, 0, 2]).length : Int) := by
    rw [List.length_append]; simp only [List.length_cons, List.length_nil]; push_cast; omega
  rw [hlen, w64 (by omega) (by omega), seal_eq k _ ((cenc_bytes hg').app bytes402) (by omega) (by omega)]
  rfl
theorem GF_of {x n : Int} (m : Nat) (hm : n = (m : Int)) (h1 : 1 ≤ m) (h2 : m ≤ 7) (h3 : 0 ≤ x) (h4 : x < 256 ^ m) : GF x n := ⟨by omega, by omega, h3, by rw [hm, Int.toNat_natCast]; exact h4⟩
theorem enc_l1 (pf : List PF) (hp : ∀ p ∈ pf, pfOk p) (hpl : pf.length ≤ 100) : ∀ (suf pre : List PF) (k : Nat) (l : List CR), pf = pre ++ suf → suf.length + 80000010 ≤ k → (∀ r ∈ l, GoodR (rc r)) → l.length + suf.length ≤ 1000 →
    lsa_Encode.l1 k l pf (pf.length : Int) (pre.length : Int) = some (sealed (cenc (l.map rc ++ suf.map r3) ++ [4, 0, 2]), 0)
  | [], pre, k, l, he, hk, hg, hl => by
    obtain ⟨k, rfl⟩ : ∃ j, k = j + 1 := ⟨k - 1, by omega⟩
    have : pf.length = pre.length := by rw [he]; simp
    simp only [List.length_nil] at hk hl
    simp only [lsa_Encode.l1]
    rw [if_neg (by omega), if_pos (by omega), if_pos (by omega), List.map_nil, List.append_nil]
    exact enc_end k l hg (by omega) (by omega)
  | x :: suf, pre, k, l, he, hk, hg, hl => by
    obtain ⟨k, rfl⟩ : ∃ j, k = j + 1 := ⟨k - 1, by omega⟩
    have hlen : pf.length = pre.length + suf.length + 1 := by rw [he]; simp; omega
    have hx : rd_T76 pf (pre.length : Int) = x := by rw [he]; exact rdP pre suf x
    have ho : pfOk x := hp x (by rw [he]; simp)
    unfold pfOk at ho
    simp only [List.length_cons] at hk hl
    simp only [lsa_Encode.l1]
    rw [if_pos (by omega), if_pos (by omega), if_pos (by omega), hx, w64 (n := x.f0) (by omega) (by omega)]
    rw [value_eq k (by omega) _ (fun y hy => by
      simp only [List.mem_cons, List.not_mem_nil, or_false] at hy
      rcases hy with rfl | rfl
      · exact GF_of 4 rfl (by omega) (by omega) (by simp only; omega) (by simp only; omega)
      · exact GF_of 1 rfl (by omega) (by omega) (by simp only; omega) (by simp only; omega)) (by simp)]
    simp only [Option.bind_some]
    have hv : fl [(⟨x.f0, 4⟩ : Fd), ⟨x.f1, 1⟩] = (r3 x).2 := by simp [fl, r3]
    rw [hv, if_pos (by omega), w64 (n := (pre.length : Int) + 1) (by omega) (by omega)]
    have ih := enc_l1 pf hp hpl suf (pre ++ [x]) k (l ++ [⟨3, (r3 x).2⟩]) (by rw [he]; simp) (by omega) (fun r hr => by
      rcases List.mem_append.1 hr with h | h
      · exact hg r h
      · rw [List.mem_singleton.1 h]; exact good3 x) (by simp; omega)
    rw [show (((pre ++ [x]).length : Nat) : Int) = pre.length + 1 by simp] at ih
    rw [ih]
    simp [rc, r3]
theorem enc_l0 (o s age : Int) (ov : Bool) (ad : List AD) (pf : List PF) (ha : ∀ x ∈ ad, adOk o x) (hp : ∀ p ∈ pf, pfOk p) (hal : ad.length ≤ 300) (hpl : pf.length ≤ 100) : ∀ (suf pre : List AD) (k : Nat) (l : List CR), ad = pre ++ suf → suf.length + pf.length + 80000020 ≤ k → (∀ r ∈ l, GoodR (rc r)) → l.length + suf.length + pf.length ≤ 1000 →
    lsa_Encode.l0 k l ad (ad.length : Int) (pre.length : Int) o s age ov ad pf = some (sealed (cenc (l.map rc ++ (suf.map r2 ++ pf.map r3)) ++ [4, 0, 2]), 0)
  | [], pre, k, l, he, hk, hg, hl => by
    obtain ⟨k, rfl⟩ : ∃ j, k = j + 1 := ⟨k - 1, by omega⟩
    have : ad.length = pre.length := by rw [he]; simp
    simp only [List.length_nil] at hk hl
    simp only [lsa_Encode.l0]
    rw [if_neg (by omega)]
    have h := enc_l1 pf hp hpl pf [] k l rfl (by omega) hg (by omega)
    simpa using h
  | x :: suf, pre, k, l, he, hk, hg, hl => by
    obtain ⟨k, rfl⟩ : ∃ j, k = j + 1 := ⟨k - 1, by omega⟩
    have hlen : ad.length = pre.length + suf.length + 1 := by rw [he]; simp; omega
    have hx : rd_T72 ad (pre.length : Int) = x := by rw [he]; exact rdA pre suf x
    have ho : adOk o x := ha x (by rw [he]; simp)
    unfold adOk at ho
    simp only [List.length_cons] at hk hl
    simp only [lsa_Encode.l0]
    rw [if_pos (by omega), if_pos (by omega), if_pos (by omega), hx]
    rw [value_eq k (by omega) _ (fun y hy => by
      simp only [List.mem_cons, List.not_mem_nil, or_false] at hy
      rcases hy with rfl | rfl | rfl
      · exact GF_of 2 rfl (by omega) (by omega) (by simp only; omega) (by simp only; omega)
      · exact GF_of 2 rfl (by omega) (by omega) (by simp only; omega) (by simp only; omega)
      · exact GF_of 2 rfl (by omega) (by omega) (by simp only; omega) (by simp only; omega)) (by simp)]
    simp only [Option.bind_some]
    have hv : fl [(⟨x.f0, 2⟩ : Fd), ⟨x.f1, 2⟩, ⟨x.f2, 2⟩] = (r2 x).2 := by simp [fl, r2]
    rw [hv, if_pos (by omega), w64 (n := (pre.length : Int) + 1) (by omega) (by omega)]
    have ih := enc_l0 o s age ov ad pf ha hp hal hpl suf (pre ++ [x]) k (l ++ [⟨2, (r2 x).2⟩]) (by rw [he]; simp) (by omega) (fun r hr => by
      rcases List.mem_append.1 hr with h | h
      · exact hg r h
      · rw [List.mem_singleton.1 h]; exact good2 x) (by simp; omega)
    rw [show (((pre ++ [x]).length : Nat) : Int) = pre.length + 1 by simp] at ih
    rw [ih]
    simp [rc, r2]
theorem encode_eq (k : Nat) (o s age : Int) (ov : Bool) (ad : List AD) (pf : List PF) (hG : G32 pf) (hk : 100000000 ≤ k) : lsa_Encode.f k o s age ov ad pf = some (if VL o s age ov ad pf then (enc ⟨o, s, age, ov, ad, pf⟩, 0) else ([], 1)) := by
  unfold lsa_Encode.f
  rw [valid_eq k o s age ov ad pf hG (by omega)]
  simp only [Option.bind_some]
  by_cases hv : VL o s age ov ad pf
  · rw [decide_eq_true hv, if_pos rfl, if_pos hv]
    have h1 : 0 ≤ o ∧ o ≤ 63 := hv.o
    have h2 : 1 ≤ s ∧ s ≤ 1073741824 := hv.s
    have h3 : 0 ≤ age ∧ age ≤ 3600 := hv.age
    have h4 : ad.length ≤ 256 := hv.nad
    have h5 : pf.length ≤ 64 := hv.npf
    have hfl : lsa_flag.f ov = some (b01 ov) := by cases ov <;> rfl
    have hb : 0 ≤ b01 ov ∧ b01 ov ≤ 1 := by cases ov <;> simp [b01]
    rw [hfl]
    simp only [Option.bind_some]
    rw [value_eq k (by omega) _ (fun y hy => by
      simp only [List.mem_cons, List.not_mem_nil, or_false] at hy
      rcases hy with rfl | rfl | rfl | rfl
      · exact GF_of 2 rfl (by omega) (by omega) (by simp only; omega) (by simp only; omega)
      · exact GF_of 4 rfl (by omega) (by omega) (by simp only; omega) (by simp only; omega)
      · exact GF_of 2 rfl (by omega) (by omega) (by simp only; omega) (by simp only; omega)
      · exact GF_of 1 rfl (by omega) (by omega) (by simp only; omega) (by simp only; omega)) (by simp)]
    simp only [Option.bind_some]
    have hv1 : fl [(⟨o, 2⟩ : Fd), ⟨s, 4⟩, ⟨age, 2⟩, ⟨b01 ov, 1⟩] = (LS.r1 ⟨o, s, age, ov, ad, pf⟩).2 := by simp [fl, LS.r1]
    rw [hv1]
    have h := enc_l0 o s age ov ad pf (fun x hx => Row.mem hv.ad hx) (fun p hx => Row.mem hv.pf hx) (by omega) (by omega) ad [] k [⟨1, (LS.r1 ⟨o, s, age, ov, ad, pf⟩).2⟩] rfl (by omega) (fun r hr => by rw [List.mem_singleton.1 hr]; exact good1 ⟨o, s, age, ov, ad, pf⟩) (by simp; omega)
    simp only [List.length_nil] at h
    refine h.trans ?_
    rfl
  · rw [decide_eq_false hv, if_neg hv]
    rfl
end Go.Proofs.Ytdkfhlfojleejaa.HLsc
