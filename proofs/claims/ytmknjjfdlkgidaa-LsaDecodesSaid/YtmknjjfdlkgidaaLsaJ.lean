/-
  Chapter 32, plain: what the printed functions compute: the encoding, by the reference.
-/
import Derived.Test.YtmknjjfdlkgidaaLsaI
import Derived.Test.YtmknjjfdlkgidaaHLscx13
import Derived.Test.YtmknjjfdlkgidaaHLscx14
namespace Go.Proofs.Ytmknjjfdlkgidaa.HLsc
open Go.RowKit Go.Proofs.YtmknjjfdlkgidaaW.PrintWords Go.Proofs.YtmknjjfdlkgidaaW.PrintLast Go.Proofs.YtmknjjfdlkgidaaW.PrintMore
open Go.Proofs.Ytmknjjfdlkgidaa.LM Go.Proofs.Ytmknjjfdlkgidaa.LS
set_option linter.unusedVariables false
set_option linter.unusedSimpArgs false
theorem set_rep (m : Nat) (d : List Int) (v : Int) : (List.replicate (m + 1) 0 ++ d).set m v = List.replicate m 0 ++ (v :: d) := by
  induction m with
  | zero => rfl
  | succ m ih => rw [List.replicate_succ, List.cons_append, List.set_cons_succ, ih]; rfl
theorem rnumber_l0 : ∀ (m k : Nat) (x : Int) (d : List Int), m + 1 ≤ k → m ≤ 8 → 0 ≤ x → x < 18446744073709551616 → m + d.length ≤ 8 → waypointref07_Number.l0 k x (List.replicate m 0 ++ d) ((m : Int) - 1) = some (be m x ++ d)
  | 0, k, x, d, hk, hm, h0, h1, hd => by
    obtain ⟨k, rfl⟩ : ∃ j, k = j + 1 := ⟨k - 1, by omega⟩
    simp only [waypointref07_Number.l0]
    rw [if_neg (by simp)]
    simp [be]
  | m + 1, k, x, d, hk, hm, h0, h1, hd => by
    obtain ⟨k, rfl⟩ : ∃ j, k = j + 1 := ⟨k - 1, by omega⟩
    have e1 : Int.tdiv x 256 = x / 256 := Int.tdiv_eq_ediv_of_nonneg h0
    have e2 : Int.tmod x 256 = x % 256 := Int.tmod_eq_emod_of_nonneg h0
    have hlen : (List.replicate (m + 1) (0 : Int) ++ d).length = m + 1 + d.length := by simp
    simp only [waypointref07_Number.l0]
    rw [show (((m + 1 : Nat) : Int) - 1) = (m : Int) by push_cast; omega, if_pos (by omega), if_pos (by omega), if_pos (by rw [hlen]; push_cast; omega), e1, e2, Int.toNat_natCast, set_rep, u64_id (by omega) (by omega), w64 (by omega) (by omega)]
    rw [rnumber_l0 m k (x / 256) _ (by omega) (by omega) (by omega) (by omega) (by simp only [List.length_cons]; omega)]
    rw [show x % 256 % 256 = x % 256 by omega, be, List.append_assoc]
    rfl
  termination_by m => m
theorem rnumber_eq (k n : Nat) (x : Int) (hk : 12 ≤ k) (hn : n ≤ 8) (h0 : 0 ≤ x) (h1 : x < 18446744073709551616) : waypointref07_Number.f k x (n : Int) = some (be n x) := by
  unfold waypointref07_Number.f
  rw [if_pos (by omega), if_pos (by omega), Int.toNat_natCast, w64 (by omega) (by omega)]
  have h := rnumber_l0 n k x [] (by omega) hn h0 h1 (by simp only [List.length_nil]; omega)
  rwa [List.append_nil, List.append_nil] at h
abbrev Fr := S64
def flr (xs : List Fr) : List Int := (xs.map fun x => be x.f1.toNat x.f0).flatten
theorem rdF (pre suf : List Fr) (x : Fr) : rd_T64 (pre ++ x :: suf) (pre.length : Int) = x := by simp [rd_T64]
theorem rfields_l0 (l : List Fr) (hl : l.length ≤ 1000) (h : ∀ x ∈ l, GF x.f0 x.f1) : ∀ (suf pre : List Fr) (k : Nat) (b : List Int), l = pre ++ suf → suf.length + 20 ≤ k → b.length + 8 * suf.length < 140737488355328 →
    waypointref32_fields.l0 k l b (pre.length : Int) = some (b ++ flr suf)
  | [], pre, k, b, he, hk, hb => by
    obtain ⟨k, rfl⟩ : ∃ j, k = j + 1 := ⟨k - 1, by omega⟩
    have : l.length = pre.length := by rw [he]; simp
    simp only [waypointref32_fields.l0]
    rw [if_neg (by omega)]
    simp [flr]
  | x :: suf, pre, k, b, he, hk, hb => by
    simp only [List.length_cons] at hk hb
    obtain ⟨k, rfl⟩ : ∃ j, k = j + 1 := ⟨k - 1, by omega⟩
    have hlen : l.length = pre.length + suf.length + 1 := by rw [he]; simp; omega
    have hx : rd_T64 l (pre.length : Int) = x := by rw [he]; exact rdF pre suf x
    obtain ⟨h1, h2, h3, h4⟩ := h x (by rw [he]; simp)
    have hp := pow_le7 x.f1.toNat (by omega)
    simp only [waypointref32_fields.l0]
    rw [if_pos (by omega), if_pos (by omega), hx, u64_id h3 (by omega)]
    have e := rnumber_eq k x.f1.toNat x.f0 (by omega) (by omega) h3 (by omega)
    rw [Int.toNat_of_nonneg (by omega)] at e
    have hbl := be_len x.f1.toNat x.f0
    rw [e]
    simp only [Option.bind_some]
    rw [if_pos (by rw [hbl]; omega), w64 (by omega) (by omega)]
    have ih := rfields_l0 l hl h suf (pre ++ [x]) k (b ++ be x.f1.toNat x.f0) (by rw [he]; simp) (by omega) (by rw [List.length_append, hbl]; omega)
    rw [show (((pre ++ [x]).length : Nat) : Int) = pre.length + 1 by simp] at ih
    rw [ih]
    simp [flr]
theorem rfields_eq (k : Nat) (l : List Fr) (hl : l.length ≤ 1000) (h : ∀ x ∈ l, GF x.f0 x.f1) (hk : 1020 ≤ k) : waypointref32_fields.f k l = some (flr l) := by
  have e := rfields_l0 l hl h l [] k [] rfl (by omega) (by simp; omega)
  simpa [waypointref32_fields.f] using e
/-! ### records -/
abbrev RR := S65
def rr (r : RR) : Rec := (r.f0, r.f1)
theorem rdR (pre suf : List RR) (x : RR) : rd_T65 (pre ++ x :: suf) (pre.length : Int) = x := by simp [rd_T65]
theorem rcenc_l0 (l : List RR) (hl : l.length ≤ 1000000) (hg : ∀ r ∈ l, GoodR (rr r)) : ∀ (suf pre : List RR) (k : Nat) (b : List Int), l = pre ++ suf → 2 * suf.length + 1 ≤ k → b.length + (cenc (suf.map rr)).length < 140737488355328 →
    waypointref07_Encode.l0 k l b (pre.length : Int) = some (b ++ cenc (suf.map rr), 0)
  | [], pre, k, b, he, hk, hb => by
    obtain ⟨k, rfl⟩ : ∃ j, k = j + 1 := ⟨k - 1, by omega⟩
    have : l.length = pre.length := by rw [he]; simp
    simp only [waypointref07_Encode.l0]
    rw [if_neg (by omega)]
    simp [cenc]
  | x :: suf, pre, k, b, he, hk, hb => by
    obtain ⟨k, rfl⟩ : ∃ j, k = j + 2 := ⟨k - 2, by simp at hk; omega⟩
    have hlen : l.length = pre.length + suf.length + 1 := by rw [he]; simp; omega
    have hx : rd_T65 l (pre.length : Int) = x := by rw [he]; exact rdR pre suf x
    obtain ⟨g1, g2, g3, g4⟩ : GoodR (rr x) := hg x (by rw [he]; simp)
    simp only [rr] at g1 g2 g3 g4
    have hc : cenc ((x :: suf).map rr) = [x.f0, (x.f1.length : Int) / 256, (x.f1.length : Int) % 256] ++ x.f1 ++ cenc (suf.map rr) := by simp [cenc, recb, rr]
    rw [hc] at hb ⊢
    simp only [List.length_append, List.length_cons, List.length_nil] at hb
    have ih := rcenc_l0 l hl hg suf (pre ++ [x]) k (b ++ ([x.f0, (x.f1.length : Int) / 256, (x.f1.length : Int) % 256] ++ x.f1)) (by rw [he]; simp) (by simp at hk; omega) (by simp only [List.length_append, List.length_cons, List.length_nil]; omega)
    rw [show (((pre ++ [x]).length : Nat) : Int) = pre.length + 1 by simp] at ih
    have hj : waypointref07_Encode.j1 (k + 1) l b (pre.length : Int) (x.f1.length : Int) false = some (b ++ ([x.f0, (x.f1.length : Int) / 256, (x.f1.length : Int) % 256] ++ x.f1 ++ cenc (suf.map rr)), 0) := by
      simp only [waypointref07_Encode.j1, Bool.false_eq_true, if_false]
      rw [if_neg (by omega), if_pos (by omega), if_pos (by omega), hx, w64 (n := (x.f1.length : Int) / 256) (by omega) (by omega), show x.f0 % 256 = x.f0 by omega, show ((x.f1.length : Int) / 256) % 256 = (x.f1.length : Int) / 256 by omega]
      simp only [Option.bind_some]
      rw [if_pos (by simp only [List.length_cons, List.length_nil]; omega), if_pos (by simp only [List.length_append, List.length_cons, List.length_nil]; omega), w64 (by omega) (by omega), List.append_assoc b, ih]
      simp only [List.append_assoc]
    simp only [waypointref07_Encode.l0]
    rw [if_pos (by omega), if_pos (by omega), hx, if_neg (by omega), decide_eq_false (by omega)]
    exact hj
theorem rcencode_eq (k : Nat) (l : List RR) (hg : ∀ r ∈ l, GoodR (rr r)) (hl : 2 * l.length + 1 ≤ k) (hl2 : l.length ≤ 1000000) (hb : (cenc (l.map rr)).length < 140737488355328) : waypointref07_Encode.f k l = some (cenc (l.map rr), 0) := by
  have h := rcenc_l0 l hl2 hg l [] k [] rfl hl (by simpa using hb)
  simpa [waypointref07_Encode.f] using h
/-! ### check sums -/
theorem rsum_l0 (b : List Int) (hB : Bytes b) (hl : b.length ≤ 1000000000) : ∀ (suf pre : List Int) (k : Nat) (x y : Int), b = pre ++ suf → suf.length + 1 ≤ k → 0 ≤ x ∧ x ≤ 254 → 0 ≤ y ∧ y ≤ 254 →
    waypointref08_Sum.l0 k b x y (pre.length : Int) = some ((x + suf.sum) % 255, (y + wsum suf) % 255)
  | [], pre, k, x, y, he, hk, hx, hy => by
    obtain ⟨k, rfl⟩ : ∃ j, k = j + 1 := ⟨k - 1, by omega⟩
    have : b.length = pre.length := by rw [he]; simp
    simp only [waypointref08_Sum.l0]
    rw [if_neg (by omega)]
    simp only [List.sum_nil, wsum]
    congr 2 <;> omega
  | c :: suf, pre, k, x, y, he, hk, hx, hy => by
    obtain ⟨k, rfl⟩ : ∃ j, k = j + 1 := ⟨k - 1, by omega⟩
    have hlen : b.length = pre.length + suf.length + 1 := by rw [he]; simp; omega
    have hc : rd b (pre.length : Int) = c := by rw [he]; exact rdI pre suf c
    have hcb : 0 ≤ c ∧ c ≤ 255 := hB c (by rw [he]; simp)
    obtain ⟨M, hM⟩ : ∃ M : Int, ((b.length : Int) - (pre.length : Int)) % 255 = M := ⟨_, rfl⟩
    have hMr : 0 ≤ M ∧ M ≤ 254 := by omega
    have hMc : 0 ≤ M * c ∧ M * c ≤ 254 * 255 := ⟨Int.mul_nonneg hMr.1 hcb.1, Int.mul_le_mul hMr.2 hcb.2 hcb.1 (by omega)⟩
    simp only [waypointref08_Sum.l0]
    rw [if_pos (by omega), if_pos (by omega), hc, w64 (n := c) (by omega) (by omega), w64 (n := x + c) (by omega) (by omega), tm (a := x + c) (by omega), w64 (n := (pre.length : Int) + 1) (by omega) (by omega)]
    rw [w64 (n := (b.length : Int) - (pre.length : Int)) (by omega) (by omega), tm (a := (b.length : Int) - (pre.length : Int)) (by omega), hM, w64 (n := M * c) (by omega) (by omega), w64 (n := y + M * c) (by omega) (by omega), tm (a := y + M * c) (by omega)]
    have ih := rsum_l0 b hB hl suf (pre ++ [c]) k ((x + c) % 255) ((y + M * c) % 255) (by rw [he]; simp) (by simp at hk; omega) (by omega) (by omega)
    rw [show (((pre ++ [c]).length : Nat) : Int) = pre.length + 1 by simp] at ih
    rw [ih]
    simp only [List.sum_cons, wsum]
    obtain ⟨q, hq⟩ : ∃ q, M = ((suf.length : Int) + 1) - 255 * q := ⟨((suf.length : Int) + 1) / 255, by omega⟩
    have e1 : M * c = ((suf.length : Int) + 1) * c - 255 * (q * c) := by rw [hq, Int.sub_mul, Int.mul_assoc]
    rw [e1]
    congr 2 <;> omega
theorem rsum_eq (k : Nat) (b : List Int) (hB : Bytes b) (hl : b.length ≤ 1000000000) (hk : b.length + 1 ≤ k) : waypointref08_Sum.f k b = some (sums b) := by
  have h := rsum_l0 b hB hl b [] k 0 0 rfl hk (by omega) (by omega)
  simp only [List.length_nil] at h
  unfold waypointref08_Sum.f sums
  simpa using h
theorem rseal_l0 (b : List Int) (hl : b.length ≤ 100000000) (A B : Int) (hA : A = b.sum % 255) (hB : B = wsum (b ++ [0, 0]) % 255) : ∀ (d k : Nat) (i : Int), 0 ≤ i → i + d = cx b → d + 1 ≤ k →
    waypointref08_Seal.l0 k (b.length : Int) (b ++ [0, 0]) A B 2 i = some (sealed b)
  | d, k, i, hi, hd, hk => by
    have q1 := cx_range b
    have q2 := cy_range b
    have hlen : (b ++ [0, 0]).length = b.length + 2 := by simp
    obtain ⟨k, rfl⟩ : ∃ j, k = j + 1 := ⟨k - 1, by omega⟩
    obtain ⟨Y, hY⟩ : ∃ Y, (510 - A - i) % 255 = Y := ⟨_, rfl⟩
    have hYr : 0 ≤ Y ∧ Y ≤ 254 := by omega
    have hAr : 0 ≤ A ∧ A ≤ 254 := by omega
    have hBr : 0 ≤ B ∧ B ≤ 254 := by omega
    simp only [waypointref08_Seal.l0]
    rw [if_pos (by omega), w64 (n := 510 - A) (by omega) (by omega), w64 (n := 510 - A - i) (by omega) (by omega), tm (a := 510 - A - i) (by omega), hY, w64 (n := 2 * i) (by omega) (by omega), w64 (n := B + 2 * i) (by omega) (by omega), w64 (n := 2 + 254) (by omega) (by omega)]
    rw [w64 (n := (2 + 254) * Y) (by omega) (by omega), w64 (n := B + 2 * i + (2 + 254) * Y) (by omega) (by omega), tm (a := B + 2 * i + (2 + 254) * Y) (by omega)]
    have hcx : cx b = (A - B) % 255 := by
      unfold cx
      rw [hA, hB]
      omega
    by_cases c : i = cx b
    · rw [if_pos (by omega), if_pos (by omega), if_pos (by rw [hlen]; push_cast; omega), w64 (n := (b.length : Int) + 1) (by omega) (by omega), if_pos (by omega), if_pos (by rw [hlen]; push_cast; omega)]
      rw [Int.toNat_natCast, show ((b.length : Int) + 1).toNat = b.length + 1 by omega, set_two]
      have hcy : cy b = Y := by
        unfold cy
        rw [← hY, hA, ← c]
        omega
      rw [c, ← hcy, show cx b % 256 = cx b by omega, show cy b % 256 = cy b by omega]
      rfl
    · obtain ⟨d, rfl⟩ : ∃ j, d = j + 1 := ⟨d - 1, by omega⟩
      rw [if_neg (by omega), w64 (n := i + 1) (by omega) (by omega)]
      exact rseal_l0 b hl A B hA hB d k (i + 1) (by omega) (by push_cast at hd; omega) (by omega)
  termination_by d => d
theorem rseal_eq (k : Nat) (b : List Int) (hB : Bytes b) (hl : b.length ≤ 100000000) (hk : b.length + 300 ≤ k) : waypointref08_Seal.f k (b ++ [0, 0]) (b.length : Int) = some (sealed b) := by
  have hlen : (b ++ [0, 0]).length = b.length + 2 := by simp
  have q1 := cx_range b
  unfold waypointref08_Seal.f
  simp only [Option.bind_some, List.length_nil, Nat.zero_add, List.nil_append]
  rw [if_pos (by omega), if_pos (by omega), if_pos (by rw [hlen]; push_cast; omega), w64 (n := (b.length : Int) + 1) (by omega) (by omega), if_pos (by omega), if_pos (by rw [hlen]; push_cast; omega)]
  rw [Int.toNat_natCast, show ((b.length : Int) + 1).toNat = b.length + 1 by omega, set_two, rsum_eq k _ (hB.app bytes00) (by rw [hlen]; omega) (by rw [hlen]; omega)]
  simp only [Option.bind_some]
  rw [hlen, w64 (n := ((b.length + 2 : Nat) : Int) - (b.length : Int)) (by push_cast; omega) (by push_cast; omega), show ((b.length + 2 : Nat) : Int) - (b.length : Int) = 2 by push_cast; omega, show Int.tmod 2 255 = 2 from rfl]
  exact rseal_l0 b hl _ _ (by unfold sums; simp) (by unfold sums; simp) (cx b).toNat k 0 (by omega) (by omega) (by omega)
/-! ### the advertisement -/
def zrr : RR := ⟨4, [0, 0]⟩
theorem good_zrr : GoodR (rr zrr) := ⟨by simp [rr, zrr], by simp [rr, zrr], by simp [rr, zrr], by simpa [rr, zrr] using bytes00⟩
theorem cenc_zrr (l : List Rec) : cenc (l ++ [rr zrr]) = (cenc l ++ [4, 0, 2]) ++ [0, 0] := by
  rw [cenc_app]
  simp [cenc, recb, rr, zrr]
theorem renc_end (k : Nat) (l : List RR) (hg : ∀ r ∈ l, GoodR (rr r)) (hl : l.length ≤ 1000) (hk : 80000000 ≤ k) :
    ((waypointref07_Encode.f k (l ++ [zrr])).bind fun bt358 => ((waypointref08_Seal.f k bt358.1 (wrap64 ((bt358.1.length : Int) - 2))).bind fun t362 => (some t362))) = some (sealed (cenc (l.map rr) ++ [4, 0, 2])) := by
  have hg' : ∀ r ∈ l.map rr, GoodR r := fun r hr => by
    obtain ⟨x, hx, rfl⟩ := List.mem_map.1 hr
    exact hg x hx
  have hb := cenc_le (l.map rr) hg'
  rw [List.length_map] at hb
  have e : (l ++ [zrr]).map rr = l.map rr ++ [rr zrr] := by simp
  have hg2 : ∀ r ∈ l ++ [zrr], GoodR (rr r) := fun r hr => by
    rcases List.mem_append.1 hr with h | h
    · exact hg r h
    · rw [List.mem_singleton.1 h]; exact good_zrr
  have hbl : (cenc (l.map rr) ++ [4, 0, 2]).length = (cenc (l.map rr)).length + 3 := by simp
  rw [rcencode_eq k (l ++ [zrr]) hg2 (by simp; omega) (by simp; omega) (by rw [e, cenc_zrr, List.length_append, hbl]; simp only [List.length_cons, List.length_nil]; omega), e, cenc_zrr]
  simp only [Option.bind_some]
  have hlen : (((cenc (l.map rr) ++ [4, 0, 2]) ++ [0, 0]).length : Int) - 2 = ((cenc (l.map rr) ++ [4, 0, 2]).length : Int) := by
    rw [List.length_append]; simp only [List.length_cons, List.length_nil]; push_cast; omega
  rw [hlen, w64 (by omega) (by omega), rseal_eq k _ ((cenc_bytes hg').app bytes402) (by omega) (by omega)]
  rfl
theorem renc_l1 (o s age : Int) (ov : Bool) (ad : List AD) (pf : List PF) (hp : ∀ p ∈ pf, pfOk p) (hpl : pf.length ≤ 100) : ∀ (suf pre : List PF) (k : Nat) (l : List RR), pf = pre ++ suf → suf.length + 80000010 ≤ k → (∀ r ∈ l, GoodR (rr r)) → l.length + suf.length ≤ 1000 →
    waypointref32_Encode.l1 k l (pre.length : Int) o s age ov ad pf = some (sealed (cenc (l.map rr ++ suf.map r3) ++ [4, 0, 2]))
  | [], pre, k, l, he, hk, hg, hl => by
    obtain ⟨k, rfl⟩ : ∃ j, k = j + 1 := ⟨k - 1, by omega⟩
    have : pf.length = pre.length := by rw [he]; simp
    simp only [List.length_nil] at hk hl
    simp only [waypointref32_Encode.l1]
    rw [if_neg (by omega), if_pos (by omega), List.map_nil, List.append_nil]
    exact renc_end k l hg (by omega) (by omega)
  | x :: suf, pre, k, l, he, hk, hg, hl => by
    obtain ⟨k, rfl⟩ : ∃ j, k = j + 1 := ⟨k - 1, by omega⟩
    have hlen : pf.length = pre.length + suf.length + 1 := by rw [he]; simp; omega
    have hx : rd_T56 pf (pre.length : Int) = x := by rw [he]; exact rdP pre suf x
    have ho : pfOk x := hp x (by rw [he]; simp)
    unfold pfOk at ho
    simp only [List.length_cons] at hk hl
    simp only [waypointref32_Encode.l1]
    rw [if_pos (by omega), if_pos (by omega), hx, w64 (n := x.f0) (by omega) (by omega)]
    rw [rfields_eq k _ (by simp) (fun y hy => by
      simp only [List.mem_cons, List.not_mem_nil, or_false] at hy
      rcases hy with rfl | rfl
      · exact GF_of 4 rfl (by omega) (by omega) (by simp only; omega) (by simp only; omega)
      · exact GF_of 1 rfl (by omega) (by omega) (by simp only; omega) (by simp only; omega)) (by omega)]
    simp only [Option.bind_some]
    have hv : flr [(⟨x.f0, 4⟩ : Fr), ⟨x.f1, 1⟩] = (r3 x).2 := by simp [flr, r3]
    rw [hv, if_pos (by omega), w64 (n := (pre.length : Int) + 1) (by omega) (by omega)]
    have ih := renc_l1 o s age ov ad pf hp hpl suf (pre ++ [x]) k (l ++ [⟨3, (r3 x).2⟩]) (by rw [he]; simp) (by omega) (fun r hr => by
      rcases List.mem_append.1 hr with h | h
      · exact hg r h
      · rw [List.mem_singleton.1 h]; exact good3 x) (by simp; omega)
    rw [show (((pre ++ [x]).length : Nat) : Int) = pre.length + 1 by simp] at ih
    rw [ih]
    simp [rr, r3]
theorem renc_l0 (o s age : Int) (ov : Bool) (ad : List AD) (pf : List PF) (ha : ∀ x ∈ ad, adOk o x) (hp : ∀ p ∈ pf, pfOk p) (hal : ad.length ≤ 300) (hpl : pf.length ≤ 100) : ∀ (suf pre : List AD) (k : Nat) (l : List RR), ad = pre ++ suf → suf.length + pf.length + 80000020 ≤ k → (∀ r ∈ l, GoodR (rr r)) → l.length + suf.length + pf.length ≤ 1000 →
    waypointref32_Encode.l0 k l (pre.length : Int) o s age ov ad pf = some (sealed (cenc (l.map rr ++ (suf.map r2 ++ pf.map r3)) ++ [4, 0, 2]))
  | [], pre, k, l, he, hk, hg, hl => by
    obtain ⟨k, rfl⟩ : ∃ j, k = j + 1 := ⟨k - 1, by omega⟩
    have : ad.length = pre.length := by rw [he]; simp
    simp only [List.length_nil] at hk hl
    simp only [waypointref32_Encode.l0]
    rw [if_neg (by omega)]
    have h := renc_l1 o s age ov ad pf hp hpl pf [] k l rfl (by omega) hg (by omega)
    simpa using h
  | x :: suf, pre, k, l, he, hk, hg, hl => by
    obtain ⟨k, rfl⟩ : ∃ j, k = j + 1 := ⟨k - 1, by omega⟩
    have hlen : ad.length = pre.length + suf.length + 1 := by rw [he]; simp; omega
    have hx : rd_T43 ad (pre.length : Int) = x := by rw [he]; exact rdA pre suf x
    have ho : adOk o x := ha x (by rw [he]; simp)
    unfold adOk at ho
    simp only [List.length_cons] at hk hl
    simp only [waypointref32_Encode.l0]
    rw [if_pos (by omega), if_pos (by omega), hx]
    rw [rfields_eq k _ (by simp) (fun y hy => by
      simp only [List.mem_cons, List.not_mem_nil, or_false] at hy
      rcases hy with rfl | rfl | rfl
      · exact GF_of 2 rfl (by omega) (by omega) (by simp only; omega) (by simp only; omega)
      · exact GF_of 2 rfl (by omega) (by omega) (by simp only; omega) (by simp only; omega)
      · exact GF_of 2 rfl (by omega) (by omega) (by simp only; omega) (by simp only; omega)) (by omega)]
    simp only [Option.bind_some]
    have hv : flr [(⟨x.f0, 2⟩ : Fr), ⟨x.f1, 2⟩, ⟨x.f2, 2⟩] = (r2 x).2 := by simp [flr, r2]
    rw [hv, if_pos (by omega), w64 (n := (pre.length : Int) + 1) (by omega) (by omega)]
    have ih := renc_l0 o s age ov ad pf ha hp hal hpl suf (pre ++ [x]) k (l ++ [⟨2, (r2 x).2⟩]) (by rw [he]; simp) (by omega) (fun r hr => by
      rcases List.mem_append.1 hr with h | h
      · exact hg r h
      · rw [List.mem_singleton.1 h]; exact good2 x) (by simp; omega)
    rw [show (((pre ++ [x]).length : Nat) : Int) = pre.length + 1 by simp] at ih
    rw [ih]
    simp [rr, r2]
theorem rencode_eq (k : Nat) (o s age : Int) (ov : Bool) (ad : List AD) (pf : List PF) (hv : VL o s age ov ad pf) (hk : 100000000 ≤ k) : waypointref32_Encode.f k o s age ov ad pf = some (enc ⟨o, s, age, ov, ad, pf⟩) := by
  obtain ⟨k, rfl⟩ : ∃ j, k = j + 1 := ⟨k - 1, by omega⟩
  have h1 : 0 ≤ o ∧ o ≤ 63 := hv.o
  have h2 : 1 ≤ s ∧ s ≤ 1073741824 := hv.s
  have h3 : 0 ≤ age ∧ age ≤ 3600 := hv.age
  have h4 : ad.length ≤ 256 := hv.nad
  have h5 : pf.length ≤ 64 := hv.npf
  have hb : 0 ≤ b01 ov ∧ b01 ov ≤ 1 := by cases ov <;> simp [b01]
  have hj : waypointref32_Encode.j0 (k + 1) (b01 ov) o s age ov ad pf = some (enc ⟨o, s, age, ov, ad, pf⟩) := by
    simp only [waypointref32_Encode.j0]
    rw [rfields_eq k _ (by simp) (fun y hy => by
      simp only [List.mem_cons, List.not_mem_nil, or_false] at hy
      rcases hy with rfl | rfl | rfl | rfl
      · exact GF_of 2 rfl (by omega) (by omega) (by simp only; omega) (by simp only; omega)
      · exact GF_of 4 rfl (by omega) (by omega) (by simp only; omega) (by simp only; omega)
      · exact GF_of 2 rfl (by omega) (by omega) (by simp only; omega) (by simp only; omega)
      · exact GF_of 1 rfl (by omega) (by omega) (by simp only; omega) (by simp only; omega)) (by omega)]
    simp only [Option.bind_some]
    have hv1 : flr [(⟨o, 2⟩ : Fr), ⟨s, 4⟩, ⟨age, 2⟩, ⟨b01 ov, 1⟩] = (LS.r1 ⟨o, s, age, ov, ad, pf⟩).2 := by simp [flr, LS.r1]
    rw [hv1]
    have h := renc_l0 o s age ov ad pf (fun x hx => Row.mem hv.ad hx) (fun p hx => Row.mem hv.pf hx) (by omega) (by omega) ad [] k [⟨1, (LS.r1 ⟨o, s, age, ov, ad, pf⟩).2⟩] rfl (by omega) (fun r hr => by rw [List.mem_singleton.1 hr]; exact good1 ⟨o, s, age, ov, ad, pf⟩) (by simp; omega)
    simp only [List.length_nil] at h
    refine h.trans ?_
    rfl
  unfold waypointref32_Encode.f
  cases ov with
  | true => exact hj
  | false => exact hj
end Go.Proofs.Ytmknjjfdlkgidaa.HLsc
