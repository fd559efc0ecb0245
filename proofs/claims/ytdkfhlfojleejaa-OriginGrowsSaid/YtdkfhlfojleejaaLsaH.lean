/-
  Chapter 32, plain: what the printed functions compute: numbers, records, check sums.
-/
import Derived.Test.YtdkfhlfojleejaaLsaG
import Derived.Test.YtdkfhlfojleejaaHLscx5
import Derived.Test.YtdkfhlfojleejaaHLscx6
namespace Go.Proofs.Ytdkfhlfojleejaa.HLsc
open Go.RowKit Go.Proofs.YtdkfhlfojleejaaW.PrintWords Go.Proofs.YtdkfhlfojleejaaW.PrintLast Go.Proofs.YtdkfhlfojleejaaW.PrintMore
open Go.Proofs.Ytdkfhlfojleejaa.LM Go.Proofs.Ytdkfhlfojleejaa.LS
set_option linter.unusedVariables false
set_option linter.unusedSimpArgs false
/-! ### numbers -/
theorem be_front (m : Nat) : ∀ x : Int, be (m + 1) x = (x / 256 ^ m % 256) :: be m x := by
  induction m with
  | zero => intro x; simp [be]
  | succ m ih =>
    intro x
    have e : x / 256 / 256 ^ m = x / 256 ^ (m + 1) := by rw [Int.ediv_ediv, if_neg (by rintro ⟨h, _⟩; omega), Int.sub_zero, Int.pow_succ, Int.mul_comm]
    rw [be, ih (x / 256), e]
    rfl
theorem shr8 (v : Int) (m : Nat) (hm : m ≤ 8) : shr .u64 v (8 * (m : Int)) = v / 256 ^ m := by
  unfold shr
  rw [show min (8 * (m : Int)).toNat (IntKind.bits .u64) = 8 * m by simp [IntKind.bits]; omega, Int.pow_mul]
  rfl
theorem app_l0 : ∀ (m k : Nat) (v : Int) (b : List Int), m + 1 ≤ k → m ≤ 8 → b.length + m < 140737488355328 → codec_AppendUint.l0 k v b (8 * (m : Int) - 8) = some (b ++ be m v, 0)
  | 0, k, v, b, hk, hm, hb => by
    obtain ⟨k, rfl⟩ : ∃ j, k = j + 1 := ⟨k - 1, by omega⟩
    simp only [codec_AppendUint.l0]
    rw [if_neg (by simp)]
    simp [be]
  | m + 1, k, v, b, hk, hm, hb => by
    obtain ⟨k, rfl⟩ : ∃ j, k = j + 1 := ⟨k - 1, by omega⟩
    have ih := app_l0 m k v (b ++ [v / 256 ^ m % 256]) (by omega) (by omega) (by simp; omega)
    rw [show (8 * ((m + 1 : Nat) : Int) - 8) = 8 * (m : Int) by push_cast; omega]
    simp only [codec_AppendUint.l0]
    rw [if_pos (by omega), if_pos (by omega), if_pos (by omega), w64 (by omega) (by omega), shr8 v m (by omega), ih, be_front, List.append_assoc]
    rfl
theorem clone_eq (b : List Int) (hb : b.length < 140737488355328) : slices_Clone_byte_byte.f b = some b := by
  unfold slices_Clone_byte_byte.f
  simp only [Option.bind_some, List.length_nil, Nat.zero_add, List.nil_append]
  rw [if_pos hb]
theorem append_eq (k n : Nat) (b : List Int) (v : Int) (h1 : 1 ≤ n) (h2 : n ≤ 7) (hv : 0 ≤ v ∧ v < 256 ^ n) (hb : b.length + n < 140737488355328) (hk : 12 ≤ k) : codec_AppendUint.f k b v (n : Int) = some (b ++ be n v, 0) := by
  obtain ⟨k, rfl⟩ : ∃ j, k = j + 2 := ⟨k - 2, by omega⟩
  unfold codec_AppendUint.f
  rw [if_neg (by omega), decide_eq_false (by omega)]
  simp only [codec_AppendUint.j0, Bool.false_eq_true, if_false]
  rw [if_pos (by omega), w64 (by omega) (by omega), if_pos (by omega), shr8 v n (by omega), Int.ediv_eq_zero_of_lt hv.1 hv.2]
  simp only [codec_AppendUint.j1]
  rw [if_neg (by simp), clone_eq b (by omega), Option.bind_some]
  rw [w64 (n := (n : Int) - 1) (by omega) (by omega), w64 (n := 8 * ((n : Int) - 1)) (by omega) (by omega), show (8 * ((n : Int) - 1)) = 8 * (n : Int) - 8 by omega]
  exact app_l0 n k v b (by omega) (by omega) hb
theorem u64_id {n : Int} (h0 : 0 ≤ n) (h : n < 18446744073709551616) : IntKind.u64.wrap n = n := by rw [IntKind.wrap_u64]; omega
theorem pow_le7 (n : Nat) (h : n ≤ 7) : (256 : Int) ^ n ≤ 72057594037927936 := by
  have : ∀ i : Fin 8, (256 : Int) ^ i.val ≤ 72057594037927936 := by decide
  exact this ⟨n, by omega⟩
abbrev Fd := S96
def fl (xs : List Fd) : List Int := (xs.map fun x => be x.f1.toNat x.f0).flatten
def GF (x n : Int) : Prop := 1 ≤ n ∧ n ≤ 7 ∧ 0 ≤ x ∧ x < 256 ^ n.toNat
theorem value_l0 (k : Nat) (hk : 12 ≤ k) : ∀ (xs : List Fd) (b : List Int), (∀ x ∈ xs, GF x.f0 x.f1) → b.length + 8 * xs.length < 140737488355328 → lsa_value.l0 k xs b = some (b ++ fl xs)
  | [], b, _, _ => by simp [lsa_value.l0, fl]
  | x :: xs, b, h, hb => by
    obtain ⟨h1, h2, h3, h4⟩ := h x (by simp)
    have hp := pow_le7 x.f1.toNat (by omega)
    simp only [List.length_cons] at hb
    simp only [lsa_value.l0]
    have e := append_eq k x.f1.toNat b x.f0 (by omega) (by omega) ⟨h3, h4⟩ (by omega) hk
    rw [Int.toNat_of_nonneg (by omega)] at e
    rw [u64_id h3 (by omega), e, Option.bind_some]
    have hl := be_len x.f1.toNat x.f0
    rw [value_l0 k hk xs (b ++ be x.f1.toNat x.f0) (fun y hy => h y (by simp [hy])) (by rw [List.length_append, hl]; omega)]
    simp [fl]
theorem value_eq (k : Nat) (hk : 12 ≤ k) (xs : List Fd) (h : ∀ x ∈ xs, GF x.f0 x.f1) (hl : xs.length ≤ 1000) : lsa_value.f k xs = some (fl xs) := by
  unfold lsa_value.f
  rw [value_l0 k hk xs [] h (by simp; omega), List.nil_append]
/-! ### records -/
abbrev CR := S99
def rc (r : CR) : Rec := (r.f0, r.f1)
theorem rdC (pre suf : List CR) (x : CR) : rd_T99 (pre ++ x :: suf) (pre.length : Int) = x := by simp [rd_T99]
theorem cenc_l0 (l : List CR) (hl : l.length ≤ 1000000) (hg : ∀ r ∈ l, GoodR (rc r)) : ∀ (suf pre : List CR) (k : Nat) (b : List Int), l = pre ++ suf → 2 * suf.length + 1 ≤ k → b.length + (cenc (suf.map rc)).length < 140737488355328 →
    codec_Encode.l0 k b l (l.length : Int) (pre.length : Int) = some (b ++ cenc (suf.map rc), 0)
  | [], pre, k, b, he, hk, hb => by
    obtain ⟨k, rfl⟩ : ∃ j, k = j + 1 := ⟨k - 1, by omega⟩
    have : l.length = pre.length := by rw [he]; simp
    simp only [codec_Encode.l0]
    rw [if_neg (by omega)]
    simp [cenc]
  | x :: suf, pre, k, b, he, hk, hb => by
    obtain ⟨k, rfl⟩ : ∃ j, k = j + 2 := ⟨k - 2, by simp at hk; omega⟩
    have hlen : l.length = pre.length + suf.length + 1 := by rw [he]; simp; omega
    have hx : rd_T99 l (pre.length : Int) = x := by rw [he]; exact rdC pre suf x
    obtain ⟨g1, g2, g3, g4⟩ : GoodR (rc x) := hg x (by rw [he]; simp)
    simp only [rc] at g1 g2 g3 g4
    have hc : cenc ((x :: suf).map rc) = [x.f0, (x.f1.length : Int) / 256, (x.f1.length : Int) % 256] ++ x.f1 ++ cenc (suf.map rc) := by simp [cenc, recb, rc]
    rw [hc] at hb ⊢
    simp only [List.length_append, List.length_cons, List.length_nil] at hb
    have ih := cenc_l0 l hl hg suf (pre ++ [x]) k (b ++ ([x.f0, (x.f1.length : Int) / 256, (x.f1.length : Int) % 256] ++ x.f1)) (by rw [he]; simp) (by simp at hk; omega) (by simp only [List.length_append, List.length_cons, List.length_nil]; omega)
    rw [show (((pre ++ [x]).length : Nat) : Int) = pre.length + 1 by simp] at ih
    have hj : codec_Encode.j1 (k + 1) b l (l.length : Int) (pre.length : Int) false x.f0 x.f1 = some (b ++ ([x.f0, (x.f1.length : Int) / 256, (x.f1.length : Int) % 256] ++ x.f1 ++ cenc (suf.map rc)), 0) := by
      simp only [codec_Encode.j1, Bool.false_eq_true, if_false]
      rw [if_neg (by omega), show x.f0 % 256 = x.f0 by omega, show ((x.f1.length : Int) / 256) % 256 = (x.f1.length : Int) / 256 by omega]
      simp only [Option.bind_some]
      rw [if_pos (by simp only [List.length_cons, List.length_nil]; omega), if_pos (by simp only [List.length_append, List.length_cons, List.length_nil]; omega), w64 (by omega) (by omega), List.append_assoc b, ih]
      simp only [List.append_assoc]
    simp only [codec_Encode.l0]
    rw [if_pos (by omega), if_pos (by omega), if_pos (by omega), hx, if_neg (by omega), decide_eq_false (by omega)]
    exact hj
theorem cencode_eq (k : Nat) (l : List CR) (hg : ∀ r ∈ l, GoodR (rc r)) (hl : 2 * l.length + 1 ≤ k) (hl2 : l.length ≤ 1000000) (hb : (cenc (l.map rc)).length < 140737488355328) : codec_Encode.f k l = some (cenc (l.map rc), 0) := by
  have h := cenc_l0 l hl2 hg l [] k [] rfl hl (by simpa using hb)
  simpa [codec_Encode.f] using h
/-! ### check sums -/
theorem rdI (pre suf : List Int) (x : Int) : rd (pre ++ x :: suf) (pre.length : Int) = x := by simp [rd]
theorem tm {a : Int} (h : 0 ≤ a) : Int.tmod a 255 = a % 255 := Int.tmod_eq_emod_of_nonneg h
theorem reduce_eq (a : Int) (h0 : -1000000000000000000 ≤ a) (h1 : a ≤ 1000000000000000000) : fletcher_reduce.f a = some (a % 255) := by
  unfold fletcher_reduce.f
  have hr : -255 < Int.tmod a 255 ∧ Int.tmod a 255 < 255 := by
    rcases Int.lt_or_le a 0 with h | h
    · have e : Int.tmod a 255 = -((-a) % 255) := by
        rw [← Int.tmod_eq_emod_of_nonneg (show 0 ≤ -a by omega), Int.neg_tmod, Int.neg_neg]
      omega
    · rw [tm h]; omega
  rw [w64 (by omega) (by omega), tm (by omega)]
  congr 1
  rcases Int.lt_or_le a 0 with h | h
  · have e : Int.tmod a 255 = -((-a) % 255) := by
      rw [← Int.tmod_eq_emod_of_nonneg (show 0 ≤ -a by omega), Int.neg_tmod, Int.neg_neg]
    omega
  · rw [tm h]; omega
theorem upd_l0 (b : List Int) (hB : Bytes b) (hl : b.length ≤ 1000000000) : ∀ (suf pre : List Int) (k : Nat) (x y : Int), b = pre ++ suf → suf.length + 1 ≤ k → 0 ≤ x ∧ x ≤ 254 → 0 ≤ y ∧ y ≤ 254 →
    fletcher_Update.l0 k x y b (b.length : Int) (pre.length : Int) = some ((x + suf.sum) % 255, (y + suf.length * x + wsum suf) % 255)
  | [], pre, k, x, y, he, hk, hx, hy => by
    obtain ⟨k, rfl⟩ : ∃ j, k = j + 1 := ⟨k - 1, by omega⟩
    have : b.length = pre.length := by rw [he]; simp
    simp only [fletcher_Update.l0]
    rw [if_neg (by omega)]
    simp only [List.sum_nil, wsum, List.length_nil]
    congr 2 <;> omega
  | c :: suf, pre, k, x, y, he, hk, hx, hy => by
    obtain ⟨k, rfl⟩ : ∃ j, k = j + 1 := ⟨k - 1, by omega⟩
    have hlen : b.length = pre.length + suf.length + 1 := by rw [he]; simp; omega
    have hc : rd b (pre.length : Int) = c := by rw [he]; exact rdI pre suf c
    have hcb : 0 ≤ c ∧ c ≤ 255 := hB c (by rw [he]; simp)
    simp only [fletcher_Update.l0]
    rw [if_pos (by omega), if_pos (by omega), if_pos (by omega), hc, w64 (n := c) (by omega) (by omega), w64 (n := x + c) (by omega) (by omega), tm (a := x + c) (by omega), w64 (n := (pre.length : Int) + 1) (by omega) (by omega)]
    rw [w64 (n := y + (x + c) % 255) (by omega) (by omega), tm (a := y + (x + c) % 255) (by omega)]
    have ih := upd_l0 b hB hl suf (pre ++ [c]) k ((x + c) % 255) ((y + (x + c) % 255) % 255) (by rw [he]; simp) (by simp at hk; omega) (by omega) (by omega)
    rw [show (((pre ++ [c]).length : Nat) : Int) = pre.length + 1 by simp] at ih
    rw [ih]
    simp only [List.sum_cons, wsum, List.length_cons]
    obtain ⟨q, hq⟩ : ∃ q, (x + c) % 255 = x + c - 255 * q := ⟨(x + c) / 255, by omega⟩
    obtain ⟨L, hL⟩ : ∃ L : Int, (suf.length : Int) = L := ⟨_, rfl⟩
    have e1 : L * ((x + c) % 255) = L * x + L * c - 255 * (L * q) := by rw [hq, Int.mul_sub, Int.mul_add, Int.mul_left_comm]
    push_cast
    rw [hL, e1, Int.add_mul, Int.add_mul, Int.one_mul, Int.one_mul]
    congr 2 <;> omega
theorem sum_eq (k : Nat) (b : List Int) (hB : Bytes b) (hl : b.length ≤ 1000000000) (hk : b.length + 1 ≤ k) : fletcher_Update.f k 0 0 b = some (sums b) := by
  have h := upd_l0 b hB hl b [] k 0 0 rfl hk (by omega) (by omega)
  unfold fletcher_Update.f
  rw [reduce_eq 0 (by omega) (by omega)]
  simp only [Option.bind_some]
  simp only [List.length_nil] at h
  refine h.trans ?_
  unfold sums
  simp
end Go.Proofs.Ytdkfhlfojleejaa.HLsc
