/-
  Chapter 32, plain: what the printed functions compute: decoding, by the program.
-/
import Derived.Test.YtmknjjfdlkgidaaLsaI
import Derived.Test.YtmknjjfdlkgidaaLsaM
import Derived.Test.YtmknjjfdlkgidaaLsaK
import Derived.Test.YtmknjjfdlkgidaaHLscx10
import Derived.Test.YtmknjjfdlkgidaaHLscx9
import Derived.Test.YtmknjjfdlkgidaaHLscx8
import Derived.Test.YtmknjjfdlkgidaaHLscx7
namespace Go.Proofs.Ytmknjjfdlkgidaa.HLsc
open Go.RowKit Go.Proofs.YtmknjjfdlkgidaaW.PrintWords Go.Proofs.YtmknjjfdlkgidaaW.PrintLast Go.Proofs.YtmknjjfdlkgidaaW.PrintMore
open Go.Proofs.Ytmknjjfdlkgidaa.LM Go.Proofs.Ytmknjjfdlkgidaa.LS
set_option linter.unusedVariables false
set_option linter.unusedSimpArgs false
def yg (a : L) : L := { a with age := 0 }
theorem yg_valid {a : L} (h : Valid a) : Valid (yg a) := ⟨h.o, h.s, ⟨(show (0 : Int) ≤ 0 by decide), (show (0 : Int) ≤ 3600 by decide)⟩, h.nad, h.npf, h.ad, h.pf, fun e => absurd (show (0 : Int) = 3600 from e) (by decide)⟩
theorem young_eq (k : Nat) (a : L) (hG : G32 a.pf) (hv : Valid a) (hk : 100000000 ≤ k) : lsa_young.f k a.o a.s a.age a.ov a.ad a.pf = some (enc (yg a)) := by
  unfold lsa_young.f
  rw [encode_eq k a.o a.s 0 a.ov a.ad a.pf hG hk, if_pos (show VL a.o a.s 0 a.ov a.ad a.pf from yg_valid hv)]
  rfl
theorem purge_eq (a : L) : lsa_purge.f a.o a.s a.age a.ov a.ad a.pf = some (if a.age = 3600 then 1 else 0) := by
  unfold lsa_purge.f lsa_flag.f
  by_cases h : a.age = 3600
  · rw [if_pos h, h]; rfl
  · rw [if_neg h, beq_eq_false_iff_ne.2 h]; rfl
/-! ### byte by byte -/
def cmpE (a b : L) : Int := Lib.compareBytes (Lib.bytesOf (enc a)) (Lib.bytesOf (enc b))
theorem bytesOf_inj : ∀ {a b : List Int}, Bytes a → Bytes b → Lib.bytesOf a = Lib.bytesOf b → a = b
  | [], [], _, _, _ => rfl
  | [], _ :: _, _, _, h => by simp [Lib.bytesOf] at h
  | _ :: _, [], _, _, h => by simp [Lib.bytesOf] at h
  | x :: a, y :: b, ha, hb, h => by
    simp only [Lib.bytesOf, List.map_cons, List.cons.injEq] at h
    have h1 := ha x (by simp)
    have h2 := hb y (by simp)
    have e : x = y := by
      have := congrArg UInt8.toNat h.1
      rw [UInt8.toNat_ofNat', UInt8.toNat_ofNat'] at this
      omega
    rw [e, bytesOf_inj (fun z hz => ha z (by simp [hz])) (fun z hz => hb z (by simp [hz])) h.2]
theorem cmpE_zero {a b : L} (ha : Valid a) (hb : Valid b) : cmpE a b = 0 ↔ a = b := by
  constructor
  · intro h
    exact enc_inj ha hb (bytesOf_inj (enc_bytes a) (enc_bytes b) (LC.cmp_zero h))
  · rintro rfl
    exact LC.cmp_self _
/-- What Newer answers. -/
def newer (a b : L) : Int :=
  if Valid a ∧ Valid b then
    if a.s = b.s then (if (a.age = 3600 ↔ b.age = 3600) then cmpE (yg a) (yg b) else if a.age = 3600 then 1 else -1)
    else if a.s < b.s then -1 else 1
  else 0
theorem sign_eq (x : Int) (h0 : x ≠ 0) : mx (-1) (mn 1 x) = if x < 0 then -1 else 1 := by
  unfold mx mn
  split <;> split <;> split <;> omega
theorem newer_eq (k : Nat) (a b : L) (hG : G32 a.pf) (hG2 : G32 b.pf) (hk : 100000001 ≤ k) :
    lsa_Newer.f k a.o a.s a.age a.ov a.ad a.pf b.o b.s b.age b.ov b.ad b.pf = some (newer a b) := by
  obtain ⟨k, rfl⟩ : ∃ j, k = j + 1 := ⟨k - 1, by omega⟩
  unfold lsa_Newer.f newer
  rw [valid_eq (k + 1) _ _ _ _ _ _ hG (by omega), valid_eq (k + 1) _ _ _ _ _ _ hG2 (by omega)]
  simp only [Option.bind_some]
  simp only [lsa_Newer.j0, if_true]
  by_cases ha : Valid a
  · rw [decide_eq_true (show VL a.o a.s a.age a.ov a.ad a.pf from ha), if_pos rfl]
    by_cases hb : Valid b
    · rw [decide_eq_true (show VL b.o b.s b.age b.ov b.ad b.pf from hb), if_neg (by simp), if_pos (show Valid a ∧ Valid b from ⟨ha, hb⟩)]
      have s1 := ha.s
      have s2 := hb.s
      by_cases hs : a.s = b.s
      · rw [if_pos hs, if_pos hs, purge_eq, purge_eq]
        simp only [Option.bind_some]
        rw [young_eq k a hG ha (by omega), young_eq k b hG2 hb (by omega)]
        simp only [Option.bind_some]
        by_cases c1 : a.age = 3600
        · by_cases c2 : b.age = 3600
          · rw [if_pos c1, if_pos c2, if_pos rfl, if_pos (show (a.age = 3600 ↔ b.age = 3600) from ⟨fun _ => c2, fun _ => c1⟩)]
            unfold bytes_Compare.f
            rfl
          · rw [if_pos c1, if_neg c2, if_neg (by decide), if_neg (show ¬ (a.age = 3600 ↔ b.age = 3600) from fun h => c2 (h.1 c1)), if_pos c1, w64 (by omega) (by omega)]
            rfl
        · by_cases c2 : b.age = 3600
          · rw [if_neg c1, if_pos c2, if_neg (by decide), if_neg (show ¬ (a.age = 3600 ↔ b.age = 3600) from fun h => c1 (h.2 c2)), if_neg c1, w64 (by omega) (by omega)]
            rfl
          · rw [if_neg c1, if_neg c2, if_pos rfl, if_pos (show (a.age = 3600 ↔ b.age = 3600) from ⟨fun h => absurd h c1, fun h => absurd h c2⟩)]
            unfold bytes_Compare.f
            rfl
      · rw [if_neg hs, if_neg hs, w64 (by omega) (by omega)]
        unfold lsa_sign.f
        simp only [Option.bind_some]
        rw [sign_eq _ (by omega)]
        congr 1
        by_cases c : a.s < b.s
        · rw [if_pos (by omega), if_pos c]
        · rw [if_neg (by omega), if_neg c]
    · rw [decide_eq_false (show ¬ VL b.o b.s b.age b.ov b.ad b.pf from hb), if_pos (by simp), if_neg (show ¬ (Valid a ∧ Valid b) from fun h => hb h.2)]
  · rw [decide_eq_false (show ¬ VL a.o a.s a.age a.ov a.ad a.pf from ha), if_neg (by simp), if_neg (show ¬ (Valid a ∧ Valid b) from fun h => ha h.1)]
end Go.Proofs.Ytmknjjfdlkgidaa.HLsc
namespace Go.Proofs.Ytmknjjfdlkgidaa.HLsc
open Go.RowKit Go.Proofs.YtmknjjfdlkgidaaW.PrintWords Go.Proofs.YtmknjjfdlkgidaaW.PrintLast Go.Proofs.YtmknjjfdlkgidaaW.PrintMore
open Go.Proofs.Ytmknjjfdlkgidaa.LM Go.Proofs.Ytmknjjfdlkgidaa.LS
set_option linter.unusedVariables false
set_option linter.unusedSimpArgs false
/-! ### records -/
theorem records_step (x : Int) (b : List Int) : records (x :: b) = match front (x :: b) with
    | none => none
    | some n => (records ((x :: b).drop (3 + n))).map ((x, ((x :: b).drop 3).take n) :: ·) := by
  unfold records
  rw [List.length_cons]
  simp only [parse]
  cases front (x :: b) with
  | none => rfl
  | some n =>
    simp only [List.headD_cons]
    rw [parse_more b.length ((x :: b).drop (3 + n)) (by simp; omega)]
theorem records_bytes : ∀ (n : Nat) (b : List Int), b.length ≤ n → Bytes b → ∀ rs, records b = some rs → ∀ r ∈ rs, Bytes r.2
  | n, [], _, _, rs, h, r, hr => by
    obtain rfl : [] = rs := Option.some.inj h
    cases hr
  | 0, x :: b, hl, _, _, _, _, _ => by simp at hl
  | n + 1, x :: b, hl, hB, rs, h, r, hr => by
    rw [records_step] at h
    cases hf : front (x :: b) with
    | none => rw [hf] at h; cases h
    | some m =>
      rw [hf] at h
      simp only at h
      cases hq : records ((x :: b).drop (3 + m)) with
      | none => rw [hq] at h; cases h
      | some qs =>
        rw [hq] at h
        obtain rfl := Option.some.inj h
        rcases List.mem_cons.1 hr with rfl | hr
        · exact (hB.drop 3).take m
        · exact records_bytes n _ (by simp at hl ⊢; omega) (hB.drop _) qs hq r hr
abbrev toC (r : Rec) : CR := ⟨r.1, r.2⟩
theorem cdec_l0 : ∀ (n : Nat) (b : List Int), b.length ≤ n → ∀ (k : Nat) (out : List CR), n + 1 ≤ k → Bytes b → out.length + b.length < 4398046511104 →
    codec_Decode.l0 k b out = some (match records b with | some rs => (out ++ rs.map toC, 0) | none => ([], 4))
  | n, [], _, k, out, hk, _, _ => by
    obtain ⟨k, rfl⟩ : ∃ j, k = j + 1 := ⟨k - 1, by omega⟩
    simp [codec_Decode.l0, records, parse]
  | 0, x :: b, hl, _, _, _, _, _ => by simp at hl
  | n + 1, x :: b, hl, k, out, hk, hB, ho => by
    obtain ⟨k, rfl⟩ : ∃ j, k = j + 1 := ⟨k - 1, by omega⟩
    rw [records_step]
    simp only [codec_Decode.l0]
    rw [if_pos (by simp)]
    match b, hl, hB, ho with
    | [], _, _, _ => rw [if_pos (by simp)]; rfl
    | [_], _, _, _ => rw [if_pos (by simp)]; rfl
    | y :: z :: rest, hl, hB, ho =>
      rw [if_neg (by simp)]
      have e0 : rd (x :: y :: z :: rest) 0 = x := rfl
      have e1 : rd (x :: y :: z :: rest) 1 = y := rfl
      have e2 : rd (x :: y :: z :: rest) 2 = z := rfl
      rw [e0, e1, e2]
      have b0 := hB x (by simp)
      have b1 := hB y (by simp)
      have b2 := hB z (by simp)
      simp only [List.length_cons] at hl ho
      simp only [front]
      by_cases c0 : x = 0
      · rw [if_pos c0, if_pos c0]
      · rw [if_neg c0, if_neg c0, if_pos ⟨b0.1, b0.2, b1.1, b1.2, b2.1, b2.2⟩]
        by_cases c1 : (rest.length : Int) < y * 256 + z
        · rw [if_pos (by simp only [List.length_cons]; omega), if_pos c1]
        · rw [if_neg (by simp only [List.length_cons]; omega), if_neg c1, if_pos (by omega)]
          simp only
          have hn : (3 + y * 256 + z).toNat = 3 + (y * 256 + z).toNat := by omega
          rw [hn]
          have ih := cdec_l0 n ((x :: y :: z :: rest).drop (3 + (y * 256 + z).toNat)) (by simp; omega) k (out ++ [⟨x, ((x :: y :: z :: rest).take (3 + (y * 256 + z).toNat)).drop 3⟩]) (by omega) (hB.drop _) (by simp; omega)
          rw [ih]
          have hv : ((x :: y :: z :: rest).take (3 + (y * 256 + z).toNat)).drop 3 = ((x :: y :: z :: rest).drop 3).take (y * 256 + z).toNat := by rw [List.drop_take]; congr 1; omega
          rw [hv]
          cases records ((x :: y :: z :: rest).drop (3 + (y * 256 + z).toNat)) with
          | none => rfl
          | some rs => simp [toC]
theorem cdec_eq (k : Nat) (b : List Int) (hB : Bytes b) (hl : b.length ≤ 1000000) (hk : 1000010 ≤ k) : codec_Decode.f k b = some (match records b with | some rs => (rs.map toC, 0) | none => ([], 4)) := by
  have h := cdec_l0 b.length b (Nat.le_refl _) k [] (by omega) hB (by simp; omega)
  unfold codec_Decode.f
  rw [h]
  cases records b <;> simp
/-! ### numbers -/
theorem or8 (x y : Int) (h0 : 0 ≤ x) (h1 : x < 72057594037927936) (h2 : 0 ≤ y) (h3 : y ≤ 255) : Go.bits .or .u64 (x * 256) y = x * 256 + y :=
  bits_join .u64 64 (by decide) wraps_u64 8 (x * 256) y (by omega) (by omega) (by omega) h2 (by omega) (by omega)
theorem pow7 (n m : Nat) (h : n ≤ m) : (256 : Int) ^ n ≤ 256 ^ m := by
  have h1 : (256 : Nat) ^ n ≤ 256 ^ m := Nat.pow_le_pow_right (by decide) h
  have e : ∀ i : Nat, (256 : Int) ^ i = ((256 ^ i : Nat) : Int) := fun i => (Int.natCast_pow 256 i).symm
  rw [e, e]
  exact Int.ofNat_le.2 h1
theorem uint_l0 (b : List Int) (hB : Bytes b) (hl : b.length ≤ 7) : ∀ (suf pre : List Int) (k : Nat) (x : Int), b = pre ++ suf → suf.length + 1 ≤ k → 0 ≤ x → x < 256 ^ pre.length →
    codec_Uint.l0 k x b (b.length : Int) (pre.length : Int) = some (suf.foldl (fun n y => n * 256 + y) x, 0)
  | [], pre, k, x, he, hk, h0, h1 => by
    obtain ⟨k, rfl⟩ : ∃ j, k = j + 1 := ⟨k - 1, by omega⟩
    have : b.length = pre.length := by rw [he]; simp
    simp only [codec_Uint.l0]
    rw [if_neg (by omega)]
    rfl
  | c :: suf, pre, k, x, he, hk, h0, h1 => by
    obtain ⟨k, rfl⟩ : ∃ j, k = j + 1 := ⟨k - 1, by omega⟩
    have hlen : b.length = pre.length + suf.length + 1 := by rw [he]; simp; omega
    have hc : rd b (pre.length : Int) = c := by rw [he]; exact rdI pre suf c
    have hcb : 0 ≤ c ∧ c ≤ 255 := hB c (by rw [he]; simp)
    have hp := pow7 pre.length 6 (by omega)
    have hx : x < 281474976710656 := by
      have : (256 : Int) ^ 6 = 281474976710656 := by decide
      omega
    simp only [codec_Uint.l0]
    rw [if_pos (by omega), if_pos (by omega), if_pos (by omega), hc, u64_id (n := x * 256) (by omega) (by omega), u64_id (n := c) (by omega) (by omega), or8 x c h0 (by omega) hcb.1 hcb.2, w64 (by omega) (by omega)]
    have ih := uint_l0 b hB hl suf (pre ++ [c]) k (x * 256 + c) (by rw [he]; simp) (by simp at hk; omega) (by omega) (by
      rw [List.length_append, List.length_singleton, Int.pow_succ]
      omega)
    rw [show (((pre ++ [c]).length : Nat) : Int) = pre.length + 1 by simp] at ih
    rw [ih]
    rfl
theorem uint_eq (k : Nat) (b : List Int) (hB : Bytes b) (h1 : 1 ≤ b.length) (h7 : b.length ≤ 7) (hk : 10 ≤ k) : codec_Uint.f k b = some (ube b, 0) := by
  obtain ⟨k, rfl⟩ : ∃ j, k = j + 1 := ⟨k - 1, by omega⟩
  unfold codec_Uint.f
  rw [if_neg (by omega), decide_eq_false (by omega)]
  simp only [codec_Uint.j0, Bool.false_eq_true, if_false]
  have h := uint_l0 b hB h7 b [] k 0 rfl (by omega) (by omega) (by simp)
  exact h
/-- The numbers of a value, of these widths. -/
def numsS : List Int → List Int → List Int → List Int × Bool
  | x, acc, [] => (acc, (x.length : Int) == 0)
  | x, acc, w :: ws => if (x.length : Int) < w then ([], false) else numsS (x.drop w.toNat) (acc ++ [ube (x.take w.toNat)]) ws
theorem numbers_l0 (ws : List Int) (hw : ∀ w ∈ ws, 1 ≤ w ∧ w ≤ 4) (hl : ws.length ≤ 100) : ∀ (suf pre : List Int) (k : Nat) (x acc : List Int), ws = pre ++ suf → suf.length + 20 ≤ k → Bytes x → acc.length + suf.length ≤ 1000 →
    lsa_numbers.l0 k x acc ws (ws.length : Int) (pre.length : Int) = some (numsS x acc suf)
  | [], pre, k, x, acc, he, hk, hB, ha => by
    obtain ⟨k, rfl⟩ : ∃ j, k = j + 1 := ⟨k - 1, by omega⟩
    have : ws.length = pre.length := by rw [he]; simp
    simp only [lsa_numbers.l0]
    rw [if_neg (by omega)]
    rfl
  | w :: suf, pre, k, x, acc, he, hk, hB, ha => by
    obtain ⟨k, rfl⟩ : ∃ j, k = j + 1 := ⟨k - 1, by omega⟩
    have hlen : ws.length = pre.length + suf.length + 1 := by rw [he]; simp; omega
    have hc : rd ws (pre.length : Int) = w := by rw [he]; exact rdI pre suf w
    have hwb := hw w (by rw [he]; simp)
    simp only [List.length_cons] at hk ha
    simp only [lsa_numbers.l0, numsS]
    rw [if_pos (by omega), if_pos (by omega), if_pos (by omega), hc]
    refine ite_both (fun c => by rw [if_pos c]) (fun c => ?_)
    have ht : (x.take w.toNat).length = w.toNat := by rw [List.length_take]; omega
    have hub := ube_lt (x.take w.toNat) (hB.take _)
    have hun := ube_nonneg (x.take w.toNat) (hB.take _)
    have hp := pow_le7 (x.take w.toNat).length (by omega)
    rw [if_neg c, if_pos (by omega), if_pos (by omega), uint_eq k _ (hB.take _) (by omega) (by omega) (by omega)]
    simp only [Option.bind_some]
    rw [if_pos (by omega), w64 (n := ube (x.take w.toNat)) (by omega) (by omega), w64 (by omega) (by omega)]
    have ih := numbers_l0 ws hw hl suf (pre ++ [w]) k (x.drop w.toNat) (acc ++ [ube (x.take w.toNat)]) (by rw [he]; simp) (by omega) (hB.drop _) (by simp; omega)
    rw [show (((pre ++ [w]).length : Nat) : Int) = pre.length + 1 by simp] at ih
    exact ih
theorem numbers_eq (k : Nat) (x ws : List Int) (hw : ∀ w ∈ ws, 1 ≤ w ∧ w ≤ 4) (hl : ws.length ≤ 100) (hB : Bytes x) (hk : 200 ≤ k) : lsa_numbers.f k x ws = some (numsS x [] ws) := by
  have h := numbers_l0 ws hw hl ws [] k x [] rfl (by omega) hB (by simp; omega)
  exact h
theorem nums1 (v : List Int) : (v.length = 9 → numsS v [] [2, 4, 2, 1] = ([num v 0 2, num v 2 4, num v 6 2, num v 8 1], true)) ∧ (v.length ≠ 9 → (numsS v [] [2, 4, 2, 1]).2 = false) := by
  simp only [numsS, Int.reduceToNat, List.nil_append, List.cons_append, List.length_drop, List.drop_drop]
  constructor
  · intro h
    rw [if_neg (by omega), if_neg (by omega), if_neg (by omega), if_neg (by omega)]
    simp [num, h]
  · intro h
    split
    · rfl
    · split
      · rfl
      · split
        · rfl
        · split
          · rfl
          · simp only [beq_eq_false_iff_ne]; omega
theorem nums2 (v : List Int) : (v.length = 6 → numsS v [] [2, 2, 2] = ([num v 0 2, num v 2 2, num v 4 2], true)) ∧ (v.length ≠ 6 → (numsS v [] [2, 2, 2]).2 = false) := by
  simp only [numsS, Int.reduceToNat, List.nil_append, List.cons_append, List.length_drop, List.drop_drop]
  constructor
  · intro h
    rw [if_neg (by omega), if_neg (by omega), if_neg (by omega)]
    simp [num, h]
  · intro h
    split
    · rfl
    · split
      · rfl
      · split
        · rfl
        · simp only [beq_eq_false_iff_ne]; omega
theorem nums3 (v : List Int) : (v.length = 5 → numsS v [] [4, 1] = ([num v 0 4, num v 4 1], true)) ∧ (v.length ≠ 5 → (numsS v [] [4, 1]).2 = false) := by
  simp only [numsS, Int.reduceToNat, List.nil_append, List.cons_append, List.length_drop, List.drop_drop]
  constructor
  · intro h
    rw [if_neg (by omega), if_neg (by omega)]
    simp [num, h]
  · intro h
    split
    · rfl
    · split
      · rfl
      · simp only [beq_eq_false_iff_ne]; omega
theorem num_range (v : List Int) (hB : Bytes v) (i n : Nat) (hn : n ≤ 4) : 0 ≤ num v i n ∧ num v i n ≤ 4294967295 := by
  have h1 := ube_nonneg _ ((hB.drop i).take n)
  have h2 := ube_lt _ ((hB.drop i).take n)
  have h3 : ((v.drop i).take n).length ≤ 4 := by rw [List.length_take]; omega
  have h4 := pow7 _ 4 h3
  have h5 : (256 : Int) ^ 4 = 4294967296 := by decide
  unfold num
  omega
/-! ### Decode -/
abbrev ofL (a : L) : LSt := ⟨a.o, a.s, a.age, a.ov, a.ad, a.pf⟩
theorem add_eq (k : Nat) (a : L) (r : Rec) (hB : Bytes r.2) (h1 : a.ad.length ≤ 1000000) (h2 : a.pf.length ≤ 1000000) (hk : 300 ≤ k) :
    lsa_add.f k (ofL a) (toC r) = some (match addP a r with | some b => (true, ofL b) | none => (false, ofL a)) := by
  unfold lsa_add.f addP
  simp only [toC, ofL]
  by_cases c1 : r.1 = 1
  · rw [if_pos c1, if_pos c1, numbers_eq k r.2 _ (by simp) (by simp) hB (by omega)]
    simp only [Option.bind_some]
    by_cases hl : r.2.length = 9
    · rw [(nums1 r.2).1 hl, if_pos hl]
      simp only [if_true]
      rfl
    · rw [(nums1 r.2).2 hl, if_neg hl]
      simp
  · rw [if_neg c1, if_neg c1]
    by_cases c2 : r.1 = 2
    · rw [if_pos c2, if_pos c2, numbers_eq k r.2 _ (by simp) (by simp) hB (by omega)]
      simp only [Option.bind_some]
      by_cases hl : r.2.length = 6
      · rw [(nums2 r.2).1 hl, if_pos hl]
        simp only [if_true]
        rw [if_pos (by omega)]
      · rw [(nums2 r.2).2 hl, if_neg hl]
        simp
    · rw [if_neg c2, if_neg c2]
      by_cases c3 : r.1 = 3
      · rw [if_pos c3, if_pos c3, numbers_eq k r.2 _ (by simp) (by simp) hB (by omega)]
        simp only [Option.bind_some]
        by_cases hl : r.2.length = 5
        · rw [(nums3 r.2).1 hl, if_pos hl]
          simp only [if_true]
          have hn := num_range r.2 hB 0 4 (by omega)
          rw [if_pos (by omega), show IntKind.u32.wrap (num r.2 0 4) = num r.2 0 4 by rw [IntKind.wrap_u32]; omega]
        · rw [(nums3 r.2).2 hl, if_neg hl]
          simp
      · rw [if_neg c3, if_neg c3]
        by_cases c4 : r.1 = 4
        · rw [if_pos c4, c4]; rfl
        · rw [if_neg c4, beq_eq_false_iff_ne.2 c4]
theorem addP_len {a b : L} {r : Rec} (h : addP a r = some b) : b.ad.length ≤ a.ad.length + 1 ∧ b.pf.length ≤ a.pf.length + 1 := by
  unfold addP at h
  split at h
  · split at h
    · obtain rfl := Option.some.inj h; simp
    · cases h
  · split at h
    · split at h
      · obtain rfl := Option.some.inj h; simp
      · cases h
    · split at h
      · split at h
        · obtain rfl := Option.some.inj h; simp
        · cases h
      · split at h
        · obtain rfl := Option.some.inj h; simp
        · cases h
theorem addP_g32 {a b : L} {r : Rec} (hB : Bytes r.2) (hG : G32 a.pf) (h : addP a r = some b) : G32 b.pf := by
  unfold addP at h
  split at h
  · split at h
    · obtain rfl := Option.some.inj h; exact hG
    · cases h
  · split at h
    · split at h
      · obtain rfl := Option.some.inj h; exact hG
      · cases h
    · split at h
      · split at h
        · obtain rfl := Option.some.inj h
          intro p hp
          rcases List.mem_append.1 hp with hp | hp
          · exact hG p hp
          · rw [List.mem_singleton.1 hp]
            exact num_range r.2 hB 0 4 (by omega)
        · cases h
      · split at h
        · obtain rfl := Option.some.inj h; exact hG
        · cases h
theorem all_eq (k : Nat) (hk : 300 ≤ k) : ∀ (l : List Rec) (a : L), (∀ r ∈ l, Bytes r.2) → G32 a.pf → a.ad.length + l.length ≤ 1000000 → a.pf.length + l.length ≤ 1000000 →
    ∃ q, lsa_Decode.l0' k (ofL a) (l.map toC) = some q ∧ (match allP a l with | some b => q = (true, ofL b) ∧ G32 b.pf | none => q.1 = false)
  | [], a, _, hG, _, _ => ⟨_, rfl, rfl, hG⟩
  | r :: l, a, hB, hG, h1, h2 => by
    simp only [List.length_cons] at h1 h2
    have e := add_eq k a r (hB r (by simp)) (by omega) (by omega) hk
    simp only [List.map_cons, lsa_Decode.l0', allP]
    rw [e]
    cases ha : addP a r with
    | none => exact ⟨_, rfl, rfl⟩
    | some b =>
      simp only [Option.bind_some, if_true]
      have hl := addP_len ha
      exact all_eq k hk l b (fun x hx => hB x (by simp [hx])) (addP_g32 (hB r (by simp)) hG ha) (by omega) (by omega)
theorem records_len : ∀ (n : Nat) (b : List Int), b.length ≤ n → ∀ rs, records b = some rs → rs.length ≤ b.length
  | n, [], _, rs, h => by
    obtain rfl : [] = rs := Option.some.inj h
    simp
  | 0, x :: b, hl, _, _ => by simp at hl
  | n + 1, x :: b, hl, rs, h => by
    rw [records_step] at h
    cases hf : front (x :: b) with
    | none => rw [hf] at h; cases h
    | some m =>
      rw [hf] at h
      simp only at h
      cases hq : records ((x :: b).drop (3 + m)) with
      | none => rw [hq] at h; cases h
      | some qs =>
        rw [hq] at h
        obtain rfl := Option.some.inj h
        have := records_len n _ (by simp at hl ⊢; omega) qs hq
        simp at this ⊢
        omega
theorem check_eq (k : Nat) (b : List Int) (hB : Bytes b) (hl : b.length ≤ 1000000) (hk : 1000010 ≤ k) : fletcher_Check.f k b = some (decide (sums b = (0, 0))) := by
  unfold fletcher_Check.f fletcher_Sum.f
  rw [sum_eq k b hB (by omega) (by omega)]
  simp only [Option.bind_some]
  rcases hs : sums b with ⟨x, y⟩
  simp only
  by_cases c1 : x = 0
  · by_cases c2 : y = 0
    · simp [c1, c2]
    · simp [c1, c2]
  · simp [c1]
theorem beq_enc (a : L) (b : List Int) (hB : Bytes b) : ((strOfNums (enc a)).toList == (strOfNums b).toList) = decide (enc a = b) := by
  refine dec_of ?_
  rw [beq_iff_eq, Lib.strOfNums_toList, Lib.strOfNums_toList]
  exact ⟨fun h => bytesOf_inj (enc_bytes a) hB h, fun h => by rw [h]⟩
theorem decode_eq (k : Nat) (b : List Int) (hB : Bytes b) (hl : b.length ≤ 1000000) (hk : 100000000 ≤ k) :
    lsa_Decode.f k b = some (match dec b with | some a => (a.o, a.s, a.age, a.ov, a.ad, a.pf, 0) | none => (0, 0, 0, false, [], [], if sums b = (0, 0) then 4 else 5)) := by
  unfold lsa_Decode.f lsa_Decode.f'
  rw [check_eq k b hB hl (by omega), cdec_eq k b hB hl (by omega)]
  simp only [Option.bind_some]
  by_cases hs : sums b = (0, 0)
  · rw [decide_eq_true hs, if_pos rfl, if_pos hs]
    cases hr : records b with
    | none => rw [decP_none hr]; rfl
    | some rs =>
      simp only [if_true]
      have hrl := records_len b.length b (Nat.le_refl _) rs hr
      obtain ⟨q, hq, hm⟩ := all_eq k (by omega) rs L.zero (records_bytes b.length b (Nat.le_refl _) hB rs hr) (fun _ h => by cases h) (by simp [L.zero]; omega) (by simp [L.zero]; omega)
      have hz : LSt.zero = ofL L.zero := rfl
      rw [hz, hq]
      simp only [Option.bind_some]
      cases ha : allP L.zero rs with
      | none =>
        rw [ha] at hm
        simp only at hm
        rw [decP_none' hr ha, hm]
        rfl
      | some a =>
        rw [ha] at hm
        obtain ⟨rfl, hG⟩ := hm
        simp only [if_true, ofL]
        rw [encode_eq k a.o a.s a.age a.ov a.ad a.pf hG (by omega)]
        simp only [Option.bind_some]
        by_cases hv : Valid a
        · rw [if_pos (show VL a.o a.s a.age a.ov a.ad a.pf from hv)]
          unfold bytes_Equal.f
          simp only [if_true, Option.bind_some]
          rw [show (⟨a.o, a.s, a.age, a.ov, a.ad, a.pf⟩ : L) = a from rfl, beq_enc a b hB]
          by_cases he : enc a = b
          · rw [decide_eq_true he, if_pos rfl, decP.2 ⟨hv, he⟩]
          · rw [decide_eq_false he, if_neg (by simp), decP_no hr ha (fun h => he h.2)]
            rfl
        · rw [if_neg (show ¬ VL a.o a.s a.age a.ov a.ad a.pf from hv), decP_no hr ha (fun h => hv h.1)]
          rfl
  · rw [decide_eq_false hs, if_neg (by simp), if_neg hs]
    have hd : dec b = none := by
      cases hd : dec b with
      | none => rfl
      | some a => exact absurd (dec_sums hd) hs
    rw [hd]
    rfl
end Go.Proofs.Ytmknjjfdlkgidaa.HLsc
