/-
  Chapter 32, plain: what the printed functions compute: decoding, by the reference.
-/
import Derived.Test.YtmknjjfdlkgidaaLsaD
import Derived.Test.YtmknjjfdlkgidaaLsaJ
import Derived.Test.YtmknjjfdlkgidaaHLscx14
import Derived.Test.YtmknjjfdlkgidaaHLscx15
import Derived.Test.YtmknjjfdlkgidaaHLscx16
namespace Go.Proofs.Ytmknjjfdlkgidaa.HLsc
open Go.RowKit Go.Proofs.YtmknjjfdlkgidaaW.PrintWords Go.Proofs.YtmknjjfdlkgidaaW.PrintLast Go.Proofs.YtmknjjfdlkgidaaW.PrintMore
open Go.Proofs.Ytmknjjfdlkgidaa.LM Go.Proofs.Ytmknjjfdlkgidaa.LS
set_option linter.unusedVariables false
set_option linter.unusedSimpArgs false
abbrev toR (r : Rec) : RR := ⟨r.1, r.2⟩
theorem rcdec_l0 : ∀ (n : Nat) (b : List Int), b.length ≤ n → ∀ (k : Nat) (out : List RR), n + 1 ≤ k → Bytes b → out.length + b.length < 4398046511104 →
    waypointref07_Decode.l0 k b out = some (match records b with | some rs => (out ++ rs.map toR, 0) | none => ([], 4))
  | n, [], _, k, out, hk, _, _ => by
    obtain ⟨k, rfl⟩ : ∃ j, k = j + 1 := ⟨k - 1, by omega⟩
    simp [waypointref07_Decode.l0, records, parse]
  | 0, x :: b, hl, _, _, _, _, _ => by simp at hl
  | n + 1, x :: b, hl, k, out, hk, hB, ho => by
    obtain ⟨k, rfl⟩ : ∃ j, k = j + 1 := ⟨k - 1, by omega⟩
    rw [records_step]
    simp only [waypointref07_Decode.l0]
    rw [if_pos (by simp)]
    match b, hl, hB, ho with
    | [], _, _, _ => rw [if_pos (by simp)]; rfl
    | [_], _, _, _ => rw [if_pos (by simp)]; rfl
    | y :: z :: rest, hl, hB, ho =>
      rw [if_neg (by simp)]
      have e0 : rd (x :: y :: z :: rest) 0 = x := rfl
      have e1 : rd (x :: y :: z :: rest) 1 = y := rfl
      have e2 : rd (x :: y :: z :: rest) 2 = z := rfl
      rw [e0, e1, e2]
      have b0 := hB x (by simp)
      have b1 := hB y (by simp)
      have b2 := hB z (by simp)
      simp only [List.length_cons] at hl ho
      simp only [front]
      by_cases c0 : x = 0
      · rw [if_pos c0, if_pos c0]
      · rw [if_neg c0, if_neg c0, if_pos ⟨b0.1, b0.2, b1.1, b1.2, b2.1, b2.2⟩]
        by_cases c1 : (rest.length : Int) < y * 256 + z
        · rw [if_pos (by simp only [List.length_cons]; omega), if_pos c1]
        · rw [if_neg (by simp only [List.length_cons]; omega), if_neg c1, if_pos (by omega)]
          simp only
          have hn : (3 + y * 256 + z).toNat = 3 + (y * 256 + z).toNat := by omega
          rw [hn]
          have ih := rcdec_l0 n ((x :: y :: z :: rest).drop (3 + (y * 256 + z).toNat)) (by simp; omega) k (out ++ [⟨x, ((x :: y :: z :: rest).take (3 + (y * 256 + z).toNat)).drop 3⟩]) (by omega) (hB.drop _) (by simp; omega)
          rw [ih]
          have hv : ((x :: y :: z :: rest).take (3 + (y * 256 + z).toNat)).drop 3 = ((x :: y :: z :: rest).drop 3).take (y * 256 + z).toNat := by rw [List.drop_take]; congr 1; omega
          rw [hv]
          cases records ((x :: y :: z :: rest).drop (3 + (y * 256 + z).toNat)) with
          | none => rfl
          | some rs => simp [toR]
theorem rcdec_eq (k : Nat) (b : List Int) (hB : Bytes b) (hl : b.length ≤ 1000000) (hk : 1000010 ≤ k) : waypointref07_Decode.f k b = some (match records b with | some rs => (rs.map toR, 0) | none => ([], 4)) := by
  have h := rcdec_l0 b.length b (Nat.le_refl _) k [] (by omega) hB (by simp; omega)
  unfold waypointref07_Decode.f
  rw [h]
  cases records b <;> simp
theorem ruint_l0 (b : List Int) (hB : Bytes b) (hl : b.length ≤ 7) : ∀ (suf pre : List Int) (k : Nat) (x : Int), b = pre ++ suf → suf.length + 1 ≤ k → 0 ≤ x → x < 256 ^ pre.length →
    waypointref07_Uint.l0 k b x (pre.length : Int) = some (suf.foldl (fun n y => n * 256 + y) x)
  | [], pre, k, x, he, hk, h0, h1 => by
    obtain ⟨k, rfl⟩ : ∃ j, k = j + 1 := ⟨k - 1, by omega⟩
    have : b.length = pre.length := by rw [he]; simp
    simp only [waypointref07_Uint.l0]
    rw [if_neg (by omega)]
    rfl
  | c :: suf, pre, k, x, he, hk, h0, h1 => by
    obtain ⟨k, rfl⟩ : ∃ j, k = j + 1 := ⟨k - 1, by omega⟩
    have hlen : b.length = pre.length + suf.length + 1 := by rw [he]; simp; omega
    have hc : rd b (pre.length : Int) = c := by rw [he]; exact rdI pre suf c
    have hcb : 0 ≤ c ∧ c ≤ 255 := hB c (by rw [he]; simp)
    have hp := pow7 pre.length 6 (by omega)
    have hx : x < 281474976710656 := by
      have : (256 : Int) ^ 6 = 281474976710656 := by decide
      omega
    simp only [waypointref07_Uint.l0]
    rw [if_pos (by omega), if_pos (by omega), hc]
    rw [u64_id (n := x * 256) (by omega) (by omega), u64_id (n := c) (by omega) (by omega), u64_id (n := x * 256 + c) (by omega) (by omega), w64 (by omega) (by omega)]
    have ih := ruint_l0 b hB hl suf (pre ++ [c]) k (x * 256 + c) (by rw [he]; simp) (by simp at hk; omega) (by omega) (by
      rw [List.length_append, List.length_singleton, Int.pow_succ]
      omega)
    rw [show (((pre ++ [c]).length : Nat) : Int) = pre.length + 1 by simp] at ih
    rw [ih]
    rfl
theorem ruint_eq (k : Nat) (b : List Int) (hB : Bytes b) (h7 : b.length ≤ 7) (hk : 10 ≤ k) : waypointref07_Uint.f k b = some (ube b) := by
  have h := ruint_l0 b hB h7 b [] k 0 rfl (by omega) (by omega) (by simp)
  exact h
theorem num_mid (v : List Int) (i n : Nat) : (v.take (i + n)).drop i = (v.drop i).take n := by rw [List.drop_take]; congr 1; omega
theorem num_at (v : List Int) (i : Nat) (h : i < v.length) : num v i 1 = rd v (i : Int) := by
  unfold num
  rw [List.drop_eq_getElem_cons h, show rd v (i : Int) = v[i] by simp [rd, List.getD_eq_getElem?_getD, List.getElem?_eq_getElem h]]
  show (0 : Int) * 256 + v[i] = v[i]
  omega
theorem rstep_eq (k : Nat) (i : Nat) (a : L) (r : Rec) (hB : Bytes r.2) (h1 : a.ad.length ≤ 1000000) (h2 : a.pf.length ≤ 1000000) (hk : 300 ≤ k) :
    rd32_step k (i : Int) (ofL a) (toR r) = some (ofL (addR i a r)) := by
  unfold rd32_step
  have u : ∀ (j n : Nat), n ≤ 4 → waypointref07_Uint.f k ((r.2.take (j + n)).drop j) = some (num r.2 j n) := fun j n hn => by
    rw [num_mid, ruint_eq k _ ((hB.drop _).take _) (by rw [List.length_take]; omega) (by omega)]
    rfl
  have u0 : ∀ (n : Nat), n ≤ 4 → waypointref07_Uint.f k (r.2.take n) = some (num r.2 0 n) := fun n hn => by
    have h := u 0 n hn
    rwa [Nat.zero_add, List.drop_zero] at h
  have w : ∀ (j n : Nat), n ≤ 4 → wrap64 (num r.2 j n) = num r.2 j n := fun j n hn => by
    have h := num_range r.2 hB j n hn
    rw [w64 (by omega) (by omega)]
  by_cases c1 : (i : Int) = 0 ∧ r.1 = 1 ∧ r.2.length = 9
  · have e : addR i a r = { a with o := num r.2 0 2, s := num r.2 2 4, age := num r.2 6 2, ov := decide (num r.2 8 1 = 1) } := by
      unfold addR
      rw [if_pos (show i = 0 ∧ r.1 = 1 ∧ r.2.length = 9 from ⟨by omega, c1.2⟩)]
    rw [e, if_pos (show (i : Int) = 0 ∧ (toR r).f0 = 1 ∧ (toR r).f1.length = 9 from c1)]
    simp only [toR, ofL]
    rw [u0 2 (by omega), u 2 4 (by omega), u 6 2 (by omega)]
    simp only [Option.bind_some]
    rw [w 0 2 (by omega), w 2 4 (by omega), w 6 2 (by omega), num_at r.2 8 (by omega)]
    rfl
  · have d1 : ¬ (i = 0 ∧ r.1 = 1 ∧ r.2.length = 9) := fun h => c1 ⟨by omega, h.2⟩
    rw [if_neg (show ¬ ((i : Int) = 0 ∧ (toR r).f0 = 1 ∧ (toR r).f1.length = 9) from c1)]
    by_cases c2 : r.1 = 2 ∧ r.2.length = 6
    · have e : addR i a r = { a with ad := a.ad ++ [⟨num r.2 0 2, num r.2 2 2, num r.2 4 2⟩] } := by
        unfold addR
        rw [if_neg d1, if_pos c2]
      rw [e, if_pos (show (toR r).f0 = 2 ∧ (toR r).f1.length = 6 from c2)]
      simp only [toR, ofL]
      rw [u0 2 (by omega), u 2 2 (by omega), u 4 2 (by omega)]
      simp only [Option.bind_some]
      rw [if_pos (by omega), w 0 2 (by omega), w 2 2 (by omega), w 4 2 (by omega)]
    · rw [if_neg (show ¬ ((toR r).f0 = 2 ∧ (toR r).f1.length = 6) from c2)]
      by_cases c3 : r.1 = 3 ∧ r.2.length = 5
      · have e : addR i a r = { a with pf := a.pf ++ [⟨num r.2 0 4, num r.2 4 1⟩] } := by
          unfold addR
          rw [if_neg d1, if_neg c2, if_pos c3]
        rw [e, if_pos (show (toR r).f0 = 3 ∧ (toR r).f1.length = 5 from c3)]
        simp only [toR, ofL]
        rw [u0 4 (by omega)]
        simp only [Option.bind_some]
        have hn := num_range r.2 hB 0 4 (by omega)
        have h4 := num_at r.2 4 (by omega)
        have hr : 0 ≤ rd r.2 4 ∧ rd r.2 4 ≤ 255 := by
          have := hB (rd r.2 4) (by
            have hl : 4 < r.2.length := by omega
            have e : rd r.2 4 = r.2[4] := by simp [rd, List.getD_eq_getElem?_getD, List.getElem?_eq_getElem hl]
            rw [e]; exact List.getElem_mem hl)
          exact this
        rw [if_pos hr, if_pos (by omega), show IntKind.u32.wrap (num r.2 0 4) = num r.2 0 4 by rw [IntKind.wrap_u32]; omega, h4]
        rfl
      · have e : addR i a r = a := by
          unfold addR
          rw [if_neg d1, if_neg c2, if_neg c3]
        rw [e, if_neg (show ¬ ((toR r).f0 = 3 ∧ (toR r).f1.length = 5) from c3)]
theorem addR_len (i : Nat) (a : L) (r : Rec) : (addR i a r).ad.length ≤ a.ad.length + 1 ∧ (addR i a r).pf.length ≤ a.pf.length + 1 := by
  unfold addR
  split
  · simp
  · split
    · simp
    · split <;> simp
theorem addR_g32 (i : Nat) {a : L} {r : Rec} (hB : Bytes r.2) (hG : G32 a.pf) : G32 (addR i a r).pf := by
  unfold addR
  split
  · exact hG
  · split
    · exact hG
    · split
      · intro p hp
        rcases List.mem_append.1 hp with hp | hp
        · exact hG p hp
        · rw [List.mem_singleton.1 hp]
          exact num_range r.2 hB 0 4 (by omega)
      · exact hG
theorem rall_eq (k : Nat) (hk : 300 ≤ k) : ∀ (l : List Rec) (i : Nat) (a : L), (∀ r ∈ l, Bytes r.2) → G32 a.pf → a.ad.length + l.length ≤ 1000000 → a.pf.length + l.length ≤ 1000000 →
    waypointref32_Decode.l0' k (i : Int) (ofL a) (l.map toR) = some (ofL (allR i a l)) ∧ G32 (allR i a l).pf
  | [], i, a, _, hG, _, _ => ⟨rfl, hG⟩
  | r :: l, i, a, hB, hG, h1, h2 => by
    simp only [List.length_cons] at h1 h2
    have e := rstep_eq k i a r (hB r (by simp)) (by omega) (by omega) hk
    have hl := addR_len i a r
    have ih := rall_eq k hk l (i + 1) (addR i a r) (fun x hx => hB x (by simp [hx])) (addR_g32 i (hB r (by simp)) hG) (by omega) (by omega)
    simp only [List.map_cons, waypointref32_Decode.l0', allR]
    rw [e]
    simp only [Option.bind_some]
    rw [show ((i : Int) + 1) = ((i + 1 : Nat) : Int) by simp]
    exact ih
theorem str_enc (a : L) (b : List Int) (hB : Bytes b) : ((strOfNums (enc a)).toList = (strOfNums b).toList) ↔ enc a = b := by
  rw [Lib.strOfNums_toList, Lib.strOfNums_toList]
  exact ⟨fun h => bytesOf_inj (enc_bytes a) hB h, fun h => by rw [h]⟩
theorem rdecode_eq (k : Nat) (b : List Int) (hB : Bytes b) (hl : b.length ≤ 1000000) (hk : 100000000 ≤ k) :
    waypointref32_Decode.f k b = some (match dec b with | some a => (a.o, a.s, a.age, a.ov, a.ad, a.pf, 0) | none => (0, 0, 0, false, [], [], if sums b = (0, 0) then 4 else 5)) := by
  unfold waypointref32_Decode.f
  rw [rsum_eq k b hB (by omega) (by omega), rcdec_eq k b hB hl (by omega)]
  simp only [Option.bind_some]
  by_cases hs : sums b = (0, 0)
  · rw [if_pos (show (sums b).1 = 0 ∧ (sums b).2 = 0 by rw [hs]; exact ⟨rfl, rfl⟩), if_pos hs]
    cases hr : records b with
    | none => rw [decP_none hr]; rfl
    | some rs =>
      simp only [if_true]
      have hrl := records_len b.length b (Nat.le_refl _) rs hr
      obtain ⟨hq, hG⟩ := rall_eq k (by omega) rs 0 L.zero (records_bytes b.length b (Nat.le_refl _) hB rs hr) (fun _ h => by cases h) (by simp [L.zero]; omega) (by simp [L.zero]; omega)
      have hz : LSt.zero = ofL L.zero := rfl
      rw [hz, show (0 : Int) = ((0 : Nat) : Int) from rfl, hq]
      simp only [Option.bind_some]
      have hno := fun h => decR_no (b := b) hr h
      generalize allR 0 L.zero rs = a at hG hno
      try simp only [ofL]
      rw [rvalid_eq k a.o a.s a.age a.ov a.ad a.pf hG (by omega)]
      simp only [Option.bind_some]
      by_cases hv : Valid a
      · rw [decide_eq_true (show VL a.o a.s a.age a.ov a.ad a.pf from hv), if_pos rfl, rencode_eq k a.o a.s a.age a.ov a.ad a.pf hv hk]
        simp only [Option.bind_some]
        rw [show (⟨a.o, a.s, a.age, a.ov, a.ad, a.pf⟩ : L) = a from rfl]
        by_cases he : enc a = b
        · rw [if_pos ((str_enc a b hB).2 he), decP.2 ⟨hv, he⟩]
        · rw [if_neg (fun h => he ((str_enc a b hB).1 h)), hno (fun h => he h.2)]
          rfl
      · rw [decide_eq_false (show ¬ VL a.o a.s a.age a.ov a.ad a.pf from hv), if_neg (by simp), hno (fun h => hv h.1)]
        rfl
  · rw [if_neg (fun h => hs (Prod.ext h.1 h.2)), if_neg hs]
    have hd : dec b = none := by
      cases hd : dec b with
      | none => rfl
      | some a => exact absurd (dec_sums hd) hs
    rw [hd]
    rfl
end Go.Proofs.Ytmknjjfdlkgidaa.HLsc
