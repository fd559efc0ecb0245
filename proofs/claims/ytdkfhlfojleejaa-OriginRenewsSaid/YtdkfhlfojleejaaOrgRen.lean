/-
  OriginRenews: the walk.
-/
import Derived.Test.YtdkfhlfojleejaaOrgW
namespace Go.Proofs.Ytdkfhlfojleejaa.HLsc
open Go.RowKit Go.Proofs.YtdkfhlfojleejaaW.PrintWords Go.Proofs.YtdkfhlfojleejaaW.PrintLast Go.Proofs.YtdkfhlfojleejaaW.PrintMore
open Go.Proofs.Ytdkfhlfojleejaa.LM Go.Proofs.Ytdkfhlfojleejaa.LS
attribute [local go_sem] gtr_str leq_str max2_int min2_int max_two min_two max_three min_three max_four min_four
set_option linter.unusedVariables false
set_option linter.unusedSimpArgs false
/-- The originator of the law behind so many ticks. -/
def rS (t : Int) : OS := ⟨true, [], [], 5, 1 + t / 1800, t % 1800, true⟩
def rZ : OS := ⟨false, [], [], 5, 0, 0, false⟩
theorem ren0 : rZ.tick 5000 = (rZ, false) := by kernel_rfl
theorem ren1 : rZ.setP true [] [] = (rS 0, true, 0) := by
  have hv : VL rZ.node 1 0 true [] [] := valid_plain 5 1 0 (by decide) (by decide) (by decide) (by decide) (by decide) (by decide) true
  unfold OS.setP
  rw [decide_eq_true hv, set_made _ _ _ _ _ (fun h => by cases h) (by decide) (by decide)]
  rfl
theorem ren (t n : Int) (t0 : 0 ≤ t) (t1 : t ≤ 1000000) (n0 : 0 ≤ n) (n1 : n ≤ 10000) : (rS t).tick n = (rS (t + n), decide (t / 1800 < (t + n) / 1800)) := by
  have hr : (rS t).rest = 1800 - t % 1800 := by unfold OS.rest rS; rw [w64r (by simp only; omega) (by simp only; omega)]
  have hg : ∀ (s : OS) (m : Int), 0 ≤ s.age → s.age ≤ 3600 → 0 ≤ m → m ≤ 10000 → s.age + m < 3599 → s.grow m = { s with age := s.age + m } := fun s m h0 h1 h2 h3 h4 => by
    have e1 : mn m 3600 = m := by unfold mn; rw [if_neg (by omega)]
    have e2 : mn 3599 (s.age + m) = s.age + m := by unfold mn; rw [if_pos (by omega)]
    unfold OS.grow
    rw [e1, w64r (by omega) (by omega), e2]
  unfold OS.tick
  rw [if_neg (by simp [rS])]
  by_cases h0 : n ≤ 0
  · obtain rfl : n = 0 := by omega
    rw [if_pos (by omega), Int.add_zero, decide_eq_false (by omega)]
  · rw [if_neg h0, hr, if_neg (by omega)]
    by_cases h1 : n < 1800 - t % 1800
    · rw [if_pos h1, hg (rS t) n (by show 0 ≤ t % 1800; omega) (by show t % 1800 ≤ 3600; omega) n0 n1 (by show t % 1800 + n < 3599; omega), decide_eq_false (by omega)]
      show ((⟨true, [], [], 5, 1 + t / 1800, t % 1800 + n, true⟩ : OS), false) = (⟨true, [], [], 5, 1 + (t + n) / 1800, (t + n) % 1800, true⟩, false)
      rw [show (t + n) / 1800 = t / 1800 by omega, show (t + n) % 1800 = t % 1800 + n by omega]
    · have ht : (rS t).times n = (n - (1800 - t % 1800)) / 1800 + 1 := by
        unfold OS.times
        rw [hr, w64r (n := n - (1800 - t % 1800)) (by omega) (by omega), Int.tdiv_eq_ediv_of_nonneg (by omega), w64r (n := (n - (1800 - t % 1800)) / 1800) (by omega) (by omega), w64r (by omega) (by omega)]
        show mn _ (wrap64 (1073741824 - (1 + t / 1800))) = _
        rw [w64r (by omega) (by omega)]
        unfold mn
        rw [if_neg (by omega)]
      rw [if_neg h1, if_neg (by show ¬ (1 + t / 1800 ≥ 1073741824); omega), ht]
      obtain ⟨A, hA⟩ : ∃ A : Int, n - (1800 - t % 1800) = A := ⟨_, rfl⟩
      obtain ⟨D, hD⟩ : ∃ D : Int, A / 1800 = D := ⟨_, rfl⟩
      rw [hA, hD, w64r (n := D + 1 - 1) (by omega) (by omega), w64r (n := A) (by omega) (by omega), w64r (n := (D + 1 - 1) * 1800) (by omega) (by omega), w64r (n := A - (D + 1 - 1) * 1800) (by omega) (by omega)]
      rw [hg _ _ (by simp) (by simp) (by omega) (by omega) (by simp only; omega), decide_eq_true (by omega)]
      show ((⟨true, [], [], 5, wrap64 (1 + t / 1800 + (D + 1)), 0 + (A - (D + 1 - 1) * 1800), true⟩ : OS), true) = (⟨true, [], [], 5, 1 + (t + n) / 1800, (t + n) % 1800, true⟩, true)
      rw [w64r (by omega) (by omega), show 1 + t / 1800 + (D + 1) = 1 + (t + n) / 1800 by omega, show 0 + (A - (D + 1 - 1) * 1800) = (t + n) % 1800 by omega]
def waypointlaw36_OriginRenews.f (k : Nat) (l0 : List Int) : Option Bool := if l0.all (fun x => decide (0 ≤ x) && decide (x ≤ 65535)) = true then some true else none
set_option maxHeartbeats 8000000 in
set_option maxRecDepth 100000 in
theorem waypointlaw36_OriginRenews.calls (k : Nat) (A0 : Option Addr) (c0 : Nat) (l0 : List Int) (r : Bool) (w : World) (hr0 : Kd.C (Kd.int .u16) w A0 l0.length l0) (hc0 : l0.length ≤ c0) (h : waypointlaw36_OriginRenews.f k l0 = some r) :
    Calls Try.prog 6 #[.slice A0 l0.length c0] w fun e w' => e = .returned (.bool r) ∧ Below w.heap.size w w' := by
  have hu := Try.underlying32
  have hu2 := Try.underlying49
  unfold waypointlaw36_OriginRenews.f at h
  by_cases hall : l0.all (fun x => decide (0 ≤ x) && decide (x ≤ 65535)) = true
  rotate_left
  · rw [if_neg hall] at h
    cases h
  rw [if_pos hall] at h
  obtain rfl : true = r := Option.some.inj h
  have HALL := Aside0.mk (show ∀ x ∈ l0, 0 ≤ x ∧ x ≤ 65535 from fun x hx => by
    have := List.all_eq_true.1 hall x hx
    simpa using this)
  have HR0 := Aside0.mk hr0
  have HC0 := Aside0.mk hc0
  have hmx : l0.length ≤ 9223372036854775807 := hr0.2.1
  clear h hall hr0 hc0
  by_cases h20 : (l0.length : Int) > 20
  · have q20 : decide (20 < (l0.length : Int)) = true := decide_eq_true h20
    have q20' : decide (20 < l0.length) = true := decide_eq_true (by omega)
    clear h20
    go_enter Try.func6, Try.ntmps6
    go_wp2_with (
      first
      | ((with_reducible refine gate_callee (f := 8) rfl ?_); refine goesL_ (some 14) rfl rfl Try.func8 (by kernel_rfl) rfl #[] rfl (by (try simp only [List.map_toArray, List.map_cons, List.map_nil]); first | done | rfl | (simp only [List.length_drop, List.length_take]; rfl)) ?_; refine (awake36 _).mono ?_; rintro e w1 ⟨rfl, hb⟩; refine ⟨_, rfl, ?_⟩; have H1 := Aside0.mk hb; clear hb))
    go_ret
    exact ⟨rfl, H1.out⟩
  have q20 : decide (20 < (l0.length : Int)) = false := decide_eq_false h20
  have q20' : decide (20 < l0.length) = false := decide_eq_false (by omega)
  go_enter Try.func6, Try.ntmps6
  go_wp2_with (
    first
    | ((with_reducible refine gate_callee (f := 8) rfl ?_); refine goesL_ (some 14) rfl rfl Try.func8 (by kernel_rfl) rfl #[] rfl (by (try simp only [List.map_toArray, List.map_cons, List.map_nil]); first | done | rfl | (simp only [List.length_drop, List.length_take]; rfl)) ?_; refine (awake36 _).mono ?_; rintro e w1 ⟨rfl, hb⟩; refine ⟨_, rfl, ?_⟩; have H1 := Aside0.mk hb; clear hb)
    | ((with_reducible refine gate_callee (f := 10) rfl ?_); refine goesL_ (some 20) rfl rfl Try.func10 (by kernel_rfl) rfl #[.int .i64 5] rfl (by (try simp only [List.map_toArray, List.map_cons, List.map_nil]); first | done | rfl | (simp only [List.length_drop, List.length_take]; rfl)) ?_; refine (new_calls 5 _ (by decide) (by decide)).mono ?_; rintro e w2 ⟨g, rfl, hg, hO, hb⟩; refine ⟨_, rfl, ?_⟩; have G := Aside0.mk (Nat.le_trans H1.out.size hg); have O2 := Aside0.mk (show Orig w2 g rZ from hO); have H2 := Aside0.mk (below_step H1.out hb); clear hg hO hb)
    )
  refine (tick_calls g rZ 5000 _ O2.out).mono ?_
  rintro e w3 ⟨rfl, hO, hM⟩
  simp only [ren0] at hO ⊢
  have O3 := Aside0.mk hO
  have H3 := Aside0.mk (H2.out.trans (hM.b.mono G.out))
  clear hO hM
  go_wp2_with fail
  refine (floor_calls g rZ _ O3.out).mono ?_
  rintro e w4 ⟨rfl, hb⟩
  have O4 := Aside0.mk (O3.out.below hb)
  have H4 := Aside0.mk (below_step H3.out hb)
  clear hb
  dsimp only [rZ]
  go_wp2_with (
    first
    | ((with_reducible refine gate_callee (f := 16) rfl ?_); refine goesL_ (some 37) rfl rfl Try.func16 (by kernel_rfl) rfl #[.pointer (some ⟨g, 0, none⟩), .agg #[.bool true, .slice none 0 0, .slice none 0 0]] rfl (by (try simp only [List.map_toArray, List.map_cons, List.map_nil]); first | done | rfl | (simp only [List.length_drop, List.length_take]; rfl)) ?_; refine (setP_calls g rZ true _ _ [] [] _ O4.out (nilA _) (nilP _) (by simp) (by simp) (by simp [rZ]) (by simp [rZ]) g32_nil).mono ?_; rintro e w5 ⟨rfl, hO, hM⟩; refine ⟨_, rfl, ?_⟩; simp only [ren1] at hO ⊢; have O5 := Aside0.mk hO; have H5 := Aside0.mk (H4.out.trans (hM.b.mono G.out)); clear hO hM)
    )
  go_loopw [7, 8] (fun v7 v8 wr => ∃ t i : Int, v7 = .int .i64 t ∧ v8 = .int .i64 i ∧ Aside0 (0 ≤ i ∧ i ≤ l0.length) ∧ Aside0 (0 ≤ t ∧ t ≤ 10000 * i) ∧ Aside0 (Orig wr g (rS t)) ∧ Aside0 (Below w.heap.size w wr)) (fun _ v8 _ => ((l0.length : Int) - intOf v8).toNat)
  case atStart => exact ⟨0, 0, rfl, rfl, ⟨by omega, by omega⟩, ⟨by omega, by omega⟩, O5, H5⟩
  case round =>
    clear O2 H1 H2 O3 H3 O4 H4 O5 H5
    obtain ⟨t, i, rfl, rfl, hi, ht, O, HB⟩ := hrel
    have i0 := hi.out.1
    have i1 := hi.out.2
    have t0 := ht.out.1
    have t1 : t ≤ 200000 := by have := ht.out.2; omega
    by_cases c : i < (l0.length : Int)
    · obtain ⟨ad, hA, hx⟩ := Kd.at_int (Kd.C_below HR0.out HB.out) i i0 c
      have hxm : rd l0 i ∈ l0 := by
        have hn : i.toNat < l0.length := by omega
        have e : rd l0 i = l0[i.toNat] := by simp [rd, List.getD_eq_getElem?_getD, List.getElem?_eq_getElem hn]
        rw [e]
        exact List.getElem_mem hn
      obtain ⟨x0, x1⟩ := HALL.out _ hxm
      clear hxm
      generalize rd l0 i = x at hx x0 x1
      subst hA
      obtain ⟨n, hn⟩ : ∃ n : Int, x % 10001 = n := ⟨_, rfl⟩
      have n0 : 0 ≤ n := by omega
      have n1 : n ≤ 10000 := by omega
      have Hn := Aside0.mk hn
      clear hn
      have HREN := Aside0.mk (ren t n t0 (by omega) n0 n1)
      go_upto_region 18 with (fail)
      rw [Hn.out]
      have e0 : 0 ≤ t + n := by omega
      have e1 : t + n ≤ 300000 := by omega
      have HT := Aside0.mk (show 0 ≤ t + n ∧ t + n ≤ 10000 * (i + 1) by have := ht.out; omega)
      clear hx x0 x1 Hn
      by_cases hgt : t / 1800 < (t + n) / 1800
      all_goals
        first | (have qgt : decide (t / 1800 < (t + n) / 1800) = true := decide_eq_true hgt) | (have qgt : decide (t / 1800 < (t + n) / 1800) = false := decide_eq_false hgt)
        rw [qgt] at HREN
        clear hgt
        go_wp2_with (
          first
          | ((with_reducible refine gate_callee (f := 19) rfl ?_); refine goesL_ (some 61) rfl rfl Try.func19 (by kernel_rfl) rfl #[.pointer (some ⟨g, 0, none⟩), .int .i64 n] rfl (by (try simp only [List.map_toArray, List.map_cons, List.map_nil]); first | done | rfl | (simp only [List.length_drop, List.length_take]; rfl)) ?_; refine (tick_calls g (rS t) n _ O.out).mono ?_; rintro e w6 ⟨rfl, hO, hM⟩; refine ⟨_, rfl, ?_⟩; simp only [HREN.out] at hO ⊢; have O6 := Aside0.mk hO; have H6 := Aside0.mk (HB.out.trans (hM.b.mono G.out)); clear hO hM)
          | ((with_reducible refine gate_callee (f := 12) rfl ?_); refine goesL_ (some 64) rfl rfl Try.func12 (by kernel_rfl) rfl #[.pointer (some ⟨g, 0, none⟩)] rfl (by (try simp only [List.map_toArray, List.map_cons, List.map_nil]); first | done | rfl | (simp only [List.length_drop, List.length_take]; rfl)) ?_; refine (current_calls g (rS (t + n)) _ O6.out (by simp [rS]) (by simp [rS]) rfl).mono ?_; rintro e w7 ⟨v1, v2, rfl, hA, hP, hb⟩; refine ⟨_, rfl, ?_⟩; obtain ⟨A1, c1, rfl, h11, h12⟩ := hA; obtain ⟨A2, c2, rfl, h21, h22⟩ := hP; have O7 := Aside0.mk (O6.out.below hb); have H7 := Aside0.mk (below_step H6.out hb); clear hb h11 h12 h21 h22; dsimp only [rS, List.length_nil, LSAv])
          | ((with_reducible refine gate_dst (N := 12) rfl ?_); refine box_event ?hg (N := 12) ?hd (cs := #[.int .i64 0, .int .i64 0, .int .i64 0, .bool false, .slice none 0 0, .slice none 0 0]) (t := 32) ?hr ?_; (case hd => rfl); (case hg => rfl); (case hr => first | (go_simp; done) | (go_simp; rfl)); intro b12 hg w8 hbox hb; have B12 := Aside0.mk hbox; have G12 := Aside0.mk (show w.heap.size ≤ b12 by rw [hg]; exact H7.out.size); have HB7 := Aside0.mk hb; have G7 := Aside0.mk (Nat.le_of_eq hg.symm); have H8 := Aside0.mk (below_step H7.out hb); have x0 : w8.cell? ⟨b12, 0, none⟩ = some (.int .i64 0) := (blk_cell B12.out 0).trans rfl; have xf0 := blk_frozen B12.out 0; have x1 : w8.cell? ⟨b12, 1, none⟩ = some (.int .i64 0) := (blk_cell B12.out 1).trans rfl; have xf1 := blk_frozen B12.out 1; have x2 : w8.cell? ⟨b12, 2, none⟩ = some (.int .i64 0) := (blk_cell B12.out 2).trans rfl; have xf2 := blk_frozen B12.out 2; have x3 : w8.cell? ⟨b12, 3, none⟩ = some (.bool false) := (blk_cell B12.out 3).trans rfl; have xf3 := blk_frozen B12.out 3; have x4 : w8.cell? ⟨b12, 4, none⟩ = some (.slice none 0 0) := (blk_cell B12.out 4).trans rfl; have xf4 := blk_frozen B12.out 4; have x5 : w8.cell? ⟨b12, 5, none⟩ = some (.slice none 0 0) := (blk_cell B12.out 5).trans rfl; have xf5 := blk_frozen B12.out 5; clear hbox hb hg)
          )
        have HB9 := Aside0.mk (below_set (below_set (below_set (below_set (below_set (below_set H8.out G12.out (j := 0) (v := .int .i64 5)) G12.out (j := 1) (v := .int .i64 (1 + (t + n) / 1800))) G12.out (j := 2) (v := .int .i64 ((t + n) % 1800))) G12.out (j := 3) (v := .bool true)) G12.out (j := 4) (v := .slice A1 0 c1)) G12.out (j := 5) (v := .slice A2 0 c2))
        have O9 := Aside0.mk (O7.out.below (below_set (below_set (below_set (below_set (below_set (below_set HB7.out G7.out (j := 0) (v := .int .i64 5)) G7.out (j := 1) (v := .int .i64 (1 + (t + n) / 1800))) G7.out (j := 2) (v := .int .i64 ((t + n) % 1800))) G7.out (j := 3) (v := .bool true)) G7.out (j := 4) (v := .slice A1 0 c1)) G7.out (j := 5) (v := .slice A2 0 c2)))
        go_roundw
        case rel => exact ⟨t + n, i + 1, rfl, rfl, ⟨by omega, by omega⟩, HT, O9, HB9⟩
        case measure => simp [intOf]; omega
    · go_wp2_with fail
      go_ret
      exact ⟨rfl, HB.out⟩
end Go.Proofs.Ytdkfhlfojleejaa.HLsc
