-- LAID by wip/hand.py, a program of this repository, over the kit's print: contracts of our own are put in. Lean checks it.
import Derived.Test.YtmknjjfdlkgidaaHLscx0
import Derived.Test.YtmknjjfdlkgidaaHLscx13
namespace Go.Proofs.Ytmknjjfdlkgidaa.HLsc
open Go.RowKit Go.Proofs.YtmknjjfdlkgidaaW.PrintWords Go.Proofs.YtmknjjfdlkgidaaW.PrintLast Go.Proofs.YtmknjjfdlkgidaaW.PrintMore
attribute [local go_sem] gtr_str leq_str max2_int min2_int max_two min_two max_three min_three max_four min_four   -- for this text's walks alone
set_option linter.unusedVariables false
set_option linter.unusedSimpArgs false

/-! ### waypointref32_Encode: function 17 -/
mutual
def waypointref32_Encode.j0 : Nat → Int → Int → Int → Int → Bool → List (S43) → List (S56) → Option (List Int)
 | 0, _, _, _, _, _, _, _ => none
 | k + 1, x3, x319000, x319001, x319002, x319003, x319004, x319005 => (waypointref32_fields.f k (([(⟨x319000, 2⟩ : S64), (⟨x319001, 4⟩ : S64), (⟨x319002, 2⟩ : S64), (⟨x3, 1⟩ : S64)] : List (S64)))).bind fun t322 => (waypointref32_Encode.l0 k (([(⟨1, t322⟩ : S65)] : List (S65))) 0 x319000 x319001 x319002 x319003 x319004 x319005)
def waypointref32_Encode.l0 : Nat → List (S65) → Int → Int → Int → Int → Bool → List (S43) → List (S56) → Option (List Int)
 | 0, _, _, _, _, _, _, _, _ => none
 | k + 1, x4, x5, x319000, x319001, x319002, x319003, x319004, x319005 => if x5 < (x319004.length : Int) then (if 0 ≤ x5 then ((waypointref32_fields.f k (([(⟨(rd_T43 x319004 x5).f0, 2⟩ : S64), (⟨(rd_T43 x319004 x5).f1, 2⟩ : S64), (⟨(rd_T43 x319004 x5).f2, 2⟩ : S64)] : List (S64)))).bind fun t334 => (if x4.length < 4398046511104 then (waypointref32_Encode.l0 k (x4 ++ [(⟨2, t334⟩ : S65)]) (wrap64 (x5 + 1)) x319000 x319001 x319002 x319003 x319004 x319005) else (none))) else (none)) else (waypointref32_Encode.l1 k x4 0 x319000 x319001 x319002 x319003 x319004 x319005)
def waypointref32_Encode.l1 : Nat → List (S65) → Int → Int → Int → Int → Bool → List (S43) → List (S56) → Option (List Int)
 | 0, _, _, _, _, _, _, _, _ => none
 | k + 1, x4, x6, x319000, x319001, x319002, x319003, x319004, x319005 => if x6 < (x319005.length : Int) then (if 0 ≤ x6 then ((waypointref32_fields.f k (([(⟨wrap64 ((rd_T56 x319005 x6).f0), 4⟩ : S64), (⟨(rd_T56 x319005 x6).f1, 1⟩ : S64)] : List (S64)))).bind fun t345 => (if x4.length < 4398046511104 then (waypointref32_Encode.l1 k (x4 ++ [(⟨3, t345⟩ : S65)]) (wrap64 (x6 + 1)) x319000 x319001 x319002 x319003 x319004 x319005) else (none))) else (none)) else (if x4.length < 4398046511104 then ((waypointref07_Encode.f k (x4 ++ [(⟨4, (([0, 0] : List Int))⟩ : S65)])).bind fun bt357 => ((waypointref08_Seal.f k bt357.1 (wrap64 ((bt357.1.length : Int) - 2))).bind fun t361 => (some t361))) else (none))
end
def waypointref32_Encode.f (k : Nat) (a0_0 : Int) (a0_1 : Int) (a0_2 : Int) (a0_3 : Bool) (l0_4 : List (S43)) (l0_5 : List (S56)) : Option (List Int) := if a0_3 = true then (waypointref32_Encode.j0 k 1 a0_0 a0_1 a0_2 a0_3 l0_4 l0_5) else (waypointref32_Encode.j0 k 0 a0_0 a0_1 a0_2 a0_3 l0_4 l0_5)
theorem waypointref32_Encode.mono_l : ∀ k, (∀ y0 y1 y2 y3 y4 y5 y6, LeO (waypointref32_Encode.j0 k y0 y1 y2 y3 y4 y5 y6) (waypointref32_Encode.j0 (k + 1) y0 y1 y2 y3 y4 y5 y6)) ∧ (∀ y0 y1 y2 y3 y4 y5 y6 y7, LeO (waypointref32_Encode.l0 k y0 y1 y2 y3 y4 y5 y6 y7) (waypointref32_Encode.l0 (k + 1) y0 y1 y2 y3 y4 y5 y6 y7)) ∧ (∀ y0 y1 y2 y3 y4 y5 y6 y7, LeO (waypointref32_Encode.l1 k y0 y1 y2 y3 y4 y5 y6 y7) (waypointref32_Encode.l1 (k + 1) y0 y1 y2 y3 y4 y5 y6 y7))
 | 0 => ⟨fun _ _ _ _ _ _ _ r h => by simp [waypointref32_Encode.j0] at h, fun _ _ _ _ _ _ _ _ r h => by simp [waypointref32_Encode.l0] at h, fun _ _ _ _ _ _ _ _ r h => by simp [waypointref32_Encode.l1] at h⟩
 | k + 1 => by
  obtain ⟨ih0, ih1, ih2⟩ := waypointref32_Encode.mono_l k
  refine ⟨?_, ?_, ?_⟩
  ·intro y0 y1 y2 y3 y4 y5 y6
   unfold waypointref32_Encode.j0
   repeat' first
   | (with_reducible exact ih0 _ _ _ _ _ _ _)
   | (with_reducible exact ih1 _ _ _ _ _ _ _ _)
   | (with_reducible exact ih2 _ _ _ _ _ _ _ _)
   | (with_reducible exact waypointref07_Encode.mono _ _)
   | (with_reducible exact waypointref08_Seal.mono _ _ _)
   | (with_reducible exact waypointref32_fields.mono _ _)
   | (with_reducible exact LeO.refl _)
   | (with_reducible exact LeO.none _)
   | (with_reducible refine LeO.ite ?_ ?_)
   | (with_reducible refine LeO.bind ?_ (fun _ => ?_))
   | exact ih0 _ _ _ _ _ _ _
   | exact ih1 _ _ _ _ _ _ _ _
   | exact ih2 _ _ _ _ _ _ _ _
   | exact waypointref07_Encode.mono _ _
   | exact waypointref08_Seal.mono _ _ _
   | exact waypointref32_fields.mono _ _
   | exact LeO.none _
   | refine LeO.ite ?_ ?_
   | refine LeO.bind ?_ (fun _ => ?_)
  ·intro y0 y1 y2 y3 y4 y5 y6 y7
   unfold waypointref32_Encode.l0
   repeat' first
   | (with_reducible exact ih0 _ _ _ _ _ _ _)
   | (with_reducible exact ih1 _ _ _ _ _ _ _ _)
   | (with_reducible exact ih2 _ _ _ _ _ _ _ _)
   | (with_reducible exact waypointref07_Encode.mono _ _)
   | (with_reducible exact waypointref08_Seal.mono _ _ _)
   | (with_reducible exact waypointref32_fields.mono _ _)
   | (with_reducible exact LeO.refl _)
   | (with_reducible exact LeO.none _)
   | (with_reducible refine LeO.ite ?_ ?_)
   | (with_reducible refine LeO.bind ?_ (fun _ => ?_))
   | exact ih0 _ _ _ _ _ _ _
   | exact ih1 _ _ _ _ _ _ _ _
   | exact ih2 _ _ _ _ _ _ _ _
   | exact waypointref07_Encode.mono _ _
   | exact waypointref08_Seal.mono _ _ _
   | exact waypointref32_fields.mono _ _
   | exact LeO.none _
   | refine LeO.ite ?_ ?_
   | refine LeO.bind ?_ (fun _ => ?_)
  ·intro y0 y1 y2 y3 y4 y5 y6 y7
   unfold waypointref32_Encode.l1
   repeat' first
   | (with_reducible exact ih0 _ _ _ _ _ _ _)
   | (with_reducible exact ih1 _ _ _ _ _ _ _ _)
   | (with_reducible exact ih2 _ _ _ _ _ _ _ _)
   | (with_reducible exact waypointref07_Encode.mono _ _)
   | (with_reducible exact waypointref08_Seal.mono _ _ _)
   | (with_reducible exact waypointref32_fields.mono _ _)
   | (with_reducible exact LeO.refl _)
   | (with_reducible exact LeO.none _)
   | (with_reducible refine LeO.ite ?_ ?_)
   | (with_reducible refine LeO.bind ?_ (fun _ => ?_))
   | exact ih0 _ _ _ _ _ _ _
   | exact ih1 _ _ _ _ _ _ _ _
   | exact ih2 _ _ _ _ _ _ _ _
   | exact waypointref07_Encode.mono _ _
   | exact waypointref08_Seal.mono _ _ _
   | exact waypointref32_fields.mono _ _
   | exact LeO.none _
   | refine LeO.ite ?_ ?_
   | refine LeO.bind ?_ (fun _ => ?_)
theorem waypointref32_Encode.mono : ∀ a0 a1 a2 a3 a4 a5 k, LeO (waypointref32_Encode.f k a0 a1 a2 a3 a4 a5) (waypointref32_Encode.f (k + 1) a0 a1 a2 a3 a4 a5) := by
 intro a0 a1 a2 a3 a4 a5 k
 obtain ⟨ih0, ih1, ih2⟩ := waypointref32_Encode.mono_l k
 unfold waypointref32_Encode.f
 repeat' first
   | (with_reducible exact ih0 _ _ _ _ _ _ _)
   | (with_reducible exact ih1 _ _ _ _ _ _ _ _)
   | (with_reducible exact ih2 _ _ _ _ _ _ _ _)
   | (with_reducible exact waypointref07_Encode.mono _ _)
   | (with_reducible exact waypointref08_Seal.mono _ _ _)
   | (with_reducible exact waypointref32_fields.mono _ _)
   | (with_reducible exact LeO.refl _)
   | (with_reducible exact LeO.none _)
   | (with_reducible refine LeO.ite ?_ ?_)
   | (with_reducible refine LeO.bind ?_ (fun _ => ?_))
   | exact ih0 _ _ _ _ _ _ _
   | exact ih1 _ _ _ _ _ _ _ _
   | exact ih2 _ _ _ _ _ _ _ _
   | exact waypointref07_Encode.mono _ _
   | exact waypointref08_Seal.mono _ _ _
   | exact waypointref32_fields.mono _ _
   | exact LeO.none _
   | refine LeO.ite ?_ ?_
   | refine LeO.bind ?_ (fun _ => ?_)
def waypointref32_Encode.T8 : Bool × List (List Nat × List Nat) := (true, [([], []), ([], []), ([1], [1]), ([], []), ([2, 3], [2, 3]), ([4], [4]), ([5], [5]), ([6], [6]), ([], []), ([8], [8]), ([], []), ([9, 10], [9, 10]), ([11], [11]), ([12], [12]), ([13], [13]), ([], []), ([15], [15]), ([], []), ([16, 17], [16, 17]), ([18], [18]), ([19], [19]), ([20], [20]), ([7, 14, 21], [7, 14, 21]), ([22], [22]), ([23], [23]), ([24], [24]), ([0, 25, 23], [0, 25]), ([26, 26, 0, 1, 2, 3, 4, 5, 6, 7, 8, 9, 10, 11, 12, 13, 14, 15, 16, 17, 18, 19, 20, 21, 22, 23, 24, 25, 26], [0, 26])])
def waypointref32_Encode.B8 : List Nat := [0, 0, 2, 0, 14, 30, 62, 126, 0, 256, 0, 1792, 3840, 7936, 16128, 0, 32768, 0, 229376, 491520, 1015808, 2064384, 4194302, 8388606, 16777214, 33554430, 67108863, 134217727]
theorem waypointref32_Encode.tab8 : rtab .any (opsOf Try.f17 8) = waypointref32_Encode.T8 := by kernel_rfl
theorem waypointref32_Encode.bits8 : waitsOk waypointref32_Encode.T8.2 waypointref32_Encode.B8 = true := by kernel_rfl
def waypointref32_Encode.T12 : Bool × List (List Nat × List Nat) := (true, [([], []), ([], []), ([1], [1]), ([], []), ([2, 3], [2, 3]), ([4], [4]), ([5], [5]), ([6], [6]), ([7], [7]), ([], []), ([9], [9]), ([], []), ([10, 11], [10, 11]), ([12], [12]), ([13], [13]), ([14], [14]), ([8, 15], [8, 15]), ([16], [16]), ([17], [17]), ([18], [18]), ([0, 19, 17], [0, 19]), ([20, 20, 0, 1, 2, 3, 4, 5, 6, 7, 8, 9, 10, 11, 12, 13, 14, 15, 16, 17, 18, 19, 20], [0, 20])])
def waypointref32_Encode.B12 : List Nat := [0, 0, 2, 0, 14, 30, 62, 126, 254, 0, 512, 0, 3584, 7680, 15872, 32256, 65534, 131070, 262142, 524286, 1048575, 2097151]
theorem waypointref32_Encode.tab12 : rtab .any (opsOf Try.f17 12) = waypointref32_Encode.T12 := by kernel_rfl
theorem waypointref32_Encode.bits12 : waitsOk waypointref32_Encode.T12.2 waypointref32_Encode.B12 = true := by kernel_rfl
set_option maxHeartbeats 8000000 in
set_option maxRecDepth 100000 in
theorem waypointref32_Encode.calls (k : Nat) (a0_0 : Int) (a0_1 : Int) (a0_2 : Int) (a0_3 : Bool) (A0_4 : Option Addr) (c0_4 : Nat) (l0_4 : List (S43)) (A0_5 : Option Addr) (c0_5 : Nat) (l0_5 : List (S56)) (r : List Int) (w : World) (hr0_4 : Kd.C k43 w A0_4 l0_4.length l0_4) (hc0_4 : l0_4.length ≤ c0_4) (hr0_5 : Kd.C k56 w A0_5 l0_5.length l0_5) (hc0_5 : l0_5.length ≤ c0_5) (h : waypointref32_Encode.f k a0_0 a0_1 a0_2 a0_3 l0_4 l0_5 = some r) :
  Calls Try.prog 17 #[.agg #[.int .i64 a0_0, .int .i64 a0_1, .int .i64 a0_2, .bool a0_3, .slice A0_4 l0_4.length c0_4, .slice A0_5 l0_5.length c0_5]] w fun e w' => ∃ v0_ : Value, e = .returned (v0_) ∧ Kd.R (Kd.int .u8) 5 w' w.heap.size (fun _ => True) v0_ r ∧ Below w.heap.size w w' := by
 have hu25 := Try.underlying25
 have hu64 := Try.underlying64
 have hu65 := Try.underlying65
 have HR0_4 := Aside0.mk hr0_4
 have HC0_4 := Aside0.mk hc0_4
 clear hr0_4 hc0_4
 have HR0_5 := Aside0.mk hr0_5
 have HC0_5 := Aside0.mk hc0_5
 clear hr0_5 hc0_5
 have HB := Aside0.mk (Below.refl w.heap.size w)
 have H : (if a0_3 = true then (waypointref32_Encode.j0 k 1 a0_0 a0_1 a0_2 a0_3 l0_4 l0_5) else (waypointref32_Encode.j0 k 0 a0_0 a0_1 a0_2 a0_3 l0_4 l0_5)) = some r := h
 clear h
 have HC2 := Aside0.mk H
 clear H
 go_enter Try.func17, Try.ntmps17
 go_upto_if 10 with (first | ((with_reducible refine gate_dst (N := 1) rfl ?_); refine bx_ 1 #[.int .i64 a0_0, .int .i64 a0_1, .int .i64 a0_2, .bool a0_3, .slice A0_4 l0_4.length c0_4, .slice A0_5 l0_5.length c0_5] 25 rfl rfl ?hr ?_; (case hr => go_simp; try rfl); intro gb318 hg w3 hbox hb; have BK318 := Aside0.mk (hbox); have GW318 := gs_ HB hg; have GE318 := gs_ HB hg; replace HB := bs_ HB hb; clear hb hbox hg; obtain ⟨hcz4_0, hcz4_1, hcz4_2, hcz4_3, hcz4_4, hcz4_5, hfz4_0, hfz4_1, hfz4_2, hfz4_3, hfz4_4, hfz4_5⟩ := c6_ BK318))
 (try simp only [Act.put, List.setIfInBounds_toArray, List.set_cons_zero, List.set_cons_succ])
 go_cut [3] (fun v3 wc => ∃ (kq : Nat) (x3_1 : Int), v3 = .int .i64 x3_1 ∧ Aside0 (waypointref32_Encode.j0 kq x3_1 a0_0 a0_1 a0_2 a0_3 l0_4 l0_5 = some r) ∧ Aside0 (kq ≤ k) ∧ Aside0 (wc.heap[gb318]? = some (.cells #[.int .i64 a0_0, .int .i64 a0_1, .int .i64 a0_2, .bool a0_3, (.slice A0_4 l0_4.length c0_4), (.slice A0_5 l0_5.length c0_5)] 25 (0, 0))) ∧ Aside0 (Below w.heap.size w wc))
 case first =>
  have H := HC2.out
  clear HC2
  by_cases c5 : a0_3 = true
  ·subst c5
   have H1 : (waypointref32_Encode.j0 k 1 a0_0 a0_1 a0_2 true l0_4 l0_5) = some r := by rw [if_pos rfl] at H; exact H
   clear H
   have H := H1
   clear H1
   have H' := Aside0.mk H
   clear H
   go_wp2
   go_meet
   case rel => exact ⟨_, (1), (by first | rfl | (simp; done) | (simp [*]; done)), H', ⟨by first | omega | exact Nat.le_refl _⟩, ⟨kb_ BK318⟩, ⟨by repeat (first | (with_reducible first | exact HB.out | apply bU | apply bS GE318.out) | exact HB.out)⟩⟩
  ·replace c5 := Bool.eq_false_iff.mpr c5
   subst c5
   have H1 : (waypointref32_Encode.j0 k 0 a0_0 a0_1 a0_2 false l0_4 l0_5) = some r := by rw [if_neg (show ¬ (false = true) by decide)] at H; exact H
   clear H
   have H := H1
   clear H1
   have H' := Aside0.mk H
   clear H
   go_wp2
   go_meet
   case rel => exact ⟨_, (0), (by first | rfl | (simp; done) | (simp [*]; done)), H', ⟨by first | omega | exact Nat.le_refl _⟩, ⟨kb_ BK318⟩, ⟨by repeat (first | (with_reducible first | exact HB.out | apply bU | apply bS GE318.out) | exact HB.out)⟩⟩
 case rest =>
  clear HC2
  (try clear hcz4_0); (try clear hcz4_1); (try clear hcz4_2); (try clear hcz4_3); (try clear hcz4_4); (try clear hcz4_5); (try clear hfz4_0); (try clear hfz4_1); (try clear hfz4_2); (try clear hfz4_3); (try clear hfz4_4); (try clear hfz4_5)
  obtain ⟨kq, x3_1, rfl, HA, HJ1, BK318, HB⟩ := hcut
  cases kq with
  | zero => exact absurd HA.out (by simp [waypointref32_Encode.j0])
  | succ kj1 =>
   have H := HA.out
   clear HA
   simp only [waypointref32_Encode.j0] at H
   obtain ⟨y319, hy319⟩ : ∃ y_ : List (S64), y_ = (([(⟨a0_0, 2⟩ : S64), (⟨a0_1, 4⟩ : S64), (⟨a0_2, 2⟩ : S64), (⟨x3_1, 1⟩ : S64)] : List (S64))) := ⟨_, rfl⟩
   replace H : ((waypointref32_fields.f kj1 y319).bind fun t322 => (waypointref32_Encode.l0 kj1 (([(⟨1, t322⟩ : S65)] : List (S65))) 0 a0_0 a0_1 a0_2 a0_3 l0_4 l0_5)) = some r := by first | (rw [hy319]; with_reducible exact H) | (have H2_ := (Option.bind_some _ _).symm.trans H; rw [hy319]; with_reducible exact H2_) | (have H2_ := (Option.bind_some _ _).symm.trans H; with_reducible exact H2_) | with_reducible exact H | (rw [hy319]; exact H) | exact H
   have Ny319 := Aside0.mk hy319
   clear hy319
   replace H := Option.bind_eq_some_iff.mp H
   obtain ⟨t322, A60, H⟩ := H
   replace H : (waypointref32_Encode.l0 kj1 (([(⟨1, t322⟩ : S65)] : List (S65))) 0 a0_0 a0_1 a0_2 a0_3 l0_4 l0_5) = some r := H
   have A6 := Aside0.mk A60
   clear A60
   obtain ⟨y325, hy325⟩ : ∃ y_ : List (S65), y_ = (([(⟨1, t322⟩ : S65)] : List (S65))) := ⟨_, rfl⟩
   replace H : (waypointref32_Encode.l0 kj1 y325 0 a0_0 a0_1 a0_2 a0_3 l0_4 l0_5) = some r := by first | (rw [hy325]; with_reducible exact H) | (have H2_ := (Option.bind_some _ _).symm.trans H; rw [hy325]; with_reducible exact H2_) | (have H2_ := (Option.bind_some _ _).symm.trans H; with_reducible exact H2_) | with_reducible exact H | (rw [hy325]; exact H) | exact H
   have Ny325 := Aside0.mk hy325
   clear hy325
   have H' := Aside0.mk H
   clear H
   obtain ⟨hcz7_0, hcz7_1, hcz7_2, hcz7_3, hcz7_4, hcz7_5, hfz7_0, hfz7_1, hfz7_2, hfz7_3, hfz7_4, hfz7_5⟩ := c6_ BK318
   go_wp2_with (first | ((with_reducible refine gate_dst (N := 22) rfl ?_); refine Kd.R_lit k64 _ 64 ?hg (N := 22) ?hd (xs := ([(⟨a0_0, 2⟩ : S64), (⟨a0_1, 4⟩ : S64), (⟨a0_2, 2⟩ : S64), (⟨x3_1, 1⟩ : S64)] : List (S64))) (inner := [.int .i64 a0_0, .int .i64 2, .int .i64 a0_1, .int .i64 4, .int .i64 a0_2, .int .i64 2, .int .i64 x3_1, .int .i64 1]) (ok := fun _ => True) (okp := fun _ => True) ?hr ?hp (fun _ hk => hk) trivial (Below.refl _ _) (Nat.le_refl _) (by simp) ?_; (case hd => rfl); (case hg => rfl); (case hr => first | (go_simp; done) | (go_simp; rfl)); (case hp => exact (Reps.c2 (show Kd.M k64 _ _ _ (⟨a0_0, 2⟩ : S64) [.int .i64 a0_0, .int .i64 2] from (k64_mkM _ _ _ (⟨a0_0, 2⟩ : S64) )) (Reps.c2 (show Kd.M k64 _ _ _ (⟨a0_1, 4⟩ : S64) [.int .i64 a0_1, .int .i64 4] from (k64_mkM _ _ _ (⟨a0_1, 4⟩ : S64) )) (Reps.c2 (show Kd.M k64 _ _ _ (⟨a0_2, 2⟩ : S64) [.int .i64 a0_2, .int .i64 2] from (k64_mkM _ _ _ (⟨a0_2, 2⟩ : S64) )) (Reps.c2 (show Kd.M k64 _ _ _ (⟨x3_1, 1⟩ : S64) [.int .i64 x3_1, .int .i64 1] from (k64_mkM _ _ _ (⟨x3_1, 1⟩ : S64) )) (Reps.none _ _)))))); intro v320 w8 ho9 hb hg_ hnew_; clear hg_ hnew_; (first | rw [← Ny319.out] at ho9 | (simp only [Int.reduceToNat] at ho9; rw [← Ny319.out] at ho9)); have HO321 := Aside0.mk (Kd.R_lower ho9 (below_size (by repeat (first | (with_reducible first | exact HB.out | apply bU | apply bS GE318.out) | exact HB.out)))); replace BK318 := bb_ BK318 hb; replace HB := Aside0.mk (below_step (by repeat (first | (with_reducible first | exact HB.out | apply bU | apply bS GE318.out) | exact HB.out)) hb); clear hb ho9; obtain ⟨Ao10, co10, eo10⟩ := Kd.R_slice HO321.out; subst eo10) | ((with_reducible refine gate_callee (f := 34) rfl ?_); refine goesL_ (some 23) rfl rfl Try.func34 (by kernel_rfl) rfl #[.slice Ao10 y319.length co10] rfl (by (try simp only [List.map_toArray, List.map_cons, List.map_nil]); first | done | rfl | (simp only [List.length_drop, List.length_take]; rfl)) ?_; (with_reducible refine (waypointref32_fields.calls kj1 _ _ y319 t322 _ ?side1 ?side2 A6.out).mono ?_); (case side1 => repeat (first | exact (Kd.R_reads' HO321.out).2.2 | (with_reducible refine Kd.C_alloc ?_ _) | (with_reducible refine Kd.C_drewN ?_ _) | (with_reducible refine Kd.C_drew ?_))); (case side2 => exact (Kd.R_reads' HO321.out).2.1); rintro e w11 ⟨v323, rfl, ho0, hb⟩; refine ⟨_, rfl, ?_⟩; have HO324 := Aside0.mk (Kd.R_lower ho0 (below_size (by repeat (first | (with_reducible first | exact HB.out | apply bU | apply bS GE318.out) | exact HB.out)))); replace HO321 := Aside0.mk (Kd.R_below (by (with_reducible repeat (first | apply Kd.R_alloc | apply Kd.R_drewN | apply Kd.R_drew)); exact HO321.out) hb); replace BK318 := bb_ BK318 hb; replace HB := Aside0.mk (below_step (by repeat (first | (with_reducible first | exact HB.out | apply bU | apply bS GE318.out) | exact HB.out)) hb); (try clear hb); (try clear hb2); (try clear hk); (try clear hi); (try clear ho0); obtain ⟨Ao12, co12, eo12⟩ := Kd.R_slice HO324.out; subst eo12) | ((with_reducible refine gate_dst (N := 25) rfl ?_); refine Kd.N_lit k65 _ 65 ?hg (N' := 25) ?hd (xs := ([(⟨1, t322⟩ : S65)] : List (S65))) (inner := [.int .i64 1, .slice Ao12 t322.length co12]) (ok := (fun k_ => some k_ ≠ (.slice Ao10 y319.length co10 : Value).ownBlock ∧ k_ ≠ gb318)) (okp := (fun k_ => some k_ ≠ (.slice Ao10 y319.length co10 : Value).ownBlock ∧ k_ ≠ gb318)) ?hr ?hp (fun _ hk => hk) ((show ∀ k_, w11.heap.size ≤ k_ → (fun k_ => some k_ ≠ (.slice Ao10 y319.length co10 : Value).ownBlock ∧ k_ ≠ gb318) k_ from fun k_ hk => ⟨Kd.fresh' (Kd.R_lt (by (with_reducible repeat (first | apply Kd.R_alloc | apply Kd.R_drewN | apply Kd.R_drew)); exact HO321.out)) k_ hk, Kd.freshB (g := gb318) (o := .cells #[.int .i64 a0_0, .int .i64 a0_1, .int .i64 a0_2, .bool a0_3, .slice A0_4 l0_4.length c0_4, .slice A0_5 l0_5.length c0_5] 25 (0, 0)) (kb_ BK318) k_ hk⟩) _ (Nat.le_refl _)) (Below.refl _ _) (Nat.le_refl _) (by simp) ?_; (case hd => rfl); (case hg => rfl); (case hr => first | (go_simp; done) | (go_simp; rfl)); (case hp => exact (Reps.c2 (show Kd.FK k65 _ _ (⟨1, t322⟩ : S65) [.int .i64 1, .slice Ao12 t322.length co12] from (k65_mkF _ _ (⟨1, t322⟩ : S65) (Kd.R_reads' (Kd.R_mono (ok' := (fun k_ => some k_ ≠ (.slice Ao10 y319.length co10 : Value).ownBlock ∧ k_ ≠ gb318)) (Kd.R_types (Kd.R_apart' (HO324.out) (Kd.R_typed HO321.out) (by decide)) BK318.out (by decide)) (fun k_ hk => ⟨hk.1.2, hk.2⟩))).2.1 (Kd.R_F (Kd.R_mono (ok' := (fun k_ => some k_ ≠ (.slice Ao10 y319.length co10 : Value).ownBlock ∧ k_ ≠ gb318)) (Kd.R_types (Kd.R_apart' (HO324.out) (Kd.R_typed HO321.out) (by decide)) BK318.out (by decide)) (fun k_ hk => ⟨hk.1.2, hk.2⟩))))) (Reps.none _ _))); intro v326 w13 ho14 hb hg_ hnew_; clear hg_ hnew_; (first | rw [← Ny325.out] at ho14 | (simp only [Int.reduceToNat] at ho14; rw [← Ny325.out] at ho14)); have HO327 := Aside0.mk (Kd.N_lower ho14 (below_size (by repeat (first | (with_reducible first | exact HB.out | apply bU | apply bS GE318.out) | exact HB.out)))); replace HO321 := Aside0.mk (Kd.R_below (by (with_reducible repeat (first | apply Kd.R_alloc | apply Kd.R_drewN | apply Kd.R_drew)); exact HO321.out) hb); replace BK318 := bb_ BK318 hb; replace HB := Aside0.mk (below_step (by repeat (first | (with_reducible first | exact HB.out | apply bU | apply bS GE318.out) | exact HB.out)) hb); clear HO324; clear hb ho14))
   go_loopg [4, 5] kj1 (fun kq v4 v5 w' => ∃ (x4_2 : List (S65)) (x5_2 : Int), v5 = .int .i64 x5_2 ∧ Aside0 (waypointref32_Encode.l0 kq x4_2 x5_2 a0_0 a0_1 a0_2 a0_3 l0_4 l0_5 = some r) ∧ Aside0 (kq ≤ kj1) ∧ Aside0 (Kd.N k65 65 w' w.heap.size (fun k_ => k_ ≠ gb318) v4 x4_2) ∧ Aside0 (w'.heap[gb318]? = some (.cells #[.int .i64 a0_0, .int .i64 a0_1, .int .i64 a0_2, .bool a0_3, (.slice A0_4 l0_4.length c0_4), (.slice A0_5 l0_5.length c0_5)] 25 (0, 0))) ∧ Aside0 (Below w.heap.size w w'))
   case atStart => exact ⟨(y325), (0), (by first | rfl | (simp; done) | (simp [*]; done)), H', ⟨Nat.le_refl _⟩, ⟨by (with_reducible repeat (first | apply Kd.N_alloc | apply Kd.N_drewN | apply Kd.N_drew)); exact Kd.N_mono HO327.out (fun _ hk => hk.2)⟩, ⟨kb_ BK318⟩, ⟨by repeat (first | (with_reducible first | exact HB.out | apply bU | apply bS GE318.out) | exact HB.out)⟩⟩
   case round =>
    clear H'
    (try clear c2); (try clear hcz4_0); (try clear hcz4_1); (try clear hcz4_2); (try clear hcz4_3); (try clear hcz4_4); (try clear hcz4_5); (try clear hcz7_0); (try clear hcz7_1); (try clear hcz7_2); (try clear hcz7_3); (try clear hcz7_4); (try clear hcz7_5); (try clear hfz4_0); (try clear hfz4_1); (try clear hfz4_2); (try clear hfz4_3); (try clear hfz4_4); (try clear hfz4_5); (try clear hfz7_0); (try clear hfz7_1); (try clear hfz7_2); (try clear hfz7_3); (try clear hfz7_4); (try clear hfz7_5)
    obtain ⟨x4_2, x5_2, rfl, HA, HK2, HO_4, BK318, HB⟩ := hrel
    cases gk with
    | zero => exact absurd HA.out (by simp [waypointref32_Encode.l0])
    | succ k2 =>
     have H := HA.out
     clear HA
     simp only [waypointref32_Encode.l0] at H
     by_cases c15 : x5_2 < (l0_4.length : Int)
     ·rw [if_pos c15] at H
      have c15b0 : decide (x5_2 < (l0_4.length : Int)) = true := decide_eq_true c15
      clear c15
      by_cases c16 : 0 ≤ x5_2
      ·rw [if_pos c16] at H
       have c16b0 : decide (0 ≤ x5_2) = true := decide_eq_true c16
       clear c16
       obtain ⟨y331, hy331⟩ : ∃ y_ : List (S64), y_ = (([(⟨(rd_T43 l0_4 x5_2).f0, 2⟩ : S64), (⟨(rd_T43 l0_4 x5_2).f1, 2⟩ : S64), (⟨(rd_T43 l0_4 x5_2).f2, 2⟩ : S64)] : List (S64))) := ⟨_, rfl⟩
       replace H : ((waypointref32_fields.f k2 y331).bind fun t334 => (if x4_2.length < 4398046511104 then (waypointref32_Encode.l0 k2 (x4_2 ++ [(⟨2, t334⟩ : S65)]) (wrap64 (x5_2 + 1)) a0_0 a0_1 a0_2 a0_3 l0_4 l0_5) else (none))) = some r := by first | (rw [hy331]; with_reducible exact H) | (have H2_ := (Option.bind_some _ _).symm.trans H; rw [hy331]; with_reducible exact H2_) | (have H2_ := (Option.bind_some _ _).symm.trans H; with_reducible exact H2_) | with_reducible exact H | (rw [hy331]; exact H) | exact H
       have Ny331 := Aside0.mk hy331
       clear hy331
       replace H := Option.bind_eq_some_iff.mp H
       obtain ⟨t334, A170, H⟩ := H
       replace H : (if x4_2.length < 4398046511104 then (waypointref32_Encode.l0 k2 (x4_2 ++ [(⟨2, t334⟩ : S65)]) (wrap64 (x5_2 + 1)) a0_0 a0_1 a0_2 a0_3 l0_4 l0_5) else (none)) = some r := H
       have A17 := Aside0.mk A170
       clear A170
       by_cases c18 : x4_2.length < 4398046511104
       ·rw [if_pos c18] at H
        have LMc18 := Aside0.mk c18
        clear c18
        obtain ⟨y337, hy337⟩ : ∃ y_ : List (S65), y_ = (x4_2 ++ [(⟨2, t334⟩ : S65)]) := ⟨_, rfl⟩
        replace H : (waypointref32_Encode.l0 k2 y337 (wrap64 (x5_2 + 1)) a0_0 a0_1 a0_2 a0_3 l0_4 l0_5) = some r := by first | (rw [hy337]; with_reducible exact H) | (have H2_ := (Option.bind_some _ _).symm.trans H; rw [hy337]; with_reducible exact H2_) | (have H2_ := (Option.bind_some _ _).symm.trans H; with_reducible exact H2_) | with_reducible exact H | (rw [hy337]; exact H) | exact H
        have Ny337 := Aside0.mk hy337
        clear hy337
        have H' := Aside0.mk H
        clear H
        obtain ⟨hcz19_0, hcz19_1, hcz19_2, hcz19_3, hcz19_4, hcz19_5, hfz19_0, hfz19_1, hfz19_2, hfz19_3, hfz19_4, hfz19_5⟩ := c6_ BK318
        try go_wp2
        replace HO_4 := Aside0.mk (Kd.N_drew HO_4.out)
        replace BK318 := Aside0.mk (blk_drew BK318.out)
        replace HB := Aside0.mk (below_drew1 HB.out)
        have p328 : 0 ≤ (x5_2 : Int) := of_decide_eq_true (by first | (with_reducible assumption) | assumption)
        have q328 : x5_2 < (l0_4.length : Int) := of_decide_eq_true (by first | (with_reducible assumption) | assumption)
        obtain ⟨ad328, e328, hx328_0, hx328_1, hx328_2⟩ := at_T43 HR0_4.out x5_2 p328 q328
        have hw328_2 := hx328_2
        have hw328_1 := hx328_1
        have hw328_0 := hx328_0
        cases e328
        replace hx328_0 := (HB.out.cell (World.block_lt_of_cell? w _ hx328_0)).trans hx328_0
        replace hx328_1 := (HB.out.cell (World.block_lt_of_cell? w _ hx328_1)).trans hx328_1
        replace hx328_2 := (HB.out.cell (World.block_lt_of_cell? w _ hx328_2)).trans hx328_2
        replace p328 := eq_true p328
        replace q328 := eq_true q328
        have p329 : 0 ≤ (x5_2 : Int) := of_decide_eq_true (by first | (with_reducible assumption) | assumption)
        have q329 : x5_2 < (l0_4.length : Int) := of_decide_eq_true (by first | (with_reducible assumption) | assumption)
        obtain ⟨ad329, e329, hx329_0, hx329_1, hx329_2⟩ := at_T43 HR0_4.out x5_2 p329 q329
        have hw329_2 := hx329_2
        have hw329_1 := hx329_1
        have hw329_0 := hx329_0
        obtain rfl : ad328 = ad329 := (by injection e329)
        replace hx329_0 := (HB.out.cell (World.block_lt_of_cell? w _ hx329_0)).trans hx329_0
        replace hx329_1 := (HB.out.cell (World.block_lt_of_cell? w _ hx329_1)).trans hx329_1
        replace hx329_2 := (HB.out.cell (World.block_lt_of_cell? w _ hx329_2)).trans hx329_2
        replace p329 := eq_true p329
        replace q329 := eq_true q329
        have p330 : 0 ≤ (x5_2 : Int) := of_decide_eq_true (by first | (with_reducible assumption) | assumption)
        have q330 : x5_2 < (l0_4.length : Int) := of_decide_eq_true (by first | (with_reducible assumption) | assumption)
        obtain ⟨ad330, e330, hx330_0, hx330_1, hx330_2⟩ := at_T43 HR0_4.out x5_2 p330 q330
        have hw330_2 := hx330_2
        have hw330_1 := hx330_1
        have hw330_0 := hx330_0
        obtain rfl : ad328 = ad330 := (by injection e330)
        replace hx330_0 := (HB.out.cell (World.block_lt_of_cell? w _ hx330_0)).trans hx330_0
        replace hx330_1 := (HB.out.cell (World.block_lt_of_cell? w _ hx330_1)).trans hx330_1
        replace hx330_2 := (HB.out.cell (World.block_lt_of_cell? w _ hx330_2)).trans hx330_2
        replace p330 := eq_true p330
        replace q330 := eq_true q330
        refine start_ (n := 28) (S := fun w' => w'.cell? ⟨gb318, 0, none⟩ = some (.int .i64 a0_0) ∧ w'.cell? ⟨gb318, 1, none⟩ = some (.int .i64 a0_1) ∧ w'.cell? ⟨gb318, 2, none⟩ = some (.int .i64 a0_2) ∧ w'.cell? ⟨gb318, 3, none⟩ = some (.bool a0_3) ∧ w'.cell? ⟨gb318, 4, none⟩ = some (.slice (some ad328) l0_4.length c0_4) ∧ w'.cell? ⟨gb318, 5, none⟩ = some (.slice A0_5 l0_5.length c0_5) ∧ w'.cell? (ad328.add ((x5_2).toNat * 3)) = some (.int .i64 ((rd_T43 l0_4 x5_2).f0)) ∧ w'.cell? ⟨(ad328.add ((x5_2).toNat * 3)).block, (ad328.add ((x5_2).toNat * 3)).off + 1, none⟩ = some (.int .i64 ((rd_T43 l0_4 x5_2).f1)) ∧ w'.cell? ⟨(ad328.add ((x5_2).toNat * 3)).block, (ad328.add ((x5_2).toNat * 3)).off + 2, none⟩ = some (.int .i64 ((rd_T43 l0_4 x5_2).f2)) ∧ w'.cell? (ad328.add ((x5_2).toNat * 3)) = some (.int .i64 ((rd_T43 l0_4 x5_2).f0)) ∧ w'.cell? ⟨(ad328.add ((x5_2).toNat * 3)).block, (ad328.add ((x5_2).toNat * 3)).off + 1, none⟩ = some (.int .i64 ((rd_T43 l0_4 x5_2).f1)) ∧ w'.cell? ⟨(ad328.add ((x5_2).toNat * 3)).block, (ad328.add ((x5_2).toNat * 3)).off + 2, none⟩ = some (.int .i64 ((rd_T43 l0_4 x5_2).f2)) ∧ w'.cell? (ad328.add ((x5_2).toNat * 3)) = some (.int .i64 ((rd_T43 l0_4 x5_2).f0)) ∧ w'.cell? ⟨(ad328.add ((x5_2).toNat * 3)).block, (ad328.add ((x5_2).toNat * 3)).off + 1, none⟩ = some (.int .i64 ((rd_T43 l0_4 x5_2).f1)) ∧ w'.cell? ⟨(ad328.add ((x5_2).toNat * 3)).block, (ad328.add ((x5_2).toNat * 3)).off + 2, none⟩ = some (.int .i64 ((rd_T43 l0_4 x5_2).f2))) (ds := []) #[false, false, false, false, false, false, false, false, false, false, false, false, false, false, false, false, false, false, false, false, false, false, false, false, false, false, false, false] (by kernel_rfl) rfl rfl ⟨(blk_cell BK318.out 0).trans rfl, (blk_cell BK318.out 1).trans rfl, (blk_cell BK318.out 2).trans rfl, (blk_cell BK318.out 3).trans rfl, (blk_cell BK318.out 4).trans rfl, (blk_cell BK318.out 5).trans rfl, ((HB.out.cell (World.block_lt_of_cell? w _ hw328_0)).trans hw328_0), ((HB.out.cell (World.block_lt_of_cell? w _ hw328_1)).trans hw328_1), ((HB.out.cell (World.block_lt_of_cell? w _ hw328_2)).trans hw328_2), ((HB.out.cell (World.block_lt_of_cell? w _ hw329_0)).trans hw329_0), ((HB.out.cell (World.block_lt_of_cell? w _ hw329_1)).trans hw329_1), ((HB.out.cell (World.block_lt_of_cell? w _ hw329_2)).trans hw329_2), ((HB.out.cell (World.block_lt_of_cell? w _ hw330_0)).trans hw330_0), ((HB.out.cell (World.block_lt_of_cell? w _ hw330_1)).trans hw330_1), ((HB.out.cell (World.block_lt_of_cell? w _ hw330_2)).trans hw330_2)⟩ (fun hHeld => ?_); refine with_tabW waypointref32_Encode.tab8 waypointref32_Encode.bits8 (fun HT_ HW_ => ?_)
        generalize wr.drew = w20 at HO_4 BK318 HB hx328_0 hx328_1 hx328_2 hx329_0 hx329_1 hx329_2 hx330_0 hx330_1 hx330_2 hHeld ⊢
        refine py 0 33 HT_ ?_
        refine py 1 34 HT_ ?_
        refine py 3 36 HT_ ?_
        refine py 8 41 HT_ ?_
        refine py 10 43 HT_ ?_
        refine py 15 48 HT_ ?_
        refine py 17 50 HT_ ?_
        refine ty 2 35 HT_ HW_ rfl (Or.inl ⟨by rfl, by rintro w' ⟨s0, s1, s2, s3, s4, s5, s6, s7, s8, s9, s10, s11, s12, s13, s14⟩; go_simp; with_reducible rfl⟩) hHeld ?_
        refine py 4 37 HT_ ?_
        refine py 5 38 HT_ ?_
        refine ty 6 39 HT_ HW_ rfl (Or.inl ⟨by rfl, by rintro w' ⟨s0, s1, s2, s3, s4, s5, s6, s7, s8, s9, s10, s11, s12, s13, s14⟩; go_simp; with_reducible rfl⟩) hHeld ?_
        refine py 7 40 HT_ ?_
        refine ty 9 42 HT_ HW_ rfl (Or.inl ⟨by rfl, by rintro w' ⟨s0, s1, s2, s3, s4, s5, s6, s7, s8, s9, s10, s11, s12, s13, s14⟩; go_simp; with_reducible rfl⟩) hHeld ?_
        refine py 11 44 HT_ ?_
        refine py 12 45 HT_ ?_
        refine ty 13 46 HT_ HW_ rfl (Or.inl ⟨by rfl, by rintro w' ⟨s0, s1, s2, s3, s4, s5, s6, s7, s8, s9, s10, s11, s12, s13, s14⟩; go_simp; with_reducible rfl⟩) hHeld ?_
        refine py 14 47 HT_ ?_
        refine ty 16 49 HT_ HW_ rfl (Or.inl ⟨by rfl, by rintro w' ⟨s0, s1, s2, s3, s4, s5, s6, s7, s8, s9, s10, s11, s12, s13, s14⟩; go_simp; with_reducible rfl⟩) hHeld ?_
        refine py 18 51 HT_ ?_
        refine py 19 52 HT_ ?_
        refine ty 20 53 HT_ HW_ rfl (Or.inl ⟨by rfl, by rintro w' ⟨s0, s1, s2, s3, s4, s5, s6, s7, s8, s9, s10, s11, s12, s13, s14⟩; go_simp; with_reducible rfl⟩) hHeld ?_
        refine py 21 54 HT_ ?_
        refine one_ (i := 22) (N := some 55) #[true, true, true, true, true, true, true, true, true, true, true, true, true, true, true, true, true, true, true, true, true, true, true, false, false, false, false, false] rfl rfl (one_of HT_.out (by kernel_rfl)) (by decide) (fun K hK => ?_)
        refine Kd.R_lit_step k64 _ 64 ?hg (N := 55) ?hd (xs := ([(⟨(rd_T43 l0_4 x5_2).f0, 2⟩ : S64), (⟨(rd_T43 l0_4 x5_2).f1, 2⟩ : S64), (⟨(rd_T43 l0_4 x5_2).f2, 2⟩ : S64)] : List (S64))) (inner := [.int .i64 ((rd_T43 l0_4 x5_2).f0), .int .i64 2, .int .i64 ((rd_T43 l0_4 x5_2).f1), .int .i64 2, .int .i64 ((rd_T43 l0_4 x5_2).f2), .int .i64 2]) (ok := fun _ => True) (okp := fun _ => True) ?hr ?hp (fun _ hk => hk) trivial (Below.refl _ _) (Nat.le_refl _) (by simp) ?_; (case hd => rfl); (case hg => rfl); (case hr => first | (go_simp; done) | (go_simp; rfl)); (case hp => exact (Reps.c2 (show Kd.M k64 _ _ _ (⟨(rd_T43 l0_4 x5_2).f0, 2⟩ : S64) [.int .i64 ((rd_T43 l0_4 x5_2).f0), .int .i64 2] from (k64_mkM _ _ _ (⟨(rd_T43 l0_4 x5_2).f0, 2⟩ : S64) )) (Reps.c2 (show Kd.M k64 _ _ _ (⟨(rd_T43 l0_4 x5_2).f1, 2⟩ : S64) [.int .i64 ((rd_T43 l0_4 x5_2).f1), .int .i64 2] from (k64_mkM _ _ _ (⟨(rd_T43 l0_4 x5_2).f1, 2⟩ : S64) )) (Reps.c2 (show Kd.M k64 _ _ _ (⟨(rd_T43 l0_4 x5_2).f2, 2⟩ : S64) [.int .i64 ((rd_T43 l0_4 x5_2).f2), .int .i64 2] from (k64_mkM _ _ _ (⟨(rd_T43 l0_4 x5_2).f2, 2⟩ : S64) )) (Reps.none _ _)))))
        intro v332 w21 ho22 hb hg_ hnew_
        clear hg_ hnew_
        (first | rw [← Ny331.out] at ho22 | (simp only [Int.reduceToNat] at ho22; rw [← Ny331.out] at ho22))
        have HO333 := Aside0.mk (Kd.R_lower ho22 (below_size (by repeat (first | (with_reducible first | exact HB.out | apply bU | apply bS GE318.out) | exact HB.out))))
        replace HO_4 := Aside0.mk (Kd.N_elder' (by (with_reducible repeat (first | apply Kd.N_alloc | apply Kd.N_drewN | apply Kd.N_drew)); exact HO_4.out) (Kd.R_base ho22) hb)
        replace BK318 := bb_ BK318 hb
        replace HB := Aside0.mk (below_step (by repeat (first | (with_reducible first | exact HB.out | apply bU | apply bS GE318.out) | exact HB.out)) hb)
        clear hb ho22
        obtain ⟨Ao23, co23, eo23⟩ := Kd.R_slice HO333.out
        (first | subst eo23 | (injection eo23 with f1_ f2_ f3_; have f4_ := f1_.symm; have f5_ := f3_.symm; clear f1_ f2_ f3_; subst f4_; subst f5_))
        refine hK.out _ _ ⟨(blk_cell BK318.out 0).trans rfl, (blk_cell BK318.out 1).trans rfl, (blk_cell BK318.out 2).trans rfl, (blk_cell BK318.out 3).trans rfl, (blk_cell BK318.out 4).trans rfl, (blk_cell BK318.out 5).trans rfl, ((HB.out.cell (World.block_lt_of_cell? w _ hw328_0)).trans hw328_0), ((HB.out.cell (World.block_lt_of_cell? w _ hw328_1)).trans hw328_1), ((HB.out.cell (World.block_lt_of_cell? w _ hw328_2)).trans hw328_2), ((HB.out.cell (World.block_lt_of_cell? w _ hw329_0)).trans hw329_0), ((HB.out.cell (World.block_lt_of_cell? w _ hw329_1)).trans hw329_1), ((HB.out.cell (World.block_lt_of_cell? w _ hw329_2)).trans hw329_2), ((HB.out.cell (World.block_lt_of_cell? w _ hw330_0)).trans hw330_0), ((HB.out.cell (World.block_lt_of_cell? w _ hw330_1)).trans hw330_1), ((HB.out.cell (World.block_lt_of_cell? w _ hw330_2)).trans hw330_2)⟩ (fun hHeld => ?_)
        clear hK K
        refine norm_ (a' := ?_) ?_ ?_
        rotate_left
        ·show Act.put _ (some 55) _ = _
         simp only [Act.put, List.setIfInBounds_toArray, List.set_cons_zero, List.set_cons_succ, i64_w, i32_w]
         rfl
        refine one_ (i := 23) (N := some 56) #[true, true, true, true, true, true, true, true, true, true, true, true, true, true, true, true, true, true, true, true, true, true, true, true, false, false, false, false] rfl rfl (one_of HT_.out (by kernel_rfl)) (by decide) (fun K hK => ?_)
        refine goes_ Try.func34 (by kernel_rfl) rfl #[.slice Ao23 y331.length co23] (by rfl) rfl rfl (by (try simp only [List.map_toArray, List.map_cons, List.map_nil]); first | done | rfl | (simp only [List.length_drop, List.length_take]; rfl)) ?_
        with_reducible refine (waypointref32_fields.calls k2 _ _ y331 t334 _ ?side1 ?side2 A17.out).mono ?_
        (case side1 => repeat (first | exact (Kd.R_reads' HO333.out).2.2 | (with_reducible refine Kd.C_alloc ?_ _) | (with_reducible refine Kd.C_drewN ?_ _) | (with_reducible refine Kd.C_drew ?_)))
        (case side2 => exact (Kd.R_reads' HO333.out).2.1)
        rintro e w24 ⟨v335, rfl, ho0, hb⟩
        refine ⟨_, rfl, ?_⟩
        have HO336 := Aside0.mk (Kd.R_lower ho0 (below_size (by repeat (first | (with_reducible first | exact HB.out | apply bU | apply bS GE318.out) | exact HB.out))))
        replace HO_4 := Aside0.mk (Kd.N_elder' (by (with_reducible repeat (first | apply Kd.N_alloc | apply Kd.N_drewN | apply Kd.N_drew)); exact HO_4.out) (Kd.R_base ho0) hb)
        replace HO333 := Aside0.mk (Kd.R_below (by (with_reducible repeat (first | apply Kd.R_alloc | apply Kd.R_drewN | apply Kd.R_drew)); exact HO333.out) hb)
        replace BK318 := bb_ BK318 hb
        replace HB := Aside0.mk (below_step (by repeat (first | (with_reducible first | exact HB.out | apply bU | apply bS GE318.out) | exact HB.out)) hb)
        (try clear hb)
        (try clear hb2)
        (try clear hk)
        (try clear hi)
        (try clear ho0)
        obtain ⟨Ao25, co25, eo25⟩ := Kd.R_slice HO336.out
        (first | subst eo25 | (injection eo25 with f1_ f2_ f3_; have f4_ := f1_.symm; have f5_ := f3_.symm; clear f1_ f2_ f3_; subst f4_; subst f5_))
        refine hK.out _ _ ⟨(blk_cell BK318.out 0).trans rfl, (blk_cell BK318.out 1).trans rfl, (blk_cell BK318.out 2).trans rfl, (blk_cell BK318.out 3).trans rfl, (blk_cell BK318.out 4).trans rfl, (blk_cell BK318.out 5).trans rfl, ((HB.out.cell (World.block_lt_of_cell? w _ hw328_0)).trans hw328_0), ((HB.out.cell (World.block_lt_of_cell? w _ hw328_1)).trans hw328_1), ((HB.out.cell (World.block_lt_of_cell? w _ hw328_2)).trans hw328_2), ((HB.out.cell (World.block_lt_of_cell? w _ hw329_0)).trans hw329_0), ((HB.out.cell (World.block_lt_of_cell? w _ hw329_1)).trans hw329_1), ((HB.out.cell (World.block_lt_of_cell? w _ hw329_2)).trans hw329_2), ((HB.out.cell (World.block_lt_of_cell? w _ hw330_0)).trans hw330_0), ((HB.out.cell (World.block_lt_of_cell? w _ hw330_1)).trans hw330_1), ((HB.out.cell (World.block_lt_of_cell? w _ hw330_2)).trans hw330_2)⟩ (fun hHeld => ?_)
        clear hK K
        refine norm_ (a' := ?_) ?_ ?_
        rotate_left
        ·show Act.put _ (some 56) _ = _
         simp only [Act.put, List.setIfInBounds_toArray, List.set_cons_zero, List.set_cons_succ, i64_w, i32_w]
         rfl
        refine py 24 57 HT_ ?_
        refine one_ (i := 25) (N := some 58) #[true, true, true, true, true, true, true, true, true, true, true, true, true, true, true, true, true, true, true, true, true, true, true, true, true, true, false, false] rfl rfl (one_of HT_.out (by kernel_rfl)) (by decide) (fun K hK => ?_)
        refine value_ (w1 := ?_) (v := ?_) (by rfl) rfl ?_ ?_
        rotate_left 2
        ·go_simp
         constructor
         ·rfl
         ·rfl
        refine hK.out _ _ ⟨(blk_cell (blk_alloc BK318.out _) 0).trans rfl, (blk_cell (blk_alloc BK318.out _) 1).trans rfl, (blk_cell (blk_alloc BK318.out _) 2).trans rfl, (blk_cell (blk_alloc BK318.out _) 3).trans rfl, (blk_cell (blk_alloc BK318.out _) 4).trans rfl, (blk_cell (blk_alloc BK318.out _) 5).trans rfl, (World.cell?_alloc_lt _ _ _ (World.block_lt_of_cell? _ _ (((HB.out.cell (World.block_lt_of_cell? w _ hw328_0)).trans hw328_0)))).trans (((HB.out.cell (World.block_lt_of_cell? w _ hw328_0)).trans hw328_0)), (World.cell?_alloc_lt _ _ _ (World.block_lt_of_cell? _ _ (((HB.out.cell (World.block_lt_of_cell? w _ hw328_1)).trans hw328_1)))).trans (((HB.out.cell (World.block_lt_of_cell? w _ hw328_1)).trans hw328_1)), (World.cell?_alloc_lt _ _ _ (World.block_lt_of_cell? _ _ (((HB.out.cell (World.block_lt_of_cell? w _ hw328_2)).trans hw328_2)))).trans (((HB.out.cell (World.block_lt_of_cell? w _ hw328_2)).trans hw328_2)), (World.cell?_alloc_lt _ _ _ (World.block_lt_of_cell? _ _ (((HB.out.cell (World.block_lt_of_cell? w _ hw329_0)).trans hw329_0)))).trans (((HB.out.cell (World.block_lt_of_cell? w _ hw329_0)).trans hw329_0)), (World.cell?_alloc_lt _ _ _ (World.block_lt_of_cell? _ _ (((HB.out.cell (World.block_lt_of_cell? w _ hw329_1)).trans hw329_1)))).trans (((HB.out.cell (World.block_lt_of_cell? w _ hw329_1)).trans hw329_1)), (World.cell?_alloc_lt _ _ _ (World.block_lt_of_cell? _ _ (((HB.out.cell (World.block_lt_of_cell? w _ hw329_2)).trans hw329_2)))).trans (((HB.out.cell (World.block_lt_of_cell? w _ hw329_2)).trans hw329_2)), (World.cell?_alloc_lt _ _ _ (World.block_lt_of_cell? _ _ (((HB.out.cell (World.block_lt_of_cell? w _ hw330_0)).trans hw330_0)))).trans (((HB.out.cell (World.block_lt_of_cell? w _ hw330_0)).trans hw330_0)), (World.cell?_alloc_lt _ _ _ (World.block_lt_of_cell? _ _ (((HB.out.cell (World.block_lt_of_cell? w _ hw330_1)).trans hw330_1)))).trans (((HB.out.cell (World.block_lt_of_cell? w _ hw330_1)).trans hw330_1)), (World.cell?_alloc_lt _ _ _ (World.block_lt_of_cell? _ _ (((HB.out.cell (World.block_lt_of_cell? w _ hw330_2)).trans hw330_2)))).trans (((HB.out.cell (World.block_lt_of_cell? w _ hw330_2)).trans hw330_2))⟩ (fun hHeld => ?_)
        clear hK K
        refine norm_ (a' := ?_) ?_ ?_
        rotate_left
        ·show Act.put _ (some 58) _ = _
         simp only [Act.put, List.setIfInBounds_toArray, List.set_cons_zero, List.set_cons_succ, i64_w, i32_w]
         rfl
        refine one_ (i := 26) (N := some 59) #[true, true, true, true, true, true, true, true, true, true, true, true, true, true, true, true, true, true, true, true, true, true, true, true, true, true, true, false] rfl rfl (one_of HT_.out (by kernel_rfl)) (by decide) (fun K hK => ?_)
        refine Kd.N_append_step k65 (w0 := w) w.heap.size (by rfl) (.tmp 33) (.tmp 58) 66 65 (.agg #[(.int .i64 0), (.slice none 0 0)]) 32 rfl Try.underlying66 info65 rfl (by decide) (by omega) u4 x4_2 (⟨2, t334⟩ : S65) [.int .i64 2, .slice Ao25 t334.length co25] (fun k_ => some k_ ≠ (.slice Ao23 y331.length co23 : Value).ownBlock ∧ k_ ≠ gb318) (fun k_ => ((fun k_ => some k_ ≠ (.slice Ao23 y331.length co23 : Value).ownBlock ∧ k_ ≠ gb318)) k_ ∧ some k_ ≠ (u4 : Value).ownBlock) rfl rfl ?aP (fun _ hk => hk) ?aF ?aO ?aB ?aS ?aL ?_
        (case aP => exact (k65_mkF _ _ (⟨2, t334⟩ : S65) (Kd.R_reads' (Kd.R_mono (ok' := (fun k_ => ((fun k_ => some k_ ≠ (.slice Ao23 y331.length co23 : Value).ownBlock ∧ k_ ≠ gb318)) k_ ∧ some k_ ≠ (u4 : Value).ownBlock)) (Kd.R_types (Kd.R_apart' (Kd.R_apart' (HO336.out) (Kd.R_typed HO333.out) (by decide)) (Kd.N_typed HO_4.out) (by decide)) BK318.out (by decide)) (fun k_ hk => ⟨⟨hk.1.1.2, hk.2⟩, hk.1.2⟩))).2.1 (Kd.R_F (Kd.R_mono (ok' := (fun k_ => ((fun k_ => some k_ ≠ (.slice Ao23 y331.length co23 : Value).ownBlock ∧ k_ ≠ gb318)) k_ ∧ some k_ ≠ (u4 : Value).ownBlock)) (Kd.R_types (Kd.R_apart' (Kd.R_apart' (HO336.out) (Kd.R_typed HO333.out) (by decide)) (Kd.N_typed HO_4.out) (by decide)) BK318.out (by decide)) (fun k_ hk => ⟨⟨hk.1.1.2, hk.2⟩, hk.1.2⟩)))))
        (case aB => exact (by repeat (first | (with_reducible first | exact HB.out | apply bU | apply bS GE318.out) | exact HB.out)))
        (case aF => exact (fun k_ hk => ⟨Kd.fresh' (Kd.R_lt (by (with_reducible repeat (first | apply Kd.R_alloc | apply Kd.R_drewN | apply Kd.R_drew)); exact HO333.out)) k_ hk, Kd.freshB (g := gb318) (o := .cells #[.int .i64 a0_0, .int .i64 a0_1, .int .i64 a0_2, .bool a0_3, .slice (some ad328) l0_4.length c0_4, .slice A0_5 l0_5.length c0_5] 25 (0, 0)) (kb_ BK318) k_ hk⟩))
        (case aO => exact (by (with_reducible repeat (first | apply Kd.N_alloc | apply Kd.N_drewN | apply Kd.N_drew)); exact Kd.N_mono HO_4.out (fun _ hk => ⟨hk.1.2, hk.1.1⟩)))
        (case aS => exact (below_size (by repeat (first | (with_reducible first | exact HB.out | apply bU | apply bS GE318.out) | exact HB.out))))
        (case aL => have := LMc18.out; omega)
        intro v338 w26 ho hb hg hat
        rw [← Ny337.out] at ho
        have HO339 := Aside0.mk (ho)
        replace BK318 := Aside0.mk (blk_grown (g := gb318) (o := .cells #[.int .i64 a0_0, .int .i64 a0_1, .int .i64 a0_2, .bool a0_3, .slice (some ad328) l0_4.length c0_4, .slice A0_5 l0_5.length c0_5] 25 (0, 0)) (kb_ BK318) hg (Kd.N_ne HO_4.out BK318.out (by decide)))
        replace HO333 := Aside0.mk (Kd.R_over' (by (with_reducible repeat (first | apply Kd.R_alloc | apply Kd.R_drewN | apply Kd.R_drew)); exact HO333.out) (Kd.N_typed (by (with_reducible repeat (first | apply Kd.N_alloc | apply Kd.N_drewN | apply Kd.N_drew)); exact HO_4.out)) (by decide) hg)
        replace HB := Aside0.mk (hb)
        clear HO_4 HO336
        clear ho hb hg hat
        refine hK.out _ _ ⟨(blk_cell BK318.out 0).trans rfl, (blk_cell BK318.out 1).trans rfl, (blk_cell BK318.out 2).trans rfl, (blk_cell BK318.out 3).trans rfl, (blk_cell BK318.out 4).trans rfl, (blk_cell BK318.out 5).trans rfl, ((HB.out.cell (World.block_lt_of_cell? w _ hw328_0)).trans hw328_0), ((HB.out.cell (World.block_lt_of_cell? w _ hw328_1)).trans hw328_1), ((HB.out.cell (World.block_lt_of_cell? w _ hw328_2)).trans hw328_2), ((HB.out.cell (World.block_lt_of_cell? w _ hw329_0)).trans hw329_0), ((HB.out.cell (World.block_lt_of_cell? w _ hw329_1)).trans hw329_1), ((HB.out.cell (World.block_lt_of_cell? w _ hw329_2)).trans hw329_2), ((HB.out.cell (World.block_lt_of_cell? w _ hw330_0)).trans hw330_0), ((HB.out.cell (World.block_lt_of_cell? w _ hw330_1)).trans hw330_1), ((HB.out.cell (World.block_lt_of_cell? w _ hw330_2)).trans hw330_2)⟩ (fun hHeld => ?_)
        clear hK K
        refine norm_ (a' := ?_) ?_ ?_
        rotate_left
        ·show Act.put _ (some 59) _ = _
         simp only [Act.put, List.setIfInBounds_toArray, List.set_cons_zero, List.set_cons_succ, i64_w, i32_w]
         rfl
        refine py 27 4 HT_ ?_
        refine done_ (done_of HT_.out (by kernel_rfl)) ?_
        try go_wp2
        go_roundg k2
        case measure => have := HJ1.out; have := HK2.out; omega
        case rel => exact ⟨(y337), (wrap64 (x5_2 + 1)), (by first | rfl | (simp; done) | (simp [*]; done)), H', ⟨by have := HJ1.out; have := HK2.out; omega⟩, ⟨by (with_reducible repeat (first | apply Kd.N_alloc | apply Kd.N_drewN | apply Kd.N_drew)); exact Kd.N_mono HO339.out (fun _ hk => hk.2)⟩, ⟨kb_ BK318⟩, ⟨by repeat (first | (with_reducible first | exact HB.out | apply bU | apply bS GE318.out) | exact HB.out)⟩⟩
       ·rw [if_neg c18] at H
        exact absurd H (by simp)
      ·rw [if_neg c16] at H
       exact absurd H (by simp)
     ·rw [if_neg c15] at H
      have c15b0 : decide (x5_2 < (l0_4.length : Int)) = false := decide_eq_false c15
      clear c15
      have H' := Aside0.mk H
      clear H
      obtain ⟨hcz27_0, hcz27_1, hcz27_2, hcz27_3, hcz27_4, hcz27_5, hfz27_0, hfz27_1, hfz27_2, hfz27_3, hfz27_4, hfz27_5⟩ := c6_ BK318
      go_wp2
      go_loopg [4, 6] k2 (fun kq v4 v6 w' => ∃ (x4_3 : List (S65)) (x6_3 : Int), v6 = .int .i64 x6_3 ∧ Aside0 (waypointref32_Encode.l1 kq x4_3 x6_3 a0_0 a0_1 a0_2 a0_3 l0_4 l0_5 = some r) ∧ Aside0 (kq ≤ k2) ∧ Aside0 (Kd.N k65 65 w' w.heap.size (fun k_ => k_ ≠ gb318) v4 x4_3) ∧ Aside0 (w'.heap[gb318]? = some (.cells #[.int .i64 a0_0, .int .i64 a0_1, .int .i64 a0_2, .bool a0_3, (.slice A0_4 l0_4.length c0_4), (.slice A0_5 l0_5.length c0_5)] 25 (0, 0))) ∧ Aside0 (Below w.heap.size w w'))
      case atStart => exact ⟨(x4_2), (0), (by first | rfl | (simp; done) | (simp [*]; done)), H', ⟨Nat.le_refl _⟩, ⟨by (with_reducible repeat (first | apply Kd.N_alloc | apply Kd.N_drewN | apply Kd.N_drew)); exact HO_4.out⟩, ⟨kb_ BK318⟩, ⟨by repeat (first | (with_reducible first | exact HB.out | apply bU | apply bS GE318.out) | exact HB.out)⟩⟩
      case round =>
       clear H'
       (try clear c2); (try clear c15); (try clear c15b0); (try clear hcz27_0); (try clear hcz27_1); (try clear hcz27_2); (try clear hcz27_3); (try clear hcz27_4); (try clear hcz27_5); (try clear hcz4_0); (try clear hcz4_1); (try clear hcz4_2); (try clear hcz4_3); (try clear hcz4_4); (try clear hcz4_5); (try clear hcz7_0); (try clear hcz7_1); (try clear hcz7_2); (try clear hcz7_3); (try clear hcz7_4); (try clear hcz7_5); (try clear hfz27_0); (try clear hfz27_1); (try clear hfz27_2); (try clear hfz27_3); (try clear hfz27_4); (try clear hfz27_5); (try clear hfz4_0); (try clear hfz4_1); (try clear hfz4_2); (try clear hfz4_3); (try clear hfz4_4); (try clear hfz4_5); (try clear hfz7_0); (try clear hfz7_1); (try clear hfz7_2); (try clear hfz7_3); (try clear hfz7_4); (try clear hfz7_5)
       obtain ⟨x4_3, x6_3, rfl, HA, HK3, HO_4, BK318, HB⟩ := hrel
       cases gk with
       | zero => exact absurd HA.out (by simp [waypointref32_Encode.l1])
       | succ k3 =>
        have H := HA.out
        clear HA
        simp only [waypointref32_Encode.l1] at H
        by_cases c28 : x6_3 < (l0_5.length : Int)
        ·rw [if_pos c28] at H
         have c28b0 : decide (x6_3 < (l0_5.length : Int)) = true := decide_eq_true c28
         clear c28
         by_cases c29 : 0 ≤ x6_3
         ·rw [if_pos c29] at H
          have c29b0 : decide (0 ≤ x6_3) = true := decide_eq_true c29
          clear c29
          obtain ⟨y342, hy342⟩ : ∃ y_ : List (S64), y_ = (([(⟨wrap64 ((rd_T56 l0_5 x6_3).f0), 4⟩ : S64), (⟨(rd_T56 l0_5 x6_3).f1, 1⟩ : S64)] : List (S64))) := ⟨_, rfl⟩
          replace H : ((waypointref32_fields.f k3 y342).bind fun t345 => (if x4_3.length < 4398046511104 then (waypointref32_Encode.l1 k3 (x4_3 ++ [(⟨3, t345⟩ : S65)]) (wrap64 (x6_3 + 1)) a0_0 a0_1 a0_2 a0_3 l0_4 l0_5) else (none))) = some r := by first | (rw [hy342]; with_reducible exact H) | (have H2_ := (Option.bind_some _ _).symm.trans H; rw [hy342]; with_reducible exact H2_) | (have H2_ := (Option.bind_some _ _).symm.trans H; with_reducible exact H2_) | with_reducible exact H | (rw [hy342]; exact H) | exact H
          have Ny342 := Aside0.mk hy342
          clear hy342
          replace H := Option.bind_eq_some_iff.mp H
          obtain ⟨t345, A300, H⟩ := H
          replace H : (if x4_3.length < 4398046511104 then (waypointref32_Encode.l1 k3 (x4_3 ++ [(⟨3, t345⟩ : S65)]) (wrap64 (x6_3 + 1)) a0_0 a0_1 a0_2 a0_3 l0_4 l0_5) else (none)) = some r := H
          have A30 := Aside0.mk A300
          clear A300
          by_cases c31 : x4_3.length < 4398046511104
          ·rw [if_pos c31] at H
           have LMc31 := Aside0.mk c31
           clear c31
           obtain ⟨y348, hy348⟩ : ∃ y_ : List (S65), y_ = (x4_3 ++ [(⟨3, t345⟩ : S65)]) := ⟨_, rfl⟩
           replace H : (waypointref32_Encode.l1 k3 y348 (wrap64 (x6_3 + 1)) a0_0 a0_1 a0_2 a0_3 l0_4 l0_5) = some r := by first | (rw [hy348]; with_reducible exact H) | (have H2_ := (Option.bind_some _ _).symm.trans H; rw [hy348]; with_reducible exact H2_) | (have H2_ := (Option.bind_some _ _).symm.trans H; with_reducible exact H2_) | with_reducible exact H | (rw [hy348]; exact H) | exact H
           have Ny348 := Aside0.mk hy348
           clear hy348
           have H' := Aside0.mk H
           clear H
           obtain ⟨hcz32_0, hcz32_1, hcz32_2, hcz32_3, hcz32_4, hcz32_5, hfz32_0, hfz32_1, hfz32_2, hfz32_3, hfz32_4, hfz32_5⟩ := c6_ BK318
           try go_wp2
           replace HO_4 := Aside0.mk (Kd.N_drew HO_4.out)
           replace BK318 := Aside0.mk (blk_drew BK318.out)
           replace HB := Aside0.mk (below_drew1 HB.out)
           have p340 : 0 ≤ (x6_3 : Int) := of_decide_eq_true (by first | (with_reducible assumption) | assumption)
           have q340 : x6_3 < (l0_5.length : Int) := of_decide_eq_true (by first | (with_reducible assumption) | assumption)
           obtain ⟨ad340, e340, hx340_0, hx340_1⟩ := at_T56 HR0_5.out x6_3 p340 q340
           have hw340_1 := hx340_1
           have hw340_0 := hx340_0
           cases e340
           replace hx340_0 := (HB.out.cell (World.block_lt_of_cell? w _ hx340_0)).trans hx340_0
           replace hx340_1 := (HB.out.cell (World.block_lt_of_cell? w _ hx340_1)).trans hx340_1
           replace p340 := eq_true p340
           replace q340 := eq_true q340
           have p341 : 0 ≤ (x6_3 : Int) := of_decide_eq_true (by first | (with_reducible assumption) | assumption)
           have q341 : x6_3 < (l0_5.length : Int) := of_decide_eq_true (by first | (with_reducible assumption) | assumption)
           obtain ⟨ad341, e341, hx341_0, hx341_1⟩ := at_T56 HR0_5.out x6_3 p341 q341
           have hw341_1 := hx341_1
           have hw341_0 := hx341_0
           obtain rfl : ad340 = ad341 := (by injection e341)
           replace hx341_0 := (HB.out.cell (World.block_lt_of_cell? w _ hx341_0)).trans hx341_0
           replace hx341_1 := (HB.out.cell (World.block_lt_of_cell? w _ hx341_1)).trans hx341_1
           replace p341 := eq_true p341
           replace q341 := eq_true q341
           refine start_ (n := 22) (S := fun w' => w'.cell? ⟨gb318, 0, none⟩ = some (.int .i64 a0_0) ∧ w'.cell? ⟨gb318, 1, none⟩ = some (.int .i64 a0_1) ∧ w'.cell? ⟨gb318, 2, none⟩ = some (.int .i64 a0_2) ∧ w'.cell? ⟨gb318, 3, none⟩ = some (.bool a0_3) ∧ w'.cell? ⟨gb318, 4, none⟩ = some (.slice A0_4 l0_4.length c0_4) ∧ w'.cell? ⟨gb318, 5, none⟩ = some (.slice (some ad340) l0_5.length c0_5) ∧ w'.cell? (ad340.add ((x6_3).toNat * 2)) = some (.int .u32 ((rd_T56 l0_5 x6_3).f0)) ∧ w'.cell? ⟨(ad340.add ((x6_3).toNat * 2)).block, (ad340.add ((x6_3).toNat * 2)).off + 1, none⟩ = some (.int .i64 ((rd_T56 l0_5 x6_3).f1)) ∧ w'.cell? (ad340.add ((x6_3).toNat * 2)) = some (.int .u32 ((rd_T56 l0_5 x6_3).f0)) ∧ w'.cell? ⟨(ad340.add ((x6_3).toNat * 2)).block, (ad340.add ((x6_3).toNat * 2)).off + 1, none⟩ = some (.int .i64 ((rd_T56 l0_5 x6_3).f1))) (ds := []) #[false, false, false, false, false, false, false, false, false, false, false, false, false, false, false, false, false, false, false, false, false, false] (by kernel_rfl) rfl rfl ⟨(blk_cell BK318.out 0).trans rfl, (blk_cell BK318.out 1).trans rfl, (blk_cell BK318.out 2).trans rfl, (blk_cell BK318.out 3).trans rfl, (blk_cell BK318.out 4).trans rfl, (blk_cell BK318.out 5).trans rfl, ((HB.out.cell (World.block_lt_of_cell? w _ hw340_0)).trans hw340_0), ((HB.out.cell (World.block_lt_of_cell? w _ hw340_1)).trans hw340_1), ((HB.out.cell (World.block_lt_of_cell? w _ hw341_0)).trans hw341_0), ((HB.out.cell (World.block_lt_of_cell? w _ hw341_1)).trans hw341_1)⟩ (fun hHeld => ?_); refine with_tabW waypointref32_Encode.tab12 waypointref32_Encode.bits12 (fun HT_ HW_ => ?_)
           generalize wr.drew = w33 at HO_4 BK318 HB hx340_0 hx340_1 hx341_0 hx341_1 hHeld ⊢
           refine py 0 67 HT_ ?_
           refine py 1 68 HT_ ?_
           refine py 3 70 HT_ ?_
           refine py 9 76 HT_ ?_
           refine py 11 78 HT_ ?_
           refine ty 2 69 HT_ HW_ rfl (Or.inl ⟨by rfl, by rintro w' ⟨s0, s1, s2, s3, s4, s5, s6, s7, s8, s9⟩; go_simp; with_reducible rfl⟩) hHeld ?_
           refine py 4 71 HT_ ?_
           refine py 5 72 HT_ ?_
           refine ty 6 73 HT_ HW_ rfl (Or.inl ⟨by rfl, by rintro w' ⟨s0, s1, s2, s3, s4, s5, s6, s7, s8, s9⟩; go_simp; with_reducible rfl⟩) hHeld ?_
           refine py 7 74 HT_ ?_
           refine py 8 75 HT_ ?_
           refine ty 10 77 HT_ HW_ rfl (Or.inl ⟨by rfl, by rintro w' ⟨s0, s1, s2, s3, s4, s5, s6, s7, s8, s9⟩; go_simp; with_reducible rfl⟩) hHeld ?_
           refine py 12 79 HT_ ?_
           refine py 13 80 HT_ ?_
           refine ty 14 81 HT_ HW_ rfl (Or.inl ⟨by rfl, by rintro w' ⟨s0, s1, s2, s3, s4, s5, s6, s7, s8, s9⟩; go_simp; with_reducible rfl⟩) hHeld ?_
           refine py 15 82 HT_ ?_
           refine one_ (i := 16) (N := some 83) #[true, true, true, true, true, true, true, true, true, true, true, true, true, true, true, true, true, false, false, false, false, false] rfl rfl (one_of HT_.out (by kernel_rfl)) (by decide) (fun K hK => ?_)
           refine Kd.R_lit_step k64 _ 64 ?hg (N := 83) ?hd (xs := ([(⟨wrap64 ((rd_T56 l0_5 x6_3).f0), 4⟩ : S64), (⟨(rd_T56 l0_5 x6_3).f1, 1⟩ : S64)] : List (S64))) (inner := [.int .i64 (wrap64 ((rd_T56 l0_5 x6_3).f0)), .int .i64 4, .int .i64 ((rd_T56 l0_5 x6_3).f1), .int .i64 1]) (ok := fun _ => True) (okp := fun _ => True) ?hr ?hp (fun _ hk => hk) trivial (Below.refl _ _) (Nat.le_refl _) (by simp) ?_; (case hd => rfl); (case hg => rfl); (case hr => first | (go_simp; done) | (go_simp; rfl)); (case hp => exact (Reps.c2 (show Kd.M k64 _ _ _ (⟨wrap64 ((rd_T56 l0_5 x6_3).f0), 4⟩ : S64) [.int .i64 (wrap64 ((rd_T56 l0_5 x6_3).f0)), .int .i64 4] from (k64_mkM _ _ _ (⟨wrap64 ((rd_T56 l0_5 x6_3).f0), 4⟩ : S64) )) (Reps.c2 (show Kd.M k64 _ _ _ (⟨(rd_T56 l0_5 x6_3).f1, 1⟩ : S64) [.int .i64 ((rd_T56 l0_5 x6_3).f1), .int .i64 1] from (k64_mkM _ _ _ (⟨(rd_T56 l0_5 x6_3).f1, 1⟩ : S64) )) (Reps.none _ _))))
           intro v343 w34 ho35 hb hg_ hnew_
           clear hg_ hnew_
           (first | rw [← Ny342.out] at ho35 | (simp only [Int.reduceToNat] at ho35; rw [← Ny342.out] at ho35))
           have HO344 := Aside0.mk (Kd.R_lower ho35 (below_size (by repeat (first | (with_reducible first | exact HB.out | apply bU | apply bS GE318.out) | exact HB.out))))
           replace HO_4 := Aside0.mk (Kd.N_elder' (by (with_reducible repeat (first | apply Kd.N_alloc | apply Kd.N_drewN | apply Kd.N_drew)); exact HO_4.out) (Kd.R_base ho35) hb)
           replace BK318 := bb_ BK318 hb
           replace HB := Aside0.mk (below_step (by repeat (first | (with_reducible first | exact HB.out | apply bU | apply bS GE318.out) | exact HB.out)) hb)
           clear hb ho35
           obtain ⟨Ao36, co36, eo36⟩ := Kd.R_slice HO344.out
           (first | subst eo36 | (injection eo36 with f1_ f2_ f3_; have f4_ := f1_.symm; have f5_ := f3_.symm; clear f1_ f2_ f3_; subst f4_; subst f5_))
           refine hK.out _ _ ⟨(blk_cell BK318.out 0).trans rfl, (blk_cell BK318.out 1).trans rfl, (blk_cell BK318.out 2).trans rfl, (blk_cell BK318.out 3).trans rfl, (blk_cell BK318.out 4).trans rfl, (blk_cell BK318.out 5).trans rfl, ((HB.out.cell (World.block_lt_of_cell? w _ hw340_0)).trans hw340_0), ((HB.out.cell (World.block_lt_of_cell? w _ hw340_1)).trans hw340_1), ((HB.out.cell (World.block_lt_of_cell? w _ hw341_0)).trans hw341_0), ((HB.out.cell (World.block_lt_of_cell? w _ hw341_1)).trans hw341_1)⟩ (fun hHeld => ?_)
           clear hK K
           refine norm_ (a' := ?_) ?_ ?_
           rotate_left
           ·show Act.put _ (some 83) _ = _
            simp only [Act.put, List.setIfInBounds_toArray, List.set_cons_zero, List.set_cons_succ, i64_w, i32_w]
            rfl
           refine one_ (i := 17) (N := some 84) #[true, true, true, true, true, true, true, true, true, true, true, true, true, true, true, true, true, true, false, false, false, false] rfl rfl (one_of HT_.out (by kernel_rfl)) (by decide) (fun K hK => ?_)
           refine goes_ Try.func34 (by kernel_rfl) rfl #[.slice Ao36 y342.length co36] (by rfl) rfl rfl (by (try simp only [List.map_toArray, List.map_cons, List.map_nil]); first | done | rfl | (simp only [List.length_drop, List.length_take]; rfl)) ?_
           with_reducible refine (waypointref32_fields.calls k3 _ _ y342 t345 _ ?side1 ?side2 A30.out).mono ?_
           (case side1 => repeat (first | exact (Kd.R_reads' HO344.out).2.2 | (with_reducible refine Kd.C_alloc ?_ _) | (with_reducible refine Kd.C_drewN ?_ _) | (with_reducible refine Kd.C_drew ?_)))
           (case side2 => exact (Kd.R_reads' HO344.out).2.1)
           rintro e w37 ⟨v346, rfl, ho0, hb⟩
           refine ⟨_, rfl, ?_⟩
           have HO347 := Aside0.mk (Kd.R_lower ho0 (below_size (by repeat (first | (with_reducible first | exact HB.out | apply bU | apply bS GE318.out) | exact HB.out))))
           replace HO_4 := Aside0.mk (Kd.N_elder' (by (with_reducible repeat (first | apply Kd.N_alloc | apply Kd.N_drewN | apply Kd.N_drew)); exact HO_4.out) (Kd.R_base ho0) hb)
           replace HO344 := Aside0.mk (Kd.R_below (by (with_reducible repeat (first | apply Kd.R_alloc | apply Kd.R_drewN | apply Kd.R_drew)); exact HO344.out) hb)
           replace BK318 := bb_ BK318 hb
           replace HB := Aside0.mk (below_step (by repeat (first | (with_reducible first | exact HB.out | apply bU | apply bS GE318.out) | exact HB.out)) hb)
           (try clear hb)
           (try clear hb2)
           (try clear hk)
           (try clear hi)
           (try clear ho0)
           obtain ⟨Ao38, co38, eo38⟩ := Kd.R_slice HO347.out
           (first | subst eo38 | (injection eo38 with f1_ f2_ f3_; have f4_ := f1_.symm; have f5_ := f3_.symm; clear f1_ f2_ f3_; subst f4_; subst f5_))
           refine hK.out _ _ ⟨(blk_cell BK318.out 0).trans rfl, (blk_cell BK318.out 1).trans rfl, (blk_cell BK318.out 2).trans rfl, (blk_cell BK318.out 3).trans rfl, (blk_cell BK318.out 4).trans rfl, (blk_cell BK318.out 5).trans rfl, ((HB.out.cell (World.block_lt_of_cell? w _ hw340_0)).trans hw340_0), ((HB.out.cell (World.block_lt_of_cell? w _ hw340_1)).trans hw340_1), ((HB.out.cell (World.block_lt_of_cell? w _ hw341_0)).trans hw341_0), ((HB.out.cell (World.block_lt_of_cell? w _ hw341_1)).trans hw341_1)⟩ (fun hHeld => ?_)
           clear hK K
           refine norm_ (a' := ?_) ?_ ?_
           rotate_left
           ·show Act.put _ (some 84) _ = _
            simp only [Act.put, List.setIfInBounds_toArray, List.set_cons_zero, List.set_cons_succ, i64_w, i32_w]
            rfl
           refine py 18 85 HT_ ?_
           refine one_ (i := 19) (N := some 86) #[true, true, true, true, true, true, true, true, true, true, true, true, true, true, true, true, true, true, true, true, false, false] rfl rfl (one_of HT_.out (by kernel_rfl)) (by decide) (fun K hK => ?_)
           refine value_ (w1 := ?_) (v := ?_) (by rfl) rfl ?_ ?_
           rotate_left 2
           ·go_simp
            constructor
            ·rfl
            ·rfl
           refine hK.out _ _ ⟨(blk_cell (blk_alloc BK318.out _) 0).trans rfl, (blk_cell (blk_alloc BK318.out _) 1).trans rfl, (blk_cell (blk_alloc BK318.out _) 2).trans rfl, (blk_cell (blk_alloc BK318.out _) 3).trans rfl, (blk_cell (blk_alloc BK318.out _) 4).trans rfl, (blk_cell (blk_alloc BK318.out _) 5).trans rfl, (World.cell?_alloc_lt _ _ _ (World.block_lt_of_cell? _ _ (((HB.out.cell (World.block_lt_of_cell? w _ hw340_0)).trans hw340_0)))).trans (((HB.out.cell (World.block_lt_of_cell? w _ hw340_0)).trans hw340_0)), (World.cell?_alloc_lt _ _ _ (World.block_lt_of_cell? _ _ (((HB.out.cell (World.block_lt_of_cell? w _ hw340_1)).trans hw340_1)))).trans (((HB.out.cell (World.block_lt_of_cell? w _ hw340_1)).trans hw340_1)), (World.cell?_alloc_lt _ _ _ (World.block_lt_of_cell? _ _ (((HB.out.cell (World.block_lt_of_cell? w _ hw341_0)).trans hw341_0)))).trans (((HB.out.cell (World.block_lt_of_cell? w _ hw341_0)).trans hw341_0)), (World.cell?_alloc_lt _ _ _ (World.block_lt_of_cell? _ _ (((HB.out.cell (World.block_lt_of_cell? w _ hw341_1)).trans hw341_1)))).trans (((HB.out.cell (World.block_lt_of_cell? w _ hw341_1)).trans hw341_1))⟩ (fun hHeld => ?_)
           clear hK K
           refine norm_ (a' := ?_) ?_ ?_
           rotate_left
           ·show Act.put _ (some 86) _ = _
            simp only [Act.put, List.setIfInBounds_toArray, List.set_cons_zero, List.set_cons_succ, i64_w, i32_w]
            rfl
           refine one_ (i := 20) (N := some 87) #[true, true, true, true, true, true, true, true, true, true, true, true, true, true, true, true, true, true, true, true, true, false] rfl rfl (one_of HT_.out (by kernel_rfl)) (by decide) (fun K hK => ?_)
           refine Kd.N_append_step k65 (w0 := w) w.heap.size (by rfl) (.tmp 67) (.tmp 86) 66 65 (.agg #[(.int .i64 0), (.slice none 0 0)]) 32 rfl Try.underlying66 info65 rfl (by decide) (by omega) u4 x4_3 (⟨3, t345⟩ : S65) [.int .i64 3, .slice Ao38 t345.length co38] (fun k_ => some k_ ≠ (.slice Ao36 y342.length co36 : Value).ownBlock ∧ k_ ≠ gb318) (fun k_ => ((fun k_ => some k_ ≠ (.slice Ao36 y342.length co36 : Value).ownBlock ∧ k_ ≠ gb318)) k_ ∧ some k_ ≠ (u4 : Value).ownBlock) rfl rfl ?aP (fun _ hk => hk) ?aF ?aO ?aB ?aS ?aL ?_
           (case aP => exact (k65_mkF _ _ (⟨3, t345⟩ : S65) (Kd.R_reads' (Kd.R_mono (ok' := (fun k_ => ((fun k_ => some k_ ≠ (.slice Ao36 y342.length co36 : Value).ownBlock ∧ k_ ≠ gb318)) k_ ∧ some k_ ≠ (u4 : Value).ownBlock)) (Kd.R_types (Kd.R_apart' (Kd.R_apart' (HO347.out) (Kd.R_typed HO344.out) (by decide)) (Kd.N_typed HO_4.out) (by decide)) BK318.out (by decide)) (fun k_ hk => ⟨⟨hk.1.1.2, hk.2⟩, hk.1.2⟩))).2.1 (Kd.R_F (Kd.R_mono (ok' := (fun k_ => ((fun k_ => some k_ ≠ (.slice Ao36 y342.length co36 : Value).ownBlock ∧ k_ ≠ gb318)) k_ ∧ some k_ ≠ (u4 : Value).ownBlock)) (Kd.R_types (Kd.R_apart' (Kd.R_apart' (HO347.out) (Kd.R_typed HO344.out) (by decide)) (Kd.N_typed HO_4.out) (by decide)) BK318.out (by decide)) (fun k_ hk => ⟨⟨hk.1.1.2, hk.2⟩, hk.1.2⟩)))))
           (case aB => exact (by repeat (first | (with_reducible first | exact HB.out | apply bU | apply bS GE318.out) | exact HB.out)))
           (case aF => exact (fun k_ hk => ⟨Kd.fresh' (Kd.R_lt (by (with_reducible repeat (first | apply Kd.R_alloc | apply Kd.R_drewN | apply Kd.R_drew)); exact HO344.out)) k_ hk, Kd.freshB (g := gb318) (o := .cells #[.int .i64 a0_0, .int .i64 a0_1, .int .i64 a0_2, .bool a0_3, .slice A0_4 l0_4.length c0_4, .slice (some ad340) l0_5.length c0_5] 25 (0, 0)) (kb_ BK318) k_ hk⟩))
           (case aO => exact (by (with_reducible repeat (first | apply Kd.N_alloc | apply Kd.N_drewN | apply Kd.N_drew)); exact Kd.N_mono HO_4.out (fun _ hk => ⟨hk.1.2, hk.1.1⟩)))
           (case aS => exact (below_size (by repeat (first | (with_reducible first | exact HB.out | apply bU | apply bS GE318.out) | exact HB.out))))
           (case aL => have := LMc31.out; omega)
           intro v349 w39 ho hb hg hat
           rw [← Ny348.out] at ho
           have HO350 := Aside0.mk (ho)
           replace BK318 := Aside0.mk (blk_grown (g := gb318) (o := .cells #[.int .i64 a0_0, .int .i64 a0_1, .int .i64 a0_2, .bool a0_3, .slice A0_4 l0_4.length c0_4, .slice (some ad340) l0_5.length c0_5] 25 (0, 0)) (kb_ BK318) hg (Kd.N_ne HO_4.out BK318.out (by decide)))
           replace HO344 := Aside0.mk (Kd.R_over' (by (with_reducible repeat (first | apply Kd.R_alloc | apply Kd.R_drewN | apply Kd.R_drew)); exact HO344.out) (Kd.N_typed (by (with_reducible repeat (first | apply Kd.N_alloc | apply Kd.N_drewN | apply Kd.N_drew)); exact HO_4.out)) (by decide) hg)
           replace HB := Aside0.mk (hb)
           clear HO_4 HO347
           clear ho hb hg hat
           refine hK.out _ _ ⟨(blk_cell BK318.out 0).trans rfl, (blk_cell BK318.out 1).trans rfl, (blk_cell BK318.out 2).trans rfl, (blk_cell BK318.out 3).trans rfl, (blk_cell BK318.out 4).trans rfl, (blk_cell BK318.out 5).trans rfl, ((HB.out.cell (World.block_lt_of_cell? w _ hw340_0)).trans hw340_0), ((HB.out.cell (World.block_lt_of_cell? w _ hw340_1)).trans hw340_1), ((HB.out.cell (World.block_lt_of_cell? w _ hw341_0)).trans hw341_0), ((HB.out.cell (World.block_lt_of_cell? w _ hw341_1)).trans hw341_1)⟩ (fun hHeld => ?_)
           clear hK K
           refine norm_ (a' := ?_) ?_ ?_
           rotate_left
           ·show Act.put _ (some 87) _ = _
            simp only [Act.put, List.setIfInBounds_toArray, List.set_cons_zero, List.set_cons_succ, i64_w, i32_w]
            rfl
           refine py 21 4 HT_ ?_
           refine done_ (done_of HT_.out (by kernel_rfl)) ?_
           try go_wp2
           go_roundg k3
           case measure => have := HJ1.out; have := HK2.out; have := HK3.out; omega
           case rel => exact ⟨(y348), (wrap64 (x6_3 + 1)), (by first | rfl | (simp; done) | (simp [*]; done)), H', ⟨by have := HJ1.out; have := HK2.out; have := HK3.out; omega⟩, ⟨by (with_reducible repeat (first | apply Kd.N_alloc | apply Kd.N_drewN | apply Kd.N_drew)); exact Kd.N_mono HO350.out (fun _ hk => hk.2)⟩, ⟨kb_ BK318⟩, ⟨by repeat (first | (with_reducible first | exact HB.out | apply bU | apply bS GE318.out) | exact HB.out)⟩⟩
          ·rw [if_neg c31] at H
           exact absurd H (by simp)
         ·rw [if_neg c29] at H
          exact absurd H (by simp)
        ·rw [if_neg c28] at H
         have c28b0 : decide (x6_3 < (l0_5.length : Int)) = false := decide_eq_false c28
         clear c28
         obtain ⟨y351, hy351⟩ : ∃ y_ : List Int, y_ = (([0, 0] : List Int)) := ⟨_, rfl⟩
         replace H : (if x4_3.length < 4398046511104 then ((waypointref07_Encode.f k3 (x4_3 ++ [(⟨4, y351⟩ : S65)])).bind fun bt357 => ((waypointref08_Seal.f k3 bt357.1 (wrap64 ((bt357.1.length : Int) - 2))).bind fun t361 => (some t361))) else (none)) = some r := by first | (rw [hy351]; with_reducible exact H) | (have H2_ := (Option.bind_some _ _).symm.trans H; rw [hy351]; with_reducible exact H2_) | (have H2_ := (Option.bind_some _ _).symm.trans H; with_reducible exact H2_) | with_reducible exact H | (rw [hy351]; exact H) | exact H
         have Ny351 := Aside0.mk hy351
         clear hy351
         by_cases c40 : x4_3.length < 4398046511104
         ·rw [if_pos c40] at H
          have LMc40 := Aside0.mk c40
          clear c40
          obtain ⟨y354, hy354⟩ : ∃ y_ : List (S65), y_ = (x4_3 ++ [(⟨4, y351⟩ : S65)]) := ⟨_, rfl⟩
          replace H : ((waypointref07_Encode.f k3 y354).bind fun bt357 => ((waypointref08_Seal.f k3 bt357.1 (wrap64 ((bt357.1.length : Int) - 2))).bind fun t361 => (some t361))) = some r := by first | (rw [hy354]; with_reducible exact H) | (have H2_ := (Option.bind_some _ _).symm.trans H; rw [hy354]; with_reducible exact H2_) | (have H2_ := (Option.bind_some _ _).symm.trans H; with_reducible exact H2_) | with_reducible exact H | (rw [hy354]; exact H) | exact H
          have Ny354 := Aside0.mk hy354
          clear hy354
          replace H := Option.bind_eq_some_iff.mp H
          obtain ⟨⟨t357, t358⟩, A410, H⟩ := H
          replace H : ((waypointref08_Seal.f k3 t357 (wrap64 ((t357.length : Int) - 2))).bind fun t361 => (some t361)) = some r := H
          have A41 := Aside0.mk A410
          clear A410
          replace H := Option.bind_eq_some_iff.mp H
          obtain ⟨t361, A420, H⟩ := H
          replace H : (some t361) = some r := H
          have A42 := Aside0.mk A420
          clear A420
          obtain rfl := Option.some.inj H
          obtain ⟨hcz43_0, hcz43_1, hcz43_2, hcz43_3, hcz43_4, hcz43_5, hfz43_0, hfz43_1, hfz43_2, hfz43_3, hfz43_4, hfz43_5⟩ := c6_ BK318
          go_wp2_with (first | ((with_reducible refine gate_dst (N := 89) rfl ?_); refine Kd.R_lit (Kd.int .u8) _ 5 ?hg (N := 89) ?hd (xs := ([0, 0] : List Int)) (inner := [.int .u8 0, .int .u8 0]) (ok := fun _ => True) (okp := fun _ => True) ?hr ?hp (fun _ hk => hk) trivial (Below.refl _ _) (Nat.le_refl _) (by simp) ?_; (case hd => rfl); (case hg => rfl); (case hr => first | (go_simp; done) | (go_simp; rfl)); (case hp => exact (Reps.one (show Kd.M (Kd.int .u8) _ _ _ 0 [.int .u8 0] from rfl) (Reps.one (show Kd.M (Kd.int .u8) _ _ _ 0 [.int .u8 0] from rfl) (Reps.none _ _)))); intro v352 w44 ho45 hb hg_ hnew_; clear hg_ hnew_; (first | rw [← Ny351.out] at ho45 | (simp only [Int.reduceToNat] at ho45; rw [← Ny351.out] at ho45)); have HO353 := Aside0.mk (Kd.R_lower ho45 (below_size (by repeat (first | (with_reducible first | exact HB.out | apply bU | apply bS GE318.out) | exact HB.out)))); replace HO_4 := Aside0.mk (Kd.N_elder' (by (with_reducible repeat (first | apply Kd.N_alloc | apply Kd.N_drewN | apply Kd.N_drew)); exact HO_4.out) (Kd.R_base ho45) hb); replace BK318 := bb_ BK318 hb; replace HB := Aside0.mk (below_step (by repeat (first | (with_reducible first | exact HB.out | apply bU | apply bS GE318.out) | exact HB.out)) hb); clear hb ho45; obtain ⟨Ao46, co46, eo46⟩ := Kd.R_slice HO353.out; subst eo46) | ((with_reducible refine gate_builtin (b := .append) (xs := #[.tmp 88, .tmp 91]) rfl ?_); at_builtin; refine Kd.N_append k65 (w0 := w) w.heap.size rfl (.tmp 88) (.tmp 91) 66 65 (.agg #[(.int .i64 0), (.slice none 0 0)]) 32 rfl Try.underlying66 info65 rfl (by decide) (by omega) u4 x4_3 (⟨4, y351⟩ : S65) [.int .i64 4, .slice Ao46 y351.length co46] (fun k_ => k_ ≠ gb318) (fun k_ => ((fun k_ => k_ ≠ gb318)) k_ ∧ some k_ ≠ (u4 : Value).ownBlock) rfl rfl ?aP (fun _ hk => hk) ?aF ?aO ?aB ?aS ?aL ?_; (case aP => exact (k65_mkF _ _ (⟨4, y351⟩ : S65) (Kd.R_reads' (Kd.R_mono (ok' := (fun k_ => ((fun k_ => k_ ≠ gb318)) k_ ∧ some k_ ≠ (u4 : Value).ownBlock)) (Kd.R_types (Kd.R_apart' (HO353.out) (Kd.N_typed HO_4.out) (by decide)) BK318.out (by decide)) (fun k_ hk => ⟨hk.2, hk.1.2⟩))).2.1 (Kd.R_F (Kd.R_mono (ok' := (fun k_ => ((fun k_ => k_ ≠ gb318)) k_ ∧ some k_ ≠ (u4 : Value).ownBlock)) (Kd.R_types (Kd.R_apart' (HO353.out) (Kd.N_typed HO_4.out) (by decide)) BK318.out (by decide)) (fun k_ hk => ⟨hk.2, hk.1.2⟩))))); (case aB => exact (by repeat (first | (with_reducible first | exact HB.out | apply bU | apply bS GE318.out) | exact HB.out))); (case aF => exact (fun k_ hk => Kd.freshB (g := gb318) (o := .cells #[.int .i64 a0_0, .int .i64 a0_1, .int .i64 a0_2, .bool a0_3, .slice A0_4 l0_4.length c0_4, .slice A0_5 l0_5.length c0_5] 25 (0, 0)) (kb_ BK318) k_ hk)); (case aO => exact (by (with_reducible repeat (first | apply Kd.N_alloc | apply Kd.N_drewN | apply Kd.N_drew)); exact Kd.N_mono HO_4.out (fun _ hk => hk.1))); (case aS => exact (below_size (by repeat (first | (with_reducible first | exact HB.out | apply bU | apply bS GE318.out) | exact HB.out)))); (case aL => have := LMc40.out; omega); intro v355 w47 ho hb hg hat; rw [← Ny354.out] at ho; have HO356 := Aside0.mk (ho); replace BK318 := Aside0.mk (blk_grown (g := gb318) (o := .cells #[.int .i64 a0_0, .int .i64 a0_1, .int .i64 a0_2, .bool a0_3, .slice A0_4 l0_4.length c0_4, .slice A0_5 l0_5.length c0_5] 25 (0, 0)) (kb_ BK318) hg (Kd.N_ne HO_4.out BK318.out (by decide))); replace HB := Aside0.mk (hb); clear HO_4 HO353; clear ho hb hg hat; obtain ⟨Ao48, co48, eo48⟩ := Kd.N_slice HO356.out; subst eo48) | ((with_reducible refine gate_callee (f := 35) rfl ?_); refine goesL_ (some 95) rfl rfl Try.func35 (by kernel_rfl) rfl #[.slice Ao48 y354.length co48] rfl (by (try simp only [List.map_toArray, List.map_cons, List.map_nil]); first | done | rfl | (simp only [List.length_drop, List.length_take]; rfl)) ?_; (with_reducible refine (waypointref07_Encode.calls k3 _ _ y354 t357 t358 _ ?side1 ?side2 A41.out).mono ?_); (case side1 => repeat (first | exact (Kd.N_reads' HO356.out).2.2 | (with_reducible refine Kd.C_alloc ?_ _) | (with_reducible refine Kd.C_drewN ?_ _) | (with_reducible refine Kd.C_drew ?_))); (case side2 => exact (Kd.N_reads' HO356.out).2.1); rintro e w49 ⟨v359, rfl, ho0, hb⟩; refine ⟨_, rfl, ?_⟩; have HO360 := Aside0.mk (Kd.R_lower ho0 (below_size (by repeat (first | (with_reducible first | exact HB.out | apply bU | apply bS GE318.out) | exact HB.out)))); replace HO356 := Aside0.mk (Kd.N_elder' (by (with_reducible repeat (first | apply Kd.N_alloc | apply Kd.N_drewN | apply Kd.N_drew)); exact HO356.out) (Kd.R_base ho0) hb); replace BK318 := bb_ BK318 hb; replace HB := Aside0.mk (below_step (by repeat (first | (with_reducible first | exact HB.out | apply bU | apply bS GE318.out) | exact HB.out)) hb); (try clear hb); (try clear hb2); (try clear hk); (try clear hi); (try clear ho0); obtain ⟨Ao50, co50, eo50⟩ := Kd.R_slice HO360.out; subst eo50) | ((with_reducible refine gate_callee (f := 36) rfl ?_); refine goesL_ (some 102) rfl rfl Try.func36 (by kernel_rfl) rfl #[.slice Ao50 t357.length co50, .int .i64 (wrap64 ((t357.length : Int) - 2))] rfl (by (try simp only [List.map_toArray, List.map_cons, List.map_nil]); first | done | rfl | (simp only [List.length_drop, List.length_take]; rfl)) ?_; (with_reducible refine (waypointref08_Seal.calls k3 _ _ t357 (wrap64 ((t357.length : Int) - 2)) t361 _ ?side1 ?side2 A42.out).mono ?_); (case side1 => repeat (first | exact (Kd.R_reads' HO360.out).2.2 | (with_reducible refine Kd.C_alloc ?_ _) | (with_reducible refine Kd.C_drewN ?_ _) | (with_reducible refine Kd.C_drew ?_))); (case side2 => exact (Kd.R_reads' HO360.out).2.1); rintro e w51 ⟨v362, rfl, ho0, hb⟩; refine ⟨_, rfl, ?_⟩; have HO363 := Aside0.mk (Kd.R_lower (Kd.R_new' ho0 (Kd.R_lt (by (with_reducible repeat (first | apply Kd.R_alloc | apply Kd.R_drewN | apply Kd.R_drew)); exact HO360.out))) (below_size (by repeat (first | (with_reducible first | exact HB.out | apply bU | apply bS GE318.out) | exact HB.out)))); replace HO356 := Aside0.mk (Kd.N_elder' (by (with_reducible repeat (first | apply Kd.N_alloc | apply Kd.N_drewN | apply Kd.N_drew)); exact HO356.out) (Kd.R_base ho0) hb); replace HO360 := Aside0.mk (Kd.R_elder' (by (with_reducible repeat (first | apply Kd.R_alloc | apply Kd.R_drewN | apply Kd.R_drew)); exact HO360.out) (Kd.R_base ho0) hb); replace BK318 := bb_ BK318 hb; replace HB := Aside0.mk (below_step (by repeat (first | (with_reducible first | exact HB.out | apply bU | apply bS GE318.out) | exact HB.out)) hb); (try clear hb); (try clear hb2); (try clear hk); (try clear hi); (try clear ho0)))
          go_ret
          exact ⟨_, by first | rfl | (simp [errW_none, errW_some] <;> rfl) | (simp [*, errW_none, errW_some] <;> rfl), by (with_reducible repeat (first | apply Kd.R_alloc | apply Kd.R_drewN | apply Kd.R_drew)); exact Kd.R_mono HO363.out (fun _ hk => trivial), by repeat (first | (with_reducible first | exact HB.out | apply bU | apply bS GE318.out) | exact HB.out)⟩
         ·rw [if_neg c40] at H
          exact absurd H (by simp)

/-! ### waypointref07_Decode: function 42 -/
abbrev RRec := S65
def waypointref07_Decode.l0 : Nat → List Int → List (S65) → Option (List (S65) × Int)
 | 0, _, _ => none
 | k + 1, b, out => if 0 < b.length then (if b.length < 3 then some ([], 4) else (if rd b 0 = 0 then some ([], 4) else (if 0 ≤ rd b 0 ∧ rd b 0 ≤ 255 ∧ 0 ≤ rd b 1 ∧ rd b 1 ≤ 255 ∧ 0 ≤ rd b 2 ∧ rd b 2 ≤ 255 then (if (b.length : Int) < 3 + rd b 1 * 256 + rd b 2 then some ([], 4) else (if out.length < 4398046511104 then (waypointref07_Decode.l0 k (b.drop (3 + rd b 1 * 256 + rd b 2).toNat) (out ++ [(⟨rd b 0, (b.take (3 + rd b 1 * 256 + rd b 2).toNat).drop 3⟩ : S65)])) else none)) else none))) else some (out, 0)
def waypointref07_Decode.f (k : Nat) (l0 : List Int) : Option (List (S65) × Int) := waypointref07_Decode.l0 k l0 []
theorem waypointref07_Decode.mono_l : ∀ (k : Nat) (b : List Int) (out : List RRec), LeO (waypointref07_Decode.l0 k b out) (waypointref07_Decode.l0 (k + 1) b out)
 | 0, _, _ => fun r h => by simp [waypointref07_Decode.l0] at h
 | k + 1, b, out => by
  have ih := waypointref07_Decode.mono_l k
  unfold waypointref07_Decode.l0
  repeat' first
   | exact ih _ _
   | exact LeO.refl _
   | refine LeO.ite ?_ ?_
theorem waypointref07_Decode.mono : ∀ (l0 : List Int) (k : Nat), LeO (waypointref07_Decode.f k l0) (waypointref07_Decode.f (k + 1) l0) := fun l0 k => waypointref07_Decode.mono_l k l0 []
theorem ca7_ {W : World} {a : Addr} {v : Value} (h : W.cell? a = some v) (o : Obj) : (W.alloc o).cell? a = some v := ((below_alloc (Below.refl _ _) o).cell (World.block_lt_of_cell? W _ h)).trans h
def slenV : Value → Nat | .slice _ n _ => n | _ => 0
def waypointref07_Decode.T8 : Bool × List (List Nat × List Nat) := (true, [([], []), ([], []), ([1], [1]), ([2], [2]), ([3], [3]), ([], []), ([], []), ([], []), ([7], [7]), ([6, 8], [6, 8]), ([5, 9], [5, 9]), ([4, 10], [4, 10]), ([11], [11]), ([0, 12, 10], [0, 12]), ([13, 13, 0, 1, 2, 3, 4, 5, 6, 7, 8, 9, 10, 11, 12, 13], [0, 13])])
def waypointref07_Decode.B8 : List Nat := [0, 0, 2, 6, 14, 0, 0, 0, 128, 448, 992, 2046, 4094, 8191, 16383]
theorem waypointref07_Decode.tab8 : rtab .any (opsOf Try.f42 8) = waypointref07_Decode.T8 := by kernel_rfl
theorem waypointref07_Decode.bits8 : waitsOk waypointref07_Decode.T8.2 waypointref07_Decode.B8 = true := by kernel_rfl
set_option maxHeartbeats 8000000 in
set_option maxRecDepth 100000 in
theorem waypointref07_Decode.calls (k : Nat) (A0 : Option Addr) (c0 : Nat) (l0 : List Int) (r1 : List (S65)) (r2 : Int) (w : World) (hr0 : Kd.C (Kd.int .u8) w A0 l0.length l0) (hc0 : l0.length ≤ c0) (h : waypointref07_Decode.f k l0 = some (r1, r2)) :
  Calls Try.prog 42 #[.slice A0 l0.length c0] w fun e w' => ∃ v0_ : Value, e = .returned (.tuple #[v0_, .int .i64 r2]) ∧ Kd.R k65 65 w' w.heap.size (fun _ => True) v0_ r1 ∧ Below w.heap.size w w' := by
 have HH := Aside0.mk h
 have HR0 := Aside0.mk hr0
 have HC0 := Aside0.mk hc0
 clear h hr0 hc0
 go_enter Try.func42, Try.ntmps42
 go_wp2_with fail
 go_loopw [0, 4] (fun v0 v4 wr => ∃ (k' : Nat) (b : List Int) (out : List RRec) (A : Option Addr) (c : Nat), v0 = .slice A b.length c ∧ Aside0 (b.length ≤ c) ∧ Aside0 (Kd.C (Kd.int .u8) w A b.length b) ∧ Aside0 (Kd.R k65 65 wr w.heap.size (fun _ => True) v4 out) ∧ Aside0 (waypointref07_Decode.l0 k' b out = some (r1, r2)) ∧ Aside0 (Below w.heap.size w wr)) (fun v0 _ _ => slenV v0)
 case atStart => exact ⟨k, l0, [], A0, c0, rfl, HC0, HR0, ⟨Kd.R_nil _ _ _ _ _⟩, HH, ⟨Below.refl _ _⟩⟩
 case round =>
  clear HH HR0 HC0
  obtain ⟨k', b', out', A, c, rfl, HL, HC, HR, HH, HB⟩ := hrel
  obtain ⟨Ao, co, rfl⟩ := Kd.R_slice HR.out
  have hC := Kd.C_below HC.out HB.out
  have hmax := hC.2.1
  obtain ⟨k', rfl⟩ : ∃ j, k' = j + 1 := by
   cases k' with
   | zero => have h := HH.out; simp [waypointref07_Decode.l0] at h
   | succ j => exact ⟨j, rfl⟩
  have hh := HH.out
  simp only [waypointref07_Decode.l0] at hh
  clear HH
  by_cases h0 : 0 < b'.length
  rotate_left
  ·rw [if_neg h0] at hh
   obtain ⟨rfl, rfl⟩ := Prod.mk.inj (Option.some.inj hh)
   obtain rfl : b' = [] := List.eq_nil_of_length_eq_zero (by omega)
   clear hh h0 hC hmax
   simp only [List.length_nil]
   go_wp2_with fail
   go_ret2
   exact ⟨_, rfl, HR.out, HB.out⟩
  rw [if_pos h0] at hh
  by_cases h3 : b'.length < 3
  ·rw [if_pos h3] at hh
   obtain ⟨rfl, rfl⟩ := Prod.mk.inj (Option.some.inj hh)
   clear hh hC
   go_wp2_with fail
   go_ret2
   exact ⟨_, rfl, Kd.R_nil _ _ _ _ _, HB.out⟩
  rw [if_neg h3] at hh
  obtain ⟨ad, hA, hc0⟩ := Kd.at_int hC 0 (by omega) (by omega)
  obtain ⟨ad', hA', hc1⟩ := Kd.at_int hC 1 (by omega) (by omega)
  obtain ⟨ad'', hA'', hc2⟩ := Kd.at_int hC 2 (by omega) (by omega)
  subst hA
  obtain rfl := Option.some.inj hA'
  obtain rfl := Option.some.inj hA''
  have HCr := Aside0.mk hC
  obtain ⟨adw, hAw, hw0⟩ := Kd.at_int HC.out 0 (by omega) (by omega)
  obtain rfl := Option.some.inj hAw
  have Hw0 := Aside0.mk (show w.cell? ad = some (.int .u8 (rd b' 0)) by simpa [Addr.add] using hw0)
  clear hAw hw0
  clear hA' hA'' hC
  have hk0 : wr.cell? ad = some (.int .u8 (rd b' 0)) := by simpa [Addr.add] using hc0
  have hk1 : wr.cell? ⟨ad.block, ad.off + 1, none⟩ = some (.int .u8 (rd b' 1)) := hc1
  have hk2 : wr.cell? ⟨ad.block, ad.off + 2, none⟩ = some (.int .u8 (rd b' 2)) := hc2
  have q3 : decide ((b'.length : Int) < 3) = false := decide_eq_false (by omega)
  have i0 : (0 : Int) < b'.length := by omega
  have i1 : (1 : Int) < b'.length := by omega
  have i2 : (2 : Int) < b'.length := by omega
  clear hc0 hc1 hc2
  by_cases hz0 : rd b' 0 = 0
  ·rw [if_pos hz0] at hh
   obtain ⟨rfl, rfl⟩ := Prod.mk.inj (Option.some.inj hh)
   rw [hz0] at hk0
   clear hh hz0
   go_wp2_with fail
   go_ret2
   exact ⟨_, rfl, Kd.R_nil _ _ _ _ _, HB.out⟩
  rw [if_neg hz0] at hh
  have qz : (rd b' 0 == 0) = false := by simpa using hz0
  clear hz0
  have z1 : (0 : Int) ≤ 1 := by decide
  have z2 : (0 : Int) ≤ 2 := by decide
  by_cases hbt : 0 ≤ rd b' 0 ∧ rd b' 0 ≤ 255 ∧ 0 ≤ rd b' 1 ∧ rd b' 1 ≤ 255 ∧ 0 ≤ rd b' 2 ∧ rd b' 2 ≤ 255
  rotate_left
  ·rw [if_neg hbt] at hh
   cases hh
  rw [if_pos hbt] at hh
  obtain ⟨b00, b01, b10, b11, b20, b21⟩ := hbt
  obtain ⟨n, hn⟩ : ∃ n : Int, 256 * rd b' 1 + rd b' 2 = n := ⟨_, rfl⟩
  rw [show 3 + rd b' 1 * 256 + rd b' 2 = 3 + n by omega] at hh
  have hn0 : 0 ≤ n := by omega
  have hn1 : n ≤ 65535 := by omega
  have Hn := Aside0.mk hn
  clear hn
  go_wp2_with fail
  go_quiet (fail)
  rw [Hn.out]
  have HD := Aside0.mk (pw_below_drewN HB.out nq)
  have HR1 := Aside0.mk (Kd.R_drewN HR.out nq)
  have HC1 := Aside0.mk (Kd.C_drewN HCr.out nq)
  have hd0 : (wr.drewN nq).cell? ad = some (.int .u8 (rd b' 0)) := hk0
  clear hk0 hk1 hk2 qz q3 HB HR HCr
  generalize wr.drewN nq = wd at HD HR1 HC1 hd0 ⊢
  by_cases hL : (b'.length : Int) < 3 + n
  ·rw [if_pos hL] at hh
   obtain ⟨rfl, rfl⟩ := Prod.mk.inj (Option.some.inj hh)
   clear hh
   go_wp2_with fail
   go_ret2
   exact ⟨_, rfl, Kd.R_nil _ _ _ _ _, HD.out⟩
  rw [if_neg hL] at hh
  by_cases hN : out'.length < 4398046511104
  rotate_left
  ·rw [if_neg hN] at hh
   cases hh
  rw [if_pos hN] at hh
  have HH := Aside0.mk hh
  have HN := Aside0.mk hN
  clear hh hN
  have qE : decide ((b'.length : Int) < 3 + n) = false := decide_eq_false hL
  have qE1 : 3 + n ≤ (b'.length : Int) := by omega
  clear hL
  obtain ⟨i05, hi5, _, hsz5, _⟩ := info_parts info5
  obtain ⟨val, hval⟩ : ∃ val : List Int, (b'.take (3 + n).toNat).drop 3 = val := ⟨_, rfl⟩
  obtain ⟨Am, hAm⟩ : ∃ Am : Option Addr, (if c = 3 then some ad else (some ad : Option Addr).map (·.add (3 * 1))) = Am := ⟨_, rfl⟩
  have hvl : val.length = (3 + n).toNat - 3 := by rw [← hval, List.length_drop, List.length_take]; omega
  have hcut : ∀ W : World, (Instr.slice 28 (.slice (some ad) b'.length c) (some (.int .i64 3)) (some (.int .i64 (3 + n))) none).run Try.prog W = .ok (.slice Am val.length (c - 3)) W := by
   intro W
   have h := cut_mid (P := Try.prog) 28 5 .i64 .i64 Try.underlying28 hi5 1 hsz5 (some ad) b'.length c 3 (3 + n) (by decide) (by omega) qE1 HL.out W
   rw [h, hvl, ← hAm]
   rfl
  have HCm := Aside0.mk (show Kd.C (Kd.int .u8) wd Am val.length val from by
   have h := Kd.C_mid (lo := 3) (hi := (3 + n).toNat) (c := c) HC1.out (by omega) (by omega) HL.out
   rw [hval] at h
   rw [← hAm]
   exact h)
  have Hvl := Aside0.mk (show val.length ≤ 65535 by omega)
  have Hval := Aside0.mk hval
  have HCut := Aside0.mk hcut
  clear hval hAm hvl hcut
  go_wp2_with fail
  refine start_ (n := 15) (S := fun w' => w'.cell? ad = some (.int .u8 (rd b' 0))) (ds := []) #[false, false, false, false, false, false, false, false, false, false, false, false, false, false, false] (by kernel_rfl) rfl rfl hd0 (fun hHeld => ?_); refine with_tabW waypointref07_Decode.tab8 waypointref07_Decode.bits8 (fun HT_ HW_ => ?_)
  replace HD := Aside0.mk (below_drew1 HD.out)
  replace HR1 := Aside0.mk (Kd.R_drew HR1.out)
  replace HCm := Aside0.mk (Kd.C_drew HCm.out)
  clear hd0 HC1
  generalize wd.drew = wd at HD HR1 HCm hHeld ⊢
  have hlt0 := Kd.R_lt HR1.out
  refine py 0 33 HT_ ?_
  refine py 1 34 HT_ ?_
  refine py 6 39 HT_ ?_
  refine py 7 40 HT_ ?_
  refine py 8 41 HT_ ?_
  rw [show wrap64 (3 + n) = 3 + n by unfold wrap64; omega]
  refine ty 2 35 HT_ HW_ rfl (Or.inl ⟨by rfl, by rintro w' s0; go_simp; with_reducible rfl⟩) hHeld ?_
  refine ty 3 36 HT_ HW_ rfl (Or.inl ⟨by rfl, by rintro w' s0; go_simp; with_reducible rfl⟩) hHeld ?_
  refine py 4 37 HT_ ?_
  rw [show wrap64 (rd b' 0) = rd b' 0 by unfold wrap64; omega]
  have hcut := HCut.out
  refine py 9 42 HT_ ?_
  clear hcut
  refine one_ (i := 5) (N := some 38) #[true, true, true, true, true, true, true, true, true, true, false, false, false, false, false] rfl rfl (one_of HT_.out (by kernel_rfl)) (by decide) (fun K hK => ?_)
  refine value_ (v := .slice (some ⟨wd.heap.size, 0, none⟩) 0 0) (w1 := wd.alloc (.cells ([] : List Value).toArray 5)) (by rfl) rfl (by first | (go_simp; done) | (go_simp; rfl)) ?_
  refine hK.out _ _ (ca7_ hHeld _) (fun hHeld => ?_)
  clear hK K
  refine norm_ (a' := ?_) ?_ ?_
  rotate_left
  ·show Act.put _ (some 38) _ = _
   simp only [Act.put, List.setIfInBounds_toArray, List.set_cons_zero, List.set_cons_succ, i64_w, i32_w]
   rfl
  have RO0 : Kd.R (Kd.int .u8) 5 (wd.alloc (.cells ([] : List Value).toArray 5)) wd.heap.size (fun _ => True) (.slice (some ⟨wd.heap.size, 0, none⟩) 0 0) ([] : List Int) :=
   Kd.R_of_own (by simpa [encs] using World.ownsRow_lit (base := wd.heap.size) (e := 5) (size := 1) wd #[] 0 (Nat.le_refl _) (by simp [maxLen]) (by simp)) (fun _ _ => trivial)
  refine one_ (i := 10) (N := some 43) #[true, true, true, true, true, true, true, true, true, true, true, false, false, false, false] rfl rfl (one_of HT_.out (by kernel_rfl)) (by decide) (fun K hK => ?_)
  refine Kd.R_append_rows_step (Kd.int .u8) (w0 := wd) wd.heap.size (by rfl) (.tmp 38) (.tmp 42) 28 5 (.int .u8 0) 1 rfl Try.underlying28 info5 rfl (by decide) (by omega) (.slice (some ⟨wd.heap.size, 0, none⟩) 0 0) [] val Am val.length (c - 3) (fun _ => True) (fun _ => False) rfl rfl RO0 (Kd.C_alloc HCm.out _) (fun _ _ h => h) (fun _ h => h.elim) (fun _ _ => trivial) (below_alloc (Below.refl _ _) _) (by simp) (by simp only [List.length_nil]; have := Hvl.out; omega) ?_
  intro v1 w1 hRv hBv hgv hat
  simp only [List.nil_append] at hRv
  obtain ⟨Av, cv, rfl⟩ := Kd.R_slice hRv
  have RV := Aside0.mk (Kd.R_mono (Kd.R_bound hRv) (fun k hk => hk.2.1) (ok' := fun k => wd.heap.size ≤ k))
  have HD1 := Aside0.mk (HD.out.trans (hBv.mono (below_size HD.out)))
  have HR2 := Aside0.mk (Kd.R_below HR1.out hBv)
  have HSZ := Aside0.mk hBv.size
  have HLT := Aside0.mk hlt0
  have e0 := (HD1.out.cell (World.block_lt_of_cell? w _ Hw0.out)).trans Hw0.out
  refine hK.out _ _ e0 (fun hHeld => ?_)
  clear hK K hRv hgv hat hBv RO0 hlt0 e0
  refine norm_ (a' := ?_) ?_ ?_
  rotate_left
  ·show Act.put _ (some 43) _ = _
   simp only [Act.put, List.setIfInBounds_toArray, List.set_cons_zero, List.set_cons_succ, i64_w, i32_w]
   rfl
  refine py 11 44 HT_ ?_
  refine one_ (i := 12) (N := some 45) #[true, true, true, true, true, true, true, true, true, true, true, true, true, false, false] rfl rfl (one_of HT_.out (by kernel_rfl)) (by decide) (fun K hK => ?_)
  refine value_ (v := .slice (some ⟨w1.heap.size, 0, none⟩) 1 1) (w1 := w1.alloc (.cells [.int .i64 (rd b' 0), .slice Av val.length cv].toArray 65)) (by rfl) rfl (by first | (go_simp; done) | (go_simp; rfl)) ?_
  refine hK.out _ _ (ca7_ hHeld _) (fun hHeld => ?_)
  clear hK K
  refine norm_ (a' := ?_) ?_ ?_
  rotate_left
  ·show Act.put _ (some 45) _ = _
   simp only [Act.put, List.setIfInBounds_toArray, List.set_cons_zero, List.set_cons_succ, i64_w, i32_w]
   rfl
  refine one_ (i := 13) (N := some 46) #[true, true, true, true, true, true, true, true, true, true, true, true, true, true, false] rfl rfl (one_of HT_.out (by kernel_rfl)) (by decide) (fun K hK => ?_)
  refine Kd.R_append_step k65 (w0 := w) w.heap.size (by rfl) (.tmp 33) (.tmp 45) 66 65 (.agg #[(.int .i64 0), (.slice none 0 0)]) 32 rfl Try.underlying66 info65 rfl (by decide) (by decide) (.slice Ao out'.length co) out' ⟨rd b' 0, val⟩ [.int .i64 (rd b' 0), .slice Av val.length cv] (fun _ => True) (fun k => wd.heap.size ≤ k) rfl rfl (k65_mkM _ _ _ _ (Kd.R_lower RV.out (below_size HD.out))) (fun k hk => ⟨trivial, fun e => by have := HLT.out k e.symm; omega⟩) (fun _ _ => trivial) HR2.out HD1.out (below_size HD1.out) (by have := HN.out; omega) ?_
  intro v2 w2 hR2 hB2 hg2 hat2
  obtain ⟨A2, c2, rfl⟩ := Kd.R_slice hR2
  have HB2 := Aside0.mk hB2
  have HR3 := Aside0.mk hR2
  refine hK.out _ _ ((HB2.out.cell (World.block_lt_of_cell? w _ Hw0.out)).trans Hw0.out) (fun hHeld => ?_)
  clear hK K hR2 hB2 hg2 hat2
  refine norm_ (a' := ?_) ?_ ?_
  rotate_left
  ·show Act.put _ (some 46) _ = _
   simp only [Act.put, List.setIfInBounds_toArray, List.set_cons_zero, List.set_cons_succ, i64_w, i32_w]
   rfl
  refine py 14 4 HT_ ?_
  refine done_ (done_of HT_.out (by kernel_rfl)) ?_
  clear HT_ HW_ hHeld
  obtain ⟨rest, hrest⟩ : ∃ rest : List Int, b'.drop (3 + n).toNat = rest := ⟨_, rfl⟩
  have hrl : rest.length = b'.length - (3 + n).toNat := by rw [← hrest, List.length_drop]
  obtain ⟨A5, hA5⟩ : ∃ A5 : Option Addr, (if c = (3 + n).toNat then some ad else (some ad : Option Addr).map (·.add ((3 + n).toNat * 1))) = A5 := ⟨_, rfl⟩
  have hcut4 : ∀ W : World, (Instr.slice 28 (.slice (some ad) b'.length c) (some (.int .i64 (3 + n))) none none).run Try.prog W = .ok (.slice A5 rest.length (c - (3 + n).toNat)) W := by
   intro W
   have h := cut_from (P := Try.prog) 28 5 .i64 Try.underlying28 hi5 1 hsz5 (some ad) b'.length c (3 + n) (by omega) qE1 W
   rw [h, hrl, ← hA5]
  have hC5 := Kd.C_drop (m := (3 + n).toNat) (c := c) HC.out (by omega) HL.out
  rw [hrest] at hC5
  have HC5 := Aside0.mk (show Kd.C (Kd.int .u8) w A5 rest.length rest by rw [← hA5]; exact hC5)
  have HL5 := Aside0.mk (show rest.length ≤ c - (3 + n).toNat by have := HL.out; omega)
  have HM := Aside0.mk (show rest.length < b'.length by omega)
  have HH2 := Aside0.mk (show waypointref07_Decode.l0 k' rest (out' ++ [⟨rd b' 0, val⟩]) = some (r1, r2) from by rw [← hrest, ← Hval.out]; exact HH.out)
  have HR4 := Aside0.mk (show Kd.R k65 65 w2 w.heap.size (fun _ => True) (.slice A2 (out'.length + 1) c2) (out' ++ [⟨rd b' 0, val⟩]) by have h := HR3.out; rwa [show (out' ++ [(⟨rd b' 0, val⟩ : RRec)]).length = out'.length + 1 by simp] at h)
  clear hrest hrl hA5 hC5
  go_wp2_with fail
  go_roundw
  case rel => exact ⟨k', rest, _, A5, _, rfl, HL5, HC5, HR4, HH2, HB2⟩
  case measure => exact HM.out


end Go.Proofs.Ytmknjjfdlkgidaa.HLsc
