-- LAID by wip/hand.py, a program of this repository, over the kit's print: contracts of our own are put in. Lean checks it.
import Derived.Test.YtmknjjfdlkgidaaHLscx0
import Derived.Test.YtmknjjfdlkgidaaHLscx13
namespace Go.Proofs.Ytmknjjfdlkgidaa.HLsc
open Go.RowKit Go.Proofs.YtmknjjfdlkgidaaW.PrintWords Go.Proofs.YtmknjjfdlkgidaaW.PrintLast Go.Proofs.YtmknjjfdlkgidaaW.PrintMore
attribute [local go_sem] gtr_str leq_str max2_int min2_int max_two min_two max_three min_three max_four min_four   -- for this text's walks alone
set_option linter.unusedVariables false
set_option linter.unusedSimpArgs false

/-! ### waypointref32_Encode: function 17 -/
mutual
def waypointref32_Encode.j0 : Nat → Int → Int → Int → Int → Bool → List (S43) → List (S56) → Option (List Int)
 | 0, _, _, _, _, _, _, _ => none
 | k + 1, x3, x320000, x320001, x320002, x320003, x320004, x320005 => (waypointref32_fields.f k (([(⟨x320000, 2⟩ : S64), (⟨x320001, 4⟩ : S64), (⟨x320002, 2⟩ : S64), (⟨x3, 1⟩ : S64)] : List (S64)))).bind fun t323 => (waypointref32_Encode.l0 k (([(⟨1, t323⟩ : S65)] : List (S65))) 0 x320000 x320001 x320002 x320003 x320004 x320005)
def waypointref32_Encode.l0 : Nat → List (S65) → Int → Int → Int → Int → Bool → List (S43) → List (S56) → Option (List Int)
 | 0, _, _, _, _, _, _, _, _ => none
 | k + 1, x4, x5, x320000, x320001, x320002, x320003, x320004, x320005 => if x5 < (x320004.length : Int) then (if 0 ≤ x5 then ((waypointref32_fields.f k (([(⟨(rd_T43 x320004 x5).f0, 2⟩ : S64), (⟨(rd_T43 x320004 x5).f1, 2⟩ : S64), (⟨(rd_T43 x320004 x5).f2, 2⟩ : S64)] : List (S64)))).bind fun t335 => (if x4.length < 4398046511104 then (waypointref32_Encode.l0 k (x4 ++ [(⟨2, t335⟩ : S65)]) (wrap64 (x5 + 1)) x320000 x320001 x320002 x320003 x320004 x320005) else (none))) else (none)) else (waypointref32_Encode.l1 k x4 0 x320000 x320001 x320002 x320003 x320004 x320005)
def waypointref32_Encode.l1 : Nat → List (S65) → Int → Int → Int → Int → Bool → List (S43) → List (S56) → Option (List Int)
 | 0, _, _, _, _, _, _, _, _ => none
 | k + 1, x4, x6, x320000, x320001, x320002, x320003, x320004, x320005 => if x6 < (x320005.length : Int) then (if 0 ≤ x6 then ((waypointref32_fields.f k (([(⟨wrap64 ((rd_T56 x320005 x6).f0), 4⟩ : S64), (⟨(rd_T56 x320005 x6).f1, 1⟩ : S64)] : List (S64)))).bind fun t346 => (if x4.length < 4398046511104 then (waypointref32_Encode.l1 k (x4 ++ [(⟨3, t346⟩ : S65)]) (wrap64 (x6 + 1)) x320000 x320001 x320002 x320003 x320004 x320005) else (none))) else (none)) else (if x4.length < 4398046511104 then ((waypointref07_Encode.f k (x4 ++ [(⟨4, (([0, 0] : List Int))⟩ : S65)])).bind fun bt358 => ((waypointref08_Seal.f k bt358.1 (wrap64 ((bt358.1.length : Int) - 2))).bind fun t362 => (some t362))) else (none))
end
def waypointref32_Encode.f (k : Nat) (a0_0 : Int) (a0_1 : Int) (a0_2 : Int) (a0_3 : Bool) (l0_4 : List (S43)) (l0_5 : List (S56)) : Option (List Int) := if a0_3 = true then (waypointref32_Encode.j0 k 1 a0_0 a0_1 a0_2 a0_3 l0_4 l0_5) else (waypointref32_Encode.j0 k 0 a0_0 a0_1 a0_2 a0_3 l0_4 l0_5)
theorem waypointref32_Encode.mono_l : ∀ k, (∀ y0 y1 y2 y3 y4 y5 y6, LeO (waypointref32_Encode.j0 k y0 y1 y2 y3 y4 y5 y6) (waypointref32_Encode.j0 (k + 1) y0 y1 y2 y3 y4 y5 y6)) ∧ (∀ y0 y1 y2 y3 y4 y5 y6 y7, LeO (waypointref32_Encode.l0 k y0 y1 y2 y3 y4 y5 y6 y7) (waypointref32_Encode.l0 (k + 1) y0 y1 y2 y3 y4 y5 y6 y7)) ∧ (∀ y0 y1 y2 y3 y4 y5 y6 y7, LeO (waypointref32_Encode.l1 k y0 y1 y2 y3 y4 y5 y6 y7) (waypointref32_Encode.l1 (k + 1) y0 y1 y2 y3 y4 y5 y6 y7))
 | 0 => ⟨fun _ _ _ _ _ _ _ r h => by simp [waypointref32_Encode.j0] at h, fun _ _ _ _ _ _ _ _ r h => by simp [waypointref32_Encode.l0] at h, fun _ _ _ _ _ _ _ _ r h => by simp [waypointref32_Encode.l1] at h⟩
 | k + 1 => by
  obtain ⟨ih0, ih1, ih2⟩ := waypointref32_Encode.mono_l k
  refine ⟨?_, ?_, ?_⟩
  ·intro y0 y1 y2 y3 y4 y5 y6
   unfold waypointref32_Encode.j0
   repeat' first
   | (with_reducible exact ih0 _ _ _ _ _ _ _)
   | (with_reducible exact ih1 _ _ _ _ _ _ _ _)
   | (with_reducible exact ih2 _ _ _ _ _ _ _ _)
   | (with_reducible exact waypointref07_Encode.mono _ _)
   | (with_reducible exact waypointref08_Seal.mono _ _ _)
   | (with_reducible exact waypointref32_fields.mono _ _)
   | (with_reducible exact LeO.refl _)
   | (with_reducible exact LeO.none _)
   | (with_reducible refine LeO.ite ?_ ?_)
   | (with_reducible refine LeO.bind ?_ (fun _ => ?_))
   | exact ih0 _ _ _ _ _ _ _
   | exact ih1 _ _ _ _ _ _ _ _
   | exact ih2 _ _ _ _ _ _ _ _
   | exact waypointref07_Encode.mono _ _
   | exact waypointref08_Seal.mono _ _ _
   | exact waypointref32_fields.mono _ _
   | exact LeO.none _
   | refine LeO.ite ?_ ?_
   | refine LeO.bind ?_ (fun _ => ?_)
  ·intro y0 y1 y2 y3 y4 y5 y6 y7
   unfold waypointref32_Encode.l0
   repeat' first
   | (with_reducible exact ih0 _ _ _ _ _ _ _)
   | (with_reducible exact ih1 _ _ _ _ _ _ _ _)
   | (with_reducible exact ih2 _ _ _ _ _ _ _ _)
   | (with_reducible exact waypointref07_Encode.mono _ _)
   | (with_reducible exact waypointref08_Seal.mono _ _ _)
   | (with_reducible exact waypointref32_fields.mono _ _)
   | (with_reducible exact LeO.refl _)
   | (with_reducible exact LeO.none _)
   | (with_reducible refine LeO.ite ?_ ?_)
   | (with_reducible refine LeO.bind ?_ (fun _ => ?_))
   | exact ih0 _ _ _ _ _ _ _
   | exact ih1 _ _ _ _ _ _ _ _
   | exact ih2 _ _ _ _ _ _ _ _
   | exact waypointref07_Encode.mono _ _
   | exact waypointref08_Seal.mono _ _ _
   | exact waypointref32_fields.mono _ _
   | exact LeO.none _
   | refine LeO.ite ?_ ?_
   | refine LeO.bind ?_ (fun _ => ?_)
  ·intro y0 y1 y2 y3 y4 y5 y6 y7
   unfold waypointref32_Encode.l1
   repeat' first
   | (with_reducible exact ih0 _ _ _ _ _ _ _)
   | (with_reducible exact ih1 _ _ _ _ _ _ _ _)
   | (with_reducible exact ih2 _ _ _ _ _ _ _ _)
   | (with_reducible exact waypointref07_Encode.mono _ _)
   | (with_reducible exact waypointref08_Seal.mono _ _ _)
   | (with_reducible exact waypointref32_fields.mono _ _)
   | (with_reducible exact LeO.refl _)
   | (with_reducible exact LeO.none _)
   | (with_reducible refine LeO.ite ?_ ?_)
   | (with_reducible refine LeO.bind ?_ (fun _ => ?_))
   | exact ih0 _ _ _ _ _ _ _
   | exact ih1 _ _ _ _ _ _ _ _
   | exact ih2 _ _ _ _ _ _ _ _
   | exact waypointref07_Encode.mono _ _
   | exact waypointref08_Seal.mono _ _ _
   | exact waypointref32_fields.mono _ _
   | exact LeO.none _
   | refine LeO.ite ?_ ?_
   | refine LeO.bind ?_ (fun _ => ?_)
theorem waypointref32_Encode.mono : ∀ a0 a1 a2 a3 a4 a5 k, LeO (waypointref32_Encode.f k a0 a1 a2 a3 a4 a5) (waypointref32_Encode.f (k + 1) a0 a1 a2 a3 a4 a5) := by
 intro a0 a1 a2 a3 a4 a5 k
 obtain ⟨ih0, ih1, ih2⟩ := waypointref32_Encode.mono_l k
 unfold waypointref32_Encode.f
 repeat' first
   | (with_reducible exact ih0 _ _ _ _ _ _ _)
   | (with_reducible exact ih1 _ _ _ _ _ _ _ _)
   | (with_reducible exact ih2 _ _ _ _ _ _ _ _)
   | (with_reducible exact waypointref07_Encode.mono _ _)
   | (with_reducible exact waypointref08_Seal.mono _ _ _)
   | (with_reducible exact waypointref32_fields.mono _ _)
   | (with_reducible exact LeO.refl _)
   | (with_reducible exact LeO.none _)
   | (with_reducible refine LeO.ite ?_ ?_)
   | (with_reducible refine LeO.bind ?_ (fun _ => ?_))
   | exact ih0 _ _ _ _ _ _ _
   | exact ih1 _ _ _ _ _ _ _ _
   | exact ih2 _ _ _ _ _ _ _ _
   | exact waypointref07_Encode.mono _ _
   | exact waypointref08_Seal.mono _ _ _
   | exact waypointref32_fields.mono _ _
   | exact LeO.none _
   | refine LeO.ite ?_ ?_
   | refine LeO.bind ?_ (fun _ => ?_)
def waypointref32_Encode.T8 : Bool × List (List Nat × List Nat) := (true, [([], []), ([], []), ([1], [1]), ([], []), ([2, 3], [2, 3]), ([4], [4]), ([5], [5]), ([6], [6]), ([], []), ([8], [8]), ([], []), ([9, 10], [9, 10]), ([11], [11]), ([12], [12]), ([13], [13]), ([], []), ([15], [15]), ([], []), ([16, 17], [16, 17]), ([18], [18]), ([19], [19]), ([20], [20]), ([7, 14, 21], [7, 14, 21]), ([22], [22]), ([23], [23]), ([24], [24]), ([0, 25, 23], [0, 25]), ([26, 26, 0, 1, 2, 3, 4, 5, 6, 7, 8, 9, 10, 11, 12, 13, 14, 15, 16, 17, 18, 19, 20, 21, 22, 23, 24, 25, 26], [0, 26])])
def waypointref32_Encode.B8 : List Nat := [0, 0, 2, 0, 14, 30, 62, 126, 0, 256, 0, 1792, 3840, 7936, 16128, 0, 32768, 0, 229376, 491520, 1015808, 2064384, 4194302, 8388606, 16777214, 33554430, 67108863, 134217727]
theorem waypointref32_Encode.tab8 : rtab .any (opsOf Try.f17 8) = waypointref32_Encode.T8 := by kernel_rfl
theorem waypointref32_Encode.bits8 : waitsOk waypointref32_Encode.T8.2 waypointref32_Encode.B8 = true := by kernel_rfl
def waypointref32_Encode.T12 : Bool × List (List Nat × List Nat) := (true, [([], []), ([], []), ([1], [1]), ([], []), ([2, 3], [2, 3]), ([4], [4]), ([5], [5]), ([6], [6]), ([7], [7]), ([], []), ([9], [9]), ([], []), ([10, 11], [10, 11]), ([12], [12]), ([13], [13]), ([14], [14]), ([8, 15], [8, 15]), ([16], [16]), ([17], [17]), ([18], [18]), ([0, 19, 17], [0, 19]), ([20, 20, 0, 1, 2, 3, 4, 5, 6, 7, 8, 9, 10, 11, 12, 13, 14, 15, 16, 17, 18, 19, 20], [0, 20])])
def waypointref32_Encode.B12 : List Nat := [0, 0, 2, 0, 14, 30, 62, 126, 254, 0, 512, 0, 3584, 7680, 15872, 32256, 65534, 131070, 262142, 524286, 1048575, 2097151]
theorem waypointref32_Encode.tab12 : rtab .any (opsOf Try.f17 12) = waypointref32_Encode.T12 := by kernel_rfl
theorem waypointref32_Encode.bits12 : waitsOk waypointref32_Encode.T12.2 waypointref32_Encode.B12 = true := by kernel_rfl
set_option maxHeartbeats 8000000 in
set_option maxRecDepth 100000 in
theorem waypointref32_Encode.calls (k : Nat) (a0_0 : Int) (a0_1 : Int) (a0_2 : Int) (a0_3 : Bool) (A0_4 : Option Addr) (c0_4 : Nat) (l0_4 : List (S43)) (A0_5 : Option Addr) (c0_5 : Nat) (l0_5 : List (S56)) (r : List Int) (w : World) (hr0_4 : Kd.C k43 w A0_4 l0_4.length l0_4) (hc0_4 : l0_4.length ≤ c0_4) (hr0_5 : Kd.C k56 w A0_5 l0_5.length l0_5) (hc0_5 : l0_5.length ≤ c0_5) (h : waypointref32_Encode.f k a0_0 a0_1 a0_2 a0_3 l0_4 l0_5 = some r) :
  Calls Try.prog 17 #[.agg #[.int .i64 a0_0, .int .i64 a0_1, .int .i64 a0_2, .bool a0_3, .slice A0_4 l0_4.length c0_4, .slice A0_5 l0_5.length c0_5]] w fun e w' => ∃ v0_ : Value, e = .returned (v0_) ∧ Kd.R (Kd.int .u8) 5 w' w.heap.size (fun _ => True) v0_ r ∧ Below w.heap.size w w' := by
 have hu25 := Try.underlying25
 have hu64 := Try.underlying64
 have hu65 := Try.underlying65
 have HR0_4 := Aside0.mk hr0_4
 have HC0_4 := Aside0.mk hc0_4
 clear hr0_4 hc0_4
 have HR0_5 := Aside0.mk hr0_5
 have HC0_5 := Aside0.mk hc0_5
 clear hr0_5 hc0_5
 have HB := Aside0.mk (Below.refl w.heap.size w)
 have H : (if a0_3 = true then (waypointref32_Encode.j0 k 1 a0_0 a0_1 a0_2 a0_3 l0_4 l0_5) else (waypointref32_Encode.j0 k 0 a0_0 a0_1 a0_2 a0_3 l0_4 l0_5)) = some r := h
 clear h
 have HC2 := Aside0.mk H
 clear H
 go_enter Try.func17, Try.ntmps17
 go_upto_if 10 with (first | ((with_reducible refine gate_dst (N := 1) rfl ?_); refine bx_ 1 #[.int .i64 a0_0, .int .i64 a0_1, .int .i64 a0_2, .bool a0_3, .slice A0_4 l0_4.length c0_4, .slice A0_5 l0_5.length c0_5] 25 rfl rfl ?hr ?_; (case hr => go_simp; try rfl); intro gb319 hg w3 hbox hb; have BK319 := Aside0.mk (hbox); have GW319 := gs_ HB hg; have GE319 := gs_ HB hg; replace HB := bs_ HB hb; clear hb hbox hg; obtain ⟨hcz4_0, hcz4_1, hcz4_2, hcz4_3, hcz4_4, hcz4_5, hfz4_0, hfz4_1, hfz4_2, hfz4_3, hfz4_4, hfz4_5⟩ := c6_ BK319))
 (try simp only [Act.put, List.setIfInBounds_toArray, List.set_cons_zero, List.set_cons_succ])
 go_cut [3] (fun v3 wc => ∃ (kq : Nat) (x3_1 : Int), v3 = .int .i64 x3_1 ∧ Aside0 (waypointref32_Encode.j0 kq x3_1 a0_0 a0_1 a0_2 a0_3 l0_4 l0_5 = some r) ∧ Aside0 (kq ≤ k) ∧ Aside0 (wc.heap[gb319]? = some (.cells #[.int .i64 a0_0, .int .i64 a0_1, .int .i64 a0_2, .bool a0_3, (.slice A0_4 l0_4.length c0_4), (.slice A0_5 l0_5.length c0_5)] 25 (0, 0))) ∧ Aside0 (Below w.heap.size w wc))
 case first =>
  have H := HC2.out
  clear HC2
  by_cases c5 : a0_3 = true
  ·subst c5
   have H1 : (waypointref32_Encode.j0 k 1 a0_0 a0_1 a0_2 true l0_4 l0_5) = some r := by rw [if_pos rfl] at H; exact H
   clear H
   have H := H1
   clear H1
   have H' := Aside0.mk H
   clear H
   go_wp2
   go_meet
   case rel => exact ⟨_, (1), (by first | rfl | (simp; done) | (simp [*]; done)), H', ⟨by first | omega | exact Nat.le_refl _⟩, ⟨kb_ BK319⟩, ⟨by repeat (first | (with_reducible first | exact HB.out | apply bU | apply bS GE319.out) | exact HB.out)⟩⟩
  ·replace c5 := Bool.eq_false_iff.mpr c5
   subst c5
   have H1 : (waypointref32_Encode.j0 k 0 a0_0 a0_1 a0_2 false l0_4 l0_5) = some r := by rw [if_neg (show ¬ (false = true) by decide)] at H; exact H
   clear H
   have H := H1
   clear H1
   have H' := Aside0.mk H
   clear H
   go_wp2
   go_meet
   case rel => exact ⟨_, (0), (by first | rfl | (simp; done) | (simp [*]; done)), H', ⟨by first | omega | exact Nat.le_refl _⟩, ⟨kb_ BK319⟩, ⟨by repeat (first | (with_reducible first | exact HB.out | apply bU | apply bS GE319.out) | exact HB.out)⟩⟩
 case rest =>
  clear HC2
  (try clear hcz4_0); (try clear hcz4_1); (try clear hcz4_2); (try clear hcz4_3); (try clear hcz4_4); (try clear hcz4_5); (try clear hfz4_0); (try clear hfz4_1); (try clear hfz4_2); (try clear hfz4_3); (try clear hfz4_4); (try clear hfz4_5)
  obtain ⟨kq, x3_1, rfl, HA, HJ1, BK319, HB⟩ := hcut
  cases kq with
  | zero => exact absurd HA.out (by simp [waypointref32_Encode.j0])
  | succ kj1 =>
   have H := HA.out
   clear HA
   simp only [waypointref32_Encode.j0] at H
   obtain ⟨y320, hy320⟩ : ∃ y_ : List (S64), y_ = (([(⟨a0_0, 2⟩ : S64), (⟨a0_1, 4⟩ : S64), (⟨a0_2, 2⟩ : S64), (⟨x3_1, 1⟩ : S64)] : List (S64))) := ⟨_, rfl⟩
   replace H : ((waypointref32_fields.f kj1 y320).bind fun t323 => (waypointref32_Encode.l0 kj1 (([(⟨1, t323⟩ : S65)] : List (S65))) 0 a0_0 a0_1 a0_2 a0_3 l0_4 l0_5)) = some r := by first | (rw [hy320]; with_reducible exact H) | (have H2_ := (Option.bind_some _ _).symm.trans H; rw [hy320]; with_reducible exact H2_) | (have H2_ := (Option.bind_some _ _).symm.trans H; with_reducible exact H2_) | with_reducible exact H | (rw [hy320]; exact H) | exact H
   have Ny320 := Aside0.mk hy320
   clear hy320
   replace H := Option.bind_eq_some_iff.mp H
   obtain ⟨t323, A60, H⟩ := H
   replace H : (waypointref32_Encode.l0 kj1 (([(⟨1, t323⟩ : S65)] : List (S65))) 0 a0_0 a0_1 a0_2 a0_3 l0_4 l0_5) = some r := H
   have A6 := Aside0.mk A60
   clear A60
   obtain ⟨y326, hy326⟩ : ∃ y_ : List (S65), y_ = (([(⟨1, t323⟩ : S65)] : List (S65))) := ⟨_, rfl⟩
   replace H : (waypointref32_Encode.l0 kj1 y326 0 a0_0 a0_1 a0_2 a0_3 l0_4 l0_5) = some r := by first | (rw [hy326]; with_reducible exact H) | (have H2_ := (Option.bind_some _ _).symm.trans H; rw [hy326]; with_reducible exact H2_) | (have H2_ := (Option.bind_some _ _).symm.trans H; with_reducible exact H2_) | with_reducible exact H | (rw [hy326]; exact H) | exact H
   have Ny326 := Aside0.mk hy326
   clear hy326
   have H' := Aside0.mk H
   clear H
   obtain ⟨hcz7_0, hcz7_1, hcz7_2, hcz7_3, hcz7_4, hcz7_5, hfz7_0, hfz7_1, hfz7_2, hfz7_3, hfz7_4, hfz7_5⟩ := c6_ BK319
   go_wp2_with (first | ((with_reducible refine gate_dst (N := 22) rfl ?_); refine Kd.R_lit k64 _ 64 ?hg (N := 22) ?hd (xs := ([(⟨a0_0, 2⟩ : S64), (⟨a0_1, 4⟩ : S64), (⟨a0_2, 2⟩ : S64), (⟨x3_1, 1⟩ : S64)] : List (S64))) (inner := [.int .i64 a0_0, .int .i64 2, .int .i64 a0_1, .int .i64 4, .int .i64 a0_2, .int .i64 2, .int .i64 x3_1, .int .i64 1]) (ok := fun _ => True) (okp := fun _ => True) ?hr ?hp (fun _ hk => hk) trivial (Below.refl _ _) (Nat.le_refl _) (by simp) ?_; (case hd => rfl); (case hg => rfl); (case hr => first | (go_simp; done) | (go_simp; rfl)); (case hp => exact (Reps.c2 (show Kd.M k64 _ _ _ (⟨a0_0, 2⟩ : S64) [.int .i64 a0_0, .int .i64 2] from (k64_mkM _ _ _ (⟨a0_0, 2⟩ : S64) )) (Reps.c2 (show Kd.M k64 _ _ _ (⟨a0_1, 4⟩ : S64) [.int .i64 a0_1, .int .i64 4] from (k64_mkM _ _ _ (⟨a0_1, 4⟩ : S64) )) (Reps.c2 (show Kd.M k64 _ _ _ (⟨a0_2, 2⟩ : S64) [.int .i64 a0_2, .int .i64 2] from (k64_mkM _ _ _ (⟨a0_2, 2⟩ : S64) )) (Reps.c2 (show Kd.M k64 _ _ _ (⟨x3_1, 1⟩ : S64) [.int .i64 x3_1, .int .i64 1] from (k64_mkM _ _ _ (⟨x3_1, 1⟩ : S64) )) (Reps.none _ _)))))); intro v321 w8 ho9 hb hg_ hnew_; clear hg_ hnew_; (first | rw [← Ny320.out] at ho9 | (simp only [Int.reduceToNat] at ho9; rw [← Ny320.out] at ho9)); have HO322 := Aside0.mk (Kd.R_lower ho9 (below_size (by repeat (first | (with_reducible first | exact HB.out | apply bU | apply bS GE319.out) | exact HB.out)))); replace BK319 := bb_ BK319 hb; replace HB := Aside0.mk (below_step (by repeat (first | (with_reducible first | exact HB.out | apply bU | apply bS GE319.out) | exact HB.out)) hb); clear hb ho9; obtain ⟨Ao10, co10, eo10⟩ := Kd.R_slice HO322.out; subst eo10) | ((with_reducible refine gate_callee (f := 34) rfl ?_); refine goesL_ (some 23) rfl rfl Try.func34 (by kernel_rfl) rfl #[.slice Ao10 y320.length co10] rfl (by (try simp only [List.map_toArray, List.map_cons, List.map_nil]); first | done | rfl | (simp only [List.length_drop, List.length_take]; rfl)) ?_; (with_reducible refine (waypointref32_fields.calls kj1 _ _ y320 t323 _ ?side1 ?side2 A6.out).mono ?_); (case side1 => repeat (first | exact (Kd.R_reads' HO322.out).2.2 | (with_reducible refine Kd.C_alloc ?_ _) | (with_reducible refine Kd.C_drewN ?_ _) | (with_reducible refine Kd.C_drew ?_))); (case side2 => exact (Kd.R_reads' HO322.out).2.1); rintro e w11 ⟨v324, rfl, ho0, hb⟩; refine ⟨_, rfl, ?_⟩; have HO325 := Aside0.mk (Kd.R_lower ho0 (below_size (by repeat (first | (with_reducible first | exact HB.out | apply bU | apply bS GE319.out) | exact HB.out)))); replace HO322 := Aside0.mk (Kd.R_below (by (with_reducible repeat (first | apply Kd.R_alloc | apply Kd.R_drewN | apply Kd.R_drew)); exact HO322.out) hb); replace BK319 := bb_ BK319 hb; replace HB := Aside0.mk (below_step (by repeat (first | (with_reducible first | exact HB.out | apply bU | apply bS GE319.out) | exact HB.out)) hb); (try clear hb); (try clear hb2); (try clear hk); (try clear hi); (try clear ho0); obtain ⟨Ao12, co12, eo12⟩ := Kd.R_slice HO325.out; subst eo12) | ((with_reducible refine gate_dst (N := 25) rfl ?_); refine Kd.N_lit k65 _ 65 ?hg (N' := 25) ?hd (xs := ([(⟨1, t323⟩ : S65)] : List (S65))) (inner := [.int .i64 1, .slice Ao12 t323.length co12]) (ok := (fun k_ => some k_ ≠ (.slice Ao10 y320.length co10 : Value).ownBlock ∧ k_ ≠ gb319)) (okp := (fun k_ => some k_ ≠ (.slice Ao10 y320.length co10 : Value).ownBlock ∧ k_ ≠ gb319)) ?hr ?hp (fun _ hk => hk) ((show ∀ k_, w11.heap.size ≤ k_ → (fun k_ => some k_ ≠ (.slice Ao10 y320.length co10 : Value).ownBlock ∧ k_ ≠ gb319) k_ from fun k_ hk => ⟨Kd.fresh' (Kd.R_lt (by (with_reducible repeat (first | apply Kd.R_alloc | apply Kd.R_drewN | apply Kd.R_drew)); exact HO322.out)) k_ hk, Kd.freshB (g := gb319) (o := .cells #[.int .i64 a0_0, .int .i64 a0_1, .int .i64 a0_2, .bool a0_3, .slice A0_4 l0_4.length c0_4, .slice A0_5 l0_5.length c0_5] 25 (0, 0)) (kb_ BK319) k_ hk⟩) _ (Nat.le_refl _)) (Below.refl _ _) (Nat.le_refl _) (by simp) ?_; (case hd => rfl); (case hg => rfl); (case hr => first | (go_simp; done) | (go_simp; rfl)); (case hp => exact (Reps.c2 (show Kd.FK k65 _ _ (⟨1, t323⟩ : S65) [.int .i64 1, .slice Ao12 t323.length co12] from (k65_mkF _ _ (⟨1, t323⟩ : S65) (Kd.R_reads' (Kd.R_mono (ok' := (fun k_ => some k_ ≠ (.slice Ao10 y320.length co10 : Value).ownBlock ∧ k_ ≠ gb319)) (Kd.R_types (Kd.R_apart' (HO325.out) (Kd.R_typed HO322.out) (by decide)) BK319.out (by decide)) (fun k_ hk => ⟨hk.1.2, hk.2⟩))).2.1 (Kd.R_F (Kd.R_mono (ok' := (fun k_ => some k_ ≠ (.slice Ao10 y320.length co10 : Value).ownBlock ∧ k_ ≠ gb319)) (Kd.R_types (Kd.R_apart' (HO325.out) (Kd.R_typed HO322.out) (by decide)) BK319.out (by decide)) (fun k_ hk => ⟨hk.1.2, hk.2⟩))))) (Reps.none _ _))); intro v327 w13 ho14 hb hg_ hnew_; clear hg_ hnew_; (first | rw [← Ny326.out] at ho14 | (simp only [Int.reduceToNat] at ho14; rw [← Ny326.out] at ho14)); have HO328 := Aside0.mk (Kd.N_lower ho14 (below_size (by repeat (first | (with_reducible first | exact HB.out | apply bU | apply bS GE319.out) | exact HB.out)))); replace HO322 := Aside0.mk (Kd.R_below (by (with_reducible repeat (first | apply Kd.R_alloc | apply Kd.R_drewN | apply Kd.R_drew)); exact HO322.out) hb); replace BK319 := bb_ BK319 hb; replace HB := Aside0.mk (below_step (by repeat (first | (with_reducible first | exact HB.out | apply bU | apply bS GE319.out) | exact HB.out)) hb); clear HO325; clear hb ho14))
   go_loopg [4, 5] kj1 (fun kq v4 v5 w' => ∃ (x4_2 : List (S65)) (x5_2 : Int), v5 = .int .i64 x5_2 ∧ Aside0 (waypointref32_Encode.l0 kq x4_2 x5_2 a0_0 a0_1 a0_2 a0_3 l0_4 l0_5 = some r) ∧ Aside0 (kq ≤ kj1) ∧ Aside0 (Kd.N k65 65 w' w.heap.size (fun k_ => k_ ≠ gb319) v4 x4_2) ∧ Aside0 (w'.heap[gb319]? = some (.cells #[.int .i64 a0_0, .int .i64 a0_1, .int .i64 a0_2, .bool a0_3, (.slice A0_4 l0_4.length c0_4), (.slice A0_5 l0_5.length c0_5)] 25 (0, 0))) ∧ Aside0 (Below w.heap.size w w'))
   case atStart => exact ⟨(y326), (0), (by first | rfl | (simp; done) | (simp [*]; done)), H', ⟨Nat.le_refl _⟩, ⟨by (with_reducible repeat (first | apply Kd.N_alloc | apply Kd.N_drewN | apply Kd.N_drew)); exact Kd.N_mono HO328.out (fun _ hk => hk.2)⟩, ⟨kb_ BK319⟩, ⟨by repeat (first | (with_reducible first | exact HB.out | apply bU | apply bS GE319.out) | exact HB.out)⟩⟩
   case round =>
    clear H'
    (try clear c2); (try clear hcz4_0); (try clear hcz4_1); (try clear hcz4_2); (try clear hcz4_3); (try clear hcz4_4); (try clear hcz4_5); (try clear hcz7_0); (try clear hcz7_1); (try clear hcz7_2); (try clear hcz7_3); (try clear hcz7_4); (try clear hcz7_5); (try clear hfz4_0); (try clear hfz4_1); (try clear hfz4_2); (try clear hfz4_3); (try clear hfz4_4); (try clear hfz4_5); (try clear hfz7_0); (try clear hfz7_1); (try clear hfz7_2); (try clear hfz7_3); (try clear hfz7_4); (try clear hfz7_5)
    obtain ⟨x4_2, x5_2, rfl, HA, HK2, HO_4, BK319, HB⟩ := hrel
    cases gk with
    | zero => exact absurd HA.out (by simp [waypointref32_Encode.l0])
    | succ k2 =>
     have H := HA.out
     clear HA
     simp only [waypointref32_Encode.l0] at H
     by_cases c15 : x5_2 < (l0_4.length : Int)
     ·rw [if_pos c15] at H
      have c15b0 : decide (x5_2 < (l0_4.length : Int)) = true := decide_eq_true c15
      clear c15
      by_cases c16 : 0 ≤ x5_2
      ·rw [if_pos c16] at H
       have c16b0 : decide (0 ≤ x5_2) = true := decide_eq_true c16
       clear c16
       obtain ⟨y332, hy332⟩ : ∃ y_ : List (S64), y_ = (([(⟨(rd_T43 l0_4 x5_2).f0, 2⟩ : S64), (⟨(rd_T43 l0_4 x5_2).f1, 2⟩ : S64), (⟨(rd_T43 l0_4 x5_2).f2, 2⟩ : S64)] : List (S64))) := ⟨_, rfl⟩
       replace H : ((waypointref32_fields.f k2 y332).bind fun t335 => (if x4_2.length < 4398046511104 then (waypointref32_Encode.l0 k2 (x4_2 ++ [(⟨2, t335⟩ : S65)]) (wrap64 (x5_2 + 1)) a0_0 a0_1 a0_2 a0_3 l0_4 l0_5) else (none))) = some r := by first | (rw [hy332]; with_reducible exact H) | (have H2_ := (Option.bind_some _ _).symm.trans H; rw [hy332]; with_reducible exact H2_) | (have H2_ := (Option.bind_some _ _).symm.trans H; with_reducible exact H2_) | with_reducible exact H | (rw [hy332]; exact H) | exact H
       have Ny332 := Aside0.mk hy332
       clear hy332
       replace H := Option.bind_eq_some_iff.mp H
       obtain ⟨t335, A170, H⟩ := H
       replace H : (if x4_2.length < 4398046511104 then (waypointref32_Encode.l0 k2 (x4_2 ++ [(⟨2, t335⟩ : S65)]) (wrap64 (x5_2 + 1)) a0_0 a0_1 a0_2 a0_3 l0_4 l0_5) else (none)) = some r := H
       have A17 := Aside0.mk A170
       clear A170
       by_cases c18 : x4_2.length < 4398046511104
       ·rw [if_pos c18] at H
        have LMc18 := Aside0.mk c18
        clear c18
        obtain ⟨y338, hy338⟩ : ∃ y_ : List (S65), y_ = (x4_2 ++ [(⟨2, t335⟩ : S65)]) := ⟨_, rfl⟩
        replace H : (waypointref32_Encode.l0 k2 y338 (wrap64 (x5_2 + 1)) a0_0 a0_1 a0_2 a0_3 l0_4 l0_5) = some r := by first | (rw [hy338]; with_reducible exact H) | (have H2_ := (Option.bind_some _ _).symm.trans H; rw [hy338]; with_reducible exact H2_) | (have H2_ := (Option.bind_some _ _).symm.trans H; with_reducible exact H2_) | with_reducible exact H | (rw [hy338]; exact H) | exact H
        have Ny338 := Aside0.mk hy338
        clear hy338
        have H' := Aside0.mk H
        clear H
        obtain ⟨hcz19_0, hcz19_1, hcz19_2, hcz19_3, hcz19_4, hcz19_5, hfz19_0, hfz19_1, hfz19_2, hfz19_3, hfz19_4, hfz19_5⟩ := c6_ BK319
        try go_wp2
        replace HO_4 := Aside0.mk (Kd.N_drew HO_4.out)
        replace BK319 := Aside0.mk (blk_drew BK319.out)
        replace HB := Aside0.mk (below_drew1 HB.out)
        have p329 : 0 ≤ (x5_2 : Int) := of_decide_eq_true (by first | (with_reducible assumption) | assumption)
        have q329 : x5_2 < (l0_4.length : Int) := of_decide_eq_true (by first | (with_reducible assumption) | assumption)
        obtain ⟨ad329, e329, hx329_0, hx329_1, hx329_2⟩ := at_T43 HR0_4.out x5_2 p329 q329
        have hw329_2 := hx329_2
        have hw329_1 := hx329_1
        have hw329_0 := hx329_0
        cases e329
        replace hx329_0 := (HB.out.cell (World.block_lt_of_cell? w _ hx329_0)).trans hx329_0
        replace hx329_1 := (HB.out.cell (World.block_lt_of_cell? w _ hx329_1)).trans hx329_1
        replace hx329_2 := (HB.out.cell (World.block_lt_of_cell? w _ hx329_2)).trans hx329_2
        replace p329 := eq_true p329
        replace q329 := eq_true q329
        have p330 : 0 ≤ (x5_2 : Int) := of_decide_eq_true (by first | (with_reducible assumption) | assumption)
        have q330 : x5_2 < (l0_4.length : Int) := of_decide_eq_true (by first | (with_reducible assumption) | assumption)
        obtain ⟨ad330, e330, hx330_0, hx330_1, hx330_2⟩ := at_T43 HR0_4.out x5_2 p330 q330
        have hw330_2 := hx330_2
        have hw330_1 := hx330_1
        have hw330_0 := hx330_0
        obtain rfl : ad329 = ad330 := (by injection e330)
        replace hx330_0 := (HB.out.cell (World.block_lt_of_cell? w _ hx330_0)).trans hx330_0
        replace hx330_1 := (HB.out.cell (World.block_lt_of_cell? w _ hx330_1)).trans hx330_1
        replace hx330_2 := (HB.out.cell (World.block_lt_of_cell? w _ hx330_2)).trans hx330_2
        replace p330 := eq_true p330
        replace q330 := eq_true q330
        have p331 : 0 ≤ (x5_2 : Int) := of_decide_eq_true (by first | (with_reducible assumption) | assumption)
        have q331 : x5_2 < (l0_4.length : Int) := of_decide_eq_true (by first | (with_reducible assumption) | assumption)
        obtain ⟨ad331, e331, hx331_0, hx331_1, hx331_2⟩ := at_T43 HR0_4.out x5_2 p331 q331
        have hw331_2 := hx331_2
        have hw331_1 := hx331_1
        have hw331_0 := hx331_0
        obtain rfl : ad329 = ad331 := (by injection e331)
        replace hx331_0 := (HB.out.cell (World.block_lt_of_cell? w _ hx331_0)).trans hx331_0
        replace hx331_1 := (HB.out.cell (World.block_lt_of_cell? w _ hx331_1)).trans hx331_1
        replace hx331_2 := (HB.out.cell (World.block_lt_of_cell? w _ hx331_2)).trans hx331_2
        replace p331 := eq_true p331
        replace q331 := eq_true q331
        refine start_ (n := 28) (S := fun w' => w'.cell? ⟨gb319, 0, none⟩ = some (.int .i64 a0_0) ∧ w'.cell? ⟨gb319, 1, none⟩ = some (.int .i64 a0_1) ∧ w'.cell? ⟨gb319, 2, none⟩ = some (.int .i64 a0_2) ∧ w'.cell? ⟨gb319, 3, none⟩ = some (.bool a0_3) ∧ w'.cell? ⟨gb319, 4, none⟩ = some (.slice (some ad329) l0_4.length c0_4) ∧ w'.cell? ⟨gb319, 5, none⟩ = some (.slice A0_5 l0_5.length c0_5) ∧ w'.cell? (ad329.add ((x5_2).toNat * 3)) = some (.int .i64 ((rd_T43 l0_4 x5_2).f0)) ∧ w'.cell? ⟨(ad329.add ((x5_2).toNat * 3)).block, (ad329.add ((x5_2).toNat * 3)).off + 1, none⟩ = some (.int .i64 ((rd_T43 l0_4 x5_2).f1)) ∧ w'.cell? ⟨(ad329.add ((x5_2).toNat * 3)).block, (ad329.add ((x5_2).toNat * 3)).off + 2, none⟩ = some (.int .i64 ((rd_T43 l0_4 x5_2).f2)) ∧ w'.cell? (ad329.add ((x5_2).toNat * 3)) = some (.int .i64 ((rd_T43 l0_4 x5_2).f0)) ∧ w'.cell? ⟨(ad329.add ((x5_2).toNat * 3)).block, (ad329.add ((x5_2).toNat * 3)).off + 1, none⟩ = some (.int .i64 ((rd_T43 l0_4 x5_2).f1)) ∧ w'.cell? ⟨(ad329.add ((x5_2).toNat * 3)).block, (ad329.add ((x5_2).toNat * 3)).off + 2, none⟩ = some (.int .i64 ((rd_T43 l0_4 x5_2).f2)) ∧ w'.cell? (ad329.add ((x5_2).toNat * 3)) = some (.int .i64 ((rd_T43 l0_4 x5_2).f0)) ∧ w'.cell? ⟨(ad329.add ((x5_2).toNat * 3)).block, (ad329.add ((x5_2).toNat * 3)).off + 1, none⟩ = some (.int .i64 ((rd_T43 l0_4 x5_2).f1)) ∧ w'.cell? ⟨(ad329.add ((x5_2).toNat * 3)).block, (ad329.add ((x5_2).toNat * 3)).off + 2, none⟩ = some (.int .i64 ((rd_T43 l0_4 x5_2).f2))) (ds := []) #[false, false, false, false, false, false, false, false, false, false, false, false, false, false, false, false, false, false, false, false, false, false, false, false, false, false, false, false] (by kernel_rfl) rfl rfl ⟨(blk_cell BK319.out 0).trans rfl, (blk_cell BK319.out 1).trans rfl, (blk_cell BK319.out 2).trans rfl, (blk_cell BK319.out 3).trans rfl, (blk_cell BK319.out 4).trans rfl, (blk_cell BK319.out 5).trans rfl, ((HB.out.cell (World.block_lt_of_cell? w _ hw329_0)).trans hw329_0), ((HB.out.cell (World.block_lt_of_cell? w _ hw329_1)).trans hw329_1), ((HB.out.cell (World.block_lt_of_cell? w _ hw329_2)).trans hw329_2), ((HB.out.cell (World.block_lt_of_cell? w _ hw330_0)).trans hw330_0), ((HB.out.cell (World.block_lt_of_cell? w _ hw330_1)).trans hw330_1), ((HB.out.cell (World.block_lt_of_cell? w _ hw330_2)).trans hw330_2), ((HB.out.cell (World.block_lt_of_cell? w _ hw331_0)).trans hw331_0), ((HB.out.cell (World.block_lt_of_cell? w _ hw331_1)).trans hw331_1), ((HB.out.cell (World.block_lt_of_cell? w _ hw331_2)).trans hw331_2)⟩ (fun hHeld => ?_); refine with_tabW waypointref32_Encode.tab8 waypointref32_Encode.bits8 (fun HT_ HW_ => ?_)
        generalize wr.drew = w20 at HO_4 BK319 HB hx329_0 hx329_1 hx329_2 hx330_0 hx330_1 hx330_2 hx331_0 hx331_1 hx331_2 hHeld ⊢
        refine py 0 33 HT_ ?_
        refine py 1 34 HT_ ?_
        refine py 3 36 HT_ ?_
        refine py 8 41 HT_ ?_
        refine py 10 43 HT_ ?_
        refine py 15 48 HT_ ?_
        refine py 17 50 HT_ ?_
        refine ty 2 35 HT_ HW_ rfl (Or.inl ⟨by rfl, by rintro w' ⟨s0, s1, s2, s3, s4, s5, s6, s7, s8, s9, s10, s11, s12, s13, s14⟩; go_simp; with_reducible rfl⟩) hHeld ?_
        refine py 4 37 HT_ ?_
        refine py 5 38 HT_ ?_
        refine ty 6 39 HT_ HW_ rfl (Or.inl ⟨by rfl, by rintro w' ⟨s0, s1, s2, s3, s4, s5, s6, s7, s8, s9, s10, s11, s12, s13, s14⟩; go_simp; with_reducible rfl⟩) hHeld ?_
        refine py 7 40 HT_ ?_
        refine ty 9 42 HT_ HW_ rfl (Or.inl ⟨by rfl, by rintro w' ⟨s0, s1, s2, s3, s4, s5, s6, s7, s8, s9, s10, s11, s12, s13, s14⟩; go_simp; with_reducible rfl⟩) hHeld ?_
        refine py 11 44 HT_ ?_
        refine py 12 45 HT_ ?_
        refine ty 13 46 HT_ HW_ rfl (Or.inl ⟨by rfl, by rintro w' ⟨s0, s1, s2, s3, s4, s5, s6, s7, s8, s9, s10, s11, s12, s13, s14⟩; go_simp; with_reducible rfl⟩) hHeld ?_
        refine py 14 47 HT_ ?_
        refine ty 16 49 HT_ HW_ rfl (Or.inl ⟨by rfl, by rintro w' ⟨s0, s1, s2, s3, s4, s5, s6, s7, s8, s9, s10, s11, s12, s13, s14⟩; go_simp; with_reducible rfl⟩) hHeld ?_
        refine py 18 51 HT_ ?_
        refine py 19 52 HT_ ?_
        refine ty 20 53 HT_ HW_ rfl (Or.inl ⟨by rfl, by rintro w' ⟨s0, s1, s2, s3, s4, s5, s6, s7, s8, s9, s10, s11, s12, s13, s14⟩; go_simp; with_reducible rfl⟩) hHeld ?_
        refine py 21 54 HT_ ?_
        refine one_ (i := 22) (N := some 55) #[true, true, true, true, true, true, true, true, true, true, true, true, true, true, true, true, true, true, true, true, true, true, true, false, false, false, false, false] rfl rfl (one_of HT_.out (by kernel_rfl)) (by decide) (fun K hK => ?_)
        refine Kd.R_lit_step k64 _ 64 ?hg (N := 55) ?hd (xs := ([(⟨(rd_T43 l0_4 x5_2).f0, 2⟩ : S64), (⟨(rd_T43 l0_4 x5_2).f1, 2⟩ : S64), (⟨(rd_T43 l0_4 x5_2).f2, 2⟩ : S64)] : List (S64))) (inner := [.int .i64 ((rd_T43 l0_4 x5_2).f0), .int .i64 2, .int .i64 ((rd_T43 l0_4 x5_2).f1), .int .i64 2, .int .i64 ((rd_T43 l0_4 x5_2).f2), .int .i64 2]) (ok := fun _ => True) (okp := fun _ => True) ?hr ?hp (fun _ hk => hk) trivial (Below.refl _ _) (Nat.le_refl _) (by simp) ?_; (case hd => rfl); (case hg => rfl); (case hr => first | (go_simp; done) | (go_simp; rfl)); (case hp => exact (Reps.c2 (show Kd.M k64 _ _ _ (⟨(rd_T43 l0_4 x5_2).f0, 2⟩ : S64) [.int .i64 ((rd_T43 l0_4 x5_2).f0), .int .i64 2] from (k64_mkM _ _ _ (⟨(rd_T43 l0_4 x5_2).f0, 2⟩ : S64) )) (Reps.c2 (show Kd.M k64 _ _ _ (⟨(rd_T43 l0_4 x5_2).f1, 2⟩ : S64) [.int .i64 ((rd_T43 l0_4 x5_2).f1), .int .i64 2] from (k64_mkM _ _ _ (⟨(rd_T43 l0_4 x5_2).f1, 2⟩ : S64) )) (Reps.c2 (show Kd.M k64 _ _ _ (⟨(rd_T43 l0_4 x5_2).f2, 2⟩ : S64) [.int .i64 ((rd_T43 l0_4 x5_2).f2), .int .i64 2] from (k64_mkM _ _ _ (⟨(rd_T43 l0_4 x5_2).f2, 2⟩ : S64) )) (Reps.none _ _)))))
        intro v333 w21 ho22 hb hg_ hnew_
        clear hg_ hnew_
        (first | rw [← Ny332.out] at ho22 | (simp only [Int.reduceToNat] at ho22; rw [← Ny332.out] at ho22))
        have HO334 := Aside0.mk (Kd.R_lower ho22 (below_size (by repeat (first | (with_reducible first | exact HB.out | apply bU | apply bS GE319.out) | exact HB.out))))
        replace HO_4 := Aside0.mk (Kd.N_elder' (by (with_reducible repeat (first | apply Kd.N_alloc | apply Kd.N_drewN | apply Kd.N_drew)); exact HO_4.out) (Kd.R_base ho22) hb)
        replace BK319 := bb_ BK319 hb
        replace HB := Aside0.mk (below_step (by repeat (first | (with_reducible first | exact HB.out | apply bU | apply bS GE319.out) | exact HB.out)) hb)
        clear hb ho22
        obtain ⟨Ao23, co23, eo23⟩ := Kd.R_slice HO334.out
        (first | subst eo23 | (injection eo23 with f1_ f2_ f3_; have f4_ := f1_.symm; have f5_ := f3_.symm; clear f1_ f2_ f3_; subst f4_; subst f5_))
        refine hK.out _ _ ⟨(blk_cell BK319.out 0).trans rfl, (blk_cell BK319.out 1).trans rfl, (blk_cell BK319.out 2).trans rfl, (blk_cell BK319.out 3).trans rfl, (blk_cell BK319.out 4).trans rfl, (blk_cell BK319.out 5).trans rfl, ((HB.out.cell (World.block_lt_of_cell? w _ hw329_0)).trans hw329_0), ((HB.out.cell (World.block_lt_of_cell? w _ hw329_1)).trans hw329_1), ((HB.out.cell (World.block_lt_of_cell? w _ hw329_2)).trans hw329_2), ((HB.out.cell (World.block_lt_of_cell? w _ hw330_0)).trans hw330_0), ((HB.out.cell (World.block_lt_of_cell? w _ hw330_1)).trans hw330_1), ((HB.out.cell (World.block_lt_of_cell? w _ hw330_2)).trans hw330_2), ((HB.out.cell (World.block_lt_of_cell? w _ hw331_0)).trans hw331_0), ((HB.out.cell (World.block_lt_of_cell? w _ hw331_1)).trans hw331_1), ((HB.out.cell (World.block_lt_of_cell? w _ hw331_2)).trans hw331_2)⟩ (fun hHeld => ?_)
        clear hK K
        refine norm_ (a' := ?_) ?_ ?_
        rotate_left
        ·show Act.put _ (some 55) _ = _
         simp only [Act.put, List.setIfInBounds_toArray, List.set_cons_zero, List.set_cons_succ, i64_w, i32_w]
         rfl
        refine one_ (i := 23) (N := some 56) #[true, true, true, true, true, true, true, true, true, true, true, true, true, true, true, true, true, true, true, true, true, true, true, true, false, false, false, false] rfl rfl (one_of HT_.out (by kernel_rfl)) (by decide) (fun K hK => ?_)
        refine goes_ Try.func34 (by kernel_rfl) rfl #[.slice Ao23 y332.length co23] (by rfl) rfl rfl (by (try simp only [List.map_toArray, List.map_cons, List.map_nil]); first | done | rfl | (simp only [List.length_drop, List.length_take]; rfl)) ?_
        with_reducible refine (waypointref32_fields.calls k2 _ _ y332 t335 _ ?side1 ?side2 A17.out).mono ?_
        (case side1 => repeat (first | exact (Kd.R_reads' HO334.out).2.2 | (with_reducible refine Kd.C_alloc ?_ _) | (with_reducible refine Kd.C_drewN ?_ _) | (with_reducible refine Kd.C_drew ?_)))
        (case side2 => exact (Kd.R_reads' HO334.out).2.1)
        rintro e w24 ⟨v336, rfl, ho0, hb⟩
        refine ⟨_, rfl, ?_⟩
        have HO337 := Aside0.mk (Kd.R_lower ho0 (below_size (by repeat (first | (with_reducible first | exact HB.out | apply bU | apply bS GE319.out) | exact HB.out))))
        replace HO_4 := Aside0.mk (Kd.N_elder' (by (with_reducible repeat (first | apply Kd.N_alloc | apply Kd.N_drewN | apply Kd.N_drew)); exact HO_4.out) (Kd.R_base ho0) hb)
        replace HO334 := Aside0.mk (Kd.R_below (by (with_reducible repeat (first | apply Kd.R_alloc | apply Kd.R_drewN | apply Kd.R_drew)); exact HO334.out) hb)
        replace BK319 := bb_ BK319 hb
        replace HB := Aside0.mk (below_step (by repeat (first | (with_reducible first | exact HB.out | apply bU | apply bS GE319.out) | exact HB.out)) hb)
        (try clear hb)
        (try clear hb2)
        (try clear hk)
        (try clear hi)
        (try clear ho0)
        obtain ⟨Ao25, co25, eo25⟩ := Kd.R_slice HO337.out
        (first | subst eo25 | (injection eo25 with f1_ f2_ f3_; have f4_ := f1_.symm; have f5_ := f3_.symm; clear f1_ f2_ f3_; subst f4_; subst f5_))
        refine hK.out _ _ ⟨(blk_cell BK319.out 0).trans rfl, (blk_cell BK319.out 1).trans rfl, (blk_cell BK319.out 2).trans rfl, (blk_cell BK319.out 3).trans rfl, (blk_cell BK319.out 4).trans rfl, (blk_cell BK319.out 5).trans rfl, ((HB.out.cell (World.block_lt_of_cell? w _ hw329_0)).trans hw329_0), ((HB.out.cell (World.block_lt_of_cell? w _ hw329_1)).trans hw329_1), ((HB.out.cell (World.block_lt_of_cell? w _ hw329_2)).trans hw329_2), ((HB.out.cell (World.block_lt_of_cell? w _ hw330_0)).trans hw330_0), ((HB.out.cell (World.block_lt_of_cell? w _ hw330_1)).trans hw330_1), ((HB.out.cell (World.block_lt_of_cell? w _ hw330_2)).trans hw330_2), ((HB.out.cell (World.block_lt_of_cell? w _ hw331_0)).trans hw331_0), ((HB.out.cell (World.block_lt_of_cell? w _ hw331_1)).trans hw331_1), ((HB.out.cell (World.block_lt_of_cell? w _ hw331_2)).trans hw331_2)⟩ (fun hHeld => ?_)
        clear hK K
        refine norm_ (a' := ?_) ?_ ?_
        rotate_left
        ·show Act.put _ (some 56) _ = _
         simp only [Act.put, List.setIfInBounds_toArray, List.set_cons_zero, List.set_cons_succ, i64_w, i32_w]
         rfl
        refine py 24 57 HT_ ?_
        refine one_ (i := 25) (N := some 58) #[true, true, true, true, true, true, true, true, true, true, true, true, true, true, true, true, true, true, true, true, true, true, true, true, true, true, false, false] rfl rfl (one_of HT_.out (by kernel_rfl)) (by decide) (fun K hK => ?_)
        refine value_ (w1 := ?_) (v := ?_) (by rfl) rfl ?_ ?_
        rotate_left 2
        ·go_simp
         constructor
         ·rfl
         ·rfl
        refine hK.out _ _ ⟨(blk_cell (blk_alloc BK319.out _) 0).trans rfl, (blk_cell (blk_alloc BK319.out _) 1).trans rfl, (blk_cell (blk_alloc BK319.out _) 2).trans rfl, (blk_cell (blk_alloc BK319.out _) 3).trans rfl, (blk_cell (blk_alloc BK319.out _) 4).trans rfl, (blk_cell (blk_alloc BK319.out _) 5).trans rfl, (World.cell?_alloc_lt _ _ _ (World.block_lt_of_cell? _ _ (((HB.out.cell (World.block_lt_of_cell? w _ hw329_0)).trans hw329_0)))).trans (((HB.out.cell (World.block_lt_of_cell? w _ hw329_0)).trans hw329_0)), (World.cell?_alloc_lt _ _ _ (World.block_lt_of_cell? _ _ (((HB.out.cell (World.block_lt_of_cell? w _ hw329_1)).trans hw329_1)))).trans (((HB.out.cell (World.block_lt_of_cell? w _ hw329_1)).trans hw329_1)), (World.cell?_alloc_lt _ _ _ (World.block_lt_of_cell? _ _ (((HB.out.cell (World.block_lt_of_cell? w _ hw329_2)).trans hw329_2)))).trans (((HB.out.cell (World.block_lt_of_cell? w _ hw329_2)).trans hw329_2)), (World.cell?_alloc_lt _ _ _ (World.block_lt_of_cell? _ _ (((HB.out.cell (World.block_lt_of_cell? w _ hw330_0)).trans hw330_0)))).trans (((HB.out.cell (World.block_lt_of_cell? w _ hw330_0)).trans hw330_0)), (World.cell?_alloc_lt _ _ _ (World.block_lt_of_cell? _ _ (((HB.out.cell (World.block_lt_of_cell? w _ hw330_1)).trans hw330_1)))).trans (((HB.out.cell (World.block_lt_of_cell? w _ hw330_1)).trans hw330_1)), (World.cell?_alloc_lt _ _ _ (World.block_lt_of_cell? _ _ (((HB.out.cell (World.block_lt_of_cell? w _ hw330_2)).trans hw330_2)))).trans (((HB.out.cell (World.block_lt_of_cell? w _ hw330_2)).trans hw330_2)), (World.cell?_alloc_lt _ _ _ (World.block_lt_of_cell? _ _ (((HB.out.cell (World.block_lt_of_cell? w _ hw331_0)).trans hw331_0)))).trans (((HB.out.cell (World.block_lt_of_cell? w _ hw331_0)).trans hw331_0)), (World.cell?_alloc_lt _ _ _ (World.block_lt_of_cell? _ _ (((HB.out.cell (World.block_lt_of_cell? w _ hw331_1)).trans hw331_1)))).trans (((HB.out.cell (World.block_lt_of_cell? w _ hw331_1)).trans hw331_1)), (World.cell?_alloc_lt _ _ _ (World.block_lt_of_cell? _ _ (((HB.out.cell (World.block_lt_of_cell? w _ hw331_2)).trans hw331_2)))).trans (((HB.out.cell (World.block_lt_of_cell? w _ hw331_2)).trans hw331_2))⟩ (fun hHeld => ?_)
        clear hK K
        refine norm_ (a' := ?_) ?_ ?_
        rotate_left
        ·show Act.put _ (some 58) _ = _
         simp only [Act.put, List.setIfInBounds_toArray, List.set_cons_zero, List.set_cons_succ, i64_w, i32_w]
         rfl
        refine one_ (i := 26) (N := some 59) #[true, true, true, true, true, true, true, true, true, true, true, true, true, true, true, true, true, true, true, true, true, true, true, true, true, true, true, false] rfl rfl (one_of HT_.out (by kernel_rfl)) (by decide) (fun K hK => ?_)
        refine Kd.N_append_step k65 (w0 := w) w.heap.size (by rfl) (.tmp 33) (.tmp 58) 66 65 (.agg #[(.int .i64 0), (.slice none 0 0)]) 32 rfl Try.underlying66 info65 rfl (by decide) (by omega) u4 x4_2 (⟨2, t335⟩ : S65) [.int .i64 2, .slice Ao25 t335.length co25] (fun k_ => some k_ ≠ (.slice Ao23 y332.length co23 : Value).ownBlock ∧ k_ ≠ gb319) (fun k_ => ((fun k_ => some k_ ≠ (.slice Ao23 y332.length co23 : Value).ownBlock ∧ k_ ≠ gb319)) k_ ∧ some k_ ≠ (u4 : Value).ownBlock) rfl rfl ?aP (fun _ hk => hk) ?aF ?aO ?aB ?aS ?aL ?_
        (case aP => exact (k65_mkF _ _ (⟨2, t335⟩ : S65) (Kd.R_reads' (Kd.R_mono (ok' := (fun k_ => ((fun k_ => some k_ ≠ (.slice Ao23 y332.length co23 : Value).ownBlock ∧ k_ ≠ gb319)) k_ ∧ some k_ ≠ (u4 : Value).ownBlock)) (Kd.R_types (Kd.R_apart' (Kd.R_apart' (HO337.out) (Kd.R_typed HO334.out) (by decide)) (Kd.N_typed HO_4.out) (by decide)) BK319.out (by decide)) (fun k_ hk => ⟨⟨hk.1.1.2, hk.2⟩, hk.1.2⟩))).2.1 (Kd.R_F (Kd.R_mono (ok' := (fun k_ => ((fun k_ => some k_ ≠ (.slice Ao23 y332.length co23 : Value).ownBlock ∧ k_ ≠ gb319)) k_ ∧ some k_ ≠ (u4 : Value).ownBlock)) (Kd.R_types (Kd.R_apart' (Kd.R_apart' (HO337.out) (Kd.R_typed HO334.out) (by decide)) (Kd.N_typed HO_4.out) (by decide)) BK319.out (by decide)) (fun k_ hk => ⟨⟨hk.1.1.2, hk.2⟩, hk.1.2⟩)))))
        (case aB => exact (by repeat (first | (with_reducible first | exact HB.out | apply bU | apply bS GE319.out) | exact HB.out)))
        (case aF => exact (fun k_ hk => ⟨Kd.fresh' (Kd.R_lt (by (with_reducible repeat (first | apply Kd.R_alloc | apply Kd.R_drewN | apply Kd.R_drew)); exact HO334.out)) k_ hk, Kd.freshB (g := gb319) (o := .cells #[.int .i64 a0_0, .int .i64 a0_1, .int .i64 a0_2, .bool a0_3, .slice (some ad329) l0_4.length c0_4, .slice A0_5 l0_5.length c0_5] 25 (0, 0)) (kb_ BK319) k_ hk⟩))
        (case aO => exact (by (with_reducible repeat (first | apply Kd.N_alloc | apply Kd.N_drewN | apply Kd.N_drew)); exact Kd.N_mono HO_4.out (fun _ hk => ⟨hk.1.2, hk.1.1⟩)))
        (case aS => exact (below_size (by repeat (first | (with_reducible first | exact HB.out | apply bU | apply bS GE319.out) | exact HB.out))))
        (case aL => have := LMc18.out; omega)
        intro v339 w26 ho hb hg hat
        rw [← Ny338.out] at ho
        have HO340 := Aside0.mk (ho)
        replace BK319 := Aside0.mk (blk_grown (g := gb319) (o := .cells #[.int .i64 a0_0, .int .i64 a0_1, .int .i64 a0_2, .bool a0_3, .slice (some ad329) l0_4.length c0_4, .slice A0_5 l0_5.length c0_5] 25 (0, 0)) (kb_ BK319) hg (Kd.N_ne HO_4.out BK319.out (by decide)))
        replace HO334 := Aside0.mk (Kd.R_over' (by (with_reducible repeat (first | apply Kd.R_alloc | apply Kd.R_drewN | apply Kd.R_drew)); exact HO334.out) (Kd.N_typed (by (with_reducible repeat (first | apply Kd.N_alloc | apply Kd.N_drewN | apply Kd.N_drew)); exact HO_4.out)) (by decide) hg)
        replace HB := Aside0.mk (hb)
        clear HO_4 HO337
        clear ho hb hg hat
        refine hK.out _ _ ⟨(blk_cell BK319.out 0).trans rfl, (blk_cell BK319.out 1).trans rfl, (blk_cell BK319.out 2).trans rfl, (blk_cell BK319.out 3).trans rfl, (blk_cell BK319.out 4).trans rfl, (blk_cell BK319.out 5).trans rfl, ((HB.out.cell (World.block_lt_of_cell? w _ hw329_0)).trans hw329_0), ((HB.out.cell (World.block_lt_of_cell? w _ hw329_1)).trans hw329_1), ((HB.out.cell (World.block_lt_of_cell? w _ hw329_2)).trans hw329_2), ((HB.out.cell (World.block_lt_of_cell? w _ hw330_0)).trans hw330_0), ((HB.out.cell (World.block_lt_of_cell? w _ hw330_1)).trans hw330_1), ((HB.out.cell (World.block_lt_of_cell? w _ hw330_2)).trans hw330_2), ((HB.out.cell (World.block_lt_of_cell? w _ hw331_0)).trans hw331_0), ((HB.out.cell (World.block_lt_of_cell? w _ hw331_1)).trans hw331_1), ((HB.out.cell (World.block_lt_of_cell? w _ hw331_2)).trans hw331_2)⟩ (fun hHeld => ?_)
        clear hK K
        refine norm_ (a' := ?_) ?_ ?_
        rotate_left
        ·show Act.put _ (some 59) _ = _
         simp only [Act.put, List.setIfInBounds_toArray, List.set_cons_zero, List.set_cons_succ, i64_w, i32_w]
         rfl
        refine py 27 4 HT_ ?_
        refine done_ (done_of HT_.out (by kernel_rfl)) ?_
        try go_wp2
        go_roundg k2
        case measure => have := HJ1.out; have := HK2.out; omega
        case rel => exact ⟨(y338), (wrap64 (x5_2 + 1)), (by first | rfl | (simp; done) | (simp [*]; done)), H', ⟨by have := HJ1.out; have := HK2.out; omega⟩, ⟨by (with_reducible repeat (first | apply Kd.N_alloc | apply Kd.N_drewN | apply Kd.N_drew)); exact Kd.N_mono HO340.out (fun _ hk => hk.2)⟩, ⟨kb_ BK319⟩, ⟨by repeat (first | (with_reducible first | exact HB.out | apply bU | apply bS GE319.out) | exact HB.out)⟩⟩
       ·rw [if_neg c18] at H
        exact absurd H (by simp)
      ·rw [if_neg c16] at H
       exact absurd H (by simp)
     ·rw [if_neg c15] at H
      have c15b0 : decide (x5_2 < (l0_4.length : Int)) = false := decide_eq_false c15
      clear c15
      have H' := Aside0.mk H
      clear H
      obtain ⟨hcz27_0, hcz27_1, hcz27_2, hcz27_3, hcz27_4, hcz27_5, hfz27_0, hfz27_1, hfz27_2, hfz27_3, hfz27_4, hfz27_5⟩ := c6_ BK319
      go_wp2
      go_loopg [4, 6] k2 (fun kq v4 v6 w' => ∃ (x4_3 : List (S65)) (x6_3 : Int), v6 = .int .i64 x6_3 ∧ Aside0 (waypointref32_Encode.l1 kq x4_3 x6_3 a0_0 a0_1 a0_2 a0_3 l0_4 l0_5 = some r) ∧ Aside0 (kq ≤ k2) ∧ Aside0 (Kd.N k65 65 w' w.heap.size (fun k_ => k_ ≠ gb319) v4 x4_3) ∧ Aside0 (w'.heap[gb319]? = some (.cells #[.int .i64 a0_0, .int .i64 a0_1, .int .i64 a0_2, .bool a0_3, (.slice A0_4 l0_4.length c0_4), (.slice A0_5 l0_5.length c0_5)] 25 (0, 0))) ∧ Aside0 (Below w.heap.size w w'))
      case atStart => exact ⟨(x4_2), (0), (by first | rfl | (simp; done) | (simp [*]; done)), H', ⟨Nat.le_refl _⟩, ⟨by (with_reducible repeat (first | apply Kd.N_alloc | apply Kd.N_drewN | apply Kd.N_drew)); exact HO_4.out⟩, ⟨kb_ BK319⟩, ⟨by repeat (first | (with_reducible first | exact HB.out | apply bU | apply bS GE319.out) | exact HB.out)⟩⟩
      case round =>
       clear H'
       (try clear c2); (try clear c15); (try clear c15b0); (try clear hcz27_0); (try clear hcz27_1); (try clear hcz27_2); (try clear hcz27_3); (try clear hcz27_4); (try clear hcz27_5); (try clear hcz4_0); (try clear hcz4_1); (try clear hcz4_2); (try clear hcz4_3); (try clear hcz4_4); (try clear hcz4_5); (try clear hcz7_0); (try clear hcz7_1); (try clear hcz7_2); (try clear hcz7_3); (try clear hcz7_4); (try clear hcz7_5); (try clear hfz27_0); (try clear hfz27_1); (try clear hfz27_2); (try clear hfz27_3); (try clear hfz27_4); (try clear hfz27_5); (try clear hfz4_0); (try clear hfz4_1); (try clear hfz4_2); (try clear hfz4_3); (try clear hfz4_4); (try clear hfz4_5); (try clear hfz7_0); (try clear hfz7_1); (try clear hfz7_2); (try clear hfz7_3); (try clear hfz7_4); (try clear hfz7_5)
       obtain ⟨x4_3, x6_3, rfl, HA, HK3, HO_4, BK319, HB⟩ := hrel
       cases gk with
       | zero => exact absurd HA.out (by simp [waypointref32_Encode.l1])
       | succ k3 =>
        have H := HA.out
        clear HA
        simp only [waypointref32_Encode.l1] at H
        by_cases c28 : x6_3 < (l0_5.length : Int)
        ·rw [if_pos c28] at H
         have c28b0 : decide (x6_3 < (l0_5.length : Int)) = true := decide_eq_true c28
         clear c28
         by_cases c29 : 0 ≤ x6_3
         ·rw [if_pos c29] at H
          have c29b0 : decide (0 ≤ x6_3) = true := decide_eq_true c29
          clear c29
          obtain ⟨y343, hy343⟩ : ∃ y_ : List (S64), y_ = (([(⟨wrap64 ((rd_T56 l0_5 x6_3).f0), 4⟩ : S64), (⟨(rd_T56 l0_5 x6_3).f1, 1⟩ : S64)] : List (S64))) := ⟨_, rfl⟩
          replace H : ((waypointref32_fields.f k3 y343).bind fun t346 => (if x4_3.length < 4398046511104 then (waypointref32_Encode.l1 k3 (x4_3 ++ [(⟨3, t346⟩ : S65)]) (wrap64 (x6_3 + 1)) a0_0 a0_1 a0_2 a0_3 l0_4 l0_5) else (none))) = some r := by first | (rw [hy343]; with_reducible exact H) | (have H2_ := (Option.bind_some _ _).symm.trans H; rw [hy343]; with_reducible exact H2_) | (have H2_ := (Option.bind_some _ _).symm.trans H; with_reducible exact H2_) | with_reducible exact H | (rw [hy343]; exact H) | exact H
          have Ny343 := Aside0.mk hy343
          clear hy343
          replace H := Option.bind_eq_some_iff.mp H
          obtain ⟨t346, A300, H⟩ := H
          replace H : (if x4_3.length < 4398046511104 then (waypointref32_Encode.l1 k3 (x4_3 ++ [(⟨3, t346⟩ : S65)]) (wrap64 (x6_3 + 1)) a0_0 a0_1 a0_2 a0_3 l0_4 l0_5) else (none)) = some r := H
          have A30 := Aside0.mk A300
          clear A300
          by_cases c31 : x4_3.length < 4398046511104
          ·rw [if_pos c31] at H
           have LMc31 := Aside0.mk c31
           clear c31
           obtain ⟨y349, hy349⟩ : ∃ y_ : List (S65), y_ = (x4_3 ++ [(⟨3, t346⟩ : S65)]) := ⟨_, rfl⟩
           replace H : (waypointref32_Encode.l1 k3 y349 (wrap64 (x6_3 + 1)) a0_0 a0_1 a0_2 a0_3 l0_4 l0_5) = some r := by first | (rw [hy349]; with_reducible exact H) | (have H2_ := (Option.bind_some _ _).symm.trans H; rw [hy349]; with_reducible exact H2_) | (have H2_ := (Option.bind_some _ _).symm.trans H; with_reducible exact H2_) | with_reducible exact H | (rw [hy349]; exact H) | exact H
           have Ny349 := Aside0.mk hy349
           clear hy349
           have H' := Aside0.mk H
           clear H
           obtain ⟨hcz32_0, hcz32_1, hcz32_2, hcz32_3, hcz32_4, hcz32_5, hfz32_0, hfz32_1, hfz32_2, hfz32_3, hfz32_4, hfz32_5⟩ := c6_ BK319
           try go_wp2
           replace HO_4 := Aside0.mk (Kd.N_drew HO_4.out)
           replace BK319 := Aside0.mk (blk_drew BK319.out)
           replace HB := Aside0.mk (below_drew1 HB.out)
           have p341 : 0 ≤ (x6_3 : Int) := of_decide_eq_true (by first | (with_reducible assumption) | assumption)
           have q341 : x6_3 < (l0_5.length : Int) := of_decide_eq_true (by first | (with_reducible assumption) | assumption)
           obtain ⟨ad341, e341, hx341_0, hx341_1⟩ := at_T56 HR0_5.out x6_3 p341 q341
           have hw341_1 := hx341_1
           have hw341_0 := hx341_0
           cases e341
           replace hx341_0 := (HB.out.cell (World.block_lt_of_cell? w _ hx341_0)).trans hx341_0
           replace hx341_1 := (HB.out.cell (World.block_lt_of_cell? w _ hx341_1)).trans hx341_1
           replace p341 := eq_true p341
           replace q341 := eq_true q341
           have p342 : 0 ≤ (x6_3 : Int) := of_decide_eq_true (by first | (with_reducible assumption) | assumption)
           have q342 : x6_3 < (l0_5.length : Int) := of_decide_eq_true (by first | (with_reducible assumption) | assumption)
           obtain ⟨ad342, e342, hx342_0, hx342_1⟩ := at_T56 HR0_5.out x6_3 p342 q342
           have hw342_1 := hx342_1
           have hw342_0 := hx342_0
           obtain rfl : ad341 = ad342 := (by injection e342)
           replace hx342_0 := (HB.out.cell (World.block_lt_of_cell? w _ hx342_0)).trans hx342_0
           replace hx342_1 := (HB.out.cell (World.block_lt_of_cell? w _ hx342_1)).trans hx342_1
           replace p342 := eq_true p342
           replace q342 := eq_true q342
           refine start_ (n := 22) (S := fun w' => w'.cell? ⟨gb319, 0, none⟩ = some (.int .i64 a0_0) ∧ w'.cell? ⟨gb319, 1, none⟩ = some (.int .i64 a0_1) ∧ w'.cell? ⟨gb319, 2, none⟩ = some (.int .i64 a0_2) ∧ w'.cell? ⟨gb319, 3, none⟩ = some (.bool a0_3) ∧ w'.cell? ⟨gb319, 4, none⟩ = some (.slice A0_4 l0_4.length c0_4) ∧ w'.cell? ⟨gb319, 5, none⟩ = some (.slice (some ad341) l0_5.length c0_5) ∧ w'.cell? (ad341.add ((x6_3).toNat * 2)) = some (.int .u32 ((rd_T56 l0_5 x6_3).f0)) ∧ w'.cell? ⟨(ad341.add ((x6_3).toNat * 2)).block, (ad341.add ((x6_3).toNat * 2)).off + 1, none⟩ = some (.int .i64 ((rd_T56 l0_5 x6_3).f1)) ∧ w'.cell? (ad341.add ((x6_3).toNat * 2)) = some (.int .u32 ((rd_T56 l0_5 x6_3).f0)) ∧ w'.cell? ⟨(ad341.add ((x6_3).toNat * 2)).block, (ad341.add ((x6_3).toNat * 2)).off + 1, none⟩ = some (.int .i64 ((rd_T56 l0_5 x6_3).f1))) (ds := []) #[false, false, false, false, false, false, false, false, false, false, false, false, false, false, false, false, false, false, false, false, false, false] (by kernel_rfl) rfl rfl ⟨(blk_cell BK319.out 0).trans rfl, (blk_cell BK319.out 1).trans rfl, (blk_cell BK319.out 2).trans rfl, (blk_cell BK319.out 3).trans rfl, (blk_cell BK319.out 4).trans rfl, (blk_cell BK319.out 5).trans rfl, ((HB.out.cell (World.block_lt_of_cell? w _ hw341_0)).trans hw341_0), ((HB.out.cell (World.block_lt_of_cell? w _ hw341_1)).trans hw341_1), ((HB.out.cell (World.block_lt_of_cell? w _ hw342_0)).trans hw342_0), ((HB.out.cell (World.block_lt_of_cell? w _ hw342_1)).trans hw342_1)⟩ (fun hHeld => ?_); refine with_tabW waypointref32_Encode.tab12 waypointref32_Encode.bits12 (fun HT_ HW_ => ?_)
           generalize wr.drew = w33 at HO_4 BK319 HB hx341_0 hx341_1 hx342_0 hx342_1 hHeld ⊢
           refine py 0 67 HT_ ?_
           refine py 1 68 HT_ ?_
           refine py 3 70 HT_ ?_
           refine py 9 76 HT_ ?_
           refine py 11 78 HT_ ?_
           refine ty 2 69 HT_ HW_ rfl (Or.inl ⟨by rfl, by rintro w' ⟨s0, s1, s2, s3, s4, s5, s6, s7, s8, s9⟩; go_simp; with_reducible rfl⟩) hHeld ?_
           refine py 4 71 HT_ ?_
           refine py 5 72 HT_ ?_
           refine ty 6 73 HT_ HW_ rfl (Or.inl ⟨by rfl, by rintro w' ⟨s0, s1, s2, s3, s4, s5, s6, s7, s8, s9⟩; go_simp; with_reducible rfl⟩) hHeld ?_
           refine py 7 74 HT_ ?_
           refine py 8 75 HT_ ?_
           refine ty 10 77 HT_ HW_ rfl (Or.inl ⟨by rfl, by rintro w' ⟨s0, s1, s2, s3, s4, s5, s6, s7, s8, s9⟩; go_simp; with_reducible rfl⟩) hHeld ?_
           refine py 12 79 HT_ ?_
           refine py 13 80 HT_ ?_
           refine ty 14 81 HT_ HW_ rfl (Or.inl ⟨by rfl, by rintro w' ⟨s0, s1, s2, s3, s4, s5, s6, s7, s8, s9⟩; go_simp; with_reducible rfl⟩) hHeld ?_
           refine py 15 82 HT_ ?_
           refine one_ (i := 16) (N := some 83) #[true, true, true, true, true, true, true, true, true, true, true, true, true, true, true, true, true, false, false, false, false, false] rfl rfl (one_of HT_.out (by kernel_rfl)) (by decide) (fun K hK => ?_)
           refine Kd.R_lit_step k64 _ 64 ?hg (N := 83) ?hd (xs := ([(⟨wrap64 ((rd_T56 l0_5 x6_3).f0), 4⟩ : S64), (⟨(rd_T56 l0_5 x6_3).f1, 1⟩ : S64)] : List (S64))) (inner := [.int .i64 (wrap64 ((rd_T56 l0_5 x6_3).f0)), .int .i64 4, .int .i64 ((rd_T56 l0_5 x6_3).f1), .int .i64 1]) (ok := fun _ => True) (okp := fun _ => True) ?hr ?hp (fun _ hk => hk) trivial (Below.refl _ _) (Nat.le_refl _) (by simp) ?_; (case hd => rfl); (case hg => rfl); (case hr => first | (go_simp; done) | (go_simp; rfl)); (case hp => exact (Reps.c2 (show Kd.M k64 _ _ _ (⟨wrap64 ((rd_T56 l0_5 x6_3).f0), 4⟩ : S64) [.int .i64 (wrap64 ((rd_T56 l0_5 x6_3).f0)), .int .i64 4] from (k64_mkM _ _ _ (⟨wrap64 ((rd_T56 l0_5 x6_3).f0), 4⟩ : S64) )) (Reps.c2 (show Kd.M k64 _ _ _ (⟨(rd_T56 l0_5 x6_3).f1, 1⟩ : S64) [.int .i64 ((rd_T56 l0_5 x6_3).f1), .int .i64 1] from (k64_mkM _ _ _ (⟨(rd_T56 l0_5 x6_3).f1, 1⟩ : S64) )) (Reps.none _ _))))
           intro v344 w34 ho35 hb hg_ hnew_
           clear hg_ hnew_
           (first | rw [← Ny343.out] at ho35 | (simp only [Int.reduceToNat] at ho35; rw [← Ny343.out] at ho35))
           have HO345 := Aside0.mk (Kd.R_lower ho35 (below_size (by repeat (first | (with_reducible first | exact HB.out | apply bU | apply bS GE319.out) | exact HB.out))))
           replace HO_4 := Aside0.mk (Kd.N_elder' (by (with_reducible repeat (first | apply Kd.N_alloc | apply Kd.N_drewN | apply Kd.N_drew)); exact HO_4.out) (Kd.R_base ho35) hb)
           replace BK319 := bb_ BK319 hb
           replace HB := Aside0.mk (below_step (by repeat (first | (with_reducible first | exact HB.out | apply bU | apply bS GE319.out) | exact HB.out)) hb)
           clear hb ho35
           obtain ⟨Ao36, co36, eo36⟩ := Kd.R_slice HO345.out
           (first | subst eo36 | (injection eo36 with f1_ f2_ f3_; have f4_ := f1_.symm; have f5_ := f3_.symm; clear f1_ f2_ f3_; subst f4_; subst f5_))
           refine hK.out _ _ ⟨(blk_cell BK319.out 0).trans rfl, (blk_cell BK319.out 1).trans rfl, (blk_cell BK319.out 2).trans rfl, (blk_cell BK319.out 3).trans rfl, (blk_cell BK319.out 4).trans rfl, (blk_cell BK319.out 5).trans rfl, ((HB.out.cell (World.block_lt_of_cell? w _ hw341_0)).trans hw341_0), ((HB.out.cell (World.block_lt_of_cell? w _ hw341_1)).trans hw341_1), ((HB.out.cell (World.block_lt_of_cell? w _ hw342_0)).trans hw342_0), ((HB.out.cell (World.block_lt_of_cell? w _ hw342_1)).trans hw342_1)⟩ (fun hHeld => ?_)
           clear hK K
           refine norm_ (a' := ?_) ?_ ?_
           rotate_left
           ·show Act.put _ (some 83) _ = _
            simp only [Act.put, List.setIfInBounds_toArray, List.set_cons_zero, List.set_cons_succ, i64_w, i32_w]
            rfl
           refine one_ (i := 17) (N := some 84) #[true, true, true, true, true, true, true, true, true, true, true, true, true, true, true, true, true, true, false, false, false, false] rfl rfl (one_of HT_.out (by kernel_rfl)) (by decide) (fun K hK => ?_)
           refine goes_ Try.func34 (by kernel_rfl) rfl #[.slice Ao36 y343.length co36] (by rfl) rfl rfl (by (try simp only [List.map_toArray, List.map_cons, List.map_nil]); first | done | rfl | (simp only [List.length_drop, List.length_take]; rfl)) ?_
           with_reducible refine (waypointref32_fields.calls k3 _ _ y343 t346 _ ?side1 ?side2 A30.out).mono ?_
           (case side1 => repeat (first | exact (Kd.R_reads' HO345.out).2.2 | (with_reducible refine Kd.C_alloc ?_ _) | (with_reducible refine Kd.C_drewN ?_ _) | (with_reducible refine Kd.C_drew ?_)))
           (case side2 => exact (Kd.R_reads' HO345.out).2.1)
           rintro e w37 ⟨v347, rfl, ho0, hb⟩
           refine ⟨_, rfl, ?_⟩
           have HO348 := Aside0.mk (Kd.R_lower ho0 (below_size (by repeat (first | (with_reducible first | exact HB.out | apply bU | apply bS GE319.out) | exact HB.out))))
           replace HO_4 := Aside0.mk (Kd.N_elder' (by (with_reducible repeat (first | apply Kd.N_alloc | apply Kd.N_drewN | apply Kd.N_drew)); exact HO_4.out) (Kd.R_base ho0) hb)
           replace HO345 := Aside0.mk (Kd.R_below (by (with_reducible repeat (first | apply Kd.R_alloc | apply Kd.R_drewN | apply Kd.R_drew)); exact HO345.out) hb)
           replace BK319 := bb_ BK319 hb
           replace HB := Aside0.mk (below_step (by repeat (first | (with_reducible first | exact HB.out | apply bU | apply bS GE319.out) | exact HB.out)) hb)
           (try clear hb)
           (try clear hb2)
           (try clear hk)
           (try clear hi)
           (try clear ho0)
           obtain ⟨Ao38, co38, eo38⟩ := Kd.R_slice HO348.out
           (first | subst eo38 | (injection eo38 with f1_ f2_ f3_; have f4_ := f1_.symm; have f5_ := f3_.symm; clear f1_ f2_ f3_; subst f4_; subst f5_))
           refine hK.out _ _ ⟨(blk_cell BK319.out 0).trans rfl, (blk_cell BK319.out 1).trans rfl, (blk_cell BK319.out 2).trans rfl, (blk_cell BK319.out 3).trans rfl, (blk_cell BK319.out 4).trans rfl, (blk_cell BK319.out 5).trans rfl, ((HB.out.cell (World.block_lt_of_cell? w _ hw341_0)).trans hw341_0), ((HB.out.cell (World.block_lt_of_cell? w _ hw341_1)).trans hw341_1), ((HB.out.cell (World.block_lt_of_cell? w _ hw342_0)).trans hw342_0), ((HB.out.cell (World.block_lt_of_cell? w _ hw342_1)).trans hw342_1)⟩ (fun hHeld => ?_)
           clear hK K
           refine norm_ (a' := ?_) ?_ ?_
           rotate_left
           ·show Act.put _ (some 84) _ = _
            simp only [Act.put, List.setIfInBounds_toArray, List.set_cons_zero, List.set_cons_succ, i64_w, i32_w]
            rfl
           refine py 18 85 HT_ ?_
           refine one_ (i := 19) (N := some 86) #[true, true, true, true, true, true, true, true, true, true, true, true, true, true, true, true, true, true, true, true, false, false] rfl rfl (one_of HT_.out (by kernel_rfl)) (by decide) (fun K hK => ?_)
           refine value_ (w1 := ?_) (v := ?_) (by rfl) rfl ?_ ?_
           rotate_left 2
           ·go_simp
            constructor
            ·rfl
            ·rfl
           refine hK.out _ _ ⟨(blk_cell (blk_alloc BK319.out _) 0).trans rfl, (blk_cell (blk_alloc BK319.out _) 1).trans rfl, (blk_cell (blk_alloc BK319.out _) 2).trans rfl, (blk_cell (blk_alloc BK319.out _) 3).trans rfl, (blk_cell (blk_alloc BK319.out _) 4).trans rfl, (blk_cell (blk_alloc BK319.out _) 5).trans rfl, (World.cell?_alloc_lt _ _ _ (World.block_lt_of_cell? _ _ (((HB.out.cell (World.block_lt_of_cell? w _ hw341_0)).trans hw341_0)))).trans (((HB.out.cell (World.block_lt_of_cell? w _ hw341_0)).trans hw341_0)), (World.cell?_alloc_lt _ _ _ (World.block_lt_of_cell? _ _ (((HB.out.cell (World.block_lt_of_cell? w _ hw341_1)).trans hw341_1)))).trans (((HB.out.cell (World.block_lt_of_cell? w _ hw341_1)).trans hw341_1)), (World.cell?_alloc_lt _ _ _ (World.block_lt_of_cell? _ _ (((HB.out.cell (World.block_lt_of_cell? w _ hw342_0)).trans hw342_0)))).trans (((HB.out.cell (World.block_lt_of_cell? w _ hw342_0)).trans hw342_0)), (World.cell?_alloc_lt _ _ _ (World.block_lt_of_cell? _ _ (((HB.out.cell (World.block_lt_of_cell? w _ hw342_1)).trans hw342_1)))).trans (((HB.out.cell (World.block_lt_of_cell? w _ hw342_1)).trans hw342_1))⟩ (fun hHeld => ?_)
           clear hK K
           refine norm_ (a' := ?_) ?_ ?_
           rotate_left
           ·show Act.put _ (some 86) _ = _
            simp only [Act.put, List.setIfInBounds_toArray, List.set_cons_zero, List.set_cons_succ, i64_w, i32_w]
            rfl
           refine one_ (i := 20) (N := some 87) #[true, true, true, true, true, true, true, true, true, true, true, true, true, true, true, true, true, true, true, true, true, false] rfl rfl (one_of HT_.out (by kernel_rfl)) (by decide) (fun K hK => ?_)
           refine Kd.N_append_step k65 (w0 := w) w.heap.size (by rfl) (.tmp 67) (.tmp 86) 66 65 (.agg #[(.int .i64 0), (.slice none 0 0)]) 32 rfl Try.underlying66 info65 rfl (by decide) (by omega) u4 x4_3 (⟨3, t346⟩ : S65) [.int .i64 3, .slice Ao38 t346.length co38] (fun k_ => some k_ ≠ (.slice Ao36 y343.length co36 : Value).ownBlock ∧ k_ ≠ gb319) (fun k_ => ((fun k_ => some k_ ≠ (.slice Ao36 y343.length co36 : Value).ownBlock ∧ k_ ≠ gb319)) k_ ∧ some k_ ≠ (u4 : Value).ownBlock) rfl rfl ?aP (fun _ hk => hk) ?aF ?aO ?aB ?aS ?aL ?_
           (case aP => exact (k65_mkF _ _ (⟨3, t346⟩ : S65) (Kd.R_reads' (Kd.R_mono (ok' := (fun k_ => ((fun k_ => some k_ ≠ (.slice Ao36 y343.length co36 : Value).ownBlock ∧ k_ ≠ gb319)) k_ ∧ some k_ ≠ (u4 : Value).ownBlock)) (Kd.R_types (Kd.R_apart' (Kd.R_apart' (HO348.out) (Kd.R_typed HO345.out) (by decide)) (Kd.N_typed HO_4.out) (by decide)) BK319.out (by decide)) (fun k_ hk => ⟨⟨hk.1.1.2, hk.2⟩, hk.1.2⟩))).2.1 (Kd.R_F (Kd.R_mono (ok' := (fun k_ => ((fun k_ => some k_ ≠ (.slice Ao36 y343.length co36 : Value).ownBlock ∧ k_ ≠ gb319)) k_ ∧ some k_ ≠ (u4 : Value).ownBlock)) (Kd.R_types (Kd.R_apart' (Kd.R_apart' (HO348.out) (Kd.R_typed HO345.out) (by decide)) (Kd.N_typed HO_4.out) (by decide)) BK319.out (by decide)) (fun k_ hk => ⟨⟨hk.1.1.2, hk.2⟩, hk.1.2⟩)))))
           (case aB => exact (by repeat (first | (with_reducible first | exact HB.out | apply bU | apply bS GE319.out) | exact HB.out)))
           (case aF => exact (fun k_ hk => ⟨Kd.fresh' (Kd.R_lt (by (with_reducible repeat (first | apply Kd.R_alloc | apply Kd.R_drewN | apply Kd.R_drew)); exact HO345.out)) k_ hk, Kd.freshB (g := gb319) (o := .cells #[.int .i64 a0_0, .int .i64 a0_1, .int .i64 a0_2, .bool a0_3, .slice A0_4 l0_4.length c0_4, .slice (some ad341) l0_5.length c0_5] 25 (0, 0)) (kb_ BK319) k_ hk⟩))
           (case aO => exact (by (with_reducible repeat (first | apply Kd.N_alloc | apply Kd.N_drewN | apply Kd.N_drew)); exact Kd.N_mono HO_4.out (fun _ hk => ⟨hk.1.2, hk.1.1⟩)))
           (case aS => exact (below_size (by repeat (first | (with_reducible first | exact HB.out | apply bU | apply bS GE319.out) | exact HB.out))))
           (case aL => have := LMc31.out; omega)
           intro v350 w39 ho hb hg hat
           rw [← Ny349.out] at ho
           have HO351 := Aside0.mk (ho)
           replace BK319 := Aside0.mk (blk_grown (g := gb319) (o := .cells #[.int .i64 a0_0, .int .i64 a0_1, .int .i64 a0_2, .bool a0_3, .slice A0_4 l0_4.length c0_4, .slice (some ad341) l0_5.length c0_5] 25 (0, 0)) (kb_ BK319) hg (Kd.N_ne HO_4.out BK319.out (by decide)))
           replace HO345 := Aside0.mk (Kd.R_over' (by (with_reducible repeat (first | apply Kd.R_alloc | apply Kd.R_drewN | apply Kd.R_drew)); exact HO345.out) (Kd.N_typed (by (with_reducible repeat (first | apply Kd.N_alloc | apply Kd.N_drewN | apply Kd.N_drew)); exact HO_4.out)) (by decide) hg)
           replace HB := Aside0.mk (hb)
           clear HO_4 HO348
           clear ho hb hg hat
           refine hK.out _ _ ⟨(blk_cell BK319.out 0).trans rfl, (blk_cell BK319.out 1).trans rfl, (blk_cell BK319.out 2).trans rfl, (blk_cell BK319.out 3).trans rfl, (blk_cell BK319.out 4).trans rfl, (blk_cell BK319.out 5).trans rfl, ((HB.out.cell (World.block_lt_of_cell? w _ hw341_0)).trans hw341_0), ((HB.out.cell (World.block_lt_of_cell? w _ hw341_1)).trans hw341_1), ((HB.out.cell (World.block_lt_of_cell? w _ hw342_0)).trans hw342_0), ((HB.out.cell (World.block_lt_of_cell? w _ hw342_1)).trans hw342_1)⟩ (fun hHeld => ?_)
           clear hK K
           refine norm_ (a' := ?_) ?_ ?_
           rotate_left
           ·show Act.put _ (some 87) _ = _
            simp only [Act.put, List.setIfInBounds_toArray, List.set_cons_zero, List.set_cons_succ, i64_w, i32_w]
            rfl
           refine py 21 4 HT_ ?_
           refine done_ (done_of HT_.out (by kernel_rfl)) ?_
           try go_wp2
           go_roundg k3
           case measure => have := HJ1.out; have := HK2.out; have := HK3.out; omega
           case rel => exact ⟨(y349), (wrap64 (x6_3 + 1)), (by first | rfl | (simp; done) | (simp [*]; done)), H', ⟨by have := HJ1.out; have := HK2.out; have := HK3.out; omega⟩, ⟨by (with_reducible repeat (first | apply Kd.N_alloc | apply Kd.N_drewN | apply Kd.N_drew)); exact Kd.N_mono HO351.out (fun _ hk => hk.2)⟩, ⟨kb_ BK319⟩, ⟨by repeat (first | (with_reducible first | exact HB.out | apply bU | apply bS GE319.out) | exact HB.out)⟩⟩
          ·rw [if_neg c31] at H
           exact absurd H (by simp)
         ·rw [if_neg c29] at H
          exact absurd H (by simp)
        ·rw [if_neg c28] at H
         have c28b0 : decide (x6_3 < (l0_5.length : Int)) = false := decide_eq_false c28
         clear c28
         obtain ⟨y352, hy352⟩ : ∃ y_ : List Int, y_ = (([0, 0] : List Int)) := ⟨_, rfl⟩
         replace H : (if x4_3.length < 4398046511104 then ((waypointref07_Encode.f k3 (x4_3 ++ [(⟨4, y352⟩ : S65)])).bind fun bt358 => ((waypointref08_Seal.f k3 bt358.1 (wrap64 ((bt358.1.length : Int) - 2))).bind fun t362 => (some t362))) else (none)) = some r := by first | (rw [hy352]; with_reducible exact H) | (have H2_ := (Option.bind_some _ _).symm.trans H; rw [hy352]; with_reducible exact H2_) | (have H2_ := (Option.bind_some _ _).symm.trans H; with_reducible exact H2_) | with_reducible exact H | (rw [hy352]; exact H) | exact H
         have Ny352 := Aside0.mk hy352
         clear hy352
         by_cases c40 : x4_3.length < 4398046511104
         ·rw [if_pos c40] at H
          have LMc40 := Aside0.mk c40
          clear c40
          obtain ⟨y355, hy355⟩ : ∃ y_ : List (S65), y_ = (x4_3 ++ [(⟨4, y352⟩ : S65)]) := ⟨_, rfl⟩
          replace H : ((waypointref07_Encode.f k3 y355).bind fun bt358 => ((waypointref08_Seal.f k3 bt358.1 (wrap64 ((bt358.1.length : Int) - 2))).bind fun t362 => (some t362))) = some r := by first | (rw [hy355]; with_reducible exact H) | (have H2_ := (Option.bind_some _ _).symm.trans H; rw [hy355]; with_reducible exact H2_) | (have H2_ := (Option.bind_some _ _).symm.trans H; with_reducible exact H2_) | with_reducible exact H | (rw [hy355]; exact H) | exact H
          have Ny355 := Aside0.mk hy355
          clear hy355
          replace H := Option.bind_eq_some_iff.mp H
          obtain ⟨⟨t358, t359⟩, A410, H⟩ := H
          replace H : ((waypointref08_Seal.f k3 t358 (wrap64 ((t358.length : Int) - 2))).bind fun t362 => (some t362)) = some r := H
          have A41 := Aside0.mk A410
          clear A410
          replace H := Option.bind_eq_some_iff.mp H
          obtain ⟨t362, A420, H⟩ := H
          replace H : (some t362) = some r := H
          have A42 := Aside0.mk A420
          clear A420
          obtain rfl := Option.some.inj H
          obtain ⟨hcz43_0, hcz43_1, hcz43_2, hcz43_3, hcz43_4, hcz43_5, hfz43_0, hfz43_1, hfz43_2, hfz43_3, hfz43_4, hfz43_5⟩ := c6_ BK319
          go_wp2_with (first | ((with_reducible refine gate_dst (N := 89) rfl ?_); refine Kd.R_lit (Kd.int .u8) _ 5 ?hg (N := 89) ?hd (xs := ([0, 0] : List Int)) (inner := [.int .u8 0, .int .u8 0]) (ok := fun _ => True) (okp := fun _ => True) ?hr ?hp (fun _ hk => hk) trivial (Below.refl _ _) (Nat.le_refl _) (by simp) ?_; (case hd => rfl); (case hg => rfl); (case hr => first | (go_simp; done) | (go_simp; rfl)); (case hp => exact (Reps.one (show Kd.M (Kd.int .u8) _ _ _ 0 [.int .u8 0] from rfl) (Reps.one (show Kd.M (Kd.int .u8) _ _ _ 0 [.int .u8 0] from rfl) (Reps.none _ _)))); intro v353 w44 ho45 hb hg_ hnew_; clear hg_ hnew_; (first | rw [← Ny352.out] at ho45 | (simp only [Int.reduceToNat] at ho45; rw [← Ny352.out] at ho45)); have HO354 := Aside0.mk (Kd.R_lower ho45 (below_size (by repeat (first | (with_reducible first | exact HB.out | apply bU | apply bS GE319.out) | exact HB.out)))); replace HO_4 := Aside0.mk (Kd.N_elder' (by (with_reducible repeat (first | apply Kd.N_alloc | apply Kd.N_drewN | apply Kd.N_drew)); exact HO_4.out) (Kd.R_base ho45) hb); replace BK319 := bb_ BK319 hb; replace HB := Aside0.mk (below_step (by repeat (first | (with_reducible first | exact HB.out | apply bU | apply bS GE319.out) | exact HB.out)) hb); clear hb ho45; obtain ⟨Ao46, co46, eo46⟩ := Kd.R_slice HO354.out; subst eo46) | ((with_reducible refine gate_builtin (b := .append) (xs := #[.tmp 88, .tmp 91]) rfl ?_); at_builtin; refine Kd.N_append k65 (w0 := w) w.heap.size rfl (.tmp 88) (.tmp 91) 66 65 (.agg #[(.int .i64 0), (.slice none 0 0)]) 32 rfl Try.underlying66 info65 rfl (by decide) (by omega) u4 x4_3 (⟨4, y352⟩ : S65) [.int .i64 4, .slice Ao46 y352.length co46] (fun k_ => k_ ≠ gb319) (fun k_ => ((fun k_ => k_ ≠ gb319)) k_ ∧ some k_ ≠ (u4 : Value).ownBlock) rfl rfl ?aP (fun _ hk => hk) ?aF ?aO ?aB ?aS ?aL ?_; (case aP => exact (k65_mkF _ _ (⟨4, y352⟩ : S65) (Kd.R_reads' (Kd.R_mono (ok' := (fun k_ => ((fun k_ => k_ ≠ gb319)) k_ ∧ some k_ ≠ (u4 : Value).ownBlock)) (Kd.R_types (Kd.R_apart' (HO354.out) (Kd.N_typed HO_4.out) (by decide)) BK319.out (by decide)) (fun k_ hk => ⟨hk.2, hk.1.2⟩))).2.1 (Kd.R_F (Kd.R_mono (ok' := (fun k_ => ((fun k_ => k_ ≠ gb319)) k_ ∧ some k_ ≠ (u4 : Value).ownBlock)) (Kd.R_types (Kd.R_apart' (HO354.out) (Kd.N_typed HO_4.out) (by decide)) BK319.out (by decide)) (fun k_ hk => ⟨hk.2, hk.1.2⟩))))); (case aB => exact (by repeat (first | (with_reducible first | exact HB.out | apply bU | apply bS GE319.out) | exact HB.out))); (case aF => exact (fun k_ hk => Kd.freshB (g := gb319) (o := .cells #[.int .i64 a0_0, .int .i64 a0_1, .int .i64 a0_2, .bool a0_3, .slice A0_4 l0_4.length c0_4, .slice A0_5 l0_5.length c0_5] 25 (0, 0)) (kb_ BK319) k_ hk)); (case aO => exact (by (with_reducible repeat (first | apply Kd.N_alloc | apply Kd.N_drewN | apply Kd.N_drew)); exact Kd.N_mono HO_4.out (fun _ hk => hk.1))); (case aS => exact (below_size (by repeat (first | (with_reducible first | exact HB.out | apply bU | apply bS GE319.out) | exact HB.out)))); (case aL => have := LMc40.out; omega); intro v356 w47 ho hb hg hat; rw [← Ny355.out] at ho; have HO357 := Aside0.mk (ho); replace BK319 := Aside0.mk (blk_grown (g := gb319) (o := .cells #[.int .i64 a0_0, .int .i64 a0_1, .int .i64 a0_2, .bool a0_3, .slice A0_4 l0_4.length c0_4, .slice A0_5 l0_5.length c0_5] 25 (0, 0)) (kb_ BK319) hg (Kd.N_ne HO_4.out BK319.out (by decide))); replace HB := Aside0.mk (hb); clear HO_4 HO354; clear ho hb hg hat; obtain ⟨Ao48, co48, eo48⟩ := Kd.N_slice HO357.out; subst eo48) | ((with_reducible refine gate_callee (f := 35) rfl ?_); refine goesL_ (some 95) rfl rfl Try.func35 (by kernel_rfl) rfl #[.slice Ao48 y355.length co48] rfl (by (try simp only [List.map_toArray, List.map_cons, List.map_nil]); first | done | rfl | (simp only [List.length_drop, List.length_take]; rfl)) ?_; (with_reducible refine (waypointref07_Encode.calls k3 _ _ y355 t358 t359 _ ?side1 ?side2 A41.out).mono ?_); (case side1 => repeat (first | exact (Kd.N_reads' HO357.out).2.2 | (with_reducible refine Kd.C_alloc ?_ _) | (with_reducible refine Kd.C_drewN ?_ _) | (with_reducible refine Kd.C_drew ?_))); (case side2 => exact (Kd.N_reads' HO357.out).2.1); rintro e w49 ⟨v360, rfl, ho0, hb⟩; refine ⟨_, rfl, ?_⟩; have HO361 := Aside0.mk (Kd.R_lower ho0 (below_size (by repeat (first | (with_reducible first | exact HB.out | apply bU | apply bS GE319.out) | exact HB.out)))); replace HO357 := Aside0.mk (Kd.N_elder' (by (with_reducible repeat (first | apply Kd.N_alloc | apply Kd.N_drewN | apply Kd.N_drew)); exact HO357.out) (Kd.R_base ho0) hb); replace BK319 := bb_ BK319 hb; replace HB := Aside0.mk (below_step (by repeat (first | (with_reducible first | exact HB.out | apply bU | apply bS GE319.out) | exact HB.out)) hb); (try clear hb); (try clear hb2); (try clear hk); (try clear hi); (try clear ho0); obtain ⟨Ao50, co50, eo50⟩ := Kd.R_slice HO361.out; subst eo50) | ((with_reducible refine gate_callee (f := 36) rfl ?_); refine goesL_ (some 102) rfl rfl Try.func36 (by kernel_rfl) rfl #[.slice Ao50 t358.length co50, .int .i64 (wrap64 ((t358.length : Int) - 2))] rfl (by (try simp only [List.map_toArray, List.map_cons, List.map_nil]); first | done | rfl | (simp only [List.length_drop, List.length_take]; rfl)) ?_; (with_reducible refine (waypointref08_Seal.calls k3 _ _ t358 (wrap64 ((t358.length : Int) - 2)) t362 _ ?side1 ?side2 A42.out).mono ?_); (case side1 => repeat (first | exact (Kd.R_reads' HO361.out).2.2 | (with_reducible refine Kd.C_alloc ?_ _) | (with_reducible refine Kd.C_drewN ?_ _) | (with_reducible refine Kd.C_drew ?_))); (case side2 => exact (Kd.R_reads' HO361.out).2.1); rintro e w51 ⟨v363, rfl, ho0, hb⟩; refine ⟨_, rfl, ?_⟩; have HO364 := Aside0.mk (Kd.R_lower (Kd.R_new' ho0 (Kd.R_lt (by (with_reducible repeat (first | apply Kd.R_alloc | apply Kd.R_drewN | apply Kd.R_drew)); exact HO361.out))) (below_size (by repeat (first | (with_reducible first | exact HB.out | apply bU | apply bS GE319.out) | exact HB.out)))); replace HO357 := Aside0.mk (Kd.N_elder' (by (with_reducible repeat (first | apply Kd.N_alloc | apply Kd.N_drewN | apply Kd.N_drew)); exact HO357.out) (Kd.R_base ho0) hb); replace HO361 := Aside0.mk (Kd.R_elder' (by (with_reducible repeat (first | apply Kd.R_alloc | apply Kd.R_drewN | apply Kd.R_drew)); exact HO361.out) (Kd.R_base ho0) hb); replace BK319 := bb_ BK319 hb; replace HB := Aside0.mk (below_step (by repeat (first | (with_reducible first | exact HB.out | apply bU | apply bS GE319.out) | exact HB.out)) hb); (try clear hb); (try clear hb2); (try clear hk); (try clear hi); (try clear ho0)))
          go_ret
          exact ⟨_, by first | rfl | (simp [errW_none, errW_some] <;> rfl) | (simp [*, errW_none, errW_some] <;> rfl), by (with_reducible repeat (first | apply Kd.R_alloc | apply Kd.R_drewN | apply Kd.R_drew)); exact Kd.R_mono HO364.out (fun _ hk => trivial), by repeat (first | (with_reducible first | exact HB.out | apply bU | apply bS GE319.out) | exact HB.out)⟩
         ·rw [if_neg c40] at H
          exact absurd H (by simp)

/-! ### waypointref32_sign: function 48 -/
def waypointref32_sign.f (a0 : Int) : Option (Int) := if a0 < 0 then (some (-1)) else (if a0 > 0 then (some 1) else (some 0))
set_option maxHeartbeats 8000000 in
set_option maxRecDepth 100000 in
theorem waypointref32_sign.calls (a0 : Int) (r : Int) (w : World) (h : waypointref32_sign.f a0 = some r) :
  Calls Try.prog 48 #[.int .i64 a0] w fun e w' => e = .returned (.int .i64 r) ∧ Drawn0 w w' := by
 have H : (if a0 < 0 then (some (-1)) else (if a0 > 0 then (some 1) else (some 0))) = some r := h
 clear h
 by_cases c2 : a0 < 0
 ·rw [if_pos c2] at H
  have c2b0 : decide (a0 < 0) = true := decide_eq_true c2
  clear c2
  obtain rfl := Option.some.inj H
  go_enter Try.func48, Try.ntmps48
  go_wp2
  go_ret
  exact ⟨by first | rfl | (simp; done) | (simp [*]; done), by repeat (first | exact Drawn0.refl _ | apply Drawn0.step)⟩
 ·rw [if_neg c2] at H
  have c2b0 : decide (a0 < 0) = false := decide_eq_false c2
  clear c2
  by_cases c3 : a0 > 0
  ·rw [if_pos c3] at H
   have c3b0 : decide (0 < a0) = true := decide_eq_true c3
   clear c3
   obtain rfl := Option.some.inj H
   go_enter Try.func48, Try.ntmps48
   go_wp2
   go_ret
   exact ⟨by first | rfl | (simp; done) | (simp [*]; done), by repeat (first | exact Drawn0.refl _ | apply Drawn0.step)⟩
  ·rw [if_neg c3] at H
   have c3b0 : decide (0 < a0) = false := decide_eq_false c3
   clear c3
   obtain rfl := Option.some.inj H
   go_enter Try.func48, Try.ntmps48
   go_wp2
   go_ret
   exact ⟨by first | rfl | (simp; done) | (simp [*]; done), by repeat (first | exact Drawn0.refl _ | apply Drawn0.step)⟩

end Go.Proofs.Ytmknjjfdlkgidaa.HLsc
