-- LAID by wip/hand.py, a program of this repository, over the kit's print: contracts of our own are put in. Lean checks it.
import Derived.Test.YtmknjjfdlkgidaaHLscx0
import Derived.Test.YtmknjjfdlkgidaaHLscx9
import Derived.Test.YtmknjjfdlkgidaaHLscx16
namespace Go.Proofs.Ytmknjjfdlkgidaa.HLsc
open Go.RowKit Go.Proofs.YtmknjjfdlkgidaaW.PrintWords Go.Proofs.YtmknjjfdlkgidaaW.PrintLast Go.Proofs.YtmknjjfdlkgidaaW.PrintMore
attribute [local go_sem] gtr_str leq_str max2_int min2_int max_two min_two max_three min_three max_four min_four   -- for this text's walks alone
set_option linter.unusedVariables false
set_option linter.unusedSimpArgs false

/-! ### lsa_Same: function 23 -/
def lsa_Same.f (k : Nat) (a0_0 : Int) (a0_1 : Int) (a0_2 : Int) (a0_3 : Bool) (l0_4 : List (S43)) (l0_5 : List (S56)) (a1_0 : Int) (a1_1 : Int) (a1_2 : Int) (a1_3 : Bool) (l1_4 : List (S43)) (l1_5 : List (S56)) : Option (Bool) := if a0_0 = a1_0 then (if a0_1 = a1_1 then (if (a0_3 == a1_3) = true then ((lsa_purge.f a0_0 a0_1 a0_2 a0_3 l0_4 l0_5).bind fun t392 => ((lsa_purge.f a1_0 a1_1 a1_2 a1_3 l1_4 l1_5).bind fun t393 => (if t392 = t393 then ((api_Adjacency.f k l0_4 l1_4).bind fun t394 => (if t394 = true then ((api_Prefix.f k l0_5 l1_5).bind fun t395 => (some t395)) else (some false))) else (some false)))) else (some false)) else (some false)) else (some false)
theorem lsa_Same.mono : ∀ a0 a1 a2 a3 a4 a5 a6 a7 a8 a9 a10 a11 k, LeO (lsa_Same.f k a0 a1 a2 a3 a4 a5 a6 a7 a8 a9 a10 a11) (lsa_Same.f (k + 1) a0 a1 a2 a3 a4 a5 a6 a7 a8 a9 a10 a11) := by
 intro a0 a1 a2 a3 a4 a5 a6 a7 a8 a9 a10 a11 k
 unfold lsa_Same.f
 repeat' first
   | (with_reducible exact api_Adjacency.mono _ _ _)
   | (with_reducible exact api_Prefix.mono _ _ _)
   | (with_reducible exact LeO.refl _)
   | (with_reducible exact LeO.none _)
   | (with_reducible refine LeO.ite ?_ ?_)
   | (with_reducible refine LeO.bind ?_ (fun _ => ?_))
   | exact api_Adjacency.mono _ _ _
   | exact api_Prefix.mono _ _ _
   | exact LeO.none _
   | refine LeO.ite ?_ ?_
   | refine LeO.bind ?_ (fun _ => ?_)
def lsa_Same.T3 : Bool × List (List Nat × List Nat) := (true, [([], []), ([0], [0]), ([], []), ([2], [2]), ([1, 3], [1, 3]), ([4], [4]), ([5], [5]), ([6, 5], [5, 6]), ([5], [5]), ([8, 5], [5, 8]), ([7, 9, 5], [5, 7, 9]), ([5, 10], [5, 10]), ([11, 5], [11]), ([12], [12]), ([13, 12], [12, 13]), ([12], [12]), ([15, 12], [12, 15]), ([14, 16, 12], [12, 14, 16]), ([12, 17], [12, 17]), ([18, 12], [18]), ([19], [19]), ([20, 19, 19], [19, 20]), ([19], [19]), ([22, 21, 19], [19, 22]), ([21, 23, 19], [19, 21, 23]), ([19, 24], [19, 24]), ([25, 23], [25]), ([26], [26]), ([27, 26], [26, 27]), ([26], [26]), ([29, 26], [26, 29]), ([26], [26]), ([28, 30, 31, 26, 26], [26, 28, 30, 31]), ([26, 32], [26, 32]), ([33, 32], [33]), ([34], [34]), ([35, 34], [34, 35]), ([34], [34]), ([37, 34], [34, 37]), ([34], [34]), ([36, 38, 39, 34, 34], [34, 36, 38, 39]), ([34, 40], [34, 40]), ([41, 40, 0, 1, 2, 3, 4, 5, 6, 7, 8, 9, 10, 11, 12, 13, 14, 15, 16, 17, 18, 19, 20, 21, 22, 23, 24, 25, 26, 27, 28, 29, 30, 31, 32, 33, 34, 35, 36, 37, 38, 39, 40, 41], [41])])
def lsa_Same.B3 : List Nat := [0, 1, 0, 4, 15, 31, 63, 127, 63, 319, 1023, 2047, 4095, 8191, 16383, 8191, 40959, 131071, 262143, 524287, 1048575, 2097151, 1048575, 8388607, 16777215, 33554431, 67108863, 134217727, 268435455, 134217727, 671088639, 134217727, 4294967295, 8589934591, 17179869183, 34359738367, 68719476735, 34359738367, 171798691839, 34359738367, 1099511627775, 2199023255551, 4398046511103]
theorem lsa_Same.tab3 : rtab .any (opsOf Try.f23 3) = lsa_Same.T3 := by kernel_rfl
theorem lsa_Same.bits3 : waitsOk lsa_Same.T3.2 lsa_Same.B3 = true := by kernel_rfl
set_option maxHeartbeats 8000000 in
set_option maxRecDepth 100000 in
theorem lsa_Same.calls (k : Nat) (a0_0 : Int) (a0_1 : Int) (a0_2 : Int) (a0_3 : Bool) (A0_4 : Option Addr) (c0_4 : Nat) (l0_4 : List (S43)) (A0_5 : Option Addr) (c0_5 : Nat) (l0_5 : List (S56)) (a1_0 : Int) (a1_1 : Int) (a1_2 : Int) (a1_3 : Bool) (A1_4 : Option Addr) (c1_4 : Nat) (l1_4 : List (S43)) (A1_5 : Option Addr) (c1_5 : Nat) (l1_5 : List (S56)) (r : Bool) (w : World) (hr0_4 : Kd.C k43 w A0_4 l0_4.length l0_4) (hc0_4 : l0_4.length ≤ c0_4) (hr0_5 : Kd.C k56 w A0_5 l0_5.length l0_5) (hc0_5 : l0_5.length ≤ c0_5) (hr1_4 : Kd.C k43 w A1_4 l1_4.length l1_4) (hc1_4 : l1_4.length ≤ c1_4) (hr1_5 : Kd.C k56 w A1_5 l1_5.length l1_5) (hc1_5 : l1_5.length ≤ c1_5) (h : lsa_Same.f k a0_0 a0_1 a0_2 a0_3 l0_4 l0_5 a1_0 a1_1 a1_2 a1_3 l1_4 l1_5 = some r) :
  Calls Try.prog 23 #[.agg #[.int .i64 a0_0, .int .i64 a0_1, .int .i64 a0_2, .bool a0_3, .slice A0_4 l0_4.length c0_4, .slice A0_5 l0_5.length c0_5], .agg #[.int .i64 a1_0, .int .i64 a1_1, .int .i64 a1_2, .bool a1_3, .slice A1_4 l1_4.length c1_4, .slice A1_5 l1_5.length c1_5]] w fun e w' => e = .returned (.bool r) ∧ Below w.heap.size w w' := by
 have hu25 := Try.underlying25
 have HR0_4 := Aside0.mk hr0_4
 have HC0_4 := Aside0.mk hc0_4
 clear hr0_4 hc0_4
 have HR0_5 := Aside0.mk hr0_5
 have HC0_5 := Aside0.mk hc0_5
 clear hr0_5 hc0_5
 have HR1_4 := Aside0.mk hr1_4
 have HC1_4 := Aside0.mk hc1_4
 clear hr1_4 hc1_4
 have HR1_5 := Aside0.mk hr1_5
 have HC1_5 := Aside0.mk hc1_5
 clear hr1_5 hc1_5
 have HB := Aside0.mk (Below.refl w.heap.size w)
 have H : (if a0_0 = a1_0 then (if a0_1 = a1_1 then (if (a0_3 == a1_3) = true then ((lsa_purge.f a0_0 a0_1 a0_2 a0_3 l0_4 l0_5).bind fun t392 => ((lsa_purge.f a1_0 a1_1 a1_2 a1_3 l1_4 l1_5).bind fun t393 => (if t392 = t393 then ((api_Adjacency.f k l0_4 l1_4).bind fun t394 => (if t394 = true then ((api_Prefix.f k l0_5 l1_5).bind fun t395 => (some t395)) else (some false))) else (some false)))) else (some false)) else (some false)) else (some false)) = some r := h
 clear h
 by_cases c3 : a0_0 = a1_0
 ·rw [if_pos c3] at H
  have c3b0 : (a0_0 == a1_0) = true := beq_iff_eq.mpr c3
  have c3b1 : (a0_0 != a1_0) = false := bne_eq_false_iff_eq.mpr c3
  clear c3
  by_cases c4 : a0_1 = a1_1
  ·rw [if_pos c4] at H
   have c4b0 : (a0_1 == a1_1) = true := beq_iff_eq.mpr c4
   have c4b1 : (a0_1 != a1_1) = false := bne_eq_false_iff_eq.mpr c4
   clear c4
   by_cases c5 : (a0_3 == a1_3) = true
   ·rw [if_pos c5] at H
    have c5b0 : (a0_3 == a1_3) = true := c5
    (try (have c5b1 : decide (a0_3 = a1_3) = true := by simpa using c5))
    (try (have c5b2 : (a0_3 == a1_3) = true := by simpa using c5))
    clear c5
    replace H := Option.bind_eq_some_iff.mp H
    obtain ⟨t392, A60, H⟩ := H
    replace H : ((lsa_purge.f a1_0 a1_1 a1_2 a1_3 l1_4 l1_5).bind fun t393 => (if t392 = t393 then ((api_Adjacency.f k l0_4 l1_4).bind fun t394 => (if t394 = true then ((api_Prefix.f k l0_5 l1_5).bind fun t395 => (some t395)) else (some false))) else (some false))) = some r := H
    have A6 := Aside0.mk A60
    clear A60
    replace H := Option.bind_eq_some_iff.mp H
    obtain ⟨t393, A70, H⟩ := H
    replace H : (if t392 = t393 then ((api_Adjacency.f k l0_4 l1_4).bind fun t394 => (if t394 = true then ((api_Prefix.f k l0_5 l1_5).bind fun t395 => (some t395)) else (some false))) else (some false)) = some r := H
    have A7 := Aside0.mk A70
    clear A70
    by_cases c8 : t392 = t393
    ·rw [if_pos c8] at H
     have c8b0 : (t392 == t393) = true := beq_iff_eq.mpr c8
     have c8b1 : (t392 != t393) = false := bne_eq_false_iff_eq.mpr c8
     clear c8
     replace H := Option.bind_eq_some_iff.mp H
     obtain ⟨t394, A90, H⟩ := H
     replace H : (if t394 = true then ((api_Prefix.f k l0_5 l1_5).bind fun t395 => (some t395)) else (some false)) = some r := H
     have A9 := Aside0.mk A90
     clear A90
     by_cases c10 : t394 = true
     ·subst c10
      have H1 : ((api_Prefix.f k l0_5 l1_5).bind fun t395 => (some t395)) = some r := by rw [if_pos rfl] at H; exact H
      clear H
      have H := H1
      clear H1
      replace H := Option.bind_eq_some_iff.mp H
      obtain ⟨t395, A110, H⟩ := H
      replace H : (some t395) = some r := H
      have A11 := Aside0.mk A110
      clear A110
      obtain rfl := Option.some.inj H
      go_enter Try.func23, Try.ntmps23
      try go_wp2_with (first | ((with_reducible refine gate_dst (N := 2) rfl ?_); refine bx_ 2 #[.int .i64 a0_0, .int .i64 a0_1, .int .i64 a0_2, .bool a0_3, .slice A0_4 l0_4.length c0_4, .slice A0_5 l0_5.length c0_5] 25 rfl rfl ?hr ?_; (case hr => go_simp; try rfl); intro gb390 hg w12 hbox hb; have BK390 := Aside0.mk (hbox); have GW390 := gs_ HB hg; have GE390 := gs_ HB hg; replace HB := bs_ HB hb; clear hb hbox hg) | ((with_reducible refine gate_dst (N := 3) rfl ?_); refine bx_ 3 #[.int .i64 a1_0, .int .i64 a1_1, .int .i64 a1_2, .bool a1_3, .slice A1_4 l1_4.length c1_4, .slice A1_5 l1_5.length c1_5] 25 rfl rfl ?hr ?_; (case hr => go_simp; try rfl); intro gb391 hg w13 hbox hb; have BK391 := Aside0.mk (hbox); have GW391 := Aside0.mk ((by rw [hg]; exact (below_size (by repeat (first | (with_reducible first | exact HB.out | apply bU | apply bS GE390.out) | exact HB.out))) : w.heap.size ≤ gb391)); have GE391 := Aside0.mk ((by rw [hg]; exact (below_size (by repeat (first | (with_reducible first | exact HB.out | apply bU | apply bS GE390.out) | exact HB.out))) : w.heap.size ≤ gb391)); have NB390_391 := nl_ BK390 hg; have NB391_390 := ng_ BK390 hg; replace BK390 := bb_ BK390 hb; replace HB := Aside0.mk (below_step (by repeat (first | (with_reducible first | exact HB.out | apply bU | apply bS GE390.out) | exact HB.out)) hb); clear hb hbox hg))
      replace BK390 := Aside0.mk (blk_drew BK390.out)
      replace BK391 := Aside0.mk (blk_drew BK391.out)
      replace HB := Aside0.mk (below_drew1 HB.out)
      refine start_ (n := 43) (S := fun w' => w'.cell? ⟨gb390, 0, none⟩ = some (.int .i64 a0_0) ∧ w'.cell? ⟨gb390, 1, none⟩ = some (.int .i64 a0_1) ∧ w'.cell? ⟨gb390, 2, none⟩ = some (.int .i64 a0_2) ∧ w'.cell? ⟨gb390, 3, none⟩ = some (.bool a0_3) ∧ w'.cell? ⟨gb390, 4, none⟩ = some (.slice A0_4 l0_4.length c0_4) ∧ w'.cell? ⟨gb390, 5, none⟩ = some (.slice A0_5 l0_5.length c0_5) ∧ w'.cell? ⟨gb391, 0, none⟩ = some (.int .i64 a1_0) ∧ w'.cell? ⟨gb391, 1, none⟩ = some (.int .i64 a1_1) ∧ w'.cell? ⟨gb391, 2, none⟩ = some (.int .i64 a1_2) ∧ w'.cell? ⟨gb391, 3, none⟩ = some (.bool a1_3) ∧ w'.cell? ⟨gb391, 4, none⟩ = some (.slice A1_4 l1_4.length c1_4) ∧ w'.cell? ⟨gb391, 5, none⟩ = some (.slice A1_5 l1_5.length c1_5)) (ds := []) #[false, false, false, false, false, false, false, false, false, false, false, false, false, false, false, false, false, false, false, false, false, false, false, false, false, false, false, false, false, false, false, false, false, false, false, false, false, false, false, false, false, false, false] (by kernel_rfl) rfl rfl ⟨(blk_cell BK390.out 0).trans rfl, (blk_cell BK390.out 1).trans rfl, (blk_cell BK390.out 2).trans rfl, (blk_cell BK390.out 3).trans rfl, (blk_cell BK390.out 4).trans rfl, (blk_cell BK390.out 5).trans rfl, (blk_cell BK391.out 0).trans rfl, (blk_cell BK391.out 1).trans rfl, (blk_cell BK391.out 2).trans rfl, (blk_cell BK391.out 3).trans rfl, (blk_cell BK391.out 4).trans rfl, (blk_cell BK391.out 5).trans rfl⟩ (fun hHeld => ?_); refine with_tabW lsa_Same.tab3 lsa_Same.bits3 (fun HT_ HW_ => ?_)
      generalize w13.drew = w14 at BK390 BK391 HB hHeld ⊢
      refine py 0 7 HT_ ?_
      refine py 2 9 HT_ ?_
      refine ty 1 8 HT_ HW_ rfl (Or.inl ⟨by rfl, by rintro w' ⟨s0, s1, s2, s3, s4, s5, s6, s7, s8, s9, s10, s11⟩; go_simp; with_reducible rfl⟩) hHeld ?_
      refine ty 3 10 HT_ HW_ rfl (Or.inl ⟨by rfl, by rintro w' ⟨s0, s1, s2, s3, s4, s5, s6, s7, s8, s9, s10, s11⟩; go_simp; with_reducible rfl⟩) hHeld ?_
      refine py 4 11 HT_ ?_
      refine py 5 12 HT_ ?_
      refine py 6 13 HT_ ?_
      refine py 8 15 HT_ ?_
      refine ty 7 14 HT_ HW_ rfl (Or.inl ⟨by rfl, by rintro w' ⟨s0, s1, s2, s3, s4, s5, s6, s7, s8, s9, s10, s11⟩; go_simp; with_reducible rfl⟩) hHeld ?_
      refine ty 9 16 HT_ HW_ rfl (Or.inl ⟨by rfl, by rintro w' ⟨s0, s1, s2, s3, s4, s5, s6, s7, s8, s9, s10, s11⟩; go_simp; with_reducible rfl⟩) hHeld ?_
      refine py 10 17 HT_ ?_
      refine py 11 18 HT_ ?_
      refine py 12 19 HT_ ?_
      refine py 13 20 HT_ ?_
      refine py 15 22 HT_ ?_
      refine ty 14 21 HT_ HW_ rfl (Or.inl ⟨by rfl, by rintro w' ⟨s0, s1, s2, s3, s4, s5, s6, s7, s8, s9, s10, s11⟩; go_simp; with_reducible rfl⟩) hHeld ?_
      refine ty 16 23 HT_ HW_ rfl (Or.inl ⟨by rfl, by rintro w' ⟨s0, s1, s2, s3, s4, s5, s6, s7, s8, s9, s10, s11⟩; go_simp; with_reducible rfl⟩) hHeld ?_
      refine py 17 24 HT_ ?_
      refine py 18 25 HT_ ?_
      refine py 19 26 HT_ ?_
      refine ty 20 27 HT_ HW_ rfl (Or.inl ⟨by rfl, by rintro w' ⟨s0, s1, s2, s3, s4, s5, s6, s7, s8, s9, s10, s11⟩; go_simp; with_reducible rfl⟩) hHeld ?_
      refine ty 22 29 HT_ HW_ rfl (Or.inl ⟨by rfl, by rintro w' ⟨s0, s1, s2, s3, s4, s5, s6, s7, s8, s9, s10, s11⟩; go_simp; with_reducible rfl⟩) hHeld ?_
      refine one_ (i := 21) (N := some 28) #[true, true, true, true, true, true, true, true, true, true, true, true, true, true, true, true, true, true, true, true, true, true, true, false, false, false, false, false, false, false, false, false, false, false, false, false, false, false, false, false, false, false, false] rfl rfl (one_of HT_.out (by kernel_rfl)) (by decide) (fun K hK => ?_)
      refine goes_ Try.func45 (by kernel_rfl) rfl #[.agg #[.int .i64 a0_0, .int .i64 a0_1, .int .i64 a0_2, .bool a0_3, .slice A0_4 l0_4.length c0_4, .slice A0_5 l0_5.length c0_5]] (by rfl) rfl rfl (by (try simp only [List.map_toArray, List.map_cons, List.map_nil]); first | done | rfl | (simp only [List.length_drop, List.length_take]; rfl)) ?_
      with_reducible refine (lsa_purge.calls a0_0 a0_1 a0_2 a0_3 _ _ l0_4 _ _ l0_5 t392 _ ?side1 ?side2 ?side3 ?side4 A6.out).mono ?_
      (case side1 => exact cs_ HR0_4 HB)
      (case side2 => exact HC0_4.out)
      (case side3 => exact cs_ HR0_5 HB)
      (case side4 => exact HC0_5.out)
      rintro e w15 ⟨rfl, hb⟩
      refine ⟨_, rfl, ?_⟩
      replace BK390 := bb_ BK390 hb
      replace BK391 := bb_ BK391 hb
      replace HB := Aside0.mk (below_step (by repeat (first | (with_reducible first | exact HB.out | apply bU | apply bS GE390.out | apply bS GE391.out) | exact HB.out)) hb)
      (try clear hb)
      refine hK.out _ _ ⟨(blk_cell BK390.out 0).trans rfl, (blk_cell BK390.out 1).trans rfl, (blk_cell BK390.out 2).trans rfl, (blk_cell BK390.out 3).trans rfl, (blk_cell BK390.out 4).trans rfl, (blk_cell BK390.out 5).trans rfl, (blk_cell BK391.out 0).trans rfl, (blk_cell BK391.out 1).trans rfl, (blk_cell BK391.out 2).trans rfl, (blk_cell BK391.out 3).trans rfl, (blk_cell BK391.out 4).trans rfl, (blk_cell BK391.out 5).trans rfl⟩ (fun hHeld => ?_)
      clear hK K
      refine norm_ (a' := ?_) ?_ ?_
      rotate_left
      ·show Act.put _ (some 28) _ = _
       simp only [Act.put, List.setIfInBounds_toArray, List.set_cons_zero, List.set_cons_succ, i64_w, i32_w]
       rfl
      refine one_ (i := 23) (N := some 30) #[true, true, true, true, true, true, true, true, true, true, true, true, true, true, true, true, true, true, true, true, true, true, true, true, false, false, false, false, false, false, false, false, false, false, false, false, false, false, false, false, false, false, false] rfl rfl (one_of HT_.out (by kernel_rfl)) (by decide) (fun K hK => ?_)
      refine goes_ Try.func45 (by kernel_rfl) rfl #[.agg #[.int .i64 a1_0, .int .i64 a1_1, .int .i64 a1_2, .bool a1_3, .slice A1_4 l1_4.length c1_4, .slice A1_5 l1_5.length c1_5]] (by rfl) rfl rfl (by (try simp only [List.map_toArray, List.map_cons, List.map_nil]); first | done | rfl | (simp only [List.length_drop, List.length_take]; rfl)) ?_
      with_reducible refine (lsa_purge.calls a1_0 a1_1 a1_2 a1_3 _ _ l1_4 _ _ l1_5 t393 _ ?side1 ?side2 ?side3 ?side4 A7.out).mono ?_
      (case side1 => exact cs_ HR1_4 HB)
      (case side2 => exact HC1_4.out)
      (case side3 => exact cs_ HR1_5 HB)
      (case side4 => exact HC1_5.out)
      rintro e w16 ⟨rfl, hb⟩
      refine ⟨_, rfl, ?_⟩
      replace BK390 := bb_ BK390 hb
      replace BK391 := bb_ BK391 hb
      replace HB := Aside0.mk (below_step (by repeat (first | (with_reducible first | exact HB.out | apply bU | apply bS GE390.out | apply bS GE391.out) | exact HB.out)) hb)
      (try clear hb)
      refine hK.out _ _ ⟨(blk_cell BK390.out 0).trans rfl, (blk_cell BK390.out 1).trans rfl, (blk_cell BK390.out 2).trans rfl, (blk_cell BK390.out 3).trans rfl, (blk_cell BK390.out 4).trans rfl, (blk_cell BK390.out 5).trans rfl, (blk_cell BK391.out 0).trans rfl, (blk_cell BK391.out 1).trans rfl, (blk_cell BK391.out 2).trans rfl, (blk_cell BK391.out 3).trans rfl, (blk_cell BK391.out 4).trans rfl, (blk_cell BK391.out 5).trans rfl⟩ (fun hHeld => ?_)
      clear hK K
      refine norm_ (a' := ?_) ?_ ?_
      rotate_left
      ·show Act.put _ (some 30) _ = _
       simp only [Act.put, List.setIfInBounds_toArray, List.set_cons_zero, List.set_cons_succ, i64_w, i32_w]
       rfl
      refine py 24 31 HT_ ?_
      refine py 25 32 HT_ ?_
      refine py 26 33 HT_ ?_
      refine py 27 34 HT_ ?_
      refine py 29 36 HT_ ?_
      refine py 31 38 HT_ ?_
      refine ty 28 35 HT_ HW_ rfl (Or.inl ⟨by rfl, by rintro w' ⟨s0, s1, s2, s3, s4, s5, s6, s7, s8, s9, s10, s11⟩; go_simp; with_reducible rfl⟩) hHeld ?_
      refine ty 30 37 HT_ HW_ rfl (Or.inl ⟨by rfl, by rintro w' ⟨s0, s1, s2, s3, s4, s5, s6, s7, s8, s9, s10, s11⟩; go_simp; with_reducible rfl⟩) hHeld ?_
      refine one_ (i := 32) (N := some 39) #[true, true, true, true, true, true, true, true, true, true, true, true, true, true, true, true, true, true, true, true, true, true, true, true, true, true, true, true, true, true, true, true, true, false, false, false, false, false, false, false, false, false, false] rfl rfl (one_of HT_.out (by kernel_rfl)) (by decide) (fun K hK => ?_)
      refine goes_ Try.func51 (by kernel_rfl) rfl #[.slice A0_4 l0_4.length c0_4, .slice A1_4 l1_4.length c1_4, .func (.func 49) #[] #[]] (by rfl) rfl rfl (by (try simp only [List.map_toArray, List.map_cons, List.map_nil]); first | done | rfl | (simp only [List.length_drop, List.length_take]; rfl)) ?_
      with_reducible refine (api_Adjacency.calls k _ _ l0_4 _ _ l1_4  true _ ?side1 ?side2 ?side3 ?side4 A9.out).mono ?_
      (case side1 => exact cs_ HR0_4 HB)
      (case side2 => exact HC0_4.out)
      (case side3 => exact cs_ HR1_4 HB)
      (case side4 => exact HC1_4.out)
      rintro e w17 ⟨rfl, hb⟩
      refine ⟨_, rfl, ?_⟩
      replace BK390 := bb_ BK390 hb
      replace BK391 := bb_ BK391 hb
      replace HB := Aside0.mk (below_step (by repeat (first | (with_reducible first | exact HB.out | apply bU | apply bS GE390.out | apply bS GE391.out) | exact HB.out)) hb)
      (try clear hb)
      refine hK.out _ _ ⟨(blk_cell BK390.out 0).trans rfl, (blk_cell BK390.out 1).trans rfl, (blk_cell BK390.out 2).trans rfl, (blk_cell BK390.out 3).trans rfl, (blk_cell BK390.out 4).trans rfl, (blk_cell BK390.out 5).trans rfl, (blk_cell BK391.out 0).trans rfl, (blk_cell BK391.out 1).trans rfl, (blk_cell BK391.out 2).trans rfl, (blk_cell BK391.out 3).trans rfl, (blk_cell BK391.out 4).trans rfl, (blk_cell BK391.out 5).trans rfl⟩ (fun hHeld => ?_)
      clear hK K
      refine norm_ (a' := ?_) ?_ ?_
      rotate_left
      ·show Act.put _ (some 39) _ = _
       simp only [Act.put, List.setIfInBounds_toArray, List.set_cons_zero, List.set_cons_succ, i64_w, i32_w]
       rfl
      refine py 33 40 HT_ ?_
      refine py 34 41 HT_ ?_
      refine py 35 42 HT_ ?_
      refine py 37 44 HT_ ?_
      refine py 39 46 HT_ ?_
      refine ty 36 43 HT_ HW_ rfl (Or.inl ⟨by rfl, by rintro w' ⟨s0, s1, s2, s3, s4, s5, s6, s7, s8, s9, s10, s11⟩; go_simp; with_reducible rfl⟩) hHeld ?_
      refine ty 38 45 HT_ HW_ rfl (Or.inl ⟨by rfl, by rintro w' ⟨s0, s1, s2, s3, s4, s5, s6, s7, s8, s9, s10, s11⟩; go_simp; with_reducible rfl⟩) hHeld ?_
      refine one_ (i := 40) (N := some 47) #[true, true, true, true, true, true, true, true, true, true, true, true, true, true, true, true, true, true, true, true, true, true, true, true, true, true, true, true, true, true, true, true, true, true, true, true, true, true, true, true, true, false, false] rfl rfl (one_of HT_.out (by kernel_rfl)) (by decide) (fun K hK => ?_)
      refine goes_ Try.func52 (by kernel_rfl) rfl #[.slice A0_5 l0_5.length c0_5, .slice A1_5 l1_5.length c1_5, .func (.func 50) #[] #[]] (by rfl) rfl rfl (by (try simp only [List.map_toArray, List.map_cons, List.map_nil]); first | done | rfl | (simp only [List.length_drop, List.length_take]; rfl)) ?_
      with_reducible refine (api_Prefix.calls k _ _ l0_5 _ _ l1_5  t395 _ ?side1 ?side2 ?side3 ?side4 A11.out).mono ?_
      (case side1 => exact cs_ HR0_5 HB)
      (case side2 => exact HC0_5.out)
      (case side3 => exact cs_ HR1_5 HB)
      (case side4 => exact HC1_5.out)
      rintro e w18 ⟨rfl, hb⟩
      refine ⟨_, rfl, ?_⟩
      replace BK390 := bb_ BK390 hb
      replace BK391 := bb_ BK391 hb
      replace HB := Aside0.mk (below_step (by repeat (first | (with_reducible first | exact HB.out | apply bU | apply bS GE390.out | apply bS GE391.out) | exact HB.out)) hb)
      (try clear hb)
      refine hK.out _ _ ⟨(blk_cell BK390.out 0).trans rfl, (blk_cell BK390.out 1).trans rfl, (blk_cell BK390.out 2).trans rfl, (blk_cell BK390.out 3).trans rfl, (blk_cell BK390.out 4).trans rfl, (blk_cell BK390.out 5).trans rfl, (blk_cell BK391.out 0).trans rfl, (blk_cell BK391.out 1).trans rfl, (blk_cell BK391.out 2).trans rfl, (blk_cell BK391.out 3).trans rfl, (blk_cell BK391.out 4).trans rfl, (blk_cell BK391.out 5).trans rfl⟩ (fun hHeld => ?_)
      clear hK K
      refine norm_ (a' := ?_) ?_ ?_
      rotate_left
      ·show Act.put _ (some 47) _ = _
       simp only [Act.put, List.setIfInBounds_toArray, List.set_cons_zero, List.set_cons_succ, i64_w, i32_w]
       rfl
      refine py 41 48 HT_ ?_
      refine py 42 4 HT_ ?_
      refine done_ (done_of HT_.out (by kernel_rfl)) ?_
      try go_wp2
      go_ret
      exact ⟨by first | rfl | (simp [errW_none, errW_some] <;> rfl) | (simp [*, errW_none, errW_some] <;> rfl), by repeat (first | (with_reducible first | exact HB.out | apply bU | apply bS GE390.out | apply bS GE391.out) | exact HB.out)⟩
     ·replace c10 := Bool.eq_false_iff.mpr c10
      subst c10
      have H1 : (some false) = some r := by rw [if_neg (show ¬ (false = true) by decide)] at H; exact H
      clear H
      have H := H1
      clear H1
      obtain rfl := Option.some.inj H
      go_enter Try.func23, Try.ntmps23
      try go_wp2_with (first | ((with_reducible refine gate_dst (N := 2) rfl ?_); refine bx_ 2 #[.int .i64 a0_0, .int .i64 a0_1, .int .i64 a0_2, .bool a0_3, .slice A0_4 l0_4.length c0_4, .slice A0_5 l0_5.length c0_5] 25 rfl rfl ?hr ?_; (case hr => go_simp; try rfl); intro gb390 hg w19 hbox hb; have BK390 := Aside0.mk (hbox); have GW390 := gs_ HB hg; have GE390 := gs_ HB hg; replace HB := bs_ HB hb; clear hb hbox hg) | ((with_reducible refine gate_dst (N := 3) rfl ?_); refine bx_ 3 #[.int .i64 a1_0, .int .i64 a1_1, .int .i64 a1_2, .bool a1_3, .slice A1_4 l1_4.length c1_4, .slice A1_5 l1_5.length c1_5] 25 rfl rfl ?hr ?_; (case hr => go_simp; try rfl); intro gb391 hg w20 hbox hb; have BK391 := Aside0.mk (hbox); have GW391 := Aside0.mk ((by rw [hg]; exact (below_size (by repeat (first | (with_reducible first | exact HB.out | apply bU | apply bS GE390.out) | exact HB.out))) : w.heap.size ≤ gb391)); have GE391 := Aside0.mk ((by rw [hg]; exact (below_size (by repeat (first | (with_reducible first | exact HB.out | apply bU | apply bS GE390.out) | exact HB.out))) : w.heap.size ≤ gb391)); have NB390_391 := nl_ BK390 hg; have NB391_390 := ng_ BK390 hg; replace BK390 := bb_ BK390 hb; replace HB := Aside0.mk (below_step (by repeat (first | (with_reducible first | exact HB.out | apply bU | apply bS GE390.out) | exact HB.out)) hb); clear hb hbox hg))
      replace BK390 := Aside0.mk (blk_drew BK390.out)
      replace BK391 := Aside0.mk (blk_drew BK391.out)
      replace HB := Aside0.mk (below_drew1 HB.out)
      refine start_ (n := 43) (S := fun w' => w'.cell? ⟨gb390, 0, none⟩ = some (.int .i64 a0_0) ∧ w'.cell? ⟨gb390, 1, none⟩ = some (.int .i64 a0_1) ∧ w'.cell? ⟨gb390, 2, none⟩ = some (.int .i64 a0_2) ∧ w'.cell? ⟨gb390, 3, none⟩ = some (.bool a0_3) ∧ w'.cell? ⟨gb390, 4, none⟩ = some (.slice A0_4 l0_4.length c0_4) ∧ w'.cell? ⟨gb390, 5, none⟩ = some (.slice A0_5 l0_5.length c0_5) ∧ w'.cell? ⟨gb391, 0, none⟩ = some (.int .i64 a1_0) ∧ w'.cell? ⟨gb391, 1, none⟩ = some (.int .i64 a1_1) ∧ w'.cell? ⟨gb391, 2, none⟩ = some (.int .i64 a1_2) ∧ w'.cell? ⟨gb391, 3, none⟩ = some (.bool a1_3) ∧ w'.cell? ⟨gb391, 4, none⟩ = some (.slice A1_4 l1_4.length c1_4) ∧ w'.cell? ⟨gb391, 5, none⟩ = some (.slice A1_5 l1_5.length c1_5)) (ds := []) #[false, false, false, false, false, false, false, false, false, false, false, false, false, false, false, false, false, false, false, false, false, false, false, false, false, false, false, false, false, false, false, false, false, false, false, false, false, false, false, false, false, false, false] (by kernel_rfl) rfl rfl ⟨(blk_cell BK390.out 0).trans rfl, (blk_cell BK390.out 1).trans rfl, (blk_cell BK390.out 2).trans rfl, (blk_cell BK390.out 3).trans rfl, (blk_cell BK390.out 4).trans rfl, (blk_cell BK390.out 5).trans rfl, (blk_cell BK391.out 0).trans rfl, (blk_cell BK391.out 1).trans rfl, (blk_cell BK391.out 2).trans rfl, (blk_cell BK391.out 3).trans rfl, (blk_cell BK391.out 4).trans rfl, (blk_cell BK391.out 5).trans rfl⟩ (fun hHeld => ?_); refine with_tabW lsa_Same.tab3 lsa_Same.bits3 (fun HT_ HW_ => ?_)
      generalize w20.drew = w21 at BK390 BK391 HB hHeld ⊢
      refine py 0 7 HT_ ?_
      refine py 2 9 HT_ ?_
      refine ty 1 8 HT_ HW_ rfl (Or.inl ⟨by rfl, by rintro w' ⟨s0, s1, s2, s3, s4, s5, s6, s7, s8, s9, s10, s11⟩; go_simp; with_reducible rfl⟩) hHeld ?_
      refine ty 3 10 HT_ HW_ rfl (Or.inl ⟨by rfl, by rintro w' ⟨s0, s1, s2, s3, s4, s5, s6, s7, s8, s9, s10, s11⟩; go_simp; with_reducible rfl⟩) hHeld ?_
      refine py 4 11 HT_ ?_
      refine py 5 12 HT_ ?_
      refine py 6 13 HT_ ?_
      refine py 8 15 HT_ ?_
      refine ty 7 14 HT_ HW_ rfl (Or.inl ⟨by rfl, by rintro w' ⟨s0, s1, s2, s3, s4, s5, s6, s7, s8, s9, s10, s11⟩; go_simp; with_reducible rfl⟩) hHeld ?_
      refine ty 9 16 HT_ HW_ rfl (Or.inl ⟨by rfl, by rintro w' ⟨s0, s1, s2, s3, s4, s5, s6, s7, s8, s9, s10, s11⟩; go_simp; with_reducible rfl⟩) hHeld ?_
      refine py 10 17 HT_ ?_
      refine py 11 18 HT_ ?_
      refine py 12 19 HT_ ?_
      refine py 13 20 HT_ ?_
      refine py 15 22 HT_ ?_
      refine ty 14 21 HT_ HW_ rfl (Or.inl ⟨by rfl, by rintro w' ⟨s0, s1, s2, s3, s4, s5, s6, s7, s8, s9, s10, s11⟩; go_simp; with_reducible rfl⟩) hHeld ?_
      refine ty 16 23 HT_ HW_ rfl (Or.inl ⟨by rfl, by rintro w' ⟨s0, s1, s2, s3, s4, s5, s6, s7, s8, s9, s10, s11⟩; go_simp; with_reducible rfl⟩) hHeld ?_
      refine py 17 24 HT_ ?_
      refine py 18 25 HT_ ?_
      refine py 19 26 HT_ ?_
      refine ty 20 27 HT_ HW_ rfl (Or.inl ⟨by rfl, by rintro w' ⟨s0, s1, s2, s3, s4, s5, s6, s7, s8, s9, s10, s11⟩; go_simp; with_reducible rfl⟩) hHeld ?_
      refine ty 22 29 HT_ HW_ rfl (Or.inl ⟨by rfl, by rintro w' ⟨s0, s1, s2, s3, s4, s5, s6, s7, s8, s9, s10, s11⟩; go_simp; with_reducible rfl⟩) hHeld ?_
      refine one_ (i := 21) (N := some 28) #[true, true, true, true, true, true, true, true, true, true, true, true, true, true, true, true, true, true, true, true, true, true, true, false, false, false, false, false, false, false, false, false, false, false, false, false, false, false, false, false, false, false, false] rfl rfl (one_of HT_.out (by kernel_rfl)) (by decide) (fun K hK => ?_)
      refine goes_ Try.func45 (by kernel_rfl) rfl #[.agg #[.int .i64 a0_0, .int .i64 a0_1, .int .i64 a0_2, .bool a0_3, .slice A0_4 l0_4.length c0_4, .slice A0_5 l0_5.length c0_5]] (by rfl) rfl rfl (by (try simp only [List.map_toArray, List.map_cons, List.map_nil]); first | done | rfl | (simp only [List.length_drop, List.length_take]; rfl)) ?_
      with_reducible refine (lsa_purge.calls a0_0 a0_1 a0_2 a0_3 _ _ l0_4 _ _ l0_5 t392 _ ?side1 ?side2 ?side3 ?side4 A6.out).mono ?_
      (case side1 => exact cs_ HR0_4 HB)
      (case side2 => exact HC0_4.out)
      (case side3 => exact cs_ HR0_5 HB)
      (case side4 => exact HC0_5.out)
      rintro e w22 ⟨rfl, hb⟩
      refine ⟨_, rfl, ?_⟩
      replace BK390 := bb_ BK390 hb
      replace BK391 := bb_ BK391 hb
      replace HB := Aside0.mk (below_step (by repeat (first | (with_reducible first | exact HB.out | apply bU | apply bS GE390.out | apply bS GE391.out) | exact HB.out)) hb)
      (try clear hb)
      refine hK.out _ _ ⟨(blk_cell BK390.out 0).trans rfl, (blk_cell BK390.out 1).trans rfl, (blk_cell BK390.out 2).trans rfl, (blk_cell BK390.out 3).trans rfl, (blk_cell BK390.out 4).trans rfl, (blk_cell BK390.out 5).trans rfl, (blk_cell BK391.out 0).trans rfl, (blk_cell BK391.out 1).trans rfl, (blk_cell BK391.out 2).trans rfl, (blk_cell BK391.out 3).trans rfl, (blk_cell BK391.out 4).trans rfl, (blk_cell BK391.out 5).trans rfl⟩ (fun hHeld => ?_)
      clear hK K
      refine norm_ (a' := ?_) ?_ ?_
      rotate_left
      ·show Act.put _ (some 28) _ = _
       simp only [Act.put, List.setIfInBounds_toArray, List.set_cons_zero, List.set_cons_succ, i64_w, i32_w]
       rfl
      refine one_ (i := 23) (N := some 30) #[true, true, true, true, true, true, true, true, true, true, true, true, true, true, true, true, true, true, true, true, true, true, true, true, false, false, false, false, false, false, false, false, false, false, false, false, false, false, false, false, false, false, false] rfl rfl (one_of HT_.out (by kernel_rfl)) (by decide) (fun K hK => ?_)
      refine goes_ Try.func45 (by kernel_rfl) rfl #[.agg #[.int .i64 a1_0, .int .i64 a1_1, .int .i64 a1_2, .bool a1_3, .slice A1_4 l1_4.length c1_4, .slice A1_5 l1_5.length c1_5]] (by rfl) rfl rfl (by (try simp only [List.map_toArray, List.map_cons, List.map_nil]); first | done | rfl | (simp only [List.length_drop, List.length_take]; rfl)) ?_
      with_reducible refine (lsa_purge.calls a1_0 a1_1 a1_2 a1_3 _ _ l1_4 _ _ l1_5 t393 _ ?side1 ?side2 ?side3 ?side4 A7.out).mono ?_
      (case side1 => exact cs_ HR1_4 HB)
      (case side2 => exact HC1_4.out)
      (case side3 => exact cs_ HR1_5 HB)
      (case side4 => exact HC1_5.out)
      rintro e w23 ⟨rfl, hb⟩
      refine ⟨_, rfl, ?_⟩
      replace BK390 := bb_ BK390 hb
      replace BK391 := bb_ BK391 hb
      replace HB := Aside0.mk (below_step (by repeat (first | (with_reducible first | exact HB.out | apply bU | apply bS GE390.out | apply bS GE391.out) | exact HB.out)) hb)
      (try clear hb)
      refine hK.out _ _ ⟨(blk_cell BK390.out 0).trans rfl, (blk_cell BK390.out 1).trans rfl, (blk_cell BK390.out 2).trans rfl, (blk_cell BK390.out 3).trans rfl, (blk_cell BK390.out 4).trans rfl, (blk_cell BK390.out 5).trans rfl, (blk_cell BK391.out 0).trans rfl, (blk_cell BK391.out 1).trans rfl, (blk_cell BK391.out 2).trans rfl, (blk_cell BK391.out 3).trans rfl, (blk_cell BK391.out 4).trans rfl, (blk_cell BK391.out 5).trans rfl⟩ (fun hHeld => ?_)
      clear hK K
      refine norm_ (a' := ?_) ?_ ?_
      rotate_left
      ·show Act.put _ (some 30) _ = _
       simp only [Act.put, List.setIfInBounds_toArray, List.set_cons_zero, List.set_cons_succ, i64_w, i32_w]
       rfl
      refine py 24 31 HT_ ?_
      refine py 25 32 HT_ ?_
      refine py 26 33 HT_ ?_
      refine py 27 34 HT_ ?_
      refine py 29 36 HT_ ?_
      refine py 31 38 HT_ ?_
      refine ty 28 35 HT_ HW_ rfl (Or.inl ⟨by rfl, by rintro w' ⟨s0, s1, s2, s3, s4, s5, s6, s7, s8, s9, s10, s11⟩; go_simp; with_reducible rfl⟩) hHeld ?_
      refine ty 30 37 HT_ HW_ rfl (Or.inl ⟨by rfl, by rintro w' ⟨s0, s1, s2, s3, s4, s5, s6, s7, s8, s9, s10, s11⟩; go_simp; with_reducible rfl⟩) hHeld ?_
      refine one_ (i := 32) (N := some 39) #[true, true, true, true, true, true, true, true, true, true, true, true, true, true, true, true, true, true, true, true, true, true, true, true, true, true, true, true, true, true, true, true, true, false, false, false, false, false, false, false, false, false, false] rfl rfl (one_of HT_.out (by kernel_rfl)) (by decide) (fun K hK => ?_)
      refine goes_ Try.func51 (by kernel_rfl) rfl #[.slice A0_4 l0_4.length c0_4, .slice A1_4 l1_4.length c1_4, .func (.func 49) #[] #[]] (by rfl) rfl rfl (by (try simp only [List.map_toArray, List.map_cons, List.map_nil]); first | done | rfl | (simp only [List.length_drop, List.length_take]; rfl)) ?_
      with_reducible refine (api_Adjacency.calls k _ _ l0_4 _ _ l1_4  false _ ?side1 ?side2 ?side3 ?side4 A9.out).mono ?_
      (case side1 => exact cs_ HR0_4 HB)
      (case side2 => exact HC0_4.out)
      (case side3 => exact cs_ HR1_4 HB)
      (case side4 => exact HC1_4.out)
      rintro e w24 ⟨rfl, hb⟩
      refine ⟨_, rfl, ?_⟩
      replace BK390 := bb_ BK390 hb
      replace BK391 := bb_ BK391 hb
      replace HB := Aside0.mk (below_step (by repeat (first | (with_reducible first | exact HB.out | apply bU | apply bS GE390.out | apply bS GE391.out) | exact HB.out)) hb)
      (try clear hb)
      refine hK.out _ _ ⟨(blk_cell BK390.out 0).trans rfl, (blk_cell BK390.out 1).trans rfl, (blk_cell BK390.out 2).trans rfl, (blk_cell BK390.out 3).trans rfl, (blk_cell BK390.out 4).trans rfl, (blk_cell BK390.out 5).trans rfl, (blk_cell BK391.out 0).trans rfl, (blk_cell BK391.out 1).trans rfl, (blk_cell BK391.out 2).trans rfl, (blk_cell BK391.out 3).trans rfl, (blk_cell BK391.out 4).trans rfl, (blk_cell BK391.out 5).trans rfl⟩ (fun hHeld => ?_)
      clear hK K
      refine norm_ (a' := ?_) ?_ ?_
      rotate_left
      ·show Act.put _ (some 39) _ = _
       simp only [Act.put, List.setIfInBounds_toArray, List.set_cons_zero, List.set_cons_succ, i64_w, i32_w]
       rfl
      refine py 33 40 HT_ ?_
      refine py 34 41 HT_ ?_
      refine pu 35 42 HT_ ?_
      refine pu 36 43 HT_ ?_
      refine pu 37 44 HT_ ?_
      refine pu 38 45 HT_ ?_
      refine pu 39 46 HT_ ?_
      refine pu 40 47 HT_ ?_
      refine py 41 48 HT_ ?_
      refine py 42 4 HT_ ?_
      refine done_ (done_of HT_.out (by kernel_rfl)) ?_
      try go_wp2
      go_ret
      exact ⟨by first | rfl | (simp [errW_none, errW_some] <;> rfl) | (simp [*, errW_none, errW_some] <;> rfl), by repeat (first | (with_reducible first | exact HB.out | apply bU | apply bS GE390.out | apply bS GE391.out) | exact HB.out)⟩
    ·rw [if_neg c8] at H
     have c8b0 : (t392 == t393) = false := beq_eq_false_iff_ne.mpr c8
     have c8b1 : (t392 != t393) = true := bne_iff_ne.mpr c8
     obtain rfl := Option.some.inj H
     go_enter Try.func23, Try.ntmps23
     try go_wp2_with (first | ((with_reducible refine gate_dst (N := 2) rfl ?_); refine bx_ 2 #[.int .i64 a0_0, .int .i64 a0_1, .int .i64 a0_2, .bool a0_3, .slice A0_4 l0_4.length c0_4, .slice A0_5 l0_5.length c0_5] 25 rfl rfl ?hr ?_; (case hr => go_simp; try rfl); intro gb390 hg w25 hbox hb; have BK390 := Aside0.mk (hbox); have GW390 := gs_ HB hg; have GE390 := gs_ HB hg; replace HB := bs_ HB hb; clear hb hbox hg) | ((with_reducible refine gate_dst (N := 3) rfl ?_); refine bx_ 3 #[.int .i64 a1_0, .int .i64 a1_1, .int .i64 a1_2, .bool a1_3, .slice A1_4 l1_4.length c1_4, .slice A1_5 l1_5.length c1_5] 25 rfl rfl ?hr ?_; (case hr => go_simp; try rfl); intro gb391 hg w26 hbox hb; have BK391 := Aside0.mk (hbox); have GW391 := Aside0.mk ((by rw [hg]; exact (below_size (by repeat (first | (with_reducible first | exact HB.out | apply bU | apply bS GE390.out) | exact HB.out))) : w.heap.size ≤ gb391)); have GE391 := Aside0.mk ((by rw [hg]; exact (below_size (by repeat (first | (with_reducible first | exact HB.out | apply bU | apply bS GE390.out) | exact HB.out))) : w.heap.size ≤ gb391)); have NB390_391 := nl_ BK390 hg; have NB391_390 := ng_ BK390 hg; replace BK390 := bb_ BK390 hb; replace HB := Aside0.mk (below_step (by repeat (first | (with_reducible first | exact HB.out | apply bU | apply bS GE390.out) | exact HB.out)) hb); clear hb hbox hg))
     replace BK390 := Aside0.mk (blk_drew BK390.out)
     replace BK391 := Aside0.mk (blk_drew BK391.out)
     replace HB := Aside0.mk (below_drew1 HB.out)
     refine start_ (n := 43) (S := fun w' => w'.cell? ⟨gb390, 0, none⟩ = some (.int .i64 a0_0) ∧ w'.cell? ⟨gb390, 1, none⟩ = some (.int .i64 a0_1) ∧ w'.cell? ⟨gb390, 2, none⟩ = some (.int .i64 a0_2) ∧ w'.cell? ⟨gb390, 3, none⟩ = some (.bool a0_3) ∧ w'.cell? ⟨gb390, 4, none⟩ = some (.slice A0_4 l0_4.length c0_4) ∧ w'.cell? ⟨gb390, 5, none⟩ = some (.slice A0_5 l0_5.length c0_5) ∧ w'.cell? ⟨gb391, 0, none⟩ = some (.int .i64 a1_0) ∧ w'.cell? ⟨gb391, 1, none⟩ = some (.int .i64 a1_1) ∧ w'.cell? ⟨gb391, 2, none⟩ = some (.int .i64 a1_2) ∧ w'.cell? ⟨gb391, 3, none⟩ = some (.bool a1_3) ∧ w'.cell? ⟨gb391, 4, none⟩ = some (.slice A1_4 l1_4.length c1_4) ∧ w'.cell? ⟨gb391, 5, none⟩ = some (.slice A1_5 l1_5.length c1_5)) (ds := []) #[false, false, false, false, false, false, false, false, false, false, false, false, false, false, false, false, false, false, false, false, false, false, false, false, false, false, false, false, false, false, false, false, false, false, false, false, false, false, false, false, false, false, false] (by kernel_rfl) rfl rfl ⟨(blk_cell BK390.out 0).trans rfl, (blk_cell BK390.out 1).trans rfl, (blk_cell BK390.out 2).trans rfl, (blk_cell BK390.out 3).trans rfl, (blk_cell BK390.out 4).trans rfl, (blk_cell BK390.out 5).trans rfl, (blk_cell BK391.out 0).trans rfl, (blk_cell BK391.out 1).trans rfl, (blk_cell BK391.out 2).trans rfl, (blk_cell BK391.out 3).trans rfl, (blk_cell BK391.out 4).trans rfl, (blk_cell BK391.out 5).trans rfl⟩ (fun hHeld => ?_); refine with_tabW lsa_Same.tab3 lsa_Same.bits3 (fun HT_ HW_ => ?_)
     generalize w26.drew = w27 at BK390 BK391 HB hHeld ⊢
     refine py 0 7 HT_ ?_
     refine py 2 9 HT_ ?_
     refine ty 1 8 HT_ HW_ rfl (Or.inl ⟨by rfl, by rintro w' ⟨s0, s1, s2, s3, s4, s5, s6, s7, s8, s9, s10, s11⟩; go_simp; with_reducible rfl⟩) hHeld ?_
     refine ty 3 10 HT_ HW_ rfl (Or.inl ⟨by rfl, by rintro w' ⟨s0, s1, s2, s3, s4, s5, s6, s7, s8, s9, s10, s11⟩; go_simp; with_reducible rfl⟩) hHeld ?_
     refine py 4 11 HT_ ?_
     refine py 5 12 HT_ ?_
     refine py 6 13 HT_ ?_
     refine py 8 15 HT_ ?_
     refine ty 7 14 HT_ HW_ rfl (Or.inl ⟨by rfl, by rintro w' ⟨s0, s1, s2, s3, s4, s5, s6, s7, s8, s9, s10, s11⟩; go_simp; with_reducible rfl⟩) hHeld ?_
     refine ty 9 16 HT_ HW_ rfl (Or.inl ⟨by rfl, by rintro w' ⟨s0, s1, s2, s3, s4, s5, s6, s7, s8, s9, s10, s11⟩; go_simp; with_reducible rfl⟩) hHeld ?_
     refine py 10 17 HT_ ?_
     refine py 11 18 HT_ ?_
     refine py 12 19 HT_ ?_
     refine py 13 20 HT_ ?_
     refine py 15 22 HT_ ?_
     refine ty 14 21 HT_ HW_ rfl (Or.inl ⟨by rfl, by rintro w' ⟨s0, s1, s2, s3, s4, s5, s6, s7, s8, s9, s10, s11⟩; go_simp; with_reducible rfl⟩) hHeld ?_
     refine ty 16 23 HT_ HW_ rfl (Or.inl ⟨by rfl, by rintro w' ⟨s0, s1, s2, s3, s4, s5, s6, s7, s8, s9, s10, s11⟩; go_simp; with_reducible rfl⟩) hHeld ?_
     refine py 17 24 HT_ ?_
     refine py 18 25 HT_ ?_
     refine py 19 26 HT_ ?_
     refine ty 20 27 HT_ HW_ rfl (Or.inl ⟨by rfl, by rintro w' ⟨s0, s1, s2, s3, s4, s5, s6, s7, s8, s9, s10, s11⟩; go_simp; with_reducible rfl⟩) hHeld ?_
     refine ty 22 29 HT_ HW_ rfl (Or.inl ⟨by rfl, by rintro w' ⟨s0, s1, s2, s3, s4, s5, s6, s7, s8, s9, s10, s11⟩; go_simp; with_reducible rfl⟩) hHeld ?_
     refine one_ (i := 21) (N := some 28) #[true, true, true, true, true, true, true, true, true, true, true, true, true, true, true, true, true, true, true, true, true, true, true, false, false, false, false, false, false, false, false, false, false, false, false, false, false, false, false, false, false, false, false] rfl rfl (one_of HT_.out (by kernel_rfl)) (by decide) (fun K hK => ?_)
     refine goes_ Try.func45 (by kernel_rfl) rfl #[.agg #[.int .i64 a0_0, .int .i64 a0_1, .int .i64 a0_2, .bool a0_3, .slice A0_4 l0_4.length c0_4, .slice A0_5 l0_5.length c0_5]] (by rfl) rfl rfl (by (try simp only [List.map_toArray, List.map_cons, List.map_nil]); first | done | rfl | (simp only [List.length_drop, List.length_take]; rfl)) ?_
     with_reducible refine (lsa_purge.calls a0_0 a0_1 a0_2 a0_3 _ _ l0_4 _ _ l0_5 t392 _ ?side1 ?side2 ?side3 ?side4 A6.out).mono ?_
     (case side1 => exact cs_ HR0_4 HB)
     (case side2 => exact HC0_4.out)
     (case side3 => exact cs_ HR0_5 HB)
     (case side4 => exact HC0_5.out)
     rintro e w28 ⟨rfl, hb⟩
     refine ⟨_, rfl, ?_⟩
     replace BK390 := bb_ BK390 hb
     replace BK391 := bb_ BK391 hb
     replace HB := Aside0.mk (below_step (by repeat (first | (with_reducible first | exact HB.out | apply bU | apply bS GE390.out | apply bS GE391.out) | exact HB.out)) hb)
     (try clear hb)
     refine hK.out _ _ ⟨(blk_cell BK390.out 0).trans rfl, (blk_cell BK390.out 1).trans rfl, (blk_cell BK390.out 2).trans rfl, (blk_cell BK390.out 3).trans rfl, (blk_cell BK390.out 4).trans rfl, (blk_cell BK390.out 5).trans rfl, (blk_cell BK391.out 0).trans rfl, (blk_cell BK391.out 1).trans rfl, (blk_cell BK391.out 2).trans rfl, (blk_cell BK391.out 3).trans rfl, (blk_cell BK391.out 4).trans rfl, (blk_cell BK391.out 5).trans rfl⟩ (fun hHeld => ?_)
     clear hK K
     refine norm_ (a' := ?_) ?_ ?_
     rotate_left
     ·show Act.put _ (some 28) _ = _
      simp only [Act.put, List.setIfInBounds_toArray, List.set_cons_zero, List.set_cons_succ, i64_w, i32_w]
      rfl
     refine one_ (i := 23) (N := some 30) #[true, true, true, true, true, true, true, true, true, true, true, true, true, true, true, true, true, true, true, true, true, true, true, true, false, false, false, false, false, false, false, false, false, false, false, false, false, false, false, false, false, false, false] rfl rfl (one_of HT_.out (by kernel_rfl)) (by decide) (fun K hK => ?_)
     refine goes_ Try.func45 (by kernel_rfl) rfl #[.agg #[.int .i64 a1_0, .int .i64 a1_1, .int .i64 a1_2, .bool a1_3, .slice A1_4 l1_4.length c1_4, .slice A1_5 l1_5.length c1_5]] (by rfl) rfl rfl (by (try simp only [List.map_toArray, List.map_cons, List.map_nil]); first | done | rfl | (simp only [List.length_drop, List.length_take]; rfl)) ?_
     with_reducible refine (lsa_purge.calls a1_0 a1_1 a1_2 a1_3 _ _ l1_4 _ _ l1_5 t393 _ ?side1 ?side2 ?side3 ?side4 A7.out).mono ?_
     (case side1 => exact cs_ HR1_4 HB)
     (case side2 => exact HC1_4.out)
     (case side3 => exact cs_ HR1_5 HB)
     (case side4 => exact HC1_5.out)
     rintro e w29 ⟨rfl, hb⟩
     refine ⟨_, rfl, ?_⟩
     replace BK390 := bb_ BK390 hb
     replace BK391 := bb_ BK391 hb
     replace HB := Aside0.mk (below_step (by repeat (first | (with_reducible first | exact HB.out | apply bU | apply bS GE390.out | apply bS GE391.out) | exact HB.out)) hb)
     (try clear hb)
     refine hK.out _ _ ⟨(blk_cell BK390.out 0).trans rfl, (blk_cell BK390.out 1).trans rfl, (blk_cell BK390.out 2).trans rfl, (blk_cell BK390.out 3).trans rfl, (blk_cell BK390.out 4).trans rfl, (blk_cell BK390.out 5).trans rfl, (blk_cell BK391.out 0).trans rfl, (blk_cell BK391.out 1).trans rfl, (blk_cell BK391.out 2).trans rfl, (blk_cell BK391.out 3).trans rfl, (blk_cell BK391.out 4).trans rfl, (blk_cell BK391.out 5).trans rfl⟩ (fun hHeld => ?_)
     clear hK K
     refine norm_ (a' := ?_) ?_ ?_
     rotate_left
     ·show Act.put _ (some 30) _ = _
      simp only [Act.put, List.setIfInBounds_toArray, List.set_cons_zero, List.set_cons_succ, i64_w, i32_w]
      rfl
     refine py 24 31 HT_ ?_
     refine py 25 32 HT_ ?_
     refine py 26 33 HT_ ?_
     refine pu 27 34 HT_ ?_
     refine pu 28 35 HT_ ?_
     refine pu 29 36 HT_ ?_
     refine pu 30 37 HT_ ?_
     refine pu 31 38 HT_ ?_
     refine pu 32 39 HT_ ?_
     refine py 33 40 HT_ ?_
     refine py 34 41 HT_ ?_
     refine pu 35 42 HT_ ?_
     refine pu 36 43 HT_ ?_
     refine pu 37 44 HT_ ?_
     refine pu 38 45 HT_ ?_
     refine pu 39 46 HT_ ?_
     refine pu 40 47 HT_ ?_
     refine py 41 48 HT_ ?_
     refine py 42 4 HT_ ?_
     refine done_ (done_of HT_.out (by kernel_rfl)) ?_
     try go_wp2
     go_ret
     exact ⟨by first | rfl | (simp [errW_none, errW_some] <;> rfl) | (simp [*, errW_none, errW_some] <;> rfl), by repeat (first | (with_reducible first | exact HB.out | apply bU | apply bS GE390.out | apply bS GE391.out) | exact HB.out)⟩
   ·rw [if_neg c5] at H
    have c5b0 : (a0_3 == a1_3) = false := by simpa using c5
    (try (have c5b1 : decide (a0_3 = a1_3) = false := by simpa using c5))
    (try (have c5b2 : (a0_3 == a1_3) = false := by simpa using c5))
    (try (have c5b3 : ¬ (a0_3 = a1_3) := by simpa using c5))
    clear c5
    obtain rfl := Option.some.inj H
    go_enter Try.func23, Try.ntmps23
    try go_wp2_with (first | ((with_reducible refine gate_dst (N := 2) rfl ?_); refine bx_ 2 #[.int .i64 a0_0, .int .i64 a0_1, .int .i64 a0_2, .bool a0_3, .slice A0_4 l0_4.length c0_4, .slice A0_5 l0_5.length c0_5] 25 rfl rfl ?hr ?_; (case hr => go_simp; try rfl); intro gb390 hg w30 hbox hb; have BK390 := Aside0.mk (hbox); have GW390 := gs_ HB hg; have GE390 := gs_ HB hg; replace HB := bs_ HB hb; clear hb hbox hg) | ((with_reducible refine gate_dst (N := 3) rfl ?_); refine bx_ 3 #[.int .i64 a1_0, .int .i64 a1_1, .int .i64 a1_2, .bool a1_3, .slice A1_4 l1_4.length c1_4, .slice A1_5 l1_5.length c1_5] 25 rfl rfl ?hr ?_; (case hr => go_simp; try rfl); intro gb391 hg w31 hbox hb; have BK391 := Aside0.mk (hbox); have GW391 := Aside0.mk ((by rw [hg]; exact (below_size (by repeat (first | (with_reducible first | exact HB.out | apply bU | apply bS GE390.out) | exact HB.out))) : w.heap.size ≤ gb391)); have GE391 := Aside0.mk ((by rw [hg]; exact (below_size (by repeat (first | (with_reducible first | exact HB.out | apply bU | apply bS GE390.out) | exact HB.out))) : w.heap.size ≤ gb391)); have NB390_391 := nl_ BK390 hg; have NB391_390 := ng_ BK390 hg; replace BK390 := bb_ BK390 hb; replace HB := Aside0.mk (below_step (by repeat (first | (with_reducible first | exact HB.out | apply bU | apply bS GE390.out) | exact HB.out)) hb); clear hb hbox hg))
    replace BK390 := Aside0.mk (blk_drew BK390.out)
    replace BK391 := Aside0.mk (blk_drew BK391.out)
    replace HB := Aside0.mk (below_drew1 HB.out)
    refine start_ (n := 43) (S := fun w' => w'.cell? ⟨gb390, 0, none⟩ = some (.int .i64 a0_0) ∧ w'.cell? ⟨gb390, 1, none⟩ = some (.int .i64 a0_1) ∧ w'.cell? ⟨gb390, 2, none⟩ = some (.int .i64 a0_2) ∧ w'.cell? ⟨gb390, 3, none⟩ = some (.bool a0_3) ∧ w'.cell? ⟨gb390, 4, none⟩ = some (.slice A0_4 l0_4.length c0_4) ∧ w'.cell? ⟨gb390, 5, none⟩ = some (.slice A0_5 l0_5.length c0_5) ∧ w'.cell? ⟨gb391, 0, none⟩ = some (.int .i64 a1_0) ∧ w'.cell? ⟨gb391, 1, none⟩ = some (.int .i64 a1_1) ∧ w'.cell? ⟨gb391, 2, none⟩ = some (.int .i64 a1_2) ∧ w'.cell? ⟨gb391, 3, none⟩ = some (.bool a1_3) ∧ w'.cell? ⟨gb391, 4, none⟩ = some (.slice A1_4 l1_4.length c1_4) ∧ w'.cell? ⟨gb391, 5, none⟩ = some (.slice A1_5 l1_5.length c1_5)) (ds := []) #[false, false, false, false, false, false, false, false, false, false, false, false, false, false, false, false, false, false, false, false, false, false, false, false, false, false, false, false, false, false, false, false, false, false, false, false, false, false, false, false, false, false, false] (by kernel_rfl) rfl rfl ⟨(blk_cell BK390.out 0).trans rfl, (blk_cell BK390.out 1).trans rfl, (blk_cell BK390.out 2).trans rfl, (blk_cell BK390.out 3).trans rfl, (blk_cell BK390.out 4).trans rfl, (blk_cell BK390.out 5).trans rfl, (blk_cell BK391.out 0).trans rfl, (blk_cell BK391.out 1).trans rfl, (blk_cell BK391.out 2).trans rfl, (blk_cell BK391.out 3).trans rfl, (blk_cell BK391.out 4).trans rfl, (blk_cell BK391.out 5).trans rfl⟩ (fun hHeld => ?_); refine with_tabW lsa_Same.tab3 lsa_Same.bits3 (fun HT_ HW_ => ?_)
    generalize w31.drew = w32 at BK390 BK391 HB hHeld ⊢
    refine py 0 7 HT_ ?_
    refine py 2 9 HT_ ?_
    refine ty 1 8 HT_ HW_ rfl (Or.inl ⟨by rfl, by rintro w' ⟨s0, s1, s2, s3, s4, s5, s6, s7, s8, s9, s10, s11⟩; go_simp; with_reducible rfl⟩) hHeld ?_
    refine ty 3 10 HT_ HW_ rfl (Or.inl ⟨by rfl, by rintro w' ⟨s0, s1, s2, s3, s4, s5, s6, s7, s8, s9, s10, s11⟩; go_simp; with_reducible rfl⟩) hHeld ?_
    refine py 4 11 HT_ ?_
    refine py 5 12 HT_ ?_
    refine py 6 13 HT_ ?_
    refine py 8 15 HT_ ?_
    refine ty 7 14 HT_ HW_ rfl (Or.inl ⟨by rfl, by rintro w' ⟨s0, s1, s2, s3, s4, s5, s6, s7, s8, s9, s10, s11⟩; go_simp; with_reducible rfl⟩) hHeld ?_
    refine ty 9 16 HT_ HW_ rfl (Or.inl ⟨by rfl, by rintro w' ⟨s0, s1, s2, s3, s4, s5, s6, s7, s8, s9, s10, s11⟩; go_simp; with_reducible rfl⟩) hHeld ?_
    refine py 10 17 HT_ ?_
    refine py 11 18 HT_ ?_
    refine py 12 19 HT_ ?_
    refine py 13 20 HT_ ?_
    refine py 15 22 HT_ ?_
    refine ty 14 21 HT_ HW_ rfl (Or.inl ⟨by rfl, by rintro w' ⟨s0, s1, s2, s3, s4, s5, s6, s7, s8, s9, s10, s11⟩; go_simp; with_reducible rfl⟩) hHeld ?_
    refine ty 16 23 HT_ HW_ rfl (Or.inl ⟨by rfl, by rintro w' ⟨s0, s1, s2, s3, s4, s5, s6, s7, s8, s9, s10, s11⟩; go_simp; with_reducible rfl⟩) hHeld ?_
    refine py 17 24 HT_ ?_
    refine py 18 25 HT_ ?_
    refine py 19 26 HT_ ?_
    refine pu 20 27 HT_ ?_
    refine pu 21 28 HT_ ?_
    refine pu 22 29 HT_ ?_
    refine pu 23 30 HT_ ?_
    refine pu 24 31 HT_ ?_
    refine py 25 32 HT_ ?_
    refine py 26 33 HT_ ?_
    refine pu 27 34 HT_ ?_
    refine pu 28 35 HT_ ?_
    refine pu 29 36 HT_ ?_
    refine pu 30 37 HT_ ?_
    refine pu 31 38 HT_ ?_
    refine pu 32 39 HT_ ?_
    refine py 33 40 HT_ ?_
    refine py 34 41 HT_ ?_
    refine pu 35 42 HT_ ?_
    refine pu 36 43 HT_ ?_
    refine pu 37 44 HT_ ?_
    refine pu 38 45 HT_ ?_
    refine pu 39 46 HT_ ?_
    refine pu 40 47 HT_ ?_
    refine py 41 48 HT_ ?_
    refine py 42 4 HT_ ?_
    refine done_ (done_of HT_.out (by kernel_rfl)) ?_
    try go_wp2
    go_ret
    exact ⟨by first | rfl | (simp [errW_none, errW_some] <;> rfl) | (simp [*, errW_none, errW_some] <;> rfl), by repeat (first | (with_reducible first | exact HB.out | apply bU | apply bS GE390.out | apply bS GE391.out) | exact HB.out)⟩
  ·rw [if_neg c4] at H
   have c4b0 : (a0_1 == a1_1) = false := beq_eq_false_iff_ne.mpr c4
   have c4b1 : (a0_1 != a1_1) = true := bne_iff_ne.mpr c4
   obtain rfl := Option.some.inj H
   go_enter Try.func23, Try.ntmps23
   try go_wp2_with (first | ((with_reducible refine gate_dst (N := 2) rfl ?_); refine bx_ 2 #[.int .i64 a0_0, .int .i64 a0_1, .int .i64 a0_2, .bool a0_3, .slice A0_4 l0_4.length c0_4, .slice A0_5 l0_5.length c0_5] 25 rfl rfl ?hr ?_; (case hr => go_simp; try rfl); intro gb390 hg w33 hbox hb; have BK390 := Aside0.mk (hbox); have GW390 := gs_ HB hg; have GE390 := gs_ HB hg; replace HB := bs_ HB hb; clear hb hbox hg) | ((with_reducible refine gate_dst (N := 3) rfl ?_); refine bx_ 3 #[.int .i64 a1_0, .int .i64 a1_1, .int .i64 a1_2, .bool a1_3, .slice A1_4 l1_4.length c1_4, .slice A1_5 l1_5.length c1_5] 25 rfl rfl ?hr ?_; (case hr => go_simp; try rfl); intro gb391 hg w34 hbox hb; have BK391 := Aside0.mk (hbox); have GW391 := Aside0.mk ((by rw [hg]; exact (below_size (by repeat (first | (with_reducible first | exact HB.out | apply bU | apply bS GE390.out) | exact HB.out))) : w.heap.size ≤ gb391)); have GE391 := Aside0.mk ((by rw [hg]; exact (below_size (by repeat (first | (with_reducible first | exact HB.out | apply bU | apply bS GE390.out) | exact HB.out))) : w.heap.size ≤ gb391)); have NB390_391 := nl_ BK390 hg; have NB391_390 := ng_ BK390 hg; replace BK390 := bb_ BK390 hb; replace HB := Aside0.mk (below_step (by repeat (first | (with_reducible first | exact HB.out | apply bU | apply bS GE390.out) | exact HB.out)) hb); clear hb hbox hg))
   replace BK390 := Aside0.mk (blk_drew BK390.out)
   replace BK391 := Aside0.mk (blk_drew BK391.out)
   replace HB := Aside0.mk (below_drew1 HB.out)
   refine start_ (n := 43) (S := fun w' => w'.cell? ⟨gb390, 0, none⟩ = some (.int .i64 a0_0) ∧ w'.cell? ⟨gb390, 1, none⟩ = some (.int .i64 a0_1) ∧ w'.cell? ⟨gb390, 2, none⟩ = some (.int .i64 a0_2) ∧ w'.cell? ⟨gb390, 3, none⟩ = some (.bool a0_3) ∧ w'.cell? ⟨gb390, 4, none⟩ = some (.slice A0_4 l0_4.length c0_4) ∧ w'.cell? ⟨gb390, 5, none⟩ = some (.slice A0_5 l0_5.length c0_5) ∧ w'.cell? ⟨gb391, 0, none⟩ = some (.int .i64 a1_0) ∧ w'.cell? ⟨gb391, 1, none⟩ = some (.int .i64 a1_1) ∧ w'.cell? ⟨gb391, 2, none⟩ = some (.int .i64 a1_2) ∧ w'.cell? ⟨gb391, 3, none⟩ = some (.bool a1_3) ∧ w'.cell? ⟨gb391, 4, none⟩ = some (.slice A1_4 l1_4.length c1_4) ∧ w'.cell? ⟨gb391, 5, none⟩ = some (.slice A1_5 l1_5.length c1_5)) (ds := []) #[false, false, false, false, false, false, false, false, false, false, false, false, false, false, false, false, false, false, false, false, false, false, false, false, false, false, false, false, false, false, false, false, false, false, false, false, false, false, false, false, false, false, false] (by kernel_rfl) rfl rfl ⟨(blk_cell BK390.out 0).trans rfl, (blk_cell BK390.out 1).trans rfl, (blk_cell BK390.out 2).trans rfl, (blk_cell BK390.out 3).trans rfl, (blk_cell BK390.out 4).trans rfl, (blk_cell BK390.out 5).trans rfl, (blk_cell BK391.out 0).trans rfl, (blk_cell BK391.out 1).trans rfl, (blk_cell BK391.out 2).trans rfl, (blk_cell BK391.out 3).trans rfl, (blk_cell BK391.out 4).trans rfl, (blk_cell BK391.out 5).trans rfl⟩ (fun hHeld => ?_); refine with_tabW lsa_Same.tab3 lsa_Same.bits3 (fun HT_ HW_ => ?_)
   generalize w34.drew = w35 at BK390 BK391 HB hHeld ⊢
   refine py 0 7 HT_ ?_
   refine py 2 9 HT_ ?_
   refine ty 1 8 HT_ HW_ rfl (Or.inl ⟨by rfl, by rintro w' ⟨s0, s1, s2, s3, s4, s5, s6, s7, s8, s9, s10, s11⟩; go_simp; with_reducible rfl⟩) hHeld ?_
   refine ty 3 10 HT_ HW_ rfl (Or.inl ⟨by rfl, by rintro w' ⟨s0, s1, s2, s3, s4, s5, s6, s7, s8, s9, s10, s11⟩; go_simp; with_reducible rfl⟩) hHeld ?_
   refine py 4 11 HT_ ?_
   refine py 5 12 HT_ ?_
   refine py 6 13 HT_ ?_
   refine py 8 15 HT_ ?_
   refine ty 7 14 HT_ HW_ rfl (Or.inl ⟨by rfl, by rintro w' ⟨s0, s1, s2, s3, s4, s5, s6, s7, s8, s9, s10, s11⟩; go_simp; with_reducible rfl⟩) hHeld ?_
   refine ty 9 16 HT_ HW_ rfl (Or.inl ⟨by rfl, by rintro w' ⟨s0, s1, s2, s3, s4, s5, s6, s7, s8, s9, s10, s11⟩; go_simp; with_reducible rfl⟩) hHeld ?_
   refine py 10 17 HT_ ?_
   refine py 11 18 HT_ ?_
   refine py 12 19 HT_ ?_
   refine pu 13 20 HT_ ?_
   refine pu 14 21 HT_ ?_
   refine pu 15 22 HT_ ?_
   refine pu 16 23 HT_ ?_
   refine pu 17 24 HT_ ?_
   refine py 18 25 HT_ ?_
   refine py 19 26 HT_ ?_
   refine pu 20 27 HT_ ?_
   refine pu 21 28 HT_ ?_
   refine pu 22 29 HT_ ?_
   refine pu 23 30 HT_ ?_
   refine pu 24 31 HT_ ?_
   refine py 25 32 HT_ ?_
   refine py 26 33 HT_ ?_
   refine pu 27 34 HT_ ?_
   refine pu 28 35 HT_ ?_
   refine pu 29 36 HT_ ?_
   refine pu 30 37 HT_ ?_
   refine pu 31 38 HT_ ?_
   refine pu 32 39 HT_ ?_
   refine py 33 40 HT_ ?_
   refine py 34 41 HT_ ?_
   refine pu 35 42 HT_ ?_
   refine pu 36 43 HT_ ?_
   refine pu 37 44 HT_ ?_
   refine pu 38 45 HT_ ?_
   refine pu 39 46 HT_ ?_
   refine pu 40 47 HT_ ?_
   refine py 41 48 HT_ ?_
   refine py 42 4 HT_ ?_
   refine done_ (done_of HT_.out (by kernel_rfl)) ?_
   try go_wp2
   go_ret
   exact ⟨by first | rfl | (simp [errW_none, errW_some] <;> rfl) | (simp [*, errW_none, errW_some] <;> rfl), by repeat (first | (with_reducible first | exact HB.out | apply bU | apply bS GE390.out | apply bS GE391.out) | exact HB.out)⟩
 ·rw [if_neg c3] at H
  have c3b0 : (a0_0 == a1_0) = false := beq_eq_false_iff_ne.mpr c3
  have c3b1 : (a0_0 != a1_0) = true := bne_iff_ne.mpr c3
  obtain rfl := Option.some.inj H
  go_enter Try.func23, Try.ntmps23
  try go_wp2_with (first | ((with_reducible refine gate_dst (N := 2) rfl ?_); refine bx_ 2 #[.int .i64 a0_0, .int .i64 a0_1, .int .i64 a0_2, .bool a0_3, .slice A0_4 l0_4.length c0_4, .slice A0_5 l0_5.length c0_5] 25 rfl rfl ?hr ?_; (case hr => go_simp; try rfl); intro gb390 hg w36 hbox hb; have BK390 := Aside0.mk (hbox); have GW390 := gs_ HB hg; have GE390 := gs_ HB hg; replace HB := bs_ HB hb; clear hb hbox hg) | ((with_reducible refine gate_dst (N := 3) rfl ?_); refine bx_ 3 #[.int .i64 a1_0, .int .i64 a1_1, .int .i64 a1_2, .bool a1_3, .slice A1_4 l1_4.length c1_4, .slice A1_5 l1_5.length c1_5] 25 rfl rfl ?hr ?_; (case hr => go_simp; try rfl); intro gb391 hg w37 hbox hb; have BK391 := Aside0.mk (hbox); have GW391 := Aside0.mk ((by rw [hg]; exact (below_size (by repeat (first | (with_reducible first | exact HB.out | apply bU | apply bS GE390.out) | exact HB.out))) : w.heap.size ≤ gb391)); have GE391 := Aside0.mk ((by rw [hg]; exact (below_size (by repeat (first | (with_reducible first | exact HB.out | apply bU | apply bS GE390.out) | exact HB.out))) : w.heap.size ≤ gb391)); have NB390_391 := nl_ BK390 hg; have NB391_390 := ng_ BK390 hg; replace BK390 := bb_ BK390 hb; replace HB := Aside0.mk (below_step (by repeat (first | (with_reducible first | exact HB.out | apply bU | apply bS GE390.out) | exact HB.out)) hb); clear hb hbox hg))
  replace BK390 := Aside0.mk (blk_drew BK390.out)
  replace BK391 := Aside0.mk (blk_drew BK391.out)
  replace HB := Aside0.mk (below_drew1 HB.out)
  refine start_ (n := 43) (S := fun w' => w'.cell? ⟨gb390, 0, none⟩ = some (.int .i64 a0_0) ∧ w'.cell? ⟨gb390, 1, none⟩ = some (.int .i64 a0_1) ∧ w'.cell? ⟨gb390, 2, none⟩ = some (.int .i64 a0_2) ∧ w'.cell? ⟨gb390, 3, none⟩ = some (.bool a0_3) ∧ w'.cell? ⟨gb390, 4, none⟩ = some (.slice A0_4 l0_4.length c0_4) ∧ w'.cell? ⟨gb390, 5, none⟩ = some (.slice A0_5 l0_5.length c0_5) ∧ w'.cell? ⟨gb391, 0, none⟩ = some (.int .i64 a1_0) ∧ w'.cell? ⟨gb391, 1, none⟩ = some (.int .i64 a1_1) ∧ w'.cell? ⟨gb391, 2, none⟩ = some (.int .i64 a1_2) ∧ w'.cell? ⟨gb391, 3, none⟩ = some (.bool a1_3) ∧ w'.cell? ⟨gb391, 4, none⟩ = some (.slice A1_4 l1_4.length c1_4) ∧ w'.cell? ⟨gb391, 5, none⟩ = some (.slice A1_5 l1_5.length c1_5)) (ds := []) #[false, false, false, false, false, false, false, false, false, false, false, false, false, false, false, false, false, false, false, false, false, false, false, false, false, false, false, false, false, false, false, false, false, false, false, false, false, false, false, false, false, false, false] (by kernel_rfl) rfl rfl ⟨(blk_cell BK390.out 0).trans rfl, (blk_cell BK390.out 1).trans rfl, (blk_cell BK390.out 2).trans rfl, (blk_cell BK390.out 3).trans rfl, (blk_cell BK390.out 4).trans rfl, (blk_cell BK390.out 5).trans rfl, (blk_cell BK391.out 0).trans rfl, (blk_cell BK391.out 1).trans rfl, (blk_cell BK391.out 2).trans rfl, (blk_cell BK391.out 3).trans rfl, (blk_cell BK391.out 4).trans rfl, (blk_cell BK391.out 5).trans rfl⟩ (fun hHeld => ?_); refine with_tabW lsa_Same.tab3 lsa_Same.bits3 (fun HT_ HW_ => ?_)
  generalize w37.drew = w38 at BK390 BK391 HB hHeld ⊢
  refine py 0 7 HT_ ?_
  refine py 2 9 HT_ ?_
  refine ty 1 8 HT_ HW_ rfl (Or.inl ⟨by rfl, by rintro w' ⟨s0, s1, s2, s3, s4, s5, s6, s7, s8, s9, s10, s11⟩; go_simp; with_reducible rfl⟩) hHeld ?_
  refine ty 3 10 HT_ HW_ rfl (Or.inl ⟨by rfl, by rintro w' ⟨s0, s1, s2, s3, s4, s5, s6, s7, s8, s9, s10, s11⟩; go_simp; with_reducible rfl⟩) hHeld ?_
  refine py 4 11 HT_ ?_
  refine py 5 12 HT_ ?_
  refine pu 6 13 HT_ ?_
  refine pu 7 14 HT_ ?_
  refine pu 8 15 HT_ ?_
  refine pu 9 16 HT_ ?_
  refine pu 10 17 HT_ ?_
  refine py 11 18 HT_ ?_
  refine py 12 19 HT_ ?_
  refine pu 13 20 HT_ ?_
  refine pu 14 21 HT_ ?_
  refine pu 15 22 HT_ ?_
  refine pu 16 23 HT_ ?_
  refine pu 17 24 HT_ ?_
  refine py 18 25 HT_ ?_
  refine py 19 26 HT_ ?_
  refine pu 20 27 HT_ ?_
  refine pu 21 28 HT_ ?_
  refine pu 22 29 HT_ ?_
  refine pu 23 30 HT_ ?_
  refine pu 24 31 HT_ ?_
  refine py 25 32 HT_ ?_
  refine py 26 33 HT_ ?_
  refine pu 27 34 HT_ ?_
  refine pu 28 35 HT_ ?_
  refine pu 29 36 HT_ ?_
  refine pu 30 37 HT_ ?_
  refine pu 31 38 HT_ ?_
  refine pu 32 39 HT_ ?_
  refine py 33 40 HT_ ?_
  refine py 34 41 HT_ ?_
  refine pu 35 42 HT_ ?_
  refine pu 36 43 HT_ ?_
  refine pu 37 44 HT_ ?_
  refine pu 38 45 HT_ ?_
  refine pu 39 46 HT_ ?_
  refine pu 40 47 HT_ ?_
  refine py 41 48 HT_ ?_
  refine py 42 4 HT_ ?_
  refine done_ (done_of HT_.out (by kernel_rfl)) ?_
  try go_wp2
  go_ret
  exact ⟨by first | rfl | (simp [errW_none, errW_some] <;> rfl) | (simp [*, errW_none, errW_some] <;> rfl), by repeat (first | (with_reducible first | exact HB.out | apply bU | apply bS GE390.out | apply bS GE391.out) | exact HB.out)⟩

end Go.Proofs.Ytmknjjfdlkgidaa.HLsc
