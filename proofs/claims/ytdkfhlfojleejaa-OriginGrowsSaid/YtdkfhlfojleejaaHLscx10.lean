-- LAID by wip/hand.py, a program of this repository, over the kit's print: contracts of our own are put in. Lean checks it.
import Derived.Test.YtdkfhlfojleejaaHLscx0
import Derived.Test.YtdkfhlfojleejaaHLscx5
import Derived.Test.YtdkfhlfojleejaaHLscx9
namespace Go.Proofs.Ytdkfhlfojleejaa.HLsc
open Go.RowKit Go.Proofs.YtdkfhlfojleejaaW.PrintWords Go.Proofs.YtdkfhlfojleejaaW.PrintLast Go.Proofs.YtdkfhlfojleejaaW.PrintMore
attribute [local go_sem] gtr_str leq_str max2_int min2_int max_two min_two max_three min_three max_four min_four   -- for this text's walks alone
set_option linter.unusedVariables false
set_option linter.unusedSimpArgs false

/-! ### lsa_Same: function 31 -/
def lsa_Same.f (k : Nat) (a0_0 : Int) (a0_1 : Int) (a0_2 : Int) (a0_3 : Bool) (l0_4 : List (S72)) (l0_5 : List (S76)) (a1_0 : Int) (a1_1 : Int) (a1_2 : Int) (a1_3 : Bool) (l1_4 : List (S72)) (l1_5 : List (S76)) : Option (Bool) := if a0_0 = a1_0 then (if a0_1 = a1_1 then (if (a0_3 == a1_3) = true then ((lsa_purge.f a0_0 a0_1 a0_2 a0_3 l0_4 l0_5).bind fun t273 => ((lsa_purge.f a1_0 a1_1 a1_2 a1_3 l1_4 l1_5).bind fun t274 => (if t273 = t274 then ((api_Adjacency_48.f k l0_4 l1_4).bind fun t275 => (if t275 = true then ((api_Prefix_49.f k l0_5 l1_5).bind fun t276 => (some t276)) else (some false))) else (some false)))) else (some false)) else (some false)) else (some false)
theorem lsa_Same.mono : ∀ a0 a1 a2 a3 a4 a5 a6 a7 a8 a9 a10 a11 k, LeO (lsa_Same.f k a0 a1 a2 a3 a4 a5 a6 a7 a8 a9 a10 a11) (lsa_Same.f (k + 1) a0 a1 a2 a3 a4 a5 a6 a7 a8 a9 a10 a11) := by
 intro a0 a1 a2 a3 a4 a5 a6 a7 a8 a9 a10 a11 k
 unfold lsa_Same.f
 repeat' first
   | (with_reducible exact api_Adjacency_48.mono _ _ _)
   | (with_reducible exact api_Prefix_49.mono _ _ _)
   | (with_reducible exact LeO.refl _)
   | (with_reducible exact LeO.none _)
   | (with_reducible refine LeO.ite ?_ ?_)
   | (with_reducible refine LeO.bind ?_ (fun _ => ?_))
   | exact api_Adjacency_48.mono _ _ _
   | exact api_Prefix_49.mono _ _ _
   | exact LeO.none _
   | refine LeO.ite ?_ ?_
   | refine LeO.bind ?_ (fun _ => ?_)
def lsa_Same.T3 : Bool × List (List Nat × List Nat) := (true, [([], []), ([0], [0]), ([], []), ([2], [2]), ([1, 3], [1, 3]), ([4], [4]), ([5], [5]), ([6, 5], [5, 6]), ([5], [5]), ([8, 5], [5, 8]), ([7, 9, 5], [5, 7, 9]), ([5, 10], [5, 10]), ([11, 5], [11]), ([12], [12]), ([13, 12], [12, 13]), ([12], [12]), ([15, 12], [12, 15]), ([14, 16, 12], [12, 14, 16]), ([12, 17], [12, 17]), ([18, 12], [18]), ([19], [19]), ([20, 19, 19], [19, 20]), ([19], [19]), ([22, 21, 19], [19, 22]), ([21, 23, 19], [19, 21, 23]), ([19, 24], [19, 24]), ([25, 23], [25]), ([26], [26]), ([27, 26], [26, 27]), ([26], [26]), ([29, 26], [26, 29]), ([26], [26]), ([28, 30, 31, 26, 26], [26, 28, 30, 31]), ([26, 32], [26, 32]), ([33, 32], [33]), ([34], [34]), ([35, 34], [34, 35]), ([34], [34]), ([37, 34], [34, 37]), ([34], [34]), ([36, 38, 39, 34, 34], [34, 36, 38, 39]), ([34, 40], [34, 40]), ([41, 40, 0, 1, 2, 3, 4, 5, 6, 7, 8, 9, 10, 11, 12, 13, 14, 15, 16, 17, 18, 19, 20, 21, 22, 23, 24, 25, 26, 27, 28, 29, 30, 31, 32, 33, 34, 35, 36, 37, 38, 39, 40, 41], [41])])
def lsa_Same.B3 : List Nat := [0, 1, 0, 4, 15, 31, 63, 127, 63, 319, 1023, 2047, 4095, 8191, 16383, 8191, 40959, 131071, 262143, 524287, 1048575, 2097151, 1048575, 8388607, 16777215, 33554431, 67108863, 134217727, 268435455, 134217727, 671088639, 134217727, 4294967295, 8589934591, 17179869183, 34359738367, 68719476735, 34359738367, 171798691839, 34359738367, 1099511627775, 2199023255551, 4398046511103]
theorem lsa_Same.tab3 : rtab .any (opsOf Try.f31 3) = lsa_Same.T3 := by kernel_rfl
theorem lsa_Same.bits3 : waitsOk lsa_Same.T3.2 lsa_Same.B3 = true := by kernel_rfl
set_option maxHeartbeats 8000000 in
set_option maxRecDepth 100000 in
theorem lsa_Same.calls (k : Nat) (a0_0 : Int) (a0_1 : Int) (a0_2 : Int) (a0_3 : Bool) (A0_4 : Option Addr) (c0_4 : Nat) (l0_4 : List (S72)) (A0_5 : Option Addr) (c0_5 : Nat) (l0_5 : List (S76)) (a1_0 : Int) (a1_1 : Int) (a1_2 : Int) (a1_3 : Bool) (A1_4 : Option Addr) (c1_4 : Nat) (l1_4 : List (S72)) (A1_5 : Option Addr) (c1_5 : Nat) (l1_5 : List (S76)) (r : Bool) (w : World) (hr0_4 : Kd.C k72 w A0_4 l0_4.length l0_4) (hc0_4 : l0_4.length ≤ c0_4) (hr0_5 : Kd.C k76 w A0_5 l0_5.length l0_5) (hc0_5 : l0_5.length ≤ c0_5) (hr1_4 : Kd.C k72 w A1_4 l1_4.length l1_4) (hc1_4 : l1_4.length ≤ c1_4) (hr1_5 : Kd.C k76 w A1_5 l1_5.length l1_5) (hc1_5 : l1_5.length ≤ c1_5) (h : lsa_Same.f k a0_0 a0_1 a0_2 a0_3 l0_4 l0_5 a1_0 a1_1 a1_2 a1_3 l1_4 l1_5 = some r) :
  Calls Try.prog 31 #[.agg #[.int .i64 a0_0, .int .i64 a0_1, .int .i64 a0_2, .bool a0_3, .slice A0_4 l0_4.length c0_4, .slice A0_5 l0_5.length c0_5], .agg #[.int .i64 a1_0, .int .i64 a1_1, .int .i64 a1_2, .bool a1_3, .slice A1_4 l1_4.length c1_4, .slice A1_5 l1_5.length c1_5]] w fun e w' => e = .returned (.bool r) ∧ Below w.heap.size w w' := by
 have hu32 := Try.underlying32
 have HR0_4 := Aside0.mk hr0_4
 have HC0_4 := Aside0.mk hc0_4
 clear hr0_4 hc0_4
 have HR0_5 := Aside0.mk hr0_5
 have HC0_5 := Aside0.mk hc0_5
 clear hr0_5 hc0_5
 have HR1_4 := Aside0.mk hr1_4
 have HC1_4 := Aside0.mk hc1_4
 clear hr1_4 hc1_4
 have HR1_5 := Aside0.mk hr1_5
 have HC1_5 := Aside0.mk hc1_5
 clear hr1_5 hc1_5
 have HB := Aside0.mk (Below.refl w.heap.size w)
 have H : (if a0_0 = a1_0 then (if a0_1 = a1_1 then (if (a0_3 == a1_3) = true then ((lsa_purge.f a0_0 a0_1 a0_2 a0_3 l0_4 l0_5).bind fun t273 => ((lsa_purge.f a1_0 a1_1 a1_2 a1_3 l1_4 l1_5).bind fun t274 => (if t273 = t274 then ((api_Adjacency_48.f k l0_4 l1_4).bind fun t275 => (if t275 = true then ((api_Prefix_49.f k l0_5 l1_5).bind fun t276 => (some t276)) else (some false))) else (some false)))) else (some false)) else (some false)) else (some false)) = some r := h
 clear h
 by_cases c3 : a0_0 = a1_0
 ·rw [if_pos c3] at H
  have c3b0 : (a0_0 == a1_0) = true := beq_iff_eq.mpr c3
  have c3b1 : (a0_0 != a1_0) = false := bne_eq_false_iff_eq.mpr c3
  clear c3
  by_cases c4 : a0_1 = a1_1
  ·rw [if_pos c4] at H
   have c4b0 : (a0_1 == a1_1) = true := beq_iff_eq.mpr c4
   have c4b1 : (a0_1 != a1_1) = false := bne_eq_false_iff_eq.mpr c4
   clear c4
   by_cases c5 : (a0_3 == a1_3) = true
   ·rw [if_pos c5] at H
    have c5b0 : (a0_3 == a1_3) = true := c5
    (try (have c5b1 : decide (a0_3 = a1_3) = true := by simpa using c5))
    (try (have c5b2 : (a0_3 == a1_3) = true := by simpa using c5))
    clear c5
    replace H := Option.bind_eq_some_iff.mp H
    obtain ⟨t273, A60, H⟩ := H
    replace H : ((lsa_purge.f a1_0 a1_1 a1_2 a1_3 l1_4 l1_5).bind fun t274 => (if t273 = t274 then ((api_Adjacency_48.f k l0_4 l1_4).bind fun t275 => (if t275 = true then ((api_Prefix_49.f k l0_5 l1_5).bind fun t276 => (some t276)) else (some false))) else (some false))) = some r := H
    have A6 := Aside0.mk A60
    clear A60
    replace H := Option.bind_eq_some_iff.mp H
    obtain ⟨t274, A70, H⟩ := H
    replace H : (if t273 = t274 then ((api_Adjacency_48.f k l0_4 l1_4).bind fun t275 => (if t275 = true then ((api_Prefix_49.f k l0_5 l1_5).bind fun t276 => (some t276)) else (some false))) else (some false)) = some r := H
    have A7 := Aside0.mk A70
    clear A70
    by_cases c8 : t273 = t274
    ·rw [if_pos c8] at H
     have c8b0 : (t273 == t274) = true := beq_iff_eq.mpr c8
     have c8b1 : (t273 != t274) = false := bne_eq_false_iff_eq.mpr c8
     clear c8
     replace H := Option.bind_eq_some_iff.mp H
     obtain ⟨t275, A90, H⟩ := H
     replace H : (if t275 = true then ((api_Prefix_49.f k l0_5 l1_5).bind fun t276 => (some t276)) else (some false)) = some r := H
     have A9 := Aside0.mk A90
     clear A90
     by_cases c10 : t275 = true
     ·subst c10
      have H1 : ((api_Prefix_49.f k l0_5 l1_5).bind fun t276 => (some t276)) = some r := by rw [if_pos rfl] at H; exact H
      clear H
      have H := H1
      clear H1
      replace H := Option.bind_eq_some_iff.mp H
      obtain ⟨t276, A110, H⟩ := H
      replace H : (some t276) = some r := H
      have A11 := Aside0.mk A110
      clear A110
      obtain rfl := Option.some.inj H
      go_enter Try.func31, Try.ntmps31
      try go_wp2_with (first | ((with_reducible refine gate_dst (N := 2) rfl ?_); refine bx_ 2 #[.int .i64 a0_0, .int .i64 a0_1, .int .i64 a0_2, .bool a0_3, .slice A0_4 l0_4.length c0_4, .slice A0_5 l0_5.length c0_5] 32 rfl rfl ?hr ?_; (case hr => go_simp; try rfl); intro gb271 hg w12 hbox hb; have BK271 := Aside0.mk (hbox); have GW271 := gs_ HB hg; have GE271 := gs_ HB hg; replace HB := bs_ HB hb; clear hb hbox hg) | ((with_reducible refine gate_dst (N := 3) rfl ?_); refine bx_ 3 #[.int .i64 a1_0, .int .i64 a1_1, .int .i64 a1_2, .bool a1_3, .slice A1_4 l1_4.length c1_4, .slice A1_5 l1_5.length c1_5] 32 rfl rfl ?hr ?_; (case hr => go_simp; try rfl); intro gb272 hg w13 hbox hb; have BK272 := Aside0.mk (hbox); have GW272 := Aside0.mk ((by rw [hg]; exact (below_size (by repeat (first | (with_reducible first | exact HB.out | apply bU | apply bS GE271.out) | exact HB.out))) : w.heap.size ≤ gb272)); have GE272 := Aside0.mk ((by rw [hg]; exact (below_size (by repeat (first | (with_reducible first | exact HB.out | apply bU | apply bS GE271.out) | exact HB.out))) : w.heap.size ≤ gb272)); have NB271_272 := nl_ BK271 hg; have NB272_271 := ng_ BK271 hg; replace BK271 := bb_ BK271 hb; replace HB := Aside0.mk (below_step (by repeat (first | (with_reducible first | exact HB.out | apply bU | apply bS GE271.out) | exact HB.out)) hb); clear hb hbox hg))
      replace BK271 := Aside0.mk (blk_drew BK271.out)
      replace BK272 := Aside0.mk (blk_drew BK272.out)
      replace HB := Aside0.mk (below_drew1 HB.out)
      refine start_ (n := 43) (S := fun w' => w'.cell? ⟨gb271, 0, none⟩ = some (.int .i64 a0_0) ∧ w'.cell? ⟨gb271, 1, none⟩ = some (.int .i64 a0_1) ∧ w'.cell? ⟨gb271, 2, none⟩ = some (.int .i64 a0_2) ∧ w'.cell? ⟨gb271, 3, none⟩ = some (.bool a0_3) ∧ w'.cell? ⟨gb271, 4, none⟩ = some (.slice A0_4 l0_4.length c0_4) ∧ w'.cell? ⟨gb271, 5, none⟩ = some (.slice A0_5 l0_5.length c0_5) ∧ w'.cell? ⟨gb272, 0, none⟩ = some (.int .i64 a1_0) ∧ w'.cell? ⟨gb272, 1, none⟩ = some (.int .i64 a1_1) ∧ w'.cell? ⟨gb272, 2, none⟩ = some (.int .i64 a1_2) ∧ w'.cell? ⟨gb272, 3, none⟩ = some (.bool a1_3) ∧ w'.cell? ⟨gb272, 4, none⟩ = some (.slice A1_4 l1_4.length c1_4) ∧ w'.cell? ⟨gb272, 5, none⟩ = some (.slice A1_5 l1_5.length c1_5)) (ds := []) #[false, false, false, false, false, false, false, false, false, false, false, false, false, false, false, false, false, false, false, false, false, false, false, false, false, false, false, false, false, false, false, false, false, false, false, false, false, false, false, false, false, false, false] (by kernel_rfl) rfl rfl ⟨(blk_cell BK271.out 0).trans rfl, (blk_cell BK271.out 1).trans rfl, (blk_cell BK271.out 2).trans rfl, (blk_cell BK271.out 3).trans rfl, (blk_cell BK271.out 4).trans rfl, (blk_cell BK271.out 5).trans rfl, (blk_cell BK272.out 0).trans rfl, (blk_cell BK272.out 1).trans rfl, (blk_cell BK272.out 2).trans rfl, (blk_cell BK272.out 3).trans rfl, (blk_cell BK272.out 4).trans rfl, (blk_cell BK272.out 5).trans rfl⟩ (fun hHeld => ?_); refine with_tabW lsa_Same.tab3 lsa_Same.bits3 (fun HT_ HW_ => ?_)
      generalize w13.drew = w14 at BK271 BK272 HB hHeld ⊢
      refine py 0 7 HT_ ?_
      refine py 2 9 HT_ ?_
      refine ty 1 8 HT_ HW_ rfl (Or.inl ⟨by rfl, by rintro w' ⟨s0, s1, s2, s3, s4, s5, s6, s7, s8, s9, s10, s11⟩; go_simp; with_reducible rfl⟩) hHeld ?_
      refine ty 3 10 HT_ HW_ rfl (Or.inl ⟨by rfl, by rintro w' ⟨s0, s1, s2, s3, s4, s5, s6, s7, s8, s9, s10, s11⟩; go_simp; with_reducible rfl⟩) hHeld ?_
      refine py 4 11 HT_ ?_
      refine py 5 12 HT_ ?_
      refine py 6 13 HT_ ?_
      refine py 8 15 HT_ ?_
      refine ty 7 14 HT_ HW_ rfl (Or.inl ⟨by rfl, by rintro w' ⟨s0, s1, s2, s3, s4, s5, s6, s7, s8, s9, s10, s11⟩; go_simp; with_reducible rfl⟩) hHeld ?_
      refine ty 9 16 HT_ HW_ rfl (Or.inl ⟨by rfl, by rintro w' ⟨s0, s1, s2, s3, s4, s5, s6, s7, s8, s9, s10, s11⟩; go_simp; with_reducible rfl⟩) hHeld ?_
      refine py 10 17 HT_ ?_
      refine py 11 18 HT_ ?_
      refine py 12 19 HT_ ?_
      refine py 13 20 HT_ ?_
      refine py 15 22 HT_ ?_
      refine ty 14 21 HT_ HW_ rfl (Or.inl ⟨by rfl, by rintro w' ⟨s0, s1, s2, s3, s4, s5, s6, s7, s8, s9, s10, s11⟩; go_simp; with_reducible rfl⟩) hHeld ?_
      refine ty 16 23 HT_ HW_ rfl (Or.inl ⟨by rfl, by rintro w' ⟨s0, s1, s2, s3, s4, s5, s6, s7, s8, s9, s10, s11⟩; go_simp; with_reducible rfl⟩) hHeld ?_
      refine py 17 24 HT_ ?_
      refine py 18 25 HT_ ?_
      refine py 19 26 HT_ ?_
      refine ty 20 27 HT_ HW_ rfl (Or.inl ⟨by rfl, by rintro w' ⟨s0, s1, s2, s3, s4, s5, s6, s7, s8, s9, s10, s11⟩; go_simp; with_reducible rfl⟩) hHeld ?_
      refine ty 22 29 HT_ HW_ rfl (Or.inl ⟨by rfl, by rintro w' ⟨s0, s1, s2, s3, s4, s5, s6, s7, s8, s9, s10, s11⟩; go_simp; with_reducible rfl⟩) hHeld ?_
      refine one_ (i := 21) (N := some 28) #[true, true, true, true, true, true, true, true, true, true, true, true, true, true, true, true, true, true, true, true, true, true, true, false, false, false, false, false, false, false, false, false, false, false, false, false, false, false, false, false, false, false, false] rfl rfl (one_of HT_.out (by kernel_rfl)) (by decide) (fun K hK => ?_)
      refine goes_ Try.func40 (by kernel_rfl) rfl #[.agg #[.int .i64 a0_0, .int .i64 a0_1, .int .i64 a0_2, .bool a0_3, .slice A0_4 l0_4.length c0_4, .slice A0_5 l0_5.length c0_5]] (by rfl) rfl rfl (by (try simp only [List.map_toArray, List.map_cons, List.map_nil]); first | done | rfl | (simp only [List.length_drop, List.length_take]; rfl)) ?_
      with_reducible refine (lsa_purge.calls a0_0 a0_1 a0_2 a0_3 _ _ l0_4 _ _ l0_5 t273 _ ?side1 ?side2 ?side3 ?side4 A6.out).mono ?_
      (case side1 => exact cs_ HR0_4 HB)
      (case side2 => exact HC0_4.out)
      (case side3 => exact cs_ HR0_5 HB)
      (case side4 => exact HC0_5.out)
      rintro e w15 ⟨rfl, hb⟩
      refine ⟨_, rfl, ?_⟩
      replace BK271 := bb_ BK271 hb
      replace BK272 := bb_ BK272 hb
      replace HB := Aside0.mk (below_step (by repeat (first | (with_reducible first | exact HB.out | apply bU | apply bS GE271.out | apply bS GE272.out) | exact HB.out)) hb)
      (try clear hb)
      refine hK.out _ _ ⟨(blk_cell BK271.out 0).trans rfl, (blk_cell BK271.out 1).trans rfl, (blk_cell BK271.out 2).trans rfl, (blk_cell BK271.out 3).trans rfl, (blk_cell BK271.out 4).trans rfl, (blk_cell BK271.out 5).trans rfl, (blk_cell BK272.out 0).trans rfl, (blk_cell BK272.out 1).trans rfl, (blk_cell BK272.out 2).trans rfl, (blk_cell BK272.out 3).trans rfl, (blk_cell BK272.out 4).trans rfl, (blk_cell BK272.out 5).trans rfl⟩ (fun hHeld => ?_)
      clear hK K
      refine norm_ (a' := ?_) ?_ ?_
      rotate_left
      ·show Act.put _ (some 28) _ = _
       simp only [Act.put, List.setIfInBounds_toArray, List.set_cons_zero, List.set_cons_succ, i64_w, i32_w]
       rfl
      refine one_ (i := 23) (N := some 30) #[true, true, true, true, true, true, true, true, true, true, true, true, true, true, true, true, true, true, true, true, true, true, true, true, false, false, false, false, false, false, false, false, false, false, false, false, false, false, false, false, false, false, false] rfl rfl (one_of HT_.out (by kernel_rfl)) (by decide) (fun K hK => ?_)
      refine goes_ Try.func40 (by kernel_rfl) rfl #[.agg #[.int .i64 a1_0, .int .i64 a1_1, .int .i64 a1_2, .bool a1_3, .slice A1_4 l1_4.length c1_4, .slice A1_5 l1_5.length c1_5]] (by rfl) rfl rfl (by (try simp only [List.map_toArray, List.map_cons, List.map_nil]); first | done | rfl | (simp only [List.length_drop, List.length_take]; rfl)) ?_
      with_reducible refine (lsa_purge.calls a1_0 a1_1 a1_2 a1_3 _ _ l1_4 _ _ l1_5 t274 _ ?side1 ?side2 ?side3 ?side4 A7.out).mono ?_
      (case side1 => exact cs_ HR1_4 HB)
      (case side2 => exact HC1_4.out)
      (case side3 => exact cs_ HR1_5 HB)
      (case side4 => exact HC1_5.out)
      rintro e w16 ⟨rfl, hb⟩
      refine ⟨_, rfl, ?_⟩
      replace BK271 := bb_ BK271 hb
      replace BK272 := bb_ BK272 hb
      replace HB := Aside0.mk (below_step (by repeat (first | (with_reducible first | exact HB.out | apply bU | apply bS GE271.out | apply bS GE272.out) | exact HB.out)) hb)
      (try clear hb)
      refine hK.out _ _ ⟨(blk_cell BK271.out 0).trans rfl, (blk_cell BK271.out 1).trans rfl, (blk_cell BK271.out 2).trans rfl, (blk_cell BK271.out 3).trans rfl, (blk_cell BK271.out 4).trans rfl, (blk_cell BK271.out 5).trans rfl, (blk_cell BK272.out 0).trans rfl, (blk_cell BK272.out 1).trans rfl, (blk_cell BK272.out 2).trans rfl, (blk_cell BK272.out 3).trans rfl, (blk_cell BK272.out 4).trans rfl, (blk_cell BK272.out 5).trans rfl⟩ (fun hHeld => ?_)
      clear hK K
      refine norm_ (a' := ?_) ?_ ?_
      rotate_left
      ·show Act.put _ (some 30) _ = _
       simp only [Act.put, List.setIfInBounds_toArray, List.set_cons_zero, List.set_cons_succ, i64_w, i32_w]
       rfl
      refine py 24 31 HT_ ?_
      refine py 25 32 HT_ ?_
      refine py 26 33 HT_ ?_
      refine py 27 34 HT_ ?_
      refine py 29 36 HT_ ?_
      refine py 31 38 HT_ ?_
      refine ty 28 35 HT_ HW_ rfl (Or.inl ⟨by rfl, by rintro w' ⟨s0, s1, s2, s3, s4, s5, s6, s7, s8, s9, s10, s11⟩; go_simp; with_reducible rfl⟩) hHeld ?_
      refine ty 30 37 HT_ HW_ rfl (Or.inl ⟨by rfl, by rintro w' ⟨s0, s1, s2, s3, s4, s5, s6, s7, s8, s9, s10, s11⟩; go_simp; with_reducible rfl⟩) hHeld ?_
      refine one_ (i := 32) (N := some 39) #[true, true, true, true, true, true, true, true, true, true, true, true, true, true, true, true, true, true, true, true, true, true, true, true, true, true, true, true, true, true, true, true, true, false, false, false, false, false, false, false, false, false, false] rfl rfl (one_of HT_.out (by kernel_rfl)) (by decide) (fun K hK => ?_)
      refine goes_ Try.func48 (by kernel_rfl) rfl #[.slice A0_4 l0_4.length c0_4, .slice A1_4 l1_4.length c1_4, .func (.func 46) #[] #[]] (by rfl) rfl rfl (by (try simp only [List.map_toArray, List.map_cons, List.map_nil]); first | done | rfl | (simp only [List.length_drop, List.length_take]; rfl)) ?_
      with_reducible refine (api_Adjacency_48.calls k _ _ l0_4 _ _ l1_4  true _ ?side1 ?side2 ?side3 ?side4 A9.out).mono ?_
      (case side1 => exact cs_ HR0_4 HB)
      (case side2 => exact HC0_4.out)
      (case side3 => exact cs_ HR1_4 HB)
      (case side4 => exact HC1_4.out)
      rintro e w17 ⟨rfl, hb⟩
      refine ⟨_, rfl, ?_⟩
      replace BK271 := bb_ BK271 hb
      replace BK272 := bb_ BK272 hb
      replace HB := Aside0.mk (below_step (by repeat (first | (with_reducible first | exact HB.out | apply bU | apply bS GE271.out | apply bS GE272.out) | exact HB.out)) hb)
      (try clear hb)
      refine hK.out _ _ ⟨(blk_cell BK271.out 0).trans rfl, (blk_cell BK271.out 1).trans rfl, (blk_cell BK271.out 2).trans rfl, (blk_cell BK271.out 3).trans rfl, (blk_cell BK271.out 4).trans rfl, (blk_cell BK271.out 5).trans rfl, (blk_cell BK272.out 0).trans rfl, (blk_cell BK272.out 1).trans rfl, (blk_cell BK272.out 2).trans rfl, (blk_cell BK272.out 3).trans rfl, (blk_cell BK272.out 4).trans rfl, (blk_cell BK272.out 5).trans rfl⟩ (fun hHeld => ?_)
      clear hK K
      refine norm_ (a' := ?_) ?_ ?_
      rotate_left
      ·show Act.put _ (some 39) _ = _
       simp only [Act.put, List.setIfInBounds_toArray, List.set_cons_zero, List.set_cons_succ, i64_w, i32_w]
       rfl
      refine py 33 40 HT_ ?_
      refine py 34 41 HT_ ?_
      refine py 35 42 HT_ ?_
      refine py 37 44 HT_ ?_
      refine py 39 46 HT_ ?_
      refine ty 36 43 HT_ HW_ rfl (Or.inl ⟨by rfl, by rintro w' ⟨s0, s1, s2, s3, s4, s5, s6, s7, s8, s9, s10, s11⟩; go_simp; with_reducible rfl⟩) hHeld ?_
      refine ty 38 45 HT_ HW_ rfl (Or.inl ⟨by rfl, by rintro w' ⟨s0, s1, s2, s3, s4, s5, s6, s7, s8, s9, s10, s11⟩; go_simp; with_reducible rfl⟩) hHeld ?_
      refine one_ (i := 40) (N := some 47) #[true, true, true, true, true, true, true, true, true, true, true, true, true, true, true, true, true, true, true, true, true, true, true, true, true, true, true, true, true, true, true, true, true, true, true, true, true, true, true, true, true, false, false] rfl rfl (one_of HT_.out (by kernel_rfl)) (by decide) (fun K hK => ?_)
      refine goes_ Try.func49 (by kernel_rfl) rfl #[.slice A0_5 l0_5.length c0_5, .slice A1_5 l1_5.length c1_5, .func (.func 47) #[] #[]] (by rfl) rfl rfl (by (try simp only [List.map_toArray, List.map_cons, List.map_nil]); first | done | rfl | (simp only [List.length_drop, List.length_take]; rfl)) ?_
      with_reducible refine (api_Prefix_49.calls k _ _ l0_5 _ _ l1_5  t276 _ ?side1 ?side2 ?side3 ?side4 A11.out).mono ?_
      (case side1 => exact cs_ HR0_5 HB)
      (case side2 => exact HC0_5.out)
      (case side3 => exact cs_ HR1_5 HB)
      (case side4 => exact HC1_5.out)
      rintro e w18 ⟨rfl, hb⟩
      refine ⟨_, rfl, ?_⟩
      replace BK271 := bb_ BK271 hb
      replace BK272 := bb_ BK272 hb
      replace HB := Aside0.mk (below_step (by repeat (first | (with_reducible first | exact HB.out | apply bU | apply bS GE271.out | apply bS GE272.out) | exact HB.out)) hb)
      (try clear hb)
      refine hK.out _ _ ⟨(blk_cell BK271.out 0).trans rfl, (blk_cell BK271.out 1).trans rfl, (blk_cell BK271.out 2).trans rfl, (blk_cell BK271.out 3).trans rfl, (blk_cell BK271.out 4).trans rfl, (blk_cell BK271.out 5).trans rfl, (blk_cell BK272.out 0).trans rfl, (blk_cell BK272.out 1).trans rfl, (blk_cell BK272.out 2).trans rfl, (blk_cell BK272.out 3).trans rfl, (blk_cell BK272.out 4).trans rfl, (blk_cell BK272.out 5).trans rfl⟩ (fun hHeld => ?_)
      clear hK K
      refine norm_ (a' := ?_) ?_ ?_
      rotate_left
      ·show Act.put _ (some 47) _ = _
       simp only [Act.put, List.setIfInBounds_toArray, List.set_cons_zero, List.set_cons_succ, i64_w, i32_w]
       rfl
      refine py 41 48 HT_ ?_
      refine py 42 4 HT_ ?_
      refine done_ (done_of HT_.out (by kernel_rfl)) ?_
      try go_wp2
      go_ret
      exact ⟨by first | rfl | (simp [errW_none, errW_some] <;> rfl) | (simp [*, errW_none, errW_some] <;> rfl), by repeat (first | (with_reducible first | exact HB.out | apply bU | apply bS GE271.out | apply bS GE272.out) | exact HB.out)⟩
     ·replace c10 := Bool.eq_false_iff.mpr c10
      subst c10
      have H1 : (some false) = some r := by rw [if_neg (show ¬ (false = true) by decide)] at H; exact H
      clear H
      have H := H1
      clear H1
      obtain rfl := Option.some.inj H
      go_enter Try.func31, Try.ntmps31
      try go_wp2_with (first | ((with_reducible refine gate_dst (N := 2) rfl ?_); refine bx_ 2 #[.int .i64 a0_0, .int .i64 a0_1, .int .i64 a0_2, .bool a0_3, .slice A0_4 l0_4.length c0_4, .slice A0_5 l0_5.length c0_5] 32 rfl rfl ?hr ?_; (case hr => go_simp; try rfl); intro gb271 hg w19 hbox hb; have BK271 := Aside0.mk (hbox); have GW271 := gs_ HB hg; have GE271 := gs_ HB hg; replace HB := bs_ HB hb; clear hb hbox hg) | ((with_reducible refine gate_dst (N := 3) rfl ?_); refine bx_ 3 #[.int .i64 a1_0, .int .i64 a1_1, .int .i64 a1_2, .bool a1_3, .slice A1_4 l1_4.length c1_4, .slice A1_5 l1_5.length c1_5] 32 rfl rfl ?hr ?_; (case hr => go_simp; try rfl); intro gb272 hg w20 hbox hb; have BK272 := Aside0.mk (hbox); have GW272 := Aside0.mk ((by rw [hg]; exact (below_size (by repeat (first | (with_reducible first | exact HB.out | apply bU | apply bS GE271.out) | exact HB.out))) : w.heap.size ≤ gb272)); have GE272 := Aside0.mk ((by rw [hg]; exact (below_size (by repeat (first | (with_reducible first | exact HB.out | apply bU | apply bS GE271.out) | exact HB.out))) : w.heap.size ≤ gb272)); have NB271_272 := nl_ BK271 hg; have NB272_271 := ng_ BK271 hg; replace BK271 := bb_ BK271 hb; replace HB := Aside0.mk (below_step (by repeat (first | (with_reducible first | exact HB.out | apply bU | apply bS GE271.out) | exact HB.out)) hb); clear hb hbox hg))
      replace BK271 := Aside0.mk (blk_drew BK271.out)
      replace BK272 := Aside0.mk (blk_drew BK272.out)
      replace HB := Aside0.mk (below_drew1 HB.out)
      refine start_ (n := 43) (S := fun w' => w'.cell? ⟨gb271, 0, none⟩ = some (.int .i64 a0_0) ∧ w'.cell? ⟨gb271, 1, none⟩ = some (.int .i64 a0_1) ∧ w'.cell? ⟨gb271, 2, none⟩ = some (.int .i64 a0_2) ∧ w'.cell? ⟨gb271, 3, none⟩ = some (.bool a0_3) ∧ w'.cell? ⟨gb271, 4, none⟩ = some (.slice A0_4 l0_4.length c0_4) ∧ w'.cell? ⟨gb271, 5, none⟩ = some (.slice A0_5 l0_5.length c0_5) ∧ w'.cell? ⟨gb272, 0, none⟩ = some (.int .i64 a1_0) ∧ w'.cell? ⟨gb272, 1, none⟩ = some (.int .i64 a1_1) ∧ w'.cell? ⟨gb272, 2, none⟩ = some (.int .i64 a1_2) ∧ w'.cell? ⟨gb272, 3, none⟩ = some (.bool a1_3) ∧ w'.cell? ⟨gb272, 4, none⟩ = some (.slice A1_4 l1_4.length c1_4) ∧ w'.cell? ⟨gb272, 5, none⟩ = some (.slice A1_5 l1_5.length c1_5)) (ds := []) #[false, false, false, false, false, false, false, false, false, false, false, false, false, false, false, false, false, false, false, false, false, false, false, false, false, false, false, false, false, false, false, false, false, false, false, false, false, false, false, false, false, false, false] (by kernel_rfl) rfl rfl ⟨(blk_cell BK271.out 0).trans rfl, (blk_cell BK271.out 1).trans rfl, (blk_cell BK271.out 2).trans rfl, (blk_cell BK271.out 3).trans rfl, (blk_cell BK271.out 4).trans rfl, (blk_cell BK271.out 5).trans rfl, (blk_cell BK272.out 0).trans rfl, (blk_cell BK272.out 1).trans rfl, (blk_cell BK272.out 2).trans rfl, (blk_cell BK272.out 3).trans rfl, (blk_cell BK272.out 4).trans rfl, (blk_cell BK272.out 5).trans rfl⟩ (fun hHeld => ?_); refine with_tabW lsa_Same.tab3 lsa_Same.bits3 (fun HT_ HW_ => ?_)
      generalize w20.drew = w21 at BK271 BK272 HB hHeld ⊢
      refine py 0 7 HT_ ?_
      refine py 2 9 HT_ ?_
      refine ty 1 8 HT_ HW_ rfl (Or.inl ⟨by rfl, by rintro w' ⟨s0, s1, s2, s3, s4, s5, s6, s7, s8, s9, s10, s11⟩; go_simp; with_reducible rfl⟩) hHeld ?_
      refine ty 3 10 HT_ HW_ rfl (Or.inl ⟨by rfl, by rintro w' ⟨s0, s1, s2, s3, s4, s5, s6, s7, s8, s9, s10, s11⟩; go_simp; with_reducible rfl⟩) hHeld ?_
      refine py 4 11 HT_ ?_
      refine py 5 12 HT_ ?_
      refine py 6 13 HT_ ?_
      refine py 8 15 HT_ ?_
      refine ty 7 14 HT_ HW_ rfl (Or.inl ⟨by rfl, by rintro w' ⟨s0, s1, s2, s3, s4, s5, s6, s7, s8, s9, s10, s11⟩; go_simp; with_reducible rfl⟩) hHeld ?_
      refine ty 9 16 HT_ HW_ rfl (Or.inl ⟨by rfl, by rintro w' ⟨s0, s1, s2, s3, s4, s5, s6, s7, s8, s9, s10, s11⟩; go_simp; with_reducible rfl⟩) hHeld ?_
      refine py 10 17 HT_ ?_
      refine py 11 18 HT_ ?_
      refine py 12 19 HT_ ?_
      refine py 13 20 HT_ ?_
      refine py 15 22 HT_ ?_
      refine ty 14 21 HT_ HW_ rfl (Or.inl ⟨by rfl, by rintro w' ⟨s0, s1, s2, s3, s4, s5, s6, s7, s8, s9, s10, s11⟩; go_simp; with_reducible rfl⟩) hHeld ?_
      refine ty 16 23 HT_ HW_ rfl (Or.inl ⟨by rfl, by rintro w' ⟨s0, s1, s2, s3, s4, s5, s6, s7, s8, s9, s10, s11⟩; go_simp; with_reducible rfl⟩) hHeld ?_
      refine py 17 24 HT_ ?_
      refine py 18 25 HT_ ?_
      refine py 19 26 HT_ ?_
      refine ty 20 27 HT_ HW_ rfl (Or.inl ⟨by rfl, by rintro w' ⟨s0, s1, s2, s3, s4, s5, s6, s7, s8, s9, s10, s11⟩; go_simp; with_reducible rfl⟩) hHeld ?_
      refine ty 22 29 HT_ HW_ rfl (Or.inl ⟨by rfl, by rintro w' ⟨s0, s1, s2, s3, s4, s5, s6, s7, s8, s9, s10, s11⟩; go_simp; with_reducible rfl⟩) hHeld ?_
      refine one_ (i := 21) (N := some 28) #[true, true, true, true, true, true, true, true, true, true, true, true, true, true, true, true, true, true, true, true, true, true, true, false, false, false, false, false, false, false, false, false, false, false, false, false, false, false, false, false, false, false, false] rfl rfl (one_of HT_.out (by kernel_rfl)) (by decide) (fun K hK => ?_)
      refine goes_ Try.func40 (by kernel_rfl) rfl #[.agg #[.int .i64 a0_0, .int .i64 a0_1, .int .i64 a0_2, .bool a0_3, .slice A0_4 l0_4.length c0_4, .slice A0_5 l0_5.length c0_5]] (by rfl) rfl rfl (by (try simp only [List.map_toArray, List.map_cons, List.map_nil]); first | done | rfl | (simp only [List.length_drop, List.length_take]; rfl)) ?_
      with_reducible refine (lsa_purge.calls a0_0 a0_1 a0_2 a0_3 _ _ l0_4 _ _ l0_5 t273 _ ?side1 ?side2 ?side3 ?side4 A6.out).mono ?_
      (case side1 => exact cs_ HR0_4 HB)
      (case side2 => exact HC0_4.out)
      (case side3 => exact cs_ HR0_5 HB)
      (case side4 => exact HC0_5.out)
      rintro e w22 ⟨rfl, hb⟩
      refine ⟨_, rfl, ?_⟩
      replace BK271 := bb_ BK271 hb
      replace BK272 := bb_ BK272 hb
      replace HB := Aside0.mk (below_step (by repeat (first | (with_reducible first | exact HB.out | apply bU | apply bS GE271.out | apply bS GE272.out) | exact HB.out)) hb)
      (try clear hb)
      refine hK.out _ _ ⟨(blk_cell BK271.out 0).trans rfl, (blk_cell BK271.out 1).trans rfl, (blk_cell BK271.out 2).trans rfl, (blk_cell BK271.out 3).trans rfl, (blk_cell BK271.out 4).trans rfl, (blk_cell BK271.out 5).trans rfl, (blk_cell BK272.out 0).trans rfl, (blk_cell BK272.out 1).trans rfl, (blk_cell BK272.out 2).trans rfl, (blk_cell BK272.out 3).trans rfl, (blk_cell BK272.out 4).trans rfl, (blk_cell BK272.out 5).trans rfl⟩ (fun hHeld => ?_)
      clear hK K
      refine norm_ (a' := ?_) ?_ ?_
      rotate_left
      ·show Act.put _ (some 28) _ = _
       simp only [Act.put, List.setIfInBounds_toArray, List.set_cons_zero, List.set_cons_succ, i64_w, i32_w]
       rfl
      refine one_ (i := 23) (N := some 30) #[true, true, true, true, true, true, true, true, true, true, true, true, true, true, true, true, true, true, true, true, true, true, true, true, false, false, false, false, false, false, false, false, false, false, false, false, false, false, false, false, false, false, false] rfl rfl (one_of HT_.out (by kernel_rfl)) (by decide) (fun K hK => ?_)
      refine goes_ Try.func40 (by kernel_rfl) rfl #[.agg #[.int .i64 a1_0, .int .i64 a1_1, .int .i64 a1_2, .bool a1_3, .slice A1_4 l1_4.length c1_4, .slice A1_5 l1_5.length c1_5]] (by rfl) rfl rfl (by (try simp only [List.map_toArray, List.map_cons, List.map_nil]); first | done | rfl | (simp only [List.length_drop, List.length_take]; rfl)) ?_
      with_reducible refine (lsa_purge.calls a1_0 a1_1 a1_2 a1_3 _ _ l1_4 _ _ l1_5 t274 _ ?side1 ?side2 ?side3 ?side4 A7.out).mono ?_
      (case side1 => exact cs_ HR1_4 HB)
      (case side2 => exact HC1_4.out)
      (case side3 => exact cs_ HR1_5 HB)
      (case side4 => exact HC1_5.out)
      rintro e w23 ⟨rfl, hb⟩
      refine ⟨_, rfl, ?_⟩
      replace BK271 := bb_ BK271 hb
      replace BK272 := bb_ BK272 hb
      replace HB := Aside0.mk (below_step (by repeat (first | (with_reducible first | exact HB.out | apply bU | apply bS GE271.out | apply bS GE272.out) | exact HB.out)) hb)
      (try clear hb)
      refine hK.out _ _ ⟨(blk_cell BK271.out 0).trans rfl, (blk_cell BK271.out 1).trans rfl, (blk_cell BK271.out 2).trans rfl, (blk_cell BK271.out 3).trans rfl, (blk_cell BK271.out 4).trans rfl, (blk_cell BK271.out 5).trans rfl, (blk_cell BK272.out 0).trans rfl, (blk_cell BK272.out 1).trans rfl, (blk_cell BK272.out 2).trans rfl, (blk_cell BK272.out 3).trans rfl, (blk_cell BK272.out 4).trans rfl, (blk_cell BK272.out 5).trans rfl⟩ (fun hHeld => ?_)
      clear hK K
      refine norm_ (a' := ?_) ?_ ?_
      rotate_left
      ·show Act.put _ (some 30) _ = _
       simp only [Act.put, List.setIfInBounds_toArray, List.set_cons_zero, List.set_cons_succ, i64_w, i32_w]
       rfl
      refine py 24 31 HT_ ?_
      refine py 25 32 HT_ ?_
      refine py 26 33 HT_ ?_
      refine py 27 34 HT_ ?_
      refine py 29 36 HT_ ?_
      refine py 31 38 HT_ ?_
      refine ty 28 35 HT_ HW_ rfl (Or.inl ⟨by rfl, by rintro w' ⟨s0, s1, s2, s3, s4, s5, s6, s7, s8, s9, s10, s11⟩; go_simp; with_reducible rfl⟩) hHeld ?_
      refine ty 30 37 HT_ HW_ rfl (Or.inl ⟨by rfl, by rintro w' ⟨s0, s1, s2, s3, s4, s5, s6, s7, s8, s9, s10, s11⟩; go_simp; with_reducible rfl⟩) hHeld ?_
      refine one_ (i := 32) (N := some 39) #[true, true, true, true, true, true, true, true, true, true, true, true, true, true, true, true, true, true, true, true, true, true, true, true, true, true, true, true, true, true, true, true, true, false, false, false, false, false, false, false, false, false, false] rfl rfl (one_of HT_.out (by kernel_rfl)) (by decide) (fun K hK => ?_)
      refine goes_ Try.func48 (by kernel_rfl) rfl #[.slice A0_4 l0_4.length c0_4, .slice A1_4 l1_4.length c1_4, .func (.func 46) #[] #[]] (by rfl) rfl rfl (by (try simp only [List.map_toArray, List.map_cons, List.map_nil]); first | done | rfl | (simp only [List.length_drop, List.length_take]; rfl)) ?_
      with_reducible refine (api_Adjacency_48.calls k _ _ l0_4 _ _ l1_4  false _ ?side1 ?side2 ?side3 ?side4 A9.out).mono ?_
      (case side1 => exact cs_ HR0_4 HB)
      (case side2 => exact HC0_4.out)
      (case side3 => exact cs_ HR1_4 HB)
      (case side4 => exact HC1_4.out)
      rintro e w24 ⟨rfl, hb⟩
      refine ⟨_, rfl, ?_⟩
      replace BK271 := bb_ BK271 hb
      replace BK272 := bb_ BK272 hb
      replace HB := Aside0.mk (below_step (by repeat (first | (with_reducible first | exact HB.out | apply bU | apply bS GE271.out | apply bS GE272.out) | exact HB.out)) hb)
      (try clear hb)
      refine hK.out _ _ ⟨(blk_cell BK271.out 0).trans rfl, (blk_cell BK271.out 1).trans rfl, (blk_cell BK271.out 2).trans rfl, (blk_cell BK271.out 3).trans rfl, (blk_cell BK271.out 4).trans rfl, (blk_cell BK271.out 5).trans rfl, (blk_cell BK272.out 0).trans rfl, (blk_cell BK272.out 1).trans rfl, (blk_cell BK272.out 2).trans rfl, (blk_cell BK272.out 3).trans rfl, (blk_cell BK272.out 4).trans rfl, (blk_cell BK272.out 5).trans rfl⟩ (fun hHeld => ?_)
      clear hK K
      refine norm_ (a' := ?_) ?_ ?_
      rotate_left
      ·show Act.put _ (some 39) _ = _
       simp only [Act.put, List.setIfInBounds_toArray, List.set_cons_zero, List.set_cons_succ, i64_w, i32_w]
       rfl
      refine py 33 40 HT_ ?_
      refine py 34 41 HT_ ?_
      refine pu 35 42 HT_ ?_
      refine pu 36 43 HT_ ?_
      refine pu 37 44 HT_ ?_
      refine pu 38 45 HT_ ?_
      refine pu 39 46 HT_ ?_
      refine pu 40 47 HT_ ?_
      refine py 41 48 HT_ ?_
      refine py 42 4 HT_ ?_
      refine done_ (done_of HT_.out (by kernel_rfl)) ?_
      try go_wp2
      go_ret
      exact ⟨by first | rfl | (simp [errW_none, errW_some] <;> rfl) | (simp [*, errW_none, errW_some] <;> rfl), by repeat (first | (with_reducible first | exact HB.out | apply bU | apply bS GE271.out | apply bS GE272.out) | exact HB.out)⟩
    ·rw [if_neg c8] at H
     have c8b0 : (t273 == t274) = false := beq_eq_false_iff_ne.mpr c8
     have c8b1 : (t273 != t274) = true := bne_iff_ne.mpr c8
     obtain rfl := Option.some.inj H
     go_enter Try.func31, Try.ntmps31
     try go_wp2_with (first | ((with_reducible refine gate_dst (N := 2) rfl ?_); refine bx_ 2 #[.int .i64 a0_0, .int .i64 a0_1, .int .i64 a0_2, .bool a0_3, .slice A0_4 l0_4.length c0_4, .slice A0_5 l0_5.length c0_5] 32 rfl rfl ?hr ?_; (case hr => go_simp; try rfl); intro gb271 hg w25 hbox hb; have BK271 := Aside0.mk (hbox); have GW271 := gs_ HB hg; have GE271 := gs_ HB hg; replace HB := bs_ HB hb; clear hb hbox hg) | ((with_reducible refine gate_dst (N := 3) rfl ?_); refine bx_ 3 #[.int .i64 a1_0, .int .i64 a1_1, .int .i64 a1_2, .bool a1_3, .slice A1_4 l1_4.length c1_4, .slice A1_5 l1_5.length c1_5] 32 rfl rfl ?hr ?_; (case hr => go_simp; try rfl); intro gb272 hg w26 hbox hb; have BK272 := Aside0.mk (hbox); have GW272 := Aside0.mk ((by rw [hg]; exact (below_size (by repeat (first | (with_reducible first | exact HB.out | apply bU | apply bS GE271.out) | exact HB.out))) : w.heap.size ≤ gb272)); have GE272 := Aside0.mk ((by rw [hg]; exact (below_size (by repeat (first | (with_reducible first | exact HB.out | apply bU | apply bS GE271.out) | exact HB.out))) : w.heap.size ≤ gb272)); have NB271_272 := nl_ BK271 hg; have NB272_271 := ng_ BK271 hg; replace BK271 := bb_ BK271 hb; replace HB := Aside0.mk (below_step (by repeat (first | (with_reducible first | exact HB.out | apply bU | apply bS GE271.out) | exact HB.out)) hb); clear hb hbox hg))
     replace BK271 := Aside0.mk (blk_drew BK271.out)
     replace BK272 := Aside0.mk (blk_drew BK272.out)
     replace HB := Aside0.mk (below_drew1 HB.out)
     refine start_ (n := 43) (S := fun w' => w'.cell? ⟨gb271, 0, none⟩ = some (.int .i64 a0_0) ∧ w'.cell? ⟨gb271, 1, none⟩ = some (.int .i64 a0_1) ∧ w'.cell? ⟨gb271, 2, none⟩ = some (.int .i64 a0_2) ∧ w'.cell? ⟨gb271, 3, none⟩ = some (.bool a0_3) ∧ w'.cell? ⟨gb271, 4, none⟩ = some (.slice A0_4 l0_4.length c0_4) ∧ w'.cell? ⟨gb271, 5, none⟩ = some (.slice A0_5 l0_5.length c0_5) ∧ w'.cell? ⟨gb272, 0, none⟩ = some (.int .i64 a1_0) ∧ w'.cell? ⟨gb272, 1, none⟩ = some (.int .i64 a1_1) ∧ w'.cell? ⟨gb272, 2, none⟩ = some (.int .i64 a1_2) ∧ w'.cell? ⟨gb272, 3, none⟩ = some (.bool a1_3) ∧ w'.cell? ⟨gb272, 4, none⟩ = some (.slice A1_4 l1_4.length c1_4) ∧ w'.cell? ⟨gb272, 5, none⟩ = some (.slice A1_5 l1_5.length c1_5)) (ds := []) #[false, false, false, false, false, false, false, false, false, false, false, false, false, false, false, false, false, false, false, false, false, false, false, false, false, false, false, false, false, false, false, false, false, false, false, false, false, false, false, false, false, false, false] (by kernel_rfl) rfl rfl ⟨(blk_cell BK271.out 0).trans rfl, (blk_cell BK271.out 1).trans rfl, (blk_cell BK271.out 2).trans rfl, (blk_cell BK271.out 3).trans rfl, (blk_cell BK271.out 4).trans rfl, (blk_cell BK271.out 5).trans rfl, (blk_cell BK272.out 0).trans rfl, (blk_cell BK272.out 1).trans rfl, (blk_cell BK272.out 2).trans rfl, (blk_cell BK272.out 3).trans rfl, (blk_cell BK272.out 4).trans rfl, (blk_cell BK272.out 5).trans rfl⟩ (fun hHeld => ?_); refine with_tabW lsa_Same.tab3 lsa_Same.bits3 (fun HT_ HW_ => ?_)
     generalize w26.drew = w27 at BK271 BK272 HB hHeld ⊢
     refine py 0 7 HT_ ?_
     refine py 2 9 HT_ ?_
     refine ty 1 8 HT_ HW_ rfl (Or.inl ⟨by rfl, by rintro w' ⟨s0, s1, s2, s3, s4, s5, s6, s7, s8, s9, s10, s11⟩; go_simp; with_reducible rfl⟩) hHeld ?_
     refine ty 3 10 HT_ HW_ rfl (Or.inl ⟨by rfl, by rintro w' ⟨s0, s1, s2, s3, s4, s5, s6, s7, s8, s9, s10, s11⟩; go_simp; with_reducible rfl⟩) hHeld ?_
     refine py 4 11 HT_ ?_
     refine py 5 12 HT_ ?_
     refine py 6 13 HT_ ?_
     refine py 8 15 HT_ ?_
     refine ty 7 14 HT_ HW_ rfl (Or.inl ⟨by rfl, by rintro w' ⟨s0, s1, s2, s3, s4, s5, s6, s7, s8, s9, s10, s11⟩; go_simp; with_reducible rfl⟩) hHeld ?_
     refine ty 9 16 HT_ HW_ rfl (Or.inl ⟨by rfl, by rintro w' ⟨s0, s1, s2, s3, s4, s5, s6, s7, s8, s9, s10, s11⟩; go_simp; with_reducible rfl⟩) hHeld ?_
     refine py 10 17 HT_ ?_
     refine py 11 18 HT_ ?_
     refine py 12 19 HT_ ?_
     refine py 13 20 HT_ ?_
     refine py 15 22 HT_ ?_
     refine ty 14 21 HT_ HW_ rfl (Or.inl ⟨by rfl, by rintro w' ⟨s0, s1, s2, s3, s4, s5, s6, s7, s8, s9, s10, s11⟩; go_simp; with_reducible rfl⟩) hHeld ?_
     refine ty 16 23 HT_ HW_ rfl (Or.inl ⟨by rfl, by rintro w' ⟨s0, s1, s2, s3, s4, s5, s6, s7, s8, s9, s10, s11⟩; go_simp; with_reducible rfl⟩) hHeld ?_
     refine py 17 24 HT_ ?_
     refine py 18 25 HT_ ?_
     refine py 19 26 HT_ ?_
     refine ty 20 27 HT_ HW_ rfl (Or.inl ⟨by rfl, by rintro w' ⟨s0, s1, s2, s3, s4, s5, s6, s7, s8, s9, s10, s11⟩; go_simp; with_reducible rfl⟩) hHeld ?_
     refine ty 22 29 HT_ HW_ rfl (Or.inl ⟨by rfl, by rintro w' ⟨s0, s1, s2, s3, s4, s5, s6, s7, s8, s9, s10, s11⟩; go_simp; with_reducible rfl⟩) hHeld ?_
     refine one_ (i := 21) (N := some 28) #[true, true, true, true, true, true, true, true, true, true, true, true, true, true, true, true, true, true, true, true, true, true, true, false, false, false, false, false, false, false, false, false, false, false, false, false, false, false, false, false, false, false, false] rfl rfl (one_of HT_.out (by kernel_rfl)) (by decide) (fun K hK => ?_)
     refine goes_ Try.func40 (by kernel_rfl) rfl #[.agg #[.int .i64 a0_0, .int .i64 a0_1, .int .i64 a0_2, .bool a0_3, .slice A0_4 l0_4.length c0_4, .slice A0_5 l0_5.length c0_5]] (by rfl) rfl rfl (by (try simp only [List.map_toArray, List.map_cons, List.map_nil]); first | done | rfl | (simp only [List.length_drop, List.length_take]; rfl)) ?_
     with_reducible refine (lsa_purge.calls a0_0 a0_1 a0_2 a0_3 _ _ l0_4 _ _ l0_5 t273 _ ?side1 ?side2 ?side3 ?side4 A6.out).mono ?_
     (case side1 => exact cs_ HR0_4 HB)
     (case side2 => exact HC0_4.out)
     (case side3 => exact cs_ HR0_5 HB)
     (case side4 => exact HC0_5.out)
     rintro e w28 ⟨rfl, hb⟩
     refine ⟨_, rfl, ?_⟩
     replace BK271 := bb_ BK271 hb
     replace BK272 := bb_ BK272 hb
     replace HB := Aside0.mk (below_step (by repeat (first | (with_reducible first | exact HB.out | apply bU | apply bS GE271.out | apply bS GE272.out) | exact HB.out)) hb)
     (try clear hb)
     refine hK.out _ _ ⟨(blk_cell BK271.out 0).trans rfl, (blk_cell BK271.out 1).trans rfl, (blk_cell BK271.out 2).trans rfl, (blk_cell BK271.out 3).trans rfl, (blk_cell BK271.out 4).trans rfl, (blk_cell BK271.out 5).trans rfl, (blk_cell BK272.out 0).trans rfl, (blk_cell BK272.out 1).trans rfl, (blk_cell BK272.out 2).trans rfl, (blk_cell BK272.out 3).trans rfl, (blk_cell BK272.out 4).trans rfl, (blk_cell BK272.out 5).trans rfl⟩ (fun hHeld => ?_)
     clear hK K
     refine norm_ (a' := ?_) ?_ ?_
     rotate_left
     ·show Act.put _ (some 28) _ = _
      simp only [Act.put, List.setIfInBounds_toArray, List.set_cons_zero, List.set_cons_succ, i64_w, i32_w]
      rfl
     refine one_ (i := 23) (N := some 30) #[true, true, true, true, true, true, true, true, true, true, true, true, true, true, true, true, true, true, true, true, true, true, true, true, false, false, false, false, false, false, false, false, false, false, false, false, false, false, false, false, false, false, false] rfl rfl (one_of HT_.out (by kernel_rfl)) (by decide) (fun K hK => ?_)
     refine goes_ Try.func40 (by kernel_rfl) rfl #[.agg #[.int .i64 a1_0, .int .i64 a1_1, .int .i64 a1_2, .bool a1_3, .slice A1_4 l1_4.length c1_4, .slice A1_5 l1_5.length c1_5]] (by rfl) rfl rfl (by (try simp only [List.map_toArray, List.map_cons, List.map_nil]); first | done | rfl | (simp only [List.length_drop, List.length_take]; rfl)) ?_
     with_reducible refine (lsa_purge.calls a1_0 a1_1 a1_2 a1_3 _ _ l1_4 _ _ l1_5 t274 _ ?side1 ?side2 ?side3 ?side4 A7.out).mono ?_
     (case side1 => exact cs_ HR1_4 HB)
     (case side2 => exact HC1_4.out)
     (case side3 => exact cs_ HR1_5 HB)
     (case side4 => exact HC1_5.out)
     rintro e w29 ⟨rfl, hb⟩
     refine ⟨_, rfl, ?_⟩
     replace BK271 := bb_ BK271 hb
     replace BK272 := bb_ BK272 hb
     replace HB := Aside0.mk (below_step (by repeat (first | (with_reducible first | exact HB.out | apply bU | apply bS GE271.out | apply bS GE272.out) | exact HB.out)) hb)
     (try clear hb)
     refine hK.out _ _ ⟨(blk_cell BK271.out 0).trans rfl, (blk_cell BK271.out 1).trans rfl, (blk_cell BK271.out 2).trans rfl, (blk_cell BK271.out 3).trans rfl, (blk_cell BK271.out 4).trans rfl, (blk_cell BK271.out 5).trans rfl, (blk_cell BK272.out 0).trans rfl, (blk_cell BK272.out 1).trans rfl, (blk_cell BK272.out 2).trans rfl, (blk_cell BK272.out 3).trans rfl, (blk_cell BK272.out 4).trans rfl, (blk_cell BK272.out 5).trans rfl⟩ (fun hHeld => ?_)
     clear hK K
     refine norm_ (a' := ?_) ?_ ?_
     rotate_left
     ·show Act.put _ (some 30) _ = _
      simp only [Act.put, List.setIfInBounds_toArray, List.set_cons_zero, List.set_cons_succ, i64_w, i32_w]
      rfl
     refine py 24 31 HT_ ?_
     refine py 25 32 HT_ ?_
     refine py 26 33 HT_ ?_
     refine pu 27 34 HT_ ?_
     refine pu 28 35 HT_ ?_
     refine pu 29 36 HT_ ?_
     refine pu 30 37 HT_ ?_
     refine pu 31 38 HT_ ?_
     refine pu 32 39 HT_ ?_
     refine py 33 40 HT_ ?_
     refine py 34 41 HT_ ?_
     refine pu 35 42 HT_ ?_
     refine pu 36 43 HT_ ?_
     refine pu 37 44 HT_ ?_
     refine pu 38 45 HT_ ?_
     refine pu 39 46 HT_ ?_
     refine pu 40 47 HT_ ?_
     refine py 41 48 HT_ ?_
     refine py 42 4 HT_ ?_
     refine done_ (done_of HT_.out (by kernel_rfl)) ?_
     try go_wp2
     go_ret
     exact ⟨by first | rfl | (simp [errW_none, errW_some] <;> rfl) | (simp [*, errW_none, errW_some] <;> rfl), by repeat (first | (with_reducible first | exact HB.out | apply bU | apply bS GE271.out | apply bS GE272.out) | exact HB.out)⟩
   ·rw [if_neg c5] at H
    have c5b0 : (a0_3 == a1_3) = false := by simpa using c5
    (try (have c5b1 : decide (a0_3 = a1_3) = false := by simpa using c5))
    (try (have c5b2 : (a0_3 == a1_3) = false := by simpa using c5))
    (try (have c5b3 : ¬ (a0_3 = a1_3) := by simpa using c5))
    clear c5
    obtain rfl := Option.some.inj H
    go_enter Try.func31, Try.ntmps31
    try go_wp2_with (first | ((with_reducible refine gate_dst (N := 2) rfl ?_); refine bx_ 2 #[.int .i64 a0_0, .int .i64 a0_1, .int .i64 a0_2, .bool a0_3, .slice A0_4 l0_4.length c0_4, .slice A0_5 l0_5.length c0_5] 32 rfl rfl ?hr ?_; (case hr => go_simp; try rfl); intro gb271 hg w30 hbox hb; have BK271 := Aside0.mk (hbox); have GW271 := gs_ HB hg; have GE271 := gs_ HB hg; replace HB := bs_ HB hb; clear hb hbox hg) | ((with_reducible refine gate_dst (N := 3) rfl ?_); refine bx_ 3 #[.int .i64 a1_0, .int .i64 a1_1, .int .i64 a1_2, .bool a1_3, .slice A1_4 l1_4.length c1_4, .slice A1_5 l1_5.length c1_5] 32 rfl rfl ?hr ?_; (case hr => go_simp; try rfl); intro gb272 hg w31 hbox hb; have BK272 := Aside0.mk (hbox); have GW272 := Aside0.mk ((by rw [hg]; exact (below_size (by repeat (first | (with_reducible first | exact HB.out | apply bU | apply bS GE271.out) | exact HB.out))) : w.heap.size ≤ gb272)); have GE272 := Aside0.mk ((by rw [hg]; exact (below_size (by repeat (first | (with_reducible first | exact HB.out | apply bU | apply bS GE271.out) | exact HB.out))) : w.heap.size ≤ gb272)); have NB271_272 := nl_ BK271 hg; have NB272_271 := ng_ BK271 hg; replace BK271 := bb_ BK271 hb; replace HB := Aside0.mk (below_step (by repeat (first | (with_reducible first | exact HB.out | apply bU | apply bS GE271.out) | exact HB.out)) hb); clear hb hbox hg))
    replace BK271 := Aside0.mk (blk_drew BK271.out)
    replace BK272 := Aside0.mk (blk_drew BK272.out)
    replace HB := Aside0.mk (below_drew1 HB.out)
    refine start_ (n := 43) (S := fun w' => w'.cell? ⟨gb271, 0, none⟩ = some (.int .i64 a0_0) ∧ w'.cell? ⟨gb271, 1, none⟩ = some (.int .i64 a0_1) ∧ w'.cell? ⟨gb271, 2, none⟩ = some (.int .i64 a0_2) ∧ w'.cell? ⟨gb271, 3, none⟩ = some (.bool a0_3) ∧ w'.cell? ⟨gb271, 4, none⟩ = some (.slice A0_4 l0_4.length c0_4) ∧ w'.cell? ⟨gb271, 5, none⟩ = some (.slice A0_5 l0_5.length c0_5) ∧ w'.cell? ⟨gb272, 0, none⟩ = some (.int .i64 a1_0) ∧ w'.cell? ⟨gb272, 1, none⟩ = some (.int .i64 a1_1) ∧ w'.cell? ⟨gb272, 2, none⟩ = some (.int .i64 a1_2) ∧ w'.cell? ⟨gb272, 3, none⟩ = some (.bool a1_3) ∧ w'.cell? ⟨gb272, 4, none⟩ = some (.slice A1_4 l1_4.length c1_4) ∧ w'.cell? ⟨gb272, 5, none⟩ = some (.slice A1_5 l1_5.length c1_5)) (ds := []) #[false, false, false, false, false, false, false, false, false, false, false, false, false, false, false, false, false, false, false, false, false, false, false, false, false, false, false, false, false, false, false, false, false, false, false, false, false, false, false, false, false, false, false] (by kernel_rfl) rfl rfl ⟨(blk_cell BK271.out 0).trans rfl, (blk_cell BK271.out 1).trans rfl, (blk_cell BK271.out 2).trans rfl, (blk_cell BK271.out 3).trans rfl, (blk_cell BK271.out 4).trans rfl, (blk_cell BK271.out 5).trans rfl, (blk_cell BK272.out 0).trans rfl, (blk_cell BK272.out 1).trans rfl, (blk_cell BK272.out 2).trans rfl, (blk_cell BK272.out 3).trans rfl, (blk_cell BK272.out 4).trans rfl, (blk_cell BK272.out 5).trans rfl⟩ (fun hHeld => ?_); refine with_tabW lsa_Same.tab3 lsa_Same.bits3 (fun HT_ HW_ => ?_)
    generalize w31.drew = w32 at BK271 BK272 HB hHeld ⊢
    refine py 0 7 HT_ ?_
    refine py 2 9 HT_ ?_
    refine ty 1 8 HT_ HW_ rfl (Or.inl ⟨by rfl, by rintro w' ⟨s0, s1, s2, s3, s4, s5, s6, s7, s8, s9, s10, s11⟩; go_simp; with_reducible rfl⟩) hHeld ?_
    refine ty 3 10 HT_ HW_ rfl (Or.inl ⟨by rfl, by rintro w' ⟨s0, s1, s2, s3, s4, s5, s6, s7, s8, s9, s10, s11⟩; go_simp; with_reducible rfl⟩) hHeld ?_
    refine py 4 11 HT_ ?_
    refine py 5 12 HT_ ?_
    refine py 6 13 HT_ ?_
    refine py 8 15 HT_ ?_
    refine ty 7 14 HT_ HW_ rfl (Or.inl ⟨by rfl, by rintro w' ⟨s0, s1, s2, s3, s4, s5, s6, s7, s8, s9, s10, s11⟩; go_simp; with_reducible rfl⟩) hHeld ?_
    refine ty 9 16 HT_ HW_ rfl (Or.inl ⟨by rfl, by rintro w' ⟨s0, s1, s2, s3, s4, s5, s6, s7, s8, s9, s10, s11⟩; go_simp; with_reducible rfl⟩) hHeld ?_
    refine py 10 17 HT_ ?_
    refine py 11 18 HT_ ?_
    refine py 12 19 HT_ ?_
    refine py 13 20 HT_ ?_
    refine py 15 22 HT_ ?_
    refine ty 14 21 HT_ HW_ rfl (Or.inl ⟨by rfl, by rintro w' ⟨s0, s1, s2, s3, s4, s5, s6, s7, s8, s9, s10, s11⟩; go_simp; with_reducible rfl⟩) hHeld ?_
    refine ty 16 23 HT_ HW_ rfl (Or.inl ⟨by rfl, by rintro w' ⟨s0, s1, s2, s3, s4, s5, s6, s7, s8, s9, s10, s11⟩; go_simp; with_reducible rfl⟩) hHeld ?_
    refine py 17 24 HT_ ?_
    refine py 18 25 HT_ ?_
    refine py 19 26 HT_ ?_
    refine pu 20 27 HT_ ?_
    refine pu 21 28 HT_ ?_
    refine pu 22 29 HT_ ?_
    refine pu 23 30 HT_ ?_
    refine pu 24 31 HT_ ?_
    refine py 25 32 HT_ ?_
    refine py 26 33 HT_ ?_
    refine pu 27 34 HT_ ?_
    refine pu 28 35 HT_ ?_
    refine pu 29 36 HT_ ?_
    refine pu 30 37 HT_ ?_
    refine pu 31 38 HT_ ?_
    refine pu 32 39 HT_ ?_
    refine py 33 40 HT_ ?_
    refine py 34 41 HT_ ?_
    refine pu 35 42 HT_ ?_
    refine pu 36 43 HT_ ?_
    refine pu 37 44 HT_ ?_
    refine pu 38 45 HT_ ?_
    refine pu 39 46 HT_ ?_
    refine pu 40 47 HT_ ?_
    refine py 41 48 HT_ ?_
    refine py 42 4 HT_ ?_
    refine done_ (done_of HT_.out (by kernel_rfl)) ?_
    try go_wp2
    go_ret
    exact ⟨by first | rfl | (simp [errW_none, errW_some] <;> rfl) | (simp [*, errW_none, errW_some] <;> rfl), by repeat (first | (with_reducible first | exact HB.out | apply bU | apply bS GE271.out | apply bS GE272.out) | exact HB.out)⟩
  ·rw [if_neg c4] at H
   have c4b0 : (a0_1 == a1_1) = false := beq_eq_false_iff_ne.mpr c4
   have c4b1 : (a0_1 != a1_1) = true := bne_iff_ne.mpr c4
   obtain rfl := Option.some.inj H
   go_enter Try.func31, Try.ntmps31
   try go_wp2_with (first | ((with_reducible refine gate_dst (N := 2) rfl ?_); refine bx_ 2 #[.int .i64 a0_0, .int .i64 a0_1, .int .i64 a0_2, .bool a0_3, .slice A0_4 l0_4.length c0_4, .slice A0_5 l0_5.length c0_5] 32 rfl rfl ?hr ?_; (case hr => go_simp; try rfl); intro gb271 hg w33 hbox hb; have BK271 := Aside0.mk (hbox); have GW271 := gs_ HB hg; have GE271 := gs_ HB hg; replace HB := bs_ HB hb; clear hb hbox hg) | ((with_reducible refine gate_dst (N := 3) rfl ?_); refine bx_ 3 #[.int .i64 a1_0, .int .i64 a1_1, .int .i64 a1_2, .bool a1_3, .slice A1_4 l1_4.length c1_4, .slice A1_5 l1_5.length c1_5] 32 rfl rfl ?hr ?_; (case hr => go_simp; try rfl); intro gb272 hg w34 hbox hb; have BK272 := Aside0.mk (hbox); have GW272 := Aside0.mk ((by rw [hg]; exact (below_size (by repeat (first | (with_reducible first | exact HB.out | apply bU | apply bS GE271.out) | exact HB.out))) : w.heap.size ≤ gb272)); have GE272 := Aside0.mk ((by rw [hg]; exact (below_size (by repeat (first | (with_reducible first | exact HB.out | apply bU | apply bS GE271.out) | exact HB.out))) : w.heap.size ≤ gb272)); have NB271_272 := nl_ BK271 hg; have NB272_271 := ng_ BK271 hg; replace BK271 := bb_ BK271 hb; replace HB := Aside0.mk (below_step (by repeat (first | (with_reducible first | exact HB.out | apply bU | apply bS GE271.out) | exact HB.out)) hb); clear hb hbox hg))
   replace BK271 := Aside0.mk (blk_drew BK271.out)
   replace BK272 := Aside0.mk (blk_drew BK272.out)
   replace HB := Aside0.mk (below_drew1 HB.out)
   refine start_ (n := 43) (S := fun w' => w'.cell? ⟨gb271, 0, none⟩ = some (.int .i64 a0_0) ∧ w'.cell? ⟨gb271, 1, none⟩ = some (.int .i64 a0_1) ∧ w'.cell? ⟨gb271, 2, none⟩ = some (.int .i64 a0_2) ∧ w'.cell? ⟨gb271, 3, none⟩ = some (.bool a0_3) ∧ w'.cell? ⟨gb271, 4, none⟩ = some (.slice A0_4 l0_4.length c0_4) ∧ w'.cell? ⟨gb271, 5, none⟩ = some (.slice A0_5 l0_5.length c0_5) ∧ w'.cell? ⟨gb272, 0, none⟩ = some (.int .i64 a1_0) ∧ w'.cell? ⟨gb272, 1, none⟩ = some (.int .i64 a1_1) ∧ w'.cell? ⟨gb272, 2, none⟩ = some (.int .i64 a1_2) ∧ w'.cell? ⟨gb272, 3, none⟩ = some (.bool a1_3) ∧ w'.cell? ⟨gb272, 4, none⟩ = some (.slice A1_4 l1_4.length c1_4) ∧ w'.cell? ⟨gb272, 5, none⟩ = some (.slice A1_5 l1_5.length c1_5)) (ds := []) #[false, false, false, false, false, false, false, false, false, false, false, false, false, false, false, false, false, false, false, false, false, false, false, false, false, false, false, false, false, false, false, false, false, false, false, false, false, false, false, false, false, false, false] (by kernel_rfl) rfl rfl ⟨(blk_cell BK271.out 0).trans rfl, (blk_cell BK271.out 1).trans rfl, (blk_cell BK271.out 2).trans rfl, (blk_cell BK271.out 3).trans rfl, (blk_cell BK271.out 4).trans rfl, (blk_cell BK271.out 5).trans rfl, (blk_cell BK272.out 0).trans rfl, (blk_cell BK272.out 1).trans rfl, (blk_cell BK272.out 2).trans rfl, (blk_cell BK272.out 3).trans rfl, (blk_cell BK272.out 4).trans rfl, (blk_cell BK272.out 5).trans rfl⟩ (fun hHeld => ?_); refine with_tabW lsa_Same.tab3 lsa_Same.bits3 (fun HT_ HW_ => ?_)
   generalize w34.drew = w35 at BK271 BK272 HB hHeld ⊢
   refine py 0 7 HT_ ?_
   refine py 2 9 HT_ ?_
   refine ty 1 8 HT_ HW_ rfl (Or.inl ⟨by rfl, by rintro w' ⟨s0, s1, s2, s3, s4, s5, s6, s7, s8, s9, s10, s11⟩; go_simp; with_reducible rfl⟩) hHeld ?_
   refine ty 3 10 HT_ HW_ rfl (Or.inl ⟨by rfl, by rintro w' ⟨s0, s1, s2, s3, s4, s5, s6, s7, s8, s9, s10, s11⟩; go_simp; with_reducible rfl⟩) hHeld ?_
   refine py 4 11 HT_ ?_
   refine py 5 12 HT_ ?_
   refine py 6 13 HT_ ?_
   refine py 8 15 HT_ ?_
   refine ty 7 14 HT_ HW_ rfl (Or.inl ⟨by rfl, by rintro w' ⟨s0, s1, s2, s3, s4, s5, s6, s7, s8, s9, s10, s11⟩; go_simp; with_reducible rfl⟩) hHeld ?_
   refine ty 9 16 HT_ HW_ rfl (Or.inl ⟨by rfl, by rintro w' ⟨s0, s1, s2, s3, s4, s5, s6, s7, s8, s9, s10, s11⟩; go_simp; with_reducible rfl⟩) hHeld ?_
   refine py 10 17 HT_ ?_
   refine py 11 18 HT_ ?_
   refine py 12 19 HT_ ?_
   refine pu 13 20 HT_ ?_
   refine pu 14 21 HT_ ?_
   refine pu 15 22 HT_ ?_
   refine pu 16 23 HT_ ?_
   refine pu 17 24 HT_ ?_
   refine py 18 25 HT_ ?_
   refine py 19 26 HT_ ?_
   refine pu 20 27 HT_ ?_
   refine pu 21 28 HT_ ?_
   refine pu 22 29 HT_ ?_
   refine pu 23 30 HT_ ?_
   refine pu 24 31 HT_ ?_
   refine py 25 32 HT_ ?_
   refine py 26 33 HT_ ?_
   refine pu 27 34 HT_ ?_
   refine pu 28 35 HT_ ?_
   refine pu 29 36 HT_ ?_
   refine pu 30 37 HT_ ?_
   refine pu 31 38 HT_ ?_
   refine pu 32 39 HT_ ?_
   refine py 33 40 HT_ ?_
   refine py 34 41 HT_ ?_
   refine pu 35 42 HT_ ?_
   refine pu 36 43 HT_ ?_
   refine pu 37 44 HT_ ?_
   refine pu 38 45 HT_ ?_
   refine pu 39 46 HT_ ?_
   refine pu 40 47 HT_ ?_
   refine py 41 48 HT_ ?_
   refine py 42 4 HT_ ?_
   refine done_ (done_of HT_.out (by kernel_rfl)) ?_
   try go_wp2
   go_ret
   exact ⟨by first | rfl | (simp [errW_none, errW_some] <;> rfl) | (simp [*, errW_none, errW_some] <;> rfl), by repeat (first | (with_reducible first | exact HB.out | apply bU | apply bS GE271.out | apply bS GE272.out) | exact HB.out)⟩
 ·rw [if_neg c3] at H
  have c3b0 : (a0_0 == a1_0) = false := beq_eq_false_iff_ne.mpr c3
  have c3b1 : (a0_0 != a1_0) = true := bne_iff_ne.mpr c3
  obtain rfl := Option.some.inj H
  go_enter Try.func31, Try.ntmps31
  try go_wp2_with (first | ((with_reducible refine gate_dst (N := 2) rfl ?_); refine bx_ 2 #[.int .i64 a0_0, .int .i64 a0_1, .int .i64 a0_2, .bool a0_3, .slice A0_4 l0_4.length c0_4, .slice A0_5 l0_5.length c0_5] 32 rfl rfl ?hr ?_; (case hr => go_simp; try rfl); intro gb271 hg w36 hbox hb; have BK271 := Aside0.mk (hbox); have GW271 := gs_ HB hg; have GE271 := gs_ HB hg; replace HB := bs_ HB hb; clear hb hbox hg) | ((with_reducible refine gate_dst (N := 3) rfl ?_); refine bx_ 3 #[.int .i64 a1_0, .int .i64 a1_1, .int .i64 a1_2, .bool a1_3, .slice A1_4 l1_4.length c1_4, .slice A1_5 l1_5.length c1_5] 32 rfl rfl ?hr ?_; (case hr => go_simp; try rfl); intro gb272 hg w37 hbox hb; have BK272 := Aside0.mk (hbox); have GW272 := Aside0.mk ((by rw [hg]; exact (below_size (by repeat (first | (with_reducible first | exact HB.out | apply bU | apply bS GE271.out) | exact HB.out))) : w.heap.size ≤ gb272)); have GE272 := Aside0.mk ((by rw [hg]; exact (below_size (by repeat (first | (with_reducible first | exact HB.out | apply bU | apply bS GE271.out) | exact HB.out))) : w.heap.size ≤ gb272)); have NB271_272 := nl_ BK271 hg; have NB272_271 := ng_ BK271 hg; replace BK271 := bb_ BK271 hb; replace HB := Aside0.mk (below_step (by repeat (first | (with_reducible first | exact HB.out | apply bU | apply bS GE271.out) | exact HB.out)) hb); clear hb hbox hg))
  replace BK271 := Aside0.mk (blk_drew BK271.out)
  replace BK272 := Aside0.mk (blk_drew BK272.out)
  replace HB := Aside0.mk (below_drew1 HB.out)
  refine start_ (n := 43) (S := fun w' => w'.cell? ⟨gb271, 0, none⟩ = some (.int .i64 a0_0) ∧ w'.cell? ⟨gb271, 1, none⟩ = some (.int .i64 a0_1) ∧ w'.cell? ⟨gb271, 2, none⟩ = some (.int .i64 a0_2) ∧ w'.cell? ⟨gb271, 3, none⟩ = some (.bool a0_3) ∧ w'.cell? ⟨gb271, 4, none⟩ = some (.slice A0_4 l0_4.length c0_4) ∧ w'.cell? ⟨gb271, 5, none⟩ = some (.slice A0_5 l0_5.length c0_5) ∧ w'.cell? ⟨gb272, 0, none⟩ = some (.int .i64 a1_0) ∧ w'.cell? ⟨gb272, 1, none⟩ = some (.int .i64 a1_1) ∧ w'.cell? ⟨gb272, 2, none⟩ = some (.int .i64 a1_2) ∧ w'.cell? ⟨gb272, 3, none⟩ = some (.bool a1_3) ∧ w'.cell? ⟨gb272, 4, none⟩ = some (.slice A1_4 l1_4.length c1_4) ∧ w'.cell? ⟨gb272, 5, none⟩ = some (.slice A1_5 l1_5.length c1_5)) (ds := []) #[false, false, false, false, false, false, false, false, false, false, false, false, false, false, false, false, false, false, false, false, false, false, false, false, false, false, false, false, false, false, false, false, false, false, false, false, false, false, false, false, false, false, false] (by kernel_rfl) rfl rfl ⟨(blk_cell BK271.out 0).trans rfl, (blk_cell BK271.out 1).trans rfl, (blk_cell BK271.out 2).trans rfl, (blk_cell BK271.out 3).trans rfl, (blk_cell BK271.out 4).trans rfl, (blk_cell BK271.out 5).trans rfl, (blk_cell BK272.out 0).trans rfl, (blk_cell BK272.out 1).trans rfl, (blk_cell BK272.out 2).trans rfl, (blk_cell BK272.out 3).trans rfl, (blk_cell BK272.out 4).trans rfl, (blk_cell BK272.out 5).trans rfl⟩ (fun hHeld => ?_); refine with_tabW lsa_Same.tab3 lsa_Same.bits3 (fun HT_ HW_ => ?_)
  generalize w37.drew = w38 at BK271 BK272 HB hHeld ⊢
  refine py 0 7 HT_ ?_
  refine py 2 9 HT_ ?_
  refine ty 1 8 HT_ HW_ rfl (Or.inl ⟨by rfl, by rintro w' ⟨s0, s1, s2, s3, s4, s5, s6, s7, s8, s9, s10, s11⟩; go_simp; with_reducible rfl⟩) hHeld ?_
  refine ty 3 10 HT_ HW_ rfl (Or.inl ⟨by rfl, by rintro w' ⟨s0, s1, s2, s3, s4, s5, s6, s7, s8, s9, s10, s11⟩; go_simp; with_reducible rfl⟩) hHeld ?_
  refine py 4 11 HT_ ?_
  refine py 5 12 HT_ ?_
  refine pu 6 13 HT_ ?_
  refine pu 7 14 HT_ ?_
  refine pu 8 15 HT_ ?_
  refine pu 9 16 HT_ ?_
  refine pu 10 17 HT_ ?_
  refine py 11 18 HT_ ?_
  refine py 12 19 HT_ ?_
  refine pu 13 20 HT_ ?_
  refine pu 14 21 HT_ ?_
  refine pu 15 22 HT_ ?_
  refine pu 16 23 HT_ ?_
  refine pu 17 24 HT_ ?_
  refine py 18 25 HT_ ?_
  refine py 19 26 HT_ ?_
  refine pu 20 27 HT_ ?_
  refine pu 21 28 HT_ ?_
  refine pu 22 29 HT_ ?_
  refine pu 23 30 HT_ ?_
  refine pu 24 31 HT_ ?_
  refine py 25 32 HT_ ?_
  refine py 26 33 HT_ ?_
  refine pu 27 34 HT_ ?_
  refine pu 28 35 HT_ ?_
  refine pu 29 36 HT_ ?_
  refine pu 30 37 HT_ ?_
  refine pu 31 38 HT_ ?_
  refine pu 32 39 HT_ ?_
  refine py 33 40 HT_ ?_
  refine py 34 41 HT_ ?_
  refine pu 35 42 HT_ ?_
  refine pu 36 43 HT_ ?_
  refine pu 37 44 HT_ ?_
  refine pu 38 45 HT_ ?_
  refine pu 39 46 HT_ ?_
  refine pu 40 47 HT_ ?_
  refine py 41 48 HT_ ?_
  refine py 42 4 HT_ ?_
  refine done_ (done_of HT_.out (by kernel_rfl)) ?_
  try go_wp2
  go_ret
  exact ⟨by first | rfl | (simp [errW_none, errW_some] <;> rfl) | (simp [*, errW_none, errW_some] <;> rfl), by repeat (first | (with_reducible first | exact HB.out | apply bU | apply bS GE271.out | apply bS GE272.out) | exact HB.out)⟩

/-! ### api_Adjacency_50: function 50 -/
def api_Adjacency_50.f (l0 : List (S72)) : Option ((List (S72))) := (some (([] : List (S72)) : List (S72))).bind fun y277 => (if y277.length + l0.length < 5864062014805 then (some (y277 ++ l0)) else (none))
set_option maxHeartbeats 8000000 in
set_option maxRecDepth 100000 in
theorem api_Adjacency_50.some_ (ad0_ : Addr) (c0 : Nat) (l0 : List (S72)) (r : List (S72)) (w : World) (hr0 : Kd.C k72 w (some ad0_) l0.length l0) (hc0 : l0.length ≤ c0) (h : api_Adjacency_50.f l0 = some r) :
  Calls Try.prog 50 #[.slice (some ad0_) l0.length c0] w fun e w' => ∃ v0_ : Value, e = .returned (v0_) ∧ Kd.R k72 72 w' w.heap.size (fun _ => True) v0_ r ∧ Below w.heap.size w w' := by
 have HR0 := Aside0.mk hr0
 have HC0 := Aside0.mk hc0
 clear hr0 hc0
 have HB := Aside0.mk (Below.refl w.heap.size w)
 have H : ((some (([] : List (S72)) : List (S72))).bind fun y277 => (if y277.length + l0.length < 5864062014805 then (some (y277 ++ l0)) else (none))) = some r := h
 clear h
 obtain ⟨y277, hy277⟩ : ∃ y_ : List (S72), y_ = (([] : List (S72))) := ⟨_, rfl⟩
 replace H : (if y277.length + l0.length < 5864062014805 then (some (y277 ++ l0)) else (none)) = some r := by first | (rw [hy277]; with_reducible exact H) | (have H2_ := (Option.bind_some _ _).symm.trans H; rw [hy277]; with_reducible exact H2_) | (have H2_ := (Option.bind_some _ _).symm.trans H; with_reducible exact H2_) | with_reducible exact H | (rw [hy277]; exact H) | exact H
 have Ny277 := Aside0.mk hy277
 clear hy277
 by_cases c2 : y277.length + l0.length < 5864062014805
 ·rw [if_pos c2] at H
  have LMc2 := Aside0.mk c2
  clear c2
  obtain ⟨y280, hy280⟩ : ∃ y_ : List (S72), y_ = (y277 ++ l0) := ⟨_, rfl⟩
  replace H : (some y280) = some r := by first | (rw [hy280]; with_reducible exact H) | (have H2_ := (Option.bind_some _ _).symm.trans H; rw [hy280]; with_reducible exact H2_) | (have H2_ := (Option.bind_some _ _).symm.trans H; with_reducible exact H2_) | with_reducible exact H | (rw [hy280]; exact H) | exact H
  have Ny280 := Aside0.mk hy280
  clear hy280
  obtain rfl := Option.some.inj H
  have hnil_ := fun w_ : World => Lib.run_eql_slice_nil (P := Try.prog) w_ 29 _ (some ad0_) l0.length c0 0 0 Try.underlying29
  go_enter Try.func50, Try.ntmps50
  go_wp2_with (first | ((with_reducible refine gate_dst (N := 5) rfl ?_); refine Kd.R_lit k72 _ 72 ?hg (N := 5) ?hd (xs := ([] : List (S72))) (inner := []) (ok := fun _ => True) (okp := fun _ => True) ?hr ?hp (fun _ hk => hk) trivial (Below.refl _ _) (Nat.le_refl _) (by simp) ?_; (case hd => rfl); (case hg => rfl); (case hr => first | (go_simp; done) | (go_simp; rfl)); (case hp => exact (Reps.none _ _)); intro v278 w3 ho4 hb hg_ hnew_; clear hg_ hnew_; (first | rw [← Ny277.out] at ho4 | (simp only [Int.reduceToNat] at ho4; rw [← Ny277.out] at ho4)); have HO279 := Aside0.mk (Kd.R_lower ho4 (below_size (kw_ HB))); replace HB := bs_ HB hb; clear hb ho4) | ((with_reducible refine gate_builtin (b := .append) (xs := #[.tmp 5, .tmp 6]) rfl ?_); at_builtin; refine Kd.R_append_rows k72 (w0 := w) w.heap.size rfl (.tmp 5) (.tmp 6) 29 72 (.agg #[(.int .i64 0), (.int .i64 0), (.int .i64 0)]) 24 rfl Try.underlying29 info72 rfl (by decide) (by omega) v278 y277 l0 _ _ _ (fun _ => True) (fun _ => False) rfl rfl ?aO ?aR (fun _ _ h => h) (fun _ h => h.elim) ?aF ?aB ?aS ?aL ?_; (case aR => repeat (first | exact (Kd.C_below HR0.out HB.out) | (with_reducible refine Kd.C_alloc ?_ _) | (with_reducible refine Kd.C_drewN ?_ _) | (with_reducible refine Kd.C_drew ?_))); (case aB => exact (kw_ HB)); (case aF => exact (fun _ _ => trivial)); (case aO => exact (by (with_reducible repeat (first | apply Kd.R_alloc | apply Kd.R_drewN | apply Kd.R_drew)); exact HO279.out)); (case aS => exact (below_size (kw_ HB))); (case aL => have := LMc2.out; omega); intro v281 w5 ho hb hg hat; rw [← Ny280.out] at ho; have HO282 := Aside0.mk (ho); replace HB := Aside0.mk (hb); clear HO279; clear ho hb hg hat))
  go_ret
  exact ⟨_, by first | rfl | (simp [errW_none, errW_some] <;> rfl) | (simp [*, errW_none, errW_some] <;> rfl), by (with_reducible repeat (first | apply Kd.R_alloc | apply Kd.R_drewN | apply Kd.R_drew)); exact HO282.out, kw_ HB⟩
 ·rw [if_neg c2] at H
  exact absurd H (by simp)
set_option maxRecDepth 100000 in
theorem api_Adjacency_50.calls (A0 : Option Addr) (c0 : Nat) (l0 : List (S72)) (r : List (S72)) (w : World) (hr0 : Kd.C k72 w A0 l0.length l0) (hc0 : l0.length ≤ c0) (h : api_Adjacency_50.f l0 = some r) :
  Calls Try.prog 50 #[.slice A0 l0.length c0] w fun e w' => ∃ v0_ : Value, e = .returned (v0_) ∧ Kd.R k72 72 w' w.heap.size (fun _ => True) v0_ r ∧ Below w.heap.size w w' := by
 cases A0 with
 | some ad0_ => exact api_Adjacency_50.some_ ad0_ c0 l0 r w hr0 hc0 h
 | none =>
  obtain rfl : l0 = [] := by
   by_cases hz : 0 < l0.length
   ·obtain ⟨_, e, _⟩ := hr0.2.2 hz
    cases e
   ·exact List.length_eq_zero_iff.mp (by omega)
  obtain rfl : [] = r := by
   have h' : some ([] ++ [] : List (S72)) = some r := by rw [← h]; rfl
   exact Option.some.inj h'
  have hnil_ := fun w_ : World => Lib.run_eql_slice_nil (P := Try.prog) w_ 29 _ none 0 c0 0 0 Try.underlying29
  go_enter Try.func50, Try.ntmps50
  go_wp2
  go_ret
  exact ⟨_, rfl, Kd.R_nil _ _ _ _ _, Below.refl _ _⟩

/-! ### api_Prefix_51: function 51 -/
def api_Prefix_51.f (l0 : List (S76)) : Option ((List (S76))) := (some (([] : List (S76)) : List (S76))).bind fun y283 => (if y283.length + l0.length < 8796093022208 then (some (y283 ++ l0)) else (none))
set_option maxHeartbeats 8000000 in
set_option maxRecDepth 100000 in
theorem api_Prefix_51.some_ (ad0_ : Addr) (c0 : Nat) (l0 : List (S76)) (r : List (S76)) (w : World) (hr0 : Kd.C k76 w (some ad0_) l0.length l0) (hc0 : l0.length ≤ c0) (h : api_Prefix_51.f l0 = some r) :
  Calls Try.prog 51 #[.slice (some ad0_) l0.length c0] w fun e w' => ∃ v0_ : Value, e = .returned (v0_) ∧ Kd.R k76 76 w' w.heap.size (fun _ => True) v0_ r ∧ Below w.heap.size w w' := by
 have HR0 := Aside0.mk hr0
 have HC0 := Aside0.mk hc0
 clear hr0 hc0
 have HB := Aside0.mk (Below.refl w.heap.size w)
 have H : ((some (([] : List (S76)) : List (S76))).bind fun y283 => (if y283.length + l0.length < 8796093022208 then (some (y283 ++ l0)) else (none))) = some r := h
 clear h
 obtain ⟨y283, hy283⟩ : ∃ y_ : List (S76), y_ = (([] : List (S76))) := ⟨_, rfl⟩
 replace H : (if y283.length + l0.length < 8796093022208 then (some (y283 ++ l0)) else (none)) = some r := by first | (rw [hy283]; with_reducible exact H) | (have H2_ := (Option.bind_some _ _).symm.trans H; rw [hy283]; with_reducible exact H2_) | (have H2_ := (Option.bind_some _ _).symm.trans H; with_reducible exact H2_) | with_reducible exact H | (rw [hy283]; exact H) | exact H
 have Ny283 := Aside0.mk hy283
 clear hy283
 by_cases c2 : y283.length + l0.length < 8796093022208
 ·rw [if_pos c2] at H
  have LMc2 := Aside0.mk c2
  clear c2
  obtain ⟨y286, hy286⟩ : ∃ y_ : List (S76), y_ = (y283 ++ l0) := ⟨_, rfl⟩
  replace H : (some y286) = some r := by first | (rw [hy286]; with_reducible exact H) | (have H2_ := (Option.bind_some _ _).symm.trans H; rw [hy286]; with_reducible exact H2_) | (have H2_ := (Option.bind_some _ _).symm.trans H; with_reducible exact H2_) | with_reducible exact H | (rw [hy286]; exact H) | exact H
  have Ny286 := Aside0.mk hy286
  clear hy286
  obtain rfl := Option.some.inj H
  have hnil_ := fun w_ : World => Lib.run_eql_slice_nil (P := Try.prog) w_ 30 _ (some ad0_) l0.length c0 0 0 Try.underlying30
  go_enter Try.func51, Try.ntmps51
  go_wp2_with (first | ((with_reducible refine gate_dst (N := 5) rfl ?_); refine Kd.R_lit k76 _ 76 ?hg (N := 5) ?hd (xs := ([] : List (S76))) (inner := []) (ok := fun _ => True) (okp := fun _ => True) ?hr ?hp (fun _ hk => hk) trivial (Below.refl _ _) (Nat.le_refl _) (by simp) ?_; (case hd => rfl); (case hg => rfl); (case hr => first | (go_simp; done) | (go_simp; rfl)); (case hp => exact (Reps.none _ _)); intro v284 w3 ho4 hb hg_ hnew_; clear hg_ hnew_; (first | rw [← Ny283.out] at ho4 | (simp only [Int.reduceToNat] at ho4; rw [← Ny283.out] at ho4)); have HO285 := Aside0.mk (Kd.R_lower ho4 (below_size (kw_ HB))); replace HB := bs_ HB hb; clear hb ho4) | ((with_reducible refine gate_builtin (b := .append) (xs := #[.tmp 5, .tmp 6]) rfl ?_); at_builtin; refine Kd.R_append_rows k76 (w0 := w) w.heap.size rfl (.tmp 5) (.tmp 6) 30 76 (.agg #[(.int .u32 0), (.int .i64 0)]) 16 rfl Try.underlying30 info76 rfl (by decide) (by omega) v284 y283 l0 _ _ _ (fun _ => True) (fun _ => False) rfl rfl ?aO ?aR (fun _ _ h => h) (fun _ h => h.elim) ?aF ?aB ?aS ?aL ?_; (case aR => repeat (first | exact (Kd.C_below HR0.out HB.out) | (with_reducible refine Kd.C_alloc ?_ _) | (with_reducible refine Kd.C_drewN ?_ _) | (with_reducible refine Kd.C_drew ?_))); (case aB => exact (kw_ HB)); (case aF => exact (fun _ _ => trivial)); (case aO => exact (by (with_reducible repeat (first | apply Kd.R_alloc | apply Kd.R_drewN | apply Kd.R_drew)); exact HO285.out)); (case aS => exact (below_size (kw_ HB))); (case aL => have := LMc2.out; omega); intro v287 w5 ho hb hg hat; rw [← Ny286.out] at ho; have HO288 := Aside0.mk (ho); replace HB := Aside0.mk (hb); clear HO285; clear ho hb hg hat))
  go_ret
  exact ⟨_, by first | rfl | (simp [errW_none, errW_some] <;> rfl) | (simp [*, errW_none, errW_some] <;> rfl), by (with_reducible repeat (first | apply Kd.R_alloc | apply Kd.R_drewN | apply Kd.R_drew)); exact HO288.out, kw_ HB⟩
 ·rw [if_neg c2] at H
  exact absurd H (by simp)
set_option maxRecDepth 100000 in
theorem api_Prefix_51.calls (A0 : Option Addr) (c0 : Nat) (l0 : List (S76)) (r : List (S76)) (w : World) (hr0 : Kd.C k76 w A0 l0.length l0) (hc0 : l0.length ≤ c0) (h : api_Prefix_51.f l0 = some r) :
  Calls Try.prog 51 #[.slice A0 l0.length c0] w fun e w' => ∃ v0_ : Value, e = .returned (v0_) ∧ Kd.R k76 76 w' w.heap.size (fun _ => True) v0_ r ∧ Below w.heap.size w w' := by
 cases A0 with
 | some ad0_ => exact api_Prefix_51.some_ ad0_ c0 l0 r w hr0 hc0 h
 | none =>
  obtain rfl : l0 = [] := by
   by_cases hz : 0 < l0.length
   ·obtain ⟨_, e, _⟩ := hr0.2.2 hz
    cases e
   ·exact List.length_eq_zero_iff.mp (by omega)
  obtain rfl : [] = r := by
   have h' : some ([] ++ [] : List (S76)) = some r := by rw [← h]; rfl
   exact Option.some.inj h'
  have hnil_ := fun w_ : World => Lib.run_eql_slice_nil (P := Try.prog) w_ 30 _ none 0 c0 0 0 Try.underlying30
  go_enter Try.func51, Try.ntmps51
  go_wp2
  go_ret
  exact ⟨_, rfl, Kd.R_nil _ _ _ _ _, Below.refl _ _⟩

/-! ### origin_clone: function 33 -/
def origin_clone.f (a0_0 : Bool) (l0_1 : List (S72)) (l0_2 : List (S76)) : Option (Bool × (List (S72)) × (List (S76))) := (api_Adjacency_50.f l0_1).bind fun t291 => ((api_Prefix_51.f l0_2).bind fun t294 => (some (a0_0, t291, t294)))
def origin_clone.T1 : Bool × List (List Nat × List Nat) := (true, [([], []), ([0], [0]), ([], []), ([2], [2]), ([3], [3]), ([], []), ([5], [5]), ([6, 4], [6]), ([1, 4, 7], [1, 4, 7]), ([8, 7, 0, 1, 2, 3, 4, 5, 6, 7, 8], [8])])
def origin_clone.B1 : List Nat := [0, 1, 0, 4, 12, 0, 32, 124, 255, 511]
theorem origin_clone.tab1 : rtab .any (opsOf Try.f33 1) = origin_clone.T1 := by kernel_rfl
theorem origin_clone.bits1 : waitsOk origin_clone.T1.2 origin_clone.B1 = true := by kernel_rfl
set_option maxHeartbeats 8000000 in
set_option maxRecDepth 100000 in
theorem origin_clone.calls (a0_0 : Bool) (A0_1 : Option Addr) (c0_1 : Nat) (l0_1 : List (S72)) (A0_2 : Option Addr) (c0_2 : Nat) (l0_2 : List (S76)) (r1 : Bool) (r2 : List (S72)) (r3 : List (S76)) (w : World) (hr0_1 : Kd.C k72 w A0_1 l0_1.length l0_1) (hc0_1 : l0_1.length ≤ c0_1) (hr0_2 : Kd.C k76 w A0_2 l0_2.length l0_2) (hc0_2 : l0_2.length ≤ c0_2) (h : origin_clone.f a0_0 l0_1 l0_2 = some (r1, r2, r3)) :
  Calls Try.prog 33 #[.agg #[.bool a0_0, .slice A0_1 l0_1.length c0_1, .slice A0_2 l0_2.length c0_2]] w fun e w' => ∃ v1_ v2_ : Value, e = .returned (.agg #[.bool r1, v1_, v2_]) ∧ Kd.R k72 72 w' w.heap.size (fun _ => True) v1_ r2 ∧ Kd.R k76 76 w' w.heap.size (fun _ => True) v2_ r3 ∧ Below w.heap.size w w' := by
 have hu49 := Try.underlying49
 have HR0_1 := Aside0.mk hr0_1
 have HC0_1 := Aside0.mk hc0_1
 clear hr0_1 hc0_1
 have HR0_2 := Aside0.mk hr0_2
 have HC0_2 := Aside0.mk hc0_2
 clear hr0_2 hc0_2
 have HB := Aside0.mk (Below.refl w.heap.size w)
 have H : ((api_Adjacency_50.f l0_1).bind fun t291 => ((api_Prefix_51.f l0_2).bind fun t294 => (some (a0_0, t291, t294)))) = some (r1, r2, r3) := h
 clear h
 replace H := Option.bind_eq_some_iff.mp H
 obtain ⟨t291, A20, H⟩ := H
 replace H : ((api_Prefix_51.f l0_2).bind fun t294 => (some (a0_0, t291, t294))) = some (r1, r2, r3) := H
 have A2 := Aside0.mk A20
 clear A20
 replace H := Option.bind_eq_some_iff.mp H
 obtain ⟨t294, A30, H⟩ := H
 replace H : (some (a0_0, t291, t294)) = some (r1, r2, r3) := H
 have A3 := Aside0.mk A30
 clear A30
 simp only [Option.some.injEq, Prod.mk.injEq] at H
 obtain ⟨rfl, rfl, rfl⟩ := H
 go_enter Try.func33, Try.ntmps33
 try go_wp2_with (first | ((with_reducible refine gate_dst (N := 1) rfl ?_); refine bx_ 1 #[.bool a0_0, .slice A0_1 l0_1.length c0_1, .slice A0_2 l0_2.length c0_2] 49 rfl rfl ?hr ?_; (case hr => go_simp; try rfl); intro gb289 hg w4 hbox hb; have BK289 := Aside0.mk (hbox); have GW289 := gs_ HB hg; have GE289 := gs_ HB hg; replace HB := bs_ HB hb; clear hb hbox hg) | ((with_reducible refine gate_dst (N := 2) rfl ?_); refine bx_ 2 #[.bool false, .slice none 0 0, .slice none 0 0] 49 rfl rfl ?hr ?_; (case hr => go_simp; try rfl); intro gb290 hg w5 hbox hb; have BK290 := Aside0.mk (hbox); have GW290 := Aside0.mk ((by rw [hg]; exact (below_size (by repeat (first | (with_reducible first | exact HB.out | apply bU | apply bS GE289.out) | exact HB.out))) : w.heap.size ≤ gb290)); have GE290 := Aside0.mk ((by rw [hg]; exact (below_size (by repeat (first | (with_reducible first | exact HB.out | apply bU | apply bS GE289.out) | exact HB.out))) : w.heap.size ≤ gb290)); have NB289_290 := nl_ BK289 hg; have NB290_289 := ng_ BK289 hg; replace BK289 := bb_ BK289 hb; replace HB := Aside0.mk (below_step (by repeat (first | (with_reducible first | exact HB.out | apply bU | apply bS GE289.out) | exact HB.out)) hb); clear hb hbox hg))
 replace BK289 := Aside0.mk (blk_drew BK289.out)
 replace BK290 := Aside0.mk (blk_drew BK290.out)
 replace HB := Aside0.mk (below_drew1 HB.out)
 refine start_ (n := 10) (S := fun w' => w'.cell? ⟨gb289, 0, none⟩ = some (.bool a0_0) ∧ w'.cell? ⟨gb289, 1, none⟩ = some (.slice A0_1 l0_1.length c0_1) ∧ w'.cell? ⟨gb289, 2, none⟩ = some (.slice A0_2 l0_2.length c0_2)) (ds := []) #[false, false, false, false, false, false, false, false, false, false] (by kernel_rfl) rfl rfl ⟨(blk_cell BK289.out 0).trans rfl, (blk_cell BK289.out 1).trans rfl, (blk_cell BK289.out 2).trans rfl⟩ (fun hHeld => ?_); refine with_tabW origin_clone.tab1 origin_clone.bits1 (fun HT_ HW_ => ?_)
 generalize w5.drew = w6 at BK289 BK290 HB hHeld ⊢
 refine py 0 3 HT_ ?_
 refine py 2 5 HT_ ?_
 refine py 5 8 HT_ ?_
 refine ty 1 4 HT_ HW_ rfl (Or.inl ⟨by rfl, by rintro w' ⟨s0, s1, s2⟩; go_simp; with_reducible rfl⟩) hHeld ?_
 refine ty 3 6 HT_ HW_ rfl (Or.inl ⟨by rfl, by rintro w' ⟨s0, s1, s2⟩; go_simp; with_reducible rfl⟩) hHeld ?_
 refine ty 6 9 HT_ HW_ rfl (Or.inl ⟨by rfl, by rintro w' ⟨s0, s1, s2⟩; go_simp; with_reducible rfl⟩) hHeld ?_
 refine one_ (i := 4) (N := some 7) #[true, true, true, true, true, true, true, false, false, false] rfl rfl (one_of HT_.out (by kernel_rfl)) (by decide) (fun K hK => ?_)
 refine goes_ Try.func50 (by kernel_rfl) rfl #[.slice A0_1 l0_1.length c0_1] (by rfl) rfl rfl (by (try simp only [List.map_toArray, List.map_cons, List.map_nil]); first | done | rfl | (simp only [List.length_drop, List.length_take]; rfl)) ?_
 with_reducible refine (api_Adjacency_50.calls _ _ l0_1 t291 _ ?side1 ?side2 A2.out).mono ?_
 (case side1 => exact cs_ HR0_1 HB)
 (case side2 => exact HC0_1.out)
 rintro e w7 ⟨v292, rfl, ho0, hb⟩
 refine ⟨_, rfl, ?_⟩
 have HO293 := Aside0.mk (Kd.R_lower ho0 (below_size (by repeat (first | (with_reducible first | exact HB.out | apply bU | apply bS GE289.out | apply bS GE290.out) | exact HB.out))))
 replace BK289 := bb_ BK289 hb
 replace BK290 := bb_ BK290 hb
 replace HB := Aside0.mk (below_step (by repeat (first | (with_reducible first | exact HB.out | apply bU | apply bS GE289.out | apply bS GE290.out) | exact HB.out)) hb)
 (try clear hb)
 (try clear ho0)
 refine hK.out _ _ ⟨(blk_cell BK289.out 0).trans rfl, (blk_cell BK289.out 1).trans rfl, (blk_cell BK289.out 2).trans rfl⟩ (fun hHeld => ?_)
 clear hK K
 refine norm_ (a' := ?_) ?_ ?_
 rotate_left
 ·show Act.put _ (some 7) _ = _
  simp only [Act.put, List.setIfInBounds_toArray, List.set_cons_zero, List.set_cons_succ, i64_w, i32_w]
  rfl
 refine one_ (i := 7) (N := some 10) #[true, true, true, true, true, true, true, true, false, false] rfl rfl (one_of HT_.out (by kernel_rfl)) (by decide) (fun K hK => ?_)
 refine goes_ Try.func51 (by kernel_rfl) rfl #[.slice A0_2 l0_2.length c0_2] (by rfl) rfl rfl (by (try simp only [List.map_toArray, List.map_cons, List.map_nil]); first | done | rfl | (simp only [List.length_drop, List.length_take]; rfl)) ?_
 with_reducible refine (api_Prefix_51.calls _ _ l0_2 t294 _ ?side1 ?side2 A3.out).mono ?_
 (case side1 => exact cs_ HR0_2 HB)
 (case side2 => exact HC0_2.out)
 rintro e w8 ⟨v295, rfl, ho0, hb⟩
 refine ⟨_, rfl, ?_⟩
 have HO296 := Aside0.mk (Kd.R_lower ho0 (below_size (by repeat (first | (with_reducible first | exact HB.out | apply bU | apply bS GE289.out | apply bS GE290.out) | exact HB.out))))
 replace HO293 := Aside0.mk (Kd.R_below (by (with_reducible repeat (first | apply Kd.R_alloc | apply Kd.R_drewN | apply Kd.R_drew)); exact HO293.out) hb)
 replace BK289 := bb_ BK289 hb
 replace BK290 := bb_ BK290 hb
 replace HB := Aside0.mk (below_step (by repeat (first | (with_reducible first | exact HB.out | apply bU | apply bS GE289.out | apply bS GE290.out) | exact HB.out)) hb)
 (try clear hb)
 (try clear ho0)
 obtain ⟨Ao9, co9, eo9⟩ := Kd.R_slice HO296.out
 (first | subst eo9 | (injection eo9 with f1_ f2_ f3_; have f4_ := f1_.symm; have f5_ := f3_.symm; clear f1_ f2_ f3_; subst f4_; subst f5_))
 obtain ⟨Ao10, co10, eo10⟩ := Kd.R_slice HO293.out
 (first | subst eo10 | (injection eo10 with f1_ f2_ f3_; have f4_ := f1_.symm; have f5_ := f3_.symm; clear f1_ f2_ f3_; subst f4_; subst f5_))
 refine hK.out _ _ ⟨(blk_cell BK289.out 0).trans rfl, (blk_cell BK289.out 1).trans rfl, (blk_cell BK289.out 2).trans rfl⟩ (fun hHeld => ?_)
 clear hK K
 refine norm_ (a' := ?_) ?_ ?_
 rotate_left
 ·show Act.put _ (some 10) _ = _
  simp only [Act.put, List.setIfInBounds_toArray, List.set_cons_zero, List.set_cons_succ, i64_w, i32_w]
  rfl
 refine py 8 11 HT_ ?_
 refine one_ (i := 9) (N := none) #[true, true, true, true, true, true, true, true, true, true] rfl rfl (one_of HT_.out (by kernel_rfl)) (by decide) (fun K hK => ?_)
 have hs11 : w8.cell? ⟨gb290, 0, none⟩ = some (.bool false) := (blk_cell BK290.out 0).trans rfl
 have hfs11 := blk_frozen BK290.out 0
 have hns11_0 := NB289_290.out
 have hms11_0 := NB290_289.out
 have hs12 : w8.cell? ⟨gb290, 1, none⟩ = some (.slice none 0 0) := (blk_cell BK290.out 1).trans rfl
 have hfs12 := blk_frozen BK290.out 1
 have hns12_0 := NB289_290.out
 have hms12_0 := NB290_289.out
 have hs13 : w8.cell? ⟨gb290, 2, none⟩ = some (.slice none 0 0) := (blk_cell BK290.out 2).trans rfl
 have hfs13 := blk_frozen BK290.out 2
 have hns13_0 := NB289_290.out
 have hms13_0 := NB290_289.out
 refine skip_ (w1 := ?_) (by rfl) rfl ?_ ?_
 rotate_left
 ·go_simp
  rfl
 refine hK.out _ _ ⟨((cell_far (p := ⟨gb290, _, none⟩) NB289_290.out _).trans (((cell_far (p := ⟨gb290, _, none⟩) NB289_290.out _).trans (((cell_far (p := ⟨gb290, _, none⟩) NB289_290.out _).trans (hHeld.1)))))), ((cell_far (p := ⟨gb290, _, none⟩) NB289_290.out _).trans (((cell_far (p := ⟨gb290, _, none⟩) NB289_290.out _).trans (((cell_far (p := ⟨gb290, _, none⟩) NB289_290.out _).trans (hHeld.2.1)))))), ((cell_far (p := ⟨gb290, _, none⟩) NB289_290.out _).trans (((cell_far (p := ⟨gb290, _, none⟩) NB289_290.out _).trans (((cell_far (p := ⟨gb290, _, none⟩) NB289_290.out _).trans (hHeld.2.2))))))⟩ (fun hHeld => ?_)
 clear hK K
 refine done_ (done_of HT_.out (by kernel_rfl)) ?_
 try go_wp2
 refine bodyPost_ret (results_cell_row rfl _ _ gb290 49 #[.bool a0_0, .slice Ao10 t291.length co10, .slice Ao9 t294.length co9] (0, 0) _ rfl (by (with_reducible repeat (first | refine blk_drewN ?_ _ | refine blk_drew ?_ | refine blk_alloc ?_ _)); refine blk_put (cs := #[.bool a0_0, .slice Ao10 t291.length co10, .slice none 0 0]) ?_ 2 _ rfl; (with_reducible repeat (first | refine blk_drewN ?_ _ | refine blk_drew ?_ | refine blk_alloc ?_ _)); refine blk_put (cs := #[.bool a0_0, .slice none 0 0, .slice none 0 0]) ?_ 1 _ rfl; (with_reducible repeat (first | refine blk_drewN ?_ _ | refine blk_drew ?_ | refine blk_alloc ?_ _)); refine blk_put (cs := #[.bool false, .slice none 0 0, .slice none 0 0]) ?_ 0 _ rfl; (with_reducible repeat (first | refine blk_drewN ?_ _ | refine blk_drew ?_ | refine blk_alloc ?_ _)); exact BK290.out) Try.underlying49 rfl (by kernel_rfl)) rfl ?_
 exact ⟨_, _, by first | rfl | (simp [errW_none, errW_some] <;> rfl) | (simp [*, errW_none, errW_some] <;> rfl), by (with_reducible repeat (first | apply Kd.R_alloc | apply Kd.R_drewN | apply Kd.R_drew)); exact Kd.R_mono (Kd.R_far (p := ⟨gb290, 2, none⟩) (Kd.R_far (p := ⟨gb290, 1, none⟩) (Kd.R_far (p := ⟨gb290, 0, none⟩) (Kd.R_types HO293.out BK290.out (by decide)) (fun _ hk => hk.2) (.bool a0_0)) (fun _ hk => hk.2) (.slice Ao10 t291.length co10)) (fun _ hk => hk.2) (.slice Ao9 t294.length co9)) (fun _ hk => trivial), by (with_reducible repeat (first | apply Kd.R_alloc | apply Kd.R_drewN | apply Kd.R_drew)); exact Kd.R_mono (Kd.R_far (p := ⟨gb290, 2, none⟩) (Kd.R_far (p := ⟨gb290, 1, none⟩) (Kd.R_far (p := ⟨gb290, 0, none⟩) (Kd.R_types HO296.out BK290.out (by decide)) (fun _ hk => hk.2) (.bool a0_0)) (fun _ hk => hk.2) (.slice Ao10 t291.length co10)) (fun _ hk => hk.2) (.slice Ao9 t294.length co9)) (fun _ hk => trivial), by repeat (first | (with_reducible first | exact HB.out | apply bU | apply bS GE289.out | apply bS GE290.out) | exact HB.out)⟩

/-! ### waypointlaw36_OriginNil: function 7 lies in a text of its own -/

/-! ### waypointlaw36_OriginRenews: function 6 lies in a text of its own -/

/-! ### waypointlaw36_OriginWins: function 5 lies in a text of its own -/

end Go.Proofs.Ytdkfhlfojleejaa.HLsc
