-- LAID by wip/hand.py, a program of this repository, over the kit's print: contracts of our own are put in. Lean checks it.
import Derived.Test.YtmknjjfdlkgidaaHLscx0
import Derived.Test.YtmknjjfdlkgidaaHLscx1
import Derived.Test.YtmknjjfdlkgidaaHLscx12
import Derived.Test.YtmknjjfdlkgidaaHLscx14
namespace Go.Proofs.Ytmknjjfdlkgidaa.HLsc
open Go.RowKit Go.Proofs.YtmknjjfdlkgidaaW.PrintWords Go.Proofs.YtmknjjfdlkgidaaW.PrintLast Go.Proofs.YtmknjjfdlkgidaaW.PrintMore
attribute [local go_sem] gtr_str leq_str max2_int min2_int max_two min_two max_three min_three max_four min_four   -- for this text's walks alone
set_option linter.unusedVariables false
set_option linter.unusedSimpArgs false

attribute [local go_sem high] eqA43
/-! ### waypointref32_Newer: function 22 -/
def waypointref32_Newer.j0 : Nat → Bool → Int → Int → Int → Bool → List (S43) → List (S56) → Int → Int → Int → Bool → List (S43) → List (S56) → Option (Int)
 | 0, _, _, _, _, _, _, _, _, _, _, _, _, _ => none
 | k + 1, x14, x366000, x366001, x366002, x366003, x366004, x366005, x367000, x367001, x367002, x367003, x367004, x367005 => if x14 = true then (some 0) else (if x366001 = x367001 then (if ((x366002 == 3600) != (x367002 == 3600)) = true then (if x366002 = 3600 then (some 1) else (some (-1))) else ((waypointref32_Encode.f k x366000 x366001 0 x366003 x366004 x366005).bind fun t370 => ((waypointref32_Encode.f k x367000 x367001 0 x367003 x367004 x367005).bind fun t373 => (if (Op.bytesLess ((strOfNums t373).toList) ((strOfNums t370).toList)) = true then (some 1) else (if (Op.bytesLess ((strOfNums t370).toList) ((strOfNums t373).toList)) = true then (some (-1)) else (some 0)))))) else ((waypointref32_sign.f (wrap64 (x366001 - x367001))).bind fun t369 => (some t369)))
def waypointref32_Newer.f (k : Nat) (a0_0 : Int) (a0_1 : Int) (a0_2 : Int) (a0_3 : Bool) (l0_4 : List (S43)) (l0_5 : List (S56)) (a1_0 : Int) (a1_1 : Int) (a1_2 : Int) (a1_3 : Bool) (l1_4 : List (S43)) (l1_5 : List (S56)) : Option (Int) := (waypointref32_Valid.f k a0_0 a0_1 a0_2 a0_3 l0_4 l0_5).bind fun t367 => (if t367 = true then ((waypointref32_Valid.f k a1_0 a1_1 a1_2 a1_3 l1_4 l1_5).bind fun t368 => (waypointref32_Newer.j0 k (!t368) a0_0 a0_1 a0_2 a0_3 l0_4 l0_5 a1_0 a1_1 a1_2 a1_3 l1_4 l1_5)) else (waypointref32_Newer.j0 k true a0_0 a0_1 a0_2 a0_3 l0_4 l0_5 a1_0 a1_1 a1_2 a1_3 l1_4 l1_5))
theorem waypointref32_Newer.mono_l : ∀ k, (∀ y0 y1 y2 y3 y4 y5 y6 y7 y8 y9 y10 y11 y12, LeO (waypointref32_Newer.j0 k y0 y1 y2 y3 y4 y5 y6 y7 y8 y9 y10 y11 y12) (waypointref32_Newer.j0 (k + 1) y0 y1 y2 y3 y4 y5 y6 y7 y8 y9 y10 y11 y12))
 | 0 => fun _ _ _ _ _ _ _ _ _ _ _ _ _ r h => by simp [waypointref32_Newer.j0] at h
 | k + 1 => by
  have ih0 := waypointref32_Newer.mono_l k
  ·intro y0 y1 y2 y3 y4 y5 y6 y7 y8 y9 y10 y11 y12
   unfold waypointref32_Newer.j0
   repeat' first
   | (with_reducible exact ih0 _ _ _ _ _ _ _ _ _ _ _ _ _)
   | (with_reducible exact waypointref32_Encode.mono _ _ _ _ _ _ _)
   | (with_reducible exact waypointref32_Valid.mono _ _ _ _ _ _ _)
   | (with_reducible exact LeO.refl _)
   | (with_reducible exact LeO.none _)
   | (with_reducible refine LeO.ite ?_ ?_)
   | (with_reducible refine LeO.bind ?_ (fun _ => ?_))
   | exact ih0 _ _ _ _ _ _ _ _ _ _ _ _ _
   | exact waypointref32_Encode.mono _ _ _ _ _ _ _
   | exact waypointref32_Valid.mono _ _ _ _ _ _ _
   | exact LeO.none _
   | refine LeO.ite ?_ ?_
   | refine LeO.bind ?_ (fun _ => ?_)
theorem waypointref32_Newer.mono : ∀ a0 a1 a2 a3 a4 a5 a6 a7 a8 a9 a10 a11 k, LeO (waypointref32_Newer.f k a0 a1 a2 a3 a4 a5 a6 a7 a8 a9 a10 a11) (waypointref32_Newer.f (k + 1) a0 a1 a2 a3 a4 a5 a6 a7 a8 a9 a10 a11) := by
 intro a0 a1 a2 a3 a4 a5 a6 a7 a8 a9 a10 a11 k
 have ih0 := waypointref32_Newer.mono_l k
 unfold waypointref32_Newer.f
 repeat' first
   | (with_reducible exact ih0 _ _ _ _ _ _ _ _ _ _ _ _ _)
   | (with_reducible exact waypointref32_Encode.mono _ _ _ _ _ _ _)
   | (with_reducible exact waypointref32_Valid.mono _ _ _ _ _ _ _)
   | (with_reducible exact LeO.refl _)
   | (with_reducible exact LeO.none _)
   | (with_reducible refine LeO.ite ?_ ?_)
   | (with_reducible refine LeO.bind ?_ (fun _ => ?_))
   | exact ih0 _ _ _ _ _ _ _ _ _ _ _ _ _
   | exact waypointref32_Encode.mono _ _ _ _ _ _ _
   | exact waypointref32_Valid.mono _ _ _ _ _ _ _
   | exact LeO.none _
   | refine LeO.ite ?_ ?_
   | refine LeO.bind ?_ (fun _ => ?_)
def waypointref32_Newer.T10 : Bool × List (List Nat × List Nat) := (true, [([], []), ([0], [0]), ([1], [1]), ([], []), ([3, 1], [3]), ([4], [4]), ([2, 4, 0, 1, 2], [2]), ([5, 6, 0, 1, 2, 3, 4, 5, 6], [5])])
def waypointref32_Newer.B10 : List Nat := [0, 1, 3, 0, 11, 27, 31, 127]
theorem waypointref32_Newer.tab10 : rtab .any (opsOf Try.f22 10) = waypointref32_Newer.T10 := by kernel_rfl
theorem waypointref32_Newer.bits10 : waitsOk waypointref32_Newer.T10.2 waypointref32_Newer.B10 = true := by kernel_rfl
set_option maxHeartbeats 8000000 in
set_option maxRecDepth 100000 in
theorem waypointref32_Newer.calls (k : Nat) (a0_0 : Int) (a0_1 : Int) (a0_2 : Int) (a0_3 : Bool) (A0_4 : Option Addr) (c0_4 : Nat) (l0_4 : List (S43)) (A0_5 : Option Addr) (c0_5 : Nat) (l0_5 : List (S56)) (a1_0 : Int) (a1_1 : Int) (a1_2 : Int) (a1_3 : Bool) (A1_4 : Option Addr) (c1_4 : Nat) (l1_4 : List (S43)) (A1_5 : Option Addr) (c1_5 : Nat) (l1_5 : List (S56)) (r : Int) (w : World) (hr0_4 : Kd.C k43 w A0_4 l0_4.length l0_4) (hc0_4 : l0_4.length ≤ c0_4) (hr0_5 : Kd.C k56 w A0_5 l0_5.length l0_5) (hc0_5 : l0_5.length ≤ c0_5) (hr1_4 : Kd.C k43 w A1_4 l1_4.length l1_4) (hc1_4 : l1_4.length ≤ c1_4) (hr1_5 : Kd.C k56 w A1_5 l1_5.length l1_5) (hc1_5 : l1_5.length ≤ c1_5) (h : waypointref32_Newer.f k a0_0 a0_1 a0_2 a0_3 l0_4 l0_5 a1_0 a1_1 a1_2 a1_3 l1_4 l1_5 = some r) :
  Calls Try.prog 22 #[.agg #[.int .i64 a0_0, .int .i64 a0_1, .int .i64 a0_2, .bool a0_3, .slice A0_4 l0_4.length c0_4, .slice A0_5 l0_5.length c0_5], .agg #[.int .i64 a1_0, .int .i64 a1_1, .int .i64 a1_2, .bool a1_3, .slice A1_4 l1_4.length c1_4, .slice A1_5 l1_5.length c1_5]] w fun e w' => e = .returned (.int .i64 r) ∧ Below w.heap.size w w' := by
 have hu25 := Try.underlying25
 have HR0_4 := Aside0.mk hr0_4
 have HC0_4 := Aside0.mk hc0_4
 clear hr0_4 hc0_4
 have HR0_5 := Aside0.mk hr0_5
 have HC0_5 := Aside0.mk hc0_5
 clear hr0_5 hc0_5
 have HR1_4 := Aside0.mk hr1_4
 have HC1_4 := Aside0.mk hc1_4
 clear hr1_4 hc1_4
 have HR1_5 := Aside0.mk hr1_5
 have HC1_5 := Aside0.mk hc1_5
 clear hr1_5 hc1_5
 have HB := Aside0.mk (Below.refl w.heap.size w)
 have H : ((waypointref32_Valid.f k a0_0 a0_1 a0_2 a0_3 l0_4 l0_5).bind fun t367 => (if t367 = true then ((waypointref32_Valid.f k a1_0 a1_1 a1_2 a1_3 l1_4 l1_5).bind fun t368 => (waypointref32_Newer.j0 k (!t368) a0_0 a0_1 a0_2 a0_3 l0_4 l0_5 a1_0 a1_1 a1_2 a1_3 l1_4 l1_5)) else (waypointref32_Newer.j0 k true a0_0 a0_1 a0_2 a0_3 l0_4 l0_5 a1_0 a1_1 a1_2 a1_3 l1_4 l1_5))) = some r := h
 clear h
 have HC3 := Aside0.mk H
 clear H
 go_enter Try.func22, Try.ntmps22
 go_upto_region 1 with (first | ((with_reducible refine gate_dst (N := 2) rfl ?_); refine bx_ 2 #[.int .i64 a0_0, .int .i64 a0_1, .int .i64 a0_2, .bool a0_3, .slice A0_4 l0_4.length c0_4, .slice A0_5 l0_5.length c0_5] 25 rfl rfl ?hr ?_; (case hr => go_simp; try rfl); intro gb365 hg w4 hbox hb; have BK365 := Aside0.mk (hbox); have GW365 := gs_ HB hg; have GE365 := gs_ HB hg; replace HB := bs_ HB hb; clear hb hbox hg) | ((with_reducible refine gate_dst (N := 3) rfl ?_); refine bx_ 3 #[.int .i64 a1_0, .int .i64 a1_1, .int .i64 a1_2, .bool a1_3, .slice A1_4 l1_4.length c1_4, .slice A1_5 l1_5.length c1_5] 25 rfl rfl ?hr ?_; (case hr => go_simp; try rfl); intro gb366 hg w5 hbox hb; have BK366 := Aside0.mk (hbox); have GW366 := Aside0.mk ((by rw [hg]; exact (below_size (by repeat (first | (with_reducible first | exact HB.out | apply bU | apply bS GE365.out) | exact HB.out))) : w.heap.size ≤ gb366)); have GE366 := Aside0.mk ((by rw [hg]; exact (below_size (by repeat (first | (with_reducible first | exact HB.out | apply bU | apply bS GE365.out) | exact HB.out))) : w.heap.size ≤ gb366)); have NB365_366 := nl_ BK365 hg; have NB366_365 := ng_ BK365 hg; replace BK365 := bb_ BK365 hb; replace HB := Aside0.mk (below_step (by repeat (first | (with_reducible first | exact HB.out | apply bU | apply bS GE365.out) | exact HB.out)) hb); clear hb hbox hg))
 (try simp only [Act.put, List.setIfInBounds_toArray, List.set_cons_zero, List.set_cons_succ])
 go_cut [14] (fun v14 wc => ∃ (kq : Nat) (x14_2 : Bool), v14 = .bool x14_2 ∧ Aside0 (waypointref32_Newer.j0 kq x14_2 a0_0 a0_1 a0_2 a0_3 l0_4 l0_5 a1_0 a1_1 a1_2 a1_3 l1_4 l1_5 = some r) ∧ Aside0 (kq ≤ k) ∧ Aside0 (wc.heap[gb365]? = some (.cells #[.int .i64 a0_0, .int .i64 a0_1, .int .i64 a0_2, .bool a0_3, (.slice A0_4 l0_4.length c0_4), (.slice A0_5 l0_5.length c0_5)] 25 (0, 0))) ∧ Aside0 (wc.heap[gb366]? = some (.cells #[.int .i64 a1_0, .int .i64 a1_1, .int .i64 a1_2, .bool a1_3, (.slice A1_4 l1_4.length c1_4), (.slice A1_5 l1_5.length c1_5)] 25 (0, 0))) ∧ Aside0 (Below w.heap.size w wc))
 case first =>
  have H := HC3.out
  clear HC3
  replace H := Option.bind_eq_some_iff.mp H
  obtain ⟨t367, A60, H⟩ := H
  replace H : (if t367 = true then ((waypointref32_Valid.f k a1_0 a1_1 a1_2 a1_3 l1_4 l1_5).bind fun t368 => (waypointref32_Newer.j0 k (!t368) a0_0 a0_1 a0_2 a0_3 l0_4 l0_5 a1_0 a1_1 a1_2 a1_3 l1_4 l1_5)) else (waypointref32_Newer.j0 k true a0_0 a0_1 a0_2 a0_3 l0_4 l0_5 a1_0 a1_1 a1_2 a1_3 l1_4 l1_5)) = some r := H
  have A6 := Aside0.mk A60
  clear A60
  by_cases c7 : t367 = true
  ·subst c7
   have H1 : ((waypointref32_Valid.f k a1_0 a1_1 a1_2 a1_3 l1_4 l1_5).bind fun t368 => (waypointref32_Newer.j0 k (!t368) a0_0 a0_1 a0_2 a0_3 l0_4 l0_5 a1_0 a1_1 a1_2 a1_3 l1_4 l1_5)) = some r := by rw [if_pos rfl] at H; exact H
   clear H
   have H := H1
   clear H1
   replace H := Option.bind_eq_some_iff.mp H
   obtain ⟨t368, A80, H⟩ := H
   replace H : (waypointref32_Newer.j0 k (!t368) a0_0 a0_1 a0_2 a0_3 l0_4 l0_5 a1_0 a1_1 a1_2 a1_3 l1_4 l1_5) = some r := H
   have A8 := Aside0.mk A80
   clear A80
   have H' := Aside0.mk H
   clear H
   have hnb9 := NB365_366.out
   have hnc9 := NB366_365.out
   obtain ⟨hcz10_0, hcz10_1, hcz10_2, hcz10_3, hcz10_4, hcz10_5, hfz10_0, hfz10_1, hfz10_2, hfz10_3, hfz10_4, hfz10_5⟩ := c6_ BK365
   go_wp2_with (first | ((with_reducible refine gate_callee (f := 15) rfl ?_); refine goesL_ (some 8) rfl rfl Try.func15 (by kernel_rfl) rfl #[.agg #[.int .i64 a0_0, .int .i64 a0_1, .int .i64 a0_2, .bool a0_3, .slice A0_4 l0_4.length c0_4, .slice A0_5 l0_5.length c0_5]] rfl (by (try simp only [List.map_toArray, List.map_cons, List.map_nil]); first | done | rfl | (simp only [List.length_drop, List.length_take]; rfl)) ?_; (with_reducible refine (waypointref32_Valid.calls k a0_0 a0_1 a0_2 a0_3 _ _ l0_4 _ _ l0_5 true _ ?side1 ?side2 ?side3 ?side4 A6.out).mono ?_); (case side1 => exact cs_ HR0_4 HB); (case side2 => exact HC0_4.out); (case side3 => exact cs_ HR0_5 HB); (case side4 => exact HC0_5.out); rintro e w11 ⟨rfl, hb⟩; refine ⟨_, rfl, ?_⟩; replace BK365 := bb_ BK365 hb; replace BK366 := bb_ BK366 hb; replace HB := Aside0.mk (below_step (by repeat (first | (with_reducible first | exact HB.out | apply bU | apply bS GE365.out | apply bS GE366.out) | exact HB.out)) hb); (try clear hb); (try clear hb2); (try clear hk); (try clear hi); obtain ⟨hcz12_0, hcz12_1, hcz12_2, hcz12_3, hcz12_4, hcz12_5, hfz12_0, hfz12_1, hfz12_2, hfz12_3, hfz12_4, hfz12_5⟩ := c6_ BK366) | (go_at_call 15; (with_reducible refine (waypointref32_Valid.calls k a1_0 a1_1 a1_2 a1_3 _ _ l1_4 _ _ l1_5 t368 _ ?side1 ?side2 ?side3 ?side4 A8.out).mono ?_); (case side1 => exact cs_ HR1_4 HB); (case side2 => exact HC1_4.out); (case side3 => exact cs_ HR1_5 HB); (case side4 => exact HC1_5.out); rintro e w13 ⟨rfl, hb⟩; replace BK365 := bb_ BK365 hb; replace BK366 := bb_ BK366 hb; replace HB := Aside0.mk (below_step (by repeat (first | (with_reducible first | exact HB.out | apply bU | apply bS GE365.out | apply bS GE366.out) | exact HB.out)) hb); (try clear hb); (try clear hb2); (try clear hk); (try clear hi)))
   go_meet
   case rel => exact ⟨_, (!t368), (by first | rfl | (simp; done) | (simp [*]; done)), H', ⟨by first | omega | exact Nat.le_refl _⟩, ⟨kb_ BK365⟩, ⟨kb_ BK366⟩, ⟨by repeat (first | (with_reducible first | exact HB.out | apply bU | apply bS GE365.out | apply bS GE366.out) | exact HB.out)⟩⟩
  ·replace c7 := Bool.eq_false_iff.mpr c7
   subst c7
   have H1 : (waypointref32_Newer.j0 k true a0_0 a0_1 a0_2 a0_3 l0_4 l0_5 a1_0 a1_1 a1_2 a1_3 l1_4 l1_5) = some r := by rw [if_neg (show ¬ (false = true) by decide)] at H; exact H
   clear H
   have H := H1
   clear H1
   have H' := Aside0.mk H
   clear H
   have hnb14 := NB365_366.out
   have hnc14 := NB366_365.out
   obtain ⟨hcz15_0, hcz15_1, hcz15_2, hcz15_3, hcz15_4, hcz15_5, hfz15_0, hfz15_1, hfz15_2, hfz15_3, hfz15_4, hfz15_5⟩ := c6_ BK365
   go_wp2_with (first | ((with_reducible refine gate_callee (f := 15) rfl ?_); refine goesL_ (some 8) rfl rfl Try.func15 (by kernel_rfl) rfl #[.agg #[.int .i64 a0_0, .int .i64 a0_1, .int .i64 a0_2, .bool a0_3, .slice A0_4 l0_4.length c0_4, .slice A0_5 l0_5.length c0_5]] rfl (by (try simp only [List.map_toArray, List.map_cons, List.map_nil]); first | done | rfl | (simp only [List.length_drop, List.length_take]; rfl)) ?_; (with_reducible refine (waypointref32_Valid.calls k a0_0 a0_1 a0_2 a0_3 _ _ l0_4 _ _ l0_5 false _ ?side1 ?side2 ?side3 ?side4 A6.out).mono ?_); (case side1 => exact cs_ HR0_4 HB); (case side2 => exact HC0_4.out); (case side3 => exact cs_ HR0_5 HB); (case side4 => exact HC0_5.out); rintro e w16 ⟨rfl, hb⟩; refine ⟨_, rfl, ?_⟩; replace BK365 := bb_ BK365 hb; replace BK366 := bb_ BK366 hb; replace HB := Aside0.mk (below_step (by repeat (first | (with_reducible first | exact HB.out | apply bU | apply bS GE365.out | apply bS GE366.out) | exact HB.out)) hb); (try clear hb); (try clear hb2); (try clear hk); (try clear hi)))
   go_meet
   case rel => exact ⟨_, (true), (by first | rfl | (simp; done) | (simp [*]; done)), H', ⟨by first | omega | exact Nat.le_refl _⟩, ⟨kb_ BK365⟩, ⟨kb_ BK366⟩, ⟨by repeat (first | (with_reducible first | exact HB.out | apply bU | apply bS GE365.out | apply bS GE366.out) | exact HB.out)⟩⟩
 case rest =>
  clear HC3
  obtain ⟨kq, x14_2, rfl, HA, HJ2, BK365, BK366, HB⟩ := hcut
  cases kq with
  | zero => exact absurd HA.out (by simp [waypointref32_Newer.j0])
  | succ kj2 =>
   have H := HA.out
   clear HA
   simp only [waypointref32_Newer.j0] at H
   by_cases c17 : x14_2 = true
   ·subst c17
    have H1 : (some 0) = some r := by rw [if_pos rfl] at H; exact H
    clear H
    have H := H1
    clear H1
    obtain rfl := Option.some.inj H
    go_wp2
    go_ret
    exact ⟨by first | rfl | (simp [errW_none, errW_some] <;> rfl) | (simp [*, errW_none, errW_some] <;> rfl), by repeat (first | (with_reducible first | exact HB.out | apply bU | apply bS GE365.out | apply bS GE366.out) | exact HB.out)⟩
   ·replace c17 := Bool.eq_false_iff.mpr c17
    subst c17
    have H1 : (if a0_1 = a1_1 then (if ((a0_2 == 3600) != (a1_2 == 3600)) = true then (if a0_2 = 3600 then (some 1) else (some (-1))) else ((waypointref32_Encode.f kj2 a0_0 a0_1 0 a0_3 l0_4 l0_5).bind fun t370 => ((waypointref32_Encode.f kj2 a1_0 a1_1 0 a1_3 l1_4 l1_5).bind fun t373 => (if (Op.bytesLess ((strOfNums t373).toList) ((strOfNums t370).toList)) = true then (some 1) else (if (Op.bytesLess ((strOfNums t370).toList) ((strOfNums t373).toList)) = true then (some (-1)) else (some 0)))))) else ((waypointref32_sign.f (wrap64 (a0_1 - a1_1))).bind fun t369 => (some t369))) = some r := by rw [if_neg (show ¬ (false = true) by decide)] at H; exact H
    clear H
    have H := H1
    clear H1
    by_cases c18 : a0_1 = a1_1
    ·rw [if_pos c18] at H
     have c18b0 : (a0_1 == a1_1) = true := beq_iff_eq.mpr c18
     have c18b1 : (a0_1 != a1_1) = false := bne_eq_false_iff_eq.mpr c18
     clear c18
     by_cases c19 : ((a0_2 == 3600) != (a1_2 == 3600)) = true
     ·rw [if_pos c19] at H
      have c19b0 : ((a0_2 == 3600) != (a1_2 == 3600)) = true := c19
      (try (have c19b1 : decide ((a0_2 == 3600) = (a1_2 == 3600)) = false := by simpa using c19))
      (try (have c19b2 : ((a0_2 == 3600) == (a1_2 == 3600)) = false := by simpa using c19))
      (try (have c19b3 : ¬ ((a0_2 == 3600) = (a1_2 == 3600)) := by simpa using c19))
      clear c19
      by_cases c20 : a0_2 = 3600
      ·rw [if_pos c20] at H
       have c20b0 : (a0_2 == 3600) = true := beq_iff_eq.mpr c20
       (first | (have c20b0q : (a1_2 == 3600) = true := by simpa [c20b0] using c19b0) | (have c20b0q : (a1_2 == 3600) = false := by simpa [c20b0] using c19b0) | skip)
       have c20b1 : (a0_2 != 3600) = false := bne_eq_false_iff_eq.mpr c20
       clear c20
       obtain rfl := Option.some.inj H
       have hnb21 := NB365_366.out
       have hnc21 := NB366_365.out
       obtain ⟨hcz22_0, hcz22_1, hcz22_2, hcz22_3, hcz22_4, hcz22_5, hfz22_0, hfz22_1, hfz22_2, hfz22_3, hfz22_4, hfz22_5⟩ := c6_ BK365
       obtain ⟨hcz23_0, hcz23_1, hcz23_2, hcz23_3, hcz23_4, hcz23_5, hfz23_0, hfz23_1, hfz23_2, hfz23_3, hfz23_4, hfz23_5⟩ := c6_ BK366
       go_wp2
       go_ret
       exact ⟨by first | rfl | (simp [errW_none, errW_some] <;> rfl) | (simp [*, errW_none, errW_some] <;> rfl), by repeat (first | (with_reducible first | exact HB.out | apply bU | apply bS GE365.out | apply bS GE366.out) | exact HB.out)⟩
      ·rw [if_neg c20] at H
       have c20b0 : (a0_2 == 3600) = false := beq_eq_false_iff_ne.mpr c20
       (first | (have c20b0q : (a1_2 == 3600) = true := by simpa [c20b0] using c19b0) | (have c20b0q : (a1_2 == 3600) = false := by simpa [c20b0] using c19b0) | skip)
       have c20b1 : (a0_2 != 3600) = true := bne_iff_ne.mpr c20
       obtain rfl := Option.some.inj H
       have hnb24 := NB365_366.out
       have hnc24 := NB366_365.out
       obtain ⟨hcz25_0, hcz25_1, hcz25_2, hcz25_3, hcz25_4, hcz25_5, hfz25_0, hfz25_1, hfz25_2, hfz25_3, hfz25_4, hfz25_5⟩ := c6_ BK365
       obtain ⟨hcz26_0, hcz26_1, hcz26_2, hcz26_3, hcz26_4, hcz26_5, hfz26_0, hfz26_1, hfz26_2, hfz26_3, hfz26_4, hfz26_5⟩ := c6_ BK366
       go_wp2
       go_ret
       exact ⟨by first | rfl | (simp [errW_none, errW_some] <;> rfl) | (simp [*, errW_none, errW_some] <;> rfl), by repeat (first | (with_reducible first | exact HB.out | apply bU | apply bS GE365.out | apply bS GE366.out) | exact HB.out)⟩
     ·rw [if_neg c19] at H
      have c19b0 : ((a0_2 == 3600) != (a1_2 == 3600)) = false := by simpa using c19
      (try (have c19b1 : decide ((a0_2 == 3600) = (a1_2 == 3600)) = true := by simpa using c19))
      (try (have c19b2 : ((a0_2 == 3600) == (a1_2 == 3600)) = true := by simpa using c19))
      clear c19
      replace H := Option.bind_eq_some_iff.mp H
      obtain ⟨t370, A270, H⟩ := H
      replace H : ((waypointref32_Encode.f kj2 a1_0 a1_1 0 a1_3 l1_4 l1_5).bind fun t373 => (if (Op.bytesLess ((strOfNums t373).toList) ((strOfNums t370).toList)) = true then (some 1) else (if (Op.bytesLess ((strOfNums t370).toList) ((strOfNums t373).toList)) = true then (some (-1)) else (some 0)))) = some r := H
      have A27 := Aside0.mk A270
      clear A270
      replace H := Option.bind_eq_some_iff.mp H
      obtain ⟨t373, A280, H⟩ := H
      replace H : (if (Op.bytesLess ((strOfNums t373).toList) ((strOfNums t370).toList)) = true then (some 1) else (if (Op.bytesLess ((strOfNums t370).toList) ((strOfNums t373).toList)) = true then (some (-1)) else (some 0))) = some r := H
      have A28 := Aside0.mk A280
      clear A280
      by_cases c29 : (Op.bytesLess ((strOfNums t373).toList) ((strOfNums t370).toList)) = true
      ·rw [if_pos c29] at H
       have c29b0 : (Op.bytesLess ((strOfNums t373).toList) ((strOfNums t370).toList)) = true := c29
       clear c29
       obtain rfl := Option.some.inj H
       have hnb30 := NB365_366.out
       have hnc30 := NB366_365.out
       obtain ⟨hcz31_0, hcz31_1, hcz31_2, hcz31_3, hcz31_4, hcz31_5, hfz31_0, hfz31_1, hfz31_2, hfz31_3, hfz31_4, hfz31_5⟩ := c6_ BK365
       obtain ⟨hcz32_0, hcz32_1, hcz32_2, hcz32_3, hcz32_4, hcz32_5, hfz32_0, hfz32_1, hfz32_2, hfz32_3, hfz32_4, hfz32_5⟩ := c6_ BK366
       try go_wp2
       have n0_ : Aside0 (((wc.setCell ⟨gb365, 2, none⟩ (.int .i64 0)).setCell ⟨gb366, 2, none⟩ (.int .i64 0)).heap[gb365]? = some (.cells #[.int .i64 a0_0, .int .i64 a0_1, .int .i64 0, .bool a0_3, .slice A0_4 l0_4.length c0_4, .slice A0_5 l0_5.length c0_5] 25 (0, 0))) := ⟨by (with_reducible repeat (first | refine blk_drewN ?_ _ | refine blk_drew ?_ | refine blk_alloc ?_ _)); refine blk_far ?_ NB365_366.out _; (with_reducible repeat (first | refine blk_drewN ?_ _ | refine blk_drew ?_ | refine blk_alloc ?_ _)); refine blk_put (cs := #[.int .i64 a0_0, .int .i64 a0_1, .int .i64 a0_2, .bool a0_3, .slice A0_4 l0_4.length c0_4, .slice A0_5 l0_5.length c0_5]) ?_ 2 _ rfl; (with_reducible repeat (first | refine blk_drewN ?_ _ | refine blk_drew ?_ | refine blk_alloc ?_ _)); exact BK365.out⟩
       have n1_ : Aside0 (((wc.setCell ⟨gb365, 2, none⟩ (.int .i64 0)).setCell ⟨gb366, 2, none⟩ (.int .i64 0)).heap[gb366]? = some (.cells #[.int .i64 a1_0, .int .i64 a1_1, .int .i64 0, .bool a1_3, .slice A1_4 l1_4.length c1_4, .slice A1_5 l1_5.length c1_5] 25 (0, 0))) := ⟨by (with_reducible repeat (first | refine blk_drewN ?_ _ | refine blk_drew ?_ | refine blk_alloc ?_ _)); refine blk_put (cs := #[.int .i64 a1_0, .int .i64 a1_1, .int .i64 a1_2, .bool a1_3, .slice A1_4 l1_4.length c1_4, .slice A1_5 l1_5.length c1_5]) ?_ 2 _ rfl; (with_reducible repeat (first | refine blk_drewN ?_ _ | refine blk_drew ?_ | refine blk_alloc ?_ _)); refine blk_far ?_ NB366_365.out _; (with_reducible repeat (first | refine blk_drewN ?_ _ | refine blk_drew ?_ | refine blk_alloc ?_ _)); exact BK366.out⟩
       have n2_ : Aside0 (Below w.heap.size w ((wc.setCell ⟨gb365, 2, none⟩ (.int .i64 0)).setCell ⟨gb366, 2, none⟩ (.int .i64 0))) := ⟨by repeat (first | (with_reducible first | exact HB.out | apply bU | apply bS GE365.out | apply bS GE366.out) | exact HB.out)⟩
       (try clear BK365)
       (try clear BK366)
       (try clear HB)
       generalize ((wc.setCell ⟨gb365, 2, none⟩ (.int .i64 0)).setCell ⟨gb366, 2, none⟩ (.int .i64 0)) = w33 at n0_ n1_ n2_ ⊢
       have BK365 := n0_
       have BK366 := n1_
       have HB := n2_
       clear n0_ n1_ n2_
       replace BK365 := Aside0.mk (blk_drew BK365.out)
       replace BK366 := Aside0.mk (blk_drew BK366.out)
       replace HB := Aside0.mk (below_drew1 HB.out)
       refine start_ (n := 8) (S := fun w' => w'.cell? ⟨gb365, 0, none⟩ = some (.int .i64 a0_0) ∧ w'.cell? ⟨gb365, 1, none⟩ = some (.int .i64 a0_1) ∧ w'.cell? ⟨gb365, 2, none⟩ = some (.int .i64 0) ∧ w'.cell? ⟨gb365, 3, none⟩ = some (.bool a0_3) ∧ w'.cell? ⟨gb365, 4, none⟩ = some (.slice A0_4 l0_4.length c0_4) ∧ w'.cell? ⟨gb365, 5, none⟩ = some (.slice A0_5 l0_5.length c0_5) ∧ w'.cell? ⟨gb366, 0, none⟩ = some (.int .i64 a1_0) ∧ w'.cell? ⟨gb366, 1, none⟩ = some (.int .i64 a1_1) ∧ w'.cell? ⟨gb366, 2, none⟩ = some (.int .i64 0) ∧ w'.cell? ⟨gb366, 3, none⟩ = some (.bool a1_3) ∧ w'.cell? ⟨gb366, 4, none⟩ = some (.slice A1_4 l1_4.length c1_4) ∧ w'.cell? ⟨gb366, 5, none⟩ = some (.slice A1_5 l1_5.length c1_5)) (ds := []) #[false, false, false, false, false, false, false, false] (by kernel_rfl) rfl rfl ⟨(blk_cell BK365.out 0).trans rfl, (blk_cell BK365.out 1).trans rfl, (blk_cell BK365.out 2).trans rfl, (blk_cell BK365.out 3).trans rfl, (blk_cell BK365.out 4).trans rfl, (blk_cell BK365.out 5).trans rfl, (blk_cell BK366.out 0).trans rfl, (blk_cell BK366.out 1).trans rfl, (blk_cell BK366.out 2).trans rfl, (blk_cell BK366.out 3).trans rfl, (blk_cell BK366.out 4).trans rfl, (blk_cell BK366.out 5).trans rfl⟩ (fun hHeld => ?_); refine with_tabW waypointref32_Newer.tab10 waypointref32_Newer.bits10 (fun HT_ HW_ => ?_)
       generalize w33.drew = w34 at BK365 BK366 HB hHeld ⊢
       refine ty 0 38 HT_ HW_ rfl (Or.inl ⟨by rfl, by rintro w' ⟨s0, s1, s2, s3, s4, s5, s6, s7, s8, s9, s10, s11⟩; go_simp; with_reducible rfl⟩) hHeld ?_
       refine ty 3 41 HT_ HW_ rfl (Or.inl ⟨by rfl, by rintro w' ⟨s0, s1, s2, s3, s4, s5, s6, s7, s8, s9, s10, s11⟩; go_simp; with_reducible rfl⟩) hHeld ?_
       refine one_ (i := 1) (N := some 39) #[true, true, false, true, false, false, false, false] rfl rfl (one_of HT_.out (by kernel_rfl)) (by decide) (fun K hK => ?_)
       refine goes_ Try.func17 (by kernel_rfl) rfl #[.agg #[.int .i64 a0_0, .int .i64 a0_1, .int .i64 0, .bool a0_3, .slice A0_4 l0_4.length c0_4, .slice A0_5 l0_5.length c0_5]] (by rfl) rfl rfl (by (try simp only [List.map_toArray, List.map_cons, List.map_nil]); first | done | rfl | (simp only [List.length_drop, List.length_take]; rfl)) ?_
       with_reducible refine (waypointref32_Encode.calls kj2 a0_0 a0_1 0 a0_3 _ _ l0_4 _ _ l0_5 t370 _ ?side1 ?side2 ?side3 ?side4 A27.out).mono ?_
       (case side1 => exact cs_ HR0_4 HB)
       (case side2 => exact HC0_4.out)
       (case side3 => exact cs_ HR0_5 HB)
       (case side4 => exact HC0_5.out)
       rintro e w35 ⟨v371, rfl, ho0, hb⟩
       refine ⟨_, rfl, ?_⟩
       have HO372 := Aside0.mk (Kd.R_lower ho0 (below_size (by repeat (first | (with_reducible first | exact HB.out | apply bU | apply bS GE365.out | apply bS GE366.out) | exact HB.out))))
       replace BK365 := bb_ BK365 hb
       replace BK366 := bb_ BK366 hb
       replace HB := Aside0.mk (below_step (by repeat (first | (with_reducible first | exact HB.out | apply bU | apply bS GE365.out | apply bS GE366.out) | exact HB.out)) hb)
       (try clear hb)
       (try clear ho0)
       refine hK.out _ _ ⟨(blk_cell BK365.out 0).trans rfl, (blk_cell BK365.out 1).trans rfl, (blk_cell BK365.out 2).trans rfl, (blk_cell BK365.out 3).trans rfl, (blk_cell BK365.out 4).trans rfl, (blk_cell BK365.out 5).trans rfl, (blk_cell BK366.out 0).trans rfl, (blk_cell BK366.out 1).trans rfl, (blk_cell BK366.out 2).trans rfl, (blk_cell BK366.out 3).trans rfl, (blk_cell BK366.out 4).trans rfl, (blk_cell BK366.out 5).trans rfl⟩ (fun hHeld => ?_)
       clear hK K
       refine norm_ (a' := ?_) ?_ ?_
       rotate_left
       ·show Act.put _ (some 39) _ = _
        simp only [Act.put, List.setIfInBounds_toArray, List.set_cons_zero, List.set_cons_succ, i64_w, i32_w]
        rfl
       refine join_ (σ := Value) 1 #[true, true, true, true, true, true, true, false] (fun s_ => [(40, .string (strOfNums t370)), (42, s_), (43, .string (strOfNums t373)), (5, .string (strOfNums t370))]) (fun s_ w' => (w'.cell? ⟨gb365, 0, none⟩ = some (.int .i64 a0_0) ∧ w'.cell? ⟨gb365, 1, none⟩ = some (.int .i64 a0_1) ∧ w'.cell? ⟨gb365, 2, none⟩ = some (.int .i64 0) ∧ w'.cell? ⟨gb365, 3, none⟩ = some (.bool a0_3) ∧ w'.cell? ⟨gb365, 4, none⟩ = some (.slice A0_4 l0_4.length c0_4) ∧ w'.cell? ⟨gb365, 5, none⟩ = some (.slice A0_5 l0_5.length c0_5) ∧ w'.cell? ⟨gb366, 0, none⟩ = some (.int .i64 a1_0) ∧ w'.cell? ⟨gb366, 1, none⟩ = some (.int .i64 a1_1) ∧ w'.cell? ⟨gb366, 2, none⟩ = some (.int .i64 0) ∧ w'.cell? ⟨gb366, 3, none⟩ = some (.bool a1_3) ∧ w'.cell? ⟨gb366, 4, none⟩ = some (.slice A1_4 l1_4.length c1_4) ∧ w'.cell? ⟨gb366, 5, none⟩ = some (.slice A1_5 l1_5.length c1_5)) ∧ (Kd.R (Kd.int .u8) 5 w' w.heap.size (fun k_ => some k_ ≠ (s_ : Value).ownBlock) v371 t370) ∧ (Kd.R (Kd.int .u8) 5 w' w.heap.size (fun k_ => some k_ ≠ (v371 : Value).ownBlock) s_ t373) ∧ (w'.heap[gb365]? = some (.cells #[.int .i64 a0_0, .int .i64 a0_1, .int .i64 0, .bool a0_3, .slice A0_4 l0_4.length c0_4, .slice A0_5 l0_5.length c0_5] 25 (0, 0))) ∧ (w'.heap[gb366]? = some (.cells #[.int .i64 a1_0, .int .i64 a1_1, .int .i64 0, .bool a1_3, .slice A1_4 l1_4.length c1_4, .slice A1_5 l1_5.length c1_5] 25 (0, 0))) ∧ (Below w.heap.size w w')) ?_ ?_
       rotate_left
       ·intro hCont
        refine two_ (i := 2) (j := 4) (Ni := some 40) (Nj := some 42) #[true, true, true, true, false, false, false, false] #[true, true, false, true, true, false, false, false] rfl rfl rfl rfl (two_of HT_.out (by kernel_rfl)) (by decide) (by decide) (fun K hK => ?_) (fun K hK => ?_)
        ·skip
         have hcv36 := own_string (P := Try.prog) Try.underlying28 Try.underlying5 Try.underlying9 (Kd.own_of_R HO372.out)
         refine value_ (w1 := ?_) (v := ?_) (by rfl) rfl ?_ ?_
         rotate_left 2
         ·go_simp
          constructor
          ·rfl
          ·rfl
         clear hcv36
         refine hK.out _ _ ⟨(blk_cell BK365.out 0).trans rfl, (blk_cell BK365.out 1).trans rfl, (blk_cell BK365.out 2).trans rfl, (blk_cell BK365.out 3).trans rfl, (blk_cell BK365.out 4).trans rfl, (blk_cell BK365.out 5).trans rfl, (blk_cell BK366.out 0).trans rfl, (blk_cell BK366.out 1).trans rfl, (blk_cell BK366.out 2).trans rfl, (blk_cell BK366.out 3).trans rfl, (blk_cell BK366.out 4).trans rfl, (blk_cell BK366.out 5).trans rfl⟩ (fun hHeld => ?_)
         clear hK K
         refine norm_ (a' := ?_) ?_ ?_
         rotate_left
         ·show Act.put _ (some 40) _ = _
          simp only [Act.put, List.setIfInBounds_toArray, List.set_cons_zero, List.set_cons_succ, i64_w, i32_w]
          rfl
         refine one_ (i := 4) (N := some 42) #[true, true, true, true, true, false, false, false] rfl rfl (one_of HT_.out (by kernel_rfl)) (by decide) (fun K hK => ?_)
         refine goes_ Try.func17 (by kernel_rfl) rfl #[.agg #[.int .i64 a1_0, .int .i64 a1_1, .int .i64 0, .bool a1_3, .slice A1_4 l1_4.length c1_4, .slice A1_5 l1_5.length c1_5]] (by rfl) rfl rfl (by (try simp only [List.map_toArray, List.map_cons, List.map_nil]); first | done | rfl | (simp only [List.length_drop, List.length_take]; rfl)) ?_
         with_reducible refine (waypointref32_Encode.calls kj2 a1_0 a1_1 0 a1_3 _ _ l1_4 _ _ l1_5 t373 _ ?side1 ?side2 ?side3 ?side4 A28.out).mono ?_
         (case side1 => exact cs_ HR1_4 HB)
         (case side2 => exact HC1_4.out)
         (case side3 => exact cs_ HR1_5 HB)
         (case side4 => exact HC1_5.out)
         rintro e w37 ⟨v374, rfl, ho0, hb⟩
         refine ⟨_, rfl, ?_⟩
         have HO375 := Aside0.mk (Kd.R_lower (Kd.R_new' ho0 (Kd.R_lt (by (with_reducible repeat (first | apply Kd.R_alloc | apply Kd.R_drewN | apply Kd.R_drew)); exact HO372.out))) (below_size (by repeat (first | (with_reducible first | exact HB.out | apply bU | apply bS GE365.out | apply bS GE366.out) | exact HB.out))))
         replace HO372 := Aside0.mk (Kd.R_elder' (by (with_reducible repeat (first | apply Kd.R_alloc | apply Kd.R_drewN | apply Kd.R_drew)); exact HO372.out) (Kd.R_base ho0) hb)
         replace BK365 := bb_ BK365 hb
         replace BK366 := bb_ BK366 hb
         replace HB := Aside0.mk (below_step (by repeat (first | (with_reducible first | exact HB.out | apply bU | apply bS GE365.out | apply bS GE366.out) | exact HB.out)) hb)
         (try clear hb)
         (try clear ho0)
         refine hK.out _ _ ⟨(blk_cell BK365.out 0).trans rfl, (blk_cell BK365.out 1).trans rfl, (blk_cell BK365.out 2).trans rfl, (blk_cell BK365.out 3).trans rfl, (blk_cell BK365.out 4).trans rfl, (blk_cell BK365.out 5).trans rfl, (blk_cell BK366.out 0).trans rfl, (blk_cell BK366.out 1).trans rfl, (blk_cell BK366.out 2).trans rfl, (blk_cell BK366.out 3).trans rfl, (blk_cell BK366.out 4).trans rfl, (blk_cell BK366.out 5).trans rfl⟩ (fun hHeld => ?_)
         clear hK K
         refine norm_ (a' := ?_) ?_ ?_
         rotate_left
         ·show Act.put _ (some 42) _ = _
          simp only [Act.put, List.setIfInBounds_toArray, List.set_cons_zero, List.set_cons_succ, i64_w, i32_w]
          rfl
         refine py 6 5 HT_ ?_
         refine one_ (i := 5) (N := some 43) #[true, true, true, true, true, true, true, false] rfl rfl (one_of HT_.out (by kernel_rfl)) (by decide) (fun K hK => ?_)
         have hcv38 := own_string (P := Try.prog) Try.underlying28 Try.underlying5 Try.underlying9 (Kd.own_of_R HO375.out)
         refine value_ (w1 := ?_) (v := ?_) (by rfl) rfl ?_ ?_
         rotate_left 2
         ·go_simp
          constructor
          ·rfl
          ·rfl
         clear hcv38
         refine hK.out _ _ ⟨(blk_cell BK365.out 0).trans rfl, (blk_cell BK365.out 1).trans rfl, (blk_cell BK365.out 2).trans rfl, (blk_cell BK365.out 3).trans rfl, (blk_cell BK365.out 4).trans rfl, (blk_cell BK365.out 5).trans rfl, (blk_cell BK366.out 0).trans rfl, (blk_cell BK366.out 1).trans rfl, (blk_cell BK366.out 2).trans rfl, (blk_cell BK366.out 3).trans rfl, (blk_cell BK366.out 4).trans rfl, (blk_cell BK366.out 5).trans rfl⟩ (fun hHeld => ?_)
         clear hK K
         refine norm_ (a' := ?_) ?_ ?_
         rotate_left
         ·show Act.put _ (some 43) _ = _
          simp only [Act.put, List.setIfInBounds_toArray, List.set_cons_zero, List.set_cons_succ, i64_w, i32_w]
          rfl
         exact norm_ (by simp only [putAll, Act.put, List.setIfInBounds_toArray, List.set_cons_zero, List.set_cons_succ]) (hCont (v374) _ ⟨hHeld, (by (with_reducible repeat (first | apply Kd.R_alloc | apply Kd.R_drewN | apply Kd.R_drew)); exact Kd.R_mono HO372.out (fun _ hk => hk.2)), (by (with_reducible repeat (first | apply Kd.R_alloc | apply Kd.R_drewN | apply Kd.R_drew)); exact Kd.R_mono HO375.out (fun _ hk => hk.2)), (kb_ BK365), (kb_ BK366), (by repeat (first | (with_reducible first | exact HB.out | apply bU | apply bS GE365.out | apply bS GE366.out) | exact HB.out))⟩)
        ·skip
         refine goes_ Try.func17 (by kernel_rfl) rfl #[.agg #[.int .i64 a1_0, .int .i64 a1_1, .int .i64 0, .bool a1_3, .slice A1_4 l1_4.length c1_4, .slice A1_5 l1_5.length c1_5]] (by rfl) rfl rfl (by (try simp only [List.map_toArray, List.map_cons, List.map_nil]); first | done | rfl | (simp only [List.length_drop, List.length_take]; rfl)) ?_
         with_reducible refine (waypointref32_Encode.calls kj2 a1_0 a1_1 0 a1_3 _ _ l1_4 _ _ l1_5 t373 _ ?side1 ?side2 ?side3 ?side4 A28.out).mono ?_
         (case side1 => exact cs_ HR1_4 HB)
         (case side2 => exact HC1_4.out)
         (case side3 => exact cs_ HR1_5 HB)
         (case side4 => exact HC1_5.out)
         rintro e w36 ⟨v374, rfl, ho0, hb⟩
         refine ⟨_, rfl, ?_⟩
         have HO375 := Aside0.mk (Kd.R_lower (Kd.R_new' ho0 (Kd.R_lt (by (with_reducible repeat (first | apply Kd.R_alloc | apply Kd.R_drewN | apply Kd.R_drew)); exact HO372.out))) (below_size (by repeat (first | (with_reducible first | exact HB.out | apply bU | apply bS GE365.out | apply bS GE366.out) | exact HB.out))))
         replace HO372 := Aside0.mk (Kd.R_elder' (by (with_reducible repeat (first | apply Kd.R_alloc | apply Kd.R_drewN | apply Kd.R_drew)); exact HO372.out) (Kd.R_base ho0) hb)
         replace BK365 := bb_ BK365 hb
         replace BK366 := bb_ BK366 hb
         replace HB := Aside0.mk (below_step (by repeat (first | (with_reducible first | exact HB.out | apply bU | apply bS GE365.out | apply bS GE366.out) | exact HB.out)) hb)
         (try clear hb)
         (try clear ho0)
         refine hK.out _ _ ⟨(blk_cell BK365.out 0).trans rfl, (blk_cell BK365.out 1).trans rfl, (blk_cell BK365.out 2).trans rfl, (blk_cell BK365.out 3).trans rfl, (blk_cell BK365.out 4).trans rfl, (blk_cell BK365.out 5).trans rfl, (blk_cell BK366.out 0).trans rfl, (blk_cell BK366.out 1).trans rfl, (blk_cell BK366.out 2).trans rfl, (blk_cell BK366.out 3).trans rfl, (blk_cell BK366.out 4).trans rfl, (blk_cell BK366.out 5).trans rfl⟩ (fun hHeld => ?_)
         clear hK K
         refine norm_ (a' := ?_) ?_ ?_
         rotate_left
         ·show Act.put _ (some 42) _ = _
          simp only [Act.put, List.setIfInBounds_toArray, List.set_cons_zero, List.set_cons_succ, i64_w, i32_w]
          rfl
         refine two_ (i := 2) (j := 5) (Ni := some 40) (Nj := some 43) #[true, true, true, true, true, false, false, false] #[true, true, false, true, true, true, false, false] rfl rfl rfl rfl (two_of HT_.out (by kernel_rfl)) (by decide) (by decide) (fun K hK => ?_) (fun K hK => ?_)
         ·skip
          have hcv37 := own_string (P := Try.prog) Try.underlying28 Try.underlying5 Try.underlying9 (Kd.own_of_R HO372.out)
          refine value_ (w1 := ?_) (v := ?_) (by rfl) rfl ?_ ?_
          rotate_left 2
          ·go_simp
           constructor
           ·rfl
           ·rfl
          clear hcv37
          refine hK.out _ _ ⟨(blk_cell BK365.out 0).trans rfl, (blk_cell BK365.out 1).trans rfl, (blk_cell BK365.out 2).trans rfl, (blk_cell BK365.out 3).trans rfl, (blk_cell BK365.out 4).trans rfl, (blk_cell BK365.out 5).trans rfl, (blk_cell BK366.out 0).trans rfl, (blk_cell BK366.out 1).trans rfl, (blk_cell BK366.out 2).trans rfl, (blk_cell BK366.out 3).trans rfl, (blk_cell BK366.out 4).trans rfl, (blk_cell BK366.out 5).trans rfl⟩ (fun hHeld => ?_)
          clear hK K
          refine norm_ (a' := ?_) ?_ ?_
          rotate_left
          ·show Act.put _ (some 40) _ = _
           simp only [Act.put, List.setIfInBounds_toArray, List.set_cons_zero, List.set_cons_succ, i64_w, i32_w]
           rfl
          refine py 6 5 HT_ ?_
          refine one_ (i := 5) (N := some 43) #[true, true, true, true, true, true, true, false] rfl rfl (one_of HT_.out (by kernel_rfl)) (by decide) (fun K hK => ?_)
          have hcv38 := own_string (P := Try.prog) Try.underlying28 Try.underlying5 Try.underlying9 (Kd.own_of_R HO375.out)
          refine value_ (w1 := ?_) (v := ?_) (by rfl) rfl ?_ ?_
          rotate_left 2
          ·go_simp
           constructor
           ·rfl
           ·rfl
          clear hcv38
          refine hK.out _ _ ⟨(blk_cell BK365.out 0).trans rfl, (blk_cell BK365.out 1).trans rfl, (blk_cell BK365.out 2).trans rfl, (blk_cell BK365.out 3).trans rfl, (blk_cell BK365.out 4).trans rfl, (blk_cell BK365.out 5).trans rfl, (blk_cell BK366.out 0).trans rfl, (blk_cell BK366.out 1).trans rfl, (blk_cell BK366.out 2).trans rfl, (blk_cell BK366.out 3).trans rfl, (blk_cell BK366.out 4).trans rfl, (blk_cell BK366.out 5).trans rfl⟩ (fun hHeld => ?_)
          clear hK K
          refine norm_ (a' := ?_) ?_ ?_
          rotate_left
          ·show Act.put _ (some 43) _ = _
           simp only [Act.put, List.setIfInBounds_toArray, List.set_cons_zero, List.set_cons_succ, i64_w, i32_w]
           rfl
          exact norm_ (by simp only [putAll, Act.put, List.setIfInBounds_toArray, List.set_cons_zero, List.set_cons_succ]) (hCont (v374) _ ⟨hHeld, (by (with_reducible repeat (first | apply Kd.R_alloc | apply Kd.R_drewN | apply Kd.R_drew)); exact Kd.R_mono HO372.out (fun _ hk => hk.2)), (by (with_reducible repeat (first | apply Kd.R_alloc | apply Kd.R_drewN | apply Kd.R_drew)); exact Kd.R_mono HO375.out (fun _ hk => hk.2)), (kb_ BK365), (kb_ BK366), (by repeat (first | (with_reducible first | exact HB.out | apply bU | apply bS GE365.out | apply bS GE366.out) | exact HB.out))⟩)
         ·skip
          have hcv37 := own_string (P := Try.prog) Try.underlying28 Try.underlying5 Try.underlying9 (Kd.own_of_R HO375.out)
          refine value_ (w1 := ?_) (v := ?_) (by rfl) rfl ?_ ?_
          rotate_left 2
          ·go_simp
           constructor
           ·rfl
           ·rfl
          clear hcv37
          refine hK.out _ _ ⟨(blk_cell BK365.out 0).trans rfl, (blk_cell BK365.out 1).trans rfl, (blk_cell BK365.out 2).trans rfl, (blk_cell BK365.out 3).trans rfl, (blk_cell BK365.out 4).trans rfl, (blk_cell BK365.out 5).trans rfl, (blk_cell BK366.out 0).trans rfl, (blk_cell BK366.out 1).trans rfl, (blk_cell BK366.out 2).trans rfl, (blk_cell BK366.out 3).trans rfl, (blk_cell BK366.out 4).trans rfl, (blk_cell BK366.out 5).trans rfl⟩ (fun hHeld => ?_)
          clear hK K
          refine norm_ (a' := ?_) ?_ ?_
          rotate_left
          ·show Act.put _ (some 43) _ = _
           simp only [Act.put, List.setIfInBounds_toArray, List.set_cons_zero, List.set_cons_succ, i64_w, i32_w]
           rfl
          refine one_ (i := 2) (N := some 40) #[true, true, true, true, true, true, false, false] rfl rfl (one_of HT_.out (by kernel_rfl)) (by decide) (fun K hK => ?_)
          have hcv38 := own_string (P := Try.prog) Try.underlying28 Try.underlying5 Try.underlying9 (Kd.own_of_R HO372.out)
          refine value_ (w1 := ?_) (v := ?_) (by rfl) rfl ?_ ?_
          rotate_left 2
          ·go_simp
           constructor
           ·rfl
           ·rfl
          clear hcv38
          refine hK.out _ _ ⟨(blk_cell BK365.out 0).trans rfl, (blk_cell BK365.out 1).trans rfl, (blk_cell BK365.out 2).trans rfl, (blk_cell BK365.out 3).trans rfl, (blk_cell BK365.out 4).trans rfl, (blk_cell BK365.out 5).trans rfl, (blk_cell BK366.out 0).trans rfl, (blk_cell BK366.out 1).trans rfl, (blk_cell BK366.out 2).trans rfl, (blk_cell BK366.out 3).trans rfl, (blk_cell BK366.out 4).trans rfl, (blk_cell BK366.out 5).trans rfl⟩ (fun hHeld => ?_)
          clear hK K
          refine norm_ (a' := ?_) ?_ ?_
          rotate_left
          ·show Act.put _ (some 40) _ = _
           simp only [Act.put, List.setIfInBounds_toArray, List.set_cons_zero, List.set_cons_succ, i64_w, i32_w]
           rfl
          refine py 6 5 HT_ ?_
          exact norm_ (by simp only [putAll, Act.put, List.setIfInBounds_toArray, List.set_cons_zero, List.set_cons_succ]) (hCont (v374) _ ⟨hHeld, (by (with_reducible repeat (first | apply Kd.R_alloc | apply Kd.R_drewN | apply Kd.R_drew)); exact Kd.R_mono HO372.out (fun _ hk => hk.2)), (by (with_reducible repeat (first | apply Kd.R_alloc | apply Kd.R_drewN | apply Kd.R_drew)); exact Kd.R_mono HO375.out (fun _ hk => hk.2)), (kb_ BK365), (kb_ BK366), (by repeat (first | (with_reducible first | exact HB.out | apply bU | apply bS GE365.out | apply bS GE366.out) | exact HB.out))⟩)
       rintro v374 w39 ⟨hS_, h0_, h1_, h2_, h3_, h4_⟩
       have HO372 : Aside0 (Kd.R (Kd.int .u8) 5 w39 w.heap.size (fun k_ => some k_ ≠ (v374 : Value).ownBlock) v371 t370) := ⟨h0_⟩
       have HO375 : Aside0 (Kd.R (Kd.int .u8) 5 w39 w.heap.size (fun k_ => some k_ ≠ (v371 : Value).ownBlock) v374 t373) := ⟨h1_⟩
       replace BK365 : Aside0 (w39.heap[gb365]? = some (.cells #[.int .i64 a0_0, .int .i64 a0_1, .int .i64 0, .bool a0_3, .slice A0_4 l0_4.length c0_4, .slice A0_5 l0_5.length c0_5] 25 (0, 0))) := ⟨h2_⟩
       replace BK366 : Aside0 (w39.heap[gb366]? = some (.cells #[.int .i64 a1_0, .int .i64 a1_1, .int .i64 0, .bool a1_3, .slice A1_4 l1_4.length c1_4, .slice A1_5 l1_5.length c1_5] 25 (0, 0))) := ⟨h3_⟩
       replace HB : Aside0 (Below w.heap.size w w39) := ⟨h4_⟩
       clear h0_ h1_ h2_ h3_ h4_
       have hHeld : w39.cell? ⟨gb365, 0, none⟩ = some (.int .i64 a0_0) ∧ w39.cell? ⟨gb365, 1, none⟩ = some (.int .i64 a0_1) ∧ w39.cell? ⟨gb365, 2, none⟩ = some (.int .i64 0) ∧ w39.cell? ⟨gb365, 3, none⟩ = some (.bool a0_3) ∧ w39.cell? ⟨gb365, 4, none⟩ = some (.slice A0_4 l0_4.length c0_4) ∧ w39.cell? ⟨gb365, 5, none⟩ = some (.slice A0_5 l0_5.length c0_5) ∧ w39.cell? ⟨gb366, 0, none⟩ = some (.int .i64 a1_0) ∧ w39.cell? ⟨gb366, 1, none⟩ = some (.int .i64 a1_1) ∧ w39.cell? ⟨gb366, 2, none⟩ = some (.int .i64 0) ∧ w39.cell? ⟨gb366, 3, none⟩ = some (.bool a1_3) ∧ w39.cell? ⟨gb366, 4, none⟩ = some (.slice A1_4 l1_4.length c1_4) ∧ w39.cell? ⟨gb366, 5, none⟩ = some (.slice A1_5 l1_5.length c1_5) := hS_
       refine norm_ (a' := ?_) ?_ ?_
       rotate_left
       ·simp only [putAll, Act.put, List.setIfInBounds_toArray, List.set_cons_zero, List.set_cons_succ]
        rfl
       refine py 7 6 HT_ ?_
       refine done_ (done_of HT_.out (by kernel_rfl)) ?_
       try go_wp2
       go_ret
       exact ⟨by first | rfl | (simp [errW_none, errW_some] <;> rfl) | (simp [*, errW_none, errW_some] <;> rfl), by repeat (first | (with_reducible first | exact HB.out | apply bU | apply bS GE365.out | apply bS GE366.out) | exact HB.out)⟩
      ·rw [if_neg c29] at H
       have c29b0 : (Op.bytesLess ((strOfNums t373).toList) ((strOfNums t370).toList)) = false := by simpa using c29
       clear c29
       by_cases c40 : (Op.bytesLess ((strOfNums t370).toList) ((strOfNums t373).toList)) = true
       ·rw [if_pos c40] at H
        have c40b0 : (Op.bytesLess ((strOfNums t370).toList) ((strOfNums t373).toList)) = true := c40
        clear c40
        obtain rfl := Option.some.inj H
        have hnb41 := NB365_366.out
        have hnc41 := NB366_365.out
        obtain ⟨hcz42_0, hcz42_1, hcz42_2, hcz42_3, hcz42_4, hcz42_5, hfz42_0, hfz42_1, hfz42_2, hfz42_3, hfz42_4, hfz42_5⟩ := c6_ BK365
        obtain ⟨hcz43_0, hcz43_1, hcz43_2, hcz43_3, hcz43_4, hcz43_5, hfz43_0, hfz43_1, hfz43_2, hfz43_3, hfz43_4, hfz43_5⟩ := c6_ BK366
        try go_wp2
        have n0_ : Aside0 (((wc.setCell ⟨gb365, 2, none⟩ (.int .i64 0)).setCell ⟨gb366, 2, none⟩ (.int .i64 0)).heap[gb365]? = some (.cells #[.int .i64 a0_0, .int .i64 a0_1, .int .i64 0, .bool a0_3, .slice A0_4 l0_4.length c0_4, .slice A0_5 l0_5.length c0_5] 25 (0, 0))) := ⟨by (with_reducible repeat (first | refine blk_drewN ?_ _ | refine blk_drew ?_ | refine blk_alloc ?_ _)); refine blk_far ?_ NB365_366.out _; (with_reducible repeat (first | refine blk_drewN ?_ _ | refine blk_drew ?_ | refine blk_alloc ?_ _)); refine blk_put (cs := #[.int .i64 a0_0, .int .i64 a0_1, .int .i64 a0_2, .bool a0_3, .slice A0_4 l0_4.length c0_4, .slice A0_5 l0_5.length c0_5]) ?_ 2 _ rfl; (with_reducible repeat (first | refine blk_drewN ?_ _ | refine blk_drew ?_ | refine blk_alloc ?_ _)); exact BK365.out⟩
        have n1_ : Aside0 (((wc.setCell ⟨gb365, 2, none⟩ (.int .i64 0)).setCell ⟨gb366, 2, none⟩ (.int .i64 0)).heap[gb366]? = some (.cells #[.int .i64 a1_0, .int .i64 a1_1, .int .i64 0, .bool a1_3, .slice A1_4 l1_4.length c1_4, .slice A1_5 l1_5.length c1_5] 25 (0, 0))) := ⟨by (with_reducible repeat (first | refine blk_drewN ?_ _ | refine blk_drew ?_ | refine blk_alloc ?_ _)); refine blk_put (cs := #[.int .i64 a1_0, .int .i64 a1_1, .int .i64 a1_2, .bool a1_3, .slice A1_4 l1_4.length c1_4, .slice A1_5 l1_5.length c1_5]) ?_ 2 _ rfl; (with_reducible repeat (first | refine blk_drewN ?_ _ | refine blk_drew ?_ | refine blk_alloc ?_ _)); refine blk_far ?_ NB366_365.out _; (with_reducible repeat (first | refine blk_drewN ?_ _ | refine blk_drew ?_ | refine blk_alloc ?_ _)); exact BK366.out⟩
        have n2_ : Aside0 (Below w.heap.size w ((wc.setCell ⟨gb365, 2, none⟩ (.int .i64 0)).setCell ⟨gb366, 2, none⟩ (.int .i64 0))) := ⟨by repeat (first | (with_reducible first | exact HB.out | apply bU | apply bS GE365.out | apply bS GE366.out) | exact HB.out)⟩
        (try clear BK365)
        (try clear BK366)
        (try clear HB)
        generalize ((wc.setCell ⟨gb365, 2, none⟩ (.int .i64 0)).setCell ⟨gb366, 2, none⟩ (.int .i64 0)) = w44 at n0_ n1_ n2_ ⊢
        have BK365 := n0_
        have BK366 := n1_
        have HB := n2_
        clear n0_ n1_ n2_
        replace BK365 := Aside0.mk (blk_drew BK365.out)
        replace BK366 := Aside0.mk (blk_drew BK366.out)
        replace HB := Aside0.mk (below_drew1 HB.out)
        refine start_ (n := 8) (S := fun w' => w'.cell? ⟨gb365, 0, none⟩ = some (.int .i64 a0_0) ∧ w'.cell? ⟨gb365, 1, none⟩ = some (.int .i64 a0_1) ∧ w'.cell? ⟨gb365, 2, none⟩ = some (.int .i64 0) ∧ w'.cell? ⟨gb365, 3, none⟩ = some (.bool a0_3) ∧ w'.cell? ⟨gb365, 4, none⟩ = some (.slice A0_4 l0_4.length c0_4) ∧ w'.cell? ⟨gb365, 5, none⟩ = some (.slice A0_5 l0_5.length c0_5) ∧ w'.cell? ⟨gb366, 0, none⟩ = some (.int .i64 a1_0) ∧ w'.cell? ⟨gb366, 1, none⟩ = some (.int .i64 a1_1) ∧ w'.cell? ⟨gb366, 2, none⟩ = some (.int .i64 0) ∧ w'.cell? ⟨gb366, 3, none⟩ = some (.bool a1_3) ∧ w'.cell? ⟨gb366, 4, none⟩ = some (.slice A1_4 l1_4.length c1_4) ∧ w'.cell? ⟨gb366, 5, none⟩ = some (.slice A1_5 l1_5.length c1_5)) (ds := []) #[false, false, false, false, false, false, false, false] (by kernel_rfl) rfl rfl ⟨(blk_cell BK365.out 0).trans rfl, (blk_cell BK365.out 1).trans rfl, (blk_cell BK365.out 2).trans rfl, (blk_cell BK365.out 3).trans rfl, (blk_cell BK365.out 4).trans rfl, (blk_cell BK365.out 5).trans rfl, (blk_cell BK366.out 0).trans rfl, (blk_cell BK366.out 1).trans rfl, (blk_cell BK366.out 2).trans rfl, (blk_cell BK366.out 3).trans rfl, (blk_cell BK366.out 4).trans rfl, (blk_cell BK366.out 5).trans rfl⟩ (fun hHeld => ?_); refine with_tabW waypointref32_Newer.tab10 waypointref32_Newer.bits10 (fun HT_ HW_ => ?_)
        generalize w44.drew = w45 at BK365 BK366 HB hHeld ⊢
        refine ty 0 38 HT_ HW_ rfl (Or.inl ⟨by rfl, by rintro w' ⟨s0, s1, s2, s3, s4, s5, s6, s7, s8, s9, s10, s11⟩; go_simp; with_reducible rfl⟩) hHeld ?_
        refine ty 3 41 HT_ HW_ rfl (Or.inl ⟨by rfl, by rintro w' ⟨s0, s1, s2, s3, s4, s5, s6, s7, s8, s9, s10, s11⟩; go_simp; with_reducible rfl⟩) hHeld ?_
        refine one_ (i := 1) (N := some 39) #[true, true, false, true, false, false, false, false] rfl rfl (one_of HT_.out (by kernel_rfl)) (by decide) (fun K hK => ?_)
        refine goes_ Try.func17 (by kernel_rfl) rfl #[.agg #[.int .i64 a0_0, .int .i64 a0_1, .int .i64 0, .bool a0_3, .slice A0_4 l0_4.length c0_4, .slice A0_5 l0_5.length c0_5]] (by rfl) rfl rfl (by (try simp only [List.map_toArray, List.map_cons, List.map_nil]); first | done | rfl | (simp only [List.length_drop, List.length_take]; rfl)) ?_
        with_reducible refine (waypointref32_Encode.calls kj2 a0_0 a0_1 0 a0_3 _ _ l0_4 _ _ l0_5 t370 _ ?side1 ?side2 ?side3 ?side4 A27.out).mono ?_
        (case side1 => exact cs_ HR0_4 HB)
        (case side2 => exact HC0_4.out)
        (case side3 => exact cs_ HR0_5 HB)
        (case side4 => exact HC0_5.out)
        rintro e w46 ⟨v371, rfl, ho0, hb⟩
        refine ⟨_, rfl, ?_⟩
        have HO372 := Aside0.mk (Kd.R_lower ho0 (below_size (by repeat (first | (with_reducible first | exact HB.out | apply bU | apply bS GE365.out | apply bS GE366.out) | exact HB.out))))
        replace BK365 := bb_ BK365 hb
        replace BK366 := bb_ BK366 hb
        replace HB := Aside0.mk (below_step (by repeat (first | (with_reducible first | exact HB.out | apply bU | apply bS GE365.out | apply bS GE366.out) | exact HB.out)) hb)
        (try clear hb)
        (try clear ho0)
        refine hK.out _ _ ⟨(blk_cell BK365.out 0).trans rfl, (blk_cell BK365.out 1).trans rfl, (blk_cell BK365.out 2).trans rfl, (blk_cell BK365.out 3).trans rfl, (blk_cell BK365.out 4).trans rfl, (blk_cell BK365.out 5).trans rfl, (blk_cell BK366.out 0).trans rfl, (blk_cell BK366.out 1).trans rfl, (blk_cell BK366.out 2).trans rfl, (blk_cell BK366.out 3).trans rfl, (blk_cell BK366.out 4).trans rfl, (blk_cell BK366.out 5).trans rfl⟩ (fun hHeld => ?_)
        clear hK K
        refine norm_ (a' := ?_) ?_ ?_
        rotate_left
        ·show Act.put _ (some 39) _ = _
         simp only [Act.put, List.setIfInBounds_toArray, List.set_cons_zero, List.set_cons_succ, i64_w, i32_w]
         rfl
        refine join_ (σ := Value) 1 #[true, true, true, true, true, true, true, false] (fun s_ => [(40, .string (strOfNums t370)), (42, s_), (43, .string (strOfNums t373)), (5, .string (strOfNums t370))]) (fun s_ w' => (w'.cell? ⟨gb365, 0, none⟩ = some (.int .i64 a0_0) ∧ w'.cell? ⟨gb365, 1, none⟩ = some (.int .i64 a0_1) ∧ w'.cell? ⟨gb365, 2, none⟩ = some (.int .i64 0) ∧ w'.cell? ⟨gb365, 3, none⟩ = some (.bool a0_3) ∧ w'.cell? ⟨gb365, 4, none⟩ = some (.slice A0_4 l0_4.length c0_4) ∧ w'.cell? ⟨gb365, 5, none⟩ = some (.slice A0_5 l0_5.length c0_5) ∧ w'.cell? ⟨gb366, 0, none⟩ = some (.int .i64 a1_0) ∧ w'.cell? ⟨gb366, 1, none⟩ = some (.int .i64 a1_1) ∧ w'.cell? ⟨gb366, 2, none⟩ = some (.int .i64 0) ∧ w'.cell? ⟨gb366, 3, none⟩ = some (.bool a1_3) ∧ w'.cell? ⟨gb366, 4, none⟩ = some (.slice A1_4 l1_4.length c1_4) ∧ w'.cell? ⟨gb366, 5, none⟩ = some (.slice A1_5 l1_5.length c1_5)) ∧ (Kd.R (Kd.int .u8) 5 w' w.heap.size (fun k_ => some k_ ≠ (s_ : Value).ownBlock) v371 t370) ∧ (Kd.R (Kd.int .u8) 5 w' w.heap.size (fun k_ => some k_ ≠ (v371 : Value).ownBlock) s_ t373) ∧ (w'.heap[gb365]? = some (.cells #[.int .i64 a0_0, .int .i64 a0_1, .int .i64 0, .bool a0_3, .slice A0_4 l0_4.length c0_4, .slice A0_5 l0_5.length c0_5] 25 (0, 0))) ∧ (w'.heap[gb366]? = some (.cells #[.int .i64 a1_0, .int .i64 a1_1, .int .i64 0, .bool a1_3, .slice A1_4 l1_4.length c1_4, .slice A1_5 l1_5.length c1_5] 25 (0, 0))) ∧ (Below w.heap.size w w')) ?_ ?_
        rotate_left
        ·intro hCont
         refine two_ (i := 2) (j := 4) (Ni := some 40) (Nj := some 42) #[true, true, true, true, false, false, false, false] #[true, true, false, true, true, false, false, false] rfl rfl rfl rfl (two_of HT_.out (by kernel_rfl)) (by decide) (by decide) (fun K hK => ?_) (fun K hK => ?_)
         ·skip
          have hcv47 := own_string (P := Try.prog) Try.underlying28 Try.underlying5 Try.underlying9 (Kd.own_of_R HO372.out)
          refine value_ (w1 := ?_) (v := ?_) (by rfl) rfl ?_ ?_
          rotate_left 2
          ·go_simp
           constructor
           ·rfl
           ·rfl
          clear hcv47
          refine hK.out _ _ ⟨(blk_cell BK365.out 0).trans rfl, (blk_cell BK365.out 1).trans rfl, (blk_cell BK365.out 2).trans rfl, (blk_cell BK365.out 3).trans rfl, (blk_cell BK365.out 4).trans rfl, (blk_cell BK365.out 5).trans rfl, (blk_cell BK366.out 0).trans rfl, (blk_cell BK366.out 1).trans rfl, (blk_cell BK366.out 2).trans rfl, (blk_cell BK366.out 3).trans rfl, (blk_cell BK366.out 4).trans rfl, (blk_cell BK366.out 5).trans rfl⟩ (fun hHeld => ?_)
          clear hK K
          refine norm_ (a' := ?_) ?_ ?_
          rotate_left
          ·show Act.put _ (some 40) _ = _
           simp only [Act.put, List.setIfInBounds_toArray, List.set_cons_zero, List.set_cons_succ, i64_w, i32_w]
           rfl
          refine one_ (i := 4) (N := some 42) #[true, true, true, true, true, false, false, false] rfl rfl (one_of HT_.out (by kernel_rfl)) (by decide) (fun K hK => ?_)
          refine goes_ Try.func17 (by kernel_rfl) rfl #[.agg #[.int .i64 a1_0, .int .i64 a1_1, .int .i64 0, .bool a1_3, .slice A1_4 l1_4.length c1_4, .slice A1_5 l1_5.length c1_5]] (by rfl) rfl rfl (by (try simp only [List.map_toArray, List.map_cons, List.map_nil]); first | done | rfl | (simp only [List.length_drop, List.length_take]; rfl)) ?_
          with_reducible refine (waypointref32_Encode.calls kj2 a1_0 a1_1 0 a1_3 _ _ l1_4 _ _ l1_5 t373 _ ?side1 ?side2 ?side3 ?side4 A28.out).mono ?_
          (case side1 => exact cs_ HR1_4 HB)
          (case side2 => exact HC1_4.out)
          (case side3 => exact cs_ HR1_5 HB)
          (case side4 => exact HC1_5.out)
          rintro e w48 ⟨v374, rfl, ho0, hb⟩
          refine ⟨_, rfl, ?_⟩
          have HO375 := Aside0.mk (Kd.R_lower (Kd.R_new' ho0 (Kd.R_lt (by (with_reducible repeat (first | apply Kd.R_alloc | apply Kd.R_drewN | apply Kd.R_drew)); exact HO372.out))) (below_size (by repeat (first | (with_reducible first | exact HB.out | apply bU | apply bS GE365.out | apply bS GE366.out) | exact HB.out))))
          replace HO372 := Aside0.mk (Kd.R_elder' (by (with_reducible repeat (first | apply Kd.R_alloc | apply Kd.R_drewN | apply Kd.R_drew)); exact HO372.out) (Kd.R_base ho0) hb)
          replace BK365 := bb_ BK365 hb
          replace BK366 := bb_ BK366 hb
          replace HB := Aside0.mk (below_step (by repeat (first | (with_reducible first | exact HB.out | apply bU | apply bS GE365.out | apply bS GE366.out) | exact HB.out)) hb)
          (try clear hb)
          (try clear ho0)
          refine hK.out _ _ ⟨(blk_cell BK365.out 0).trans rfl, (blk_cell BK365.out 1).trans rfl, (blk_cell BK365.out 2).trans rfl, (blk_cell BK365.out 3).trans rfl, (blk_cell BK365.out 4).trans rfl, (blk_cell BK365.out 5).trans rfl, (blk_cell BK366.out 0).trans rfl, (blk_cell BK366.out 1).trans rfl, (blk_cell BK366.out 2).trans rfl, (blk_cell BK366.out 3).trans rfl, (blk_cell BK366.out 4).trans rfl, (blk_cell BK366.out 5).trans rfl⟩ (fun hHeld => ?_)
          clear hK K
          refine norm_ (a' := ?_) ?_ ?_
          rotate_left
          ·show Act.put _ (some 42) _ = _
           simp only [Act.put, List.setIfInBounds_toArray, List.set_cons_zero, List.set_cons_succ, i64_w, i32_w]
           rfl
          refine py 6 5 HT_ ?_
          refine one_ (i := 5) (N := some 43) #[true, true, true, true, true, true, true, false] rfl rfl (one_of HT_.out (by kernel_rfl)) (by decide) (fun K hK => ?_)
          have hcv49 := own_string (P := Try.prog) Try.underlying28 Try.underlying5 Try.underlying9 (Kd.own_of_R HO375.out)
          refine value_ (w1 := ?_) (v := ?_) (by rfl) rfl ?_ ?_
          rotate_left 2
          ·go_simp
           constructor
           ·rfl
           ·rfl
          clear hcv49
          refine hK.out _ _ ⟨(blk_cell BK365.out 0).trans rfl, (blk_cell BK365.out 1).trans rfl, (blk_cell BK365.out 2).trans rfl, (blk_cell BK365.out 3).trans rfl, (blk_cell BK365.out 4).trans rfl, (blk_cell BK365.out 5).trans rfl, (blk_cell BK366.out 0).trans rfl, (blk_cell BK366.out 1).trans rfl, (blk_cell BK366.out 2).trans rfl, (blk_cell BK366.out 3).trans rfl, (blk_cell BK366.out 4).trans rfl, (blk_cell BK366.out 5).trans rfl⟩ (fun hHeld => ?_)
          clear hK K
          refine norm_ (a' := ?_) ?_ ?_
          rotate_left
          ·show Act.put _ (some 43) _ = _
           simp only [Act.put, List.setIfInBounds_toArray, List.set_cons_zero, List.set_cons_succ, i64_w, i32_w]
           rfl
          exact norm_ (by simp only [putAll, Act.put, List.setIfInBounds_toArray, List.set_cons_zero, List.set_cons_succ]) (hCont (v374) _ ⟨hHeld, (by (with_reducible repeat (first | apply Kd.R_alloc | apply Kd.R_drewN | apply Kd.R_drew)); exact Kd.R_mono HO372.out (fun _ hk => hk.2)), (by (with_reducible repeat (first | apply Kd.R_alloc | apply Kd.R_drewN | apply Kd.R_drew)); exact Kd.R_mono HO375.out (fun _ hk => hk.2)), (kb_ BK365), (kb_ BK366), (by repeat (first | (with_reducible first | exact HB.out | apply bU | apply bS GE365.out | apply bS GE366.out) | exact HB.out))⟩)
         ·skip
          refine goes_ Try.func17 (by kernel_rfl) rfl #[.agg #[.int .i64 a1_0, .int .i64 a1_1, .int .i64 0, .bool a1_3, .slice A1_4 l1_4.length c1_4, .slice A1_5 l1_5.length c1_5]] (by rfl) rfl rfl (by (try simp only [List.map_toArray, List.map_cons, List.map_nil]); first | done | rfl | (simp only [List.length_drop, List.length_take]; rfl)) ?_
          with_reducible refine (waypointref32_Encode.calls kj2 a1_0 a1_1 0 a1_3 _ _ l1_4 _ _ l1_5 t373 _ ?side1 ?side2 ?side3 ?side4 A28.out).mono ?_
          (case side1 => exact cs_ HR1_4 HB)
          (case side2 => exact HC1_4.out)
          (case side3 => exact cs_ HR1_5 HB)
          (case side4 => exact HC1_5.out)
          rintro e w47 ⟨v374, rfl, ho0, hb⟩
          refine ⟨_, rfl, ?_⟩
          have HO375 := Aside0.mk (Kd.R_lower (Kd.R_new' ho0 (Kd.R_lt (by (with_reducible repeat (first | apply Kd.R_alloc | apply Kd.R_drewN | apply Kd.R_drew)); exact HO372.out))) (below_size (by repeat (first | (with_reducible first | exact HB.out | apply bU | apply bS GE365.out | apply bS GE366.out) | exact HB.out))))
          replace HO372 := Aside0.mk (Kd.R_elder' (by (with_reducible repeat (first | apply Kd.R_alloc | apply Kd.R_drewN | apply Kd.R_drew)); exact HO372.out) (Kd.R_base ho0) hb)
          replace BK365 := bb_ BK365 hb
          replace BK366 := bb_ BK366 hb
          replace HB := Aside0.mk (below_step (by repeat (first | (with_reducible first | exact HB.out | apply bU | apply bS GE365.out | apply bS GE366.out) | exact HB.out)) hb)
          (try clear hb)
          (try clear ho0)
          refine hK.out _ _ ⟨(blk_cell BK365.out 0).trans rfl, (blk_cell BK365.out 1).trans rfl, (blk_cell BK365.out 2).trans rfl, (blk_cell BK365.out 3).trans rfl, (blk_cell BK365.out 4).trans rfl, (blk_cell BK365.out 5).trans rfl, (blk_cell BK366.out 0).trans rfl, (blk_cell BK366.out 1).trans rfl, (blk_cell BK366.out 2).trans rfl, (blk_cell BK366.out 3).trans rfl, (blk_cell BK366.out 4).trans rfl, (blk_cell BK366.out 5).trans rfl⟩ (fun hHeld => ?_)
          clear hK K
          refine norm_ (a' := ?_) ?_ ?_
          rotate_left
          ·show Act.put _ (some 42) _ = _
           simp only [Act.put, List.setIfInBounds_toArray, List.set_cons_zero, List.set_cons_succ, i64_w, i32_w]
           rfl
          refine two_ (i := 2) (j := 5) (Ni := some 40) (Nj := some 43) #[true, true, true, true, true, false, false, false] #[true, true, false, true, true, true, false, false] rfl rfl rfl rfl (two_of HT_.out (by kernel_rfl)) (by decide) (by decide) (fun K hK => ?_) (fun K hK => ?_)
          ·skip
           have hcv48 := own_string (P := Try.prog) Try.underlying28 Try.underlying5 Try.underlying9 (Kd.own_of_R HO372.out)
           refine value_ (w1 := ?_) (v := ?_) (by rfl) rfl ?_ ?_
           rotate_left 2
           ·go_simp
            constructor
            ·rfl
            ·rfl
           clear hcv48
           refine hK.out _ _ ⟨(blk_cell BK365.out 0).trans rfl, (blk_cell BK365.out 1).trans rfl, (blk_cell BK365.out 2).trans rfl, (blk_cell BK365.out 3).trans rfl, (blk_cell BK365.out 4).trans rfl, (blk_cell BK365.out 5).trans rfl, (blk_cell BK366.out 0).trans rfl, (blk_cell BK366.out 1).trans rfl, (blk_cell BK366.out 2).trans rfl, (blk_cell BK366.out 3).trans rfl, (blk_cell BK366.out 4).trans rfl, (blk_cell BK366.out 5).trans rfl⟩ (fun hHeld => ?_)
           clear hK K
           refine norm_ (a' := ?_) ?_ ?_
           rotate_left
           ·show Act.put _ (some 40) _ = _
            simp only [Act.put, List.setIfInBounds_toArray, List.set_cons_zero, List.set_cons_succ, i64_w, i32_w]
            rfl
           refine py 6 5 HT_ ?_
           refine one_ (i := 5) (N := some 43) #[true, true, true, true, true, true, true, false] rfl rfl (one_of HT_.out (by kernel_rfl)) (by decide) (fun K hK => ?_)
           have hcv49 := own_string (P := Try.prog) Try.underlying28 Try.underlying5 Try.underlying9 (Kd.own_of_R HO375.out)
           refine value_ (w1 := ?_) (v := ?_) (by rfl) rfl ?_ ?_
           rotate_left 2
           ·go_simp
            constructor
            ·rfl
            ·rfl
           clear hcv49
           refine hK.out _ _ ⟨(blk_cell BK365.out 0).trans rfl, (blk_cell BK365.out 1).trans rfl, (blk_cell BK365.out 2).trans rfl, (blk_cell BK365.out 3).trans rfl, (blk_cell BK365.out 4).trans rfl, (blk_cell BK365.out 5).trans rfl, (blk_cell BK366.out 0).trans rfl, (blk_cell BK366.out 1).trans rfl, (blk_cell BK366.out 2).trans rfl, (blk_cell BK366.out 3).trans rfl, (blk_cell BK366.out 4).trans rfl, (blk_cell BK366.out 5).trans rfl⟩ (fun hHeld => ?_)
           clear hK K
           refine norm_ (a' := ?_) ?_ ?_
           rotate_left
           ·show Act.put _ (some 43) _ = _
            simp only [Act.put, List.setIfInBounds_toArray, List.set_cons_zero, List.set_cons_succ, i64_w, i32_w]
            rfl
           exact norm_ (by simp only [putAll, Act.put, List.setIfInBounds_toArray, List.set_cons_zero, List.set_cons_succ]) (hCont (v374) _ ⟨hHeld, (by (with_reducible repeat (first | apply Kd.R_alloc | apply Kd.R_drewN | apply Kd.R_drew)); exact Kd.R_mono HO372.out (fun _ hk => hk.2)), (by (with_reducible repeat (first | apply Kd.R_alloc | apply Kd.R_drewN | apply Kd.R_drew)); exact Kd.R_mono HO375.out (fun _ hk => hk.2)), (kb_ BK365), (kb_ BK366), (by repeat (first | (with_reducible first | exact HB.out | apply bU | apply bS GE365.out | apply bS GE366.out) | exact HB.out))⟩)
          ·skip
           have hcv48 := own_string (P := Try.prog) Try.underlying28 Try.underlying5 Try.underlying9 (Kd.own_of_R HO375.out)
           refine value_ (w1 := ?_) (v := ?_) (by rfl) rfl ?_ ?_
           rotate_left 2
           ·go_simp
            constructor
            ·rfl
            ·rfl
           clear hcv48
           refine hK.out _ _ ⟨(blk_cell BK365.out 0).trans rfl, (blk_cell BK365.out 1).trans rfl, (blk_cell BK365.out 2).trans rfl, (blk_cell BK365.out 3).trans rfl, (blk_cell BK365.out 4).trans rfl, (blk_cell BK365.out 5).trans rfl, (blk_cell BK366.out 0).trans rfl, (blk_cell BK366.out 1).trans rfl, (blk_cell BK366.out 2).trans rfl, (blk_cell BK366.out 3).trans rfl, (blk_cell BK366.out 4).trans rfl, (blk_cell BK366.out 5).trans rfl⟩ (fun hHeld => ?_)
           clear hK K
           refine norm_ (a' := ?_) ?_ ?_
           rotate_left
           ·show Act.put _ (some 43) _ = _
            simp only [Act.put, List.setIfInBounds_toArray, List.set_cons_zero, List.set_cons_succ, i64_w, i32_w]
            rfl
           refine one_ (i := 2) (N := some 40) #[true, true, true, true, true, true, false, false] rfl rfl (one_of HT_.out (by kernel_rfl)) (by decide) (fun K hK => ?_)
           have hcv49 := own_string (P := Try.prog) Try.underlying28 Try.underlying5 Try.underlying9 (Kd.own_of_R HO372.out)
           refine value_ (w1 := ?_) (v := ?_) (by rfl) rfl ?_ ?_
           rotate_left 2
           ·go_simp
            constructor
            ·rfl
            ·rfl
           clear hcv49
           refine hK.out _ _ ⟨(blk_cell BK365.out 0).trans rfl, (blk_cell BK365.out 1).trans rfl, (blk_cell BK365.out 2).trans rfl, (blk_cell BK365.out 3).trans rfl, (blk_cell BK365.out 4).trans rfl, (blk_cell BK365.out 5).trans rfl, (blk_cell BK366.out 0).trans rfl, (blk_cell BK366.out 1).trans rfl, (blk_cell BK366.out 2).trans rfl, (blk_cell BK366.out 3).trans rfl, (blk_cell BK366.out 4).trans rfl, (blk_cell BK366.out 5).trans rfl⟩ (fun hHeld => ?_)
           clear hK K
           refine norm_ (a' := ?_) ?_ ?_
           rotate_left
           ·show Act.put _ (some 40) _ = _
            simp only [Act.put, List.setIfInBounds_toArray, List.set_cons_zero, List.set_cons_succ, i64_w, i32_w]
            rfl
           refine py 6 5 HT_ ?_
           exact norm_ (by simp only [putAll, Act.put, List.setIfInBounds_toArray, List.set_cons_zero, List.set_cons_succ]) (hCont (v374) _ ⟨hHeld, (by (with_reducible repeat (first | apply Kd.R_alloc | apply Kd.R_drewN | apply Kd.R_drew)); exact Kd.R_mono HO372.out (fun _ hk => hk.2)), (by (with_reducible repeat (first | apply Kd.R_alloc | apply Kd.R_drewN | apply Kd.R_drew)); exact Kd.R_mono HO375.out (fun _ hk => hk.2)), (kb_ BK365), (kb_ BK366), (by repeat (first | (with_reducible first | exact HB.out | apply bU | apply bS GE365.out | apply bS GE366.out) | exact HB.out))⟩)
        rintro v374 w50 ⟨hS_, h0_, h1_, h2_, h3_, h4_⟩
        have HO372 : Aside0 (Kd.R (Kd.int .u8) 5 w50 w.heap.size (fun k_ => some k_ ≠ (v374 : Value).ownBlock) v371 t370) := ⟨h0_⟩
        have HO375 : Aside0 (Kd.R (Kd.int .u8) 5 w50 w.heap.size (fun k_ => some k_ ≠ (v371 : Value).ownBlock) v374 t373) := ⟨h1_⟩
        replace BK365 : Aside0 (w50.heap[gb365]? = some (.cells #[.int .i64 a0_0, .int .i64 a0_1, .int .i64 0, .bool a0_3, .slice A0_4 l0_4.length c0_4, .slice A0_5 l0_5.length c0_5] 25 (0, 0))) := ⟨h2_⟩
        replace BK366 : Aside0 (w50.heap[gb366]? = some (.cells #[.int .i64 a1_0, .int .i64 a1_1, .int .i64 0, .bool a1_3, .slice A1_4 l1_4.length c1_4, .slice A1_5 l1_5.length c1_5] 25 (0, 0))) := ⟨h3_⟩
        replace HB : Aside0 (Below w.heap.size w w50) := ⟨h4_⟩
        clear h0_ h1_ h2_ h3_ h4_
        have hHeld : w50.cell? ⟨gb365, 0, none⟩ = some (.int .i64 a0_0) ∧ w50.cell? ⟨gb365, 1, none⟩ = some (.int .i64 a0_1) ∧ w50.cell? ⟨gb365, 2, none⟩ = some (.int .i64 0) ∧ w50.cell? ⟨gb365, 3, none⟩ = some (.bool a0_3) ∧ w50.cell? ⟨gb365, 4, none⟩ = some (.slice A0_4 l0_4.length c0_4) ∧ w50.cell? ⟨gb365, 5, none⟩ = some (.slice A0_5 l0_5.length c0_5) ∧ w50.cell? ⟨gb366, 0, none⟩ = some (.int .i64 a1_0) ∧ w50.cell? ⟨gb366, 1, none⟩ = some (.int .i64 a1_1) ∧ w50.cell? ⟨gb366, 2, none⟩ = some (.int .i64 0) ∧ w50.cell? ⟨gb366, 3, none⟩ = some (.bool a1_3) ∧ w50.cell? ⟨gb366, 4, none⟩ = some (.slice A1_4 l1_4.length c1_4) ∧ w50.cell? ⟨gb366, 5, none⟩ = some (.slice A1_5 l1_5.length c1_5) := hS_
        refine norm_ (a' := ?_) ?_ ?_
        rotate_left
        ·simp only [putAll, Act.put, List.setIfInBounds_toArray, List.set_cons_zero, List.set_cons_succ]
         rfl
        refine py 7 6 HT_ ?_
        refine done_ (done_of HT_.out (by kernel_rfl)) ?_
        try go_wp2
        go_ret
        exact ⟨by first | rfl | (simp [errW_none, errW_some] <;> rfl) | (simp [*, errW_none, errW_some] <;> rfl), by repeat (first | (with_reducible first | exact HB.out | apply bU | apply bS GE365.out | apply bS GE366.out) | exact HB.out)⟩
       ·rw [if_neg c40] at H
        have c40b0 : (Op.bytesLess ((strOfNums t370).toList) ((strOfNums t373).toList)) = false := by simpa using c40
        clear c40
        obtain rfl := Option.some.inj H
        have hnb51 := NB365_366.out
        have hnc51 := NB366_365.out
        obtain ⟨hcz52_0, hcz52_1, hcz52_2, hcz52_3, hcz52_4, hcz52_5, hfz52_0, hfz52_1, hfz52_2, hfz52_3, hfz52_4, hfz52_5⟩ := c6_ BK365
        obtain ⟨hcz53_0, hcz53_1, hcz53_2, hcz53_3, hcz53_4, hcz53_5, hfz53_0, hfz53_1, hfz53_2, hfz53_3, hfz53_4, hfz53_5⟩ := c6_ BK366
        try go_wp2
        have n0_ : Aside0 (((wc.setCell ⟨gb365, 2, none⟩ (.int .i64 0)).setCell ⟨gb366, 2, none⟩ (.int .i64 0)).heap[gb365]? = some (.cells #[.int .i64 a0_0, .int .i64 a0_1, .int .i64 0, .bool a0_3, .slice A0_4 l0_4.length c0_4, .slice A0_5 l0_5.length c0_5] 25 (0, 0))) := ⟨by (with_reducible repeat (first | refine blk_drewN ?_ _ | refine blk_drew ?_ | refine blk_alloc ?_ _)); refine blk_far ?_ NB365_366.out _; (with_reducible repeat (first | refine blk_drewN ?_ _ | refine blk_drew ?_ | refine blk_alloc ?_ _)); refine blk_put (cs := #[.int .i64 a0_0, .int .i64 a0_1, .int .i64 a0_2, .bool a0_3, .slice A0_4 l0_4.length c0_4, .slice A0_5 l0_5.length c0_5]) ?_ 2 _ rfl; (with_reducible repeat (first | refine blk_drewN ?_ _ | refine blk_drew ?_ | refine blk_alloc ?_ _)); exact BK365.out⟩
        have n1_ : Aside0 (((wc.setCell ⟨gb365, 2, none⟩ (.int .i64 0)).setCell ⟨gb366, 2, none⟩ (.int .i64 0)).heap[gb366]? = some (.cells #[.int .i64 a1_0, .int .i64 a1_1, .int .i64 0, .bool a1_3, .slice A1_4 l1_4.length c1_4, .slice A1_5 l1_5.length c1_5] 25 (0, 0))) := ⟨by (with_reducible repeat (first | refine blk_drewN ?_ _ | refine blk_drew ?_ | refine blk_alloc ?_ _)); refine blk_put (cs := #[.int .i64 a1_0, .int .i64 a1_1, .int .i64 a1_2, .bool a1_3, .slice A1_4 l1_4.length c1_4, .slice A1_5 l1_5.length c1_5]) ?_ 2 _ rfl; (with_reducible repeat (first | refine blk_drewN ?_ _ | refine blk_drew ?_ | refine blk_alloc ?_ _)); refine blk_far ?_ NB366_365.out _; (with_reducible repeat (first | refine blk_drewN ?_ _ | refine blk_drew ?_ | refine blk_alloc ?_ _)); exact BK366.out⟩
        have n2_ : Aside0 (Below w.heap.size w ((wc.setCell ⟨gb365, 2, none⟩ (.int .i64 0)).setCell ⟨gb366, 2, none⟩ (.int .i64 0))) := ⟨by repeat (first | (with_reducible first | exact HB.out | apply bU | apply bS GE365.out | apply bS GE366.out) | exact HB.out)⟩
        (try clear BK365)
        (try clear BK366)
        (try clear HB)
        generalize ((wc.setCell ⟨gb365, 2, none⟩ (.int .i64 0)).setCell ⟨gb366, 2, none⟩ (.int .i64 0)) = w54 at n0_ n1_ n2_ ⊢
        have BK365 := n0_
        have BK366 := n1_
        have HB := n2_
        clear n0_ n1_ n2_
        replace BK365 := Aside0.mk (blk_drew BK365.out)
        replace BK366 := Aside0.mk (blk_drew BK366.out)
        replace HB := Aside0.mk (below_drew1 HB.out)
        refine start_ (n := 8) (S := fun w' => w'.cell? ⟨gb365, 0, none⟩ = some (.int .i64 a0_0) ∧ w'.cell? ⟨gb365, 1, none⟩ = some (.int .i64 a0_1) ∧ w'.cell? ⟨gb365, 2, none⟩ = some (.int .i64 0) ∧ w'.cell? ⟨gb365, 3, none⟩ = some (.bool a0_3) ∧ w'.cell? ⟨gb365, 4, none⟩ = some (.slice A0_4 l0_4.length c0_4) ∧ w'.cell? ⟨gb365, 5, none⟩ = some (.slice A0_5 l0_5.length c0_5) ∧ w'.cell? ⟨gb366, 0, none⟩ = some (.int .i64 a1_0) ∧ w'.cell? ⟨gb366, 1, none⟩ = some (.int .i64 a1_1) ∧ w'.cell? ⟨gb366, 2, none⟩ = some (.int .i64 0) ∧ w'.cell? ⟨gb366, 3, none⟩ = some (.bool a1_3) ∧ w'.cell? ⟨gb366, 4, none⟩ = some (.slice A1_4 l1_4.length c1_4) ∧ w'.cell? ⟨gb366, 5, none⟩ = some (.slice A1_5 l1_5.length c1_5)) (ds := []) #[false, false, false, false, false, false, false, false] (by kernel_rfl) rfl rfl ⟨(blk_cell BK365.out 0).trans rfl, (blk_cell BK365.out 1).trans rfl, (blk_cell BK365.out 2).trans rfl, (blk_cell BK365.out 3).trans rfl, (blk_cell BK365.out 4).trans rfl, (blk_cell BK365.out 5).trans rfl, (blk_cell BK366.out 0).trans rfl, (blk_cell BK366.out 1).trans rfl, (blk_cell BK366.out 2).trans rfl, (blk_cell BK366.out 3).trans rfl, (blk_cell BK366.out 4).trans rfl, (blk_cell BK366.out 5).trans rfl⟩ (fun hHeld => ?_); refine with_tabW waypointref32_Newer.tab10 waypointref32_Newer.bits10 (fun HT_ HW_ => ?_)
        generalize w54.drew = w55 at BK365 BK366 HB hHeld ⊢
        refine ty 0 38 HT_ HW_ rfl (Or.inl ⟨by rfl, by rintro w' ⟨s0, s1, s2, s3, s4, s5, s6, s7, s8, s9, s10, s11⟩; go_simp; with_reducible rfl⟩) hHeld ?_
        refine ty 3 41 HT_ HW_ rfl (Or.inl ⟨by rfl, by rintro w' ⟨s0, s1, s2, s3, s4, s5, s6, s7, s8, s9, s10, s11⟩; go_simp; with_reducible rfl⟩) hHeld ?_
        refine one_ (i := 1) (N := some 39) #[true, true, false, true, false, false, false, false] rfl rfl (one_of HT_.out (by kernel_rfl)) (by decide) (fun K hK => ?_)
        refine goes_ Try.func17 (by kernel_rfl) rfl #[.agg #[.int .i64 a0_0, .int .i64 a0_1, .int .i64 0, .bool a0_3, .slice A0_4 l0_4.length c0_4, .slice A0_5 l0_5.length c0_5]] (by rfl) rfl rfl (by (try simp only [List.map_toArray, List.map_cons, List.map_nil]); first | done | rfl | (simp only [List.length_drop, List.length_take]; rfl)) ?_
        with_reducible refine (waypointref32_Encode.calls kj2 a0_0 a0_1 0 a0_3 _ _ l0_4 _ _ l0_5 t370 _ ?side1 ?side2 ?side3 ?side4 A27.out).mono ?_
        (case side1 => exact cs_ HR0_4 HB)
        (case side2 => exact HC0_4.out)
        (case side3 => exact cs_ HR0_5 HB)
        (case side4 => exact HC0_5.out)
        rintro e w56 ⟨v371, rfl, ho0, hb⟩
        refine ⟨_, rfl, ?_⟩
        have HO372 := Aside0.mk (Kd.R_lower ho0 (below_size (by repeat (first | (with_reducible first | exact HB.out | apply bU | apply bS GE365.out | apply bS GE366.out) | exact HB.out))))
        replace BK365 := bb_ BK365 hb
        replace BK366 := bb_ BK366 hb
        replace HB := Aside0.mk (below_step (by repeat (first | (with_reducible first | exact HB.out | apply bU | apply bS GE365.out | apply bS GE366.out) | exact HB.out)) hb)
        (try clear hb)
        (try clear ho0)
        refine hK.out _ _ ⟨(blk_cell BK365.out 0).trans rfl, (blk_cell BK365.out 1).trans rfl, (blk_cell BK365.out 2).trans rfl, (blk_cell BK365.out 3).trans rfl, (blk_cell BK365.out 4).trans rfl, (blk_cell BK365.out 5).trans rfl, (blk_cell BK366.out 0).trans rfl, (blk_cell BK366.out 1).trans rfl, (blk_cell BK366.out 2).trans rfl, (blk_cell BK366.out 3).trans rfl, (blk_cell BK366.out 4).trans rfl, (blk_cell BK366.out 5).trans rfl⟩ (fun hHeld => ?_)
        clear hK K
        refine norm_ (a' := ?_) ?_ ?_
        rotate_left
        ·show Act.put _ (some 39) _ = _
         simp only [Act.put, List.setIfInBounds_toArray, List.set_cons_zero, List.set_cons_succ, i64_w, i32_w]
         rfl
        refine join_ (σ := Value) 1 #[true, true, true, true, true, true, true, false] (fun s_ => [(40, .string (strOfNums t370)), (42, s_), (43, .string (strOfNums t373)), (5, .string (strOfNums t370))]) (fun s_ w' => (w'.cell? ⟨gb365, 0, none⟩ = some (.int .i64 a0_0) ∧ w'.cell? ⟨gb365, 1, none⟩ = some (.int .i64 a0_1) ∧ w'.cell? ⟨gb365, 2, none⟩ = some (.int .i64 0) ∧ w'.cell? ⟨gb365, 3, none⟩ = some (.bool a0_3) ∧ w'.cell? ⟨gb365, 4, none⟩ = some (.slice A0_4 l0_4.length c0_4) ∧ w'.cell? ⟨gb365, 5, none⟩ = some (.slice A0_5 l0_5.length c0_5) ∧ w'.cell? ⟨gb366, 0, none⟩ = some (.int .i64 a1_0) ∧ w'.cell? ⟨gb366, 1, none⟩ = some (.int .i64 a1_1) ∧ w'.cell? ⟨gb366, 2, none⟩ = some (.int .i64 0) ∧ w'.cell? ⟨gb366, 3, none⟩ = some (.bool a1_3) ∧ w'.cell? ⟨gb366, 4, none⟩ = some (.slice A1_4 l1_4.length c1_4) ∧ w'.cell? ⟨gb366, 5, none⟩ = some (.slice A1_5 l1_5.length c1_5)) ∧ (Kd.R (Kd.int .u8) 5 w' w.heap.size (fun k_ => some k_ ≠ (s_ : Value).ownBlock) v371 t370) ∧ (Kd.R (Kd.int .u8) 5 w' w.heap.size (fun k_ => some k_ ≠ (v371 : Value).ownBlock) s_ t373) ∧ (w'.heap[gb365]? = some (.cells #[.int .i64 a0_0, .int .i64 a0_1, .int .i64 0, .bool a0_3, .slice A0_4 l0_4.length c0_4, .slice A0_5 l0_5.length c0_5] 25 (0, 0))) ∧ (w'.heap[gb366]? = some (.cells #[.int .i64 a1_0, .int .i64 a1_1, .int .i64 0, .bool a1_3, .slice A1_4 l1_4.length c1_4, .slice A1_5 l1_5.length c1_5] 25 (0, 0))) ∧ (Below w.heap.size w w')) ?_ ?_
        rotate_left
        ·intro hCont
         refine two_ (i := 2) (j := 4) (Ni := some 40) (Nj := some 42) #[true, true, true, true, false, false, false, false] #[true, true, false, true, true, false, false, false] rfl rfl rfl rfl (two_of HT_.out (by kernel_rfl)) (by decide) (by decide) (fun K hK => ?_) (fun K hK => ?_)
         ·skip
          have hcv57 := own_string (P := Try.prog) Try.underlying28 Try.underlying5 Try.underlying9 (Kd.own_of_R HO372.out)
          refine value_ (w1 := ?_) (v := ?_) (by rfl) rfl ?_ ?_
          rotate_left 2
          ·go_simp
           constructor
           ·rfl
           ·rfl
          clear hcv57
          refine hK.out _ _ ⟨(blk_cell BK365.out 0).trans rfl, (blk_cell BK365.out 1).trans rfl, (blk_cell BK365.out 2).trans rfl, (blk_cell BK365.out 3).trans rfl, (blk_cell BK365.out 4).trans rfl, (blk_cell BK365.out 5).trans rfl, (blk_cell BK366.out 0).trans rfl, (blk_cell BK366.out 1).trans rfl, (blk_cell BK366.out 2).trans rfl, (blk_cell BK366.out 3).trans rfl, (blk_cell BK366.out 4).trans rfl, (blk_cell BK366.out 5).trans rfl⟩ (fun hHeld => ?_)
          clear hK K
          refine norm_ (a' := ?_) ?_ ?_
          rotate_left
          ·show Act.put _ (some 40) _ = _
           simp only [Act.put, List.setIfInBounds_toArray, List.set_cons_zero, List.set_cons_succ, i64_w, i32_w]
           rfl
          refine one_ (i := 4) (N := some 42) #[true, true, true, true, true, false, false, false] rfl rfl (one_of HT_.out (by kernel_rfl)) (by decide) (fun K hK => ?_)
          refine goes_ Try.func17 (by kernel_rfl) rfl #[.agg #[.int .i64 a1_0, .int .i64 a1_1, .int .i64 0, .bool a1_3, .slice A1_4 l1_4.length c1_4, .slice A1_5 l1_5.length c1_5]] (by rfl) rfl rfl (by (try simp only [List.map_toArray, List.map_cons, List.map_nil]); first | done | rfl | (simp only [List.length_drop, List.length_take]; rfl)) ?_
          with_reducible refine (waypointref32_Encode.calls kj2 a1_0 a1_1 0 a1_3 _ _ l1_4 _ _ l1_5 t373 _ ?side1 ?side2 ?side3 ?side4 A28.out).mono ?_
          (case side1 => exact cs_ HR1_4 HB)
          (case side2 => exact HC1_4.out)
          (case side3 => exact cs_ HR1_5 HB)
          (case side4 => exact HC1_5.out)
          rintro e w58 ⟨v374, rfl, ho0, hb⟩
          refine ⟨_, rfl, ?_⟩
          have HO375 := Aside0.mk (Kd.R_lower (Kd.R_new' ho0 (Kd.R_lt (by (with_reducible repeat (first | apply Kd.R_alloc | apply Kd.R_drewN | apply Kd.R_drew)); exact HO372.out))) (below_size (by repeat (first | (with_reducible first | exact HB.out | apply bU | apply bS GE365.out | apply bS GE366.out) | exact HB.out))))
          replace HO372 := Aside0.mk (Kd.R_elder' (by (with_reducible repeat (first | apply Kd.R_alloc | apply Kd.R_drewN | apply Kd.R_drew)); exact HO372.out) (Kd.R_base ho0) hb)
          replace BK365 := bb_ BK365 hb
          replace BK366 := bb_ BK366 hb
          replace HB := Aside0.mk (below_step (by repeat (first | (with_reducible first | exact HB.out | apply bU | apply bS GE365.out | apply bS GE366.out) | exact HB.out)) hb)
          (try clear hb)
          (try clear ho0)
          refine hK.out _ _ ⟨(blk_cell BK365.out 0).trans rfl, (blk_cell BK365.out 1).trans rfl, (blk_cell BK365.out 2).trans rfl, (blk_cell BK365.out 3).trans rfl, (blk_cell BK365.out 4).trans rfl, (blk_cell BK365.out 5).trans rfl, (blk_cell BK366.out 0).trans rfl, (blk_cell BK366.out 1).trans rfl, (blk_cell BK366.out 2).trans rfl, (blk_cell BK366.out 3).trans rfl, (blk_cell BK366.out 4).trans rfl, (blk_cell BK366.out 5).trans rfl⟩ (fun hHeld => ?_)
          clear hK K
          refine norm_ (a' := ?_) ?_ ?_
          rotate_left
          ·show Act.put _ (some 42) _ = _
           simp only [Act.put, List.setIfInBounds_toArray, List.set_cons_zero, List.set_cons_succ, i64_w, i32_w]
           rfl
          refine py 6 5 HT_ ?_
          refine one_ (i := 5) (N := some 43) #[true, true, true, true, true, true, true, false] rfl rfl (one_of HT_.out (by kernel_rfl)) (by decide) (fun K hK => ?_)
          have hcv59 := own_string (P := Try.prog) Try.underlying28 Try.underlying5 Try.underlying9 (Kd.own_of_R HO375.out)
          refine value_ (w1 := ?_) (v := ?_) (by rfl) rfl ?_ ?_
          rotate_left 2
          ·go_simp
           constructor
           ·rfl
           ·rfl
          clear hcv59
          refine hK.out _ _ ⟨(blk_cell BK365.out 0).trans rfl, (blk_cell BK365.out 1).trans rfl, (blk_cell BK365.out 2).trans rfl, (blk_cell BK365.out 3).trans rfl, (blk_cell BK365.out 4).trans rfl, (blk_cell BK365.out 5).trans rfl, (blk_cell BK366.out 0).trans rfl, (blk_cell BK366.out 1).trans rfl, (blk_cell BK366.out 2).trans rfl, (blk_cell BK366.out 3).trans rfl, (blk_cell BK366.out 4).trans rfl, (blk_cell BK366.out 5).trans rfl⟩ (fun hHeld => ?_)
          clear hK K
          refine norm_ (a' := ?_) ?_ ?_
          rotate_left
          ·show Act.put _ (some 43) _ = _
           simp only [Act.put, List.setIfInBounds_toArray, List.set_cons_zero, List.set_cons_succ, i64_w, i32_w]
           rfl
          exact norm_ (by simp only [putAll, Act.put, List.setIfInBounds_toArray, List.set_cons_zero, List.set_cons_succ]) (hCont (v374) _ ⟨hHeld, (by (with_reducible repeat (first | apply Kd.R_alloc | apply Kd.R_drewN | apply Kd.R_drew)); exact Kd.R_mono HO372.out (fun _ hk => hk.2)), (by (with_reducible repeat (first | apply Kd.R_alloc | apply Kd.R_drewN | apply Kd.R_drew)); exact Kd.R_mono HO375.out (fun _ hk => hk.2)), (kb_ BK365), (kb_ BK366), (by repeat (first | (with_reducible first | exact HB.out | apply bU | apply bS GE365.out | apply bS GE366.out) | exact HB.out))⟩)
         ·skip
          refine goes_ Try.func17 (by kernel_rfl) rfl #[.agg #[.int .i64 a1_0, .int .i64 a1_1, .int .i64 0, .bool a1_3, .slice A1_4 l1_4.length c1_4, .slice A1_5 l1_5.length c1_5]] (by rfl) rfl rfl (by (try simp only [List.map_toArray, List.map_cons, List.map_nil]); first | done | rfl | (simp only [List.length_drop, List.length_take]; rfl)) ?_
          with_reducible refine (waypointref32_Encode.calls kj2 a1_0 a1_1 0 a1_3 _ _ l1_4 _ _ l1_5 t373 _ ?side1 ?side2 ?side3 ?side4 A28.out).mono ?_
          (case side1 => exact cs_ HR1_4 HB)
          (case side2 => exact HC1_4.out)
          (case side3 => exact cs_ HR1_5 HB)
          (case side4 => exact HC1_5.out)
          rintro e w57 ⟨v374, rfl, ho0, hb⟩
          refine ⟨_, rfl, ?_⟩
          have HO375 := Aside0.mk (Kd.R_lower (Kd.R_new' ho0 (Kd.R_lt (by (with_reducible repeat (first | apply Kd.R_alloc | apply Kd.R_drewN | apply Kd.R_drew)); exact HO372.out))) (below_size (by repeat (first | (with_reducible first | exact HB.out | apply bU | apply bS GE365.out | apply bS GE366.out) | exact HB.out))))
          replace HO372 := Aside0.mk (Kd.R_elder' (by (with_reducible repeat (first | apply Kd.R_alloc | apply Kd.R_drewN | apply Kd.R_drew)); exact HO372.out) (Kd.R_base ho0) hb)
          replace BK365 := bb_ BK365 hb
          replace BK366 := bb_ BK366 hb
          replace HB := Aside0.mk (below_step (by repeat (first | (with_reducible first | exact HB.out | apply bU | apply bS GE365.out | apply bS GE366.out) | exact HB.out)) hb)
          (try clear hb)
          (try clear ho0)
          refine hK.out _ _ ⟨(blk_cell BK365.out 0).trans rfl, (blk_cell BK365.out 1).trans rfl, (blk_cell BK365.out 2).trans rfl, (blk_cell BK365.out 3).trans rfl, (blk_cell BK365.out 4).trans rfl, (blk_cell BK365.out 5).trans rfl, (blk_cell BK366.out 0).trans rfl, (blk_cell BK366.out 1).trans rfl, (blk_cell BK366.out 2).trans rfl, (blk_cell BK366.out 3).trans rfl, (blk_cell BK366.out 4).trans rfl, (blk_cell BK366.out 5).trans rfl⟩ (fun hHeld => ?_)
          clear hK K
          refine norm_ (a' := ?_) ?_ ?_
          rotate_left
          ·show Act.put _ (some 42) _ = _
           simp only [Act.put, List.setIfInBounds_toArray, List.set_cons_zero, List.set_cons_succ, i64_w, i32_w]
           rfl
          refine two_ (i := 2) (j := 5) (Ni := some 40) (Nj := some 43) #[true, true, true, true, true, false, false, false] #[true, true, false, true, true, true, false, false] rfl rfl rfl rfl (two_of HT_.out (by kernel_rfl)) (by decide) (by decide) (fun K hK => ?_) (fun K hK => ?_)
          ·skip
           have hcv58 := own_string (P := Try.prog) Try.underlying28 Try.underlying5 Try.underlying9 (Kd.own_of_R HO372.out)
           refine value_ (w1 := ?_) (v := ?_) (by rfl) rfl ?_ ?_
           rotate_left 2
           ·go_simp
            constructor
            ·rfl
            ·rfl
           clear hcv58
           refine hK.out _ _ ⟨(blk_cell BK365.out 0).trans rfl, (blk_cell BK365.out 1).trans rfl, (blk_cell BK365.out 2).trans rfl, (blk_cell BK365.out 3).trans rfl, (blk_cell BK365.out 4).trans rfl, (blk_cell BK365.out 5).trans rfl, (blk_cell BK366.out 0).trans rfl, (blk_cell BK366.out 1).trans rfl, (blk_cell BK366.out 2).trans rfl, (blk_cell BK366.out 3).trans rfl, (blk_cell BK366.out 4).trans rfl, (blk_cell BK366.out 5).trans rfl⟩ (fun hHeld => ?_)
           clear hK K
           refine norm_ (a' := ?_) ?_ ?_
           rotate_left
           ·show Act.put _ (some 40) _ = _
            simp only [Act.put, List.setIfInBounds_toArray, List.set_cons_zero, List.set_cons_succ, i64_w, i32_w]
            rfl
           refine py 6 5 HT_ ?_
           refine one_ (i := 5) (N := some 43) #[true, true, true, true, true, true, true, false] rfl rfl (one_of HT_.out (by kernel_rfl)) (by decide) (fun K hK => ?_)
           have hcv59 := own_string (P := Try.prog) Try.underlying28 Try.underlying5 Try.underlying9 (Kd.own_of_R HO375.out)
           refine value_ (w1 := ?_) (v := ?_) (by rfl) rfl ?_ ?_
           rotate_left 2
           ·go_simp
            constructor
            ·rfl
            ·rfl
           clear hcv59
           refine hK.out _ _ ⟨(blk_cell BK365.out 0).trans rfl, (blk_cell BK365.out 1).trans rfl, (blk_cell BK365.out 2).trans rfl, (blk_cell BK365.out 3).trans rfl, (blk_cell BK365.out 4).trans rfl, (blk_cell BK365.out 5).trans rfl, (blk_cell BK366.out 0).trans rfl, (blk_cell BK366.out 1).trans rfl, (blk_cell BK366.out 2).trans rfl, (blk_cell BK366.out 3).trans rfl, (blk_cell BK366.out 4).trans rfl, (blk_cell BK366.out 5).trans rfl⟩ (fun hHeld => ?_)
           clear hK K
           refine norm_ (a' := ?_) ?_ ?_
           rotate_left
           ·show Act.put _ (some 43) _ = _
            simp only [Act.put, List.setIfInBounds_toArray, List.set_cons_zero, List.set_cons_succ, i64_w, i32_w]
            rfl
           exact norm_ (by simp only [putAll, Act.put, List.setIfInBounds_toArray, List.set_cons_zero, List.set_cons_succ]) (hCont (v374) _ ⟨hHeld, (by (with_reducible repeat (first | apply Kd.R_alloc | apply Kd.R_drewN | apply Kd.R_drew)); exact Kd.R_mono HO372.out (fun _ hk => hk.2)), (by (with_reducible repeat (first | apply Kd.R_alloc | apply Kd.R_drewN | apply Kd.R_drew)); exact Kd.R_mono HO375.out (fun _ hk => hk.2)), (kb_ BK365), (kb_ BK366), (by repeat (first | (with_reducible first | exact HB.out | apply bU | apply bS GE365.out | apply bS GE366.out) | exact HB.out))⟩)
          ·skip
           have hcv58 := own_string (P := Try.prog) Try.underlying28 Try.underlying5 Try.underlying9 (Kd.own_of_R HO375.out)
           refine value_ (w1 := ?_) (v := ?_) (by rfl) rfl ?_ ?_
           rotate_left 2
           ·go_simp
            constructor
            ·rfl
            ·rfl
           clear hcv58
           refine hK.out _ _ ⟨(blk_cell BK365.out 0).trans rfl, (blk_cell BK365.out 1).trans rfl, (blk_cell BK365.out 2).trans rfl, (blk_cell BK365.out 3).trans rfl, (blk_cell BK365.out 4).trans rfl, (blk_cell BK365.out 5).trans rfl, (blk_cell BK366.out 0).trans rfl, (blk_cell BK366.out 1).trans rfl, (blk_cell BK366.out 2).trans rfl, (blk_cell BK366.out 3).trans rfl, (blk_cell BK366.out 4).trans rfl, (blk_cell BK366.out 5).trans rfl⟩ (fun hHeld => ?_)
           clear hK K
           refine norm_ (a' := ?_) ?_ ?_
           rotate_left
           ·show Act.put _ (some 43) _ = _
            simp only [Act.put, List.setIfInBounds_toArray, List.set_cons_zero, List.set_cons_succ, i64_w, i32_w]
            rfl
           refine one_ (i := 2) (N := some 40) #[true, true, true, true, true, true, false, false] rfl rfl (one_of HT_.out (by kernel_rfl)) (by decide) (fun K hK => ?_)
           have hcv59 := own_string (P := Try.prog) Try.underlying28 Try.underlying5 Try.underlying9 (Kd.own_of_R HO372.out)
           refine value_ (w1 := ?_) (v := ?_) (by rfl) rfl ?_ ?_
           rotate_left 2
           ·go_simp
            constructor
            ·rfl
            ·rfl
           clear hcv59
           refine hK.out _ _ ⟨(blk_cell BK365.out 0).trans rfl, (blk_cell BK365.out 1).trans rfl, (blk_cell BK365.out 2).trans rfl, (blk_cell BK365.out 3).trans rfl, (blk_cell BK365.out 4).trans rfl, (blk_cell BK365.out 5).trans rfl, (blk_cell BK366.out 0).trans rfl, (blk_cell BK366.out 1).trans rfl, (blk_cell BK366.out 2).trans rfl, (blk_cell BK366.out 3).trans rfl, (blk_cell BK366.out 4).trans rfl, (blk_cell BK366.out 5).trans rfl⟩ (fun hHeld => ?_)
           clear hK K
           refine norm_ (a' := ?_) ?_ ?_
           rotate_left
           ·show Act.put _ (some 40) _ = _
            simp only [Act.put, List.setIfInBounds_toArray, List.set_cons_zero, List.set_cons_succ, i64_w, i32_w]
            rfl
           refine py 6 5 HT_ ?_
           exact norm_ (by simp only [putAll, Act.put, List.setIfInBounds_toArray, List.set_cons_zero, List.set_cons_succ]) (hCont (v374) _ ⟨hHeld, (by (with_reducible repeat (first | apply Kd.R_alloc | apply Kd.R_drewN | apply Kd.R_drew)); exact Kd.R_mono HO372.out (fun _ hk => hk.2)), (by (with_reducible repeat (first | apply Kd.R_alloc | apply Kd.R_drewN | apply Kd.R_drew)); exact Kd.R_mono HO375.out (fun _ hk => hk.2)), (kb_ BK365), (kb_ BK366), (by repeat (first | (with_reducible first | exact HB.out | apply bU | apply bS GE365.out | apply bS GE366.out) | exact HB.out))⟩)
        rintro v374 w60 ⟨hS_, h0_, h1_, h2_, h3_, h4_⟩
        have HO372 : Aside0 (Kd.R (Kd.int .u8) 5 w60 w.heap.size (fun k_ => some k_ ≠ (v374 : Value).ownBlock) v371 t370) := ⟨h0_⟩
        have HO375 : Aside0 (Kd.R (Kd.int .u8) 5 w60 w.heap.size (fun k_ => some k_ ≠ (v371 : Value).ownBlock) v374 t373) := ⟨h1_⟩
        replace BK365 : Aside0 (w60.heap[gb365]? = some (.cells #[.int .i64 a0_0, .int .i64 a0_1, .int .i64 0, .bool a0_3, .slice A0_4 l0_4.length c0_4, .slice A0_5 l0_5.length c0_5] 25 (0, 0))) := ⟨h2_⟩
        replace BK366 : Aside0 (w60.heap[gb366]? = some (.cells #[.int .i64 a1_0, .int .i64 a1_1, .int .i64 0, .bool a1_3, .slice A1_4 l1_4.length c1_4, .slice A1_5 l1_5.length c1_5] 25 (0, 0))) := ⟨h3_⟩
        replace HB : Aside0 (Below w.heap.size w w60) := ⟨h4_⟩
        clear h0_ h1_ h2_ h3_ h4_
        have hHeld : w60.cell? ⟨gb365, 0, none⟩ = some (.int .i64 a0_0) ∧ w60.cell? ⟨gb365, 1, none⟩ = some (.int .i64 a0_1) ∧ w60.cell? ⟨gb365, 2, none⟩ = some (.int .i64 0) ∧ w60.cell? ⟨gb365, 3, none⟩ = some (.bool a0_3) ∧ w60.cell? ⟨gb365, 4, none⟩ = some (.slice A0_4 l0_4.length c0_4) ∧ w60.cell? ⟨gb365, 5, none⟩ = some (.slice A0_5 l0_5.length c0_5) ∧ w60.cell? ⟨gb366, 0, none⟩ = some (.int .i64 a1_0) ∧ w60.cell? ⟨gb366, 1, none⟩ = some (.int .i64 a1_1) ∧ w60.cell? ⟨gb366, 2, none⟩ = some (.int .i64 0) ∧ w60.cell? ⟨gb366, 3, none⟩ = some (.bool a1_3) ∧ w60.cell? ⟨gb366, 4, none⟩ = some (.slice A1_4 l1_4.length c1_4) ∧ w60.cell? ⟨gb366, 5, none⟩ = some (.slice A1_5 l1_5.length c1_5) := hS_
        refine norm_ (a' := ?_) ?_ ?_
        rotate_left
        ·simp only [putAll, Act.put, List.setIfInBounds_toArray, List.set_cons_zero, List.set_cons_succ]
         rfl
        refine py 7 6 HT_ ?_
        refine done_ (done_of HT_.out (by kernel_rfl)) ?_
        try go_wp2
        go_ret
        exact ⟨by first | rfl | (simp [errW_none, errW_some] <;> rfl) | (simp [*, errW_none, errW_some] <;> rfl), by repeat (first | (with_reducible first | exact HB.out | apply bU | apply bS GE365.out | apply bS GE366.out) | exact HB.out)⟩
    ·rw [if_neg c18] at H
     have c18b0 : (a0_1 == a1_1) = false := beq_eq_false_iff_ne.mpr c18
     have c18b1 : (a0_1 != a1_1) = true := bne_iff_ne.mpr c18
     replace H := Option.bind_eq_some_iff.mp H
     obtain ⟨t369, A610, H⟩ := H
     replace H : (some t369) = some r := H
     have A61 := Aside0.mk A610
     clear A610
     obtain rfl := Option.some.inj H
     have hnb62 := NB365_366.out
     have hnc62 := NB366_365.out
     obtain ⟨hcz63_0, hcz63_1, hcz63_2, hcz63_3, hcz63_4, hcz63_5, hfz63_0, hfz63_1, hfz63_2, hfz63_3, hfz63_4, hfz63_5⟩ := c6_ BK365
     obtain ⟨hcz64_0, hcz64_1, hcz64_2, hcz64_3, hcz64_4, hcz64_5, hfz64_0, hfz64_1, hfz64_2, hfz64_3, hfz64_4, hfz64_5⟩ := c6_ BK366
     go_wp2_with (first | ((with_reducible refine gate_callee (f := 48) rfl ?_); refine goesL_ (some 25) rfl rfl Try.func48 (by kernel_rfl) rfl #[.int .i64 (wrap64 (a0_1 - a1_1))] rfl (by (try simp only [List.map_toArray, List.map_cons, List.map_nil]); first | done | rfl | (simp only [List.length_drop, List.length_take]; rfl)) ?_; (with_reducible refine (waypointref32_sign.calls (wrap64 (a0_1 - a1_1)) t369 _ A61.out).mono ?_); rintro e w' ⟨rfl, ⟨nd, rfl⟩⟩; refine ⟨_, rfl, ?_⟩))
     go_ret
     exact ⟨by first | rfl | (simp [errW_none, errW_some] <;> rfl) | (simp [*, errW_none, errW_some] <;> rfl), by repeat (first | (with_reducible first | exact HB.out | apply bU | apply bS GE365.out | apply bS GE366.out) | exact HB.out)⟩

/-! ### lsa_Same_1: function 49 -/
def lsa_Same_1.f (a0_0 : Int) (a0_1 : Int) (a0_2 : Int) (a1_0 : Int) (a1_1 : Int) (a1_2 : Int) : Option (Bool) := some (a0_0 == a1_0 && (a0_1 == a1_1 && (a0_2 == a1_2)))
set_option maxHeartbeats 8000000 in
set_option maxRecDepth 100000 in
theorem lsa_Same_1.calls (a0_0 : Int) (a0_1 : Int) (a0_2 : Int) (a1_0 : Int) (a1_1 : Int) (a1_2 : Int) (r : Bool) (w : World) (h : lsa_Same_1.f a0_0 a0_1 a0_2 a1_0 a1_1 a1_2 = some r) :
  Calls Try.prog 49 #[.agg #[.int .i64 a0_0, .int .i64 a0_1, .int .i64 a0_2], .agg #[.int .i64 a1_0, .int .i64 a1_1, .int .i64 a1_2]] w fun e w' => e = .returned (.bool r) ∧ Below w.heap.size w w' := by
 have hu43 := Try.underlying43
 have HB := Aside0.mk (Below.refl w.heap.size w)
 have H : (some (a0_0 == a1_0 && (a0_1 == a1_1 && (a0_2 == a1_2)))) = some r := h
 clear h
 obtain rfl := Option.some.inj H
 go_enter Try.func49, Try.ntmps49
 go_wp2_with (first | ((with_reducible refine gate_dst (N := 2) rfl ?_); refine bx_ 2 #[.int .i64 a0_0, .int .i64 a0_1, .int .i64 a0_2] 43 rfl rfl ?hr ?_; (case hr => go_simp; try rfl); intro gb376 hg w3 hbox hb; have BK376 := Aside0.mk (hbox); have GW376 := gs_ HB hg; have GE376 := gs_ HB hg; replace HB := bs_ HB hb; clear hb hbox hg) | ((with_reducible refine gate_dst (N := 3) rfl ?_); refine bx_ 3 #[.int .i64 a1_0, .int .i64 a1_1, .int .i64 a1_2] 43 rfl rfl ?hr ?_; (case hr => go_simp; try rfl); intro gb377 hg w4 hbox hb; have BK377 := Aside0.mk (hbox); have GW377 := Aside0.mk ((by rw [hg]; exact (below_size (by repeat (first | (with_reducible first | exact HB.out | apply bU | apply bS GE376.out) | exact HB.out))) : w.heap.size ≤ gb377)); have GE377 := Aside0.mk ((by rw [hg]; exact (below_size (by repeat (first | (with_reducible first | exact HB.out | apply bU | apply bS GE376.out) | exact HB.out))) : w.heap.size ≤ gb377)); have NB376_377 := nl_ BK376 hg; have NB377_376 := ng_ BK376 hg; replace BK376 := bb_ BK376 hb; replace HB := Aside0.mk (below_step (by repeat (first | (with_reducible first | exact HB.out | apply bU | apply bS GE376.out) | exact HB.out)) hb); clear hb hbox hg; have hnb5 := NB376_377.out; have hnc5 := NB377_376.out; obtain ⟨hcz6_0, hcz6_1, hcz6_2, hfz6_0, hfz6_1, hfz6_2⟩ := c3_ BK376; obtain ⟨hcz7_0, hcz7_1, hcz7_2, hfz7_0, hfz7_1, hfz7_2⟩ := c3_ BK377))
 go_ret
 exact ⟨by first | rfl | (simp [errW_none, errW_some] <;> rfl) | (simp [*, errW_none, errW_some] <;> rfl), by repeat (first | (with_reducible first | exact HB.out | apply bU | apply bS GE376.out | apply bS GE377.out) | exact HB.out)⟩

end Go.Proofs.Ytmknjjfdlkgidaa.HLsc
