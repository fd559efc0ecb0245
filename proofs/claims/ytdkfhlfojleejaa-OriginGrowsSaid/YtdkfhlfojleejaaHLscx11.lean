-- LAID by wip/hand.py, a program of this repository, over the kit's print: contracts of our own are put in. Lean checks it.
import Derived.Test.YtdkfhlfojleejaaHLscx0
import Derived.Test.YtdkfhlfojleejaaHLscx7
namespace Go.Proofs.Ytdkfhlfojleejaa.HLsc
open Go.RowKit Go.Proofs.YtdkfhlfojleejaaW.PrintWords Go.Proofs.YtdkfhlfojleejaaW.PrintLast Go.Proofs.YtdkfhlfojleejaaW.PrintMore
attribute [local go_sem] gtr_str leq_str max2_int min2_int max_two min_two max_three min_three max_four min_four   -- for this text's walks alone
set_option linter.unusedVariables false
set_option linter.unusedSimpArgs false

/-! ### waypointlaw36_few: function 9 -/
def waypointlaw36_few.l0 : Nat → List (S38) → Int → Int → Option (Bool)
 | 0, _, _, _ => none
 | k + 1, x0, x3, x4 => if x4 < (x0.length : Int) then (if 0 ≤ x4 then ((waypointref32_Few.f ((rd_T38 x0 x4).f2.f0) ((rd_T38 x0 x4).f2.f1) ((rd_T38 x0 x4).f2.f2) ((rd_T38 x0 x4).f2.f3) ((rd_T38 x0 x4).f2.f4) ((rd_T38 x0 x4).f2.f5)).bind fun t298 => (if t298 = true then (if ((rd_T38 x0 x4).f1) > 30000 then (some false) else (waypointlaw36_few.l0 k x0 (wrap64 (x3 + (mx 0 ((rd_T38 x0 x4).f1)))) (wrap64 (x4 + 1)))) else (some false))) else (none)) else (if (x0.length : Int) ≤ 15 then (some (decide (x3 ≤ 30000))) else (some false))
def waypointlaw36_few.f (k : Nat) (l0 : List (S38)) : Option (Bool) := waypointlaw36_few.l0 k l0 0 0
theorem waypointlaw36_few.mono_l : ∀ k, (∀ y0 y1 y2, LeO (waypointlaw36_few.l0 k y0 y1 y2) (waypointlaw36_few.l0 (k + 1) y0 y1 y2))
 | 0 => fun _ _ _ r h => by simp [waypointlaw36_few.l0] at h
 | k + 1 => by
  have ih0 := waypointlaw36_few.mono_l k
  ·intro y0 y1 y2
   unfold waypointlaw36_few.l0
   repeat' first
   | (with_reducible exact ih0 _ _ _)
   | (with_reducible exact LeO.refl _)
   | (with_reducible exact LeO.none _)
   | (with_reducible refine LeO.ite ?_ ?_)
   | (with_reducible refine LeO.bind ?_ (fun _ => ?_))
   | exact ih0 _ _ _
   | exact LeO.none _
   | refine LeO.ite ?_ ?_
   | refine LeO.bind ?_ (fun _ => ?_)
theorem waypointlaw36_few.mono : ∀ a0 k, LeO (waypointlaw36_few.f k a0) (waypointlaw36_few.f (k + 1) a0) := by
 intro a0 k
 have ih0 := waypointlaw36_few.mono_l k
 unfold waypointlaw36_few.f
 repeat' first
   | (with_reducible exact ih0 _ _ _)
   | (with_reducible exact LeO.refl _)
   | (with_reducible exact LeO.none _)
   | (with_reducible refine LeO.ite ?_ ?_)
   | (with_reducible refine LeO.bind ?_ (fun _ => ?_))
   | exact ih0 _ _ _
   | exact LeO.none _
   | refine LeO.ite ?_ ?_
   | refine LeO.bind ?_ (fun _ => ?_)
set_option maxHeartbeats 8000000 in
set_option maxRecDepth 100000 in
theorem waypointlaw36_few.calls (k : Nat) (A0 : Option Addr) (c0 : Nat) (l0 : List (S38)) (r : Bool) (w : World) (hr0 : Kd.C k38 w A0 l0.length l0) (hc0 : l0.length ≤ c0) (h : waypointlaw36_few.f k l0 = some r) :
  Calls Try.prog 9 #[.slice A0 l0.length c0] w fun e w' => e = .returned (.bool r) ∧ Below w.heap.size w w' := by
 have hu32 := Try.underlying32
 have HR0 := Aside0.mk hr0
 have HC0 := Aside0.mk hc0
 clear hr0 hc0
 have HB := Aside0.mk (Below.refl w.heap.size w)
 have H : (waypointlaw36_few.l0 k l0 0 0) = some r := h
 clear h
 have H' := Aside0.mk H
 clear H
 go_enter Try.func9, Try.ntmps9
 go_wp2
 go_loopg [3, 4] k (fun kq v3 v4 w' => ∃ (x3_1 : Int) (x4_1 : Int), v3 = .int .i64 x3_1 ∧ v4 = .int .i64 x4_1 ∧ Aside0 (waypointlaw36_few.l0 kq l0 x3_1 x4_1 = some r) ∧ Aside0 (kq ≤ k) ∧ Aside0 (Below w.heap.size w w'))
 case atStart => exact ⟨(0), (0), (by first | rfl | (simp; done) | (simp [*]; done)), (by first | rfl | (simp; done) | (simp [*]; done)), H', ⟨Nat.le_refl _⟩, ⟨kw_ HB⟩⟩
 case round =>
  clear H'
  obtain ⟨x3_1, x4_1, rfl, rfl, HA, HK1, HB⟩ := hrel
  cases gk with
  | zero => exact absurd HA.out (by simp [waypointlaw36_few.l0])
  | succ k1 =>
   have H := HA.out
   clear HA
   simp only [waypointlaw36_few.l0] at H
   by_cases c2 : x4_1 < (l0.length : Int)
   ·rw [if_pos c2] at H
    have c2b0 : decide (x4_1 < (l0.length : Int)) = true := decide_eq_true c2
    clear c2
    by_cases c3 : 0 ≤ x4_1
    ·rw [if_pos c3] at H
     have c3b0 : decide (0 ≤ x4_1) = true := decide_eq_true c3
     clear c3
     replace H := Option.bind_eq_some_iff.mp H
     obtain ⟨t298, A40, H⟩ := H
     replace H : (if t298 = true then (if ((rd_T38 l0 x4_1).f1) > 30000 then (some false) else (waypointlaw36_few.l0 k1 l0 (wrap64 (x3_1 + (mx 0 ((rd_T38 l0 x4_1).f1)))) (wrap64 (x4_1 + 1)))) else (some false)) = some r := H
     have A4 := Aside0.mk A40
     clear A40
     by_cases c5 : t298 = true
     ·subst c5
      have H1 : (if ((rd_T38 l0 x4_1).f1) > 30000 then (some false) else (waypointlaw36_few.l0 k1 l0 (wrap64 (x3_1 + (mx 0 ((rd_T38 l0 x4_1).f1)))) (wrap64 (x4_1 + 1)))) = some r := by rw [if_pos rfl] at H; exact H
      clear H
      have H := H1
      clear H1
      by_cases c6 : ((rd_T38 l0 x4_1).f1) > 30000
      ·rw [if_pos c6] at H
       have c6b0 : decide (30000 < ((rd_T38 l0 x4_1).f1)) = true := decide_eq_true c6
       clear c6
       obtain rfl := Option.some.inj H
       have p297 : 0 ≤ (x4_1 : Int) := of_decide_eq_true (by first | (with_reducible assumption) | assumption)
       have q297 : x4_1 < (l0.length : Int) := of_decide_eq_true (by first | (with_reducible assumption) | assumption)
       obtain ⟨ad297, A297_6, c297_6, A297_7, c297_7, e297, hx297_0, hx297_1, hx297_2, hx297_3, hx297_4, hx297_5, hx297_6, hx297_7, hl297_6, hi297_6, hl297_7, hi297_7⟩ := at_T38 HR0.out x4_1 p297 q297
       cases e297
       replace hx297_0 := (HB.out.cell (World.block_lt_of_cell? w _ hx297_0)).trans hx297_0
       replace hx297_1 := (HB.out.cell (World.block_lt_of_cell? w _ hx297_1)).trans hx297_1
       replace hx297_2 := (HB.out.cell (World.block_lt_of_cell? w _ hx297_2)).trans hx297_2
       replace hx297_3 := (HB.out.cell (World.block_lt_of_cell? w _ hx297_3)).trans hx297_3
       replace hx297_4 := (HB.out.cell (World.block_lt_of_cell? w _ hx297_4)).trans hx297_4
       replace hx297_5 := (HB.out.cell (World.block_lt_of_cell? w _ hx297_5)).trans hx297_5
       replace hx297_6 := (HB.out.cell (World.block_lt_of_cell? w _ hx297_6)).trans hx297_6
       replace hx297_7 := (HB.out.cell (World.block_lt_of_cell? w _ hx297_7)).trans hx297_7
       have HR297_6 := Aside0.mk hi297_6
       have HC297_6 := Aside0.mk hl297_6
       clear hi297_6 hl297_6
       have HR297_7 := Aside0.mk hi297_7
       have HC297_7 := Aside0.mk hl297_7
       clear hi297_7 hl297_7
       replace p297 := eq_true p297
       replace q297 := eq_true q297
       go_wp2_with (first | ((with_reducible refine gate_callee (f := 22) rfl ?_); refine goesL_ (some 16) rfl rfl Try.func22 (by kernel_rfl) rfl #[.agg #[.int .i64 ((rd_T38 l0 x4_1).f2.f0), .int .i64 ((rd_T38 l0 x4_1).f2.f1), .int .i64 ((rd_T38 l0 x4_1).f2.f2), .bool ((rd_T38 l0 x4_1).f2.f3), .slice A297_6 ((rd_T38 l0 x4_1).f2.f4).length c297_6, .slice A297_7 ((rd_T38 l0 x4_1).f2.f5).length c297_7]] rfl (by (try simp only [List.map_toArray, List.map_cons, List.map_nil]); first | done | rfl | (simp only [List.length_drop, List.length_take]; rfl)) ?_; (with_reducible refine (waypointref32_Few.calls ((rd_T38 l0 x4_1).f2.f0) ((rd_T38 l0 x4_1).f2.f1) ((rd_T38 l0 x4_1).f2.f2) ((rd_T38 l0 x4_1).f2.f3) _ _ ((rd_T38 l0 x4_1).f2.f4) _ _ ((rd_T38 l0 x4_1).f2.f5) true _ ?side1 ?side2 ?side3 ?side4 A4.out).mono ?_); (case side1 => exact cs_ HR297_6 HB); (case side2 => exact HC297_6.out); (case side3 => exact cs_ HR297_7 HB); (case side4 => exact HC297_7.out); rintro e w7 ⟨rfl, hb⟩; refine ⟨_, rfl, ?_⟩; replace HB := bs_ HB hb; (try clear hb); (try clear hb2); (try clear hk); (try clear hi); have p299 : 0 ≤ (x4_1 : Int) := of_decide_eq_true (by first | (with_reducible assumption) | assumption); have q299 : x4_1 < (l0.length : Int) := of_decide_eq_true (by first | (with_reducible assumption) | assumption); obtain ⟨ad299, A299_6, c299_6, A299_7, c299_7, e299, hx299_0, hx299_1, hx299_2, hx299_3, hx299_4, hx299_5, hx299_6, hx299_7, hl299_6, hi299_6, hl299_7, hi299_7⟩ := at_T38 HR0.out x4_1 p299 q299; obtain rfl : ad297 = ad299 := (by injection e299); replace hx299_0 := (HB.out.cell (World.block_lt_of_cell? w _ hx299_0)).trans hx299_0; replace hx299_1 := (HB.out.cell (World.block_lt_of_cell? w _ hx299_1)).trans hx299_1; replace hx299_2 := (HB.out.cell (World.block_lt_of_cell? w _ hx299_2)).trans hx299_2; replace hx299_3 := (HB.out.cell (World.block_lt_of_cell? w _ hx299_3)).trans hx299_3; replace hx299_4 := (HB.out.cell (World.block_lt_of_cell? w _ hx299_4)).trans hx299_4; replace hx299_5 := (HB.out.cell (World.block_lt_of_cell? w _ hx299_5)).trans hx299_5; replace hx299_6 := (HB.out.cell (World.block_lt_of_cell? w _ hx299_6)).trans hx299_6; replace hx299_7 := (HB.out.cell (World.block_lt_of_cell? w _ hx299_7)).trans hx299_7; have HR299_6 := Aside0.mk hi299_6; have HC299_6 := Aside0.mk hl299_6; clear hi299_6 hl299_6; have HR299_7 := Aside0.mk hi299_7; have HC299_7 := Aside0.mk hl299_7; clear hi299_7 hl299_7; replace p299 := eq_true p299; replace q299 := eq_true q299))
       go_ret
       exact ⟨by first | rfl | (simp [errW_none, errW_some] <;> rfl) | (simp [*, errW_none, errW_some] <;> rfl), kw_ HB⟩
      ·rw [if_neg c6] at H
       have c6b0 : decide (30000 < ((rd_T38 l0 x4_1).f1)) = false := decide_eq_false c6
       clear c6
       obtain ⟨ji8, hji8⟩ : ∃ j_ : Int, (mx 0 ((rd_T38 l0 x4_1).f1)) = j_ := ⟨_, rfl⟩
       replace H : (waypointlaw36_few.l0 k1 l0 (wrap64 (x3_1 + (ji8))) (wrap64 (x4_1 + 1))) = some r := by first | (rw [hji8] at H; exact H) | (simp only [hji8] at H ⊢; exact H)
       (try rw [hji8] at A4)
       have hji8_ : (if 0 < ((rd_T38 l0 x4_1).f1) then ((rd_T38 l0 x4_1).f1) else 0) = ji8 := hji8
       have H' := Aside0.mk H
       clear H
       have p297 : 0 ≤ (x4_1 : Int) := of_decide_eq_true (by first | (with_reducible assumption) | assumption)
       have q297 : x4_1 < (l0.length : Int) := of_decide_eq_true (by first | (with_reducible assumption) | assumption)
       obtain ⟨ad297, A297_6, c297_6, A297_7, c297_7, e297, hx297_0, hx297_1, hx297_2, hx297_3, hx297_4, hx297_5, hx297_6, hx297_7, hl297_6, hi297_6, hl297_7, hi297_7⟩ := at_T38 HR0.out x4_1 p297 q297
       cases e297
       replace hx297_0 := (HB.out.cell (World.block_lt_of_cell? w _ hx297_0)).trans hx297_0
       replace hx297_1 := (HB.out.cell (World.block_lt_of_cell? w _ hx297_1)).trans hx297_1
       replace hx297_2 := (HB.out.cell (World.block_lt_of_cell? w _ hx297_2)).trans hx297_2
       replace hx297_3 := (HB.out.cell (World.block_lt_of_cell? w _ hx297_3)).trans hx297_3
       replace hx297_4 := (HB.out.cell (World.block_lt_of_cell? w _ hx297_4)).trans hx297_4
       replace hx297_5 := (HB.out.cell (World.block_lt_of_cell? w _ hx297_5)).trans hx297_5
       replace hx297_6 := (HB.out.cell (World.block_lt_of_cell? w _ hx297_6)).trans hx297_6
       replace hx297_7 := (HB.out.cell (World.block_lt_of_cell? w _ hx297_7)).trans hx297_7
       have HR297_6 := Aside0.mk hi297_6
       have HC297_6 := Aside0.mk hl297_6
       clear hi297_6 hl297_6
       have HR297_7 := Aside0.mk hi297_7
       have HC297_7 := Aside0.mk hl297_7
       clear hi297_7 hl297_7
       replace p297 := eq_true p297
       replace q297 := eq_true q297
       go_wp2_with (first | ((with_reducible refine gate_callee (f := 22) rfl ?_); refine goesL_ (some 16) rfl rfl Try.func22 (by kernel_rfl) rfl #[.agg #[.int .i64 ((rd_T38 l0 x4_1).f2.f0), .int .i64 ((rd_T38 l0 x4_1).f2.f1), .int .i64 ((rd_T38 l0 x4_1).f2.f2), .bool ((rd_T38 l0 x4_1).f2.f3), .slice A297_6 ((rd_T38 l0 x4_1).f2.f4).length c297_6, .slice A297_7 ((rd_T38 l0 x4_1).f2.f5).length c297_7]] rfl (by (try simp only [List.map_toArray, List.map_cons, List.map_nil]); first | done | rfl | (simp only [List.length_drop, List.length_take]; rfl)) ?_; (with_reducible refine (waypointref32_Few.calls ((rd_T38 l0 x4_1).f2.f0) ((rd_T38 l0 x4_1).f2.f1) ((rd_T38 l0 x4_1).f2.f2) ((rd_T38 l0 x4_1).f2.f3) _ _ ((rd_T38 l0 x4_1).f2.f4) _ _ ((rd_T38 l0 x4_1).f2.f5) true _ ?side1 ?side2 ?side3 ?side4 A4.out).mono ?_); (case side1 => exact cs_ HR297_6 HB); (case side2 => exact HC297_6.out); (case side3 => exact cs_ HR297_7 HB); (case side4 => exact HC297_7.out); rintro e w9 ⟨rfl, hb⟩; refine ⟨_, rfl, ?_⟩; replace HB := bs_ HB hb; (try clear hb); (try clear hb2); (try clear hk); (try clear hi); have p299 : 0 ≤ (x4_1 : Int) := of_decide_eq_true (by first | (with_reducible assumption) | assumption); have q299 : x4_1 < (l0.length : Int) := of_decide_eq_true (by first | (with_reducible assumption) | assumption); obtain ⟨ad299, A299_6, c299_6, A299_7, c299_7, e299, hx299_0, hx299_1, hx299_2, hx299_3, hx299_4, hx299_5, hx299_6, hx299_7, hl299_6, hi299_6, hl299_7, hi299_7⟩ := at_T38 HR0.out x4_1 p299 q299; obtain rfl : ad297 = ad299 := (by injection e299); replace hx299_0 := (HB.out.cell (World.block_lt_of_cell? w _ hx299_0)).trans hx299_0; replace hx299_1 := (HB.out.cell (World.block_lt_of_cell? w _ hx299_1)).trans hx299_1; replace hx299_2 := (HB.out.cell (World.block_lt_of_cell? w _ hx299_2)).trans hx299_2; replace hx299_3 := (HB.out.cell (World.block_lt_of_cell? w _ hx299_3)).trans hx299_3; replace hx299_4 := (HB.out.cell (World.block_lt_of_cell? w _ hx299_4)).trans hx299_4; replace hx299_5 := (HB.out.cell (World.block_lt_of_cell? w _ hx299_5)).trans hx299_5; replace hx299_6 := (HB.out.cell (World.block_lt_of_cell? w _ hx299_6)).trans hx299_6; replace hx299_7 := (HB.out.cell (World.block_lt_of_cell? w _ hx299_7)).trans hx299_7; have HR299_6 := Aside0.mk hi299_6; have HC299_6 := Aside0.mk hl299_6; clear hi299_6 hl299_6; have HR299_7 := Aside0.mk hi299_7; have HC299_7 := Aside0.mk hl299_7; clear hi299_7 hl299_7; replace p299 := eq_true p299; replace q299 := eq_true q299; have p300 : 0 ≤ (x4_1 : Int) := of_decide_eq_true (by first | (with_reducible assumption) | assumption); have q300 : x4_1 < (l0.length : Int) := of_decide_eq_true (by first | (with_reducible assumption) | assumption); obtain ⟨ad300, A300_6, c300_6, A300_7, c300_7, e300, hx300_0, hx300_1, hx300_2, hx300_3, hx300_4, hx300_5, hx300_6, hx300_7, hl300_6, hi300_6, hl300_7, hi300_7⟩ := at_T38 HR0.out x4_1 p300 q300; obtain rfl : ad297 = ad300 := (by injection e300); replace hx300_0 := (HB.out.cell (World.block_lt_of_cell? w _ hx300_0)).trans hx300_0; replace hx300_1 := (HB.out.cell (World.block_lt_of_cell? w _ hx300_1)).trans hx300_1; replace hx300_2 := (HB.out.cell (World.block_lt_of_cell? w _ hx300_2)).trans hx300_2; replace hx300_3 := (HB.out.cell (World.block_lt_of_cell? w _ hx300_3)).trans hx300_3; replace hx300_4 := (HB.out.cell (World.block_lt_of_cell? w _ hx300_4)).trans hx300_4; replace hx300_5 := (HB.out.cell (World.block_lt_of_cell? w _ hx300_5)).trans hx300_5; replace hx300_6 := (HB.out.cell (World.block_lt_of_cell? w _ hx300_6)).trans hx300_6; replace hx300_7 := (HB.out.cell (World.block_lt_of_cell? w _ hx300_7)).trans hx300_7; have HR300_6 := Aside0.mk hi300_6; have HC300_6 := Aside0.mk hl300_6; clear hi300_6 hl300_6; have HR300_7 := Aside0.mk hi300_7; have HC300_7 := Aside0.mk hl300_7; clear hi300_7 hl300_7; replace p300 := eq_true p300; replace q300 := eq_true q300; have ea_ := Option.some.inj (hx299_6.symm.trans hx300_6); injection ea_ with ea_ en_ ec_; subst ea_; subst ec_; clear en_; have ea_ := Option.some.inj (hx299_7.symm.trans hx300_7); injection ea_ with ea_ en_ ec_; subst ea_; subst ec_; clear en_))
       go_roundg k1
       case measure => have := HK1.out; omega
       case rel => exact ⟨(wrap64 (x3_1 + (ji8))), (wrap64 (x4_1 + 1)), (by first | rfl | (simp; done) | (simp only [← hji8] <;> (first | rfl | simp)) | (simp [*]; done)), (by first | rfl | (simp; done) | (simp [*]; done)), H', ⟨by have := HK1.out; omega⟩, ⟨kw_ HB⟩⟩
     ·replace c5 := Bool.eq_false_iff.mpr c5
      subst c5
      have H1 : (some false) = some r := by rw [if_neg (show ¬ (false = true) by decide)] at H; exact H
      clear H
      have H := H1
      clear H1
      obtain rfl := Option.some.inj H
      have p297 : 0 ≤ (x4_1 : Int) := of_decide_eq_true (by first | (with_reducible assumption) | assumption)
      have q297 : x4_1 < (l0.length : Int) := of_decide_eq_true (by first | (with_reducible assumption) | assumption)
      obtain ⟨ad297, A297_6, c297_6, A297_7, c297_7, e297, hx297_0, hx297_1, hx297_2, hx297_3, hx297_4, hx297_5, hx297_6, hx297_7, hl297_6, hi297_6, hl297_7, hi297_7⟩ := at_T38 HR0.out x4_1 p297 q297
      cases e297
      replace hx297_0 := (HB.out.cell (World.block_lt_of_cell? w _ hx297_0)).trans hx297_0
      replace hx297_1 := (HB.out.cell (World.block_lt_of_cell? w _ hx297_1)).trans hx297_1
      replace hx297_2 := (HB.out.cell (World.block_lt_of_cell? w _ hx297_2)).trans hx297_2
      replace hx297_3 := (HB.out.cell (World.block_lt_of_cell? w _ hx297_3)).trans hx297_3
      replace hx297_4 := (HB.out.cell (World.block_lt_of_cell? w _ hx297_4)).trans hx297_4
      replace hx297_5 := (HB.out.cell (World.block_lt_of_cell? w _ hx297_5)).trans hx297_5
      replace hx297_6 := (HB.out.cell (World.block_lt_of_cell? w _ hx297_6)).trans hx297_6
      replace hx297_7 := (HB.out.cell (World.block_lt_of_cell? w _ hx297_7)).trans hx297_7
      have HR297_6 := Aside0.mk hi297_6
      have HC297_6 := Aside0.mk hl297_6
      clear hi297_6 hl297_6
      have HR297_7 := Aside0.mk hi297_7
      have HC297_7 := Aside0.mk hl297_7
      clear hi297_7 hl297_7
      replace p297 := eq_true p297
      replace q297 := eq_true q297
      go_wp2_with (first | ((with_reducible refine gate_callee (f := 22) rfl ?_); refine goesL_ (some 16) rfl rfl Try.func22 (by kernel_rfl) rfl #[.agg #[.int .i64 ((rd_T38 l0 x4_1).f2.f0), .int .i64 ((rd_T38 l0 x4_1).f2.f1), .int .i64 ((rd_T38 l0 x4_1).f2.f2), .bool ((rd_T38 l0 x4_1).f2.f3), .slice A297_6 ((rd_T38 l0 x4_1).f2.f4).length c297_6, .slice A297_7 ((rd_T38 l0 x4_1).f2.f5).length c297_7]] rfl (by (try simp only [List.map_toArray, List.map_cons, List.map_nil]); first | done | rfl | (simp only [List.length_drop, List.length_take]; rfl)) ?_; (with_reducible refine (waypointref32_Few.calls ((rd_T38 l0 x4_1).f2.f0) ((rd_T38 l0 x4_1).f2.f1) ((rd_T38 l0 x4_1).f2.f2) ((rd_T38 l0 x4_1).f2.f3) _ _ ((rd_T38 l0 x4_1).f2.f4) _ _ ((rd_T38 l0 x4_1).f2.f5) false _ ?side1 ?side2 ?side3 ?side4 A4.out).mono ?_); (case side1 => exact cs_ HR297_6 HB); (case side2 => exact HC297_6.out); (case side3 => exact cs_ HR297_7 HB); (case side4 => exact HC297_7.out); rintro e w10 ⟨rfl, hb⟩; refine ⟨_, rfl, ?_⟩; replace HB := bs_ HB hb; (try clear hb); (try clear hb2); (try clear hk); (try clear hi)))
      go_ret
      exact ⟨by first | rfl | (simp [errW_none, errW_some] <;> rfl) | (simp [*, errW_none, errW_some] <;> rfl), kw_ HB⟩
    ·rw [if_neg c3] at H
     exact absurd H (by simp)
   ·rw [if_neg c2] at H
    have c2b0 : decide (x4_1 < (l0.length : Int)) = false := decide_eq_false c2
    clear c2
    by_cases c11 : (l0.length : Int) ≤ 15
    ·rw [if_pos c11] at H
     have c11b0 : decide ((l0.length : Int) ≤ 15) = true := decide_eq_true c11
     have c11b1 : decide (l0.length ≤ 15) = true := decide_eq_true (by omega)
     clear c11
     obtain rfl := Option.some.inj H
     go_wp2
     go_ret
     exact ⟨by first | rfl | (simp [errW_none, errW_some] <;> rfl) | (simp [*, errW_none, errW_some] <;> rfl), kw_ HB⟩
    ·rw [if_neg c11] at H
     have c11b0 : decide ((l0.length : Int) ≤ 15) = false := decide_eq_false c11
     have c11b1 : decide (l0.length ≤ 15) = false := decide_eq_false (by omega)
     clear c11
     obtain rfl := Option.some.inj H
     go_wp2
     go_ret
     exact ⟨by first | rfl | (simp [errW_none, errW_some] <;> rfl) | (simp [*, errW_none, errW_some] <;> rfl), kw_ HB⟩

/-! ### waypointlaw36_OriginGrows: function 4 lies in a text of its own -/

end Go.Proofs.Ytdkfhlfojleejaa.HLsc
